/- Plain laws: places that are split in two; what grows. -/
import Derived.Test.YtngdehlpoomaiaaGreatVa
import Derived.Test.YtngdehlpoomaiaaGreatUb
noncomputable section
set_option linter.unusedSectionVars false
set_option linter.unusedVariables false
set_option linter.unusedSimpArgs false
namespace Go.Proofs.YtngdehlpoomaiaaGreat
open Go Go.Ev Go.Proofs
def Kz (t:T3):List P3:= [t.1,t.2.1,t.2.2]
def oA (L:List T3) (pl:List Int):List P3:=pl.flatMap fun i=>Kz (L.getD i.toNat zT)
def Mm (L:List T3) (pl:List Int):Prop:= ∀i∈pl,0<=i/\ i<(L.length:Int)
def yA (L:List T3):Prop:= ∀t∈L,∀p∈Kz t,fM p
theorem RK (L:List T3) (pl:List Int) (i:Int):oA L (pl++ [i])=oA L pl++Kz (L.getD i.toNat zT):=by simp [oA]
theorem wo (L:List T3): ∀(pl:List Int),(oA L pl).length=3*pl.length
 | []=>rfl
 |i::r=>by
  have:=wo L r
  simp only [oA,List.flatMap_cons,List.length_append,Kz,List.length_cons,List.length_nil] at this ⊢
  omega
theorem FT {L:List T3} (hs:yA L) {pl:List Int} (hi:Mm L pl): ∀p∈oA L pl,fM p:=fun p hp=>by
 obtain ⟨i,h1,h2⟩:=List.mem_flatMap.1 hp
 have:=hi i h1
 exact hs _ (jr (by omega) zT) p h2
theorem XT (L:List T3) (pl:List Int) (hi:Mm L pl) (hl:pl.length<=1000000):TR (iR (L,pl)) (oQ (L,pl)) ([],0) fun r=>r=oA L pl:=by
 refine eS pl.length (fun i s=>s=(oA L (pl.take i),(i:Int))) _ (fun i s h hj=> ?_) (fun s hj=> ?_) rfl
 ·subst hj
  have hin:=hi _ (jr h 0)
  have hlt:(pl.getD i 0).toNat<L.length:=by omega
  have hlen:=wo L (pl.take i)
  rw [List.length_take] at hlen
  refine ⟨?_,.inl ⟨_,?_,rfl⟩⟩
  ·unfold oQ
   intro _
   dsimp only
   rw [Int.toNat_natCast]
   exact ⟨by omega,h,h,hin,hlt,hlt,by omega⟩
  ·unfold iR
   dsimp only
   rw [if_pos (by omega),Int.toNat_natCast,UP h (by omega),fI h 0,RK];rfl
 ·subst hj
  refine ⟨?_,_,?_,rfl⟩
  ·unfold oQ
   intro q
   dsimp only at q;omega
  ·unfold iR
   dsimp only
   rw [if_neg (by omega),List.take_length]
theorem Es {L:List T3} {pl:List Int} (hi:Mm L pl) (hl:pl.length<=1000000):qB (L,pl)/\ fO (L,pl)=(uU (oA L pl)).1:=by
 have k:=XT L pl hi hl
 have hlen:=wo L pl
 have s:=Ga (oA L pl) (by omega)
 unfold qB fO aB aj
 rw [k.2]
 exact ⟨⟨k.1,s.1⟩,rfl⟩
theorem SK {L:List T3} (hs:yA L) {pl:List Int} (hi:Mm L pl) (hl:pl.length<=1000000) (h0:pl≠ []):Mz (oA L pl) (fO (L,pl)):=by
 have hlen:=wo L pl
 rw [(Es hi hl).2]
 have hne:oA L pl≠ []:=fun e=>by
  have h1:=congrArg List.length e
  have h2:=List.length_pos_iff.2 h0
  rw [hlen] at h1
  simp only [List.length_nil] at h1
  omega
 rcases (Ga (oA L pl) (by omega)).2 with ⟨e,_⟩|⟨_,e,_⟩|⟨_,_,e,_⟩
 ·exact absurd e hne
 ·exact absurd (FT hs hi) e
 ·exact e
theorem N4 (b:B3):mo b/\ 0<=(m9 b).1/\ (m9 b).1<3:=by
 have key:TR (gq b) (ku b) (b.1.1,b.1.2.1,b.1.2.2,b.2.1,b.2.2.1,b.2.2.2,0,0) fun r=>0<=r/\ r<3:=by
  refine eS 3 (fun k s=> ∃m:Int,s=(b.1.1,b.1.2.1,b.1.2.2,b.2.1,b.2.2.1,b.2.2.2,m,(k:Int))/\ 0<=m/\ m<3) _ (fun k s hk hj=> ?_) (fun s hj=> ?_) ⟨0,rfl,by decide,by decide⟩
  ·obtain ⟨m,rfl,h1,h2⟩:=hj
   have hc:au ((k:Int)+1)=((k+1:Nat):Int):=by rw [aC (by omega) (by omega)];omega
   refine ⟨?_,.inl ?_⟩
   ·unfold ku
    intro _
    dsimp only
    omega
   ·unfold gq
    dsimp only
    rw [if_pos (by omega),hc]
    split
    ·exact ⟨_,rfl,(k:Int),rfl,by omega,by omega⟩
    ·exact ⟨_,rfl,m,rfl,h1,h2⟩
  ·obtain ⟨m,rfl,h1,h2⟩:=hj
   refine ⟨?_,m,?_,h1,h2⟩
   ·unfold ku
    intro q
    dsimp only at q;omega
   ·unfold gq
    dsimp only
    rw [if_neg (by omega)]
 obtain ⟨s1,s2⟩:=ya b
 unfold mo m9 aB aj parts
 dsimp only
 cases qm b with
 |false=>exact ⟨⟨s1,fun q=>absurd (by decide) q⟩,(show (0:Int)<=0 by decide),(show (0:Int)<3 by decide)⟩
 |true=>
  rw [if_neg (by decide)]
  exact ⟨⟨s1,fun _=>key.1⟩,key.2.1,key.2.2⟩
theorem MP (x:List Int) (h:x.length<1099511627776):kV x:=by
 unfold kV
 intro b hb
 cases b with
 |false=>exact ⟨rfl,fun _=>by omega⟩
 |true=>
  cases x with
  |nil=>exact ⟨rfl,fun q=>absurd rfl q⟩
  |cons a r=>exact absurd (hb (by simp)) (by decide)
def axs (L:List T3) (pl:List Int):Int:=(m9 (fO (L,pl))).1
def Ib (L:List T3) (pl:List Int):List Int:=srt (L,axs L pl) pl
theorem R5 {L:List T3} {pl:List Int} (hi:Mm L pl) (hm:pl.length<=12):
  jG (L,pl)/\ sI (L,pl)=((Ib L pl).take (pl.length / 2),(Ib L pl).drop (pl.length / 2)):=by
 have hl:pl.length<=1000000:=by omega
 obtain ⟨b1,_⟩:=Es hi hl
 obtain ⟨g1,g2,g3⟩:=N4 (fO (L,pl))
 have hf:A3 (L,axs L pl) pl:=⟨by omega,fun e he=>hi e he,g2,g3⟩
 obtain ⟨s1,s2⟩:=aaD hf hm
 have IX:=(Pu (L,axs L pl) pl).length_eq
 have e1:au (Int.tdiv ((pl.length:Nat):Int) 2)=((pl.length / 2:Nat):Int):=by
  rw [Int.tdiv_eq_ediv_of_nonneg (by omega),aC (by omega) (by omega)];omega
 have Nu: ∀x,tw x=x:=fun _=>rfl
 unfold jG sI aB aj
 simp only [Nu]
 have s2':(Gc (pl,L,(m9 (fO (L,pl))).1)).2.1=Ib L pl:=s2
 have hlen:(Ib L pl).length=pl.length:=IX
 rw [s2',hlen,e1,Int.toNat_natCast]
 refine ⟨⟨b1,g1,MP pl (by omega),s1,⟨by omega,by omega⟩,⟨by omega,by omega⟩,by omega,by omega⟩,rfl⟩
theorem WO (L:List T3) (pl:List Int):(Ib L pl).Perm pl:=Pu _ _
end Go.Proofs.YtngdehlpoomaiaaGreat
namespace Go.Proofs.YtngdehlpoomaiaaGreat
open Go Go.Ev Go.Proofs
abbrev zB:vy:=((z3,z3),0,0,[])
inductive jZ (L:List T3):Nat->Int->List Int->List vy->List (List Int)->List Int->Prop
 |leaf (s:Nat) (par:Int) (pl:List Int):pl.length<=2->jZ L s par pl [(fO (L,pl),0,0,pl)] [pl] [par]
 | fork (s:Nat) (par:Int) (pl a b:List Int) (A B:List vy) (NA NB:List (List Int)) (UA UB:List Int):2<pl.length->(a++b).Perm pl->a.length=pl.length / 2->b.length=pl.length- pl.length / 2->a++b=Ib L pl->
   jZ L (s+1) s a A NA UA->jZ L (s+1+A.length) s b B NB UB->
   jZ L s par pl ((fO (L,pl),((s+1:Nat):Int),((s+1+A.length:Nat):Int),[])::(A++B)) (pl::(NA++NB)) (par::(UA++UB))
theorem gdA {α:Type} {x:α} {A B:List α} {k:Nat} (h:k<A.length) (d:α):(x::(A++B)).getD (1+k) d=A.getD k d:=by
 rw [Nat.add_comm,List.getD_eq_getElem?_getD,List.getElem?_cons_succ,List.getElem?_append_left h,List.getD_eq_getElem?_getD]
theorem gdB {α:Type} {x:α} {A B:List α} (k n:Nat) (hn:A.length=n) (d:α):(x::(A++B)).getD (1+n+k) d=B.getD k d:=by
 subst hn
 rw [show 1+A.length+k=(A.length+k)+1 by omega,List.getD_eq_getElem?_getD,List.getElem?_cons_succ,List.getElem?_append_right (by omega),Nat.add_sub_cancel_left,List.getD_eq_getElem?_getD]
def Tf (b:vy):Bool:=b.2.1==0
structure Ie (L:List T3) (s:Nat) (par:Int) (pl:List Int) (G:List vy) (N:List (List Int)) (U:List Int):Prop where
 n1:N.length=G.length
 u1:U.length=G.length
 pos:0<G.length
 n0:N.getD 0 []=pl
 u0:U.getD 0 0=par
 box: ∀k,k<G.length->(G.getD k zB).1=fO (L,N.getD k [])
 sub: ∀k,k<G.length-> ∀i∈N.getD k [],i∈pl
 ne:pl≠ []-> ∀k,k<G.length->N.getD k []≠ []
 up: ∀k,0<k->k<G.length-> ∃j,j<k/\ U.getD k 0=((s+j:Nat):Int)/\ (∀i∈N.getD k [],i∈N.getD j [])/\ ((G.getD j zB).2.1=((s+k:Nat):Int)\/ (G.getD j zB).2.2.1=((s+k:Nat):Int))
 kind: ∀k,k<G.length->((G.getD k zB).2.1=0/\ (G.getD k zB).2.2.1=0/\ (G.getD k zB).2.2.2=N.getD k []/\ (N.getD k []).length<=2)\/
  (∃r,(G.getD k zB).2.1=((s+(k+1):Nat):Int)/\ (G.getD k zB).2.2.1=((s+r:Nat):Int)/\ k+1<r/\ r<G.length/\ (G.getD k zB).2.2.2= []/\ U.getD (k+1) 0=((s+k:Nat):Int)/\ U.getD r 0=((s+k:Nat):Int)/\ (N.getD (k+1) []++N.getD r []).Perm (N.getD k [])/\ 2<(N.getD k []).length/\ (N.getD (k+1) []).length<=((N.getD k []).length+1) / 2/\ (N.getD r []).length<=((N.getD k []).length+1) / 2)
 ad4:(G.flatMap fun b=>b.2.2.2).Perm pl
 many:G.countP Tf=G.countP (fun b=> !Tf b)+1
theorem jZ.facts {L:List T3} {s:Nat} {par:Int} {pl:List Int} {G:List vy} {N:List (List Int)} {U:List Int} (h:jZ L s par pl G N U):Ie L s par pl G N U:=by
 induction h with
 |leaf s par pl hl=>
  have h0: ∀k,k<1->k=0:=fun k hk=>by omega
  refine ⟨rfl,rfl,Nat.one_pos,rfl,rfl,fun k hk=> ?_,fun k hk i hi=> ?_,fun hp k hk=> ?_,fun k h1 h2=> ?_,fun k hk=> ?_,by simp,rfl⟩
  ·rw [h0 k hk];rfl
  ·rw [h0 k hk] at hi;exact hi
  ·rw [h0 k hk];exact hp
  ·have:=h0 k h2;omega
  ·rw [h0 k hk];exact .inl ⟨rfl,rfl,rfl,hl⟩
 |fork s par pl a b A B NA NB UA UB h2 hp ha hb he hA hB Mv Mw=>
  have hlen:((fO (L,pl),((s+1:Nat):Int),((s+1+A.length:Nat):Int),[])::(A++B)).length=1+A.length+B.length:=by simp;omega
  have hpa:=Mv.pos
  have hpb:=Mw.pos
  have hna:=Mv.n1
  have hnb:=Mw.n1
  have hua:=Mv.u1
  have hub:=Mw.u1
  have gA: ∀k,k<A.length->((fO (L,pl),((s+1:Nat):Int),((s+1+A.length:Nat):Int),[])::(A++B)).getD (1+k) zB=A.getD k zB:=fun k hk=>gdA hk zB
  have gB: ∀k,((fO (L,pl),((s+1:Nat):Int),((s+1+A.length:Nat):Int),[])::(A++B)).getD (1+A.length+k) zB=B.getD k zB:=fun k=>gdB k _ rfl zB
  have nA: ∀k,k<A.length->(pl::(NA++NB)).getD (1+k) []=NA.getD k []:=fun k hk=>gdA (by omega) []
  have nB: ∀k,(pl::(NA++NB)).getD (1+A.length+k) []=NB.getD k []:=fun k=>gdB k _ hna []
  have uA: ∀k,k<A.length->(par::(UA++UB)).getD (1+k) 0=UA.getD k 0:=fun k hk=>gdA (by omega) 0
  have uB: ∀k,(par::(UA++UB)).getD (1+A.length+k) 0=UB.getD k 0:=fun k=>gdB k _ hua 0
  have g0:((fO (L,pl),((s+1:Nat):Int),((s+1+A.length:Nat):Int),[])::(A++B)).getD 0 zB=(fO (L,pl),((s+1:Nat):Int),((s+1+A.length:Nat):Int),[]):=rfl
  have n0:(pl::(NA++NB)).getD 0 []=pl:=rfl
  generalize hG:((fO (L,pl),((s+1:Nat):Int),((s+1+A.length:Nat):Int),[])::(A++B))=G at*
  generalize hN:(pl::(NA++NB))=N at*
  generalize hU:(par::(UA++UB))=U at*
  have tW: ∀k,k<G.length->k=0\/ (∃q,k=1+q/\ q<A.length)\/ ∃q,k=1+A.length+q/\ q<B.length:=fun k hk=>by
   rcases Nat.eq_zero_or_pos k with e|e
   ·exact .inl e
   ·rcases Nat.lt_or_ge (k- 1) A.length with e2|e2
    ·exact .inr (.inl ⟨k- 1,by omega,e2⟩)
    ·exact .inr (.inr ⟨k- 1- A.length,by omega,by omega⟩)
  have hia: ∀i∈a,i∈pl:=fun i hi=>hp.mem_iff.1 (List.mem_append.2 (.inl hi))
  have hib: ∀i∈b,i∈pl:=fun i hi=>hp.mem_iff.1 (List.mem_append.2 (.inr hi))
  refine ⟨by rw [<- hN,<- hG];simp [hna,hnb],by rw [<- hU,<- hG];simp [hua,hub],by omega,n0,by rw [<- hU];rfl,fun k hk=> ?_,fun k hk i hi=> ?_,fun hne k hk=> ?_,fun k h1 hk=> ?_,fun k hk=> ?_,?_,?_⟩
  ·rcases tW k hk with rfl|⟨q,rfl,hq⟩|⟨q,rfl,hq⟩
   ·rw [g0,n0]
   ·rw [gA q hq,nA q hq];exact Mv.box q hq
   ·rw [gB,nB];exact Mw.box q hq
  ·rcases tW k hk with rfl|⟨q,rfl,hq⟩|⟨q,rfl,hq⟩
   ·rw [n0] at hi;exact hi
   ·rw [nA q hq] at hi;exact hia i (Mv.sub q hq i hi)
   ·rw [nB] at hi;exact hib i (Mw.sub q hq i hi)
  ·rcases tW k hk with rfl|⟨q,rfl,hq⟩|⟨q,rfl,hq⟩
   ·rw [n0];exact hne
   ·rw [nA q hq]
    exact Mv.ne (fun e=>by rw [e] at ha;simp at ha;omega) q hq
   ·rw [nB]
    exact Mw.ne (fun e=>by rw [e] at hb;simp at hb;omega) q hq
  ·rcases tW k hk with rfl|⟨q,rfl,hq⟩|⟨q,rfl,hq⟩
   ·omega
   ·rcases Nat.eq_zero_or_pos q with rfl|VA
    ·refine ⟨0,by omega,?_,fun i hi=> ?_,.inl ?_⟩
     ·rw [uA 0 hq,Mv.u0];rfl
     ·rw [nA 0 hq,Mv.n0] at hi;rw [n0];exact hia i hi
     ·rw [g0]
    ·obtain ⟨j,j1,j2,j3,j4⟩:=Mv.up q VA hq
     refine ⟨1+j,by omega,?_,fun i hi=> ?_,?_⟩
     ·rw [uA q hq,j2];omega
     ·rw [nA q hq] at hi;rw [nA j (by omega)];exact j3 i hi
     ·rw [gA j (by omega)]
      exact j4.imp (fun e=>by rw [e];omega) fun e=>by rw [e];omega
   ·rcases Nat.eq_zero_or_pos q with rfl|VA
    ·refine ⟨0,by omega,?_,fun i hi=> ?_,.inr ?_⟩
     ·rw [uB,Mw.u0];rfl
     ·rw [nB,Mw.n0] at hi;rw [n0];exact hib i hi
     ·rw [g0];dsimp only;omega
    ·obtain ⟨j,j1,j2,j3,j4⟩:=Mw.up q VA hq
     refine ⟨1+A.length+j,by omega,?_,fun i hi=> ?_,?_⟩
     ·rw [uB,j2];omega
     ·rw [nB] at hi;rw [nB];exact j3 i hi
     ·rw [gB]
      exact j4.imp (fun e=>by rw [e];omega) fun e=>by rw [e];omega
  ·rcases tW k hk with rfl|⟨q,rfl,hq⟩|⟨q,rfl,hq⟩
   ·refine .inr ⟨1+A.length,?_,?_,by omega,by omega,by rw [g0],?_,?_,?_⟩
    ·rw [g0]
    ·rw [g0];dsimp only;omega
    ·have:=uA 0 hpa
     rw [Mv.u0] at this
     exact this
    ·have:=uB 0
     rw [Mw.u0,Nat.add_zero] at this
     exact this
    ·have e1:=nA 0 hpa
     have e2:=nB 0
     rw [Mv.n0,Nat.add_zero] at e1
     rw [Mw.n0,Nat.add_zero] at e2
     rw [show 0+1=1 from rfl,e1,e2,n0];exact ⟨hp,h2,by omega,by omega⟩
   ·rcases Mv.kind q hq with ⟨k1,k2,k3,k4⟩|⟨r,k1,k2,k3,k4,k5,k6,k7,k8⟩
    ·refine .inl ?_
     rw [gA q hq,nA q hq]
     exact ⟨k1,k2,k3,k4⟩
    ·refine .inr ⟨1+r,?_,?_,by omega,by omega,?_,?_,?_,?_⟩
     ·rw [gA q hq,k1];omega
     ·rw [gA q hq,k2];omega
     ·rw [gA q hq];exact k5
     ·rw [show 1+q+1=1+(q+1) by omega,uA (q+1) (by omega),k6];omega
     ·rw [uA r k4,k7];omega
     ·rw [show 1+q+1=1+(q+1) by omega,nA (q+1) (by omega),nA r k4,nA q hq];exact k8
   ·rcases Mw.kind q hq with ⟨k1,k2,k3,k4⟩|⟨r,k1,k2,k3,k4,k5,k6,k7,k8⟩
    ·refine .inl ?_
     rw [gB,nB]
     exact ⟨k1,k2,k3,k4⟩
    ·refine .inr ⟨1+A.length+r,?_,?_,by omega,by omega,?_,?_,?_,?_⟩
     ·rw [gB,k1];omega
     ·rw [gB,k2];omega
     ·rw [gB];exact k5
     ·rw [show 1+A.length+q+1=1+A.length+(q+1) by omega,uB,k6];omega
     ·rw [uB,k7];omega
     ·rw [show 1+A.length+q+1=1+A.length+(q+1) by omega,nB,nB,nB];exact k8
  ·rw [←hG]
   simp only [List.flatMap_cons,List.flatMap_append,List.nil_append]
   exact (Mv.ad4.append Mw.ad4).trans hp
  ·rw [←hG]
   have m1:=Mv.many
   have m2:=Mw.many
   have hlf:Tf (fO (L,pl),((s+1:Nat):Int),((s+1+A.length:Nat):Int),([]:List Int))=false:=by
    unfold Tf
    dsimp only
    simp
    omega
   rw [List.countP_cons_of_neg (by rw [hlf];decide),List.countP_cons_of_pos (by rw [hlf];rfl),List.countP_append,List.countP_append]
   omega
end Go.Proofs.YtngdehlpoomaiaaGreat
namespace Go.Proofs.YtngdehlpoomaiaaGreat
open Go Go.Ev Go.Proofs
theorem aau {α:Type} (l:List α) (x y:α):(l++ [x]).set l.length y=l++ [y]:=by simp
theorem L8 {α:Type} (l r:List α) (x y:α):(l++(x::r)).set l.length y=l++(y::r):=by simp
theorem Lk {α:Type} (l r:List α) (x d:α):(l++(x::r)).getD l.length d=x:=by simp
theorem adE (pl:List Int) (x:vy): [x].length+1<=2*pl.length\/ (pl.length=0/\ [x].length=1):=by
 rcases Nat.eq_zero_or_pos pl.length with e|e
 ·exact .inr ⟨e,rfl⟩
 ·left;simp;omega
def Grown (L:List T3) (pl:List Int) (l r:List vy):Prop:= ∃G N U,r=l++G/\ (G.length+1<=2*pl.length\/ (pl.length=0/\ G.length=1))/\ ∀par,∃U',U'.tail=U/\ jZ L l.length par pl G N U'
def D7 (n:Nat):Prop:= ∀L pl l,Mm L pl->pl.length<n->pl.length<=12->l.length+3*pl.length<=100000-> @qK (wX n) (pl,L,l)/\ Grown L pl l (@E0 (wX n) (pl,L,l))
theorem grow_step {n:Nat} (ih:D7 n):D7 (n+1):=by
 intro L pl l hi hn hl hb
 obtain ⟨b1,_⟩:=Es hi (by omega)
 obtain ⟨s1,s2⟩:=R5 hi (by omega)
 show @vT (wX n) (pl,L,l)/\ Grown L pl l (@S1 (wX n) (pl,L,l))
 unfold vT S1 aB aj
 dsimp only
 by_cases h2:((pl.length:Nat):Int)<=2
 ·rw [if_pos h2]
  have hlen:(l++ [(fO (L,pl),(0:Int),(0:Int),([]:List Int))]).length=l.length+1:=by simp
  refine ⟨⟨b1,by omega,fun _=>⟨MP pl (by omega),by rw [hlen];omega,by rw [hlen];omega,by rw [hlen];omega,by rw [hlen];omega⟩,fun q=>absurd h2 q⟩,?_⟩
  refine ⟨[(fO (L,pl),0,0,pl)],[pl],[],?_,adE pl _,fun par=>⟨[par],rfl,.leaf _ par pl (by omega)⟩⟩
  have Nu: ∀x,tw x=x:=fun _=>rfl
  rw [Nu,aau,Lk l [] _ _]
 ·rw [if_neg h2,s2]
  dsimp only
  have w7:2<pl.length:=by omega
  have IX:=WO L pl
  have Mu:=IX.length_eq
  have hta:((Ib L pl).take (pl.length / 2)).length=pl.length / 2:=by rw [List.length_take];omega
  have htb:((Ib L pl).drop (pl.length / 2)).length=pl.length- pl.length / 2:=by rw [List.length_drop];omega
  have hia:Mm L ((Ib L pl).take (pl.length / 2)):=fun i h=>hi i (IX.mem_iff.1 (List.mem_of_mem_take h))
  have hib:Mm L ((Ib L pl).drop (pl.length / 2)):=fun i h=>hi i (IX.mem_iff.1 (List.mem_of_mem_drop h))
  have hlen:(l++ [(fO (L,pl),(0:Int),(0:Int),([]:List Int))]).length=l.length+1:=by simp
  obtain ⟨p1,G1,N1,U1,e1,g1,t1⟩:=ih L _ (l++ [(fO (L,pl),(0:Int),(0:Int),([]:List Int))]) hia (by omega) (by omega) (by rw [hlen];omega)
  have IV:(l++ [(fO (L,pl),(0:Int),(0:Int),([]:List Int))]++G1).length=l.length+1+G1.length:=by rw [List.length_append,hlen]
  obtain ⟨p2,G2,N2,U2,e2,g2,t2⟩:=ih L _ (l++ [(fO (L,pl),(0:Int),(0:Int),([]:List Int))]++G1) hib (by omega) (by omega) (by rw [IV];omega)
  have e3:l++ [(fO (L,pl),(0:Int),(0:Int),([]:List Int))]++G1++G2=l++((fO (L,pl),(0:Int),(0:Int),([]:List Int))::(G1++G2)):=by simp
  rw [e1,e2,e3,IV]
  have hw:au (((l.length:Nat):Int)+1)=((l.length+1:Nat):Int):=by rw [aC (by omega) (by omega)];omega
  have S5:(l++((fO (L,pl),(0:Int),(0:Int),([]:List Int))::(G1++G2))).length=l.length+(1+G1.length+G2.length):=by simp;omega
  have S6: ∀y:vy,(l++(y::(G1++G2))).length=l.length+(1+G1.length+G2.length):=fun y=>by simp;omega
  rw [hw,Lk,L8,Lk,L8]
  dsimp only
  refine ⟨⟨b1,by omega,fun q=>absurd q h2,fun _=>⟨s1,p1,p2,by rw [S5];omega,by rw [S5];omega,by rw [S5];omega,by rw [S5];omega,by rw [S6];omega,by rw [S6];omega,by rw [S6];omega,by rw [S6];omega⟩⟩,?_⟩
  rw [hlen] at t1
  rw [IV] at t2
  obtain ⟨UA,_,tA⟩:=t1 ((l.length:Nat):Int)
  obtain ⟨UB,_,tB⟩:=t2 ((l.length:Nat):Int)
  refine ⟨(fO (L,pl),((l.length+1:Nat):Int),((l.length+1+G1.length:Nat):Int),[])::(G1++G2),pl::(N1++N2),UA++UB,rfl,?_,fun par=>⟨par::(UA++UB),rfl,?_⟩⟩
  ·simp only [List.length_cons,List.length_append]
   omega
  ·exact .fork _ par pl _ _ G1 G2 N1 N2 UA UB w7 (by rw [List.take_append_drop];exact IX) hta htb (List.take_append_drop _ _) tA tB
theorem Nq: ∀n,D7 n
 |0=>fun L pl l _ hn=>absurd hn (Nat.not_lt_zero _)
 |n+1=>grow_step (Nq n)
theorem Vq {L:List T3} {pl:List Int} (l:List vy) (hi:Mm L pl) (hl:pl.length<=12) (hb:l.length<=1000):Bl (pl,L,l)/\ ∃G N U,YL (pl,L,l)=l++G/\ (G.length+1<=2*pl.length\/ (pl.length=0/\ G.length=1))/\ jZ L l.length (-1) pl G N U:=by
 obtain ⟨h1,G,N,U,h2,h3,h4⟩:=Nq (pl.length+1) L pl l hi (by omega) hl (by omega)
 obtain ⟨U',_,h5⟩:=h4 (-1)
 exact ⟨h1,G,N,U',h2,h3,h5⟩
end Go.Proofs.YtngdehlpoomaiaaGreat
