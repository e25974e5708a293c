/- Plain laws: places that are split in two; what grows. -/
import Derived.Test.YtngdehlpoomaiaaGreatVa
import Derived.Test.YtngdehlpoomaiaaGreatUb
noncomputable section
set_option linter.unusedSectionVars false
set_option linter.unusedVariables false
set_option linter.unusedSimpArgs false
namespace Go.Proofs.YtngdehlpoomaiaaGreat
open Go Go.Ev Go.Proofs
def Js (t:T3):List P3:= [t.1,t.2.1,t.2.2]
def qM (L:List T3) (pl:List Int):List P3:=pl.flatMap fun i=>Js (L.getD i.toNat zT)
def Uz (L:List T3) (pl:List Int):Prop:= ∀i∈pl,0<=i/\ i<(L.length:Int)
def tF (L:List T3):Prop:= ∀t∈L,∀p∈Js t,dB p
theorem aae (L:List T3) (pl:List Int) (i:Int):qM L (pl++ [i])=qM L pl++Js (L.getD i.toNat zT):=by simp [qM]
theorem Al (L:List T3): ∀(pl:List Int),(qM L pl).length=3*pl.length
 | []=>rfl
 |i::r=>by
  have:=Al L r
  simp only [qM,List.flatMap_cons,List.length_append,Js,List.length_cons,List.length_nil] at this ⊢
  omega
theorem Mc {L:List T3} (hs:tF L) {pl:List Int} (hi:Uz L pl): ∀p∈qM L pl,dB p:=fun p hp=>by
 obtain ⟨i,h1,h2⟩:=List.mem_flatMap.1 hp
 have:=hi i h1
 exact hs _ (dW (by omega) zT) p h2
theorem ag6 (L:List T3) (pl:List Int) (hi:Uz L pl) (hl:pl.length<=1000000):TR (jM (L,pl)) (rF (L,pl)) ([],0) fun r=>r=qM L pl:=by
 refine cu pl.length (fun i s=>s=(qM L (pl.take i),(i:Int))) _ (fun i s h hj=> ?_) (fun s hj=> ?_) rfl
 ·subst hj
  have hin:=hi _ (dW h 0)
  have hlt:(pl.getD i 0).toNat<L.length:=by omega
  have hlen:=Al L (pl.take i)
  rw [List.length_take] at hlen
  refine ⟨?_,.inl ⟨_,?_,rfl⟩⟩
  ·dsimp only [rF,kW,Tr.val,Tr.pre];(try dsimp only [az,ak])
   intro _
   try dsimp only
   rw [Int.toNat_natCast]
   exact ⟨by omega,h,h,hin,hlt,hlt,by omega⟩
  ·dsimp only [jM,kW,Tr.val,Tr.pre];(try dsimp only [az,ak])
   rw [if_pos (by omega),Int.toNat_natCast,adQ h (by omega),bZ h 0,aae];rfl
 ·subst hj
  refine ⟨?_,_,?_,rfl⟩
  ·dsimp only [rF,kW,Tr.val,Tr.pre];(try dsimp only [az,ak])
   intro q
   (try dsimp only at q);omega
  ·dsimp only [jM,kW,Tr.val,Tr.pre];(try dsimp only [az,ak])
   rw [if_neg (by omega),List.take_length]
theorem KI {L:List T3} {pl:List Int} (hi:Uz L pl) (hl:pl.length<=1000000):tJ (L,pl)/\ gH (L,pl)=(yM (qM L pl)).1:=by
 have k:=ag6 L pl hi hl
 have hlen:=Al L pl
 have s:=MG (qM L pl) (by omega)
 unfold tJ gH az ak
 rw [k.2]
 exact ⟨⟨k.1,s.1⟩,rfl⟩
theorem abL {L:List T3} (hs:tF L) {pl:List Int} (hi:Uz L pl) (hl:pl.length<=1000000) (h0:pl≠ []):UI (qM L pl) (gH (L,pl)):=by
 have hlen:=Al L pl
 rw [(KI hi hl).2]
 have hne:qM L pl≠ []:=fun e=>by
  have h1:=congrArg List.length e
  have h2:=List.length_pos_iff.2 h0
  rw [hlen] at h1
  simp only [List.length_nil] at h1
  omega
 rcases (MG (qM L pl) (by omega)).2 with ⟨e,_⟩|⟨_,e,_⟩|⟨_,_,e,_⟩
 ·exact absurd e hne
 ·exact absurd (Mc hs hi) e
 ·exact e
theorem V8 (b:B3):oq b/\ 0<=(pG b).1/\ (pG b).1<3:=by
 have key:TR (iB b) (lP b) (b.1.1,b.1.2.1,b.1.2.2,b.2.1,b.2.2.1,b.2.2.2,0,0) fun r=>0<=r/\ r<3:=by
  refine cu 3 (fun k s=> ∃m:Int,s=(b.1.1,b.1.2.1,b.1.2.2,b.2.1,b.2.2.1,b.2.2.2,m,(k:Int))/\ 0<=m/\ m<3) _ (fun k s hk hj=> ?_) (fun s hj=> ?_) ⟨0,rfl,by decide,by decide⟩
  ·obtain ⟨m,rfl,h1,h2⟩:=hj
   have hc:au ((k:Int)+1)=((k+1:Nat):Int):=by rw [ax (by omega) (by omega)];omega
   refine ⟨?_,.inl ?_⟩
   ·dsimp only [lP,fk,Tr.val,Tr.pre];(try dsimp only [az,ak])
    intro _
    try dsimp only
    omega
   ·dsimp only [iB,fk,Tr.val,Tr.pre];(try dsimp only [az,ak])
    rw [if_pos (by omega),hc]
    split
    ·exact ⟨_,rfl,(k:Int),rfl,by omega,by omega⟩
    ·exact ⟨_,rfl,m,rfl,h1,h2⟩
  ·obtain ⟨m,rfl,h1,h2⟩:=hj
   refine ⟨?_,m,?_,h1,h2⟩
   ·dsimp only [lP,fk,Tr.val,Tr.pre];(try dsimp only [az,ak])
    intro q
    (try dsimp only at q);omega
   ·dsimp only [iB,fk,Tr.val,Tr.pre];(try dsimp only [az,ak])
    rw [if_neg (by omega)]
 obtain ⟨s1,s2⟩:=Cv b
 unfold oq pG az ak parts
 try dsimp only
 cases ta b with
 |false=>exact ⟨⟨s1,fun q=>absurd (by decide) q⟩,(show (0:Int)<=0 by decide),(show (0:Int)<3 by decide)⟩
 |true=>
  rw [if_neg (by decide)]
  exact ⟨⟨s1,fun _=>key.1⟩,key.2.1,key.2.2⟩
theorem U8 (x:List Int) (h:x.length<1099511627776):mN x:=by
 unfold mN
 intro b hb
 cases b with
 |false=>exact ⟨rfl,fun _=>by omega⟩
 |true=>
  cases x with
  |nil=>exact ⟨rfl,fun q=>absurd rfl q⟩
  |cons a r=>exact absurd (hb (by simp)) (by decide)
def axs (L:List T3) (pl:List Int):Int:=(pG (gH (L,pl))).1
def OP (L:List T3) (pl:List Int):List Int:=srt (L,axs L pl) pl
theorem aa5 {L:List T3} {pl:List Int} (hi:Uz L pl) (hm:pl.length<=12):
  kR (L,pl)/\ wz (L,pl)=((OP L pl).take (pl.length / 2),(OP L pl).drop (pl.length / 2)):=by
 have hl:pl.length<=1000000:=by omega
 obtain ⟨b1,_⟩:=KI hi hl
 obtain ⟨g1,g2,g3⟩:=V8 (gH (L,pl))
 have hf:FP (L,axs L pl) pl:=⟨by omega,fun e he=>hi e he,g2,g3⟩
 obtain ⟨s1,s2⟩:=aj9 hf hm
 have Px:=(Yc (L,axs L pl) pl).length_eq
 have e1:au (Int.tdiv ((pl.length:Nat):Int) 2)=((pl.length / 2:Nat):Int):=by
  rw [Int.tdiv_eq_ediv_of_nonneg (by omega),ax (by omega) (by omega)];omega
 have VH: ∀x,xm x=x:=fun _=>rfl
 unfold kR wz az ak
 simp only [VH]
 have s2':(MI (pl,L,(pG (gH (L,pl))).1)).2.1=OP L pl:=s2
 have hlen:(OP L pl).length=pl.length:=Px
 rw [s2',hlen,e1,Int.toNat_natCast]
 refine ⟨⟨b1,g1,U8 pl (by omega),s1,⟨by omega,by omega⟩,⟨by omega,by omega⟩,by omega,by omega⟩,rfl⟩
theorem af1 (L:List T3) (pl:List Int):(OP L pl).Perm pl:=Yc _ _
end Go.Proofs.YtngdehlpoomaiaaGreat
namespace Go.Proofs.YtngdehlpoomaiaaGreat
open Go Go.Ev Go.Proofs
abbrev zB:zy:=((z3,z3),0,0,[])
inductive lE (L:List T3):Nat->Int->List Int->List zy->List (List Int)->List Int->Prop
 |leaf (s:Nat) (par:Int) (pl:List Int):pl.length<=2->lE L s par pl [(gH (L,pl),0,0,pl)] [pl] [par]
 | fork (s:Nat) (par:Int) (pl a b:List Int) (A B:List zy) (NA NB:List (List Int)) (UA UB:List Int):2<pl.length->(a++b).Perm pl->a.length=pl.length / 2->b.length=pl.length- pl.length / 2->a++b=OP L pl->
   lE L (s+1) s a A NA UA->lE L (s+1+A.length) s b B NB UB->
   lE L s par pl ((gH (L,pl),((s+1:Nat):Int),((s+1+A.length:Nat):Int),[])::(A++B)) (pl::(NA++NB)) (par::(UA++UB))
theorem gdA {α:Type} {x:α} {A B:List α} {k:Nat} (h:k<A.length) (d:α):(x::(A++B)).getD (1+k) d=A.getD k d:=by
 rw [Nat.add_comm,List.getD_eq_getElem?_getD,List.getElem?_cons_succ,List.getElem?_append_left h,List.getD_eq_getElem?_getD]
theorem gdB {α:Type} {x:α} {A B:List α} (k n:Nat) (hn:A.length=n) (d:α):(x::(A++B)).getD (1+n+k) d=B.getD k d:=by
 subst hn
 rw [show 1+A.length+k=(A.length+k)+1 by omega,List.getD_eq_getElem?_getD,List.getElem?_cons_succ,List.getElem?_append_right (by omega),Nat.add_sub_cancel_left,List.getD_eq_getElem?_getD]
def acq (b:zy):Bool:=b.2.1==0
structure OT (L:List T3) (s:Nat) (par:Int) (pl:List Int) (G:List zy) (N:List (List Int)) (U:List Int):Prop where
 n1:N.length=G.length
 u1:U.length=G.length
 pos:0<G.length
 n0:N.getD 0 []=pl
 u0:U.getD 0 0=par
 box: ∀k,k<G.length->(G.getD k zB).1=gH (L,N.getD k [])
 sub: ∀k,k<G.length-> ∀i∈N.getD k [],i∈pl
 ne:pl≠ []-> ∀k,k<G.length->N.getD k []≠ []
 up: ∀k,0<k->k<G.length-> ∃j,j<k/\ U.getD k 0=((s+j:Nat):Int)/\ (∀i∈N.getD k [],i∈N.getD j [])/\ ((G.getD j zB).2.1=((s+k:Nat):Int)\/ (G.getD j zB).2.2.1=((s+k:Nat):Int))
 kind: ∀k,k<G.length->((G.getD k zB).2.1=0/\ (G.getD k zB).2.2.1=0/\ (G.getD k zB).2.2.2=N.getD k []/\ (N.getD k []).length<=2)\/
  (∃r,(G.getD k zB).2.1=((s+(k+1):Nat):Int)/\ (G.getD k zB).2.2.1=((s+r:Nat):Int)/\ k+1<r/\ r<G.length/\ (G.getD k zB).2.2.2= []/\ U.getD (k+1) 0=((s+k:Nat):Int)/\ U.getD r 0=((s+k:Nat):Int)/\ (N.getD (k+1) []++N.getD r []).Perm (N.getD k [])/\ 2<(N.getD k []).length/\ (N.getD (k+1) []).length<=((N.getD k []).length+1) / 2/\ (N.getD r []).length<=((N.getD k []).length+1) / 2)
 anE:(G.flatMap fun b=>b.2.2.2).Perm pl
 many:G.countP acq=G.countP (fun b=> !acq b)+1
theorem lE.facts {L:List T3} {s:Nat} {par:Int} {pl:List Int} {G:List zy} {N:List (List Int)} {U:List Int} (h:lE L s par pl G N U):OT L s par pl G N U:=by
 induction h with
 |leaf s par pl hl=>
  have h0: ∀k,k<1->k=0:=fun k hk=>by omega
  refine ⟨rfl,rfl,Nat.one_pos,rfl,rfl,fun k hk=> ?_,fun k hk i hi=> ?_,fun hp k hk=> ?_,fun k h1 h2=> ?_,fun k hk=> ?_,by simp,rfl⟩
  ·rw [h0 k hk];rfl
  ·rw [h0 k hk] at hi;exact hi
  ·rw [h0 k hk];exact hp
  ·have:=h0 k h2;omega
  ·rw [h0 k hk];exact .inl ⟨rfl,rfl,rfl,hl⟩
 |fork s par pl a b A B NA NB UA UB h2 hp ha hb he hA hB UG UH=>
  have hlen:((gH (L,pl),((s+1:Nat):Int),((s+1+A.length:Nat):Int),[])::(A++B)).length=1+A.length+B.length:=by simp;omega
  have hpa:=UG.pos
  have hpb:=UH.pos
  have hna:=UG.n1
  have hnb:=UH.n1
  have hua:=UG.u1
  have hub:=UH.u1
  have gA: ∀k,k<A.length->((gH (L,pl),((s+1:Nat):Int),((s+1+A.length:Nat):Int),[])::(A++B)).getD (1+k) zB=A.getD k zB:=fun k hk=>gdA hk zB
  have gB: ∀k,((gH (L,pl),((s+1:Nat):Int),((s+1+A.length:Nat):Int),[])::(A++B)).getD (1+A.length+k) zB=B.getD k zB:=fun k=>gdB k _ rfl zB
  have nA: ∀k,k<A.length->(pl::(NA++NB)).getD (1+k) []=NA.getD k []:=fun k hk=>gdA (by omega) []
  have nB: ∀k,(pl::(NA++NB)).getD (1+A.length+k) []=NB.getD k []:=fun k=>gdB k _ hna []
  have uA: ∀k,k<A.length->(par::(UA++UB)).getD (1+k) 0=UA.getD k 0:=fun k hk=>gdA (by omega) 0
  have uB: ∀k,(par::(UA++UB)).getD (1+A.length+k) 0=UB.getD k 0:=fun k=>gdB k _ hua 0
  have g0:((gH (L,pl),((s+1:Nat):Int),((s+1+A.length:Nat):Int),[])::(A++B)).getD 0 zB=(gH (L,pl),((s+1:Nat):Int),((s+1+A.length:Nat):Int),[]):=rfl
  have n0:(pl::(NA++NB)).getD 0 []=pl:=rfl
  generalize hG:((gH (L,pl),((s+1:Nat):Int),((s+1+A.length:Nat):Int),[])::(A++B))=G at*
  generalize hN:(pl::(NA++NB))=N at*
  generalize hU:(par::(UA++UB))=U at*
  have xM: ∀k,k<G.length->k=0\/ (∃q,k=1+q/\ q<A.length)\/ ∃q,k=1+A.length+q/\ q<B.length:=fun k hk=>by
   rcases Nat.eq_zero_or_pos k with e|e
   ·exact .inl e
   ·rcases Nat.lt_or_ge (k- 1) A.length with e2|e2
    ·exact .inr (.inl ⟨k- 1,by omega,e2⟩)
    ·exact .inr (.inr ⟨k- 1- A.length,by omega,by omega⟩)
  have hia: ∀i∈a,i∈pl:=fun i hi=>hp.mem_iff.1 (List.mem_append.2 (.inl hi))
  have hib: ∀i∈b,i∈pl:=fun i hi=>hp.mem_iff.1 (List.mem_append.2 (.inr hi))
  refine ⟨by rw [<- hN,<- hG];simp [hna,hnb],by rw [<- hU,<- hG];simp [hua,hub],by omega,n0,by rw [<- hU];rfl,fun k hk=> ?_,fun k hk i hi=> ?_,fun hne k hk=> ?_,fun k h1 hk=> ?_,fun k hk=> ?_,?_,?_⟩
  ·rcases xM k hk with rfl|⟨q,rfl,hq⟩|⟨q,rfl,hq⟩
   ·rw [g0,n0]
   ·rw [gA q hq,nA q hq];exact UG.box q hq
   ·rw [gB,nB];exact UH.box q hq
  ·rcases xM k hk with rfl|⟨q,rfl,hq⟩|⟨q,rfl,hq⟩
   ·rw [n0] at hi;exact hi
   ·rw [nA q hq] at hi;exact hia i (UG.sub q hq i hi)
   ·rw [nB] at hi;exact hib i (UH.sub q hq i hi)
  ·rcases xM k hk with rfl|⟨q,rfl,hq⟩|⟨q,rfl,hq⟩
   ·rw [n0];exact hne
   ·rw [nA q hq]
    exact UG.ne (fun e=>by rw [e] at ha;simp at ha;omega) q hq
   ·rw [nB]
    exact UH.ne (fun e=>by rw [e] at hb;simp at hb;omega) q hq
  ·rcases xM k hk with rfl|⟨q,rfl,hq⟩|⟨q,rfl,hq⟩
   ·omega
   ·rcases Nat.eq_zero_or_pos q with rfl|hq0
    ·refine ⟨0,by omega,?_,fun i hi=> ?_,.inl ?_⟩
     ·rw [uA 0 hq,UG.u0];rfl
     ·rw [nA 0 hq,UG.n0] at hi;rw [n0];exact hia i hi
     ·rw [g0]
    ·obtain ⟨j,j1,j2,j3,j4⟩:=UG.up q hq0 hq
     refine ⟨1+j,by omega,?_,fun i hi=> ?_,?_⟩
     ·rw [uA q hq,j2];omega
     ·rw [nA q hq] at hi;rw [nA j (by omega)];exact j3 i hi
     ·rw [gA j (by omega)]
      exact j4.imp (fun e=>by rw [e];omega) fun e=>by rw [e];omega
   ·rcases Nat.eq_zero_or_pos q with rfl|hq0
    ·refine ⟨0,by omega,?_,fun i hi=> ?_,.inr ?_⟩
     ·rw [uB,UH.u0];rfl
     ·rw [nB,UH.n0] at hi;rw [n0];exact hib i hi
     ·rw [g0];dsimp only;omega
    ·obtain ⟨j,j1,j2,j3,j4⟩:=UH.up q hq0 hq
     refine ⟨1+A.length+j,by omega,?_,fun i hi=> ?_,?_⟩
     ·rw [uB,j2];omega
     ·rw [nB] at hi;rw [nB];exact j3 i hi
     ·rw [gB]
      exact j4.imp (fun e=>by rw [e];omega) fun e=>by rw [e];omega
  ·rcases xM k hk with rfl|⟨q,rfl,hq⟩|⟨q,rfl,hq⟩
   ·refine .inr ⟨1+A.length,?_,?_,by omega,by omega,by rw [g0],?_,?_,?_⟩
    ·rw [g0]
    ·rw [g0];dsimp only;omega
    ·have:=uA 0 hpa
     rw [UG.u0] at this
     exact this
    ·have:=uB 0
     rw [UH.u0,Nat.add_zero] at this
     exact this
    ·have e1:=nA 0 hpa
     have e2:=nB 0
     rw [UG.n0,Nat.add_zero] at e1
     rw [UH.n0,Nat.add_zero] at e2
     rw [show 0+1=1 from rfl,e1,e2,n0];exact ⟨hp,h2,by omega,by omega⟩
   ·rcases UG.kind q hq with ⟨k1,k2,k3,k4⟩|⟨r,k1,k2,k3,k4,k5,k6,k7,k8⟩
    ·refine .inl ?_
     rw [gA q hq,nA q hq]
     exact ⟨k1,k2,k3,k4⟩
    ·refine .inr ⟨1+r,?_,?_,by omega,by omega,?_,?_,?_,?_⟩
     ·rw [gA q hq,k1];omega
     ·rw [gA q hq,k2];omega
     ·rw [gA q hq];exact k5
     ·rw [show 1+q+1=1+(q+1) by omega,uA (q+1) (by omega),k6];omega
     ·rw [uA r k4,k7];omega
     ·rw [show 1+q+1=1+(q+1) by omega,nA (q+1) (by omega),nA r k4,nA q hq];exact k8
   ·rcases UH.kind q hq with ⟨k1,k2,k3,k4⟩|⟨r,k1,k2,k3,k4,k5,k6,k7,k8⟩
    ·refine .inl ?_
     rw [gB,nB]
     exact ⟨k1,k2,k3,k4⟩
    ·refine .inr ⟨1+A.length+r,?_,?_,by omega,by omega,?_,?_,?_,?_⟩
     ·rw [gB,k1];omega
     ·rw [gB,k2];omega
     ·rw [gB];exact k5
     ·rw [show 1+A.length+q+1=1+A.length+(q+1) by omega,uB,k6];omega
     ·rw [uB,k7];omega
     ·rw [show 1+A.length+q+1=1+A.length+(q+1) by omega,nB,nB,nB];exact k8
  ·rw [←hG]
   simp only [List.flatMap_cons,List.flatMap_append,List.nil_append]
   exact (UG.anE.append UH.anE).trans hp
  ·rw [←hG]
   have m1:=UG.many
   have m2:=UH.many
   have hlf:acq (gH (L,pl),((s+1:Nat):Int),((s+1+A.length:Nat):Int),([]:List Int))=false:=by
    unfold acq
    dsimp only
    simp
    omega
   rw [List.countP_cons_of_neg (by rw [hlf];decide),List.countP_cons_of_pos (by rw [hlf];rfl),List.countP_append,List.countP_append]
   omega
end Go.Proofs.YtngdehlpoomaiaaGreat
namespace Go.Proofs.YtngdehlpoomaiaaGreat
open Go Go.Ev Go.Proofs
theorem ajZ {α:Type} (l:List α) (x y:α):(l++ [x]).set l.length y=l++ [y]:=by simp
theorem T9 {α:Type} (l r:List α) (x y:α):(l++(x::r)).set l.length y=l++(y::r):=by simp
theorem SF {α:Type} (l r:List α) (x d:α):(l++(x::r)).getD l.length d=x:=by simp
theorem am9 (pl:List Int) (x:zy): [x].length+1<=2*pl.length\/ (pl.length=0/\ [x].length=1):=by
 rcases Nat.eq_zero_or_pos pl.length with e|e
 ·exact .inr ⟨e,rfl⟩
 ·left;simp;omega
def Grown (L:List T3) (pl:List Int) (l r:List zy):Prop:= ∃G N U,r=l++G/\ (G.length+1<=2*pl.length\/ (pl.length=0/\ G.length=1))/\ ∀par,∃U',U'.tail=U/\ lE L l.length par pl G N U'
def Kj (n:Nat):Prop:= ∀L pl l,Uz L pl->pl.length<n->pl.length<=12->l.length+3*pl.length<=100000-> @tV (A2 n) (pl,L,l)/\ Grown L pl l (@Lj (A2 n) (pl,L,l))
theorem grow_step {n:Nat} (ih:Kj n):Kj (n+1):=by
 intro L pl l hi hn hl hb
 obtain ⟨b1,_⟩:=KI hi (by omega)
 obtain ⟨s1,s2⟩:=aa5 hi (by omega)
 show @z5 (A2 n) (pl,L,l)/\ Grown L pl l (@ab7 (A2 n) (pl,L,l))
 unfold z5 ab7 az ak
 dsimp only
 by_cases h2:((pl.length:Nat):Int)<=2
 ·rw [if_pos h2]
  have hlen:(l++ [(gH (L,pl),(0:Int),(0:Int),([]:List Int))]).length=l.length+1:=by simp
  refine ⟨⟨b1,by omega,fun _=>⟨U8 pl (by omega),by rw [hlen];omega,by rw [hlen];omega,by rw [hlen];omega,by rw [hlen];omega⟩,fun q=>absurd h2 q⟩,?_⟩
  refine ⟨[(gH (L,pl),0,0,pl)],[pl],[],?_,am9 pl _,fun par=>⟨[par],rfl,.leaf _ par pl (by omega)⟩⟩
  have VH: ∀x,xm x=x:=fun _=>rfl
  rw [VH,ajZ,SF l [] _ _]
 ·rw [if_neg h2,s2]
  dsimp only
  have Aa:2<pl.length:=by omega
  have Px:=af1 L pl
  have UF:=Px.length_eq
  have hta:((OP L pl).take (pl.length / 2)).length=pl.length / 2:=by rw [List.length_take];omega
  have htb:((OP L pl).drop (pl.length / 2)).length=pl.length- pl.length / 2:=by rw [List.length_drop];omega
  have hia:Uz L ((OP L pl).take (pl.length / 2)):=fun i h=>hi i (Px.mem_iff.1 (List.mem_of_mem_take h))
  have hib:Uz L ((OP L pl).drop (pl.length / 2)):=fun i h=>hi i (Px.mem_iff.1 (List.mem_of_mem_drop h))
  have hlen:(l++ [(gH (L,pl),(0:Int),(0:Int),([]:List Int))]).length=l.length+1:=by simp
  obtain ⟨p1,G1,N1,U1,e1,g1,t1⟩:=ih L _ (l++ [(gH (L,pl),(0:Int),(0:Int),([]:List Int))]) hia (by omega) (by omega) (by rw [hlen];omega)
  have Pu:(l++ [(gH (L,pl),(0:Int),(0:Int),([]:List Int))]++G1).length=l.length+1+G1.length:=by rw [List.length_append,hlen]
  obtain ⟨p2,G2,N2,U2,e2,g2,t2⟩:=ih L _ (l++ [(gH (L,pl),(0:Int),(0:Int),([]:List Int))]++G1) hib (by omega) (by omega) (by rw [Pu];omega)
  have e3:l++ [(gH (L,pl),(0:Int),(0:Int),([]:List Int))]++G1++G2=l++((gH (L,pl),(0:Int),(0:Int),([]:List Int))::(G1++G2)):=by simp
  rw [e1,e2,e3,Pu]
  have hw:au (((l.length:Nat):Int)+1)=((l.length+1:Nat):Int):=by rw [ax (by omega) (by omega)];omega
  have ace:(l++((gH (L,pl),(0:Int),(0:Int),([]:List Int))::(G1++G2))).length=l.length+(1+G1.length+G2.length):=by simp;omega
  have acf: ∀y:zy,(l++(y::(G1++G2))).length=l.length+(1+G1.length+G2.length):=fun y=>by simp;omega
  rw [hw,SF,T9,SF,T9]
  dsimp only
  refine ⟨⟨b1,by omega,fun q=>absurd q h2,fun _=>⟨s1,p1,p2,by rw [ace];omega,by rw [ace];omega,by rw [ace];omega,by rw [ace];omega,by rw [acf];omega,by rw [acf];omega,by rw [acf];omega,by rw [acf];omega⟩⟩,?_⟩
  rw [hlen] at t1
  rw [Pu] at t2
  obtain ⟨UA,_,tA⟩:=t1 ((l.length:Nat):Int)
  obtain ⟨UB,_,tB⟩:=t2 ((l.length:Nat):Int)
  refine ⟨(gH (L,pl),((l.length+1:Nat):Int),((l.length+1+G1.length:Nat):Int),[])::(G1++G2),pl::(N1++N2),UA++UB,rfl,?_,fun par=>⟨par::(UA++UB),rfl,?_⟩⟩
  ·simp only [List.length_cons,List.length_append]
   omega
  ·exact .fork _ par pl _ _ G1 G2 N1 N2 UA UB Aa (by rw [List.take_append_drop];exact Px) hta htb (List.take_append_drop _ _) tA tB
theorem VD: ∀n,Kj n
 |0=>fun L pl l _ hn=>absurd hn (Nat.not_lt_zero _)
 |n+1=>grow_step (VD n)
theorem ael {L:List T3} {pl:List Int} (l:List zy) (hi:Uz L pl) (hl:pl.length<=12) (hb:l.length<=1000):Gd (pl,L,l)/\ ∃G N U,ahW (pl,L,l)=l++G/\ (G.length+1<=2*pl.length\/ (pl.length=0/\ G.length=1))/\ lE L l.length (-1) pl G N U:=by
 obtain ⟨h1,G,N,U,h2,h3,h4⟩:=VD (pl.length+1) L pl l hi (by omega) hl (by omega)
 obtain ⟨U',_,h5⟩:=h4 (-1)
 exact ⟨h1,G,N,U',h2,h3,h5⟩
end Go.Proofs.YtngdehlpoomaiaaGreat
