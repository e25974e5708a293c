/- Building a tree: the function that calls itself. -/
import Derived.Test.YtaipcbdilkcdbaaTq
import Derived.Test.YtaipcbdilkcdbaaEvU
import Derived.Test.YtaipcbdilkcdbaaVb
noncomputable section
set_option linter.unusedSectionVars false
set_option linter.unusedVariables false
set_option linter.unusedSimpArgs false
namespace Go.Proofs.Ytaipcbdilkcdbaa
open Go Go.Ev Go.Proofs
abbrev Kc:Ty:= .prod (.prod (.prod (.int .i64) (.prod (.int .i64) (.int .i64))) (.prod (.int .i64) (.prod (.int .i64) (.int .i64)))) (.prod (.int .i64) (.prod (.int .i64) (.sl (.int .i64))))
abbrev Xo:Ty:= .prod (.prod (.int .i64) (.prod (.int .i64) (.int .i64))) (.prod (.prod (.int .i64) (.prod (.int .i64) (.int .i64))) (.prod (.int .i64) (.prod (.int .i64) (.int .i64))))
abbrev AP:Ah:=⟨Kc,Xo,16,23,47,48⟩
abbrev qQ:Type:=((Int×(Int×Int))×(Int×(Int×Int)))×(Int×(Int×(List Int)))
abbrev Lv:Type:=List Int×(List ((Int×(Int×Int))×((Int×(Int×Int))×(Int×(Int×Int))))×List qQ)
class qR where
 pre:Lv->Prop
 f:Lv->List qQ
 ok:av Try.prog 16 (iH ⟨AP,pre,f⟩)
section
variable [qR]
def AQ (x:Lv):List qQ:=qR.f x
def pc (x:Lv):Prop:=qR.pre x
abbrev zQ:Tn:=⟨AP,pc,AQ⟩
theorem Oc:av Try.prog 16 (iH zQ):=qR.ok
def Qo:List (Nat×Ev.Spec):=(16,iH zQ)::Er
theorem HF:ah Try.prog Qo:=ah.add (fn:=Try.f16) (by kernel_rfl) Oc FA
def Kj (x:((List Int)×((List I9)×(List ((I3×I3)×(Int×(Int×(List Int)))))))):(List ((I3×I3)×(Int×(Int×(List Int))))):=
 (ai (fT (x.2.1,x.1)) fun y=>
 (if ((x.1.length:Int)<=(2:Int)) then
 (ai (ji x.1) fun aq=>
 (ai (List.set (x.2.2++ [(y,((0:Int),((0:Int),[])))]) (List.length x.2.2) ((List.getD (x.2.2++ [(y,((0:Int),((0:Int),[])))]) (List.length x.2.2) ((((0:Int),((0:Int),(0:Int))),((0:Int),((0:Int),(0:Int)))),((0:Int),((0:Int),[])))).1,((List.getD (x.2.2++ [(y,((0:Int),((0:Int),[])))]) (List.length x.2.2) ((((0:Int),((0:Int),(0:Int))),((0:Int),((0:Int),(0:Int)))),((0:Int),((0:Int),[])))).2.1,((List.getD (x.2.2++ [(y,((0:Int),((0:Int),[])))]) (List.length x.2.2) ((((0:Int),((0:Int),(0:Int))),((0:Int),((0:Int),(0:Int)))),((0:Int),((0:Int),[])))).2.2.1,aq)))) fun y_2=>
 y_2)) else
 (ai (mb (x.2.1,x.1)) fun aq=>
 (ai (AQ (aq.1,(x.2.1,(x.2.2++ [(y,((0:Int),((0:Int),[])))])))) fun y_2=>
 (ai (AQ (aq.2,(x.2.1,y_2))) fun au=>
 (ai (List.set au (List.length x.2.2) ((List.getD au (List.length x.2.2) ((((0:Int),((0:Int),(0:Int))),((0:Int),((0:Int),(0:Int)))),((0:Int),((0:Int),[])))).1,((ae ((x.2.2.length:Int)+(1:Int))),(List.getD au (List.length x.2.2) ((((0:Int),((0:Int),(0:Int))),((0:Int),((0:Int),(0:Int)))),((0:Int),((0:Int),[])))).2.2))) fun aR=>
 (ai (List.set aR (List.length x.2.2) ((List.getD aR (List.length x.2.2) ((((0:Int),((0:Int),(0:Int))),((0:Int),((0:Int),(0:Int)))),((0:Int),((0:Int),[])))).1,((List.getD aR (List.length x.2.2) ((((0:Int),((0:Int),(0:Int))),((0:Int),((0:Int),(0:Int)))),((0:Int),((0:Int),[])))).2.1,((y_2.length:Int),(List.getD aR (List.length x.2.2) ((((0:Int),((0:Int),(0:Int))),((0:Int),((0:Int),(0:Int)))),((0:Int),((0:Int),[])))).2.2.2)))) fun cA=>
 cA)))))))
def sJ (x:((List Int)×((List I9)×(List ((I3×I3)×(Int×(Int×(List Int)))))))):Prop:=
 ((mQ (x.2.1,x.1))/\
 ay (fT (x.2.1,x.1)) fun y=>
 ((((List.length x.2.2)+1)<1099511627776)/\
 ((((x.1.length:Int)<=(2:Int))->
 ((eY x.1)/\
 ay (ji x.1) fun aq=>
 (((x.2.2.length:Int)<((x.2.2++ [(y,((0:Int),((0:Int),[])))]).length:Int))/\
 (((List.length x.2.2)<(List.length (x.2.2++ [(y,((0:Int),((0:Int),[])))])))/\
 (((List.length x.2.2)<(List.length (x.2.2++ [(y,((0:Int),((0:Int),[])))])))/\
 ((List.length x.2.2)<(List.length (x.2.2++ [(y,((0:Int),((0:Int),[])))]))))))))/\
 (¬((x.1.length:Int)<=(2:Int))->
 ((fR (x.2.1,x.1))/\
 ay (mb (x.2.1,x.1)) fun aq=>
 ((pc (aq.1,(x.2.1,(x.2.2++ [(y,((0:Int),((0:Int),[])))]))))/\
 ay (AQ (aq.1,(x.2.1,(x.2.2++ [(y,((0:Int),((0:Int),[])))])))) fun y_2=>
 ((pc (aq.2,(x.2.1,y_2)))/\
 ay (AQ (aq.2,(x.2.1,y_2))) fun au=>
 (((x.2.2.length:Int)<(au.length:Int))/\
 (((List.length x.2.2)<(List.length au))/\
 (((List.length x.2.2)<(List.length au))/\
 (((List.length x.2.2)<(List.length au))/\
 (ay (List.set au (List.length x.2.2) ((List.getD au (List.length x.2.2) ((((0:Int),((0:Int),(0:Int))),((0:Int),((0:Int),(0:Int)))),((0:Int),((0:Int),[])))).1,((ae ((x.2.2.length:Int)+(1:Int))),(List.getD au (List.length x.2.2) ((((0:Int),((0:Int),(0:Int))),((0:Int),((0:Int),(0:Int)))),((0:Int),((0:Int),[])))).2.2))) fun aR=>
 (((x.2.2.length:Int)<(aR.length:Int))/\
 (((List.length x.2.2)<(List.length aR))/\
 (((List.length x.2.2)<(List.length aR))/\
 ((List.length x.2.2)<(List.length aR)))))))))))))))))
def Rl (x:((List Int)×((List I9)×(List ((I3×I3)×(Int×(Int×(List Int)))))))):Tr (List ((I3×I3)×(Int×(Int×(List Int))))) true:=
 (.fn Ap (x.2.1,x.1) fun y=>
 (.od (((List.length x.2.2)+1)<1099511627776)
 (.i11 ((nL x.1)<=(2:Int))
 (.fn oY x.1 fun aq=>
 (.og ((decide (z0<=(nL x.2.2)))&&(decide ((nL x.2.2)<(nL (x.2.2++ [(y,(z0,(z0,[])))]))))) ((nL x.2.2)<(nL (x.2.2++ [(y,(z0,(z0,[])))]))) (fun h=>(cj rfl (decide_eq_true h)))
 (.od ((List.length x.2.2)<(List.length (x.2.2++ [(y,(z0,(z0,[])))])))
 (.od ((List.length x.2.2)<(List.length (x.2.2++ [(y,(z0,(z0,[])))])))
 (.od ((List.length x.2.2)<(List.length (x.2.2++ [(y,(z0,(z0,[])))])))
 (.lt (List.set (x.2.2++ [(y,(z0,(z0,[])))]) (List.length x.2.2) ((List.getD (x.2.2++ [(y,(z0,(z0,[])))]) (List.length x.2.2) ((bp,bp),(z0,(z0,[])))).1,((List.getD (x.2.2++ [(y,(z0,(z0,[])))]) (List.length x.2.2) ((bp,bp),(z0,(z0,[])))).2.1,((List.getD (x.2.2++ [(y,(z0,(z0,[])))]) (List.length x.2.2) ((bp,bp),(z0,(z0,[])))).2.2.1,aq)))) fun y_2=>
 (.pn 0 6
 (.ret y_2))))))))
 (.fn Ci (x.2.1,x.1) fun aq=>
 (.VO zQ (aq.1,(x.2.1,(x.2.2++ [(y,(z0,(z0,[])))]))) fun y_2=>
 (.VO zQ (aq.2,(x.2.1,y_2)) fun au=>
 (.og ((decide (z0<=(nL x.2.2)))&&(decide ((nL x.2.2)<(nL au)))) ((nL x.2.2)<(nL au)) (fun h=>(cj rfl (decide_eq_true h)))
 (.od ((List.length x.2.2)<(List.length au))
 (.od ((List.length x.2.2)<(List.length au))
 (.od ((List.length x.2.2)<(List.length au))
 (.lt (List.set au (List.length x.2.2) ((List.getD au (List.length x.2.2) ((bp,bp),(z0,(z0,[])))).1,((w1 (nL x.2.2)),(List.getD au (List.length x.2.2) ((bp,bp),(z0,(z0,[])))).2.2))) fun aR=>
 (.og ((decide (z0<=(nL x.2.2)))&&(decide ((nL x.2.2)<(nL aR)))) ((nL x.2.2)<(nL aR)) (fun h=>(cj rfl (decide_eq_true h)))
 (.od ((List.length x.2.2)<(List.length aR))
 (.od ((List.length x.2.2)<(List.length aR))
 (.od ((List.length x.2.2)<(List.length aR))
 (.lt (List.set aR (List.length x.2.2) ((List.getD aR (List.length x.2.2) ((bp,bp),(z0,(z0,[])))).1,((List.getD aR (List.length x.2.2) ((bp,bp),(z0,(z0,[])))).2.1,((nL y_2),(List.getD aR (List.length x.2.2) ((bp,bp),(z0,(z0,[])))).2.2.2)))) fun cA=>
 (.pn 0 6
 (.ret cA))))))))))))))))))
abbrev Kk:Tn:=⟨AP,sJ,Kj⟩
theorem Ob:av Try.prog 16 (iH Kk):=av.trO Kk Rl (fn:=Try.f16) aQ HF mixed (by kernel_rfl) (aD.nil _ _) (fun x=>aB.nil) (fun x=>(by kernel_rfl)) fun x r0 Q=>(by kernel_rfl)
end
end Go.Proofs.Ytaipcbdilkcdbaa
namespace Go.Proofs.Ytaipcbdilkcdbaa
open Go Go.Ev Go.Proofs
abbrev zB:qQ:=((z3,z3),(0,(0,[])))
inductive jD (L:List T3):Nat->Int->List Int->List qQ->List (List Int)->List Int->Prop
 |leaf (s:Nat) (par:Int) (pl:List Int):pl.length<=2->jD L s par pl [(fT (L,pl),(0,(0,pl)))] [pl] [par]
 | fork (s:Nat) (par:Int) (pl a b:List Int) (A B:List qQ) (NA NB:List (List Int)) (UA UB:List Int):2<pl.length->(a++b).Perm pl->a.length=pl.length / 2->b.length=pl.length- pl.length / 2->a++b=tj L pl->
   jD L (s+1) s a A NA UA->jD L (s+1+A.length) s b B NB UB->
   jD L s par pl ((fT (L,pl),(((s+1:Nat):Int),(((s+1+A.length:Nat):Int),[])))::(A++B)) (pl::(NA++NB)) (par::(UA++UB))
theorem X8 {α:Type} {x:α} {A B:List α} {k:Nat} (h:k<A.length) (d:α):(x::(A++B)).getD (1+k) d=A.getD k d:=by
 rw [Nat.add_comm,List.getD_eq_getElem?_getD,List.getElem?_cons_succ,List.getElem?_append_left h,List.getD_eq_getElem?_getD]
theorem X9 {α:Type} {x:α} {A B:List α} (k n:Nat) (hn:A.length=n) (d:α):(x::(A++B)).getD (1+n+k) d=B.getD k d:=by
 subst hn
 rw [show 1+A.length+k=(A.length+k)+1 by omega,List.getD_eq_getElem?_getD,List.getElem?_cons_succ,List.getElem?_append_right (by omega),Nat.add_sub_cancel_left,List.getD_eq_getElem?_getD]
def KA (b:qQ):Bool:=b.2.1==0
structure ye (L:List T3) (s:Nat) (par:Int) (pl:List Int) (G:List qQ) (N:List (List Int)) (U:List Int):Prop where
 n1:N.length=G.length
 u1:U.length=G.length
 pos:0<G.length
 n0:N.getD 0 []=pl
 u0:U.getD 0 0=par
 box: ∀k,k<G.length->(G.getD k zB).1=fT (L,N.getD k [])
 sub: ∀k,k<G.length-> ∀i∈N.getD k [],i∈pl
 ne:pl≠ []-> ∀k,k<G.length->N.getD k []≠ []
 up: ∀k,0<k->k<G.length-> ∃j,j<k/\ U.getD k 0=((s+j:Nat):Int)/\ (∀i∈N.getD k [],i∈N.getD j [])/\ ((G.getD j zB).2.1=((s+k:Nat):Int)\/ (G.getD j zB).2.2.1=((s+k:Nat):Int))
 kind: ∀k,k<G.length->((G.getD k zB).2.1=0/\ (G.getD k zB).2.2.1=0/\ (G.getD k zB).2.2.2=N.getD k []/\ (N.getD k []).length<=2)\/
  (∃r,(G.getD k zB).2.1=((s+(k+1):Nat):Int)/\ (G.getD k zB).2.2.1=((s+r:Nat):Int)/\ k+1<r/\ r<G.length/\ (G.getD k zB).2.2.2= []/\ U.getD (k+1) 0=((s+k:Nat):Int)/\ U.getD r 0=((s+k:Nat):Int)/\ (N.getD (k+1) []++N.getD r []).Perm (N.getD k [])/\ 2<(N.getD k []).length/\ (N.getD (k+1) []).length<=((N.getD k []).length+1) / 2/\ (N.getD r []).length<=((N.getD k []).length+1) / 2)
 Nm:(G.flatMap fun b=>b.2.2.2).Perm pl
 many:G.countP KA=G.countP (fun b=> !KA b)+1
theorem jD.facts {L:List T3} {s:Nat} {par:Int} {pl:List Int} {G:List qQ} {N:List (List Int)} {U:List Int} (h:jD L s par pl G N U):ye L s par pl G N U:=by
 induction h with
 |leaf s par pl hl=>
  have h0: ∀k,k<1->k=0:=fun k hk=>by omega
  refine ⟨rfl,rfl,Nat.one_pos,rfl,rfl,fun k hk=> ?_,fun k hk i hi=> ?_,fun hp k hk=> ?_,fun k h1 h2=> ?_,fun k hk=> ?_,by simp,rfl⟩
  ·rw [h0 k hk];rfl
  ·rw [h0 k hk] at hi;exact hi
  ·rw [h0 k hk];exact hp
  ·have:=h0 k h2;omega
  ·rw [h0 k hk];exact .inl ⟨rfl,rfl,rfl,hl⟩
 |fork s par pl a b A B NA NB UA UB h2 hp ha hb he hA hB Ij Ik=>
  have hlen:((fT (L,pl),(((s+1:Nat):Int),(((s+1+A.length:Nat):Int),[])))::(A++B)).length=1+A.length+B.length:=by simp;omega
  have Vr:=Ij.pos
  have OJ:=Ik.pos
  have hna:=Ij.n1
  have hnb:=Ik.n1
  have hua:=Ij.u1
  have hub:=Ik.u1
  have gA: ∀k,k<A.length->((fT (L,pl),(((s+1:Nat):Int),(((s+1+A.length:Nat):Int),[])))::(A++B)).getD (1+k) zB=A.getD k zB:=fun k hk=>X8 hk zB
  have gB: ∀k,((fT (L,pl),(((s+1:Nat):Int),(((s+1+A.length:Nat):Int),[])))::(A++B)).getD (1+A.length+k) zB=B.getD k zB:=fun k=>X9 k _ rfl zB
  have nA: ∀k,k<A.length->(pl::(NA++NB)).getD (1+k) []=NA.getD k []:=fun k hk=>X8 (by omega) []
  have nB: ∀k,(pl::(NA++NB)).getD (1+A.length+k) []=NB.getD k []:=fun k=>X9 k _ hna []
  have uA: ∀k,k<A.length->(par::(UA++UB)).getD (1+k) 0=UA.getD k 0:=fun k hk=>X8 (by omega) 0
  have uB: ∀k,(par::(UA++UB)).getD (1+A.length+k) 0=UB.getD k 0:=fun k=>X9 k _ hua 0
  have g0:((fT (L,pl),(((s+1:Nat):Int),(((s+1+A.length:Nat):Int),[])))::(A++B)).getD 0 zB=(fT (L,pl),(((s+1:Nat):Int),(((s+1+A.length:Nat):Int),[]))):=rfl
  have n0:(pl::(NA++NB)).getD 0 []=pl:=rfl
  generalize hG:((fT (L,pl),(((s+1:Nat):Int),(((s+1+A.length:Nat):Int),[])))::(A++B))=G at*
  generalize hN:(pl::(NA++NB))=N at*
  generalize hU:(par::(UA++UB))=U at*
  have rE: ∀k,k<G.length->k=0\/ (∃q,k=1+q/\ q<A.length)\/ ∃q,k=1+A.length+q/\ q<B.length:=fun k hk=>by
   rcases Nat.eq_zero_or_pos k with e|e
   ·exact .inl e
   ·rcases Nat.lt_or_ge (k- 1) A.length with e2|e2
    ·exact .inr (.inl ⟨k- 1,by omega,e2⟩)
    ·exact .inr (.inr ⟨k- 1- A.length,by omega,by omega⟩)
  have XE: ∀i∈a,i∈pl:=fun i hi=>hp.mem_iff.1 (List.mem_append.2 (.inl hi))
  have hib: ∀i∈b,i∈pl:=fun i hi=>hp.mem_iff.1 (List.mem_append.2 (.inr hi))
  refine ⟨by rw [<- hN,<- hG];simp [hna,hnb],by rw [<- hU,<- hG];simp [hua,hub],by omega,n0,by rw [<- hU];rfl,fun k hk=> ?_,fun k hk i hi=> ?_,fun hne k hk=> ?_,fun k h1 hk=> ?_,fun k hk=> ?_,?_,?_⟩
  ·rcases rE k hk with rfl|⟨q,rfl,hq⟩|⟨q,rfl,hq⟩
   ·rw [g0,n0]
   ·rw [gA q hq,nA q hq];exact Ij.box q hq
   ·rw [gB,nB];exact Ik.box q hq
  ·rcases rE k hk with rfl|⟨q,rfl,hq⟩|⟨q,rfl,hq⟩
   ·rw [n0] at hi;exact hi
   ·rw [nA q hq] at hi;exact XE i (Ij.sub q hq i hi)
   ·rw [nB] at hi;exact hib i (Ik.sub q hq i hi)
  ·rcases rE k hk with rfl|⟨q,rfl,hq⟩|⟨q,rfl,hq⟩
   ·rw [n0];exact hne
   ·rw [nA q hq]
    exact Ij.ne (fun e=>by rw [e] at ha;simp at ha;omega) q hq
   ·rw [nB]
    exact Ik.ne (fun e=>by rw [e] at hb;simp at hb;omega) q hq
  ·rcases rE k hk with rfl|⟨q,rfl,hq⟩|⟨q,rfl,hq⟩
   ·omega
   ·rcases Nat.eq_zero_or_pos q with rfl|Nv
    ·refine ⟨0,by omega,?_,fun i hi=> ?_,.inl ?_⟩
     ·rw [uA 0 hq,Ij.u0];rfl
     ·rw [nA 0 hq,Ij.n0] at hi;rw [n0];exact XE i hi
     ·rw [g0]
    ·obtain ⟨j,j1,j2,j3,j4⟩:=Ij.up q Nv hq
     refine ⟨1+j,by omega,?_,fun i hi=> ?_,?_⟩
     ·rw [uA q hq,j2];omega
     ·rw [nA q hq] at hi;rw [nA j (by omega)];exact j3 i hi
     ·rw [gA j (by omega)]
      exact j4.imp (fun e=>by rw [e];omega) fun e=>by rw [e];omega
   ·rcases Nat.eq_zero_or_pos q with rfl|Nv
    ·refine ⟨0,by omega,?_,fun i hi=> ?_,.inr ?_⟩
     ·rw [uB,Ik.u0];rfl
     ·rw [nB,Ik.n0] at hi;rw [n0];exact hib i hi
     ·rw [g0];dsimp only;omega
    ·obtain ⟨j,j1,j2,j3,j4⟩:=Ik.up q Nv hq
     refine ⟨1+A.length+j,by omega,?_,fun i hi=> ?_,?_⟩
     ·rw [uB,j2];omega
     ·rw [nB] at hi;rw [nB];exact j3 i hi
     ·rw [gB]
      exact j4.imp (fun e=>by rw [e];omega) fun e=>by rw [e];omega
  ·rcases rE k hk with rfl|⟨q,rfl,hq⟩|⟨q,rfl,hq⟩
   ·refine .inr ⟨1+A.length,?_,?_,by omega,by omega,by rw [g0],?_,?_,?_⟩
    ·rw [g0]
    ·rw [g0];dsimp only;omega
    ·have:=uA 0 Vr
     rw [Ij.u0] at this
     exact this
    ·have:=uB 0
     rw [Ik.u0,Nat.add_zero] at this
     exact this
    ·have e1:=nA 0 Vr
     have e2:=nB 0
     rw [Ij.n0,Nat.add_zero] at e1
     rw [Ik.n0,Nat.add_zero] at e2
     rw [show 0+1=1 from rfl,e1,e2,n0];exact ⟨hp,h2,by omega,by omega⟩
   ·rcases Ij.kind q hq with ⟨k1,k2,k3,k4⟩|⟨r,k1,k2,k3,k4,k5,k6,k7,k8⟩
    ·refine .inl ?_
     rw [gA q hq,nA q hq]
     exact ⟨k1,k2,k3,k4⟩
    ·refine .inr ⟨1+r,?_,?_,by omega,by omega,?_,?_,?_,?_⟩
     ·rw [gA q hq,k1];omega
     ·rw [gA q hq,k2];omega
     ·rw [gA q hq];exact k5
     ·rw [show 1+q+1=1+(q+1) by omega,uA (q+1) (by omega),k6];omega
     ·rw [uA r k4,k7];omega
     ·rw [show 1+q+1=1+(q+1) by omega,nA (q+1) (by omega),nA r k4,nA q hq];exact k8
   ·rcases Ik.kind q hq with ⟨k1,k2,k3,k4⟩|⟨r,k1,k2,k3,k4,k5,k6,k7,k8⟩
    ·refine .inl ?_
     rw [gB,nB]
     exact ⟨k1,k2,k3,k4⟩
    ·refine .inr ⟨1+A.length+r,?_,?_,by omega,by omega,?_,?_,?_,?_⟩
     ·rw [gB,k1];omega
     ·rw [gB,k2];omega
     ·rw [gB];exact k5
     ·rw [show 1+A.length+q+1=1+A.length+(q+1) by omega,uB,k6];omega
     ·rw [uB,k7];omega
     ·rw [show 1+A.length+q+1=1+A.length+(q+1) by omega,nB,nB,nB];exact k8
  ·rw [←hG]
   simp only [List.flatMap_cons,List.flatMap_append,List.nil_append]
   exact (Ij.Nm.append Ik.Nm).trans hp
  ·rw [←hG]
   have m1:=Ij.many
   have m2:=Ik.many
   have hlf:KA (fT (L,pl),(((s+1:Nat):Int),(((s+1+A.length:Nat):Int),([]:List Int))))=false:=by
    unfold KA
    dsimp only
    simp
    omega
   rw [List.countP_cons_of_neg (by rw [hlf];decide),List.countP_cons_of_pos (by rw [hlf];rfl),List.countP_append,List.countP_append]
   omega
end Go.Proofs.Ytaipcbdilkcdbaa
namespace Go.Proofs.Ytaipcbdilkcdbaa
open Go Go.Ev Go.Proofs
theorem Gi:av Try.prog 16 (iH ⟨AP,fun _=>False,fun x=> []⟩):=by
 intro X args hp nm k hs
 unfold iH at hs
 split at hs
 ·split at hs
  ·split at hs
   ·split at hs
    ·obtain ⟨_,h,_⟩:=bh hs
     exact h.elim
    ·exact hs.elim
   ·exact hs.elim
  ·exact hs.elim
 ·exact hs.elim
@[reducible] noncomputable def tD:Nat->qR
 |0=>⟨fun _=>False,fun x=> [],Gi⟩
 |n+1=>⟨@sJ (tD n),@Kj (tD n),@Ob (tD n)⟩
def xK (x:Lv):Prop:= @pc (tD (x.1.length+1)) x
def Od (x:Lv):List qQ:= @AQ (tD (x.1.length+1)) x
abbrev EW:Tn:=⟨AP,xK,Od⟩
theorem Oe:av Try.prog 16 (iH EW):=by
 intro X args hp nm k hs
 unfold iH at hs
 split at hs
 rotate_left
 ·exact hs.elim
 rename_i a nT nF nG
 split at hs
 rotate_left
 ·exact hs.elim
 rename_i pl Aa b1 cT eT cF eF cG eG pe Xx Yh Yi
 split at hs
 rotate_left
 ·exact hs.elim
 rename_i l rr L Ew b2 Vt TW
 have Y2:K4 hp Kc cT=some (l,rr):=Vt
 have Yy:jA hp (.one (.sl Xo)) [.v (.one cF)]=some (L,[],Ew,b2):=TW
 refine (tD (pl.length+1)).ok X _ hp nm k ?_
 simp only [iH,pe,Xx,Yh,Yi,Y2,Yy]
 exact hs
end Go.Proofs.Ytaipcbdilkcdbaa
namespace Go.Proofs.Ytaipcbdilkcdbaa
open Go Go.Ev Go.Proofs
theorem Qe {α:Type} (l:List α) (x y:α):(l++ [x]).set l.length y=l++ [y]:=by simp
theorem z7 {α:Type} (l r:List α) (x y:α):(l++(x::r)).set l.length y=l++(y::r):=by simp
theorem EV {α:Type} (l r:List α) (x d:α):(l++(x::r)).getD l.length d=x:=by simp
theorem R1 (pl:List Int) (x:qQ): [x].length+1<=2*pl.length\/ (pl.length=0/\ [x].length=1):=by
 rcases Nat.eq_zero_or_pos pl.length with e|e
 ·exact .inr ⟨e,rfl⟩
 ·left;simp;omega
def Grown (L:List T3) (pl:List Int) (l r:List qQ):Prop:= ∃G N U,r=l++G/\ (G.length+1<=2*pl.length\/ (pl.length=0/\ G.length=1))/\ ∀par,∃U',U'.tail=U/\ jD L l.length par pl G N U'
def Ad (n:Nat):Prop:= ∀L pl l,Ae L pl->pl.length<n->pl.length<=1000->l.length+3*pl.length<=100000-> @pc (tD n) (pl,(L,l))/\ Grown L pl l (@AQ (tD n) (pl,(L,l)))
theorem L8 {n:Nat} (ih:Ad n):Ad (n+1):=by
 intro L pl l hi hn hl hb
 obtain ⟨b1,_⟩:=u6 hi (by omega)
 obtain ⟨s1,s2⟩:=JT hi (by omega)
 show @sJ (tD n) (pl,(L,l))/\ Grown L pl l (@Kj (tD n) (pl,(L,l)))
 unfold sJ Kj ay ai
 dsimp only
 by_cases h2:((pl.length:Nat):Int)<=2
 ·rw [if_pos h2]
  have hlen:(l++ [(fT (L,pl),((0:Int),((0:Int),([]:List Int))))]).length=l.length+1:=by simp
  refine ⟨⟨b1,by omega,fun _=>⟨ve pl (by omega),by rw [hlen];omega,by rw [hlen];omega,by rw [hlen];omega,by rw [hlen];omega⟩,fun q=>absurd h2 q⟩,?_⟩
  refine ⟨[(fT (L,pl),(0,(0,pl)))],[pl],[],?_,R1 pl _,fun par=>⟨[par],rfl,.leaf _ par pl (by omega)⟩⟩
  have Gn: ∀x,ji x=x:=fun _=>rfl
  rw [Gn,Qe,EV l [] _ _]
 ·rw [if_neg h2,s2]
  dsimp only
  have rJ:2<pl.length:=by omega
  have yx:=Nj L pl
  have Vt:=yx.length_eq
  have hta:((tj L pl).take (pl.length / 2)).length=pl.length / 2:=by rw [List.length_take];omega
  have htb:((tj L pl).drop (pl.length / 2)).length=pl.length- pl.length / 2:=by rw [List.length_drop];omega
  have XE:Ae L ((tj L pl).take (pl.length / 2)):=fun i h=>hi i (yx.mem_iff.1 (List.mem_of_mem_take h))
  have hib:Ae L ((tj L pl).drop (pl.length / 2)):=fun i h=>hi i (yx.mem_iff.1 (List.mem_of_mem_drop h))
  have hlen:(l++ [(fT (L,pl),((0:Int),((0:Int),([]:List Int))))]).length=l.length+1:=by simp
  obtain ⟨p1,G1,N1,U1,e1,g1,t1⟩:=ih L _ (l++ [(fT (L,pl),((0:Int),((0:Int),([]:List Int))))]) XE (by omega) (by omega) (by rw [hlen];omega)
  have A3:(l++ [(fT (L,pl),((0:Int),((0:Int),([]:List Int))))]++G1).length=l.length+1+G1.length:=by rw [List.length_append,hlen]
  obtain ⟨p2,G2,N2,U2,e2,g2,t2⟩:=ih L _ (l++ [(fT (L,pl),((0:Int),((0:Int),([]:List Int))))]++G1) hib (by omega) (by omega) (by rw [A3];omega)
  have e3:l++ [(fT (L,pl),((0:Int),((0:Int),([]:List Int))))]++G1++G2=l++((fT (L,pl),((0:Int),((0:Int),([]:List Int))))::(G1++G2)):=by simp
  rw [e1,e2,e3,A3]
  have hw:ae (((l.length:Nat):Int)+1)=((l.length+1:Nat):Int):=by rw [cC (by omega) (by omega)];omega
  have A4:(l++((fT (L,pl),((0:Int),((0:Int),([]:List Int))))::(G1++G2))).length=l.length+(1+G1.length+G2.length):=by simp;omega
  have Kp: ∀y:qQ,(l++(y::(G1++G2))).length=l.length+(1+G1.length+G2.length):=fun y=>by simp;omega
  rw [hw,EV,z7,EV,z7]
  dsimp only
  refine ⟨⟨b1,by omega,fun q=>absurd q h2,fun _=>⟨s1,p1,p2,by rw [A4];omega,by rw [A4];omega,by rw [A4];omega,by rw [A4];omega,by rw [Kp];omega,by rw [Kp];omega,by rw [Kp];omega,by rw [Kp];omega⟩⟩,?_⟩
  rw [hlen] at t1
  rw [A3] at t2
  obtain ⟨UA,_,tA⟩:=t1 ((l.length:Nat):Int)
  obtain ⟨UB,_,tB⟩:=t2 ((l.length:Nat):Int)
  refine ⟨(fT (L,pl),(((l.length+1:Nat):Int),(((l.length+1+G1.length:Nat):Int),[])))::(G1++G2),pl::(N1++N2),UA++UB,rfl,?_,fun par=>⟨par::(UA++UB),rfl,?_⟩⟩
  ·simp only [List.length_cons,List.length_append]
   omega
  ·exact .fork _ par pl _ _ G1 G2 N1 N2 UA UB rJ (by rw [List.take_append_drop];exact yx) hta htb (List.take_append_drop _ _) tA tB
theorem Gj: ∀n,Ad n
 |0=>fun L pl l _ hn=>absurd hn (Nat.not_lt_zero _)
 |n+1=>L8 (Gj n)
theorem L7 {L:List T3} {pl:List Int} (l:List qQ) (hi:Ae L pl) (hl:pl.length<=1000) (hb:l.length<=1000):xK (pl,(L,l))/\ ∃G N U,Od (pl,(L,l))=l++G/\ (G.length+1<=2*pl.length\/ (pl.length=0/\ G.length=1))/\ jD L l.length (-1) pl G N U:=by
 obtain ⟨h1,G,N,U,h2,h3,h4⟩:=Gj (pl.length+1) L pl l hi (by omega) hl (by omega)
 obtain ⟨U',_,h5⟩:=h4 (-1)
 exact ⟨h1,G,N,U',h2,h3,h5⟩
end Go.Proofs.Ytaipcbdilkcdbaa
