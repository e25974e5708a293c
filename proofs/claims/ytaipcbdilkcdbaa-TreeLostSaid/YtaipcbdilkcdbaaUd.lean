/- Plain laws: how deep a tree is; what is built. -/
import Derived.Test.YtaipcbdilkcdbaaVf
import Derived.Test.YtaipcbdilkcdbaaUc
noncomputable section
set_option linter.unusedSectionVars false
set_option linter.unusedVariables false
set_option linter.unusedSimpArgs false
namespace Go.Proofs.Ytaipcbdilkcdbaa
open Go Go.Ev Go.Proofs
def XT (G:List qQ) (N:List (List Int)) (d:List Int) (k:Nat):Prop:=((G.getD k zB).2.1=0/\ (G.getD k zB).2.2.1=0/\ d.getD k 0=1)\/
 (∃r:Nat,(G.getD k zB).2.1=((k+1:Nat):Int)/\ (G.getD k zB).2.2.1=(r:Int)/\ k+1<r/\ r<G.length/\ d.getD k 0=dJ (dJ 1 (d.getD (k+1) 0+1)) (d.getD r 0+1))
theorem F9 (G:List qQ) (d T:List Int) (i r:Nat) (hd:d.length=G.length) (hi:i+1<r) (hr:r<G.length) (hb: ∀k,k<G.length->0<=d.getD k 0/\ d.getD k 0<=1000000):
  TR (bS G) (cP G) (d.set i 1,(T,((i:Int),(((i+1:Nat):Int),((r:Int),0))))) fun z=> ∃d',z=(d',T)/\ d'.length=G.length/\ ∀k,k<G.length->d'.getD k 0=if i=k then dJ (dJ 1 (d.getD (i+1) 0+1)) (d.getD r 0+1) else d.getD k 0:=by
 have QL:(d.set i 1).length=G.length:=by simp [hd]
 have g1:(d.set i 1).getD i 0=1:=by rw [dL _ _ _ _ _ (by omega),if_pos rfl]
 have g2:(d.set i 1).getD (i+1) 0=d.getD (i+1) 0:=by rw [dL _ _ _ _ _ (by omega),if_neg (by omega)]
 have b1:=hb (i+1) (by omega)
 have b2:=hb r hr
 have w1:ae (d.getD (i+1) 0+1)=d.getD (i+1) 0+1:=cC (by omega) (by omega)
 have w2:ae (d.getD r 0+1)=d.getD r 0+1:=cC (by omega) (by omega)
 generalize pe:(d.set i 1).set i (dJ 1 (d.getD (i+1) 0+1))=d1
 have yw:d1.length=G.length:=by rw [<- pe];simp [hd]
 have g3:d1.getD i 0=dJ 1 (d.getD (i+1) 0+1):=by rw [<- pe,dL _ _ _ _ _ (by omega),if_pos rfl]
 have g4:d1.getD r 0=d.getD r 0:=by rw [<- pe,dL _ _ _ _ _ (by omega),if_neg (by omega),dL _ _ _ _ _ (by omega),if_neg (by omega)]
 refine TR.go (s':=(d1,(T,((i:Int),(((i+1:Nat):Int),((r:Int),1)))))) ?_ ?_ (TR.go (s':=(d1.set i (dJ (dJ 1 (d.getD (i+1) 0+1)) (d.getD r 0+1)),(T,((i:Int),(((i+1:Nat):Int),((r:Int),2)))))) ?_ ?_ (TR.stop (r:=(d1.set i (dJ (dJ 1 (d.getD (i+1) 0+1)) (d.getD r 0+1)),T)) ?_ ?_ ⟨_,rfl,by simp [yw],fun k hk=> ?_⟩))
 ·unfold cP
  intro _
  dsimp only
  simp only [Int.toNat_natCast,show (0+Int.toNat (0:Int)*1)=0 from rfl,List.getD_cons_zero]
  exact ⟨by decide,by decide,fun _ _=>⟨by omega,by omega,by omega,by omega,by omega,by omega,by omega,by omega,by omega⟩⟩
 ·unfold bS ai
  dsimp only
  simp only [Int.toNat_natCast,show (0+Int.toNat (0:Int)*1)=0 from rfl,List.getD_cons_zero]
  rw [if_pos (by decide),if_pos (by omega),if_pos (by omega),g1,g2,w1,pe]
  rfl
 ·unfold cP
  intro _
  dsimp only
  simp only [Int.toNat_natCast,show (0+Int.toNat (1:Int)*1)=1 from rfl,List.getD_cons_succ,List.getD_cons_zero]
  exact ⟨by decide,by decide,fun _ _=>⟨by omega,by omega,by omega,by omega,by omega,by omega,by omega,by omega,by omega⟩⟩
 ·unfold bS ai
  dsimp only
  simp only [Int.toNat_natCast,show (0+Int.toNat (1:Int)*1)=1 from rfl,List.getD_cons_succ,List.getD_cons_zero]
  rw [if_pos (by decide),if_pos (by omega),if_pos (by omega),g3,g4,w2]
  rfl
 ·unfold cP
  intro q
  exact absurd (show (2:Int)<2 from q) (by decide)
 ·unfold bS
  dsimp only
  rw [if_neg (by decide)]
 ·rw [dL _ _ _ _ _ (by omega)]
  by_cases e:i=k
  ·rw [if_pos e,if_pos e]
  ·rw [if_neg e,if_neg e,<- pe,dL _ _ _ _ _ (by omega),if_neg e,dL _ _ _ _ _ (by omega),if_neg e]
theorem KH (a b c:Int) (h1:a<=c) (h2:b<=c):dJ a b<=c:=by unfold dJ;split<;>assumption
section
variable {L:List T3} {pl:List Int} {G:List qQ} {N:List (List Int)} {U:List Int} (h:ye L 0 (-1) pl G N U)
include h
theorem ID (hG:G.length<=10000):TR (bH G ()) (cE G ()) (List.replicate G.length 0,((G.length:Nat):Int)- 1) fun d=>d.length=G.length/\ ∀k,k<G.length->XT G N d k:=by
 refine fU G.length (fun c s=> ∃d,s=(d,((G.length:Nat):Int)- 1- (c:Int))/\ d.length=G.length/\ (∀k,k<G.length->0<=d.getD k 0/\ d.getD k 0<=(c:Int))/\ ∀k,k<G.length->G.length<=k+c->XT G N d k) _ (fun c s hc hJ=> ?_) (fun s hJ=> ?_) ⟨List.replicate G.length 0,by simp,by simp,fun k hk=> ?_,fun k hk S2=>by omega⟩
 ·obtain ⟨d,rfl,hl,hbd,hE⟩:=hJ
  obtain ⟨i,hi⟩: ∃i,i=G.length- 1- c:=⟨_,rfl⟩
  have hin:i<G.length:=by omega
  have hii:((G.length:Nat):Int)- 1- (c:Int)=(i:Int):=by omega
  have hw:ae ((i:Int)- 1)=((G.length:Nat):Int)- 1- ((c+1:Nat):Int):=by rw [cC (by omega) (by omega)];omega
  rw [hii]
  rcases h.Dq hin with ⟨a1,a2,a3,a4⟩|⟨r,a1,a2,a3,a4,a5,a6,a7,a8⟩
  ·have jK:iR (G.getD i ((((0:Int),((0:Int),(0:Int))),((0:Int),((0:Int),(0:Int)))),((0:Int),((0:Int),([]:List Int)))),(i:Int))=true:=(jt (G.getD i zB) _).2 ⟨a1,a2⟩
   refine ⟨?_,.inl ⟨(d.set i 1,((G.length:Nat):Int)- 1- ((c+1:Nat):Int)),?_,_,rfl,by simp [hl],fun k hk=> ?_,fun k hk S2=> ?_⟩⟩
   ·unfold cE ay
    intro _
    dsimp only
    rw [Int.toNat_natCast,jK]
    exact ⟨by omega,hin,hin,by omega,by omega,by omega,fun q=>absurd rfl q⟩
   ·unfold bH ai
    dsimp only
    rw [if_pos (by omega),Int.toNat_natCast,jK,if_pos rfl,hw]
   ·rw [dL _ _ _ _ _ (by omega)]
    have:=hbd k hk
    split<;>omega
   ·by_cases e:i=k
    ·subst e
     exact .inl ⟨a1,a2,by rw [dL _ _ _ _ _ (by omega),if_pos rfl]⟩
    ·rcases hE k hk (by omega) with ⟨q1,q2,q3⟩|⟨r',q1,q2,q3,q4,q5⟩
     ·exact .inl ⟨q1,q2,by rw [dL _ _ _ _ _ (by omega),if_neg e];exact q3⟩
     ·exact .inr ⟨r',q1,q2,q3,q4,by rw [dL _ _ _ _ _ (by omega),if_neg e,dL _ _ _ _ _ (by omega),if_neg (by omega),dL _ _ _ _ _ (by omega),if_neg (by omega)];exact q5⟩
  ·have jK:iR (G.getD i ((((0:Int),((0:Int),(0:Int))),((0:Int),((0:Int),(0:Int)))),((0:Int),((0:Int),([]:List Int)))),(i:Int))=false:=by
    cases e:iR (G.getD i ((((0:Int),((0:Int),(0:Int))),((0:Int),((0:Int),(0:Int)))),((0:Int),((0:Int),([]:List Int)))),(i:Int)) with
    |false=>rfl
    |true=>
     have:=((jt (G.getD i zB) _).1 e).1
     rw [a1] at this;omega
   have key:=F9 G d (G.getD i zB).2.2.2 i r hl a3 a4 (fun k hk=>by have:=hbd k hk;omega)
   obtain ⟨d',e,hl',hd'⟩:=key.2
   have b1:(G.getD i ((((0:Int),((0:Int),(0:Int))),((0:Int),((0:Int),(0:Int)))),((0:Int),((0:Int),([]:List Int))))).2.1=((i+1:Nat):Int):=a1
   have b2:(G.getD i ((((0:Int),((0:Int),(0:Int))),((0:Int),((0:Int),(0:Int)))),((0:Int),((0:Int),([]:List Int))))).2.2.1=(r:Int):=a2
   refine ⟨?_,.inl ⟨(d',((G.length:Nat):Int)- 1- ((c+1:Nat):Int)),?_,d',rfl,hl',fun k hk=> ?_,fun k hk S2=> ?_⟩⟩
   ·unfold cE ay
    intro _
    dsimp only
    rw [Int.toNat_natCast,jK,b1,b2]
    exact ⟨by omega,hin,hin,by omega,by omega,by omega,fun _=>key.1⟩
   ·unfold bH ai
    dsimp only
    rw [if_pos (by omega),Int.toNat_natCast,jK,if_neg (by decide),b1,b2]
    refine Eq.trans (congrArg (fun z:(List Int)×(List Int)=>Sum.inl (z.1,ae ((i:Int)- 1))) e) ?_
    dsimp only
    rw [hw]
   ·rw [hd' k hk]
    have q1:=hbd k hk
    have q2:=hbd (i+1) (by omega)
    have q3:=hbd r a4
    split
    ·have m1:=vR 1 (d.getD (i+1) 0+1)
     have m2:=vR (dJ 1 (d.getD (i+1) 0+1)) (d.getD r 0+1)
     exact ⟨by omega,KH _ _ _ (KH _ _ _ (by omega) (by omega)) (by omega)⟩
    ·omega
   ·by_cases e2:i=k
    ·subst e2
     refine .inr ⟨r,a1,a2,a3,a4,?_⟩
     rw [hd' i hk,if_pos rfl,hd' (i+1) (by omega),if_neg (by omega),hd' r a4,if_neg (by omega)]
    ·rcases hE k hk (by omega) with ⟨q1,q2,q3⟩|⟨r',q1,q2,q3,q4,q5⟩
     ·exact .inl ⟨q1,q2,by rw [hd' k hk,if_neg e2];exact q3⟩
     ·exact .inr ⟨r',q1,q2,q3,q4,by rw [hd' k hk,if_neg e2,hd' (k+1) (by omega),if_neg (by omega),hd' r' q4,if_neg (by omega)];exact q5⟩
 ·obtain ⟨d,rfl,hl,hbd,hE⟩:=hJ
  refine ⟨?_,d,?_,hl,fun k hk=>hE k hk (by omega)⟩
  ·unfold cE
   intro q
   dsimp only at q;omega
  ·unfold bH
   dsimp only
   rw [if_neg (by omega)]
 ·rw [List.getD_eq_getElem?_getD,List.getElem?_replicate,if_pos hk]
  exact ⟨by decide,by simp⟩
theorem LX (hG:G.length<=10000):jk G/\ ∃d:List Int,pW G=d.getD 0 0/\ ∀k,k<G.length->XT G N d k:=by
 have hpos:=h.pos
 have key:=ID h hG
 have hb: ¬((((G.length:Nat):Int)==0)=true):=by simp;exact List.length_pos_iff.1 hpos
 have hw:ae (((G.length:Nat):Int)- 1)=((G.length:Nat):Int)- 1:=cC (by omega) (by omega)
 unfold jk pW ay ai
 dsimp only
 rw [if_neg hb,hw]
 have hl:=key.2.1
 exact ⟨fun _=>⟨⟨by omega,by omega⟩,key.1,by omega,by omega,by omega⟩,_,rfl,key.2.2⟩
end
end Go.Proofs.Ytaipcbdilkcdbaa
namespace Go.Proofs.Ytaipcbdilkcdbaa
open Go Go.Ev Go.Proofs
def Hw (x:((List Int)×(List Int))):aS:=⟨[],⟨ej 26 0 [(0,.v (.one (.full 0))),(1,.v (.one (.full 1))),(5,.v (.one (.i .i64)))],[.row yi 0,.row yi 0],0,none,[],[1,2],[0],[.i],[.l yi x.1,.l yi x.2]⟩,[⟨.ret,.ret,⟨ej 26 0 [(4,.v (.one (.b)))],[],0,none,[],[0],[],[],[.b false]⟩⟩,⟨(.exit 0),.normal,⟨ej 26 0 [],[],0,none,[],[],[],[],[]⟩⟩]⟩
def lz (x:((List Int)×(List Int))) (s:Int):Int⊕(Unit⊕Unit):=
 (if (s<(x.1.length:Int)) then
 (if (((List.getD x.1 (Int.toNat s) (0:Int)) !=(List.getD x.2 (Int.toNat s) (0:Int)))=true) then
 (Sum.inr (Sum.inl ())) else
 (Sum.inl (ae (s+(1:Int))))) else
 (Sum.inr (Sum.inr (()))))
def qq (x:((List Int)×(List Int))) (s:Int):Prop:=
 ((s<(x.1.length:Int))->
 ((((0:Int)<=s)/\ (s<(x.1.length:Int)))/\
 (((Int.toNat s)<(List.length x.1))/\
 (((Int.toNat s)<(List.length x.1))/\
 ((((0:Int)<=s)/\ (s<(x.2.length:Int)))/\
 (((Int.toNat s)<(List.length x.2))/\
 ((Int.toNat s)<(List.length x.2))))))))
def BY (x:((List Int)×(List Int))) (s:Int):Tr (Int⊕(Unit⊕Unit)) true:=
 (.i10 (s<(nL x.1))
 (.cf s x.1
 (.cf s x.2
 (.CA ((gI x.1 s) !=(gI x.2 s))
 (.ret (.inr (Sum.inl ())))
 (.ret (.inl (w1 s))))))
 (.ret (.inr (Sum.inr (())))))
def pE (x:((List Int)×(List Int))):Bool:=
 (if (((x.1.length:Int) !=(x.2.length:Int))=true) then
 false else
 (ai (run (lz x) (0:Int)) fun r=>
 (Sum.elim (fun a=>
 false) (fun b=>
 true) r)))
def kP (x:((List Int)×(List Int))):Prop:=
 (¬(((x.1.length:Int) !=(x.2.length:Int))=true)->
 (Term (lz x) (qq x) (0:Int)))
def SD (x:((List Int)×(List Int))):Tr Bool true:=
 (.zo ((nL x.1) !=(nL x.2))
 (.ret false)
 (aS.lp (Hw x) (BY x) z0 fun r=>
 (.QT r (fun a=>
 (.ret false)) (fun b=>
 (.ret true)))))
abbrev qp:jh:=⟨(.pair (.one (Ty.sl yi)) (.one (Ty.sl yi))),(.one Ty.bool),kP,pE⟩
theorem Qd:av Try.prog 21 (aH qp):=av.tr qp SD (fn:=Try.f21) aQ qv mixed (by kernel_rfl) (aD.nil _ _) (fun x=>(aB.tr aQ (ah.fe qv (aD.nil _ _)) mixed 0 (Hw x) (BY x) aB.nil (by kernel_rfl) fun g s Q=>(by kernel_rfl))) (fun x=>(by kernel_rfl)) fun x Q=>(by kernel_rfl)
def HU:List (Nat×Ev.Spec):=(21,aH qp)::D9
theorem zh:ah Try.prog HU:=ah.add (fn:=Try.f21) (by kernel_rfl) Qd qv
def oz (x:Int):I9:=
 ((x,((0:Int),(0:Int))),(((ae (x+(5:Int))),((0:Int),(0:Int))),(x,((1:Int),(0:Int)))))
def Ir (_:Int):Prop:=True
def NF (x:Int):Tr I9 false:=
 (.ret ((x,Zz),(((ae (x+(5:Int))),Zz),(x,(z1,z0)))))
abbrev oU:jh:=⟨(.one yi),(.agg cH),Ir,oz⟩
theorem Ly:av Try.prog 20 (aH oU):=av.tr oU NF (fn:=Try.f20) aQ zh mixed (by kernel_rfl) (aD.nil _ _) (fun x=>aB.nil) (fun x=>(by kernel_rfl)) fun x Q=>(by kernel_rfl)
def D6:List (Nat×Ev.Spec):=(20,aH oU)::HU
theorem wK:ah Try.prog D6:=ah.add (fn:=Try.f20) (by kernel_rfl) Ly zh
def oE (x:Bool):Bool:=
 (ai (oz (0:Int)) fun y=>
 (ai (oz (10:Int)) fun aq=>
 (ai (oz (20:Int)) fun y_2=>
 (ai (qW [y,aq,y_2]) fun au=>
 (ai (ny ([y,aq,y_2],[(2:Int),(0:Int),(1:Int)])) fun aR=>
 (ai (ny ([y,aq,y_2],[(2:Int),(3:Int)])) fun cA=>
 (if ((au.2==(0:Int))=true) then
 (if (((au.1.length:Int)==(3:Int))=true) then
 (if (((List.getD au.1 0 ((((0:Int),((0:Int),(0:Int))),((0:Int),((0:Int),(0:Int)))),((0:Int),((0:Int),[])))).2.1==(1:Int))=true) then
 (if (((List.getD au.1 0 ((((0:Int),((0:Int),(0:Int))),((0:Int),((0:Int),(0:Int)))),((0:Int),((0:Int),[])))).2.2.1==(2:Int))=true) then
 (ai (pE ((List.getD au.1 1 ((((0:Int),((0:Int),(0:Int))),((0:Int),((0:Int),(0:Int)))),((0:Int),((0:Int),[])))).2.2.2,[(0:Int)])) fun Ic=>
 (if (Ic=true) then
 (ai (pE ((List.getD au.1 2 ((((0:Int),((0:Int),(0:Int))),((0:Int),((0:Int),(0:Int)))),((0:Int),((0:Int),[])))).2.2.2,[(1:Int),(2:Int)])) fun Xp=>
 (if (Xp=true) then
 (if ((aR.2.2==au.2)=true) then
 (ai (pE (aR.1,[(0:Int)])) fun Xq=>
 (if (Xq=true) then
 (ai (pE (aR.2.1,[(1:Int),(2:Int)])) fun Xr=>
 (if (Xr=true) then
 (if ((cA.2.2==(1:Int))=true) then
 (ai (E6 (au.1,[y,aq,y_2])) fun QC=>
 (if (QC=true) then
 (ai (E6 ([],[])) fun QD=>
 (if ((!QD)=true) then
 (ai (pW au.1) fun Vd=>
 (Vd==(2:Int))) else
 false)) else
 false)) else
 false) else
 false)) else
 false)) else
 false) else
 false)) else
 false)) else
 false) else
 false) else
 false) else
 false)))))))
def gS (x:Bool):Prop:=
 (ay (oz (0:Int)) fun y=>
 (ay (oz (10:Int)) fun aq=>
 (ay (oz (20:Int)) fun y_2=>
 ((mR [y,aq,y_2])/\
 ay (qW [y,aq,y_2]) fun au=>
 ((nC ([y,aq,y_2],[(2:Int),(0:Int),(1:Int)]))/\
 ay (ny ([y,aq,y_2],[(2:Int),(0:Int),(1:Int)])) fun aR=>
 ((nC ([y,aq,y_2],[(2:Int),(3:Int)]))/\
 ay (ny ([y,aq,y_2],[(2:Int),(3:Int)])) fun cA=>
 (((au.2==(0:Int))=true)->
 ((((au.1.length:Int)==(3:Int))=true)->
 (((0:Int)<(au.1.length:Int))/\
 ((0<(List.length au.1))/\
 ((0<(List.length au.1))/\
 ((0<(List.length au.1))/\
 ((((List.getD au.1 0 ((((0:Int),((0:Int),(0:Int))),((0:Int),((0:Int),(0:Int)))),((0:Int),((0:Int),[])))).2.1==(1:Int))=true)->
 (((0:Int)<(au.1.length:Int))/\
 ((0<(List.length au.1))/\
 ((0<(List.length au.1))/\
 ((0<(List.length au.1))/\
 ((((List.getD au.1 0 ((((0:Int),((0:Int),(0:Int))),((0:Int),((0:Int),(0:Int)))),((0:Int),((0:Int),[])))).2.2.1==(2:Int))=true)->
 (((1:Int)<(au.1.length:Int))/\
 ((1<(List.length au.1))/\
 ((1<(List.length au.1))/\
 ((1<(List.length au.1))/\
 ((kP ((List.getD au.1 1 ((((0:Int),((0:Int),(0:Int))),((0:Int),((0:Int),(0:Int)))),((0:Int),((0:Int),[])))).2.2.2,[(0:Int)]))/\
 ay (pE ((List.getD au.1 1 ((((0:Int),((0:Int),(0:Int))),((0:Int),((0:Int),(0:Int)))),((0:Int),((0:Int),[])))).2.2.2,[(0:Int)])) fun Ic=>
 ((Ic=true)->
 (((2:Int)<(au.1.length:Int))/\
 ((2<(List.length au.1))/\
 ((2<(List.length au.1))/\
 ((2<(List.length au.1))/\
 ((kP ((List.getD au.1 2 ((((0:Int),((0:Int),(0:Int))),((0:Int),((0:Int),(0:Int)))),((0:Int),((0:Int),[])))).2.2.2,[(1:Int),(2:Int)]))/\
 ay (pE ((List.getD au.1 2 ((((0:Int),((0:Int),(0:Int))),((0:Int),((0:Int),(0:Int)))),((0:Int),((0:Int),[])))).2.2.2,[(1:Int),(2:Int)])) fun Xp=>
 ((Xp=true)->
 (((aR.2.2==au.2)=true)->
 ((kP (aR.1,[(0:Int)]))/\
 ay (pE (aR.1,[(0:Int)])) fun Xq=>
 ((Xq=true)->
 ((kP (aR.2.1,[(1:Int),(2:Int)]))/\
 ay (pE (aR.2.1,[(1:Int),(2:Int)])) fun Xr=>
 ((Xr=true)->
 (((cA.2.2==(1:Int))=true)->
 ((fN (au.1,[y,aq,y_2]))/\
 ay (E6 (au.1,[y,aq,y_2])) fun QC=>
 ((QC=true)->
 ((fN ([],[]))/\
 ay (E6 ([],[])) fun QD=>
 (((!QD)=true)->
 (jk au.1)))))))))))))))))))))))))))))))))))))))))
def Og (x:Bool):Tr Bool true:=
 (.fn0 oU z0 trivial fun y=>
 (.fn0 oU (10:Int) trivial fun aq=>
 (.fn0 oU (20:Int) trivial fun y_2=>
 (.fn qX [y,aq,y_2] fun au=>
 (.fn si ([y,aq,y_2],[(2:Int),z0,z1]) fun aR=>
 (.fn si ([y,aq,y_2],[(2:Int),(3:Int)]) fun cA=>
 (.FI (au.2==z0)
 (.FI ((nL au.1)==(3:Int))
 (.og (true&&(decide (z0<(nL au.1)))) (z0<(nL au.1)) (fun h=>(cj rfl (decide_eq_true h)))
 (.od (0<(List.length au.1))
 (.od (0<(List.length au.1))
 (.od (0<(List.length au.1))
 (.FI ((List.getD au.1 0 ((bp,bp),(z0,(z0,[])))).2.1==z1)
 (.og (true&&(decide (z0<(nL au.1)))) (z0<(nL au.1)) (fun h=>(cj rfl (decide_eq_true h)))
 (.od (0<(List.length au.1))
 (.od (0<(List.length au.1))
 (.od (0<(List.length au.1))
 (.FI ((List.getD au.1 0 ((bp,bp),(z0,(z0,[])))).2.2.1==(2:Int))
 (.og (true&&(decide (z1<(nL au.1)))) (z1<(nL au.1)) (fun h=>(cj rfl (decide_eq_true h)))
 (.od (1<(List.length au.1))
 (.od (1<(List.length au.1))
 (.od (1<(List.length au.1))
 (.fn qp ((List.getD au.1 1 ((bp,bp),(z0,(z0,[])))).2.2.2,[z0]) fun Ic=>
 (.FI Ic
 (.og (true&&(decide ((2:Int)<(nL au.1)))) ((2:Int)<(nL au.1)) (fun h=>(cj rfl (decide_eq_true h)))
 (.od (2<(List.length au.1))
 (.od (2<(List.length au.1))
 (.od (2<(List.length au.1))
 (.fn qp ((List.getD au.1 2 ((bp,bp),(z0,(z0,[])))).2.2.2,[z1,(2:Int)]) fun Xp=>
 (.FI Xp
 (.FI (aR.2.2==au.2)
 (.fn qp (aR.1,[z0]) fun Xq=>
 (.FI Xq
 (.fn qp (aR.2.1,[z1,(2:Int)]) fun Xr=>
 (.FI Xr
 (.FI (cA.2.2==z1)
 (.fn vK (au.1,[y,aq,y_2]) fun QC=>
 (.FI QC
 (.fn vK ([],[]) fun QD=>
 (.FI (!QD)
 (.fn AA au.1 fun Vd=>
 (.ret (Vd==(2:Int))))
 (.ret false)))
 (.ret false)))
 (.ret false))
 (.ret false)))
 (.ret false)))
 (.ret false))
 (.ret false)))))))
 (.ret false)))))))
 (.ret false))))))
 (.ret false))))))
 (.ret false))
 (.ret false))))))))
abbrev lH:jh:=⟨.none,(.one Ty.bool),gS,oE⟩
theorem L9:av Try.prog 8 (aH lH):=av.tr lH Og (fn:=Try.f8) aQ wK mixed (by kernel_rfl) (aD.nil _ _) (fun x=>aB.nil) (fun x=>(by kernel_rfl)) fun x Q=>(by kernel_rfl)
def Ea:List (Nat×Ev.Spec):=(8,aH lH)::D6
theorem wR:ah Try.prog Ea:=ah.add (fn:=Try.f8) (by kernel_rfl) L9 wK
end Go.Proofs.Ytaipcbdilkcdbaa
