/- Plain laws: the chapter's rows. -/
import Derived.Test.YtojielnkfeoccaaGreatOf
import Derived.Test.YtojielnkfeoccaaGreatMc
noncomputable section
set_option linter.unusedSectionVars false
set_option linter.unusedVariables false
set_option linter.unusedSimpArgs false
namespace Go.Proofs.YtojielnkfeoccaaGreat
open Go Go.Ev Go.Proofs
abbrev Lx:Int×(List Int×List (P2×P2)):=(3,[10,-1,20,5,5,5],[((0,0),2,0),((0,0),1,0)])
theorem abr:TR (nr ([10,-1,20,5,5,5],false)) (dO ([10,-1,20,5,5,5],false)) 0 (· = .inr ()):=(TR.go (s':=1) (by unfold dO;exact of_decide_eq_true (by kernel_rfl)) (by kernel_rfl) (TR.go (s':=2) (by unfold dO;exact of_decide_eq_true (by kernel_rfl)) (by kernel_rfl) (TR.go (s':=3) (by unfold dO;exact of_decide_eq_true (by kernel_rfl)) (by kernel_rfl) (TR.go (s':=4) (by unfold dO;exact of_decide_eq_true (by kernel_rfl)) (by kernel_rfl) (TR.go (s':=5) (by unfold dO;exact of_decide_eq_true (by kernel_rfl)) (by kernel_rfl) (TR.go (s':=6) (by unfold dO;exact of_decide_eq_true (by kernel_rfl)) (by kernel_rfl) (TR.stop (r:= .inr ()) (by unfold dO;exact of_decide_eq_true (by kernel_rfl)) (by kernel_rfl) rfl)))))))
theorem abt:TR (nG ([15,-1,15,5,5,5],[15,-1,15,5,5,5])) (dQ ([15,-1,15,5,5,5],[15,-1,15,5,5,5])) 0 (· = .inr ()):=(TR.go (s':=1) (by unfold dQ;exact of_decide_eq_true (by kernel_rfl)) (by kernel_rfl) (TR.go (s':=2) (by unfold dQ;exact of_decide_eq_true (by kernel_rfl)) (by kernel_rfl) (TR.go (s':=3) (by unfold dQ;exact of_decide_eq_true (by kernel_rfl)) (by kernel_rfl) (TR.go (s':=4) (by unfold dQ;exact of_decide_eq_true (by kernel_rfl)) (by kernel_rfl) (TR.go (s':=5) (by unfold dQ;exact of_decide_eq_true (by kernel_rfl)) (by kernel_rfl) (TR.go (s':=6) (by unfold dQ;exact of_decide_eq_true (by kernel_rfl)) (by kernel_rfl) (TR.stop (r:= .inr ()) (by unfold dQ;exact of_decide_eq_true (by kernel_rfl)) (by kernel_rfl) rfl)))))))
theorem abo:TR (k9 Lx) (eA Lx) ([(0,0),(0,0),(0,0),(0,0),(0,0),(0,0)],0) (· = [(10,1),(0,0),(20,1),(5,1),(5,1),(5,1)]):=(TR.go (s':=([(10,1),(0,0),(0,0),(0,0),(0,0),(0,0)],1)) (by unfold eA aM;exact of_decide_eq_true (by kernel_rfl)) (by kernel_rfl) (TR.go (s':=([(10,1),(0,0),(0,0),(0,0),(0,0),(0,0)],2)) (by unfold eA aM;exact of_decide_eq_true (by kernel_rfl)) (by kernel_rfl) (TR.go (s':=([(10,1),(0,0),(20,1),(0,0),(0,0),(0,0)],3)) (by unfold eA aM;exact of_decide_eq_true (by kernel_rfl)) (by kernel_rfl) (TR.go (s':=([(10,1),(0,0),(20,1),(5,1),(0,0),(0,0)],4)) (by unfold eA aM;exact of_decide_eq_true (by kernel_rfl)) (by kernel_rfl) (TR.go (s':=([(10,1),(0,0),(20,1),(5,1),(5,1),(0,0)],5)) (by unfold eA aM;exact of_decide_eq_true (by kernel_rfl)) (by kernel_rfl) (TR.go (s':=([(10,1),(0,0),(20,1),(5,1),(5,1),(5,1)],6)) (by unfold eA aM;exact of_decide_eq_true (by kernel_rfl)) (by kernel_rfl) (TR.stop (r:= [(10,1),(0,0),(20,1),(5,1),(5,1),(5,1)]) (by unfold eA aM;exact of_decide_eq_true (by kernel_rfl)) (by kernel_rfl) rfl)))))))
theorem abp:TR (lq Lx) (my Lx) ([(10,1),(0,0),(20,1),(5,1),(5,1),(5,1)],0) (· = .inr [(30,2),(10,1),(30,2),(5,1),(5,1),(5,1)]):=(TR.go (s':=([(30,2),(0,0),(30,2),(5,1),(5,1),(5,1)],1)) (by unfold my aM xm;dsimp only;repeat' (first|exact of_decide_eq_true (by kernel_rfl)|apply And.intro|intro _)) (by kernel_rfl) (TR.go (s':=([(30,2),(10,1),(30,2),(5,1),(5,1),(5,1)],2)) (by unfold my aM xm;dsimp only;repeat' (first|exact of_decide_eq_true (by kernel_rfl)|apply And.intro|intro _)) (by kernel_rfl) (TR.stop (r:= .inr [(30,2),(10,1),(30,2),(5,1),(5,1),(5,1)]) (fun q=>absurd q (by decide)) (by kernel_rfl) rfl)))
theorem abq:TR (lu Lx) (eB Lx) ([(30,2),(10,1),(30,2),(5,1),(5,1),(5,1)],[10,-1,20,5,5,5],0) (· = [15,-1,15,5,5,5]):=(TR.go (s':=([(30,2),(10,1),(30,2),(5,1),(5,1),(5,1)],[15,-1,20,5,5,5],1)) (by unfold eB;exact of_decide_eq_true (by kernel_rfl)) (by kernel_rfl) (TR.go (s':=([(30,2),(10,1),(30,2),(5,1),(5,1),(5,1)],[15,-1,20,5,5,5],2)) (by unfold eB;exact of_decide_eq_true (by kernel_rfl)) (by kernel_rfl) (TR.go (s':=([(30,2),(10,1),(30,2),(5,1),(5,1),(5,1)],[15,-1,15,5,5,5],3)) (by unfold eB;exact of_decide_eq_true (by kernel_rfl)) (by kernel_rfl) (TR.go (s':=([(30,2),(10,1),(30,2),(5,1),(5,1),(5,1)],[15,-1,15,5,5,5],4)) (by unfold eB;exact of_decide_eq_true (by kernel_rfl)) (by kernel_rfl) (TR.go (s':=([(30,2),(10,1),(30,2),(5,1),(5,1),(5,1)],[15,-1,15,5,5,5],5)) (by unfold eB;exact of_decide_eq_true (by kernel_rfl)) (by kernel_rfl) (TR.go (s':=([(30,2),(10,1),(30,2),(5,1),(5,1),(5,1)],[15,-1,15,5,5,5],6)) (by unfold eB;exact of_decide_eq_true (by kernel_rfl)) (by kernel_rfl) (TR.stop (r:= [15,-1,15,5,5,5]) (by unfold eB;exact of_decide_eq_true (by kernel_rfl)) (by kernel_rfl) rfl)))))))
theorem PF (l:List Int) (h:l.length<1099511627776):uV l/\ uU l=l:=by
 have e:uU l=l:=by unfold uU;rfl
 refine ⟨fun b hb=>⟨?_,fun _=>by omega⟩,e⟩
 cases b with
 |false=>rfl
 |true=>
  have:l= []:=by
   cases l with
   |nil=>rfl
   |cons a r=>exact absurd (hb (by simp)) (by decide)
  subst this;rfl
theorem Wd:kI Lx/\ level Lx=([15,-1,15,5,5,5],0):=by
 have hc:mM ([10,-1,20,5,5,5],false)=false:=by
  unfold mM Mr au
  rw [abr.2];rfl
 obtain ⟨q1,q2⟩:=PF [10,-1,20,5,5,5] (by decide)
 have e2:=abp.2
 have e4:=abq.2
 have e0:=abo.2
 unfold kI level aM au
 have r0:(List.replicate Lx.2.1.length ((0:Int),(0:Int)),(0:Int))=([(0,0),(0,0),(0,0),(0,0),(0,0),(0,0)],0):=rfl
 rw [r0,show mM (Lx.2.1,false)=false from hc,e0]
 dsimp only
 rw [e2]
 dsimp only [Sum.elim_inr,cS]
 rw [show uU Lx.2.1=_ from q2]
 refine ⟨fun _ _=>⟨by decide,fun _ _=>⟨abr.1,fun _=>⟨by decide,⟨abo.1,⟨abp.1,⟨q1,abq.1⟩⟩⟩⟩⟩⟩,?_⟩
 rw [if_neg (by decide),if_neg (by decide),if_neg (by decide),if_neg (by decide),if_neg (by decide)]
 show (run (lu Lx) ([(30,2),(10,1),(30,2),(5,1),(5,1),(5,1)],[10,-1,20,5,5,5],0),(0:Int))=_
 rw [e4]
theorem Wf:kI (3,[10,-1],[((0,0),2,0),((0,0),1,0)])/\ level (3,[10,-1],[((0,0),2,0),((0,0),1,0)])=([],1):=by
 unfold kI level
 refine ⟨fun _ _=>⟨by decide,fun q=>absurd (by decide) q⟩,?_⟩
 rw [if_neg (by decide),if_neg (by decide),if_pos (by decide)]
theorem Ng:mP (([],[],[],[]),0,0,0,[],[])/\ uB (([],[],[],[]),0,0,0,[],[])=([],1):=by
 refine ⟨(Gf _ _ (by decide) (by decide)).1,?_⟩
 have hn: ¬lG (0,0,0,[],[]):=fun h=>absurd h.num.1.1 (by decide)
 unfold uB au
 rcases (G7 (0,0,0,[],[]) (by decide) (by decide)).2 with ⟨_,e⟩|⟨q,_⟩
 ·dsimp only
  rw [e];rfl
 ·exact absurd q hn
theorem J2 (x:Bool):lR x/\ xk x=true:=by
 obtain ⟨a1,a2⟩:=Wd
 obtain ⟨b1,b2⟩:=Wf
 obtain ⟨c1,c2⟩:=fQ (0,0) (9,-9) 4
 rw [if_pos (by decide)] at c2
 have c3:along ((0,0),(9,-9),4)=((4,-5),0):=c2
 obtain ⟨d1,d2⟩:=Ng
 obtain ⟨e1,e2⟩:=K7 ([],[],[],[])
 have hs:nH ([15,-1,15,5,5,5],[15,-1,15,5,5,5])/\ Dz ([15,-1,15,5,5,5],[15,-1,15,5,5,5])=true:=by
  unfold nH Dz au
  refine ⟨fun _=>abt.1,?_⟩
  rw [if_neg (by decide),abt.2];rfl
 unfold lR xk aM au
 rw [show level _=_ from a2,b2,c3,d2]
 dsimp only
 rw [hs.2]
 refine ⟨⟨a1,b1,c1,d1,e1,fun _ _=>hs.1,fun _ _=>hs.1⟩,?_⟩
 cases K6 ([],[],[],[])<;>rfl
end Go.Proofs.YtojielnkfeoccaaGreat
namespace Go.Proofs.YtojielnkfeoccaaGreat
open Go Go.Ev Go.Proofs
theorem Pv (l:Ls):yW l/\ (Jc l=false->l.length<=12/\ ∀p∈l,p.1.length<=15):=by
 have key:TR (fD l) (jS l) (0,0) fun r=>l.length<=12->r= .inl ()\/ ∀p∈l,p.1.length<=15:=by
  by_cases h12:l.length<=12
  ·refine dj l.length (fun i s=>s.2=(i:Int)∧ ∀p∈l.take i,p.1.length≤15) _ (fun i s hi hj=> ?_) (fun s hj=> ?_) ⟨rfl,by simp⟩
   ·obtain ⟨n,z⟩:=s
    obtain ⟨hj,hp⟩:=hj
    dsimp only at hj;subst hj
    refine ⟨?_,?_⟩
    ·unfold jS aM
     intro _ _
     dsimp only
     rw [Int.toNat_natCast]
     exact ⟨by omega,hi,hi,fun _=>⟨by omega,hi,hi,hi⟩⟩
    ·unfold fD au
     dsimp only
     rw [if_pos (by omega),if_pos (by omega),Int.toNat_natCast]
     by_cases c:Jb (l.getD i zP)=true
     ·rw [if_pos c]
      exact .inr ⟨_,rfl,fun _=> .inl rfl⟩
     ·rw [if_neg c]
      refine .inl ⟨_,rfl,Jh hi (by omega),fun p gN=> ?_⟩
      rw [iU hi zP,List.mem_append,List.mem_singleton] at gN
      rcases gN with gN|rfl
      ·exact hp p gN
      ·unfold Jb at c
       refine Classical.byContradiction fun q=>c ?_
       rw [if_pos (by omega)]
   ·obtain ⟨n,z⟩:=s
    obtain ⟨hj,hp⟩:=hj
    dsimp only at hj;subst hj
    rw [List.take_length] at hp
    refine ⟨?_,.inr n,?_,fun _=> .inr hp⟩
    ·unfold jS
     intro q
     dsimp only at q;omega
    ·unfold fD
     dsimp only
     rw [if_neg (by omega)]
  ·refine TR.stop (r:= .inr 0) ?_ ?_ (fun q=>absurd q h12)
   ·unfold jS
    intro _ q
    omega
   ·unfold fD
    dsimp only
    rw [if_pos (by omega),if_neg (by omega)]
 refine ⟨key.1,?_⟩
 have k2:=key.2
 unfold Jc au
 dsimp only
 generalize run (fD l) (0,0)=r at k2 ⊢
 cases r with
 |inl a=>intro q;cases q
 |inr b=>
  intro q
  have q:(if ((l.length:Nat):Int)>12 then true else decide (b>30))=false:=q
  by_cases c:((l.length:Nat):Int)>12
  ·rw [if_pos c] at q;cases q
  ·have h12:l.length≤12:=by omega
   rcases k2 h12 with k|k
   ·cases k
   ·exact ⟨h12,k⟩
theorem Sr (m:vZ):zi (m,[]):=by
 refine .mk _ (fun q=> ?_) (fun s' e=> ?_)
 ·exact absurd q (by simp)
 ·cases e
theorem Qc (m:vZ) (a:Cd):tn (m,a)/\ (Fl (m,a)=true->a.2.2.2.1.length<=12/\ (∀p∈a.2.2.2.1,p.1.length<=15)/\ a.2.2.2.2.length<=30):=by
 obtain ⟨b1,b2⟩:=Pv a.2.2.2.1
 unfold tn Fl aM au
 dsimp only
 refine ⟨⟨Sr m,fun _=>b1⟩,?_⟩
 cases NY (m,[]) with
 |false=>intro q;cases q
 |true=>
  rw [if_pos rfl]
  cases hb:Jc a.2.2.2.1 with
  |true=>intro q;cases q
  |false=>
   rw [if_pos (by decide)]
   by_cases c:((a.2.2.2.2.length:Nat):Int)<=30
   ·intro _
    obtain ⟨b3,b4⟩:=b2 hb
    exact ⟨b3,b4,by omega⟩
   ·rw [if_neg c]
    intro q;cases q
theorem acB (u v:P2×P2):(((u.1.1==v.1.1)&&((u.1.2==v.1.2)&&true))&&(((u.2.1==v.2.1)&&((u.2.2==v.2.2)&&true))&&true))=true↔u=v:=by
 obtain ⟨⟨a,b⟩,c,d⟩:=u
 obtain ⟨⟨a2,b2⟩,c2,d2⟩:=v
 simp [Prod.mk.injEq,and_assoc]
theorem acC (u v:P2):((u.1==v.1)&&((u.2==v.2)&&true))=true↔u=v:=by
 obtain ⟨a,b⟩:=u
 obtain ⟨c,d⟩:=v
 simp [Prod.mk.injEq]
abbrev zQ:P2×P2:=((0,0),0,0)
theorem TW {α:Type} {l:List α} (h:l.Nodup) {i k:Nat} (hk:k<i) (hi:i<l.length) (d:α):l.getD k d≠l.getD i d:=by
 rw [List.getD_eq_getElem?_getD,List.getD_eq_getElem?_getD,List.getElem?_eq_getElem hi,List.getElem?_eq_getElem (by omega)]
 exact List.pairwise_iff_getElem.1 h k i (by omega) hi hk
theorem T4 (X:MA) {l:List (P2×P2)} (hn:l.Nodup) (hl:l.length<1099511627776) (O o:List Int) {i:Nat} (hi:i<l.length):
  TR (eU X) (ic X) (l,O,o,(i:Int),0) fun r=>r= .inr (l,O,o,(i:Int)):=by
 refine dj i (fun k s=>s=(l,O,o,(i:Int),(k:Int))) _ (fun k s hk hj=> ?_) (fun s hj=> ?_) rfl
 ·subst hj
  have hw:aj ((k:Int)+1)=((k+1:Nat):Int):=by rw [bf (by omega) (by omega)];omega
  refine ⟨?_,.inl ⟨_,?_,rfl⟩⟩
  ·unfold ic
   intro _
   dsimp only
   rw [Int.toNat_natCast,Int.toNat_natCast]
   omega
  ·unfold eU
   dsimp only
   rw [if_pos (by omega),Int.toNat_natCast,Int.toNat_natCast,if_neg (fun q=>TW hn hk hi zQ ((acB _ _).1 q)),hw]
 ·subst hj
  refine ⟨?_,_,?_,rfl⟩
  ·unfold ic
   intro q
   dsimp only at q;omega
  ·unfold eU
   dsimp only
   rw [if_neg (by omega)]
theorem XR {a:Cd} {o:List Int} (hw:uc a.1) (hh:uc a.2.1) (hO:Own a.1.toNat a.2.1.toNat (TT a) o) (hlen:(OO a).length=(TT a).length) {j:Int} {p:P2} (h:Tx a o j p):
  (0<=p.1/\ p.1<a.1)/\ (0<=p.2/\ p.2<a.2.1)/\ ∃n:Nat,∃k:Nat,aj (aj (p.2*a.1)+p.1)=(n:Int)/\ n<o.length/\ o.getD n 0=(k:Int)/\ k<(OO a).length/\ (OO a).getD k 0=j:=by
 obtain ⟨x,y,rfl,hx,hy,k,k1,k2,k3⟩:=h
 obtain ⟨w1,w2⟩:=hw
 obtain ⟨h1,h2⟩:=hh
 have hlt:=HH hx hy
 have hidx:=Xx (W:=a.1.toNat) (H:=a.2.1.toNat) (by omega) (by omega) hx hy
 rw [show ((a.1.toNat:Nat):Int)=a.1 by omega] at hidx
 have Yx:=hO.len
 exact ⟨⟨by dsimp only;omega,by dsimp only;omega⟩,⟨by dsimp only;omega,by dsimp only;omega⟩,_,k,hidx,by omega,k2,by omega,k3⟩
theorem R1 {m:vZ} {a:Cd} (hw:uc a.1) (hh:uc a.2.1) {o:List Int} (hO:Own a.1.toNat a.2.1.toNat (TT a) o) (hlen:(OO a).length=(TT a).length) {l:List (P2×P2)} (hn:l.Nodup) (hl:l.length<1099511627776) (hP: ∀p∈l,p.1≠p.2/\ Gp a o p.1 p.2):
  TR (dN (m,a)) (ia (m,a)) (l,OO a,o,0) fun r=>r= .inr ():=by
 refine dj l.length (fun i s=>s=(l,OO a,o,(i:Int))) _ (fun i s hi hj=> ?_) (fun s hj=> ?_) rfl
 ·subst hj
  have Wa:aj ((i:Int)+1)=((i+1:Nat):Int):=by rw [bf (by omega) (by omega)];omega
  have hon:=T4 (m,a) hn hl (OO a) o hi
  obtain ⟨hne,u,v,huv,t1,t2⟩:=hP _ (fc hi zQ)
  obtain ⟨⟨a1,a2⟩,⟨a3,a4⟩,n,k,n1,n2,n3,n4,n5⟩:=XR hw hh hO hlen t1
  obtain ⟨⟨b1,b2⟩,⟨b3,b4⟩,n',k',c1,c2,c3,c4,c5⟩:=XR hw hh hO hlen t2
  refine ⟨?_,.inl ⟨_,?_,rfl⟩⟩
  ·unfold ia
   dsimp only
   rw [Int.toNat_natCast]
   generalize l.getD i ((0,0),0,0)=p at*
   rw [n1,c1,Int.toNat_natCast,Int.toNat_natCast,n3,c3,Int.toNat_natCast,Int.toNat_natCast]
   have z1:(0:Int)<=(i:Int)/\ (i:Int)<(l.length:Int):=by omega
   have z2:(0:Int)<=(n:Int)/\ (n:Int)<(o.length:Int):=by omega
   have z3:(0:Int)<=(n':Int)/\ (n':Int)<(o.length:Int):=by omega
   have z4:(0:Int)<=(k:Int)/\ (k:Int)<((OO a).length:Int):=by omega
   have z5:(0:Int)<=(k':Int)/\ (k':Int)<((OO a).length:Int):=by omega
   exact fun _=>⟨z1,hi,hi,hi,z1,hi,hi,hi,fun _ _ _ _ _ _ _ _ _=>⟨z2,n2,n2,z3,c2,c2,fun _ _ _ _=>⟨z4,n4,n4,z5,c4,c4,fun _=>hon.1⟩⟩⟩
  ·unfold dN au
   dsimp only
   rw [if_pos (by omega),Int.toNat_natCast]
   generalize l.getD i ((0,0),0,0)=p at*
   rw [n1,c1,Int.toNat_natCast,Int.toNat_natCast,n3,c3,Int.toNat_natCast,Int.toNat_natCast]
   rw [if_neg (by omega),if_neg (by omega),if_neg (by omega),if_neg (by omega),if_neg (by omega),if_neg (by omega),if_neg (by omega),if_neg (by omega),if_neg (fun q=>hne ((acC _ _).1 q)),
    if_neg (by omega),if_neg (by omega),if_neg (by omega),if_neg (by omega),if_neg (by rw [n5,c5];simpa using huv),hon.2]
   show Sum.inl (l,OO a,o,aj ((i:Int)+1))=_
   rw [Wa]
 ·subst hj
  refine ⟨?_,_,?_,rfl⟩
  ·unfold ia
   intro q
   dsimp only at q;omega
  ·unfold dN
   dsimp only
   rw [if_neg (by omega)]
theorem Ag (x:MA):nB x/\ vk x=true:=by
 obtain ⟨m,a⟩:=x
 obtain ⟨f1,f2⟩:=Qc m a
 obtain ⟨v1,v2⟩:=J2 false
 unfold nB vk aM au
 cases hf:Fl (m,a) with
 |false=>exact ⟨⟨f1,fun q=>absurd rfl q⟩,rfl⟩
 |true=>
  obtain ⟨b1,b2,b3⟩:=f2 hf
  obtain ⟨s1,s2⟩:=Gf m a (by omega) (by omega)
  dsimp only
  rw [if_neg (by decide),v2]
  rcases s2 with ⟨e,he,s2⟩|⟨hA,l,o,s2,eo,hO,hn,hl,hP⟩
  ·rw [s2]
   dsimp only
   have hb:(e !=0)=true:=by simpa using he
   rw [if_pos hb]
   exact ⟨⟨f1,fun _=>⟨s1,fun _=>v1,fun q=>absurd hb q⟩⟩,rfl⟩
  ·obtain ⟨i1,i2⟩:=G7 a (by omega) (by omega)
   have hwn:uc a.1:=hA.num.1
   have Yr:uc a.2.1:=hA.num.2.1
   have hw1:=hwn.1
   have hh1:=Yr.1
   have hw2:=hwn.2
   have hh2:=Yr.2
   have eW:((a.1.toNat:Nat):Int)=a.1:=by omega
   have eH:((a.2.1.toNat:Nat):Int)=a.2.1:=by omega
   obtain ⟨t1,t2,t3⟩:=rJ hA.XM a.2.2.2.2 a.2.2.1 a.2.2.2.1.length (Nat.le_refl _)
   have hTl:(TT a).length=(rI a.2.2.2.1 a.2.2.2.2 a.2.2.1 a.2.2.2.1.length).length:=rfl
   have hOl:(OO a).length=(yS a.2.2.2.1 a.2.2.2.1.length).length:=rfl
   have ow:=AJ a.1.toNat a.2.1.toNat (by rw [eW];exact hwn) (by rw [eH];exact Yr) (TT a) (by omega)
   rw [eW,eH] at ow
   have key:=R1 (m:=m) hwn Yr hO (by omega) hn hl hP
   have hm:a.1.toNat*a.2.1.toNat<=256*256:=Nat.mul_le_mul (by omega) (by omega)
   have hN: ¬((((o.length:Nat):Int) !=aj (a.1*a.2.1))=true):=by
    have:a.1*a.2.1=((a.1.toNat*a.2.1.toNat:Nat):Int):=by rw [Int.natCast_mul,eW,eH]
    rw [this,bf (by omega) (by omega),hO.len];simp
   have hq: ¬(((((OO a).length:Nat):Int) !=(((TT a).length:Nat):Int))=true):=by
    rw [show (OO a).length=(TT a).length by omega];simp
   rcases i2 with ⟨q,_⟩|⟨_,e⟩
   ·exact absurd hA q
   have e:allM a=(TT a,OO a,0):=e
   rw [s2,e]
   dsimp only
   rw [eo]
   dsimp only
   rw [if_neg (by decide),if_neg (by decide),if_neg (by decide),if_neg hN,if_neg hq,key.2]
   exact ⟨⟨f1,fun _=>⟨s1,fun q=>absurd q (by decide),fun _=>⟨i1,ow.1,fun _ _ _ _=>⟨key.1,v1⟩⟩⟩⟩,rfl⟩
end Go.Proofs.YtojielnkfeoccaaGreat
