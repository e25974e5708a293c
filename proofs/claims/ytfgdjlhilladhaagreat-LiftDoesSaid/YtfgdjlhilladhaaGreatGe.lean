/- Plain laws: samples. -/
import Derived.Test.YtfgdjlhilladhaaGreatHs
import Derived.Test.YtfgdjlhilladhaaGreatQm
noncomputable section
set_option linter.unusedSectionVars false
set_option linter.unusedVariables false
set_option linter.unusedSimpArgs false
namespace Go.Proofs.YtfgdjlhilladhaaGreat
open Go Go.Ev Go.Proofs
abbrev Smp:Type:=Int×(Int×Int×P3)
abbrev zS:Smp:=(0,0,0,0,0,0)
theorem TM (i:Int) (m:rq):aa0 (i,m)=true↔ ¬Has m i:=by
 unfold aa0 Has
 dsimp only
 by_cases h:i<0
 ·rw [if_pos h];simp only [true_iff];omega
 ·rw [if_neg h,decide_eq_true_eq];omega
theorem M4 (l:List Int) (hl:l.length<4611686018427387904) (m:rq):sN (l,m)/\ zn (l,m)=l.any fun o=>aa0 (o,m):=by
 have h:=kW l hl (fun o=>aa0 (o,m)) (jv (l,m)) (sU (l,m)) (fun i hi=>by
   unfold sU
   intro h
   simp only [Int.toNat_natCast]
   dsimp only at h ⊢;omega) (fun i x hx=>by
   have hlt:=bt hx
   unfold jv aq
   rw [if_pos (by dsimp only;omega),Int.toNat_natCast]
   dsimp only
   rw [cY hx]) (by
   unfold jv
   rw [if_neg (by dsimp only;omega)])
 refine ⟨h.1,?_⟩
 have e:WA (l,m)=_:=h.2
 unfold zn aq
 rw [e]
 exact xD l _
def Ins (m:rq) (l:M0):Prop:= ∀i∈eO l,Has m i
theorem Z2 {l:M0} (h: ∀p∈l,p.1.length<=1000000): ∀k,k<=l.length->(eO (l.take k)).length<=1000000*k:=by
 intro k
 induction k with
 |zero=>intro _;simp [eO]
 |succ k ih=>
  intro hk
  have:=ih (by omega)
  have:=h _ (cq (show k<l.length by omega) zP)
  rw [eV (show k<l.length by omega) zP,nD,List.length_append]
  omega
theorem Hl (m:rq) (a:GR) (hl:a.2.2.2.1.length<=1000) (hp: ∀p∈a.2.2.2.1,p.1.length<=1000000):
  rU (m,a)/\ (ve (m,a)).1=eO a.2.2.2.1/\ ((ve (m,a)).2=true↔Ins m a.2.2.2.1):=by
 have key:TR (fD (m,a)) (l6 (m,a)) ([],0) fun r=>r=eO a.2.2.2.1:=by
  refine bg a.2.2.2.1.length (fun i s=>s=(eO (a.2.2.2.1.take i),(i:Int))) _ (fun i s hi hj=> ?_) (fun s hj=> ?_) rfl
  ·subst hj
   have h1:=Z2 hp i (by omega)
   have h2:=hp _ (cq hi zP)
   refine ⟨?_,.inl ⟨_,?_,rfl⟩⟩
   ·unfold l6
    intro _
    dsimp only
    rw [Int.toNat_natCast]
    have h3:(a.2.2.2.1.getD i ([],[],0,0)).1.length<=1000000:=h2
    exact ⟨by omega,hi,hi,by omega⟩
   ·unfold fD
    dsimp only
    rw [if_pos (by omega),Int.toNat_natCast,lO hi (by omega),eV hi zP,nD]
  ·subst hj
   rw [List.take_length]
   refine ⟨?_,_,?_,rfl⟩
   ·unfold l6
    intro q
    dsimp only at q;omega
   ·unfold fD
    dsimp only
    rw [if_neg (by omega)]
 have h1:=Z2 hp a.2.2.2.1.length (Nat.le_refl _)
 rw [List.take_length] at h1
 have hlen:(eO a.2.2.2.1).length<4611686018427387904:=by omega
 obtain ⟨c1,c2⟩:=M4 (eO a.2.2.2.1) hlen m
 have k2:=key.2
 unfold rU ve az aq
 dsimp only
 rw [k2]
 refine ⟨⟨key.1,c1⟩,rfl,?_⟩
 rw [c2,Bool.not_eq_true',List.any_eq_false]
 unfold Ins
 constructor
 ·intro h i hi
  have:=h i hi
  rw [TM] at this
  exact Classical.byContradiction this
 ·intro h i hi
  rw [TM]
  exact fun q=>q (h i hi)
theorem WU {m:rq} {i:Int} (hm:uG m=true) (h:Has m i):rV (m,i):=by
 obtain ⟨h1,h2,h3⟩:=Yq (MI hm h)
 unfold Tr at h1 h2 h3
 unfold rV
 dsimp only at h1 h2 h3 ⊢
 omega
theorem aj2 {m:rq} {i:Int} (hm:uG m=true) (h:Has m i):Cw (jh (m,i)).1/\ Cw (jh (m,i)).2.1/\ Cw (jh (m,i)).2.2:=by
 obtain ⟨h1,h2,h3⟩:=Yq (MI hm h)
 have hN: ∀p∈m.1,Nr p:=by
  unfold uG at hm
  simp only [Bool.and_eq_true,decide_eq_true_eq] at hm
  exact hm.2
 have e:jh (m,i)=(Pt m (Tr m i).1.1,Pt m (Tr m i).2.1.1,Pt m (Tr m i).2.2.1):=rfl
 have key: ∀v:Int,0<=v/\ v<m.1.length->Cw (Pt m v):=fun v hv=>by
  have:=hN (Pt m v) (by unfold Pt;exact cq (by omega) _)
  unfold Cw;omega
 rw [e]
 exact ⟨key _ h1,key _ h2,key _ h3⟩
section
variable (m:rq) (W:Nat) (T:List T2) (at_:List Int) (o:List Int)
def lpt (n:Nat):P3×Int:=iz (((n % W:Nat):Int),((n / W:Nat):Int),T.getD (o.getD n 0).toNat zT,jh (m,at_.getD (o.getD n 0).toNat 0))
def smp (n:Nat):Option Smp:=if o.getD n 0<0 then none else some (((n % W:Nat):Int),((n / W:Nat):Int),at_.getD (o.getD n 0).toNat 0,(lpt m W T at_ o n).1)
def o7:Nat->List Smp
 |0=> []
 |n+1=>o7 n++(smp m W T at_ o n).toList
theorem JD: ∀n,(o7 m W T at_ o n).length<=n
 |0=>Nat.le_refl _
 |n+1=>by
  have:=JD n
  have h:(smp m W T at_ o n).toList.length<=1:=by cases smp m W T at_ o n<;>simp
  rw [o7,List.length_append];omega
end
structure Gd (m:rq) (W H:Nat) (T:List T2) (at_:List Int) (o:List Int):Prop where
 w:pM (W:Int)
 h:pM (H:Int)
 own:Own W H T o
 len:at_.length=T.length
 ins: ∀i∈at_,Has m i
 GL:uG m=true
 pts: ∀n,n<W*H-> ¬o.getD n 0<0->(lpt m W T at_ o n).2=0
theorem Gd.at_ {m:rq} {W H:Nat} {T:List T2} {at_:List Int} {o:List Int} (g:Gd m W H T at_ o) {n:Nat} (hn:n<W*H) (h: ¬o.getD n 0<0):
  0<=o.getD n 0/\ (o.getD n 0).toNat<T.length/\ (o.getD n 0).toNat<at_.length/\ o.getD n 0<(T.length:Int)/\ o.getD n 0<(at_.length:Int)/\ Has m (at_.getD (o.getD n 0).toNat 0):=by
 have hlen:=g.len
 rcases g.own.has n hn with q|⟨j,h1,h2,_⟩
 ·omega
 ·exact ⟨by omega,by omega,by omega,by omega,by omega,g.ins _ (cq (by omega) 0)⟩
section
variable {m:rq} {a:GR} {W H:Nat} {T:List T2} {at_:List Int} {o:List Int}
theorem acp (hw:a.1=(W:Int)) (g:Gd m W H T at_ o) (y:Nat) (hy:y<H):
  TR (eR (m,a)) (iK (m,a)) (T,at_,o,o7 m W T at_ o (y*W),(y:Int),(y:Int),0) fun r=>r= .inr (T,at_,o,o7 m W T at_ o ((y+1)*W),(y:Int)):=by
 obtain ⟨w1,w2⟩:=g.w
 obtain ⟨h1,h2⟩:=g.h
 have hm:W*H<=256*256:=Nat.mul_le_mul (by omega) (by omega)
 refine bg W (fun k s=>s=(T,at_,o,o7 m W T at_ o (y*W+k),(y:Int),(y:Int),(k:Int))) _ (fun k s hk hj=> ?_) (fun s hj=> ?_) rfl
 ·subst hj
  have hidx:=adY (W:=W) (H:=H) (by omega) (by omega) hk hy
  have hlt:=Ko hk hy
  have hlen:=g.own.len
  have hsl:=JD m W T at_ o (y*W+k)
  have hstep:aj ((k:Int)+1)=((k+1:Nat):Int):=by rw [ay (by omega) (by omega)];omega
  by_cases c:o.getD (y*W+k) 0<0
  ·have hs:o7 m W T at_ o (y*W+(k+1))=o7 m W T at_ o (y*W+k):=by
    rw [<- Nat.add_assoc,o7]
    unfold smp
    rw [if_pos c];simp
   refine ⟨?_,.inl ⟨_,?_,rfl⟩⟩
   ·unfold iK
    intro _
    dsimp only
    rw [hw,hidx,Int.toNat_natCast]
    exact ⟨by omega,by omega,by omega,fun q=>absurd c q⟩
   ·unfold eR
    dsimp only
    rw [hw,if_pos (by omega),hidx,Int.toNat_natCast,if_pos c,hstep,hs]
  ·obtain ⟨g1,g2,g3,g4,g5,g6⟩:=g.at_ hlt c
   have hp:=WU g.GL g6
   have hpt:iz ((k:Int),(y:Int),T.getD (o.getD (y*W+k) 0).toNat zT,jh (m,at_.getD (o.getD (y*W+k) 0).toNat 0))=lpt m W T at_ o (y*W+k):=by
    unfold lpt
    rw [rM hk,rN hk]
   have hs:o7 m W T at_ o (y*W+(k+1))=o7 m W T at_ o (y*W+k)++ [((k:Int),(y:Int),at_.getD (o.getD (y*W+k) 0).toNat 0,(lpt m W T at_ o (y*W+k)).1)]:=by
    rw [<- Nat.add_assoc,o7]
    unfold smp
    rw [if_neg c,rM hk,rN hk];rfl
   refine ⟨?_,?_⟩
   ·unfold iK az
    intro _
    dsimp only
    rw [hw,hidx,Int.toNat_natCast]
    exact ⟨by omega,by omega,by omega,fun _=>⟨⟨g1,g4⟩,g2,g2,⟨g1,g5⟩,g3,g3,hp,zJ _,fun _=>⟨⟨g1,g5⟩,g3,g3,by omega⟩⟩⟩
   ·unfold eR aq
    dsimp only
    rw [hw,if_pos (by omega),hidx,Int.toNat_natCast,if_neg c]
    rw [show iz ((k:Int),(y:Int),T.getD (o.getD (y*W+k) 0).toNat ((0,0),(0,0),0,0),jh (m,at_.getD (o.getD (y*W+k) 0).toNat 0))=_ from hpt]
    refine .inl ⟨_,?_,rfl⟩
    rw [if_neg (by rw [g.pts _ hlt c];decide),hstep,hs]
 ·subst hj
  refine ⟨?_,.inr _,?_,rfl⟩
  ·unfold iK
   intro q
   dsimp only at q;omega
  ·unfold eR
   dsimp only
   rw [hw,if_neg (by omega),show (y+1)*W=y*W+W by rw [Nat.add_mul,Nat.one_mul]]
theorem acq (hw:a.1=(W:Int)) (hh:a.2.1=(H:Int)) (g:Gd m W H T at_ o):
  TR (gO (m,a)) (kJ (m,a)) (T,at_,o,[],0) fun r=>r= .inr (o7 m W T at_ o (W*H)):=by
 obtain ⟨h1,h2⟩:=g.h
 refine bg H (fun y s=>s=(T,at_,o,o7 m W T at_ o (y*W),(y:Int))) _ (fun y s hy hj=> ?_) (fun s hj=> ?_) (by rw [Nat.zero_mul];rfl)
 ·subst hj
  have key:=acp hw g y hy
  refine ⟨?_,?_⟩
  ·unfold kJ
   intro _
   exact key.1
  ·unfold gO aq
   dsimp only
   rw [hh,if_pos (by omega)]
   rw [key.2]
   refine .inl ⟨_,?_,rfl⟩
   show Sum.inl _=_
   rw [ay (n:=(y:Int)+1) (by omega) (by omega)]
   dsimp only
   congr 6
 ·subst hj
  refine ⟨?_,_,?_,rfl⟩
  ·unfold kJ
   intro q
   dsimp only at q;omega
  ·unfold gO
   dsimp only
   rw [hh,if_neg (by omega),Nat.mul_comm W H]
end
def TT (a:GR):List T2:=sL a.2.2.2.1 a.2.2.2.2 a.2.2.1 a.2.2.2.1.length
structure Fit (m:rq) (a:GR):Prop where
 GL:uG m=true
 atl:qt a
 ins:Ins m a.2.2.2.1
theorem aga {a:GR} (hA:qt a):Rt a.1.toNat a.2.1.toNat (TT a):=fun t ht=>by
 have hw1:=hA.num.1.1
 have hh1:=hA.num.2.1.1
 have h:=amb hA ht
 rw [show ((a.1.toNat:Nat):Int)=a.1 by omega,show ((a.2.1.toNat:Nat):Int)=a.2.1 by omega]
 exact h
theorem aiy {m:rq} {a:GR} (f:Fit m a) (hl:a.2.2.2.1.length<=1000) {o:List Int} (hO:Own a.1.toNat a.2.1.toNat (TT a) o):Gd m a.1.toNat a.2.1.toNat (TT a) (eO a.2.2.2.1) o:=by
 have hwn:pM a.1:=f.atl.num.1
 have hhn:pM a.2.1:=f.atl.num.2.1
 have hw1:=hwn.1
 have hh1:=hhn.1
 have eW:((a.1.toNat:Nat):Int)=a.1:=by omega
 have eH:((a.2.1.toNat:Nat):Int)=a.2.1:=by omega
 have hTl:=tH f.atl.rgt a.2.2.2.2 a.2.2.1 a.2.2.2.1.length (Nat.le_refl _)
 rw [List.take_length] at hTl
 have hlen:(eO a.2.2.2.1).length=(TT a).length:=hTl.1.symm
 refine ⟨by rw [eW];exact hwn,by rw [eH];exact hhn,hO,hlen,f.ins,f.GL,fun n hn hc=> ?_⟩
 rcases hO.has n hn with q|⟨j,h1,h2,_⟩
 ·omega
 ·have hR:=aga f.atl _ (cq h1 zT)
  have hj:(o.getD n 0).toNat=j:=by omega
  have hH:=f.ins _ (cq (show j<(eO a.2.2.2.1).length by omega) 0)
  have hWp:0<a.1.toNat:=by omega
  have hx:=Nat.mod_lt n hWp
  have hy:n / a.1.toNat<a.2.1.toNat:=(Nat.div_lt_iff_lt_mul hWp).2 (by rw [Nat.mul_comm];exact hn)
  have hw2:=hwn.2
  have hh2:=hhn.2
  unfold lpt
  rw [hj]
  refine TO ⟨Int.natCast_nonneg _,Int.ofNat_lt.2 (show n % a.1.toNat<256 by omega),Int.natCast_nonneg _,Int.ofNat_lt.2 (show n / a.1.toNat<256 by omega)⟩ ?_ (aj2 f.GL hH)
  have hm:=hR.2
  have e:=iA ((TT a).getD j zT).1 ((TT a).getD j zT).2.1 ((TT a).getD j zT).2.2
  exact of_decide_eq_true (e.symm.trans hm)
theorem Rv (m:rq) (a:GR) (hl:a.2.2.2.1.length<=1000) (FC:a.2.2.2.2.length<=1000) (hp: ∀p∈a.2.2.2.1,p.1.length<=1000000):
  fM (m,a)/\ ((¬Fit m a/\ fK (m,a)=([],1))\/ (Fit m a/\ ∃o,Own a.1.toNat a.2.1.toNat (TT a) o/\ fK (m,a)=(o7 m a.1.toNat (TT a) (eO a.2.2.2.1) o (a.1.toNat*a.2.1.toNat),0))):=by
 obtain ⟨i1,i2⟩:=YG a (by omega) (by omega)
 obtain ⟨p1,p2,p3⟩:=Hl m a hl hp
 obtain ⟨t1,t2⟩:=af7 m
 unfold fM fK az aq
 dsimp only
 rcases i2 with ⟨hn,e⟩|⟨hA,e⟩
 ·rw [e]
  exact ⟨⟨i1,p1,fun q=>absurd rfl q⟩,.inl ⟨fun f=>hn f.atl,rfl⟩⟩
 ·have hwn:pM a.1:=hA.num.1
  have hhn:pM a.2.1:=hA.num.2.1
  have hw1:=hwn.1
  have hh1:=hhn.1
  have eW:((a.1.toNat:Nat):Int)=a.1:=by omega
  have eH:((a.2.1.toNat:Nat):Int)=a.2.1:=by omega
  have hTl:=tH hA.rgt a.2.2.2.2 a.2.2.1 a.2.2.2.1.length (Nat.le_refl _)
  rw [List.take_length] at hTl
  have ow:=U3 a.1.toNat a.2.1.toNat (by rw [eW];exact hwn) (by rw [eH];exact hhn) (TT a) (by unfold TT;omega)
  rw [show sL a.2.2.2.1 a.2.2.2.2 a.2.2.1 a.2.2.2.1.length=TT a from rfl] at e hTl
  rw [e]
  cases hb:(ve (m,a)).2 with
  |false=>
   exact ⟨⟨i1,p1,fun _ q=>absurd (by decide) q⟩,.inl ⟨fun f=>(by rw [p3.2 f.ins] at hb;cases hb),rfl⟩⟩
  |true=>
   have am5:=p3.1 hb
   cases ht:uG m with
   |false=>
    rw [t2,ht]
    exact ⟨⟨i1,p1,fun _ _=>⟨t1,fun q=>absurd (by decide) q⟩⟩,.inl ⟨fun f=>(by rw [f.GL] at ht;cases ht),rfl⟩⟩
   |true=>
    rw [t2,ht,p2]
    dsimp only
    have f:Fit m a:=⟨ht,hA,am5⟩
    rcases ow.2 with ⟨q,_⟩|⟨_,o,eo,hO⟩
    ·exact absurd (aga hA) q
    ·rw [eW,eH] at ow eo
     rw [eo]
     have key:=acq (a:=a) eW.symm eH.symm (aiy f hl hO)
     refine ⟨⟨i1,p1,fun _ _=>⟨t1,fun _=>⟨ow.1,fun _=>key.1⟩⟩⟩,.inr ⟨f,o,hO,?_⟩⟩
     rw [key.2];rfl
theorem tR (s:Smp) (p:P2):rS (s,p)=true↔s.1=p.1/\ s.2.1=p.2:=by
 unfold rS
 simp
theorem Y0 (l:List Smp) (hl:l.length<4611686018427387904) (p:P2):Dh (l,p)/\
  ((∃s∈l,(s.1=p.1/\ s.2.1=p.2)/\ YZ (l,p)=(s,true))\/ ((∀s∈l,¬(s.1=p.1/\ s.2.1=p.2))/\ YZ (l,p)=(zS,false))):=by
 have h:=kW l hl (fun s=>rS (s,p)) (di (l,p)) (ko (l,p)) (fun i hi=>by
   unfold ko
   intro h
   simp only [Int.toNat_natCast]
   dsimp only at h ⊢;omega) (fun i x hx=>by
   have hlt:=bt hx
   unfold di aq
   rw [if_pos (by dsimp only;omega),Int.toNat_natCast]
   dsimp only
   rw [cY hx]) (by
   unfold di
   rw [if_neg (by dsimp only;omega)])
 have e:F6 (l,p)=_:=h.2
 unfold Dh YZ az aq
 rw [e]
 cases hx:l.findIdx? fun s=>rS (s,p) with
 |none=>
  refine ⟨⟨h.1,fun q=>absurd q (by decide)⟩,.inr ⟨fun s hs=> ?_,rfl⟩⟩
  rw [List.findIdx?_eq_none_iff] at hx
  have:=hx s hs
  rw [<- tR,this];decide
 |some i=>
  rw [List.findIdx?_eq_some_iff_getElem] at hx
  obtain ⟨h1,h2,_⟩:=hx
  dsimp only
  refine ⟨⟨h.1,fun _=>by rw [Int.toNat_natCast];omega⟩,.inl ⟨l[i],List.getElem_mem h1,(tR _ _).1 h2,?_⟩⟩
  rw [if_pos (by omega),Int.toNat_natCast,List.getD_eq_getElem?_getD,List.getElem?_eq_getElem h1];rfl
theorem ago: ¬qt (0,0,0,[],[]):=fun h=>by
 have:=h.num.1.1
 exact absurd this (by decide)
theorem AW:fM (([],[],[],[]),0,0,0,[],[])/\ fK (([],[],[],[]),0,0,0,[],[])=([],1):=by
 obtain ⟨i1,i2⟩:=YG (0,0,0,[],[]) (by decide) (by decide)
 obtain ⟨p1,p2,p3⟩:=Hl ([],[],[],[]) (0,0,0,[],[]) (by decide) (fun p hp=>by cases hp)
 rcases i2 with ⟨_,e⟩|⟨hA,_⟩
 ·unfold fM fK az aq
  dsimp only
  rw [e]
  exact ⟨⟨i1,p1,fun q=>absurd rfl q⟩,rfl⟩
 ·exact absurd hA ago
theorem aaX (x:Bool):sX x:=⟨zJ _,zJ _,AW.1,(Y0 _ (by decide) _).1⟩
theorem ahi:YZ ([((1:Int),(0:Int),(0:Int),(0:Int),(0:Int),(0:Int)),((1:Int),(0:Int),(2:Int),(0:Int),(0:Int),(0:Int))],(1:Int),(0:Int))=(((1:Int),(0:Int),(0:Int),(0:Int),(0:Int),(0:Int)),true):=by
 unfold YZ F6 aq
 have e:run (di ([((1:Int),(0:Int),(0:Int),(0:Int),(0:Int),(0:Int)),((1:Int),(0:Int),(2:Int),(0:Int),(0:Int),(0:Int))],(1:Int),(0:Int))) 0= .inl 0:=by
  rw [run_eq];rfl
 rw [e];rfl
theorem WR (x:Bool):tQ x=true:=by
 unfold tQ aq
 rw [AW.2,ahi,B0,B0,rR,rR,zV,zV]
 decide
end Go.Proofs.YtfgdjlhilladhaaGreat
