/- Plain laws: what is built of triangles; the document's rows. -/
import Derived.Test.YtaipcbdilkcdbaaUd
noncomputable section
set_option linter.unusedSectionVars false
set_option linter.unusedVariables false
set_option linter.unusedSimpArgs false
namespace Go.Proofs.Ytaipcbdilkcdbaa
open Go Go.Ev Go.Proofs
theorem uL (t:T3):uM t/\ (x4 t=true↔ ¬ ∀p∈Qy t,FN p):=by
 obtain ⟨s1,s2⟩:=uK [t.1,t.2.1,t.2.2] (by simp)
 refine ⟨s1,?_⟩
 unfold x4 ai
 rw [s2,Bool.not_eq_true',decide_eq_false_iff_not]
 exact Iff.rfl
theorem B4 (L:List T3) (hl:L.length<4611686018427387904):kU L/\ (l8 L=true↔Ns L):=by
 have hh:=p9 L hl x4 (gY (L,false)) (oI (L,false)) (fun i hi=>by
   unfold oI
   intro h
   simp only [Int.toNat_natCast]
   dsimp only at h ⊢
   exact ⟨by omega,by omega,by omega,(uL _).1⟩) (fun i x hx=>by
   have hlt:=kH hx
   unfold gY ai
   dsimp only
   rw [if_pos (by omega),Int.toNat_natCast,sH hx]) (by
   unfold gY
   dsimp only
   rw [if_neg (by omega)])
 refine ⟨hh.1,?_⟩
 have e:Jg (L,false)=_:=hh.2
 unfold l8 xw ai
 dsimp only
 rw [e]
 have e2:=vo L x4
 refine (iff_of_eq (congrArg (fun b:Bool=>(!b)=true) e2)).trans ?_
 rw [Bool.not_eq_true',List.any_eq_false]
 unfold Ns
 constructor
 ·intro h t ht
  have:=h t ht
  rw [(uL t).2] at this
  exact Classical.byContradiction this
 ·intro h t ht
  rw [(uL t).2]
  exact fun q=>q (h t ht)
def zG (n:Nat):List Int:=(List.range n).map fun (i:Nat)=>(i:Int)
theorem wD (n:Nat):(zG n).length=n:=by simp [zG]
theorem Qa (n:Nat):zG (n+1)=zG n++ [(n:Int)]:=by simp [zG,List.range_succ]
theorem wE (n:Nat) (x:Int):x∈zG n↔0<=x/\ x<(n:Int):=by
 simp only [zG,List.mem_map,List.mem_range]
 constructor
 ·rintro ⟨a,ha,rfl⟩;omega
 ·rintro ⟨h1,h2⟩;exact ⟨x.toNat,by omega,by omega⟩
theorem DY (n:Nat):(zG n).Nodup:=by
 unfold zG
 rw [List.nodup_iff_pairwise_ne,List.pairwise_map]
 exact (List.nodup_iff_pairwise_ne.1 List.nodup_range).imp fun h e=>h (by omega)
theorem Iv (L:List T3) (hl:L.length<=1000):TR (fm L) (kY L) (List.replicate L.length 0,0) fun r=>r=zG L.length:=by
 have OL:(List.replicate L.length (0:Int)).length=L.length:=List.length_replicate
 refine fU L.length (fun i s=>s=(zG i++List.replicate (L.length- i) 0,(i:Int))) _ (fun i s hi hJ=> ?_) (fun s hJ=> ?_) (by simp [zG])
 ·subst hJ
  have hlen:(zG i++List.replicate (L.length- i) (0:Int)).length=L.length:=by rw [List.length_append,wD,List.length_replicate];omega
  have fF:(zG i++List.replicate (L.length- i) (0:Int)).set i (i:Int)=zG (i+1)++List.replicate (L.length- (i+1)) 0:=by
   have e:L.length- i=(L.length- (i+1))+1:=by omega
   rw [e,List.replicate_succ,Qa]
   have:=z7 (zG i) (List.replicate (L.length- (i+1)) (0:Int)) 0 (i:Int)
   rw [wD] at this
   rw [this];simp
  refine ⟨?_,.inl ⟨_,?_,rfl⟩⟩
  ·unfold kY
   intro _
   dsimp only
   rw [Int.toNat_natCast,hlen];omega
  ·unfold fm ai
   dsimp only
   rw [OL,if_pos (by omega),Int.toNat_natCast,fF,CB hi (by omega)]
 ·subst hJ
  refine ⟨?_,zG L.length++List.replicate (L.length- L.length) 0,?_,by simp⟩
  ·unfold kY
   intro q
   dsimp only at q
   rw [OL] at q;omega
  ·unfold fm
   dsimp only
   rw [OL,if_neg (by omega)]
theorem Aq (L:List T3) (hl:L.length<=500):mR L/\ ((¬Ns L/\ qW L=([],5))\/ (Ns L/\ ∃G N U,qW L=(G,0)/\ G.length<=1000/\ jD L 0 (-1) (zG L.length) G N U)):=by
 obtain ⟨s1,s2⟩:=B4 L (by omega)
 have k:=Iv L (by omega)
 have hi:Ae L (zG L.length):=fun i h=>(wE _ _).1 h
 obtain ⟨g1,G,N,U,g2,g3,g4⟩:=L7 (L:=L) (pl:=zG L.length) [] hi (by rw [wD];omega) (by simp)
 have hb: ¬((L.length:Nat):Int)>500:=by omega
 unfold mR qW ay ai
 rw [if_neg hb]
 cases hs:l8 L with
 |false=>
  exact ⟨fun _=>⟨s1,fun q=>absurd (by decide) q⟩,.inl ⟨fun q=>(by rw [s2.2 q] at hs;cases hs),rfl⟩⟩
 |true=>
  dsimp only
  rw [if_neg (by decide),k.2]
  rw [wD] at g3
  refine ⟨fun _=>⟨s1,fun _=>⟨⟨by omega,by omega⟩,k.1,g1⟩⟩,.inr ⟨s2.1 hs,G,N,U,?_,by omega,g4⟩⟩
  rw [g2];rfl
theorem G4 (i:Int) (L:List T3):MH (i,L)=true↔ ¬(0<=i/\ i<(L.length:Int)):=by
 unfold MH
 dsimp only
 by_cases h:i<0
 ·rw [if_pos h];simp only [true_iff];omega
 ·rw [if_neg h,decide_eq_true_eq];omega
theorem CC (l:List Int) (hl:l.length<4611686018427387904) (L:List T3):iX (l,L)/\ (iD (l,L)=true↔ ¬Ae L l):=by
 have hh:=p9 l hl (fun o=>MH (o,L)) (gW (l,L)) (oG (l,L)) (fun i hi=>by
   unfold oG
   intro h
   simp only [Int.toNat_natCast]
   dsimp only at h ⊢;omega) (fun i x hx=>by
   have hlt:=kH hx
   unfold gW ai
   dsimp only
   rw [if_pos (by omega),Int.toNat_natCast,sH hx]) (by
   unfold gW
   dsimp only
   rw [if_neg (by omega)])
 refine ⟨hh.1,?_⟩
 have e:Je (l,L)=_:=hh.2
 unfold iD ai
 rw [e]
 refine (iff_of_eq (congrArg (fun b:Bool=>b=true) (vo l fun o=>MH (o,L)))).trans ?_
 rw [List.any_eq_true]
 unfold Ae
 constructor
 ·rintro ⟨x,h1,h2⟩ h3
  rw [G4] at h2
  exact h2 (h3 x h1)
 ·intro h
  refine Classical.byContradiction fun h2=>h fun i hi=>Classical.byContradiction fun h3=>h2 ⟨i,hi,?_⟩
  rw [G4];exact h3
theorem Ck {L:List T3} {pl:List Int} (hL:L.length<=1000) (hl:pl.length<=1000):nC (L,pl)/\
  ((¬Ns L/\ ny (L,pl)=([],([],5)))\/ (Ns L/\ ¬(2<=pl.length/\ Ae L pl)/\ ny (L,pl)=([],([],1)))\/ (Ns L/\ 2<=pl.length/\ Ae L pl/\ ny (L,pl)=((tj L pl).take (pl.length / 2),((tj L pl).drop (pl.length / 2),0)))):=by
 obtain ⟨s1,s2⟩:=B4 L (by omega)
 obtain ⟨c1,c2⟩:=CC pl (by omega) L
 unfold nC ny ay ai
 dsimp only
 cases hs:l8 L with
 |false=>exact ⟨⟨s1,fun q=>absurd (by decide) q⟩,.inl ⟨fun q=>(by rw [s2.2 q] at hs;cases hs),rfl⟩⟩
 |true=>
  rw [if_neg (by decide)]
  have hS:=s2.1 hs
  by_cases h2:((pl.length:Nat):Int)<2
  ·rw [if_pos h2]
   exact ⟨⟨s1,fun _ q=>absurd h2 q⟩,.inr (.inl ⟨hS,fun q=>by omega,rfl⟩)⟩
  ·rw [if_neg h2]
   cases hc:iD (pl,L) with
   |true=>exact ⟨⟨s1,fun _ _=>⟨c1,fun q=>absurd rfl q⟩⟩,.inr (.inl ⟨hS,fun q=>(c2.1 hc) q.2,rfl⟩)⟩
   |false=>
    have hi:Ae L pl:=Classical.byContradiction fun q=>by rw [c2.2 q] at hc;cases hc
    obtain ⟨b1,_⟩:=u6 hi (by omega)
    obtain ⟨g1,g2,g3⟩:=yM (fT (L,pl))
    have hf:cJ (L,Vf L pl) pl:=⟨by omega,fun e he=>hi e he,g2,g3⟩
    obtain ⟨t1,t2⟩:=HB hf
    have yx:=(xb (L,Vf L pl) pl).length_eq
    have e1:ae (Int.tdiv ((pl.length:Nat):Int) 2)=((pl.length / 2:Nat):Int):=by
     rw [Int.tdiv_eq_ediv_of_nonneg (by omega),cC (by omega) (by omega)];omega
    have t2':(tS (ji pl,(L,(fP (fT (L,pl))).1))).2.1=tj L pl:=t2
    have t1':kV (ji pl,(L,(fP (fT (L,pl))).1)):=t1
    have hlen:(tj L pl).length=pl.length:=yx
    rw [t2',hlen,e1,Int.toNat_natCast,if_neg (by decide)]
    refine ⟨⟨s1,fun _ _=>⟨c1,fun _=>⟨b1,g1,ve pl (by omega),t1',⟨by omega,by omega⟩,⟨by omega,by omega⟩,⟨by omega,by omega⟩,ve _ (by rw [List.length_drop];omega)⟩⟩⟩,.inr (.inr ⟨hS,by omega,hi,rfl⟩)⟩
theorem JU (r:RT) (d:List Int):(VA r d).Pairwise fun x y=>c5 r y x=false:=by
 have h:=List.pairwise_mergeSort (le:=fun x y=> !c5 r y x) (fun a b c h1 h2=>by
  simp only [Bool.not_eq_true'] at h1 h2 ⊢
  rw [vP] at*;omega) (fun a b=>by
  simp only [Bool.or_eq_true,Bool.not_eq_true']
  rw [vP,vP];omega) d
 exact h.imp fun h=>by simpa using h
theorem U6 {r:RT} {d e:List Int} (hp:d.Perm e) (hs:e.Pairwise fun x y=>c5 r y x=false):VA r d=e:=
 ((xb r d).trans hp).eq_of_pairwise (fun a b _ _ h1 h2=>(Dv r a b h2 h1)) (JU r d) hs
instance (p q:P3):Decidable (Ig p q):=by unfold Ig;infer_instance
abbrev l0:List T3:= [((0,(0,0)),((5,(0,0)),(0,(1,0)))),((10,(0,0)),((15,(0,0)),(10,(1,0)))),((20,(0,0)),((25,(0,0)),(20,(1,0))))]
abbrev b0:B3:=((0,(0,0)),(25,(1,0)))
theorem Tp:oz 0=((0,(0,0)),((5,(0,0)),(0,(1,0)))):=by kernel_rfl
theorem Tq:oz 10=((10,(0,0)),((15,(0,0)),(10,(1,0)))):=by kernel_rfl
theorem Ts:oz 20=((20,(0,0)),((25,(0,0)),(20,(1,0)))):=by kernel_rfl
theorem GJ:Ns l0:=by
 intro t ht p hp
 simp only [l0,List.mem_cons,List.not_mem_nil,or_false] at ht
 rcases ht with rfl|rfl|rfl<;>(simp only [Qy,List.mem_cons,List.not_mem_nil,or_false] at hp;rcases hp with rfl|rfl|rfl<;>decide)
theorem Tg:Ae l0 [0,1,2]:=by
 intro i hi
 simp only [List.mem_cons,List.not_mem_nil,or_false] at hi
 rcases hi with rfl|rfl|rfl<;>decide
theorem box0 {pl:List Int} (hp:pl.Perm [0,1,2]):Ae l0 pl/\ fT (l0,pl)=b0:=by
 have hi:Ae l0 pl:=fun i h=>Tg i (hp.mem_iff.1 h)
 have hlen:=hp.length_eq
 refine ⟨hi,?_⟩
 have h:=Ka GJ hi (by rw [hlen];decide) (fun e=>by rw [e] at hlen;simp at hlen)
 have h2:zK (kf l0 [0,1,2]) b0:=⟨by decide,by decide,⟨(0,(0,0)),by decide,rfl⟩,⟨(0,(0,0)),by decide,rfl⟩,⟨(0,(0,0)),by decide,rfl⟩,⟨(25,(0,0)),by decide,rfl⟩,⟨(0,(1,0)),by decide,rfl⟩,⟨(0,(0,0)),by decide,rfl⟩⟩
 exact (h.mem (MT fun i=>hp.mem_iff)).uniq h2
theorem WX:(fP b0).1=0:=by
 have key:run (cL b0) (b0.1.1,(b0.1.2.1,(b0.1.2.2,(b0.2.1,(b0.2.2.1,(b0.2.2.2,(0,0)))))))=0:=by
  rw [run_eq]
  show run (cL b0) (0,(0,(0,(25,(1,(0,(0,1)))))))=0
  rw [run_eq]
  show run (cL b0) (0,(0,(0,(25,(1,(0,(0,2)))))))=0
  rw [run_eq]
  show run (cL b0) (0,(0,(0,(25,(1,(0,(0,3)))))))=0
  rw [run_eq]
  rfl
 have hs:kR b0=true:=(uJ b0).2.2 (by decide)
 unfold fP ai parts
 rw [hs]
 dsimp only
 rw [if_neg (by decide)]
 exact key
theorem WY:mid (l0,0) 0=5:=by kernel_rfl
theorem WZ:mid (l0,0) 1=35:=by kernel_rfl
theorem W0:mid (l0,0) 2=65:=by kernel_rfl
theorem Tj {pl:List Int} (hp:pl.Perm [0,1,2]):tj l0 pl= [0,1,2]:=by
 unfold tj Vf
 rw [(box0 hp).2,WX]
 refine U6 hp ?_
 have h1:c5 (l0,0) 1 0=false:=by rw [vP,WY,WZ];decide
 have h2:c5 (l0,0) 2 0=false:=by rw [vP,WY,W0];decide
 have h3:c5 (l0,0) 2 1=false:=by rw [vP,WZ,W0];decide
 simp [h1,h2,h3]
end Go.Proofs.Ytaipcbdilkcdbaa
namespace Go.Proofs.Ytaipcbdilkcdbaa
open Go Go.Ev Go.Proofs
theorem D2 (a b:List Int) (hl:a.length<4611686018427387904):kP (a,b)/\ (pE (a,b)=true↔a=b):=by
 unfold kP pE
 dsimp only [ay,ai]
 by_cases h:a.length=b.length
 ·have hn: ¬((((a.length:Nat):Int) !=((b.length:Nat):Int))=true):=by simp [h]
  obtain ⟨h1,h2⟩:=GO (step:=lz (a,b)) (pre:=qq (a,b)) (fun s=> ∃i:Nat,s=(i:Int)/\ i<=a.length/\ a.take i=b.take i) (fun s=>a.length- s.toNat)
   (fun r=>(r= .inl ()/\ a≠b)\/ (r= .inr ()/\ a=b)) (fun s ⟨i,e,hi,hf⟩=>by
    subst e
    unfold lz qq
    dsimp only
    simp only [Int.toNat_natCast]
    refine ⟨fun q=>⟨by omega,by omega,by omega,by omega,by omega,by omega⟩,fun s' q=> ?_,fun r q=> ?_⟩
    ·split at q
     ·rename_i hlt
      have hlt:i<a.length:=by omega
      split at q
      ·cases q
      ·rename_i hne
       cases q
       refine ⟨⟨i+1,cnt hlt (by omega),hlt,?_⟩,?_⟩
       ·rw [List.take_succ_eq_append_getElem hlt,List.take_succ_eq_append_getElem (show i<b.length by omega),hf]
        congr 2
        simpa [List.getD_eq_getElem?_getD,List.getElem?_eq_getElem hlt,List.getElem?_eq_getElem (show i<b.length by omega)] using hne
       ·rw [cnt hlt (by omega)]
        simp only [Int.toNat_natCast];omega
     ·cases q
    ·split at q
     ·split at q
      ·rename_i hne
       cases q
       refine .inl ⟨rfl,fun e=> ?_⟩
       rw [e] at hne;simp at hne
      ·cases q
     ·cases q
      have:i=a.length:=by omega
      subst this
      rw [List.take_length,h,List.take_length] at hf
      exact .inr ⟨rfl,hf⟩) 0 ⟨0,rfl,Nat.zero_le _,rfl⟩
  refine ⟨fun _=>h1,?_⟩
  rw [if_neg hn]
  rcases h2 with ⟨e,q⟩|⟨e,q⟩
  ·rw [e];exact ⟨fun z=>(by cases z),fun z=>absurd z q⟩
  ·rw [e];exact ⟨fun _=>q,fun _=>rfl⟩
 ·have hn:(((a.length:Nat):Int) !=((b.length:Nat):Int))=true:=by simp;omega
  refine ⟨fun q=>absurd hn q,?_⟩
  rw [if_pos hn]
  exact ⟨fun q=>(by cases q),fun q=>absurd (by rw [q]) h⟩
theorem Zt:zG 3= [0,1,2]:=rfl
theorem Xn {G:List qQ} {N:List (List Int)} {U:List Int} (h:jD l0 0 (-1) (zG 3) G N U): ∃x y z:B3,G= [(x,(1,(2,[]))),(y,(0,(0,[0]))),(z,(0,(0,[1,2])))]:=by
 rw [Zt] at h
 generalize rJ:([0,1,2]:List Int)=pl at h
 cases h with
 |leaf _ _ _ hl=>subst rJ;simp at hl
 |fork _ _ _ a b A B NA NB UA UB h2 hp ha hb he hA hB=>
  subst rJ
  rw [Tj (List.Perm.refl _)] at he
  simp only [List.length_cons,List.length_nil] at ha hb
  match a,ha,he with
  | [u],_,he=>
   simp only [List.cons_append,List.nil_append,List.cons.injEq] at he
   obtain ⟨rfl,rfl⟩:=he
   cases hA with
   |fork _ _ _ _ _ _ _ _ _ _ _ TM=>simp at TM
   |leaf _ _ _ _=>
    cases hB with
    |fork _ _ _ _ _ _ _ _ _ _ _ TM=>simp at TM
    |leaf _ _ _ _=>exact ⟨_,_,_,rfl⟩
theorem RF:fN ([],[])/\ E6 ([],[])=false:=by
 obtain ⟨r1,r2⟩:=uI (-1) (n:=0) (by decide)
 have e:run (aU []) ([],0)= .inr []:=by rw [run_eq];rfl
 have ht:Term (aU []) (bw []) ([],0):= .mk _ (by
  unfold bw
  intro q
  exact absurd (show (0:Int)<0 from q) (by decide)) (fun s' q=>by cases q)
 have r2':repeatM ([(-1:Int)],(([]:List qQ).length:Int))= []:=r2
 have hp:cM []:=by
  unfold cM ay
  rw [r2']
  dsimp only
  rw [e]
  exact ⟨r1,ht,fun q=>absurd (show (0:Int)>0 from q) (by decide)⟩
 have hv:fy []=([],false):=by
  unfold fy ai
  rw [r2']
  dsimp only
  rw [e];rfl
 unfold fN E6 ay ai
 dsimp only
 rw [hv]
 exact ⟨⟨hp,fun q=>absurd rfl q⟩,rfl⟩
theorem Ma (x:Bool):gS x/\ oE x=true:=by
 obtain ⟨b1,b2⟩:=Aq l0 (by decide)
 rcases b2 with ⟨q,_⟩|⟨_,G,N,U,b3,b4,b5⟩
 ·exact absurd GJ q
 have b5:jD l0 0 (-1) (zG 3) G N U:=b5
 obtain ⟨u,v,z,hG⟩:=Xn b5
 have hf:=b5.facts
 have hi3:Ae l0 (zG 3):=Tg
 obtain ⟨i1,i2⟩:=Ky b5 hi3 GJ (by decide) (by decide) (by omega) (DY 3) (fun j hj=>(wE _ _).2 ⟨by omega,by
  have:l0.length=3:=rfl
  omega⟩)
 obtain ⟨n1,n2⟩:=RF
 obtain ⟨d1,d,d2,d3⟩:=LX hf (by omega)
 have hp:([2,0,1]:List Int).Perm [0,1,2]:=by decide
 obtain ⟨s1,s2⟩:=Ck (L:=l0) (pl:= [2,0,1]) (by decide) (by decide)
 have s3:ny (l0,[2,0,1])=([0],([1,2],0)):=by
  rcases s2 with ⟨q,_⟩|⟨_,q,_⟩|⟨_,_,_,e⟩
  ·exact absurd GJ q
  ·exact absurd ⟨by decide,(box0 hp).1⟩ q
  ·rw [e,Tj hp];rfl
 obtain ⟨t1,t2⟩:=Ck (L:=l0) (pl:= [2,3]) (by decide) (by decide)
 have t3:ny (l0,[2,3])=([],([],1)):=by
  rcases t2 with ⟨q,_⟩|⟨_,_,e⟩|⟨_,_,q,_⟩
  ·exact absurd GJ q
  ·exact e
  ·exact absurd (q 3 (by simp)) (by decide)
 have hd:pW G=2:=by
  subst hG
  have q0:=d3 0 (by simp)
  have q1:=d3 1 (by simp)
  have q2:=d3 2 (by simp)
  rw [d2]
  rcases q1 with ⟨_,_,q1⟩|⟨_,q1,_⟩
  ·rcases q2 with ⟨_,_,q2⟩|⟨_,q2,_⟩
   ·rcases q0 with ⟨q0,_⟩|⟨r,_,r2,_,_,r5⟩
    ·exact absurd (show (1:Int)=0 from q0) (by decide)
    ·have hr:(2:Int)=(r:Int):=r2
     have:r=2:=by omega
     subst this
     rw [r5,q1,q2];rfl
   ·exact absurd (show (0:Int)=3 from q2) (by decide)
  ·exact absurd (show (0:Int)=2 from q1) (by decide)
 have g0:((G.length:Nat):Int)=3:=by rw [hG];rfl
 have k1:=D2 [0] [0] (by decide)
 have k2:=D2 [1,2] [1,2] (by decide)
 have k3:pE ([0],[0])=true:=k1.2.2 rfl
 have k4:pE ([1,2],[1,2])=true:=k2.2.2 rfl
 have m0:(G.getD 0 ((((0:Int),((0:Int),(0:Int))),((0:Int),((0:Int),(0:Int)))),((0:Int),((0:Int),([]:List Int))))).2.1=1:=by rw [hG];rfl
 have m1:(G.getD 0 ((((0:Int),((0:Int),(0:Int))),((0:Int),((0:Int),(0:Int)))),((0:Int),((0:Int),([]:List Int))))).2.2.1=2:=by rw [hG];rfl
 have m2:(G.getD 1 ((((0:Int),((0:Int),(0:Int))),((0:Int),((0:Int),(0:Int)))),((0:Int),((0:Int),([]:List Int))))).2.2.2= [0]:=by rw [hG];rfl
 have m3:(G.getD 2 ((((0:Int),((0:Int),(0:Int))),((0:Int),((0:Int),(0:Int)))),((0:Int),((0:Int),([]:List Int))))).2.2.2= [1,2]:=by rw [hG];rfl
 have hlen:G.length=3:=by rw [hG];rfl
 unfold gS oE ay ai
 rw [Tp,Tq,Ts]
 dsimp only
 rw [b3,s3,t3]
 dsimp only
 rw [m0,m1,m2,m3,g0,k3,k4,i2,n2,hd]
 have z2:0<G.length:=by omega
 have y2:1<G.length:=by omega
 have w2:2<G.length:=by omega
 exact ⟨⟨b1,s1,t1,fun _ _=>⟨by decide,z2,z2,z2,fun _=>⟨by decide,z2,z2,z2,fun _=>⟨by decide,y2,y2,y2,k1.1,fun _=>⟨by decide,w2,w2,w2,k2.1,fun _ _=>⟨k1.1,fun _=>⟨k2.1,fun _ _=>⟨i1,fun _=>⟨n1,fun _=>d1⟩⟩⟩⟩⟩⟩⟩⟩⟩,rfl⟩
end Go.Proofs.Ytaipcbdilkcdbaa
