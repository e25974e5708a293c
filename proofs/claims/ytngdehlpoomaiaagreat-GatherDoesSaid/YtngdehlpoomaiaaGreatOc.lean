/- Plain laws: the references' lights. -/
import Derived.Test.YtngdehlpoomaiaaGreatOa
noncomputable section
set_option linter.unusedSectionVars false
set_option linter.unusedVariables false
set_option linter.unusedSimpArgs false
namespace Go.Proofs.YtngdehlpoomaiaaGreat
open Go Go.Ev Go.Proofs
theorem pO (p:P3):uC p=decide (dB p):=by
 unfold uC
 by_cases h1:p.1>= -16384
 rotate_left
 ·rw [if_neg h1];exact (decide_eq_false fun h=>by omega).symm
 rw [if_pos h1]
 by_cases h2:p.1<=16384
 rotate_left
 ·rw [if_neg h2];exact (decide_eq_false fun h=>by omega).symm
 rw [if_pos h2]
 by_cases h3:p.2.1>= -16384
 rotate_left
 ·rw [if_neg h3];exact (decide_eq_false fun h=>by omega).symm
 rw [if_pos h3]
 by_cases h4:p.2.1<=16384
 rotate_left
 ·rw [if_neg h4];exact (decide_eq_false fun h=>by omega).symm
 rw [if_pos h4]
 by_cases h5:p.2.2>= -16384
 rotate_left
 ·rw [if_neg h5];exact (decide_eq_false fun h=>by omega).symm
 rw [if_pos h5,decide_eq_decide]
 omega
theorem D5 (l:zA):D3 l=decide (de l):=by
 obtain ⟨k,a,d,p,c⟩:=l
 dsimp only [D3,Cn,Tr.val,Tr.pre];(try dsimp only [az,ak])
 rw [pO,pO,abx]
 unfold de
 try dsimp only
 by_cases h1:k<1
 ·rw [if_pos h1];exact (decide_eq_false fun h=>by omega).symm
 rw [if_neg h1]
 by_cases h2:k>3
 ·rw [if_pos h2];exact (decide_eq_false fun h=>by omega).symm
 rw [if_neg h2]
 by_cases h3:p<0
 ·rw [if_pos h3];exact (decide_eq_false fun h=>by omega).symm
 rw [if_neg h3]
 by_cases h4:p>255
 ·rw [if_pos h4];exact (decide_eq_false fun h=>by omega).symm
 rw [if_neg h4]
 by_cases h5:c<0
 ·rw [if_pos h5];exact (decide_eq_false fun h=>by omega).symm
 rw [if_neg h5]
 by_cases h6:c>1024
 ·rw [if_pos h6];exact (decide_eq_false fun h=>by omega).symm
 rw [if_neg h6]
 by_cases h7:dB a
 rotate_left
 ·rw [decide_eq_false h7];exact (decide_eq_false fun h=>h7 h.2.2.2.1.1).symm
 rw [decide_eq_true h7,if_neg (by decide)]
 by_cases h8:dB d
 rotate_left
 ·rw [decide_eq_false h8];exact (decide_eq_false fun h=>h8 h.2.2.2.1.2).symm
 rw [decide_eq_true h8,if_neg (by decide)]
 by_cases h9:k=2
 ·rw [if_pos (by simp [h9])]
  exact (decide_eq_true ⟨⟨by omega,by omega⟩,⟨by omega,by omega⟩,⟨by omega,by omega⟩,⟨h7,h8⟩,.inl h9⟩).symm
 ·rw [if_neg (by simp [h9])]
  by_cases h0:d=(0,0,0)
  ·rw [decide_eq_true h0]
   exact (decide_eq_false fun h=>h.2.2.2.2.elim h9 fun q=>q h0).symm
  ·rw [decide_eq_false h0]
   exact (decide_eq_true ⟨⟨by omega,by omega⟩,⟨by omega,by omega⟩,⟨by omega,by omega⟩,⟨h7,h8⟩,.inr h0⟩).symm
theorem aft (L:List zA) (hl:L.length<4611686018427387904):Ap L/\ acL L=decide (∀l∈L,de l):=by
 have key:Ap L/\ acL L= !L.any (fun l=> !decide (de l)):=by
  refine iq L hl _ _ _ (fun i hi=> ?_) (fun i v hv=> ?_) ?_
  ·unfold D2
   intro h
   simp only [Int.toNat_natCast]
   exact ⟨⟨by omega,by omega⟩,by omega,by omega⟩
  ·have hlt:=cz hv
   unfold nH
   rw [if_pos (by omega),Int.toNat_natCast,gW hv]
   unfold ak
   rw [D5]
  ·unfold nH
   rw [if_neg (by omega)]
 refine ⟨key.1,?_⟩
 rw [key.2,Bool.eq_iff_iff]
 simp
theorem yw (n:Int):Aq n=decide (-8192<=n/\ n<=8192):=by
 unfold Aq
 by_cases h:n>= -8192
 ·rw [if_pos h,Bool.eq_iff_iff];simp;omega
 ·rw [if_neg h,Bool.eq_iff_iff];simp;omega
theorem afs {p:P3} (h:Pt8 p):TE p=true:=by
 unfold TE ak
 dsimp only
 rw [yw,yw,yw,decide_eq_true h.1,decide_eq_true h.2.1,decide_eq_true h.2.2]
 rfl
theorem Wo {u:P3} (h:U3 u):WJ u=ng u:=R9 h
theorem anu (p q:P3):((p.1==q.1)&&((p.2.1==q.2.1)&&((p.2.2==q.2.2)&&true)))=decide (sb q p=(0,0,0)):=by
 obtain ⟨a,b,c⟩:=p
 obtain ⟨x,y,z⟩:=q
 rw [Bool.eq_iff_iff]
 simp [sb]
 omega
theorem Bc {l:zA} {p:P3} (hl:de l) (hp:Pt8 p):sY (l,p)/\ Gz (l,p)=ku l p:=by
 obtain ⟨s1,s2⟩:=hl.2.2.2.1
 have p1:=hp.1
 have p2:=hp.2.1
 have p3:=hp.2.2
 have e:(au (l.2.1.1- p.1),au (l.2.1.2.1- p.2.1),au (l.2.1.2.2- p.2.2))=sb l.2.1 p:=by
  unfold sb
  rw [ax (n:=l.2.1.1- p.1) (by omega) (by omega),ax (n:=l.2.1.2.1- p.2.1) (by omega) (by omega),ax (n:=l.2.1.2.2- p.2.2) (by omega) (by omega)]
 unfold ku;dsimp only [sY,Gz,sr,Tr.val,Tr.pre];(try dsimp only [az,ak])
 rw [D5,decide_eq_true hl,afs hp,anu,e,if_neg (by decide),if_neg (by decide)]
 by_cases k1:l.1=1
 ·have b1:(l.1==(1:Int))=true:=by simp [k1]
  obtain ⟨_,_,u3,_⟩:=c8 (Ep s2) (nc hl (by omega))
  obtain ⟨u1,u2⟩:=jB (Ep s2) (nc hl (by omega))
  have g:=u3.ng
  have g1:=g.1
  have g2:=g.2.1
  have g3:=g.2.2
  rw [if_pos b1,if_pos k1,u2]
  try dsimp only
  rw [Wo u3]
  refine ⟨fun _ _=>⟨fun _=>u1,fun h=>absurd b1 h⟩,?_⟩
  generalize ng (bK l.2.2.1)=w at*
  rw [ax (n:=4*w.1) (by omega) (by omega),ax (n:=4*w.2.1) (by omega) (by omega),ax (n:=4*w.2.2) (by omega) (by omega),ax (n:=p.1+4*w.1) (by omega) (by omega),ax (n:=p.2.1+4*w.2.1) (by omega) (by omega),ax (n:=p.2.2+4*w.2.2) (by omega) (by omega)]
 have b1: ¬(l.1==(1:Int))=true:=by simp [k1]
 rw [if_neg b1,if_neg k1]
 by_cases h0:sb l.2.1 p=(0,0,0)
 ·rw [decide_eq_true h0,if_pos rfl,if_pos h0]
  exact ⟨fun _ _=>⟨fun h=>absurd h b1,fun _ h=>absurd rfl h⟩,rfl⟩
 ·have hn:Nr (sb l.2.1 p):=by unfold sb;exact ⟨by (try dsimp only);omega,by (try dsimp only);omega,by (try dsimp only);omega⟩
  obtain ⟨u1,u2⟩:=jB hn h0
  rw [decide_eq_false h0,if_neg (by decide),if_neg h0,u2]
  exact ⟨fun _ _=>⟨fun h=>absurd h b1,fun _ _=>u1⟩,rfl⟩
theorem TH {l:zA} {p n:P3} (hl:de l) (hp:Pt8 p) (hn:Nr n) (h0:n≠(0,0,0)):vO (l,p,n)/\ Mj (l,p,n)=(shF l p n,0):=by
 obtain ⟨t1,t2⟩:=Bc hl hp
 obtain ⟨_,_,u3,_⟩:=c8 hn h0
 obtain ⟨u1,u2⟩:=jB hn h0
 obtain ⟨s1,s2⟩:=hl.2.2.2.1
 unfold shF;dsimp only [vO,Mj,vP,Tr.val,Tr.pre];(try dsimp only [az,ak])
 rw [t2]
 rcases AI hl hp with ⟨e,he⟩|⟨e,hu,hs⟩
 ·rw [if_pos (by simp [e]),if_neg (by omega)]
  exact ⟨⟨t1,fun h=>absurd (by simp [e]) h⟩,rfl⟩
 have m2:=Mh u3 hu
 have hpw:=hl.2.1
 obtain ⟨k1,k2⟩:=S3 (bK n) (ku l p).1
 have h1:=Int.mul_nonneg k1 hpw.1
 have h2:=qJ (A:=1024) (B:=255) (by omega) k2 (by omega) hpw.2
 have ev:au (Int.tdiv (au (LK (bK n) (ku l p).1*l.2.2.2.1)) 1024)=LK (bK n) (ku l p).1*l.2.2.2.1 / 1024:=by
  rw [ax (n:=LK (bK n) (ku l p).1*l.2.2.2.1) (by omega) (by omega),Int.tdiv_eq_ediv_of_nonneg h1,ax (by omega) (by omega)]
 rw [if_neg (by simp [e]),if_neg (by simp [e]),if_pos e,u2]
 try dsimp only
 rw [if_neg (by decide),m2]
 try dsimp only
 rw [ev]
 by_cases k3:l.1=3
 ·have b3:(l.1==(3:Int))=true:=by simp [k3]
  obtain ⟨_,_,w3,_⟩:=c8 (Ep s2) (nc hl (by omega))
  obtain ⟨w1,w2⟩:=jB (Ep s2) (nc hl (by omega))
  rw [if_pos b3,w2]
  try dsimp only
  rw [Wo hu,Mh w3 hu.ng]
  refine ⟨⟨t1,fun _ _=>⟨u1,fun _ _=>w1⟩⟩,?_⟩
  by_cases hd:OS l (ku l p).1
  ·rw [if_pos hd.2,if_pos hd]
  ·rw [if_neg (fun h=>hd ⟨k3,h⟩),if_neg hd]
 ·have b3: ¬(l.1==(3:Int))=true:=by simp [k3]
  rw [if_neg b3,if_neg (fun h:OS l (ku l p).1=>k3 h.1)]
  exact ⟨⟨t1,fun _ _=>⟨u1,fun _ h=>absurd h b3⟩⟩,rfl⟩
theorem vQ (L:List Int) (hl:L.length<4611686018427387904):qR L/\ Mk L=mm L:=by
 have key:TR (eJ L) (nI L) (255,0) fun r:Int=>r=255- mm L:=by
  refine cu L.length (fun i s=>s=(255- mm (L.take i),(i:Int))) _ (fun i s hi hJ=> ?_) (fun s hJ=> ?_) (by simp [mm,FU,bB])
  ·subst hJ
   have e:mm (L.take (i+1))=bB (mm (L.take i)+mI (L.getD i 0)) 255:=by
    rw [bZ hi 0]
    unfold mm
    rw [UO]
    have h1:=CW (L.take i)
    have h2:=U7 (L.getD i 0)
    have h3:FU [L.getD i 0]=mI (L.getD i 0):=by simp [FU]
    rw [h3]
    unfold bB
    split<;>split<;>(try split)<;>omega
   have hb:0<=mm (L.take i)/\ mm (L.take i)<=255:=by
    have h1:=CW (L.take i)
    unfold mm bB
    split<;>omega
   dsimp only [nI,eJ,jD,Tr.val,Tr.pre];(try dsimp only [az,ak])
   simp only [Int.toNat_natCast]
   refine ⟨fun _=>⟨⟨by omega,by omega⟩,hi,hi,fun _=>⟨⟨by omega,by omega⟩,hi,hi⟩⟩,.inl ?_⟩
   rw [if_pos (by omega),e,ax (n:=(i:Int)+1) (by omega) (by omega)]
   generalize L.getD i 0=v
   generalize mm (L.take i)=q at*
   by_cases hv:v>0
   ·rw [if_pos hv]
    have e2:au (255- q- bB v (255- q))=255- bB (q+mI v) 255:=by
     have:255- q- bB v (255- q)=255- bB (q+mI v) 255:=by
      unfold mI bB bw
      repeat' split
      all_goals omega
     rw [this]
     have h5:0<=bB (q+mI v) 255/\ bB (q+mI v) 255<=255:=by
      have:=U7 v
      unfold bB
      split<;>omega
     exact ax (by omega) (by omega)
    rw [e2]
    exact ⟨_,rfl,rfl⟩
   ·rw [if_neg hv]
    have e2:bB (q+mI v) 255=q:=by
     unfold mI bB bw
     repeat' split
     all_goals omega
    rw [e2]
    exact ⟨_,rfl,rfl⟩
  ·subst hJ
   refine ⟨?_,_,?_,rfl⟩
   ·dsimp only [nI,jD,Tr.val,Tr.pre];(try dsimp only [az,ak])
    intro q
    (try dsimp only at q);omega
   ·dsimp only [eJ,jD,Tr.val,Tr.pre];(try dsimp only [az,ak])
    rw [if_neg (by omega),List.take_length]
 have hb:0<=mm L/\ mm L<=255:=by
  have h1:=CW L
  unfold mm bB
  split<;>omega
 unfold qR Mk ak
 refine ⟨key.1,?_⟩
 have k2:(run (eJ L) ((255:Int),(0:Int)):Int)=255- mm L:=key.2
 show au (255- (run (eJ L) ((255:Int),(0:Int)):Int))=mm L
 rw [k2,ax (by omega) (by omega)]
 omega
end Go.Proofs.YtngdehlpoomaiaaGreat
namespace Go.Proofs.YtngdehlpoomaiaaGreat
open Go Go.Ev Go.Proofs
theorem Cr (l:List P3) (hl:l.length<4611686018427387904):kP l/\ yE l=decide (∀p∈l,dB p):=by
 have key:kP l/\ yE l= !l.any (fun p=> !decide (dB p)):=by
  refine iq l hl _ _ _ (fun i hi=> ?_) (fun i v hv=> ?_) ?_
  ·unfold Bh
   intro h
   simp only [Int.toNat_natCast]
   exact ⟨⟨by omega,by omega⟩,by omega,by omega⟩
  ·have hlt:=cz hv
   unfold l7
   rw [if_pos (by omega),Int.toNat_natCast,gW hv]
   unfold ak
   rw [pO]
  ·unfold l7
   rw [if_neg (by omega)]
 refine ⟨key.1,?_⟩
 rw [key.2,Bool.eq_iff_iff]
 simp
theorem W5 {l:List P3} (hl:l.length<4611686018427387904) (h: ∀p∈l,dB p):kP l/\ yE l=true:=⟨(Cr l hl).1,by rw [(Cr l hl).2];exact decide_eq_true h⟩
theorem vY {p:P3} (h:dB p):uC p=true:=by rw [pO];exact decide_eq_true h
theorem Ec {a b c:P3} (ha:dB a) (hb:dB b) (hc:dB c):uz (a,b,c)=(CR (sb b a) (sb c a),0):=by
 dsimp only [uz,Cs,Tr.val,Tr.pre];(try dsimp only [az,ak])
 rw [vY ha,vY hb,vY hc,if_neg (by decide),if_neg (by decide),if_neg (by decide),Ms hb ha,Ms hc ha,vX (sE hb ha) (sE hc ha)]
theorem Ax {a b c d:P3} (ha:dB a) (hb:dB b) (hc:dB c) (hd:dB d):H8 (a,b,c,d)=(kz a b c d,0):=by
 have cb:=Y1 (sE hb ha) (sE hc ha)
 have db:=sE hd ha
 unfold H8 ak
 dsimp only
 rw [Ec ha hb hc,vY hd]
 dsimp only
 rw [if_neg (by decide),if_neg (by decide),ax (n:=d.1- a.1) (by omega) (by omega),ax (n:=d.2.1- a.2.1) (by omega) (by omega),ax (n:=d.2.2- a.2.2) (by omega) (by omega)]
 unfold kz
 have ex:d.1- a.1=(sb d a).1:=rfl
 have ey:d.2.1- a.2.1=(sb d a).2.1:=rfl
 have ez:d.2.2- a.2.2=(sb d a).2.2:=rfl
 rw [ex,ey,ez]
 generalize CR (sb b a) (sb c a)=p at*
 generalize sb d a=q at*
 have e1:=qJ (a:=p.1) (b:=q.1) (A:=2147483648) (B:=32768) cb.1.1 cb.1.2 db.1.1 db.1.2
 have e2:=qJ (a:=p.2.1) (b:=q.2.1) (A:=2147483648) (B:=32768) cb.2.1.1 cb.2.1.2 db.2.1.1 db.2.1.2
 have e3:=qJ (a:=p.2.2) (b:=q.2.2) (A:=2147483648) (B:=32768) cb.2.2.1 cb.2.2.2 db.2.2.1 db.2.2.2
 rw [ax (n:=p.1*q.1) (by omega) (by omega),ax (n:=p.2.1*q.2.1) (by omega) (by omega),ax (n:=p.2.2*q.2.2) (by omega) (by omega),ax (n:=p.1*q.1+p.2.1*q.2.1) (by omega) (by omega),ax (by omega) (by omega)]
 rfl
theorem DX {l:List P3} {t:T3} (hl:l.length<4611686018427387904) (h: ∀p∈l,dB p) (ht:SmT t):lV (l,t)/\ uo (l,t)=true:=by
 obtain ⟨a1,a2⟩:=W5 hl h
 obtain ⟨b1,b2⟩:=W5 (l:= [t.1,t.2.1,t.2.2]) (by simp) (sm3 ht.1 ht.2.1 ht.2.2)
 unfold lV uo az ak
 dsimp only
 rw [a2,b2]
 exact ⟨⟨a1,fun _=>b1⟩,rfl⟩
theorem Md (x:Int):(kO x= -1/\ x<0)\/ (kO x=0/\ x=0)\/ (kO x=1/\ 0<x):=by unfold kO;split<;>(try split)<;>omega
theorem HR {a:P3} {t:T3} (ha:dB a) (ht:SmT t):r8 (a,t)/\ vH (a,t)=(kO (dI a t),0):=by
 obtain ⟨s1,s2⟩:=DX (l:= [a]) (by simp) (sm1 ha) ht
 refine ⟨s1,?_⟩
 unfold vH ak
 dsimp only
 rw [s2,if_neg (by decide),Ax ht.1 ht.2.1 ht.2.2 ha]
 rfl
def YP (v:Int):Int:=if v<0 then 1 else 0
def abv (v:Int):Int:=if v>0 then 1 else 0
def aiv (v n m i:Int):(Int×Int×Int)⊕(Int×Int):=
 if v<0 then (if v>0 then .inl (au (n+1),au (m+1),au (i+1)) else .inl (au (n+1),m,au (i+1)))
 else if v>0 then .inl (n,au (m+1),au (i+1)) else .inl (n,m,au (i+1))
theorem Lz {v n m i:Int} (hn:0<=n/\ n<=5) (hm:0<=m/\ m<=5) (hi:0<=i/\ i<=5):aiv v n m i= .inl (n+YP v,m+abv v,i+1):=by
 unfold aiv YP abv
 rw [ax (n:=n+1) (by omega) (by omega),ax (n:=m+1) (by omega) (by omega),ax (n:=i+1) (by omega) (by omega)]
 by_cases h1:v<0
 ·rw [if_pos h1,if_neg (by omega),if_pos h1,if_neg (by omega)];simp
 ·rw [if_neg h1,if_neg h1]
  by_cases h2:v>0
  ·rw [if_pos h2,if_pos h2];simp
  ·rw [if_neg h2,if_neg h2];simp
theorem ag1 (v:Int):0<=YP v/\ YP v<=1:=by unfold YP;split<;>omega
theorem agP (v:Int):0<=abv v/\ abv v<=1:=by unfold abv;split<;>omega
theorem aai {a b:P3} {t:T3} (ha:dB a) (hb:dB b) (ht:SmT t):TR (cC (a,b,t)) (Ba (a,b,t)) (0,0,0) fun r=>
  r=(0+YP (kz a b t.1 t.2.1)+YP (kz a b t.2.1 t.2.2)+YP (kz a b t.2.2 t.1),0+abv (kz a b t.1 t.2.1)+abv (kz a b t.2.1 t.2.2)+abv (kz a b t.2.2 t.1)):=by
 have v0:=Ax ha hb ht.1 ht.2.1
 have v1:=Ax ha hb ht.2.1 ht.2.2
 have v2:=Ax ha hb ht.2.2 ht.1
 have e0: ∀n m:Int,cC (a,b,t) (n,m,0)=aiv (H8 (a,b,t.1,t.2.1)).1 n m 0:=fun n m=>by
  unfold cC
  rw [if_pos (by dsimp only;decide)]
  rfl
 have e1: ∀n m:Int,cC (a,b,t) (n,m,1)=aiv (H8 (a,b,t.2.1,t.2.2)).1 n m 1:=fun n m=>by
  unfold cC
  rw [if_pos (by dsimp only;decide)]
  rfl
 have e2: ∀n m:Int,cC (a,b,t) (n,m,2)=aiv (H8 (a,b,t.2.2,t.1)).1 n m 2:=fun n m=>by
  unfold cC
  rw [if_pos (by dsimp only;decide)]
  rfl
 simp only [v0,v1,v2] at e0 e1 e2
 have b0:=ag1 (kz a b t.1 t.2.1)
 have b1:=ag1 (kz a b t.2.1 t.2.2)
 have b2:=ag1 (kz a b t.2.2 t.1)
 have a0:=agP (kz a b t.1 t.2.1)
 have a1:=agP (kz a b t.2.1 t.2.2)
 have a2:=agP (kz a b t.2.2 t.1)
 refine TR.go (fun _=>⟨by dsimp only;decide,by dsimp only;decide,by dsimp only;decide,by dsimp only;decide⟩) ((e0 0 0).trans (Lz (by omega) (by omega) (by omega))) ?_
 refine TR.go (fun _=>⟨by dsimp only;decide,by dsimp only;decide,by dsimp only;decide,by dsimp only;decide⟩) ((e1 _ _).trans (Lz (by omega) (by omega) (by omega))) ?_
 refine TR.go (fun _=>⟨by dsimp only;decide,by dsimp only;decide,by dsimp only;decide,by dsimp only;decide⟩) ((e2 _ _).trans (Lz (by omega) (by omega) (by omega))) ?_
 exact TR.stop (fun h=>absurd h (by dsimp only;decide)) (by unfold cC;rw [if_neg (by dsimp only;decide)]) rfl
theorem aah {a b:P3} {t:T3} (ha:dB a) (hb:dB b) (ht:SmT t):Ck (a,b,t)/\ aag (a,b,t)=(decide (Jd a b t),0):=by
 obtain ⟨s1,s2⟩:=DX (l:= [a,b]) (by simp) (sm2 ha hb) ht
 obtain ⟨a1,a2⟩:=HR ha ht
 obtain ⟨b1,b2⟩:=HR hb ht
 obtain ⟨k1,k2⟩:=aai ha hb ht
 unfold Ck aag az ak
 dsimp only
 rw [s2,a2,b2,k2]
 refine ⟨⟨s1,fun _=>⟨a1,b1,fun _=>k1⟩⟩,?_⟩
 rw [if_neg (by decide)]
 dsimp only
 have hx:=Md (dI a t)
 have hy:=Md (dI b t)
 by_cases hs:(dI a t<0/\ 0<dI b t)\/ (dI b t<0/\ 0<dI a t)
 ·have hw:au (kO (dI a t)*kO (dI b t))= -1:=by
   rcases hs with ⟨h1,h2⟩|⟨h1,h2⟩
   ·have e1:kO (dI a t)= -1:=by omega
    have e2:kO (dI b t)=1:=by omega
    rw [e1,e2];rfl
   ·have e1:kO (dI a t)=1:=by omega
    have e2:kO (dI b t)= -1:=by omega
    rw [e1,e2];rfl
  rw [hw,if_neg (by decide)]
  simp only [Jd,hs,true_and]
  generalize kz a b t.1 t.2.1=x
  generalize kz a b t.2.1 t.2.2=y
  generalize kz a b t.2.2 t.1=z
  have hb:(0+YP x+YP y+YP z=0)↔(0<=x/\ 0<=y/\ 0<=z):=by
   unfold YP
   repeat' split
   all_goals omega
  have hc:(0+abv x+abv y+abv z=0)↔(x<=0/\ y<=0/\ z<=0):=by
   unfold abv
   repeat' split
   all_goals omega
  by_cases h1:0+YP x+YP y+YP z=0
  ·rw [if_pos (by simp only [beq_iff_eq];exact h1)]
   congr 1
   exact (decide_eq_true (.inl (hb.1 h1))).symm
  ·rw [if_neg (by simp only [beq_iff_eq];exact h1)]
   congr 1
   rw [Bool.eq_iff_iff,beq_iff_eq,decide_eq_true_iff,hc]
   exact ⟨.inr,fun h=>h.resolve_left fun q=>h1 (hb.2 q)⟩
 ·have hw: ¬au (kO (dI a t)*kO (dI b t))= -1:=by
   rcases hx with ⟨e1,h1⟩|⟨e1,h1⟩|⟨e1,h1⟩<;>rcases hy with ⟨e2,h2⟩|⟨e2,h2⟩|⟨e2,h2⟩<;>rw [e1,e2]<;>first|decide|(exfalso;omega)
  rw [if_pos (by simpa using hw)]
  congr 1
  exact (decide_eq_false fun h=>hs h.1).symm
theorem vW (x:Int×Int):jF x:=by
 dsimp only [jF,qm,Tr.val,Tr.pre];(try dsimp only [az,ak])
 intro h
 have h0:x.2≠0:=fun h0=>h (by simp [h0])
 exact ⟨fun _ _=>⟨h0,h0⟩,fun _=>⟨h0,h0⟩⟩
def ivT (b:Int):Bool:=(List.range 64).all fun i=>match cQ (qO (b,(i:Int))) 9 ((i:Int),0,1) with
 |some r=>decide (r=wX b i)
 |none=>false
theorem iv2:ivT 2=true:=by kernel_rfl
theorem iv3:ivT 3=true:=by kernel_rfl
theorem Mf {b i:Int} (hb:2<=b/\ b<=16) (ht:ivT b=true) (hi:0<=i/\ i<64):Cl (b,i)/\ aan (b,i)=(wX b i,0):=by
 have h1:=List.all_eq_true.1 ht i.toNat (List.mem_range.2 (by omega))
 have ei:((i.toNat:Nat):Int)=i:=by omega
 rw [ei] at h1
 split at h1
 rotate_left
 ·cases h1
 rename_i r hr
 have h1:=of_decide_eq_true h1
 have k:=TR.iter (pre:=Bb (b,i)) (fun s _=>⟨by dsimp only;omega,by dsimp only;omega⟩) hr
 unfold Cl aan ak
 dsimp only
 refine ⟨fun _ _ _ _=>k.1,?_⟩
 rw [if_neg (by omega),if_neg (by omega),if_neg (by omega),if_neg (by omega),k.2,h1]
def pcT:Bool:=(List.range 64).all fun i=>decide (uq (wX 2 i)=(c6 i).1)&&(decide (uq (wX 3 i)=(c6 i).2)&&(decide (Gx (c6 i)=Ab (c6 i))&&(decide ((pL ((au ((au ((2:Int)*(c6 i).1))- (65536:Int))),(64:Int))).1=qB (c6 i).1)&&decide ((pL ((au ((au ((2:Int)*(c6 i).2))- (65536:Int))),(64:Int))).1=qB (c6 i).2))))
theorem asX:pcT=true:=by kernel_rfl
theorem aju {i:Int} (hi:0<=i/\ i<64):uq (wX 2 i)=(c6 i).1/\ uq (wX 3 i)=(c6 i).2/\ Gx (c6 i)=Ab (c6 i)/\ (pL ((au ((au ((2:Int)*(c6 i).1))- (65536:Int))),(64:Int))).1=qB (c6 i).1/\ (pL ((au ((au ((2:Int)*(c6 i).2))- (65536:Int))),(64:Int))).1=qB (c6 i).2:=by
 have h1:=List.all_eq_true.1 asX i.toNat (List.mem_range.2 (by omega))
 have ei:((i.toNat:Nat):Int)=i:=by omega
 rw [ei] at h1
 simpa only [Bool.and_eq_true,decide_eq_true_eq] using h1
theorem Tw {i:Int} (hi:0<=i/\ i<64):vJ i/\ Mg i=(c6 i,0):=by
 obtain ⟨a1,a2⟩:=Mf (b:=2) (by omega) iv2 hi
 obtain ⟨b1,b2⟩:=Mf (b:=3) (by omega) iv3 hi
 obtain ⟨c1,c2,_⟩:=aju hi
 dsimp only [vJ,Mg,vK,Tr.val,Tr.pre];(try dsimp only [az,ak])
 rw [a2,b2]
 try dsimp only
 rw [c1,c2]
 exact ⟨⟨a1,b1,fun _ _=>⟨vW _,vW _⟩⟩,rfl⟩
theorem GJ (n:Int): ∀(m:Nat) (l:List (Int×Int)) (i:Int) (r:List (Int×Int)),1<=i->i+m<=64->l.length+m<=1000->cQ (kX n) m (l,i)=some r->TR (iF n) (lW n) (l,i) fun q=>q=r
 |0,l,i,r,_,_,_,h=>by cases h
 |m+1,l,i,r,h1,h2,h3,h=>by
  obtain ⟨p1,p2⟩:=Tw (i:=i) (by omega)
  obtain ⟨_,_,c3,c4,c5⟩:=aju (i:=i) (by omega)
  have hw:au (i+1)=i+1:=ax (by omega) (by omega)
  have hpre:lW n (l,i):=by
   dsimp only [lW,jS,Tr.val,Tr.pre];(try dsimp only [az,ak])
   exact fun _ _=>⟨p1,fun _=>⟨vW _,vW _,by (try dsimp only);omega⟩⟩
  simp only [cQ] at h
  have hstep:iF n (l,i)=kX n (l,i):=by
   unfold kX;dsimp only [iF,jS,Tr.val,Tr.pre];(try dsimp only [az,ak])
   rw [if_pos (by omega),p2]
   try dsimp only
   rw [c3,c4,c5,hw]
  by_cases hl:(l.length:Int)<n
  ·by_cases hin:Ab (c6 i)=true
   ·have e:kX n (l,i)= .inl (l++ [(qB (c6 i).1,qB (c6 i).2)],i+1):=by
     unfold kX;(try dsimp only);rw [if_pos hl,if_pos hin]
    rw [e] at h
    exact TR.go hpre (hstep.trans e) (GJ n m _ _ r (by omega) (by omega) (by simp;omega) h)
   ·have e:kX n (l,i)= .inl (l,i+1):=by
     unfold kX;(try dsimp only);rw [if_pos hl,if_neg hin]
    rw [e] at h
    exact TR.go hpre (hstep.trans e) (GJ n m _ _ r (by omega) (by omega) (by omega) h)
  ·have e:kX n (l,i)= .inr l:=by
    unfold kX;(try dsimp only);rw [if_neg hl]
   rw [e] at h
   exact TR.stop hpre (hstep.trans e) (Option.some.inj h)
theorem Wy {n:Int} (hn:0<=n/\ n<=24):r9 n/\ DY n=(YH.take n.toNat,0):=by
 have h1:=List.all_eq_true.1 abS n.toNat (List.mem_range.2 (by omega))
 have ei:((n.toNat:Nat):Int)=n:=by omega
 rw [ei] at h1
 split at h1
 rotate_left
 ·cases h1
 rename_i l hl
 have k:=GJ n 60 [] 1 l (by omega) (by omega) (by simp) hl
 unfold r9 DY ak
 refine ⟨fun _ _=>k.1,?_⟩
 rw [if_neg (by omega),if_neg (by omega),k.2,of_decide_eq_true h1]
end Go.Proofs.YtngdehlpoomaiaaGreat
