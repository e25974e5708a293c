/- Plain laws: the reference of layer 26. -/
import Derived.Test.YtngdehlpoomaiaaGreatOc
import Derived.Test.YtngdehlpoomaiaaGreatMk
import Derived.Test.YtngdehlpoomaiaaGreatNc
import Derived.Test.YtngdehlpoomaiaaGreatRows
import Derived.Test.YtngdehlpoomaiaaGreatChecked
import Derived.Test.YtngdehlpoomaiaaGreatRg
import Derived.ProofKit
noncomputable section
set_option linter.unusedSectionVars false
set_option linter.unusedVariables false
set_option linter.unusedSimpArgs false
namespace Go.Proofs.YtngdehlpoomaiaaGreat
open Go Go.Ev Go.Proofs
theorem nJ (n m:Int):Qq (n,m)=decide (0<=n/\ n<=m):=n8 n m
theorem GD (j:Jb):Au j/\ WT j=decide (OU j):=by
 obtain ⟨a,b,c,d,L⟩:=j
 dsimp only [Au,WT,J1,Tr.val,Tr.pre];(try dsimp only [az,ak])
 rw [nJ,nJ,nJ,nJ]
 have hL:(((L.length:Nat):Int)<=8)->Ap L/\ acL L=decide (∀l∈L,de l):=fun h=>aft L (by omega)
 refine ⟨fun _ _ _ _ h=>(hL h).1,?_⟩
 unfold OU
 try dsimp only
 by_cases h1:0<=a/\ a<=64
 rotate_left
 ·rw [decide_eq_false h1,if_neg (by decide)];exact (decide_eq_false fun h=>h1 h.1).symm
 rw [decide_eq_true h1,if_pos rfl]
 by_cases h2:0<=b/\ b<=2048
 rotate_left
 ·rw [decide_eq_false h2,if_neg (by decide)];exact (decide_eq_false fun h=>h2 h.2.1).symm
 rw [decide_eq_true h2,if_pos rfl]
 by_cases h3:0<=c/\ c<=64
 rotate_left
 ·rw [decide_eq_false h3,if_neg (by decide)];exact (decide_eq_false fun h=>h3 h.2.2.1).symm
 rw [decide_eq_true h3,if_pos rfl]
 by_cases h4:0<=d/\ d<=255
 rotate_left
 ·rw [decide_eq_false h4,if_neg (by decide)];exact (decide_eq_false fun h=>h4 h.2.2.2.1).symm
 rw [decide_eq_true h4,if_pos rfl]
 by_cases h5:((L.length:Nat):Int)<=8
 rotate_left
 ·rw [if_neg h5];exact (decide_eq_false fun h=>h5 (by have:=h.2.2.2.2.1;omega)).symm
 rw [if_pos h5,(hL h5).2]
 by_cases h6: ∀l∈L,de l
 ·rw [decide_eq_true h6];exact (decide_eq_true ⟨h1,h2,h3,h4,by omega,h6⟩).symm
 ·rw [decide_eq_false h6];exact (decide_eq_false fun h=>h6 h.2.2.2.2.2).symm
theorem yz (n:Int):TO n=decide (-4160<=n/\ n<=4160):=by
 unfold TO
 by_cases h:n>= -4160
 ·rw [if_pos h,Bool.eq_iff_iff];simp;omega
 ·rw [if_neg h,Bool.eq_iff_iff];simp;omega
theorem WQ {n:Int} (h: -1000000000000<=n/\ n<=1000000000000):vS n=n / 1024:=by
 unfold vS
 split
 ·rw [ax (n:=1023- n) (by omega) (by omega),Int.tdiv_eq_ediv_of_nonneg (by omega),ax (n:=(1023- n) / 1024) (by omega) (by omega),ax (by omega) (by omega)]
  omega
 ·rw [Int.tdiv_eq_ediv_of_nonneg (by omega),ax (by omega) (by omega)]
theorem Be {p w:P3} {k:Int} (hp:Nr p) (hw:Fr4 w) (hk:0<=k/\ k<=2048):Ar (p,w,k)=xe p w k:=by
 have f: ∀w:Int,(-4096<=w/\ w<=4096)->vS (au (w*k))=w*k / 1024/\ -8192<=w*k / 1024/\ w*k / 1024<=8192:=fun w hw=>by
  have m:=qJ (A:=4096) (B:=2048) hw.1 hw.2 (by omega) hk.2
  rw [ax (n:=w*k) (by omega) (by omega),WQ (by omega)]
  omega
 obtain ⟨a1,a2,a3⟩:=f _ hw.1
 obtain ⟨b1,b2,b3⟩:=f _ hw.2.1
 obtain ⟨c1,c2,c3⟩:=f _ hw.2.2
 have h1:=hp.1
 have h2:=hp.2.1
 have h3:=hp.2.2
 unfold Ar ak xe
 dsimp only
 rw [a1,b1,c1,ax (n:=p.1+w.1*k / 1024) (by omega) (by omega),ax (n:=p.2.1+w.2.1*k / 1024) (by omega) (by omega),ax (n:=p.2.2+w.2.2*k / 1024) (by omega) (by omega)]
theorem vT (x:w9):l6 x/\ qT x=if bW x=0 then (gK x,0) else ((0,0,0),bW x):=by
 obtain ⟨j,p,n⟩:=x
 obtain ⟨g1,g2⟩:=GD j
 unfold bW;dsimp only [l6,qT,vU,Tr.val,Tr.pre];(try dsimp only [az,ak])
 rw [g2,yz,yz,yz]
 by_cases h1:OU j
 rotate_left
 ·rw [decide_eq_false h1]
  simp only [if_pos h1]
  exact ⟨⟨g1,fun h=>absurd rfl h⟩,rfl⟩
 rw [decide_eq_true h1]
 have mD: ¬ ¬OU j:=fun h=>h h1
 simp only [if_neg mD]
 by_cases ha: -4160<=p.1/\ p.1<=4160
 rotate_left
 ·have Jm: ¬(In4 p∧Nr n):=fun h=>ha h.1.1
  rw [decide_eq_false ha]
  simp only [if_pos Jm]
  exact ⟨⟨g1,fun _ h=>absurd rfl h⟩,rfl⟩
 by_cases hb: -4160<=p.2.1/\ p.2.1<=4160
 rotate_left
 ·have Jm: ¬(In4 p∧Nr n):=fun h=>hb h.1.2.1
  rw [decide_eq_true ha,decide_eq_false hb]
  simp only [if_pos Jm]
  exact ⟨⟨g1,fun _ _ h=>absurd rfl h⟩,rfl⟩
 by_cases hc: -4160<=p.2.2/\ p.2.2<=4160
 rotate_left
 ·have Jm: ¬(In4 p∧Nr n):=fun h=>hc h.1.2.2
  rw [decide_eq_true ha,decide_eq_true hb,decide_eq_false hc]
  simp only [if_pos Jm]
  exact ⟨⟨g1,fun _ _ _ h=>absurd rfl h⟩,rfl⟩
 rw [decide_eq_true ha,decide_eq_true hb,decide_eq_true hc]
 by_cases h5:Nr n
 rotate_left
 ·obtain ⟨u1,u2⟩:=WG h5
  have Jm: ¬(In4 p/\ Nr n):=fun h=>h5 h.2
  rw [u2]
  simp only [if_pos Jm]
  exact ⟨⟨g1,fun _ _ _ _=>u1⟩,rfl⟩
 have Jm: ¬ ¬(In4 p/\ Nr n):=fun h=>h ⟨⟨ha,hb,hc⟩,h5⟩
 simp only [if_neg Jm]
 by_cases h6:n=(0,0,0)
 ·subst h6
  obtain ⟨u1,u2⟩:=TD
  rw [u2]
  exact ⟨⟨g1,fun _ _ _ _=>u1⟩,rfl⟩
 ·obtain ⟨_,_,u3,_⟩:=c8 h5 h6
  obtain ⟨u1,u2⟩:=jB h5 h6
  have hbi:=h1.2.2.1
  have hp:Nr p:=⟨by omega,by omega,by omega⟩
  have b2:=Be hp u3.fr (k:=j.2.2.1) ⟨hbi.1,by omega⟩
  rw [u2]
  simp only [if_neg h6]
  rw [b2]
  exact ⟨⟨g1,fun _ _ _ _=>u1⟩,rfl⟩
theorem HW {x:w9} (hs:bW x=0->x.1.1<=24):su x/\ D6 x=if bW x=0 then (lJ x.1.1 (gK x) x.2.2 x.1.2.1,0) else ([],bW x):=by
 obtain ⟨k1,k2⟩:=vT x
 unfold su D6 az ak
 rw [k2]
 by_cases h:bW x=0
 rotate_left
 ·simp only [if_neg h]
  have hb:(bW x !=0)=true:=by simpa using h
  rw [if_pos hb]
  exact ⟨⟨k1,fun q=>absurd hb q⟩,rfl⟩
 simp only [if_pos h]
 obtain ⟨h1,h2,h3,h4⟩:=lI h
 have hst:=Yd h
 have hp:Nr (gK x):=⟨by omega,by omega,by omega⟩
 obtain ⟨d1,d2⟩:=Wy (n:=x.1.1) ⟨h1.1.1,hs h⟩
 have hDl:(YH.take x.1.1.toNat).length<=24:=by rw [List.length_take,RY];omega
 have hDi: ∀q∈YH.take x.1.1.toNat,InD q:=fun q hq=>YI q (List.mem_of_mem_take hq)
 have he:lJ x.1.1 (gK x) x.2.2 x.1.2.1=(YH.take x.1.1.toNat).map fun d=>xe (gK x) (fa x.2.2 d) x.1.2.1:=rfl
 rw [d2,he]
 try dsimp only
 generalize YH.take x.1.1.toNat=D at*
 generalize gK x=st at*
 have key:TR (iG x) (lZ x) (st.1,st.2.1,st.2.2,D,[],0) fun r=>r=D.map fun d=>xe st (fa x.2.2 d) x.1.2.1:=by
  refine cu D.length (fun i s=>s=(st.1,st.2.1,st.2.2,D,(D.take i).map (fun d=>xe st (fa x.2.2 d) x.1.2.1),(i:Int))) _ (fun i s hi hJ=> ?_) (fun s hJ=> ?_) rfl
  ·subst hJ
   have hin:InD (D.getD i (0,0)):=hDi _ (dW hi _)
   obtain ⟨w1,w2⟩:=OB h3 h4 hin
   obtain ⟨_,_,w3⟩:=BW h3 h4 hin
   have b2:=Be hp w3 (k:=x.1.2.1) h1.2.1
   have hl:((D.take i).map (fun d=>xe st (fa x.2.2 d) x.1.2.1)).length=i:=by rw [List.length_map,List.length_take];omega
   dsimp only [lZ,iG,gY,Tr.val,Tr.pre];(try dsimp only [az,ak])
   simp only [Int.toNat_natCast]
   have hil:(i:Int)<((D.length:Nat):Int):=by omega
   simp only [if_pos hil]
   rw [w2]
   have b2':Ar ((st.1,st.2.1,st.2.2),fa x.2.2 (D.getD i (0,0)),x.1.2.1)=xe st (fa x.2.2 (D.getD i (0,0))) x.1.2.1:=b2
   try dsimp only
   rw [b2',hl]
   refine ⟨fun _=>⟨⟨by omega,by omega⟩,hi,hi,w1,by omega⟩,.inl ⟨_,rfl,?_⟩⟩
   rw [bZ hi (0,0),List.map_append,ax (by omega) (by omega)]
   rfl
  ·subst hJ
   refine ⟨?_,_,?_,rfl⟩
   ·dsimp only [lZ,gY,Tr.val,Tr.pre];(try dsimp only [az,ak])
    intro q
    (try dsimp only at q);omega
   ·dsimp only [iG,gY,Tr.val,Tr.pre];(try dsimp only [az,ak])
    rw [if_neg (by omega),List.take_length]
 rw [key.2]
 exact ⟨⟨k1,fun _=>⟨d1,key.1⟩⟩,rfl⟩
theorem yy {L:List T3} (hs:tF L) (hl:L.length<=1000) {a b:P3} (ha:dB a) (hb:dB b):lY (L,a,b)/\ vR (L,a,b)=decide (nU L a b):=by
 have hall: ∀t∈L,SmT t:=fun t ht=>⟨hs t ht _ (by simp [Js]),hs t ht _ (by simp [Js]),hs t ht _ (by simp [Js])⟩
 have key:TR (eK (L,a,b)) (jd (L,a,b)) 0 fun r=>r=if nU L a b then .inl () else .inr ():=by
  refine cu L.length (fun i s=>s=(i:Int)/\ ¬nU (L.take i) a b) _ (fun i s hi hJ=> ?_) (fun s hJ=> ?_) ⟨rfl,fun ⟨t,h,_⟩=>by simp at h⟩
  ·obtain ⟨rfl,hn⟩:=hJ
   have hm:=dW hi zT
   obtain ⟨t,ht⟩: ∃t,t=L.getD i zT:=⟨_,rfl⟩
   rw [<- ht] at hm
   obtain ⟨k1,k2⟩:=aah ha hb (hall t hm)
   have eT:L.getD i (((0:Int),(0:Int),(0:Int)),((0:Int),(0:Int),(0:Int)),(0:Int),(0:Int),(0:Int))=t:=ht.symm
   have hil:(i:Int)<((L.length:Nat):Int):=by omega
   dsimp only [jd,eK,dO,Tr.val,Tr.pre];(try dsimp only [az,ak])
   simp only [Int.toNat_natCast,eT,if_pos hil,k2]
   refine ⟨fun _=>⟨⟨by omega,by omega⟩,hi,hi,k1⟩,?_⟩
   by_cases h:Jd a b t
   ·rw [decide_eq_true h,if_pos rfl]
    exact .inr ⟨_,rfl,(if_pos ⟨t,hm,h⟩).symm⟩
   ·rw [decide_eq_false h,if_neg (by decide),ax (by omega) (by omega)]
    refine .inl ⟨_,rfl,rfl,fun ⟨t',h1,h2⟩=> ?_⟩
    rw [bZ hi zT,<- ht] at h1
    rcases List.mem_append.1 h1 with h1|h1
    ·exact hn ⟨t',h1,h2⟩
    ·rw [List.mem_singleton] at h1
     subst h1
     exact h h2
  ·obtain ⟨rfl,hn⟩:=hJ
   rw [List.take_length] at hn
   refine ⟨?_,_,?_,(if_neg hn).symm⟩
   ·dsimp only [jd,dO,Tr.val,Tr.pre];(try dsimp only [az,ak])
    intro q
    (try dsimp only at q);omega
   ·dsimp only [eK,dO,Tr.val,Tr.pre];(try dsimp only [az,ak])
    rw [if_neg (by omega)]
 unfold lY vR ak
 rw [key.2]
 refine ⟨key.1,?_⟩
 by_cases h:nU L a b
 ·rw [if_pos h,decide_eq_true h];rfl
 ·rw [if_neg h,decide_eq_false h];rfl
abbrev an5:Type:=List T3×w9
theorem TN (x:an5) {L:List T3} (hs:tF L) (hl:L.length<=12) (hL:x.1=L) {aX:P3} (ha:dB aX) {E:List P3} (hE: ∀e∈E,dB e) (hEl:E.length<=1000) (ps:List Int):
  TR (eu x) (kE x) (aX.1,aX.2.1,aX.2.2,ps,E,0,0) fun r=>r=(aX.1,aX.2.1,aX.2.2,ps,((fx L aX E:Nat):Int)):=by
 refine cu E.length (fun i s=>s=(aX.1,aX.2.1,aX.2.2,ps,E,((fx L aX (E.take i):Nat):Int),(i:Int))) _ (fun i s hi hJ=> ?_) (fun s hJ=> ?_) rfl
 ·subst hJ
  have hp:=hE _ (dW hi z3)
  obtain ⟨w1,w2⟩:=yy hs (by omega) ha hp
  have apw:fx L aX (E.take (i+1))=fx L aX (E.take i)+(if nU L aX (E.getD i z3) then 0 else 1):=by
   unfold fx
   rw [bZ hi z3,List.countP_append,List.countP_singleton]
   congr 1
   by_cases h:nU L aX (E.getD i z3)<;>simp [h]
  have hle:fx L aX (E.take i)<=i:=by
   unfold fx
   refine Nat.le_trans List.countP_le_length ?_
   rw [List.length_take];omega
  have hil:(i:Int)<((E.length:Nat):Int):=by omega
  have w2':vR (L,(aX.1,aX.2.1,aX.2.2),E.getD i ((0:Int),(0:Int),(0:Int)))=decide (nU L aX (E.getD i z3)):=w2
  have w1':lY (L,(aX.1,aX.2.1,aX.2.2),E.getD i ((0:Int),(0:Int),(0:Int))):=w1
  dsimp only [kE,eu,fM,Tr.val,Tr.pre];(try dsimp only [az,ak])
  simp only [Int.toNat_natCast,hL,if_pos hil,w2']
  refine ⟨fun _=>⟨⟨by omega,by omega⟩,hi,hi,w1'⟩,.inl ⟨_,?_,rfl⟩⟩
  rw [apw]
  have e1:au ((i:Int)+1)=((i+1:Nat):Int):=by rw [ax (by omega) (by omega)];rfl
  have e2:au (((fx L aX (E.take i):Nat):Int)+1)=((fx L aX (E.take i)+1:Nat):Int):=by rw [ax (by omega) (by omega)];rfl
  by_cases h:nU L aX (E.getD i z3)
  ·rw [decide_eq_true h,if_neg (by decide),if_pos h,e1];rfl
  ·rw [decide_eq_false h,if_pos (by decide),if_neg h,e1,e2]
 ·subst hJ
  refine ⟨?_,_,?_,rfl⟩
  ·dsimp only [kE,fM,Tr.val,Tr.pre];(try dsimp only [az,ak])
   intro q
   (try dsimp only at q);omega
  ·dsimp only [eu,fM,Tr.val,Tr.pre];(try dsimp only [az,ak])
   rw [if_neg (by omega),List.take_length]
theorem OH (x:an5) {L:List T3} (hs:tF L) (hl:L.length<=12) (hL:x.1=L) {aX n:P3} (hn':x.2.2.2=n) (ha:Km aX) (hn:Nr n) (h0:n≠(0,0,0)) {Lt:List zA} (hLt:x.2.1.2.2.2.2=Lt) (hLl:Lt.length<=100) (hR: ∀l∈Lt,de l) (k:Int):
  TR (cn x) (iH x) (aX.1,aX.2.1,aX.2.2,[k],0) fun r=>r= [k]++gk L Lt aX n:=by
 refine cu Lt.length (fun i s=>s=(aX.1,aX.2.1,aX.2.2,[k]++gk L (Lt.take i) aX n,(i:Int))) _ (fun i s hi hJ=> ?_) (fun s hJ=> ?_) (by simp [gk])
 ·subst hJ
  obtain ⟨l,hlD⟩: ∃l,l=Lt.getD i (0,(0,0,0),(0,0,0),0,0):=⟨_,rfl⟩
  have hr:=hR _ (dW hi (0,(0,0,0),(0,0,0),0,0))
  rw [<- hlD] at hr
  have hsn:gk L (Lt.take (i+1)) aX n=gk L (Lt.take i) aX n++x8 L aX n l:=by
   rw [bZ hi (0,(0,0,0),(0,0,0),0,0),<- hlD]
   unfold gk
   rw [List.flatMap_append]
   simp
  have Aa:=qL L aX n (Lt.take i)
  rw [List.length_take] at Aa
  have auX:([k]++gk L (Lt.take i) aX n).length<=101:=by
   rw [List.length_append];simp;omega
  obtain ⟨t1,t2⟩:=Bc hr ha.p8
  obtain ⟨z1,z2⟩:=TH hr ha.p8 hn h0
  have e1:au ((i:Int)+1)=((i+1:Nat):Int):=by rw [ax (by omega) (by omega)];rfl
  have hil:(i:Int)<((Lt.length:Nat):Int):=by omega
  have eat:(aX.1,aX.2.1,aX.2.2)=aX:=rfl
  dsimp only [iH,cn,ej,Tr.val,Tr.pre];(try dsimp only [az,ak])
  simp only [Int.toNat_natCast,hL,hLt,hn',<- hlD,eat,t2,z2,if_pos hil,e1]
  rw [hsn]
  rcases AI hr ha.p8 with ⟨e,he⟩|⟨e,hu,hsm⟩
  ·refine ⟨fun _=>⟨⟨by omega,by omega⟩,hi,hi,t1,fun h=>absurd h (by simp [e])⟩,.inl ⟨_,?_,rfl⟩⟩
   have hF:x8 L aX n l= []:=by unfold x8;rw [if_neg (fun h=>by have:=h.1;omega)]
   rw [if_neg (by simp [e]),hF,List.append_nil]
  ·obtain ⟨w1,w2⟩:=yy hs (by omega) ha.sm hsm
   rw [w2]
   refine ⟨fun _=>⟨⟨by omega,by omega⟩,hi,hi,t1,fun _=>⟨w1,fun _=>⟨⟨by omega,by omega⟩,hi,hi,z1,by omega⟩⟩⟩,.inl ⟨_,?_,rfl⟩⟩
   rw [if_pos (by simp [e])]
   by_cases h:nU L aX (ku l aX).2.1
   ·have hF:x8 L aX n l= []:=by unfold x8;rw [if_neg (fun q=>q.2 h)]
    rw [decide_eq_true h,if_neg (by decide),hF,List.append_nil]
   ·have hF:x8 L aX n l= [shF l aX n]:=by unfold x8;rw [if_pos ⟨e,h⟩]
    rw [decide_eq_false h,if_pos (by decide),hF,List.append_assoc]
 ·subst hJ
  refine ⟨?_,_,?_,rfl⟩
  ·dsimp only [iH,ej,Tr.val,Tr.pre];(try dsimp only [az,ak])
   intro q
   rw [hLt] at q
   (try dsimp only at q);omega
  ·dsimp only [cn,ej,Tr.val,Tr.pre];(try dsimp only [az,ak])
   rw [hLt,if_neg (by omega),List.take_length]
def akC (L:List T3) (x:w9):Int×Int:=if bW x=0 then (NM L x.1.2.2.2.2 ((x.1.1,x.1.2.1,x.1.2.2.1,x.1.2.2.2.1),gK x,x.2.2),0) else (0,bW x)
theorem D7 {L:List T3} (hs:tF L) (hl:L.length<=12) {x:w9} (hx:bW x=0->x.1.1<=24):vV (L,x)/\ Mm (L,x)=akC L x:=by
 obtain ⟨k1,k2⟩:=vT x
 obtain ⟨e1,e2⟩:=HW hx
 unfold vV Mm az ak akC
 dsimp only
 rw [k2,e2]
 by_cases h:bW x=0
 rotate_left
 ·simp only [if_neg h]
  have hb:(bW x !=0)=true:=by simpa using h
  rw [if_pos hb]
  exact ⟨⟨k1,fun q=>absurd hb q⟩,rfl⟩
 simp only [if_pos h]
 obtain ⟨h1,h2,h3,h4⟩:=lI h
 have ha:Km (gK x):=Yd h
 have hz:=hx h
 have hLl:x.1.2.2.2.2.length<=100:=by have:=h1.2.2.2.2.1;omega
 have hw: ∀k:Int,([k]++gk L x.1.2.2.2.2 (gK x) x.2.2).length<4611686018427387904:=fun k=>by
  have:=qL L (gK x) x.2.2 x.1.2.2.2.2
  rw [List.length_append];simp;omega
 have hEl:=K7 (k:=x.1.1) ⟨h1.1.1,hz⟩ (gK x) x.2.2 x.1.2.1
 have hEs:=abY (k:=x.1.1) ha h3 h4 h1.2.1
 have Lw:=fun k=>OH (L,x) hs hl rfl (aX:=gK x) (n:=x.2.2) rfl ha h3 h4 (Lt:=x.1.2.2.2.2) rfl hLl h1.2.2.2.2.2 k
 rw [if_neg (show¬(((0:Int) !=0)=true) by decide)]
 by_cases hsp:x.1.1>0
 ·have ro:=TN (L,x) hs hl rfl (aX:=gK x) ha.sm hEs (by omega) [x.1.2.2.2.1]
  generalize hE:lJ x.1.1 (gK x) x.2.2 x.1.2.1=E at*
  have hle:fx L (gK x) E<=E.length:=List.countP_le_length
  have arQ:=h1.2.2.2.1
  have hbd:0<=x.1.2.2.2.1*((fx L (gK x) E:Nat):Int)/\ x.1.2.2.2.1*((fx L (gK x) E:Nat):Int)<=255*24:=by
   refine ⟨Int.mul_nonneg arQ.1 (by omega),?_⟩
   exact (qJ (A:=255) (B:=24) (by omega) arQ.2 (by omega) (by omega)).2
  have hk:au (Int.tdiv (au (x.1.2.2.2.1*((fx L (gK x) E:Nat):Int))) x.1.1)=arF L x.1.1 x.1.2.2.2.1 (gK x) x.2.2 x.1.2.1:=by
   have hq:=Int.ediv_le_self x.1.1 hbd.1
   have hq0:=Int.ediv_nonneg hbd.1 (show 0<=x.1.1 by omega)
   unfold arF
   rw [if_neg (by omega),hE,ax (n:=x.1.2.2.2.1*((fx L (gK x) E:Nat):Int)) (by omega) (by omega),Int.tdiv_eq_ediv_of_nonneg hbd.1,ax (by omega) (by omega)]
  rw [ro.2]
  dsimp only
  rw [hk]
  have Zt:List.set [x.1.2.2.2.1] 0 (arF L x.1.1 x.1.2.2.2.1 (gK x) x.2.2 x.1.2.1)= [arF L x.1.1 x.1.2.2.2.1 (gK x) x.2.2 x.1.2.1]:=rfl
  rw [Zt,(Lw _).2,if_pos hsp,(vQ _ (hw _)).2]
  refine ⟨⟨k1,fun _=>⟨fun _=>⟨e1,ro.1,by omega,by simp,by simp,by simp,(Lw _).1,(vQ _ (hw _)).1⟩,fun q=>absurd hsp q⟩⟩,?_⟩
  rfl
 ·have hz0:x.1.1=0:=by have:=h1.1.1;omega
  rw [if_neg hsp,(Lw _).2,(vQ _ (hw _)).2]
  refine ⟨⟨k1,fun _=>⟨fun q=>absurd q hsp,fun _=>⟨(Lw _).1,(vQ _ (hw _)).1⟩⟩⟩,?_⟩
  unfold NM arF
  dsimp only
  rw [if_pos hz0]
end Go.Proofs.YtngdehlpoomaiaaGreat
namespace Go.Proofs.YtngdehlpoomaiaaGreat
open Go Go.Ev Go.Proofs
theorem OE {t:T3} (ht:SmT t):GC t=Ze t:=by
 have hb:=ajh ht
 have f: ∀a:Int,(-2147483648<=a/\ a<=2147483648)->au (Int.tdiv a 16384)=Int.tdiv a 16384:=fun a ha=>by
  have h1:=Int.mul_tdiv_add_tmod a 16384
  have h2:=Int.tmod_lt_of_pos a (show (0:Int)<16384 by decide)
  have h4: -16384<Int.tmod a 16384:=by
   have:=Int.tmod_lt_of_pos (-a) (show (0:Int)<16384 by decide)
   rw [Int.neg_tmod] at this
   omega
  exact ax (by omega) (by omega)
 have n2:uz t=(rz t,0):=Ec ht.1 ht.2.1 ht.2.2
 unfold GC ak
 rw [n2]
 dsimp only
 rw [f _ hb.1,f _ hb.2.1,f _ hb.2.2]
 have ez:=abx (Ww (rz t))
 have ez':((Int.tdiv (rz t).1 16384==(0:Int))&&((Int.tdiv (rz t).2.1 16384==(0:Int))&&((Int.tdiv (rz t).2.2 16384==(0:Int))&&true)))=decide (Ww (rz t)=(0,0,0)):=ez
 rw [ez']
 unfold Ze
 by_cases h:Ww (rz t)=(0,0,0)
 ·rw [if_pos h,decide_eq_true h,if_pos rfl]
 ·rw [if_neg h,decide_eq_false h,if_neg (by decide)]
  rfl
theorem TP {L:List T3} (hl:L.length<=500):l5 L/\ uw L=if tF L then 0 else 5:=by
 have hv: ∀t:T3,kP [t.1,t.2.1,t.2.2]/\ yE [t.1,t.2.1,t.2.2]=decide (∀p∈Js t,dB p):=fun t=>Cr _ (by simp)
 have key:TR (gp L) (kD L) 0 fun r=>r=if tF L then .inr () else .inl ():=by
  refine cu L.length (fun i s=>s=(i:Int)/\ tF (L.take i)) _ (fun i s hi hJ=> ?_) (fun s hJ=> ?_) ⟨rfl,fun t h=>by simp at h⟩
  ·obtain ⟨rfl,hn⟩:=hJ
   have hm:=dW hi zT
   obtain ⟨t,ht⟩: ∃t,t=L.getD i zT:=⟨_,rfl⟩
   rw [<- ht] at hm
   have eT:L.getD i (((0:Int),(0:Int),(0:Int)),((0:Int),(0:Int),(0:Int)),(0:Int),(0:Int),(0:Int))=t:=ht.symm
   have hil:(i:Int)<((L.length:Nat):Int):=by omega
   obtain ⟨v1,v2⟩:=hv t
   dsimp only [kD,gp,fK,Tr.val,Tr.pre];(try dsimp only [az,ak])
   simp only [Int.toNat_natCast,eT,if_pos hil,v2]
   refine ⟨fun _=>⟨⟨by omega,by omega⟩,hi,hi,hi,⟨by omega,by omega⟩,hi,hi,hi,⟨by omega,by omega⟩,hi,hi,hi,v1⟩,?_⟩
   by_cases h: ∀p∈Js t,dB p
   ·rw [decide_eq_true h,if_neg (by decide),ax (by omega) (by omega)]
    refine .inl ⟨_,rfl,rfl,fun t' h1=> ?_⟩
    rw [bZ hi zT,<- ht] at h1
    rcases List.mem_append.1 h1 with h1|h1
    ·exact hn t' h1
    ·rw [List.mem_singleton] at h1
     subst h1
     exact h
   ·rw [decide_eq_false h,if_pos (by decide)]
    exact .inr ⟨_,rfl,(if_neg (fun q:tF L=>h (q t hm))).symm⟩
  ·obtain ⟨rfl,hn⟩:=hJ
   rw [List.take_length] at hn
   refine ⟨?_,_,?_,(if_pos hn).symm⟩
   ·dsimp only [kD,fK,Tr.val,Tr.pre];(try dsimp only [az,ak])
    intro q
    omega
   ·dsimp only [gp,fK,Tr.val,Tr.pre];(try dsimp only [az,ak])
    rw [if_neg (by omega)]
 unfold l5 uw ak
 rw [key.2]
 refine ⟨fun _=>key.1,?_⟩
 rw [if_neg (by omega)]
 by_cases h:tF L
 ·rw [if_pos h,if_pos h];rfl
 ·rw [if_neg h,if_neg h];rfl
theorem OG (l:List T3) (j:Jb) (s:List Smp) (hs:s.length<=1000):TR (dK (l,j,s)) (jU (l,j,s)) 0 fun r=>(r= .inr ()/\ ∀y∈s,inT l y)\/ (r= .inl ()/\ ¬ ∀y∈s,inT l y):=by
 refine cu s.length (fun i st=>st=(i:Int)/\ ∀y∈s.take i,inT l y) _ (fun i st hi hJ=> ?_) (fun st hJ=> ?_) ⟨rfl,by simp⟩
 ·obtain ⟨rfl,hall⟩:=hJ
  have hm:=dW hi zS
  dsimp only [jU,dK,eL,Tr.val,Tr.pre];(try dsimp only [az,ak])
  simp only [Int.toNat_natCast]
  refine ⟨fun _=>⟨⟨by omega,by omega⟩,hi,hi,hi,fun _=>⟨⟨by omega,by omega⟩,hi,hi,hi⟩⟩,?_⟩
  rw [if_pos (show ((i:Nat):Int)<((s.length:Nat):Int) by omega)]
  have e:s.getD i ((0:Int),(0:Int),(0:Int),(0:Int),(0:Int),(0:Int))=s.getD i zS:=rfl
  simp only [e]
  by_cases h1:(s.getD i zS).2.2.1<0
  ·rw [if_pos h1]
   exact .inr ⟨_,rfl,.inr ⟨rfl,fun h=>by have:=(h _ hm).1;omega⟩⟩
  rw [if_neg h1]
  by_cases h2:(s.getD i zS).2.2.1>=((l.length:Nat):Int)
  ·rw [if_pos h2]
   exact .inr ⟨_,rfl,.inr ⟨rfl,fun h=>by have:=(h _ hm).2;omega⟩⟩
  rw [if_neg h2,ax (by omega) (by omega)]
  refine .inl ⟨_,rfl,rfl,fun y hy=> ?_⟩
  rw [bZ hi zS] at hy
  rcases List.mem_append.1 hy with hy|hy
  ·exact hall y hy
  ·rw [List.mem_singleton] at hy
   subst hy
   exact ⟨by omega,by omega⟩
 ·obtain ⟨rfl,hall⟩:=hJ
  rw [List.take_length] at hall
  refine ⟨?_,_,?_,.inl ⟨rfl,hall⟩⟩
  ·dsimp only [jU,eL,Tr.val,Tr.pre];(try dsimp only [az,ak])
   intro q
   (try dsimp only at q);omega
  ·dsimp only [dK,eL,Tr.val,Tr.pre];(try dsimp only [az,ak])
   rw [if_neg (by omega)]
theorem WX (l:List T3) (j:Jb) (s:List Smp) (hl:l.length<=8) (hj:j.1<=12\/ j.1>64) (hs:tF l) (hlen:s.length<=1000) (hin: ∀y∈s,inT l y):
    TR (fy (l,j,s)) (jV (l,j,s)) ([],0) fun r=>(nX (s.map (rH l j))=0/\ r= .inr (s.map (OR l j)))\/ (nX (s.map (rH l j))≠0/\ r= .inl (nX (s.map (rH l j)))):=by
  refine cu s.length (fun i st=>st=((s.take i).map (OR l j),(i:Int))/\ ∀y∈s.take i,rH l j y=0) _ (fun i st hi hJ=> ?_) (fun st hJ=> ?_) ⟨rfl,by simp⟩
  · obtain ⟨rfl,hz⟩:=hJ
    have hm:=dW hi zS
    obtain ⟨y,hy⟩: ∃y,y=s.getD i zS:=⟨_,rfl⟩
    rw [<- hy] at hm
    have e:s.getD i ((0:Int),(0:Int),(0:Int),(0:Int),(0:Int),(0:Int))=y:=hy.symm
    obtain ⟨q1,q2⟩:=hin y hm
    have hyl:y.2.2.1.toNat<l.length:=by omega
    have hST:SmT (l.getD y.2.2.1.toNat zT):=aj4 hs ⟨q1,q2⟩
    have g2:=OE hST
    have eT:l.getD y.2.2.1.toNat (((0:Int),(0:Int),(0:Int)),((0:Int),(0:Int),(0:Int)),(0:Int),(0:Int),(0:Int))=l.getD y.2.2.1.toNat zT:=rfl
    have eo:(j,y.2.2.2,Ze (l.getD y.2.2.1.toNat zT))=td l j y:=rfl
    have hlt:((s.take i).map (OR l j)).length=i:=by rw [List.length_map,List.length_take];omega
    have htk:s.take (i+1)=s.take i++ [y]:=by rw [bZ hi zS, <- hy]
    have hil:(i:Int)<((s.length:Nat):Int):=by omega
    have hx:bW (td l j y)=0->(td l j y).1.1<=24:=fun h=>by
      have c1:OU j:=(lI h).1
      have:=c1.1
      show j.1<=24
      omega
    obtain ⟨v1,v2⟩:=D7 hs (by omega) hx
    dsimp only [jV,fy,eM,Tr.val,Tr.pre];(try dsimp only [az,ak])
    simp only [Int.toNat_natCast,e,eT,g2,eo,v2,hlt,if_pos hil]
    by_cases hc:bW (td l j y)=0
    · have ev:akC l (td l j y)=(OR l j y,0):=if_pos hc
      rw [ev]
      refine ⟨fun _=>⟨⟨by omega,by omega⟩,hi,hi,hi,⟨by omega,by omega⟩,hi,hi,hi,⟨q1,q2⟩,hyl,hyl,v1,fun _=>by omega⟩, .inl ⟨_,if_neg (by (try dsimp only);decide), ?_,fun z hz'=> ?_⟩⟩
      · rw [htk,List.map_append,ax (by omega) (by omega)]
        rfl
      · rw [htk] at hz'
        rcases List.mem_append.1 hz' with h|h
        · exact hz z h
        · rw [List.mem_singleton] at h
          subst h
          exact hc
    · have ev:akC l (td l j y)=(0,bW (td l j y)):=if_neg hc
      have hne:(bW (td l j y) !=0)=true:=by simpa using hc
      rw [ev]
      refine ⟨fun _=>⟨⟨by omega,by omega⟩,hi,hi,hi,⟨by omega,by omega⟩,hi,hi,hi,⟨q1,q2⟩,hyl,hyl,v1,fun q=>absurd hne q⟩, .inr ⟨_,if_pos hne, .inr ?_⟩⟩
      have hb:nX (s.map (rH l j))=rH l j y:=by
        have es:s=s.take i++(y::s.drop (i+1)):=by
          rw [hy,List.getD_eq_getElem?_getD,List.getElem?_eq_getElem hi,Option.getD_some, <- List.drop_eq_getElem_cons hi,List.take_append_drop]
        rw [es,List.map_append,KG,tH (fun c Jj=>by
          obtain ⟨z,h,rfl⟩:=List.mem_map.1 Jj
          exact hz z h),if_pos rfl,List.map_cons,nX]
        exact if_neg hc
      rw [hb]
      exact ⟨hc,rfl⟩
  · obtain ⟨rfl,hz⟩:=hJ
    rw [List.take_length] at hz
    refine ⟨?_,_, ?_, .inl ⟨tH (fun c Jj=>by
          obtain ⟨z,h,rfl⟩:=List.mem_map.1 Jj
          exact hz z h),rfl⟩⟩
    · dsimp only [jV,eM,Tr.val,Tr.pre];(try dsimp only [az,ak])
      intro q
      (try dsimp only at q);omega
    · dsimp only [fy,eM,Tr.val,Tr.pre];(try dsimp only [az,ak])
      rw [if_neg (by omega),List.take_length]
theorem OJ {l:List T3} {j:Jb} {s:List Smp} (hf:Pf (l,j)=true) (hlen:s.length<=1000):sZ (l,j,s)/\ GF (l,j,s)=FC l j s:=by
 rw [Sz] at hf
 have hf:=of_decide_eq_true hf
 obtain ⟨g1,g2⟩:=GD j
 obtain ⟨m1,m2⟩:=TP (L:=l) (by omega)
 unfold sZ GF az ak FC
 dsimp only
 rw [g2,m2]
 by_cases hj:OU j
 rotate_left
 ·rw [decide_eq_false hj,if_neg hj]
  exact ⟨⟨g1,fun h=>absurd rfl h⟩,rfl⟩
 rw [decide_eq_true hj,if_pos hj]
 by_cases hs:tF l
 rotate_left
 ·simp only [if_neg hs]
  exact ⟨⟨g1,fun _=>⟨m1,fun _=>m1,fun h=>absurd rfl h⟩⟩,rfl⟩
 simp only [if_pos hs]
 have ki:=OG l j s hlen
 rcases ki.2 with ⟨k1,k2⟩|⟨k1,k2⟩
 rotate_left
 ·rw [k1,if_neg k2]
  exact ⟨⟨g1,fun _=>⟨m1,fun h=>absurd h (by decide),fun _=>⟨ki.1,trivial⟩⟩⟩,rfl⟩
 have kv:=WX l j s (by omega) hf.2.2 hs hlen k2
 rw [k1,if_pos k2]
 rcases kv.2 with ⟨v1,v2⟩|⟨v1,v2⟩
 ·dsimp only [Sum.elim_inr,cS]
  rw [v2,if_pos v1]
  exact ⟨⟨g1,fun _=>⟨m1,fun h=>absurd h (by decide),fun _=>⟨ki.1,kv.1⟩⟩⟩,rfl⟩
 ·dsimp only [Sum.elim_inr,cS]
  rw [v2,if_neg v1]
  exact ⟨⟨g1,fun _=>⟨m1,fun h=>absurd h (by decide),fun _=>⟨ki.1,kv.1⟩⟩⟩,rfl⟩
theorem Tt (l:List P3) (hl:l.length<4611686018427387904):vF (l,l)/\ L9 (l,l)=true:=by
 have k:=iq l hl (fun _=>false) (gl (l,l)) (oN (l,l)) (fun i hi=>by
   unfold oN
   intro h
   simp only [Int.toNat_natCast]
   dsimp only at h ⊢
   exact ⟨⟨by omega,by omega⟩,by omega,by omega,⟨by omega,by omega⟩,by omega,by omega⟩) (fun i v hv=>by
   have hlt:=cz hv
   unfold gl
   dsimp only
   rw [if_pos (by omega),if_neg (by simp)]
   rfl) (by
   unfold gl
   dsimp only
   rw [if_neg (by omega)])
 unfold vF L9 ak
 dsimp only
 rw [if_neg (by simp)]
 refine ⟨fun _=>k.1,?_⟩
 rw [k.2]
 simp
abbrev arh:Type:=List T3×(Jb×P3×P3×List Smp)
theorem HF (x:arh):x7 x/\ S5 x=true:=by
 obtain ⟨l,j,p,n,s⟩:=x
 obtain ⟨g1,g2⟩:=SE false
 dsimp only [x7,S5,Ad,Tr.val,Tr.pre];(try dsimp only [az,ak])
 cases hf:Pf (l,j) with
 |false=>exact ⟨fun h=>absurd rfl h,rfl⟩
 |true=>
 have hf':=hf
 rw [Sz] at hf'
 have hf':=of_decide_eq_true hf'
 rw [if_neg (by decide)]
 by_cases h6:((s.length:Nat):Int)>6
 ·rw [if_pos h6]
  exact ⟨fun _ h=>absurd h6 h,rfl⟩
 rw [if_neg h6]
 have hx:bW (j,p,n)=0->(j,p,n).1.1<=24:=fun h=>by
  have c1:OU j:=(lI h).1
  have:=c1.1
  show j.1<=24
  omega
 obtain ⟨a1,a2⟩:=CJ (j,p,n)
 obtain ⟨b1,b2⟩:=vT (j,p,n)
 obtain ⟨c1,c2⟩:=ad5 hx
 obtain ⟨d1,d2⟩:=HW hx
 obtain ⟨e1,e2⟩:=akF (s:=s) hf (by omega)
 obtain ⟨f1,f2⟩:=OJ (s:=s) hf (by omega)
 obtain ⟨i1,i2⟩:=Di j
 obtain ⟨k1,k2⟩:=GD j
 have hEl:(if bW (j,p,n)=0 then (lJ (j,p,n).1.1 (gK (j,p,n)) (j,p,n).2.2 (j,p,n).1.2.1,(0:Int)) else ([],bW (j,p,n))).1.length<4611686018427387904:=by
  split
  ·rename_i h
   have:=K7 (k:=j.1) ⟨(lI h).1.1.1,hx h⟩ (gK (j,p,n)) n j.2.1
   have h24:=hx h
   show (lJ j.1 (gK (j,p,n)) n j.2.1).length<_
   dsimp only at h24
   omega
  ·simp
 have hVl:(FC l j s).1.length<4611686018427387904:=by
  have h0:(FC l j s).1= []\/ (FC l j s).1=s.map (OR l j):=by
   unfold FC
   repeat' split
   all_goals first|exact .inl rfl|exact .inr rfl
  rcases h0 with h0|h0<;>rw [h0]<;>simp<;>omega
 obtain ⟨p1,p2⟩:=Tt _ hEl
 obtain ⟨s1,s2⟩:=aaZ _ hVl
 rw [a2,b2,c2,d2,e2,f2,i2,k2]
 generalize (if bW (j,p,n)=0 then (lJ (j,p,n).1.1 (gK (j,p,n)) (j,p,n).2.2 (j,p,n).1.2.1,(0:Int)) else ([],bW (j,p,n)))=E at*
 generalize (if bW (j,p,n)=0 then (gK (j,p,n),(0:Int)) else ((0,0,0),bW (j,p,n)))=S at*
 generalize FC l j s=V at*
 have q1:(!((S.1.1==S.1.1)&&((S.1.2.1==S.1.2.1)&&((S.1.2.2==S.1.2.2)&&true))))=false:=by simp
 have q2:(S.2 !=S.2)=false:=by simp
 have q3:(E.2 !=E.2)=false:=by simp
 have q4:(V.2 !=V.2)=false:=by simp
 have q5:(!(decide (OU j)==decide (OU j)))=false:=by simp
 have ahY: ¬((l.length:Nat):Int)>500:=by omega
 rw [p2,s2,q1,q2,q3,q4,q5,g2]
 simp only [if_neg ahY]
 by_cases hs:tF l
 rotate_left
 ·obtain ⟨z1,z2⟩:=Hh (L:=l) (by omega) hs
  rw [z2]
  exact ⟨fun _ _=>⟨a1,b1,c1,d1,e1,f1,fun _ _=>⟨p1,fun _ _=>⟨s1,fun _ _=>⟨i1,k1,fun _=>⟨fun h=>absurd h ahY,fun _=>⟨z1,fun _=>g1,fun h=>absurd rfl h⟩⟩⟩⟩⟩⟩,rfl⟩
 obtain ⟨z1,z2⟩:=rJ (L:=l) (by omega) hs
 obtain ⟨l1,l2⟩:=zJ l (by omega)
 have eoa:oa j.2.2.2.2 ((j.1,j.2.1,j.2.2.1,j.2.2.2.1),p,n)=(j,p,n):=rfl
 obtain ⟨v1,T',K2,a',b',v2,v3⟩:=Kq hs (by omega) (T:= []) (dn:=0) (.inl rfl) j.2.2.2.2 ((j.1,j.2.1,j.2.2.1,j.2.2.2.1),p,n) hx 0 0
 obtain ⟨w1,w2⟩:=D7 hs (by omega) hx
 rw [z2,l2,w2]
 have v2':alu (l,[],j.2.2.2.2,((0:Int),(0:Int),(0:Int)),(j.1,j.2.1,j.2.2.1,j.2.2.2.1),p,n)=(akC l (j,p,n),T',K2,a',b'):=v2
 have avv:=v2'
 rw [avv]
 refine ⟨fun _ _=>⟨a1,b1,c1,d1,e1,f1,fun _ _=>⟨p1,fun _ _=>⟨s1,fun _ _=>⟨i1,k1,fun _=>⟨fun h=>absurd h ahY,fun _=>⟨z1,fun h=>absurd h (by decide),fun _=>⟨l1,v1,w1,g1⟩⟩⟩⟩⟩⟩⟩,?_⟩
 simp
end Go.Proofs.YtngdehlpoomaiaaGreat
namespace Go.Proofs.YtngdehlpoomaiaaGreat
open Go Go.Ev Go.Proofs Go.ChangeShapes Go.WideShapes Go.ChangeAt Go.RowKit
theorem own:ownKnob Tryz.prog.godebug=none:=by kernel_rfl
theorem laidOut:laidOutB Tryz.prog=true:=by kernel_rfl
end Go.Proofs.YtngdehlpoomaiaaGreat
