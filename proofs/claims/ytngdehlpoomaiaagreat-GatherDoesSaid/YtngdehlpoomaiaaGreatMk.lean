/- Plain laws: how bright a spot is. -/
import Derived.Test.YtngdehlpoomaiaaGreatMe
import Derived.Test.YtngdehlpoomaiaaGreatMd
import Derived.Test.YtngdehlpoomaiaaGreatLr
noncomputable section
set_option linter.unusedSectionVars false
set_option linter.unusedVariables false
set_option linter.unusedSimpArgs false
namespace Go.Proofs.YtngdehlpoomaiaaGreat
open Go Go.Ev Go.Proofs
def fx (L:List T3) (a:P3) (E:List P3):Nat:=E.countP fun p=> !decide (nU L a p)
def Km (p:P3):Prop:=(-4224<=p.1/\ p.1<=4224)/\ (-4224<=p.2.1/\ p.2.1<=4224)/\ (-4224<=p.2.2/\ p.2.2<=4224)
theorem Km.sm {p:P3} (h:Km p):dB p:=by
 obtain ⟨a,b,c⟩:=h
 exact ⟨by omega,by omega,by omega⟩
theorem Km.p8 {p:P3} (h:Km p):Pt8 p:=by
 obtain ⟨a,b,c⟩:=h
 exact ⟨by omega,by omega,by omega⟩
theorem Km.nr {p:P3} (h:Km p):Nr p:=by
 obtain ⟨a,b,c⟩:=h
 exact ⟨by omega,by omega,by omega⟩
theorem ahx {k:Int} {aX n:P3} {len:Int} {e:P3} (he:e∈lJ k aX n len): ∃d,InD d/\ e=xe aX (fa n d) len:=by
 unfold lJ at he
 obtain ⟨d,hd,rfl⟩:=List.mem_map.1 he
 exact ⟨d,YI d (List.mem_of_mem_take hd),rfl⟩
theorem K7 {k:Int} (hk:0<=k/\ k<=24) (aX n:P3) (len:Int):((lJ k aX n len).length:Int)=k:=by
 unfold lJ
 rw [List.length_map,List.length_take,RY];omega
theorem abY {k:Int} {aX n:P3} {len:Int} (ha:Km aX) (hn:Nr n) (h0:n≠(0,0,0)) (hl:0<=len/\ len<=2048): ∀e∈lJ k aX n len,dB e:=by
 intro e he
 obtain ⟨d,hd,rfl⟩:=ahx he
 obtain ⟨_,_,w⟩:=BW hn h0 hd
 obtain ⟨a,b,c⟩:=ha
 obtain ⟨_,_,x1,x2⟩:=tG w.1 hl
 obtain ⟨_,_,y1,y2⟩:=tG w.2.1 hl
 obtain ⟨_,_,z1,z2⟩:=tG w.2.2 hl
 unfold xe
 exact ⟨by dsimp only;omega,by dsimp only;omega,by dsimp only;omega⟩
abbrev ari:Type:=List T3×(List zy×List zA×(Int×Int×Int)×(Int×Int×Int×Int)×P3×P3)
theorem UX (x:ari) {L:List T3} (hs:tF L) (hl:L.length<=12) (hL:x.1=L) {aX:P3} (aQ:x.2.2.2.2.2.1=aX) (ha:dB aX) {E:List P3} (hE: ∀e∈E,dB e) (hEl:E.length<=1000) {dn:Int} {T:List zy} (hC:Cst L dn T) (w v:Int):
  TR (dA x) (jf x) (dn,T,w,v,E,0,((E.length:Nat):Int),0) fun r=> ∃K2 T' w' v',r=(K2,T',w',v',E,((fx L aX E:Nat):Int))/\ Cst L K2 T':=by
 refine cu E.length (fun i s=> ∃dn T w v,s=(dn,T,w,v,E,((fx L aX (E.take i):Nat):Int),((E.length:Nat):Int),(i:Int))/\ Cst L dn T) _ (fun i s hi hJ=> ?_) (fun s hJ=> ?_) ⟨dn,T,w,v,rfl,hC⟩
 ·obtain ⟨dn,T,w,v,rfl,hC⟩:=hJ
  obtain ⟨p1,p2,p3⟩:=hC.pick hl
  have hp:=hE _ (dW hi z3)
  obtain ⟨w1,w2⟩:=RR hs hl aX (E.getD i z3)
  rcases w2 with ⟨q,_⟩|⟨_,m,_,_,w2⟩
  ·exact absurd ⟨ha,hp⟩ q
  have apw:fx L aX (E.take (i+1))=fx L aX (E.take i)+(if nU L aX (E.getD i z3) then 0 else 1):=by
   unfold fx
   rw [bZ hi z3,List.countP_append,List.countP_singleton]
   congr 1
   by_cases h:nU L aX (E.getD i z3)<;>simp [h]
  have hle:fx L aX (E.take i)<=i:=by
   unfold fx
   refine Nat.le_trans List.countP_le_length ?_
   rw [List.length_take];omega
  dsimp only [jf,dA,dP,Tr.val,Tr.pre];(try dsimp only [az,ak])
  simp only [Int.toNat_natCast]
  rw [hL,aQ,p3]
  have w3:fI.ask L (jl L).1 (aX,E.getD i ((0:Int),(0:Int),(0:Int)))=(decide (nU L aX (E.getD i z3)),(m:Int),0):=w2
  rw [w3]
  refine ⟨fun _=>⟨⟨by omega,by omega⟩,hi,hi,p1,p2,w1,yl.1⟩,.inl ⟨_,?_,1,(jl L).1,AN (decide (nU L aX (E.getD i z3)),(m:Int),0) w 1,AN (decide (nU L aX (E.getD i z3)),(m:Int),0) v (m:Int),rfl,.inr ⟨rfl,rfl⟩⟩⟩
  rw [if_pos (by omega)]
  try dsimp only
  rw [apw]
  have e1:au ((i:Int)+1)=((i+1:Nat):Int):=by rw [ax (by omega) (by omega)];rfl
  have e2:au (((fx L aX (E.take i):Nat):Int)+1)=((fx L aX (E.take i)+1:Nat):Int):=by rw [ax (by omega) (by omega)];rfl
  by_cases h:nU L aX (E.getD i z3)
  ·rw [decide_eq_true h,if_neg (by decide),if_pos h,e1];rfl
  ·rw [decide_eq_false h,if_pos (by decide),if_neg h,e1,e2]
 ·obtain ⟨dn,T,w,v,rfl,hC⟩:=hJ
  refine ⟨?_,_,?_,dn,T,w,v,rfl,hC⟩
  ·dsimp only [jf,dP,Tr.val,Tr.pre];(try dsimp only [az,ak])
   intro q
   (try dsimp only at q);omega
  ·dsimp only [dA,dP,Tr.val,Tr.pre];(try dsimp only [az,ak])
   rw [if_neg (by omega),List.take_length]
def x8 (L:List T3) (aX n:P3) (l:zA):List Int:=if (ku l aX).2.2=0/\ ¬nU L aX (ku l aX).2.1 then [shF l aX n] else []
def gk (L:List T3) (Lt:List zA) (aX n:P3):List Int:=Lt.flatMap (x8 L aX n)
theorem ai4 (L:List T3) (aX n:P3) (l:zA):(x8 L aX n l).length<=1:=by unfold x8;split<;>simp
theorem qL (L:List T3) (aX n:P3): ∀Lt:List zA,(gk L Lt aX n).length<=Lt.length
 | []=>by simp [gk]
 |l::r=>by
  have h1:=ai4 L aX n l
  have h2:=qL L aX n r
  unfold gk at h2 ⊢
  rw [List.flatMap_cons,List.length_append,List.length_cons]
  omega
theorem LM (x:ari) {L:List T3} (hs:tF L) (hl:L.length<=12) (hL:x.1=L) {aX n:P3} (aQ:x.2.2.2.2.2=(aX,n)) (ha:Km aX) (hn:Nr n) (h0:n≠(0,0,0)) {Lt:List zA} (hLt:x.2.2.1=Lt) (hLl:Lt.length<=100) (hR: ∀l∈Lt,de l)
  {dn:Int} {T:List zy} (hC:Cst L dn T) (w v k:Int):
  TR (cq x) (iM x) (dn,T,w,v,[k],0) fun r=> ∃K2 T' w' v',r=(K2,T',w',v',[k]++gk L Lt aX n)/\ Cst L K2 T':=by
 refine cu Lt.length (fun i s=> ∃dn T w v,s=(dn,T,w,v,[k]++gk L (Lt.take i) aX n,(i:Int))/\ Cst L dn T) _ (fun i s hi hJ=> ?_) (fun s hJ=> ?_) ⟨dn,T,w,v,by simp [gk],hC⟩
 ·obtain ⟨dn,T,w,v,rfl,hC⟩:=hJ
  obtain ⟨p1,p2,p3⟩:=hC.pick hl
  obtain ⟨l,hlD⟩: ∃l,l=Lt.getD i (0,(0,0,0),(0,0,0),0,0):=⟨_,rfl⟩
  have hr:=hR _ (dW hi (0,(0,0,0),(0,0,0),0,0))
  rw [<- hlD] at hr
  have hsn:gk L (Lt.take (i+1)) aX n=gk L (Lt.take i) aX n++x8 L aX n l:=by
   rw [bZ hi (0,(0,0,0),(0,0,0),0,0),<- hlD]
   unfold gk
   rw [List.flatMap_append]
   simp
  have Aa:=qL L aX n (Lt.take i)
  rw [List.length_take] at Aa
  have auX:([k]++gk L (Lt.take i) aX n).length<=101:=by
   rw [List.length_append];simp;omega
  obtain ⟨t1,t2⟩:=NL hr ha.p8
  obtain ⟨z1,z2⟩:=afR hr ha.p8 hn h0
  have e1:au ((i:Int)+1)=((i+1:Nat):Int):=by rw [ax (by omega) (by omega)];rfl
  dsimp only [iM,cq,ek,Tr.val,Tr.pre];(try dsimp only [az,ak])
  simp only [Int.toNat_natCast]
  rw [hL,hLt,aQ]
  try dsimp only
  rw [<- hlD,t2,z2,p3,hsn]
  rcases AI hr ha.p8 with ⟨e,he⟩|⟨e,hu,hsm⟩
  ·refine ⟨fun _=>⟨⟨by omega,by omega⟩,hi,hi,t1,fun h=>absurd h (by simp [e])⟩,.inl ⟨_,?_,dn,T,w,v,rfl,hC⟩⟩
   have hF:x8 L aX n l= []:=by unfold x8;rw [if_neg (fun h=>by have:=h.1;omega)]
   rw [if_pos (by omega),if_neg (by simp [e]),e1,hF,List.append_nil]
  ·obtain ⟨w1,w2⟩:=RR hs hl aX (ku l aX).2.1
   rcases w2 with ⟨q,_⟩|⟨_,m,_,_,w2⟩
   ·exact absurd ⟨ha.sm,hsm⟩ q
   have w3:fI.ask L (jl L).1 (aX,(ku l aX).2.1)=(decide (nU L aX (ku l aX).2.1),(m:Int),0):=w2
   rw [w3]
   try dsimp only
   refine ⟨fun _=>⟨⟨by omega,by omega⟩,hi,hi,t1,fun _=>⟨p1,p2,w1,yl.1,fun _=>⟨z1,yl.1,by omega⟩⟩⟩,.inl ⟨_,?_,1,(jl L).1,AN (decide (nU L aX (ku l aX).2.1),(m:Int),0) w 1,AN (decide (nU L aX (ku l aX).2.1),(m:Int),0) v (m:Int),rfl,.inr ⟨rfl,rfl⟩⟩⟩
   rw [if_pos (by omega),if_pos (by simp [e]),e1]
   by_cases h:nU L aX (ku l aX).2.1
   ·have hF:x8 L aX n l= []:=by unfold x8;rw [if_neg (fun q=>q.2 h)]
    rw [decide_eq_true h,if_neg (by decide),hF,List.append_nil]
   ·have hF:x8 L aX n l= [shF l aX n]:=by unfold x8;rw [if_pos ⟨e,h⟩]
    rw [decide_eq_false h,if_pos (by decide),hF,List.append_assoc]
 ·obtain ⟨dn,T,w,v,rfl,hC⟩:=hJ
  refine ⟨?_,_,?_,dn,T,w,v,rfl,hC⟩
  ·dsimp only [iM,ek,Tr.val,Tr.pre];(try dsimp only [az,ak])
   intro q
   rw [hLt] at q
   (try dsimp only at q);omega
  ·dsimp only [cq,ek,Tr.val,Tr.pre];(try dsimp only [az,ak])
   rw [hLt,if_neg (by omega),List.take_length]
def arF (L:List T3) (s zE:Int) (aX n:P3) (len:Int):Int:=if s=0 then zE else zE*((fx L aX (lJ s aX n len):Nat):Int) / s
def NM (L:List T3) (Lt:List zA) (y:(Int×Int×Int×Int)×(P3×P3)):Int:=mm ([arF L y.1.1 y.1.2.2.2 y.2.1 y.2.2 y.1.2.1]++gk L Lt y.2.1 y.2.2)
theorem RM {L:List T3} (hs:tF L) (hl:L.length<=12) {T:List zy} {dn:Int} (hC:Cst L dn T) {Lt:List zA} (hLl:Lt.length<=100) (hR: ∀l∈Lt,de l) {s len tI zE:Int} (h1:0<=s/\ s<=24) (h2:0<=len/\ len<=2048) (h3:0<=zE/\ zE<=255)
  {aX n:P3} (ha:Km aX) (hn:Nr n) (h0:n≠(0,0,0)) (a b:Int):
  nj (L,T,Lt,(dn,a,b),(s,len,tI,zE),aX,n)/\ ∃T' K2 a' b',wG (L,T,Lt,(dn,a,b),(s,len,tI,zE),aX,n)=(NM L Lt ((s,len,tI,zE),aX,n),T',K2,a',b')/\ Cst L K2 T':=by
 obtain ⟨g1,g2⟩:=Po (a:=s) (b:=len) (c:=tI) (d:=zE) (L:=Lt) (aX:=aX) (n:=n) h1 h2 ha.nr hn h0
 have hEl:=K7 h1 aX n len
 have hEs:=abY (k:=s) ha hn h0 h2
 have hw: ∀k:Int,([k]++gk L Lt aX n).length<4611686018427387904:=fun k=>by
  have:=qL L aX n Lt
  rw [List.length_append];simp;omega
 unfold nj wG az ak
 dsimp only
 rw [g2]
 generalize hE:lJ s aX n len=E at*
 by_cases hz:s=0
 ·have hc:((((E.length:Nat):Int)==0)=true):=beq_iff_eq.2 (by omega)
  obtain ⟨k1,K2,T',a',b',k2,k3⟩:=LM (L,T,Lt,(dn,a,b),(s,len,tI,zE),aX,n) hs hl rfl rfl ha hn h0 rfl hLl hR hC a b zE
  obtain ⟨q1,q2⟩:=Wb _ (hw zE)
  rw [k2,if_pos hc]
  dsimp only
  rw [q2]
  refine ⟨⟨g1,fun _=>⟨k1,q1⟩,fun h=>absurd hc h⟩,T',K2,a',b',?_,k3⟩
  unfold NM arF
  dsimp only
  rw [if_pos hz]
 ·have hc: ¬((((E.length:Nat):Int)==0)=true):=fun h=>hz (by have:=beq_iff_eq.1 h;omega)
  obtain ⟨r1,dn1,T1,a1,b1,r2,r3⟩:=UX (L,T,Lt,(dn,a,b),(s,len,tI,zE),aX,n) hs hl rfl rfl ha.sm hEs (by omega) hC a b
  have hle:fx L aX E<=E.length:=List.countP_le_length
  have hbd:0<=zE*((fx L aX E:Nat):Int)/\ zE*((fx L aX E:Nat):Int)<=255*24:=by
   refine ⟨Int.mul_nonneg h3.1 (by omega),?_⟩
   exact (qJ (A:=255) (B:=24) (by omega) h3.2 (by omega) (by omega)).2
  have hk:au (Int.tdiv (au (zE*((fx L aX E:Nat):Int))) ((E.length:Nat):Int))=arF L s zE aX n len:=by
   have hq:=Int.ediv_le_self s hbd.1
   have hq0:=Int.ediv_nonneg hbd.1 h1.1
   unfold arF
   rw [if_neg hz,hE,ax (n:=zE*((fx L aX E:Nat):Int)) (by omega) (by omega),Int.tdiv_eq_ediv_of_nonneg hbd.1,hEl,ax (by omega) (by omega)]
  obtain ⟨k1,K2,T',a',b',k2,k3⟩:=LM (L,T,Lt,(dn,a,b),(s,len,tI,zE),aX,n) hs hl rfl rfl ha hn h0 rfl hLl hR r3 a1 b1 (arF L s zE aX n len)
  obtain ⟨q1,q2⟩:=Wb _ (hw (arF L s zE aX n len))
  rw [r2]
  dsimp only
  rw [hk,k2,if_neg hc]
  dsimp only
  rw [q2]
  refine ⟨⟨g1,fun h=>absurd h hc,fun _=>⟨r1,by omega,k1,q1⟩⟩,T',K2,a',b',?_,k3⟩
  rfl
end Go.Proofs.YtngdehlpoomaiaaGreat
namespace Go.Proofs.YtngdehlpoomaiaaGreat
open Go Go.Ev Go.Proofs
theorem agN (x:w9):Kw x/\ aoN x=if bW x=0 then (0,1) else (0,bW x):=by
 obtain ⟨k1,k2⟩:=uj x
 unfold Kw aoN CV UN az ak
 rw [k2]
 dsimp only
 by_cases h:bW x=0
 ·obtain ⟨g1,g2⟩:=uh h
  (try rw [if_pos h])
  exact ⟨⟨k1,fun _=>g1⟩,rfl⟩
 ·rw [if_neg h]
  exact ⟨⟨k1,fun q=>absurd q h⟩,rfl⟩
def oa (Lt:List zA) (y:(Int×Int×Int×Int)×(P3×P3)):w9:=((y.1.1,y.1.2.1,y.1.2.2.1,y.1.2.2.2,Lt),y.2)
theorem Kq {L:List T3} (hs:tF L) (hl:L.length<=12) {T:List zy} {dn:Int} (hC:Cst L dn T) (Lt:List zA) (y:(Int×Int×Int×Int)×(P3×P3)) (hy:bW (oa Lt y)=0->y.1.1<=24) (a b:Int):
  Kr (L,T,Lt,(dn,a,b),y)/\ ∃T' K2 a' b',alu (L,T,Lt,(dn,a,b),y)=((if bW (oa Lt y)=0 then (NM L Lt (y.1,gK (oa Lt y),y.2.2),0) else (0,bW (oa Lt y))),T',K2,a',b')/\ Cst L K2 T':=by
 obtain ⟨⟨s,len,tI,zE⟩,p,n⟩:=y
 obtain ⟨k1,k2⟩:=uj (oa Lt ((s,len,tI,zE),p,n))
 have e:((s,len,tI,zE,Lt),p,n)=oa Lt ((s,len,tI,zE),p,n):=rfl
 unfold Kr alu xd RZ az ak
 dsimp only
 rw [e,k2]
 by_cases h:bW (oa Lt ((s,len,tI,zE),p,n))=0
 ·obtain ⟨g1,g2⟩:=uh h
  obtain ⟨h1,h2,h3,h4⟩:=lI h
  have hb:=Yd h
  obtain ⟨v1,T',K2,a',b',v2,v3⟩:=RM hs hl hC (Lt:=Lt) (by have:=h1.2.2.2.2.1;exact Nat.le_trans this (by decide)) h1.2.2.2.2.2 (s:=s) (len:=len) (tI:=tI) (zE:=zE) ⟨h1.1.1,hy h⟩ h1.2.1 h1.2.2.2.1 (aX:=gK (oa Lt ((s,len,tI,zE),p,n))) (n:=n) hb h3 h4 a b
  rw [if_pos h,if_pos h,g2]
  have e2:Ut (L,T,Lt,(dn,a,b),(s,len,tI,zE),gK (oa Lt ((s,len,tI,zE),p,n)),n)=(NM L Lt ((s,len,tI,zE),gK (oa Lt ((s,len,tI,zE),p,n)),n),T',K2,a',b'):=v2
  refine ⟨⟨k1,fun _=>⟨g1,v1⟩⟩,T',K2,a',b',?_,v3⟩
  exact (congrArg (fun z=>((z.1,(0:Int)),z.2)) e2)
 ·rw [if_neg h,if_neg h]
  exact ⟨⟨k1,fun q=>absurd q h⟩,T,dn,a,b,rfl,hC⟩
theorem rt_eq {n r:Int} (h0:0<=n) (h1:n<=9223372036854775807) (h:Je n r):rt n=r:=(GO h0 h1).2.2.uniq h
def up:P3:=(0,0,1)
def aaX:T3:=((-4000,-4000,100),(4000,-4000,100),0,8000,100)
theorem adu:bK up=(0,0,1024):=by
 unfold bK
 rw [show (1048576*qw up up:Int)=1048576 by decide,rt_eq (r:=1024) (by decide) (by decide) ⟨by decide,by decide,by decide⟩]
 decide
theorem as7:frT (0,0,1024)=(0,-1024,0):=by
 unfold frT
 rw [show CR (axE (fV (0,0,1024))) (0,0,1024)=(0,-1024,0) by decide]
 unfold bK
 rw [show (1048576*qw (0,-1024,0) (0,-1024,0):Int)=1048576*1048576 by decide,rt_eq (r:=1048576) (by decide) (by decide) ⟨by decide,by decide,by decide⟩]
 decide
theorem avu:frB (0,0,1024)=(1024,0,0):=by
 unfold frB
 rw [as7]
 decide
theorem AK {x y z:Int} (h0:0<=bw (1048576- x*x- y*y) 0) (h1:bw (1048576- x*x- y*y) 0<=9223372036854775807) (hz:Je (bw (1048576- x*x- y*y) 0) z):fa up (x,y)=atV (0,-1024,0) (1024,0,0) (0,0,1024) x y z:=by
 unfold fa Vj
 rw [adu,as7,avu]
 dsimp only
 rw [rt_eq h0 h1 hz]
theorem D4:YH.take 4= [(0,-342),(-512,341),(512,-797),(-768,-114)]:=by kernel_rfl
theorem aod:lJ 4 (0,0,0) up 512= [(-171,0,482),(170,256,409),(-399,-256,194),(-57,384,333)]:=by
 unfold lJ
 rw [show (4:Int).toNat=4 by rfl,D4]
 simp only [List.map_cons,List.map_nil]
 rw [AK (x:=0) (y:= -342) (z:=965) (by decide) (by decide) ⟨by decide,by decide,by decide⟩,
  AK (x:= -512) (y:=341) (z:=818) (by decide) (by decide) ⟨by decide,by decide,by decide⟩,
  AK (x:=512) (y:= -797) (z:=388) (by decide) (by decide) ⟨by decide,by decide,by decide⟩,
  AK (x:= -768) (y:= -114) (z:=667) (by decide) (by decide) ⟨by decide,by decide,by decide⟩]
 decide
theorem acT:tF [aaX]:=by
 intro t ht
 rw [List.mem_singleton] at ht
 subst ht
 intro p hp
 simp only [Js,aaX,List.mem_cons,List.not_mem_nil,or_false] at hp
 rcases hp with rfl|rfl|rfl<;>decide
theorem aje:tF []:=fun t ht=>by cases ht
theorem af9:NM [] [] ((4,512,0,100),(0,0,0),up)=100:=by
 unfold NM arF
 dsimp only
 rw [aod]
 decide
theorem aga:NM [aaX] [] ((4,512,0,100),(0,0,0),up)=0:=by
 unfold NM arF
 dsimp only
 rw [aod]
 decide
theorem rJ {L:List T3} (hl:L.length<4611686018427387904) (hs:tF L):j9 (L,false)/\ mP (L,false)=false:=by
 obtain ⟨g1,g2⟩:=AY L hl
 refine ⟨g1,?_⟩
 cases h:mP (L,false) with
 |false=>rfl
 |true=>exact absurd hs (g2.1 h)
theorem aoB (p:P3) (k:Int) (j0 j1 j3:Int) (L:List zA):gK ((j0,j1,k,j3,L),p,up)=(p.1+0*k / 1024,p.2.1+0*k / 1024,p.2.2+1024*k / 1024):=by
 unfold gK xe
 dsimp only
 rw [adu]
theorem SE (x:Bool):vk x/\ Lh x=true:=by
 obtain ⟨c1,c2⟩:=rJ (L:= []) (by decide) aje
 obtain ⟨d1,d2⟩:=rJ (L:= [aaX]) (by decide) acT
 obtain ⟨k1,k2⟩:=zJ [] (by decide)
 obtain ⟨l1,l2⟩:=zJ [aaX] (by decide)
 have q0:bW (oa [] ((4,512,0,100),(0,0,0),up))=0:=by decide
 obtain ⟨a1,T1,dn1,a',b',a2,_⟩:=Kq (L:= []) aje (by decide) (T:= []) (dn:=0) (.inl rfl) [] ((4,512,0,100),(0,0,0),up) (fun _=>by decide) 0 0
 obtain ⟨b1,T2,dn2,a'',b'',b2,_⟩:=Kq (L:= [aaX]) acT (by decide) (T:= []) (dn:=0) (.inl rfl) [] ((4,512,0,100),(0,0,0),up) (fun _=>by decide) 0 0
 have est:gK (oa [] ((4,512,0,100),(0,0,0),up))=(0,0,0):=aoB _ _ _ _ _ _
 rw [if_pos q0,est,af9] at a2
 rw [if_pos q0,est,aga] at b2
 obtain ⟨s1,s2⟩:=CJ ((0,0,10,0,[]),(5,0,0),up)
 rw [if_pos (by decide),aoB] at s2
 obtain ⟨t1,t2⟩:=CJ ((4,512,0,100,[]),(4161,0,0),up)
 rw [if_neg (by decide)] at t2
 have t3:bW ((4,512,0,100,[]),(4161,0,0),up)=5:=by decide
 rw [t3] at t2
 obtain ⟨n1,n2⟩:=agN ((4,512,0,100,[]),(0,0,0),up)
 rw [if_pos (by decide)] at n2
 obtain ⟨i1,i2⟩:=Di (4,512,0,100,[])
 rw [decide_eq_true (by decide:OU (4,512,0,100,[]))] at i2
 unfold aaX at d1 d2 l1 l2 b1 b2
 unfold up at a1 a2 b1 b2 s1 s2 t1 t2 n1 n2
 dsimp only [vk,Lh,vl,Tr.val,Tr.pre];(try dsimp only [az,ak])
 obtain ⟨j1,j2⟩:=Di (65,0,0,0,[])
 rw [c2]
 try dsimp only
 rw [k2]
 try dsimp only
 rw [d2]
 try dsimp only
 rw [l2]
 try dsimp only
 rw [a2]
 try dsimp only
 rw [b2]
 try dsimp only
 rw [s2]
 try dsimp only
 rw [n2]
 try dsimp only
 rw [t2]
 try dsimp only
 rw [i2]
 refine ⟨⟨c1,fun h=>absurd h (by decide),fun _=>⟨k1,d1,fun h=>absurd h (by decide),fun _=>⟨l1,a1,b1,s1,n1,t1,fun _ _ _ _ _ _ _ _=>⟨i1,fun _=>j1⟩⟩⟩⟩,rfl⟩
end Go.Proofs.YtngdehlpoomaiaaGreat
namespace Go.Proofs.YtngdehlpoomaiaaGreat
open Go Go.Ev Go.Proofs
end Go.Proofs.YtngdehlpoomaiaaGreat
namespace Go.Proofs.YtngdehlpoomaiaaGreat
open Go Go.Ev Go.Proofs
theorem Sz (l:List T3) (j:Jb):Pf (l,j)=decide (l.length<=8/\ j.2.2.2.2.length<=10/\ (j.1<=12\/ j.1>64)):=by
 unfold Pf
 dsimp only
 by_cases h1:((l.length:Nat):Int)<=8
 rotate_left
 ·rw [if_neg h1];exact (decide_eq_false fun h=>h1 (by omega)).symm
 rw [if_pos h1]
 by_cases h2:((j.2.2.2.2.length:Nat):Int)<=10
 rotate_left
 ·rw [if_neg h2];exact (decide_eq_false fun h=>h2 (by omega)).symm
 rw [if_pos h2]
 by_cases h3:j.1<=12
 ·rw [if_pos h3];exact (decide_eq_true ⟨by omega,by omega,.inl h3⟩).symm
 ·rw [if_neg h3,Bool.eq_iff_iff,decide_eq_true_iff,decide_eq_true_iff]
  exact ⟨fun h=>⟨by omega,by omega,.inr h⟩,fun h=>h.2.2.resolve_left h3⟩
theorem Hh {L:List T3} (hl:L.length<4611686018427387904) (hs: ¬tF L):j9 (L,false)/\ mP (L,false)=true:=by
 obtain ⟨g1,g2⟩:=AY L hl
 exact ⟨g1,g2.2 hs⟩
end Go.Proofs.YtngdehlpoomaiaaGreat
namespace Go.Proofs.YtngdehlpoomaiaaGreat
open Go Go.Ev Go.Proofs
def rz (t:T3):P3:=CR (sb t.2.1 t.1) (sb t.2.2 t.1)
def Ww (n:P3):P3:=(Int.tdiv n.1 16384,Int.tdiv n.2.1 16384,Int.tdiv n.2.2 16384)
def Ze (t:T3):P3:=if Ww (rz t)=(0,0,0) then rz t else Ww (rz t)
theorem Z1 {t:T3} (ht:SmT t):ou t/\ DM t=(rz t,0):=by
 obtain ⟨a,b,c⟩:=t
 obtain ⟨ha,hb,hc⟩:=ht
 obtain ⟨s1,s2⟩:=yO (x:= [a,b,c]) (by simp) (sm3 ha hb hc)
 obtain ⟨u1,u2⟩:=uJ hb ha
 obtain ⟨v1,v2⟩:=uJ hc ha
 obtain ⟨c1,c2⟩:=rN (sE hb ha) (sE hc ha)
 constructor
 ·unfold ou;dsimp only [Ah,vv,Tr.val,Tr.pre];(try dsimp only [az,ak])
  rw [u2,v2]
  exact ⟨s1,fun _=>⟨u1,v1,c1⟩⟩
 ·unfold DM;dsimp only [acE,vv,Tr.val,Tr.pre];(try dsimp only [az,ak])
  rw [s2,if_neg (by decide),u2,v2,c2]
  rfl
theorem ajh {t:T3} (ht:SmT t):Bd 2147483648 (rz t):=Y1 (sE ht.2.1 ht.1) (sE ht.2.2 ht.1)
theorem Zf {t:T3} (ht:SmT t):xJ t/\ SG t=Ze t:=by
 obtain ⟨n1,n2⟩:=Z1 ht
 have hb:=ajh ht
 have f: ∀a:Int,(-2147483648<=a/\ a<=2147483648)->au (Int.tdiv a 16384)=Int.tdiv a 16384:=fun a ha=>by
  have h1:=Int.mul_tdiv_add_tmod a 16384
  have h2:=Int.tmod_lt_of_pos a (show (0:Int)<16384 by decide)
  have h4: -16384<Int.tmod a 16384:=by
   have:=Int.tmod_lt_of_pos (-a) (show (0:Int)<16384 by decide)
   rw [Int.neg_tmod] at this
   omega
  exact ax (by omega) (by omega)
 dsimp only [xJ,SG,zZ,Tr.val,Tr.pre];(try dsimp only [az,ak])
 rw [n2]
 try dsimp only
 rw [f _ hb.1,f _ hb.2.1,f _ hb.2.2]
 refine ⟨⟨n1,yl.1⟩,?_⟩
 unfold Ze
 by_cases h:Ww (rz t)=(0,0,0)
 ·have e:(!((Int.tdiv (rz t).1 16384==0)&&((Int.tdiv (rz t).2.1 16384==0)&&((Int.tdiv (rz t).2.2 16384==0)&&true))))=false:=by
   unfold Ww at h
   injection h with h1 h
   injection h with h2 h3
   rw [h1,h2,h3];rfl
  rw [if_pos h,e,if_neg (by decide)]
 ·have e:(!((Int.tdiv (rz t).1 16384==0)&&((Int.tdiv (rz t).2.1 16384==0)&&((Int.tdiv (rz t).2.2 16384==0)&&true))))=true:=by
   rw [Bool.not_eq_true']
   cases hc:((Int.tdiv (rz t).1 16384==0)&&((Int.tdiv (rz t).2.1 16384==0)&&((Int.tdiv (rz t).2.2 16384==0)&&true))) with
   |false=>rfl
   |true=>
    simp only [Bool.and_eq_true,beq_iff_eq,and_true] at hc
    exact absurd (by unfold Ww;rw [hc.1,hc.2.1,hc.2.2]) h
  rw [if_neg h,e,if_pos rfl]
  rfl
abbrev Smp:Type:=Int×(Int×Int×P3)
def td (l:List T3) (j:Jb) (x:Smp):w9:=(j,x.2.2.2,Ze (l.getD x.2.2.1.toNat zT))
def rH (l:List T3) (j:Jb) (x:Smp):Int:=bW (td l j x)
def OR (l:List T3) (j:Jb) (x:Smp):Int:=NM l j.2.2.2.2 ((j.1,j.2.1,j.2.2.1,j.2.2.2.1),gK (td l j x),(td l j x).2.2)
def nX:List Int->Int
 | []=>0
 |c::r=>if c=0 then nX r else c
theorem KG: ∀(A B:List Int),nX (A++B)=if nX A=0 then nX B else nX A
 | [],B=>by simp [nX]
 |c::r,B=>by
  by_cases h:c=0
  ·have e1:nX (c::r)=nX r:=if_pos h
   have e2:nX (c::(r++B))=nX (r++B):=if_pos h
   rw [List.cons_append,e1,e2];exact KG r B
  ·have e1:nX (c::r)=c:=if_neg h
   have e2:nX (c::(r++B))=c:=if_neg h
   rw [List.cons_append,e1,e2,if_neg h]
theorem tH: ∀ {A:List Int},(∀c∈A,c=0)->nX A=0
 | [],_=>rfl
 |c::r,h=>by
  rw [nX,if_pos (h c (by simp))]
  exact tH fun c hc=>h c (by simp [hc])
def inT (l:List T3) (x:Smp):Prop:=0<=x.2.2.1/\ x.2.2.1<((l.length:Nat):Int)
instance (l:List T3) (x:Smp):Decidable (inT l x):=by unfold inT;infer_instance
def zS:Smp:=(0,0,0,0,0,0)
theorem VT (l:List T3) (j:Jb) (s:List Smp) (L:List T3) (hs:s.length<=1000):TR (eX (l,j,s)) (lF (l,j,s)) (L,0) fun r=>(r= .inr L/\ ∀y∈s,inT l y)\/ (r= .inl ()/\ ¬ ∀y∈s,inT l y):=by
 refine cu s.length (fun i st=>st=(L,(i:Int))/\ ∀y∈s.take i,inT l y) _ (fun i st hi hJ=> ?_) (fun st hJ=> ?_) ⟨rfl,by simp⟩
 ·obtain ⟨rfl,hall⟩:=hJ
  have hm:=dW hi zS
  dsimp only [lF,eX,gN,Tr.val,Tr.pre];(try dsimp only [az,ak])
  simp only [Int.toNat_natCast]
  refine ⟨fun _=>⟨⟨by omega,by omega⟩,hi,hi⟩,?_⟩
  rw [if_pos (show ((i:Nat):Int)<((s.length:Nat):Int) by omega)]
  have e:s.getD i ((0:Int),(0:Int),(0:Int),(0:Int),(0:Int),(0:Int))=s.getD i zS:=rfl
  simp only [e]
  by_cases h1:(s.getD i zS).2.2.1<0
  ·rw [if_pos h1]
   exact .inr ⟨_,rfl,.inr ⟨rfl,fun h=>by have:=(h _ hm).1;omega⟩⟩
  rw [if_neg h1]
  by_cases h2:(s.getD i zS).2.2.1>=((l.length:Nat):Int)
  ·rw [if_pos h2]
   exact .inr ⟨_,rfl,.inr ⟨rfl,fun h=>by have:=(h _ hm).2;omega⟩⟩
  rw [if_neg h2,ax (by omega) (by omega)]
  refine .inl ⟨_,rfl,rfl,fun y hy=> ?_⟩
  rw [bZ hi zS] at hy
  rcases List.mem_append.1 hy with hy|hy
  ·exact hall y hy
  ·rw [List.mem_singleton] at hy
   subst hy
   exact ⟨by omega,by omega⟩
 ·obtain ⟨rfl,hall⟩:=hJ
  rw [List.take_length] at hall
  refine ⟨?_,_,?_,.inl ⟨rfl,hall⟩⟩
  ·dsimp only [lF,gN,Tr.val,Tr.pre];(try dsimp only [az,ak])
   intro q
   (try dsimp only at q);omega
  ·dsimp only [eX,gN,Tr.val,Tr.pre];(try dsimp only [az,ak])
   rw [if_neg (by omega)]
theorem abk (l:List T3) (j:Jb) (s:List Smp) (hl:l.length<=8) (hj:j.1<=12\/ j.1>64) (hs:tF l) (hlen:s.length<=1000) (hin: ∀y∈s,inT l y):
    TR (ik (l,j,s)) (lG (l,j,s)) ([],l,0,[],0,0,0) fun r=>(nX (s.map (rH l j))=0/\ r= .inr (s.map (OR l j)))\/ (nX (s.map (rH l j))≠0/\ r= .inl (nX (s.map (rH l j)))):=by
  refine cu s.length (fun i st=> ∃dn T a b,st=((s.take i).map (OR l j),l,dn,T,a,b,(i:Int))/\ Cst l dn T/\ ∀y∈s.take i,rH l j y=0) _ (fun i st hi hJ=> ?_) (fun st hJ=> ?_) ⟨0, [],0,0,rfl, .inl rfl,by simp⟩
  · obtain ⟨dn,T,a,b,rfl,hC,hz⟩:=hJ
    have hm:=dW hi zS
    obtain ⟨y,hy⟩: ∃y,y=s.getD i zS:=⟨_,rfl⟩
    rw [<- hy] at hm
    have e:s.getD i ((0:Int),(0:Int),(0:Int),(0:Int),(0:Int),(0:Int))=y:=hy.symm
    obtain ⟨q1,q2⟩:=hin y hm
    have hyl:y.2.2.1.toNat<l.length:=by omega
    have hST:SmT (l.getD y.2.2.1.toNat zT):=aj4 hs ⟨q1,q2⟩
    obtain ⟨g1,g2⟩:=Zf hST
    have eT:l.getD y.2.2.1.toNat (((0:Int),(0:Int),(0:Int)),((0:Int),(0:Int),(0:Int)),(0:Int),(0:Int),(0:Int))=l.getD y.2.2.1.toNat zT:=rfl
    obtain ⟨k1,k2⟩:=uj (td l j y)
    have eo:(j,y.2.2.2,Ze (l.getD y.2.2.1.toNat zT))=td l j y:=rfl
    have hlt:((s.take i).map (OR l j)).length=i:=by rw [List.length_map,List.length_take];omega
    have htk:s.take (i+1)=s.take i++ [y]:=by rw [bZ hi zS, <- hy]
    dsimp only [lG,ik,gO,Tr.val,Tr.pre];(try dsimp only [az,ak])
    simp only [Int.toNat_natCast]
    simp only [e,eT,g2,eo,k2,hlt]
    rw [if_pos (show ((i:Nat):Int)<((s.length:Nat):Int) by omega)]
    by_cases hc:bW (td l j y)=0
    · obtain ⟨o1,o2⟩:=uh hc
      obtain ⟨c1,c2,c3,c4⟩:=lI hc
      have hn:=Yd hc
      have c1:OU j:=c1
      obtain ⟨v1,T',K2,a',b',v2,v3⟩:=RM hs (by omega) hC (Lt:=j.2.2.2.2) (by have:=c1.2.2.2.2.1;omega) c1.2.2.2.2.2 (s:=j.1) (len:=j.2.1) (tI:=j.2.2.1) (zE:=j.2.2.2.1) ⟨c1.1.1,by have:=c1.1.2;omega⟩ c1.2.1 c1.2.2.2.1 (aX:=gK (td l j y)) (n:=(td l j y).2.2) hn c3 c4 a b
      have o2':A8 (td l j y)=((j.1,j.2.1,j.2.2.1,j.2.2.2.1),gK (td l j y),(td l j y).2.2):=o2
      have e2:Ut (l,T,j.2.2.2.2,(dn,a,b),(j.1,j.2.1,j.2.2.1,j.2.2.2.1),gK (td l j y),(td l j y).2.2)=(OR l j y,T',K2,a',b'):=v2
      rw [o2',if_pos hc]
      refine ⟨fun _=>⟨⟨by omega,by omega⟩,hi,hi,⟨q1,q2⟩,hyl,hyl,g1,k1,fun _=>⟨⟨q1,q2⟩,hyl,hyl,g1,o1,v1,by omega⟩⟩, .inl ⟨_,rfl,K2,T',a',b', ?_,v3,fun z hz'=> ?_⟩⟩
      · rw [e2]
        try dsimp only
        rw [htk,List.map_append,ax (by omega) (by omega)]
        rfl
      · rw [htk] at hz'
        rcases List.mem_append.1 hz' with h|h
        · exact hz z h
        · rw [List.mem_singleton] at h
          subst h
          exact hc
    · rw [if_neg hc]
      refine ⟨fun _=>⟨⟨by omega,by omega⟩,hi,hi,⟨q1,q2⟩,hyl,hyl,g1,k1,fun h=>absurd h hc⟩, .inr ⟨_,rfl, .inr ?_⟩⟩
      have hb:nX (s.map (rH l j))=rH l j y:=by
        have es:s=s.take i++(y::s.drop (i+1)):=by
          rw [hy,List.getD_eq_getElem?_getD,List.getElem?_eq_getElem hi,Option.getD_some, <- List.drop_eq_getElem_cons hi,List.take_append_drop]
        rw [es,List.map_append,KG,tH (fun c Jj=>by
          obtain ⟨z,h,rfl⟩:=List.mem_map.1 Jj
          exact hz z h),if_pos rfl,List.map_cons,nX]
        exact if_neg hc
      rw [hb]
      exact ⟨hc,rfl⟩
  · obtain ⟨dn,T,a,b,rfl,hC,hz⟩:=hJ
    rw [List.take_length] at hz
    refine ⟨?_,_, ?_, .inl ⟨tH (fun c Jj=>by
          obtain ⟨z,h,rfl⟩:=List.mem_map.1 Jj
          exact hz z h),rfl⟩⟩
    · dsimp only [lG,gO,Tr.val,Tr.pre];(try dsimp only [az,ak])
      intro q
      (try dsimp only at q);omega
    · dsimp only [ik,gO,Tr.val,Tr.pre];(try dsimp only [az,ak])
      rw [if_neg (by omega),List.take_length]
instance (l:List T3):Decidable (tF l):=Classical.propDecidable _
def FC (l:List T3) (j:Jb) (s:List Smp):List Int×Int:=if OU j then if tF l then if∀y∈s,inT l y then if nX (s.map (rH l j))=0 then (s.map (OR l j),0) else ([],nX (s.map (rH l j))) else ([],1) else ([],5) else ([],1)
theorem akF {l:List T3} {j:Jb} {s:List Smp} (hf:Pf (l,j)=true) (hlen:s.length<=1000):FT (l,j,s)/\ agK (l,j,s)=FC l j s:=by
 rw [Sz] at hf
 have hf:=of_decide_eq_true hf
 obtain ⟨g1,g2⟩:=Di j
 have ahY: ¬((l.length:Nat):Int)>500:=by omega
 unfold FT agK zC Ks az ak FC
 dsimp only
 rw [g2]
 by_cases hj:OU j
 rotate_left
 ·rw [decide_eq_false hj,if_neg hj]
  exact ⟨⟨g1,fun h=>absurd rfl h⟩,rfl⟩
 rw [decide_eq_true hj,if_pos hj,if_neg ahY]
 by_cases hs:tF l
 rotate_left
 ·obtain ⟨d1,d2⟩:=Hh (L:=l) (by omega) hs
  rw [d2,if_neg hs]
  exact ⟨⟨g1,fun _ _=>⟨d1,fun h=>absurd rfl h⟩⟩,rfl⟩
 obtain ⟨d1,d2⟩:=rJ (L:=l) (by omega) hs
 obtain ⟨l1,l2⟩:=zJ l (by omega)
 rw [d2,l2,if_pos hs]
 have ki:=VT l j s l hlen
 rcases ki.2 with ⟨k1,k2⟩|⟨k1,k2⟩
 rotate_left
 ·rw [k1,if_neg k2]
  exact ⟨⟨g1,fun _ _=>⟨d1,fun _=>⟨l1,yl.1,ki.1,trivial⟩⟩⟩,rfl⟩
 have kv:=abk l j s (by omega) hf.2.2 hs hlen k2
 rw [k1,if_pos k2]
 rcases kv.2 with ⟨v1,v2⟩|⟨v1,v2⟩
 ·dsimp only [Sum.elim_inr,cS]
  rw [v2,if_pos v1]
  exact ⟨⟨g1,fun _ _=>⟨d1,fun _=>⟨l1,yl.1,ki.1,kv.1⟩⟩⟩,rfl⟩
 ·dsimp only [Sum.elim_inr,cS]
  rw [v2,if_neg v1]
  exact ⟨⟨g1,fun _ _=>⟨d1,fun _=>⟨l1,yl.1,ki.1,kv.1⟩⟩⟩,rfl⟩
theorem aaZ (l:List Int) (hl:l.length<4611686018427387904):Cu (l,l)/\ aaY (l,l)=true:=by
 have k:=iq l hl (fun _=>false) (jH (l,l)) (s8 (l,l)) (fun i hi=>by
   unfold s8
   intro h
   simp only [Int.toNat_natCast]
   dsimp only at h ⊢
   exact ⟨⟨by omega,by omega⟩,by omega,by omega,⟨by omega,by omega⟩,by omega,by omega⟩) (fun i v hv=>by
   have hlt:=cz hv
   unfold jH
   dsimp only
   rw [if_pos (by omega),if_neg (by simp)]
   rfl) (by
   unfold jH
   dsimp only
   rw [if_neg (by omega)])
 unfold Cu aaY ak
 dsimp only
 rw [if_neg (by simp)]
 refine ⟨fun _=>k.1,?_⟩
 rw [k.2]
 simp
end Go.Proofs.YtngdehlpoomaiaaGreat
