/- Plain laws: how bright a spot is. -/
import Derived.Test.YtngdehlpoomaiaaGreatMe
import Derived.Test.YtngdehlpoomaiaaGreatLm
noncomputable section
set_option linter.unusedSectionVars false
set_option linter.unusedVariables false
set_option linter.unusedSimpArgs false
namespace Go.Proofs.YtngdehlpoomaiaaGreat
open Go Go.Ev Go.Proofs
def oH (L:List T3) (a:P3) (E:List P3):Nat:=E.countP fun p=> !decide (tJ L a p)
def Ls (p:P3):Prop:=(-4224<=p.1/\ p.1<=4224)/\ (-4224<=p.2.1/\ p.2.1<=4224)/\ (-4224<=p.2.2/\ p.2.2<=4224)
theorem Ls.sm {p:P3} (h:Ls p):fF p:=by
 obtain ⟨a,b,c⟩:=h
 exact ⟨by omega,by omega,by omega⟩
theorem Ls.p8 {p:P3} (h:Ls p):Pt8 p:=by
 obtain ⟨a,b,c⟩:=h
 exact ⟨by omega,by omega,by omega⟩
theorem Ls.nr {p:P3} (h:Ls p):Nr p:=by
 obtain ⟨a,b,c⟩:=h
 exact ⟨by omega,by omega,by omega⟩
theorem Y9 {k:Int} {bz n:P3} {len:Int} {e:P3} (he:e∈td k bz n len): ∃d,InD d/\ e=Il bz (m0 n d) len:=by
 unfold td at he
 obtain ⟨d,hd,rfl⟩:=List.mem_map.1 he
 exact ⟨d,X9 d (List.mem_of_mem_take hd),rfl⟩
theorem Y8 {k:Int} (hk:0<=k/\ k<=24) (bz n:P3) (len:Int):((td k bz n len).length:Int)=k:=by
 unfold td
 rw [List.length_map,List.length_take,Td];omega
theorem adt {k:Int} {bz n:P3} {len:Int} (ha:Ls bz) (hn:Nr n) (h0:n≠(0,0,0)) (hl:0<=len/\ len<=2048): ∀e∈td k bz n len,fF e:=by
 intro e he
 obtain ⟨d,hd,rfl⟩:=Y9 he
 obtain ⟨_,_,w⟩:=Fb hn h0 hd
 obtain ⟨a,b,c⟩:=ha
 obtain ⟨_,_,x1,x2⟩:=qI w.1 hl
 obtain ⟨_,_,y1,y2⟩:=qI w.2.1 hl
 obtain ⟨_,_,z1,z2⟩:=qI w.2.2 hl
 unfold Il
 exact ⟨by dsimp only;omega,by dsimp only;omega,by dsimp only;omega⟩
abbrev aiO:Type:=List T3×(List vQ×List yV×(Int×Int×Int)×(Int×Int×Int×Int)×P3×P3)
theorem Nz (x:aiO) {L:List T3} (hs:yQ L) (hl:L.length<=12) (hL:x.1=L) {bz:P3} (aO:x.2.2.2.2.2.1=bz) (ha:fF bz) {E:List P3} (hE: ∀e∈E,fF e) (hEl:E.length<=1000) {dn:Int} {T:List vQ} (hC:Vn L dn T) (w v:Int):
  TR (c8 x) (gY x) (dn,T,w,v,E,0,((E.length:Nat):Int),0) fun r=> ∃Iq T' w' v',r=(Iq,T',w',v',E,((oH L bz E:Nat):Int))/\ Vn L Iq T':=by
 refine eH E.length (fun i s=> ∃dn T w v,s=(dn,T,w,v,E,((oH L bz (E.take i):Nat):Int),((E.length:Nat):Int),(i:Int))/\ Vn L dn T) _ (fun i s hi hJ=> ?_) (fun s hJ=> ?_) ⟨dn,T,w,v,rfl,hC⟩
 ·obtain ⟨dn,T,w,v,rfl,hC⟩:=hJ
  obtain ⟨p1,p2,p3⟩:=hC.pick hl
  have hp:=hE _ (jl hi z3)
  obtain ⟨w1,w2⟩:=Li hs hl bz (E.getD i z3)
  rcases w2 with ⟨q,_⟩|⟨_,m,_,_,w2⟩
  ·exact absurd ⟨ha,hp⟩ q
  have alU:oH L bz (E.take (i+1))=oH L bz (E.take i)+(if tJ L bz (E.getD i z3) then 0 else 1):=by
   unfold oH
   rw [eA hi z3,List.countP_append,List.countP_singleton]
   congr 1
   by_cases h:tJ L bz (E.getD i z3)<;>simp [h]
  have hle:oH L bz (E.take i)<=i:=by
   unfold oH
   refine Nat.le_trans List.countP_le_length ?_
   rw [List.length_take];omega
  unfold gY c8 aC aq
  dsimp only
  simp only [Int.toNat_natCast]
  rw [hL,aO,p3]
  have w3:cj.ask L (ig L).1 (bz,E.getD i ((0:Int),(0:Int),(0:Int)))=(decide (tJ L bz (E.getD i z3)),(m:Int),0):=w2
  rw [w3]
  refine ⟨fun _=>⟨⟨by omega,by omega⟩,hi,hi,p1,p2,w1,u5.1⟩,.inl ⟨_,?_,1,(ig L).1,mZ (decide (tJ L bz (E.getD i z3)),(m:Int),0) w 1,mZ (decide (tJ L bz (E.getD i z3)),(m:Int),0) v (m:Int),rfl,.inr ⟨rfl,rfl⟩⟩⟩
  rw [if_pos (by omega)]
  dsimp only
  rw [alU]
  have e1:av ((i:Int)+1)=((i+1:Nat):Int):=by rw [aF (by omega) (by omega)];rfl
  have e2:av (((oH L bz (E.take i):Nat):Int)+1)=((oH L bz (E.take i)+1:Nat):Int):=by rw [aF (by omega) (by omega)];rfl
  by_cases h:tJ L bz (E.getD i z3)
  ·rw [decide_eq_true h,if_neg (by decide),if_pos h,e1];rfl
  ·rw [decide_eq_false h,if_pos (by decide),if_neg h,e1,e2]
 ·obtain ⟨dn,T,w,v,rfl,hC⟩:=hJ
  refine ⟨?_,_,?_,dn,T,w,v,rfl,hC⟩
  ·unfold gY
   intro q
   dsimp only at q;omega
  ·unfold c8
   dsimp only
   rw [if_neg (by omega),List.take_length]
def IE (L:List T3) (bz n:P3) (l:yV):List Int:=if (oQ l bz).2.2=0/\ ¬tJ L bz (oQ l bz).2.1 then [shF l bz n] else []
def mM (L:List T3) (Lt:List yV) (bz n:P3):List Int:=Lt.flatMap (IE L bz n)
theorem aaC (L:List T3) (bz n:P3) (l:yV):(IE L bz n l).length<=1:=by unfold IE;split<;>simp
theorem ym (L:List T3) (bz n:P3): ∀Lt:List yV,(mM L Lt bz n).length<=Lt.length
 | []=>by simp [mM]
 |l::r=>by
  have h1:=aaC L bz n l
  have h2:=ym L bz n r
  unfold mM at h2 ⊢
  rw [List.flatMap_cons,List.length_append,List.length_cons]
  omega
theorem FZ (x:aiO) {L:List T3} (hs:yQ L) (hl:L.length<=12) (hL:x.1=L) {bz n:P3} (aO:x.2.2.2.2.2=(bz,n)) (ha:Ls bz) (hn:Nr n) (h0:n≠(0,0,0)) {Lt:List yV} (hLt:x.2.2.1=Lt) (hLl:Lt.length<=100) (hR: ∀l∈Lt,fK l)
  {dn:Int} {T:List vQ} (hC:Vn L dn T) (w v k:Int):
  TR (bW x) (gw x) (dn,T,w,v,[k],0) fun r=> ∃Iq T' w' v',r=(Iq,T',w',v',[k]++mM L Lt bz n)/\ Vn L Iq T':=by
 refine eH Lt.length (fun i s=> ∃dn T w v,s=(dn,T,w,v,[k]++mM L (Lt.take i) bz n,(i:Int))/\ Vn L dn T) _ (fun i s hi hJ=> ?_) (fun s hJ=> ?_) ⟨dn,T,w,v,by simp [mM],hC⟩
 ·obtain ⟨dn,T,w,v,rfl,hC⟩:=hJ
  obtain ⟨p1,p2,p3⟩:=hC.pick hl
  obtain ⟨l,hlD⟩: ∃l,l=Lt.getD i (0,(0,0,0),(0,0,0),0,0):=⟨_,rfl⟩
  have hr:=hR _ (jl hi (0,(0,0,0),(0,0,0),0,0))
  rw [<- hlD] at hr
  have hsn:mM L (Lt.take (i+1)) bz n=mM L (Lt.take i) bz n++IE L bz n l:=by
   rw [eA hi (0,(0,0,0),(0,0,0),0,0),<- hlD]
   unfold mM
   rw [List.flatMap_append]
   simp
  have xq:=ym L bz n (Lt.take i)
  rw [List.length_take] at xq
  have apk:([k]++mM L (Lt.take i) bz n).length<=101:=by
   rw [List.length_append];simp;omega
  obtain ⟨t1,t2⟩:=HJ hr ha.p8
  obtain ⟨z1,z2⟩:=Xo hr ha.p8 hn h0
  have e1:av ((i:Int)+1)=((i+1:Nat):Int):=by rw [aF (by omega) (by omega)];rfl
  unfold gw bW aC aq
  dsimp only
  simp only [Int.toNat_natCast]
  rw [hL,hLt,aO]
  dsimp only
  rw [<- hlD,t2,z2,p3,hsn]
  rcases La hr ha.p8 with ⟨e,he⟩|⟨e,hu,hsm⟩
  ·refine ⟨fun _=>⟨⟨by omega,by omega⟩,hi,hi,t1,fun h=>absurd h (by simp [e])⟩,.inl ⟨_,?_,dn,T,w,v,rfl,hC⟩⟩
   have hF:IE L bz n l= []:=by unfold IE;rw [if_neg (fun h=>by have:=h.1;omega)]
   rw [if_pos (by omega),if_neg (by simp [e]),e1,hF,List.append_nil]
  ·obtain ⟨w1,w2⟩:=Li hs hl bz (oQ l bz).2.1
   rcases w2 with ⟨q,_⟩|⟨_,m,_,_,w2⟩
   ·exact absurd ⟨ha.sm,hsm⟩ q
   have w3:cj.ask L (ig L).1 (bz,(oQ l bz).2.1)=(decide (tJ L bz (oQ l bz).2.1),(m:Int),0):=w2
   rw [w3]
   dsimp only
   refine ⟨fun _=>⟨⟨by omega,by omega⟩,hi,hi,t1,fun _=>⟨p1,p2,w1,u5.1,fun _=>⟨z1,u5.1,by omega⟩⟩⟩,.inl ⟨_,?_,1,(ig L).1,mZ (decide (tJ L bz (oQ l bz).2.1),(m:Int),0) w 1,mZ (decide (tJ L bz (oQ l bz).2.1),(m:Int),0) v (m:Int),rfl,.inr ⟨rfl,rfl⟩⟩⟩
   rw [if_pos (by omega),if_pos (by simp [e]),e1]
   by_cases h:tJ L bz (oQ l bz).2.1
   ·have hF:IE L bz n l= []:=by unfold IE;rw [if_neg (fun q=>q.2 h)]
    rw [decide_eq_true h,if_neg (by decide),hF,List.append_nil]
   ·have hF:IE L bz n l= [shF l bz n]:=by unfold IE;rw [if_pos ⟨e,h⟩]
    rw [decide_eq_false h,if_pos (by decide),hF,List.append_assoc]
 ·obtain ⟨dn,T,w,v,rfl,hC⟩:=hJ
  refine ⟨?_,_,?_,dn,T,w,v,rfl,hC⟩
  ·unfold gw
   intro q
   rw [hLt] at q
   dsimp only at q;omega
  ·unfold bW
   dsimp only
   rw [hLt,if_neg (by omega),List.take_length]
def arF (L:List T3) (s vU:Int) (bz n:P3) (len:Int):Int:=if s=0 then vU else vU*((oH L bz (td s bz n len):Nat):Int) / s
def M5 (L:List T3) (Lt:List yV) (y:(Int×Int×Int×Int)×(P3×P3)):Int:=Ch ([arF L y.1.1 y.1.2.2.2 y.2.1 y.2.2 y.1.2.1]++mM L Lt y.2.1 y.2.2)
theorem Lf {L:List T3} (hs:yQ L) (hl:L.length<=12) {T:List vQ} {dn:Int} (hC:Vn L dn T) {Lt:List yV} (hLl:Lt.length<=100) (hR: ∀l∈Lt,fK l) {s len qJ vU:Int} (h1:0<=s/\ s<=24) (h2:0<=len/\ len<=2048) (h3:0<=vU/\ vU<=255)
  {bz n:P3} (ha:Ls bz) (hn:Nr n) (h0:n≠(0,0,0)) (a b:Int):
  lG (L,T,Lt,(dn,a,b),(s,len,qJ,vU),bz,n)/\ ∃T' Iq a' b',s8 (L,T,Lt,(dn,a,b),(s,len,qJ,vU),bz,n)=(M5 L Lt ((s,len,qJ,vU),bz,n),T',Iq,a',b')/\ Vn L Iq T':=by
 obtain ⟨g1,g2⟩:=V9 (a:=s) (b:=len) (c:=qJ) (d:=vU) (L:=Lt) (bz:=bz) (n:=n) h1 h2 ha.nr hn h0
 have hEl:=Y8 h1 bz n len
 have hEs:=adt (k:=s) ha hn h0 h2
 have hw: ∀k:Int,([k]++mM L Lt bz n).length<4611686018427387904:=fun k=>by
  have:=ym L bz n Lt
  rw [List.length_append];simp;omega
 unfold lG s8 aC aq
 dsimp only
 rw [g2]
 generalize hE:td s bz n len=E at*
 by_cases hz:s=0
 ·have hc:((((E.length:Nat):Int)==0)=true):=beq_iff_eq.2 (by omega)
  obtain ⟨k1,Iq,T',a',b',k2,k3⟩:=FZ (L,T,Lt,(dn,a,b),(s,len,qJ,vU),bz,n) hs hl rfl rfl ha hn h0 rfl hLl hR hC a b vU
  obtain ⟨q1,q2⟩:=OZ _ (hw vU)
  rw [k2,if_pos hc]
  dsimp only
  rw [q2]
  refine ⟨⟨g1,fun _=>⟨k1,q1⟩,fun h=>absurd hc h⟩,T',Iq,a',b',?_,k3⟩
  unfold M5 arF
  dsimp only
  rw [if_pos hz]
 ·have hc: ¬((((E.length:Nat):Int)==0)=true):=fun h=>hz (by have:=beq_iff_eq.1 h;omega)
  obtain ⟨r1,dn1,T1,a1,b1,r2,r3⟩:=Nz (L,T,Lt,(dn,a,b),(s,len,qJ,vU),bz,n) hs hl rfl rfl ha.sm hEs (by omega) hC a b
  have hle:oH L bz E<=E.length:=List.countP_le_length
  have hbd:0<=vU*((oH L bz E:Nat):Int)/\ vU*((oH L bz E:Nat):Int)<=255*24:=by
   refine ⟨Int.mul_nonneg h3.1 (by omega),?_⟩
   exact (w7 (A:=255) (B:=24) (by omega) h3.2 (by omega) (by omega)).2
  have hk:av (Int.tdiv (av (vU*((oH L bz E:Nat):Int))) ((E.length:Nat):Int))=arF L s vU bz n len:=by
   have hq:=Int.ediv_le_self s hbd.1
   have Wo:=Int.ediv_nonneg hbd.1 h1.1
   unfold arF
   rw [if_neg hz,hE,aF (n:=vU*((oH L bz E:Nat):Int)) (by omega) (by omega),Int.tdiv_eq_ediv_of_nonneg hbd.1,hEl,aF (by omega) (by omega)]
  obtain ⟨k1,Iq,T',a',b',k2,k3⟩:=FZ (L,T,Lt,(dn,a,b),(s,len,qJ,vU),bz,n) hs hl rfl rfl ha hn h0 rfl hLl hR r3 a1 b1 (arF L s vU bz n len)
  obtain ⟨q1,q2⟩:=OZ _ (hw (arF L s vU bz n len))
  rw [r2]
  dsimp only
  rw [hk,k2,if_neg hc]
  dsimp only
  rw [q2]
  refine ⟨⟨g1,fun h=>absurd h hc,fun _=>⟨r1,by omega,k1,q1⟩⟩,T',Iq,a',b',?_,k3⟩
  rfl
end Go.Proofs.YtngdehlpoomaiaaGreat
namespace Go.Proofs.YtngdehlpoomaiaaGreat
open Go Go.Ev Go.Proofs
theorem Yn (x:Ez):ie x/\ rE x=if ik x=0 then (0,1) else (0,ik x):=by
 obtain ⟨k1,k2⟩:=wH x
 unfold ie rE yX Nt aC aq
 rw [k2]
 dsimp only
 by_cases h:ik x=0
 ·obtain ⟨g1,g2⟩:=wG h
  (try rw [if_pos h])
  exact ⟨⟨k1,fun _=>g1⟩,rfl⟩
 ·rw [if_neg h]
  exact ⟨⟨k1,fun q=>absurd q h⟩,rfl⟩
def oa (Lt:List yV) (y:(Int×Int×Int×Int)×(P3×P3)):Ez:=((y.1.1,y.1.2.1,y.1.2.2.1,y.1.2.2.2,Lt),y.2)
theorem Ns {L:List T3} (hs:yQ L) (hl:L.length<=12) {T:List vQ} {dn:Int} (hC:Vn L dn T) (Lt:List yV) (y:(Int×Int×Int×Int)×(P3×P3)) (hy:ik (oa Lt y)=0->y.1.1<=24) (a b:Int):
  nY (L,T,Lt,(dn,a,b),y)/\ ∃T' Iq a' b',EC (L,T,Lt,(dn,a,b),y)=((if ik (oa Lt y)=0 then (M5 L Lt (y.1,mQ (oa Lt y),y.2.2),0) else (0,ik (oa Lt y))),T',Iq,a',b')/\ Vn L Iq T':=by
 obtain ⟨⟨s,len,qJ,vU⟩,p,n⟩:=y
 obtain ⟨k1,k2⟩:=wH (oa Lt ((s,len,qJ,vU),p,n))
 have e:((s,len,qJ,vU,Lt),p,n)=oa Lt ((s,len,qJ,vU),p,n):=rfl
 unfold nY EC tL Lu aC aq
 dsimp only
 rw [e,k2]
 by_cases h:ik (oa Lt ((s,len,qJ,vU),p,n))=0
 ·obtain ⟨g1,g2⟩:=wG h
  obtain ⟨h1,h2,h3,h4⟩:=E5 h
  have hb:=agb h
  obtain ⟨v1,T',Iq,a',b',v2,v3⟩:=Lf hs hl hC (Lt:=Lt) (by have:=h1.2.2.2.2.1;exact Nat.le_trans this (by decide)) h1.2.2.2.2.2 (s:=s) (len:=len) (qJ:=qJ) (vU:=vU) ⟨h1.1.1,hy h⟩ h1.2.1 h1.2.2.2.1 (bz:=mQ (oa Lt ((s,len,qJ,vU),p,n))) (n:=n) hb h3 h4 a b
  rw [if_pos h,if_pos h,g2]
  have e2:Ck (L,T,Lt,(dn,a,b),(s,len,qJ,vU),mQ (oa Lt ((s,len,qJ,vU),p,n)),n)=(M5 L Lt ((s,len,qJ,vU),mQ (oa Lt ((s,len,qJ,vU),p,n)),n),T',Iq,a',b'):=v2
  refine ⟨⟨k1,fun _=>⟨g1,v1⟩⟩,T',Iq,a',b',?_,v3⟩
  exact (congrArg (fun z=>((z.1,(0:Int)),z.2)) e2)
 ·rw [if_neg h,if_neg h]
  exact ⟨⟨k1,fun q=>absurd q h⟩,T,dn,a,b,rfl,hC⟩
theorem rt_eq {n r:Int} (h0:0<=n) (h1:n<=9223372036854775807) (h:Ew n r):rt n=r:=(SK h0 h1).2.2.uniq h
def up:P3:=(0,0,1)
def SJ:T3:=((-4000,-4000,100),(4000,-4000,100),0,8000,100)
theorem Vh:cA up=(0,0,1024):=by
 unfold cA
 rw [show (1048576*zg up up:Int)=1048576 by decide,rt_eq (r:=1024) (by decide) (by decide) ⟨by decide,by decide,by decide⟩]
 decide
theorem akB:frT (0,0,1024)=(0,-1024,0):=by
 unfold frT
 rw [show DO (X2 (jd (0,0,1024))) (0,0,1024)=(0,-1024,0) by decide]
 unfold cA
 rw [show (1048576*zg (0,-1024,0) (0,-1024,0):Int)=1048576*1048576 by decide,rt_eq (r:=1048576) (by decide) (by decide) ⟨by decide,by decide,by decide⟩]
 decide
theorem amX:frB (0,0,1024)=(1024,0,0):=by
 unfold frB
 rw [akB]
 decide
theorem wW {x y z:Int} (h0:0<=bf (1048576- x*x- y*y) 0) (h1:bf (1048576- x*x- y*y) 0<=9223372036854775807) (hz:Ew (bf (1048576- x*x- y*y) 0) z):m0 up (x,y)=atV (0,-1024,0) (1024,0,0) (0,0,1024) x y z:=by
 unfold m0 NV
 rw [Vh,akB,amX]
 dsimp only
 rw [rt_eq h0 h1 hz]
theorem D4:D24.take 4= [(0,-342),(-512,341),(512,-797),(-768,-114)]:=by kernel_rfl
theorem afL:td 4 (0,0,0) up 512= [(-171,0,482),(170,256,409),(-399,-256,194),(-57,384,333)]:=by
 unfold td
 rw [show (4:Int).toNat=4 by rfl,D4]
 simp only [List.map_cons,List.map_nil]
 rw [wW (x:=0) (y:= -342) (z:=965) (by decide) (by decide) ⟨by decide,by decide,by decide⟩,
  wW (x:= -512) (y:=341) (z:=818) (by decide) (by decide) ⟨by decide,by decide,by decide⟩,
  wW (x:=512) (y:= -797) (z:=388) (by decide) (by decide) ⟨by decide,by decide,by decide⟩,
  wW (x:= -768) (y:= -114) (z:=667) (by decide) (by decide) ⟨by decide,by decide,by decide⟩]
 decide
theorem UE:yQ [SJ]:=by
 intro t ht
 rw [List.mem_singleton] at ht
 subst ht
 intro p hp
 simp only [Lb,SJ,List.mem_cons,List.not_mem_nil,or_false] at hp
 rcases hp with rfl|rfl|rfl<;>decide
theorem aaQ:yQ []:=fun t ht=>by cases ht
theorem XI:M5 [] [] ((4,512,0,100),(0,0,0),up)=100:=by
 unfold M5 arF
 dsimp only
 rw [afL]
 decide
theorem XJ:M5 [SJ] [] ((4,512,0,100),(0,0,0),up)=0:=by
 unfold M5 arF
 dsimp only
 rw [afL]
 decide
theorem tT {L:List T3} (hl:L.length<4611686018427387904) (hs:yQ L):dH (L,false)/\ dK (L,false)=false:=by
 obtain ⟨g1,g2⟩:=xj L hl
 refine ⟨g1,?_⟩
 cases h:dK (L,false) with
 |false=>rfl
 |true=>exact absurd hs (g2.1 h)
theorem agc (p:P3) (k:Int) (j0 j1 j3:Int) (L:List yV):mQ ((j0,j1,k,j3,L),p,up)=(p.1+0*k / 1024,p.2.1+0*k / 1024,p.2.2+1024*k / 1024):=by
 unfold mQ Il
 dsimp only
 rw [Vh]
theorem L2 (x:Bool):iR x/\ ow x=true:=by
 obtain ⟨c1,c2⟩:=tT (L:= []) (by decide) aaQ
 obtain ⟨d1,d2⟩:=tT (L:= [SJ]) (by decide) UE
 obtain ⟨k1,k2⟩:=Bv [] (by decide)
 obtain ⟨l1,l2⟩:=Bv [SJ] (by decide)
 have q0:ik (oa [] ((4,512,0,100),(0,0,0),up))=0:=by decide
 obtain ⟨a1,T1,dn1,a',b',a2,_⟩:=Ns (L:= []) aaQ (by decide) (T:= []) (dn:=0) (.inl rfl) [] ((4,512,0,100),(0,0,0),up) (fun _=>by decide) 0 0
 obtain ⟨b1,T2,dn2,a'',b'',b2,_⟩:=Ns (L:= [SJ]) UE (by decide) (T:= []) (dn:=0) (.inl rfl) [] ((4,512,0,100),(0,0,0),up) (fun _=>by decide) 0 0
 have est:mQ (oa [] ((4,512,0,100),(0,0,0),up))=(0,0,0):=agc _ _ _ _ _ _
 rw [if_pos q0,est,XI] at a2
 rw [if_pos q0,est,XJ] at b2
 obtain ⟨s1,s2⟩:=HA ((0,0,10,0,[]),(5,0,0),up)
 rw [if_pos (by decide),agc] at s2
 obtain ⟨t1,t2⟩:=HA ((4,512,0,100,[]),(4161,0,0),up)
 rw [if_neg (by decide)] at t2
 have t3:ik ((4,512,0,100,[]),(4161,0,0),up)=5:=by decide
 rw [t3] at t2
 obtain ⟨n1,n2⟩:=Yn ((4,512,0,100,[]),(0,0,0),up)
 rw [if_pos (by decide)] at n2
 obtain ⟨i1,i2⟩:=DX (4,512,0,100,[])
 rw [decide_eq_true (by decide:X1 (4,512,0,100,[]))] at i2
 unfold SJ at d1 d2 l1 l2 b1 b2
 unfold up at a1 a2 b1 b2 s1 s2 t1 t2 n1 n2
 unfold iR ow aC aq
 obtain ⟨j1,j2⟩:=DX (65,0,0,0,[])
 rw [c2]
 try dsimp only
 rw [k2]
 try dsimp only
 rw [d2]
 try dsimp only
 rw [l2]
 try dsimp only
 rw [a2]
 try dsimp only
 rw [b2]
 try dsimp only
 rw [s2]
 try dsimp only
 rw [n2]
 try dsimp only
 rw [t2]
 try dsimp only
 rw [i2]
 refine ⟨⟨c1,fun h=>absurd h (by decide),fun _=>⟨k1,d1,fun h=>absurd h (by decide),fun _=>⟨l1,a1,b1,s1,n1,t1,fun _ _ _ _ _ _ _ _=>⟨i1,fun _=>j1⟩⟩⟩⟩,rfl⟩
end Go.Proofs.YtngdehlpoomaiaaGreat
namespace Go.Proofs.YtngdehlpoomaiaaGreat
open Go Go.Ev Go.Proofs
end Go.Proofs.YtngdehlpoomaiaaGreat
namespace Go.Proofs.YtngdehlpoomaiaaGreat
open Go Go.Ev Go.Proofs
theorem adE (l:List T3) (j:Jb):Fo (l,j)=decide (l.length<=8/\ j.2.2.2.2.length<=10/\ (j.1<=12\/ j.1>64)):=by
 unfold Fo
 dsimp only
 by_cases h1:((l.length:Nat):Int)<=8
 rotate_left
 ·rw [if_neg h1];exact (decide_eq_false fun h=>h1 (by omega)).symm
 rw [if_pos h1]
 by_cases h2:((j.2.2.2.2.length:Nat):Int)<=10
 rotate_left
 ·rw [if_neg h2];exact (decide_eq_false fun h=>h2 (by omega)).symm
 rw [if_pos h2]
 by_cases h3:j.1<=12
 ·rw [if_pos h3];exact (decide_eq_true ⟨by omega,by omega,.inl h3⟩).symm
 ·rw [if_neg h3,Bool.eq_iff_iff,decide_eq_true_iff,decide_eq_true_iff]
  exact ⟨fun h=>⟨by omega,by omega,.inr h⟩,fun h=>h.2.2.resolve_left h3⟩
theorem NQ {L:List T3} (hl:L.length<4611686018427387904) (hs: ¬yQ L):dH (L,false)/\ dK (L,false)=true:=by
 obtain ⟨g1,g2⟩:=xj L hl
 exact ⟨g1,g2.2 hs⟩
end Go.Proofs.YtngdehlpoomaiaaGreat
