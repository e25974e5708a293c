/- Plain laws: a mesh's edges. -/
import Derived.Test.YtojielnkfeoccaaGreatPe
noncomputable section
set_option linter.unusedSectionVars false
set_option linter.unusedVariables false
set_option linter.unusedSimpArgs false
namespace Go.Proofs.YtojielnkfeoccaaGreat
open Go Go.Ev Go.Proofs
theorem Tt {m:vZ} (hn:m.2.2.2.length<=500) {p:P2} {k:Int} (h:k∈lk (jq m) p):Has m k/\ p∈E0 (IP m k):=by
 obtain ⟨_,_,h3⟩:=LW m hn
 rcases (h3 p k).1 h with ⟨a,a1,rfl,a2⟩|⟨_,a2⟩
 ·exact ⟨by unfold Has;omega,a2⟩
 ·rw [List.take_zero] at a2;cases a2
theorem Pb {α:Type} [DecidableEq α]: ∀ {a b:List α},a.Nodup->(∀x∈a,x∈b)->a.length<=b.length
 | [],b,_,_=>Nat.zero_le _
 |x::r,b,hn,h=>by
  rw [List.nodup_cons] at hn
  have h1:=Pb (a:=r) (b:=b.erase x) hn.2 fun y hy=>by
   have hne:y≠x:=fun e=>hn.1 (by rw [<- e];exact hy)
   exact (List.mem_erase_of_ne hne).2 (h y (List.mem_cons_of_mem _ hy))
  have hx:=h x List.mem_cons_self
  rw [List.length_erase_of_mem hx] at h1
  have:=List.length_pos_of_mem hx
  rw [List.length_cons];omega
theorem LX {m:vZ} (hn:m.2.2.2.length<=500):(jq m).length<=1500:=by
 obtain ⟨_,_,h3,h4⟩:=rW m hn
 have h:=Pb (b:=(List.range m.2.2.2.length).flatMap fun i:Nat=>E0 (IP m (i:Int))) h4.1 fun p hp=>by
  obtain ⟨e,he,rfl⟩:=List.mem_map.1 hp
  obtain ⟨k,hk⟩:=List.exists_mem_of_ne_nil _ (h4.2 e he).1
  rw [<- MM h4.1 he] at hk
  replace hk:=Tt hn hk
  have e:((k.toNat:Nat):Int)=k:=by have:=hk.1.1;omega
  exact List.mem_flatMap.2 ⟨k.toNat,List.mem_range.2 (by have:=hk.1.2;have:=hk.1.1;omega),by rw [e];exact hk.2⟩
 rw [List.length_map] at h
 have h5: ∀l:List Nat,(l.flatMap fun i:Nat=>E0 (IP m (i:Int))).length<=3*l.length:=fun l=>by
  induction l with
  |nil=>simp
  |cons a r ih=>
   rw [List.flatMap_cons,List.length_append,List.length_cons]
   have:=Im (IP m (a:Int))
   omega
 have h6:=h5 (List.range m.2.2.2.length)
 rw [List.length_range] at h6
 omega
theorem WB {t:T3} {a b:Int} (h:(a,b)∈E0 t):(t.1.1=a\/ t.2.1.1=a\/ t.2.2.1=a)/\ (t.1.1=b\/ t.2.1.1=b\/ t.2.2.1=b):=by
 have key: ∀u v:Int,(a,b)∈Pr u v->(a=u\/ a=v)/\ (b=u\/ b=v):=fun u v h=>by
  unfold Pr at h
  split at h
  ·rw [List.mem_singleton,Prod.mk.injEq] at h
   unfold aO aS at h
   obtain ⟨h1,h2⟩:=h
   split at h1<;>split at h2<;>omega
  ·cases h
 unfold E0 at h
 rw [List.mem_append,List.mem_append] at h
 rcases h with (h|h)|h
 ·have:=key _ _ h;omega
 ·have:=key _ _ h;omega
 ·have:=key _ _ h;omega
theorem LS {m:vZ} (a:Cd) (hm:xx m=true):ql m/\ (iZ m).2=0/\ (iZ m).1.length<=1500/\ ∀e∈(iZ m).1,e.2.2.length<=1500/\ ∀k∈e.2.2,ZO (m,a) e.1 e.2.1 k:=by
 have hn:=(Dm hm).2.2.2
 obtain ⟨h1,h2,h3,h4⟩:=rW m hn
 have hl:=LX hn
 have e0:iZ m=(eM ((jq m).map Vm),0):=by
  unfold iZ
  rw [(jr m).2,hm,if_pos rfl]
 rw [e0]
 refine ⟨⟨(jr m).1,fun _=>⟨h1,by omega,h4.1⟩⟩,rfl,?_,fun e he=> ?_⟩
 ·show (eM _).length≤_
  unfold eM
  rw [List.length_mergeSort,List.length_map];exact hl
 ·have he:e∈eM ((jq m).map Vm):=he
  unfold eM at he
  rw [List.mem_mergeSort,List.mem_map] at he
  obtain ⟨p,hp,rfl⟩:=he
  have e1:=MM h4.1 hp
  have b:=h2 p.1
  rw [e1] at b
  refine ⟨b,fun k hk=> ?_⟩
  have hk':k∈lk (jq m) p.1:=by rw [e1];exact hk
  obtain ⟨g1,g2⟩:=Tt hn hk'
  exact ⟨g1,WB g2⟩
theorem LR {m:vZ} (hm:xx m=false):ql m/\ iZ m=([],1):=by
 constructor
 ·refine ⟨(jr m).1,fun h=> ?_⟩
  rw [(jr m).2,hm] at h;cases h
 ·unfold iZ
  rw [(jr m).2,hm,if_neg (by decide)]
end Go.Proofs.YtojielnkfeoccaaGreat
namespace Go.Proofs.YtojielnkfeoccaaGreat
open Go Go.Ev Go.Proofs
def TT (a:Cd):List T2:=rI a.2.2.2.1 a.2.2.2.2 a.2.2.1 a.2.2.2.1.length
def OO (a:Cd):List Int:=yS a.2.2.2.1 a.2.2.2.1.length
theorem Dn {p:P2} {u v:Int} (h1:(0<=p.1/\ p.1<=4112)/\ 0<=p.2/\ p.2<=4112) (h2:(0<=u/\ u<=65536)/\ 0<=v/\ v<=65536):jE (p,u,v)=(p.1+u,p.2+v):=by
 unfold jE
 dsimp only
 rw [bf (n:=p.1+u) (by omega) (by omega),bf (n:=p.2+v) (by omega) (by omega)]
theorem R6 (p q r:P2) (u v:Int):q9 (p.1+u,p.2+v) (q.1+u,q.2+v) (r.1+u,r.2+v)=q9 p q r:=by
 unfold q9
 dsimp only
 rw [show q.1+u- (p.1+u)=q.1- p.1 by omega,show r.2+v- (p.2+v)=r.2- p.2 by omega,show q.2+v- (p.2+v)=q.2- p.2 by omega,show r.1+u- (p.1+u)=r.1- p.1 by omega]
theorem Up {a:Cd} (hA:lG a) {j:Nat} (hj:j<a.2.2.2.1.length) {t:T2} (ht:t∈uz a.2.2.2.1 a.2.2.2.2 a.2.2.1 j):Ab a.1 a.2.1 t/\ mright t=true:=by
 have hn:=hA.num
 obtain ⟨⟨w1,w2⟩,⟨h1,h2⟩,p1,p2⟩:=hn
 obtain ⟨_,⟨r1,r2⟩,r3,r4⟩:=hA.Zg hj
 have hI:=fun k hk=>Mw hA hj ht (k:=k) hk
 have hin: ∀k,k<3->IY a.1 a.2.1 (pk t k):=fun k hk=>by
  obtain ⟨⟨i1,i2⟩,i3,i4⟩:=hI k hk
  unfold IY;omega
 have q1:IY a.1 a.2.1 t.1:=hin 0 (by omega)
 have q2:IY a.1 a.2.1 t.2.1:=hin 1 (by omega)
 have q3:IY a.1 a.2.1 t.2.2:=hin 2 (by omega)
 refine ⟨⟨q1,q2,q3⟩,?_⟩
 have hs:Sm t.1/\ Sm t.2.1/\ Sm t.2.2:=by
  unfold IY at q1 q2 q3
  unfold Sm;omega
 obtain ⟨u,hu,e⟩:=List.mem_map.1 ht
 have hp:=hA.XM.all _ (fc hj zP)
 have hd:=hp.X5
 have hb:=fun k (hk:k<3)=>hp.pt (List.mem_flatMap.2 ⟨u,hu,Uc u hk⟩:pk u k∈pts (a.2.2.2.1.getD j zP).2.1)
 have b0:(0<=u.1.1/\ u.1.1<16*(a.2.2.2.1.getD j zP).2.2.1)/\ 0<=u.1.2/\ u.1.2<16*(a.2.2.2.1.getD j zP).2.2.2:=hb 0 (by omega)
 have b1:(0<=u.2.1.1/\ u.2.1.1<16*(a.2.2.2.1.getD j zP).2.2.1)/\ 0<=u.2.1.2/\ u.2.1.2<16*(a.2.2.2.1.getD j zP).2.2.2:=hb 1 (by omega)
 have b2:(0<=u.2.2.1/\ u.2.2.1<16*(a.2.2.2.1.getD j zP).2.2.1)/\ 0<=u.2.2.2/\ u.2.2.2<16*(a.2.2.2.1.getD j zP).2.2.2:=hb 2 (by omega)
 have S0:=hA.way hj
 have hR:=(hp.right u hu).2
 generalize hW:kF a.2.2.2.2 a.2.2.1 j=W at e S0
 obtain ⟨x,y⟩:=W
 have e0:t=((u.1.1+x,u.1.2+y),(u.2.1.1+x,u.2.1.2+y),u.2.2.1+x,u.2.2.2+y):=by
  rw [<- e]
  unfold EW
  dsimp only at S0 ⊢
  rw [Dn (by omega) (by omega),Dn (by omega) (by omega),Dn (by omega) (by omega)]
 rw [e0] at hs
 rw [e0,vo]
 refine decide_eq_true ⟨hs,?_⟩
 rw [R6]
 exact hR
theorem NK {a:Cd} (hA:lG a) {i:Nat} (hi:i<(TT a).length): ∃j,j<a.2.2.2.1.length/\ (OO a).getD i 0=(j:Int)/\ (TT a).getD i zT∈uz a.2.2.2.1 a.2.2.2.2 a.2.2.1 j:=by
 obtain ⟨j,j1,j2,j3,_⟩:=X1 hA.XM a.2.2.2.2 a.2.2.1 a.2.2.2.1.length (Nat.le_refl _) i hi
 exact ⟨j,j1,j2,j3⟩
theorem Na {a:Cd} (hA:lG a):Rt a.1 a.2.1 (TT a):=fun t ht=>by
 obtain ⟨j,hj,h⟩:=List.mem_flatMap.1 (show t∈(List.range a.2.2.2.1.length).flatMap _ from ht)
 exact Up hA (List.mem_range.1 hj) h
def Tx (a:Cd) (o:List Int) (j:Int) (p:P2):Prop:= ∃x y:Nat,p=((x:Int),(y:Int))/\ x<a.1.toNat/\ y<a.2.1.toNat/\ ∃k,k<(TT a).length/\ o.getD (y*a.1.toNat+x) 0=(k:Int)/\ (OO a).getD k 0=j
theorem Pe {a:Cd} (hA:lG a) {o:List Int} (hO:Own a.1.toNat a.2.1.toNat (TT a) o) {i:Nat} (hi:i<(TT a).length) {k k' n:Nat} (hk:k<3) (hk':k'<3) (hn8:n<9):
  Tx a o ((OO a).getD i 0) (vO (pk ((TT a).getD i zT) k) (pk ((TT a).getD i zT) k') (n:Int)):=by
 have hn:=hA.num
 have hw:uc a.1:=hn.1
 have hh:uc a.2.1:=hn.2.1
 have hw1:=hw.1
 have hw2:=hw.2
 have hh1:=hh.1
 have hh2:=hh.2
 have eW:((a.1.toNat:Nat):Int)=a.1:=by omega
 have eH:((a.2.1.toNat:Nat):Int)=a.2.1:=by omega
 obtain ⟨hT,hr⟩:=Na hA _ (fc hi zT)
 obtain ⟨j1,p1,p2,p3⟩:=NK hA hi
 have hi1:=fun k hk=>Mw hA p1 p3 (k:=k) hk
 generalize ht:(TT a).getD i zT=t at*
 obtain ⟨x,y,e,⟨x1,y1⟩,hu,hv⟩:=UT (n:=n) (by omega) (W:=a.1) (H:=a.2.1) (by omega) (by omega) (Ub hT hk) (Ub hT hk')
 have Xw:x<a.1.toNat:=by omega
 have hyh:y<a.2.1.toNat:=by omega
 have hlt:=HH Xw hyh
 have acZ:=Pp (x:=x) (y:=y) (by omega) (by omega) hr hk hk' (by omega:n<=8) hu hv
 have acV:Lo t x y:=Po hw hh hT hk hk' (by omega:n<=8) hu hv
 have hne:=hO.all (y*a.1.toNat+x) hlt i hi (by rw [tD Xw,tC Xw,ht];exact acV) (by rw [tD Xw,tC Xw,ht];exact acZ)
 rcases hO.has (y*a.1.toNat+x) hlt with q|⟨j,k1,k2,k3⟩
 ·exact absurd q hne
 rw [tD Xw,tC Xw] at k3
 obtain ⟨j2,r1,r2,r3⟩:=NK hA k1
 have hjj:j1=j2:=by
  refine Classical.byContradiction fun hne=> ?_
  have hr2:=(Na hA _ (fc k1 zT)).2
  exact VP hn.2.2.1 (ZS hA p1 r1 hne) (hi1 k hk) (hi1 k' hk') (by omega:n<=8) (fun k hk=>Mw hA r1 r3 hk) hu hv ((NR (by omega) (by omega) hr2).1 k3).1
 subst hjj
 exact ⟨x,y,e,Xw,hyh,j,k1,k2,by rw [r2,p2]⟩
def Gp (a:Cd) (o:List Int) (p q:P2):Prop:= ∃i k:Int,i≠k/\ Tx a o i p/\ Tx a o k q
theorem W4 {m:vZ} {a:Cd} (hA:lG a) {o:List Int} (hO:Own a.1.toNat a.2.1.toNat (TT a) o) {of:EZ} {t:Cg} (h:U6 (m,a) (TT a) (OO a) (TT a).length of t):Two of t (Gp a o):=by
 intro i k hi hk hne a1 b1 a2 b2 n q1 q2 q3 q4 q5
 obtain ⟨_,u,u1,u2,u3⟩:=h i hi
 obtain ⟨_,v,v1,v2,v3⟩:=h k hk
 rw [u3,v3]
 rw [u2,v2] at hne
 exact ⟨_,_,hne,Pe hA hO u1 q1 q2 q5,Pe hA hO v1 q3 q4 q5⟩
theorem Gf (m:vZ) (a:Cd) (hl:a.2.2.2.1.length<=1000) (zo:a.2.2.2.2.length<=1000):mP (m,a)/\ ((∃e,e≠0/\ uB (m,a)=([],e))\/
  (lG a/\ ∃l o,uB (m,a)=(l,0)/\ j9 (a.1,a.2.1,TT a)=(o,0)/\ Own a.1.toNat a.2.1.toNat (TT a) o/\ l.Nodup/\ l.length<1099511627776/\ ∀p∈l,p.1≠p.2/\ Gp a o p.1 p.2)):=by
 obtain ⟨i1,i2⟩:=G7 a (by omega) (by omega)
 obtain ⟨t1,t2⟩:=K7 m
 unfold mP uB aM au
 dsimp only
 rcases i2 with ⟨hn,e⟩|⟨hA,e⟩
 ·rw [e]
  exact ⟨⟨i1,fun q=>absurd rfl q⟩,.inl ⟨1,by decide,rfl⟩⟩
 ·have hwn:uc a.1:=hA.num.1
  have Yr:uc a.2.1:=hA.num.2.1
  have hw1:=hwn.1
  have hh1:=Yr.1
  have eW:((a.1.toNat:Nat):Int)=a.1:=by omega
  have eH:((a.2.1.toNat:Nat):Int)=a.2.1:=by omega
  have hTl:=(rJ hA.XM a.2.2.2.2 a.2.2.1 a.2.2.2.1.length (Nat.le_refl _)).2.2
  have ow:=AJ a.1.toNat a.2.1.toNat (by rw [eW];exact hwn) (by rw [eH];exact Yr) (TT a) (by unfold TT;omega)
  rw [eW,eH] at ow
  have k1:=T7 (m:=m) hA hl (T:=TT a) (O:=OO a) rfl rfl
  rw [show rI a.2.2.2.1 a.2.2.2.2 a.2.2.1 a.2.2.2.1.length=TT a from rfl,show yS a.2.2.2.1 a.2.2.2.1.length=OO a from rfl] at e
  rw [e,t2]
  dsimp only
  cases ht:US m with
  |false=>
   exact ⟨⟨i1,fun _=>⟨t1,fun q=>absurd (by decide) q⟩⟩,.inl ⟨1,by decide,rfl⟩⟩
  |true=>
   obtain ⟨k1,k2⟩:=k1
   unfold sA at k1 k2
   rcases k2 with ⟨b,e2⟩|⟨of,t,e2,hM⟩
   ·rw [e2]
    exact ⟨⟨i1,fun _=>⟨t1,fun _=>⟨k1,trivial⟩⟩⟩,.inl ⟨1,by decide,rfl⟩⟩
   ·rw [e2]
    cases hm:xx m with
    |false=>
     obtain ⟨g1,g2⟩:=LR hm
     rw [g2]
     exact ⟨⟨i1,fun _=>⟨t1,fun _=>⟨k1,⟨g1,fun q=>absurd (by decide) q⟩⟩⟩⟩,.inl ⟨1,by decide,rfl⟩⟩
    |true=>
     obtain ⟨g1,g2,g3,g4⟩:=LS a hm
     rcases ow.2 with ⟨hno,_⟩|⟨_,o,eo,hO⟩
     ·exact absurd (Na hA) hno
     ·obtain ⟨j1,told,j2,j3⟩:=YQ (W4 hA hO hM) (X:=(m,a)) (l:=(iZ m).1) g4 g3 (out:= []) (told:= []) ⟨List.nodup_nil,fun p hp=>(by cases hp),fun p hp=>(by cases hp)⟩ (Nat.le_refl 0)
      refine ⟨⟨i1,fun _=>⟨t1,fun _=>⟨k1,⟨g1,fun _=>j1⟩⟩⟩⟩,.inr ⟨hA,_,o,?_,eo,hO,j2.nd,j3,j2.ok⟩⟩
      show (if ((iZ m).2 !=0)=true then _ else _)=_
      rw [g2]
      rfl
end Go.Proofs.YtojielnkfeoccaaGreat
