/- Plain laws: atlases: all triangles; one is found. -/
import Derived.Test.YtojielnkfeoccaaGreatBd
import Derived.Test.YtojielnkfeoccaaGreatAe
noncomputable section
set_option linter.unusedSectionVars false
set_option linter.unusedVariables false
set_option linter.unusedSimpArgs false
namespace Go.Proofs.YtojielnkfeoccaaGreat
open Go Go.Ev Go.Proofs
theorem Tz {n:Nat} (h:n<4294967296):(BitVec.toNat ((BitVec.ofInt 64 (n:Int))&&&(BitVec.ofInt 64 (4294967295:Int))))=n:=by
 have e1:(BitVec.ofInt 64 (n:Int)).toNat=n:=by
  rw [BitVec.toNat_ofInt];omega
 have e2:(BitVec.ofInt 64 (4294967295:Int)).toNat=2^32- 1:=by decide
 rw [BitVec.toNat_and,e1,e2,Nat.and_two_pow_sub_one_eq_mod]
 omega
theorem RL {n:Nat} (h:n<4294967296):Je (1,(n:Int))=(0,(n:Int)):=by
 have f1:Int.fdiv 1 4294967296=0:=by decide
 have f2:Int.fdiv (n:Int) 4294967296=0:=by rw [Int.fdiv_eq_ediv_of_nonneg _ (by decide)];omega
 have l1:(BitVec.toNat ((BitVec.ofInt 64 (1:Int))&&&(BitVec.ofInt 64 (4294967295:Int))))=1:=Tz (n:=1) (by decide)
 have w0:IntKind.wrap IntKind.u64 0=0:=wrap64 (by decide) (by decide)
 have w1':IntKind.wrap IntKind.u64 1=1:=wrap64 (by decide) (by decide)
 have wn:IntKind.wrap IntKind.u64 (n:Int)=(n:Int):=wrap64 (by omega) (by omega)
 have z:(BitVec.toNat ((BitVec.ofInt 64 (0:Int))&&&(BitVec.ofInt 64 (4294967295:Int))))=0:=Tz (n:=0) (by decide)
 unfold Je MR au
 dsimp only
 simp only [f1,f2,Tz h,l1,Int.zero_mul,Int.mul_zero,Int.one_mul,Int.zero_add,Int.add_zero,w0,wn,z,Int.natCast_zero,Int.natCast_one,w1',show Int.fdiv 0 4294967296=0 from by decide]
def rep (c m:Nat) (i:Int):List Int:=List.replicate c i++List.replicate (m- c) 0
theorem WO {c m:Nat} (h:c<=m) (i:Int):(rep c m i).length=m:=by simp only [rep,List.length_append,List.length_replicate];omega
theorem Ui {c m:Nat} (h:c<=m) (i:Int):iV (rep c m i) c (m- c) ((rep c m i).take c)=rep (c+min c (m- c)) m i/\ ov (m- c) ((rep c m i).take c).length=min c (m- c):=by
 have e1:(rep c m i).take c=List.replicate c i:=by simp [rep]
 have e2:ov (m- c) (List.replicate c i).length=min c (m- c):=by unfold ov;rw [List.length_replicate]
 rw [e1,e2]
 refine ⟨?_,rfl⟩
 unfold iV
 rw [e1,e2]
 unfold rep
 rw [List.take_replicate,show min (min c (m- c)) c=min c (m- c) by omega,List.replicate_append_replicate,List.drop_append,List.length_replicate,List.drop_replicate,List.drop_replicate,show c- (c+min c (m- c))=0 by omega]
 simp only [List.replicate_zero,List.nil_append]
 rw [show m- c- (c+min c (m- c)- c)=m- (c+min c (m- c)) by omega]
theorem Kw (x:List Int×Int) (i:Int) (m:Nat) (hm:m<=1000000000): ∀k c,c+k=m->(0<c\/ k=0)->TR (gJ x) (j7 x) (rep c m i,(c:Int)) fun r=>r=List.replicate m i:=by
 intro k
 induction k using Nat.strongRecOn with
 |ind k ih=>
  intro c hc h0
  have hl:=WO (c:=c) (m:=m) (by omega) i
  by_cases hk:k=0
  ·subst hk
   have:c=m:=by omega
   subst this
   refine TR.stop (r:=rep c c i) ?_ ?_ (by simp [rep])
   ·unfold j7
    intro q
    dsimp only at q;rw [hl] at q;omega
   ·unfold gJ
    dsimp only
    rw [hl,if_neg (by omega)]
  ·obtain ⟨q1,q2⟩:=Ui (c:=c) (m:=m) (by omega) i
   refine TR.go (s':=(rep (c+min c (m- c)) m i,((c+min c (m- c):Nat):Int))) ?_ ?_ (ih (k- min c (m- c)) (by omega) _ (by omega) (by omega))
   ·unfold j7
    intro _
    dsimp only
    rw [hl];omega
   ·unfold gJ au
    dsimp only
    rw [hl,if_pos (by omega),Int.toNat_natCast,Nat.add_zero,q1,q2,bf (by omega) (by omega)]
    congr 2
theorem DH (i:Int) {n:Nat} (hn:n<=1000000000):jH ([i],(n:Int))/\ repeatM ([i],(n:Int))=List.replicate n i:=by
 have e1:IntKind.wrap IntKind.u64 ((([i]:List Int).length:Nat):Int)=1:=wrap64 (by simp) (by simp)
 have e2:IntKind.wrap IntKind.u64 ((n:Nat):Int)=(n:Int):=wrap64 (by omega) (by omega)
 have e3:aj ((n:Nat):Int)=(n:Int):=bf (by omega) (by omega)
 have e4:iV (List.replicate n (0:Int)) 0 n [i]=rep (min 1 n) n i/\ ov n 1=min 1 n:=by
  refine ⟨?_,rfl⟩
  unfold iV
  show _++List.take (min 1 n) [i]++List.drop (0+min 1 n) _=_
  cases n with
  |zero=>rfl
  |succ n=>simp [rep,show min 1 (n+1)=1 by omega]
 have key:=Kw ([i],(n:Int)) i n hn (n- min 1 n) (min 1 n) (by omega) (by omega)
 unfold jH repeatM aM au
 dsimp only
 rw [e1,e2,RL (by omega)]
 dsimp only
 rw [e3,Int.toNat_natCast,List.length_replicate]
 simp only [List.length_cons,List.length_nil,Nat.zero_add]
 rw [e4.1,e4.2]
 refine ⟨⟨fun q=>absurd q (by omega),fun _=>⟨fun q=>absurd q (by omega),fun _=>⟨fun q=>absurd q (by omega),fun _=>⟨⟨⟨by omega,by omega⟩,by omega⟩,key.1⟩⟩⟩⟩,?_⟩
 rw [if_neg (by omega),if_neg (by omega),if_neg (by omega)]
 exact key.2
def kF (R:List G5) (pad:Int) (i:Nat):Int×Int:=(16*((R.getD i zR).1+pad),16*((R.getD i zR).2.1+pad))
def uz (l:Ls) (R:List G5) (pad:Int) (i:Nat):List T2:=(l.getD i zP).2.1.map (EW fun p=>jE (p,kF R pad i))
def rI (l:Ls) (R:List G5) (pad:Int) (k:Nat):List T2:=(List.range k).flatMap (uz l R pad)
def yS (l:Ls) (k:Nat):List Int:=(List.range k).flatMap fun i=>List.replicate (l.getD i zP).2.1.length (i:Int)
theorem s8 (l:Ls) (R:List G5) (pad:Int) (k:Nat):rI l R pad (k+1)=rI l R pad k++uz l R pad k:=by simp [rI,List.range_succ]
theorem yT (l:Ls) (k:Nat):yS l (k+1)=yS l k++List.replicate (l.getD k zP).2.1.length (k:Int):=by simp [yS,List.range_succ]
theorem zu (l:Ls) (R:List G5) (pad:Int) (i:Nat):(uz l R pad i).length=(l.getD i zP).2.1.length:=by simp [uz]
theorem rJ {l:Ls} (hl:Vr l) (R:List G5) (pad:Int): ∀k,k<=l.length->(rI l R pad k).length=(lI (l.take k)).length/\ (yS l k).length=(lI (l.take k)).length/\ (rI l R pad k).length<=500*k:=by
 intro k
 induction k with
 |zero=>intro _;simp [rI,yS,lI]
 |succ k ih=>
  intro hk
  have hp:=hl.all _ (fc (show k<l.length by omega) zP)
  have h1:=hp.len
  have h2:=hp.same
  obtain ⟨i1,i2,i3⟩:=ih (by omega)
  rw [s8,yT,iU (show k<l.length by omega) zP,tU]
  simp only [List.length_append,zu,List.length_replicate]
  omega
theorem lG.Zg {a:Cd} (h:lG a) {i:Nat} (hi:i<a.2.2.2.1.length):XU a.1 a.2.1 (a.2.2.2.2.getD i zR):=(h.sh i (by rw [h.len];exact hi)).1
theorem lG.way {a:Cd} (h:lG a) {i:Nat} (hi:i<a.2.2.2.1.length):0<=(kF a.2.2.2.2 a.2.2.1 i).1/\ (kF a.2.2.2.2 a.2.2.1 i).1<=65536/\ 0<=(kF a.2.2.2.2 a.2.2.1 i).2/\ (kF a.2.2.2.2 a.2.2.1 i).2<=65536:=by
 obtain ⟨⟨r1,r2⟩,⟨r3,r4⟩,r5,r6⟩:=h.Zg hi
 obtain ⟨⟨w1,w2⟩,⟨h1,h2⟩,p1,p2⟩:=h.num
 unfold kF
 dsimp only
 omega
theorem G7 (a:Cd) (hl:a.2.2.2.1.length<=1000000) (zo:a.2.2.2.2.length<1099511627776):rH a/\ ((¬lG a/\ allM a=([],[],1))\/
  (lG a/\ allM a=(rI a.2.2.2.1 a.2.2.2.2 a.2.2.1 a.2.2.2.1.length,yS a.2.2.2.1 a.2.2.2.1.length,0))):=by
 obtain ⟨i1,i2⟩:=YP a (by omega) zo
 unfold rH allM aM au
 cases hb:ZL a with
 |false=>
  refine ⟨⟨i1,fun q=>absurd rfl q⟩,.inl ⟨fun q=> ?_,rfl⟩⟩
  rw [i2.2 q] at hb;cases hb
 |true=>
  have hA:=i2.1 hb
  have hR:=hA.XM
  have key:TR (jQ a) (nY a) ([],[],0) fun r=>r= .inr (rI a.2.2.2.1 a.2.2.2.2 a.2.2.1 a.2.2.2.1.length,yS a.2.2.2.1 a.2.2.2.1.length):=by
   refine dj a.2.2.2.1.length (fun i st=>st=(rI a.2.2.2.1 a.2.2.2.2 a.2.2.1 i,yS a.2.2.2.1 i,(i:Int))) _ (fun i st hi hj=> ?_) (fun st hj=> ?_) rfl
   ·subst hj
    have hp:=hR.all _ (fc hi zP)
    have hlen:=hA.len
    obtain ⟨⟨r1,r2⟩,⟨r3,r4⟩,r5,r6⟩:=hA.Zg hi
    obtain ⟨⟨w1,w2⟩,⟨h1,h2⟩,p1,p2⟩:=hA.num
    have S0:=hA.way hi
    have e1:aj ((a.2.2.2.2.getD i zR).1+a.2.2.1)=(a.2.2.2.2.getD i zR).1+a.2.2.1:=bf (by omega) (by omega)
    have e2:aj ((a.2.2.2.2.getD i zR).2.1+a.2.2.1)=(a.2.2.2.2.getD i zR).2.1+a.2.2.1:=bf (by omega) (by omega)
    have e3:aj (16*((a.2.2.2.2.getD i zR).1+a.2.2.1))=16*((a.2.2.2.2.getD i zR).1+a.2.2.1):=bf (by omega) (by omega)
    have e4:aj (16*((a.2.2.2.2.getD i zR).2.1+a.2.2.1))=16*((a.2.2.2.2.getD i zR).2.1+a.2.2.1):=bf (by omega) (by omega)
    have hm:=Qh (a.2.2.2.1.getD i zP) (kF a.2.2.2.2 a.2.2.1 i)
    have hmv:Ap (a.2.2.2.1.getD i zP,kF a.2.2.2.2 a.2.2.1 i)=(uz a.2.2.2.1 a.2.2.2.2 a.2.2.1 i,0):=by
     rcases hm.2 with ⟨q,_⟩|⟨_,q,_⟩|⟨_,_,q⟩
     ·exact absurd hp q
     ·exact absurd S0 q
     ·exact q
    have ZZ:(a.2.2.2.1.getD i zP,aj ((16:Int)*(aj ((a.2.2.2.2.getD i zR).1+a.2.2.1))),aj ((16:Int)*(aj ((a.2.2.2.2.getD i zR).2.1+a.2.2.1))))=(a.2.2.2.1.getD i zP,kF a.2.2.2.2 a.2.2.1 i):=by rw [e1,e2,e3,e4];rfl
    have hml:=zu a.2.2.2.1 a.2.2.2.2 a.2.2.1 i
    have hps:=hp.same
    have Bl:=hp.len
    obtain ⟨t1,t2,t3⟩:=rJ hR a.2.2.2.2 a.2.2.1 i (by omega)
    obtain ⟨q1,q2⟩:=DH (i:Int) (n:=(uz a.2.2.2.1 a.2.2.2.2 a.2.2.1 i).length) (by omega)
    refine ⟨?_,.inl ⟨_,?_,rfl⟩⟩
    ·unfold nY aM
     intro _
     dsimp only
     rw [Int.toNat_natCast,show (a.2.2.2.1.getD i ([],[],0,0),aj ((16:Int)*(aj ((a.2.2.2.2.getD i (0,0,0,0)).1+a.2.2.1))),aj ((16:Int)*(aj ((a.2.2.2.2.getD i (0,0,0,0)).2.1+a.2.2.1))))=_ from ZZ,hmv]
     exact ⟨by omega,hi,hi,by omega,by omega,by omega,by omega,by omega,by omega,by omega,by omega,hm.1,fun _=>⟨by dsimp only;omega,q1,by dsimp only;rw [q2,List.length_replicate];omega⟩⟩
    ·unfold jQ au
     dsimp only
     rw [if_pos (by omega),Int.toNat_natCast,show (a.2.2.2.1.getD i ([],[],0,0),aj ((16:Int)*(aj ((a.2.2.2.2.getD i (0,0,0,0)).1+a.2.2.1))),aj ((16:Int)*(aj ((a.2.2.2.2.getD i (0,0,0,0)).2.1+a.2.2.1))))=_ from ZZ,hmv]
     dsimp only
     rw [if_neg (by decide),q2,Jh hi (by omega),s8,yT,hml]
   ·subst hj
    refine ⟨?_,_,?_,rfl⟩
    ·unfold nY
     intro q
     dsimp only at q;omega
    ·unfold jQ
     dsimp only
     rw [if_neg (by omega)]
  refine ⟨⟨i1,fun _=>key.1⟩,.inr ⟨hA,?_⟩⟩
  dsimp only
  rw [if_neg (by decide),key.2];rfl
end Go.Proofs.YtojielnkfeoccaaGreat
