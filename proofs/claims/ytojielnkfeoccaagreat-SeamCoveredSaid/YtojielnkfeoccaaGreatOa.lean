/- Plain laws: places along an edge; what maps hold. -/
import Derived.Test.YtojielnkfeoccaaGreatGi
import Derived.Test.YtojielnkfeoccaaGreatMb
noncomputable section
set_option linter.unusedSectionVars false
set_option linter.unusedVariables false
set_option linter.unusedSimpArgs false
namespace Go.Proofs.YtojielnkfeoccaaGreat
open Go Go.Ev Go.Proofs
def Zt (r b:Int):Bool:=decide (aj ((BitVec.ofInt 64 r^^^BitVec.ofInt 64 b).toNat:Nat)<0)
theorem Rj (x:BitVec 64):aj (x.toNat:Nat)=x.toInt:=by
 rw [aj,IntKind.wrap_i64,BitVec.toInt_eq_toNat_cond]
 have:=x.isLt
 split<;>omega
theorem U2 {r b:Int} (h1: -9223372036854775808<=r) (h2:r<=9223372036854775807) (h3: -9223372036854775808<=b) (h4:b<=9223372036854775807):Zt r b=(decide (r<0)^^decide (b<0)):=by
 have hm: ∀n:Int,-9223372036854775808<=n->n<=9223372036854775807->(BitVec.ofInt 64 n).msb=decide (n<0):=fun n h h'=>by
  rw [BitVec.msb_eq_toInt,BitVec.toInt_ofInt,Int.bmod_eq_of_le (by omega) (by omega)]
 unfold Zt
 rw [Rj,<- BitVec.msb_eq_toInt,BitVec.msb_xor,hm r h1 h2,hm b h3 h4]
theorem tdm {a b:Int} (hb:0<b):(a.tmod b≠0/\ a<0->a.tdiv b=a / b+1/\ a.tmod b=a % b- b)/\ (¬(a.tmod b≠0/\ a<0)->a.tdiv b=a / b/\ a.tmod b=a % b):=by
 have h1:=Int.mul_tdiv_add_tmod a b
 have h2:=Int.mul_ediv_add_emod a b
 have h3:=Int.emod_nonneg a (show b≠0 by omega)
 have h4:=Int.emod_lt_of_pos a hb
 by_cases ha:0<=a
 ·have e1:=Int.tdiv_eq_ediv_of_nonneg (b:=b) ha
  have e2:=Int.tmod_eq_emod_of_nonneg (b:=b) ha
  refine ⟨fun h=>by omega,fun _=>⟨e1,e2⟩⟩
 ·have e0:a.tdiv b=if a % b=0 then a / b else a / b+1:=by
   rw [Int.tdiv_eq_ediv]
   have:(0<=a\/ b ∣ a)↔a % b=0:=⟨fun h=>h.elim (fun h=>by omega) Int.emod_eq_zero_of_dvd,fun h=> .inr (Int.dvd_of_emod_eq_zero h)⟩
   have hs:b.sign=1:=Int.sign_eq_one_of_pos hb
   simp only [this,hs]
   split<;>simp
  have e2:a.tmod b=if a % b=0 then 0 else a % b- b:=by
   rw [e0] at h1
   split at h1<;>rename_i hz
   ·rw [if_pos hz];omega
   ·rw [if_neg hz]
    rw [Int.mul_add] at h1;omega
  rw [e0,e2]
  by_cases hz:a % b=0
  ·simp [hz]
  ·simp only [hz,if_false]
   refine ⟨fun _=>by simp,fun h=>absurd ⟨by omega,by omega⟩ h⟩
theorem GX (x:Int×Int):nS x:=by
 unfold nS over aM
 intro h
 have h0:x.2≠0:=fun h0=>h (by simp [h0])
 exact ⟨h0,h0⟩
theorem Em {a b:Int} (h1: -9223372036854775808<=a) (h2:a<=9223372036854775807) (hb:0<b) (iW:b<=9223372036854775807):zY (a,b)=(a / b,a % b,0):=by
 have ho:over (a,b)=0:=by
  unfold over
  dsimp only
  rw [if_neg (by simp;omega)]
  split
  ·rw [if_neg (by simp;omega)]
  ·rfl
 have h3:=Int.emod_nonneg a (show b≠0 by omega)
 have h4:=Int.emod_lt_of_pos a hb
 have h6:=Int.mul_ediv_add_emod a b
 have h5: -9223372036854775808<=a / b/\ a / b<=9223372036854775807:=by
  by_cases ha:0<=a
  ·have:=Int.ediv_nonneg ha (show 0≤b by omega)
   have:=Int.ediv_le_self b ha
   omega
  ·have hq:=Int.ediv_neg_of_neg_of_pos (show a<0 by omega) hb
   have e:=Int.mul_nonneg (show 0<=b- 1 by omega) (show 0<= -(a / b)- 1 by omega)
   have e':(b- 1)*(-(a / b)- 1)= -(b*(a / b))- b+a / b+1:=by grind
   omega
 obtain ⟨t1,t2⟩:=tdm (a:=a) hb
 have hx: ∀r:Int,-9223372036854775808<=r->r<=9223372036854775807->(aj (((BitVec.toNat ((BitVec.ofInt 64 r)^^^(BitVec.ofInt 64 b))):Nat):Int)<0↔r<0):=fun r hr hr2=>by
  have:=U2 hr hr2 (show-9223372036854775808<=b by omega) iW
  unfold Zt at this
  simp only [show¬b<0 by omega,decide_false,Bool.xor_false,decide_eq_decide] at this
  exact this
 unfold zY
 rw [ho]
 dsimp only [au]
 rw [if_neg (by decide)]
 by_cases hc:a.tmod b≠0/\ a<0
 ·obtain ⟨e1,e2⟩:=t1 hc
  rw [if_pos (by simpa using hc.1),if_pos ((hx _ (by omega) (by omega)).2 (by omega)),e1,e2]
  have hn:a / b<0:=Int.ediv_neg_of_neg_of_pos hc.2 hb
  rw [bf (n:=a / b+1) (by omega) (by omega),bf (by omega) (by omega),bf (by omega) (by omega)]
  congr 1
  ·omega
  ·congr 1;omega
 ·obtain ⟨e1,e2⟩:=t2 hc
  have SO:(aj (a.tdiv b),a.tmod b,(0:Int))=(a / b,a % b,0):=by rw [e1,e2,bf (by omega) (by omega)]
  split
  ·rename_i hne
   rw [if_neg (fun h=>by
    have h:=(hx _ (by omega) (by omega)).1 h
    omega)]
   exact SO
  ·exact SO
def Zu (a b s:Int):Int:=a+(b- a)*s / 8
theorem fQ (a b:Int×Int) (s:Int):bt (a,b,s)/\ along (a,b,s)=if Sm a/\ Sm b/\ 0<=s/\ s<=8 then ((Zu a.1 b.1 s,Zu a.2 b.2 s),0) else ((0,0),5):=by
 have hs2:fI [a,b]=decide (Sm a/\ Sm b):=by rw [(fJ _ (by simp)).2];simp
 refine ⟨⟨(fJ _ (by simp)).1,fun _ _ _=>⟨GX _,GX _⟩⟩,?_⟩
 unfold along
 dsimp only [au]
 rw [hs2]
 by_cases h:Sm a/\ Sm b
 ·rw [decide_eq_true h,if_neg (by decide)]
  obtain ⟨h1,h2⟩:=h
  by_cases h3:s<0
  ·rw [if_pos h3,if_neg (by omega)]
  ·rw [if_neg h3]
   by_cases h4:s>8
   ·rw [if_pos h4,if_neg (by omega)]
   ·rw [if_neg h4,if_pos ⟨h1,h2,by omega,by omega⟩]
    have m1:=QK (a:=b.1- a.1) (b:=s) (A:=8192) (B:=8) (by omega) (by omega) (by omega) (by omega)
    have m2:=QK (a:=b.2- a.2) (b:=s) (A:=8192) (B:=8) (by omega) (by omega) (by omega) (by omega)
    rw [bf (n:=b.1- a.1) (by omega) (by omega),bf (n:=b.2- a.2) (by omega) (by omega),bf (n:=(b.1- a.1)*s) (by omega) (by omega),bf (n:=(b.2- a.2)*s) (by omega) (by omega),
     Em (by omega) (by omega) (by decide) (by decide),Em (by omega) (by omega) (by decide) (by decide)]
    dsimp only
    rw [bf (by omega) (by omega),bf (by omega) (by omega)]
    rfl
 ·rw [decide_eq_false h,if_pos (by decide),if_neg (fun q=>h ⟨q.1,q.2.1⟩)]
theorem Nb {p:P2} (h:(0<=p.1/\ p.1<4096)/\ 0<=p.2/\ p.2<4096):bM p=((((p.1 / 16).toNat:Nat):Int),(((p.2 / 16).toNat:Nat):Int),0):=by
 have m1:=da p.1 p.2
 have m2:=cZ p.1 p.2
 unfold bM
 rw [if_neg (by omega),if_neg (by omega),Int.tdiv_eq_ediv_of_nonneg h.1.1,Int.tdiv_eq_ediv_of_nonneg h.2.1,bf (n:=p.1 / 16) (by omega) (by omega),bf (n:=p.2 / 16) (by omega) (by omega)]
 congr 1
 ·omega
 ·congr 1;omega
def vO (p q:P2) (k:Int):P2:=((bM (along (p,q,k)).1).1,(bM (along (p,q,k)).1).2.1)
theorem UT {p q:P2} {n:Nat} (hn:n<=8) {W H:Int} (hW:W<=256) (hH:H<=256) (hp:IY W H p) (hq:IY W H q): ∃x y:Nat,vO p q (n:Int)=((x:Int),(y:Int))/\ ((x:Int)<W/\ (y:Int)<H)/\
  (8*(16*(x:Int))<=(q8 p q n).1/\ (q8 p q n).1<8*(16*(x:Int))+128)/\ 8*(16*(y:Int))<=(q8 p q n).2/\ (q8 p q n).2<8*(16*(y:Int))+128:=by
 obtain ⟨⟨p1,p2⟩,p3,p4⟩:=hp
 obtain ⟨⟨q1,q2⟩,q3,q4⟩:=hq
 have b1:=WD hn (p:=p) (q:=q) (lo:=0) (hi:=16*W- 1) ⟨p1,by omega⟩ ⟨q1,by omega⟩
 have b2:=WE hn (p:=p) (q:=q) (lo:=0) (hi:=16*H- 1) ⟨p3,by omega⟩ ⟨q3,by omega⟩
 have e:=(fQ p q (n:Int)).2
 rw [if_pos ⟨by unfold Sm;omega,by unfold Sm;omega,by omega,by omega⟩] at e
 have a1:Zu p.1 q.1 (n:Int)=(q8 p q n).1 / 8:=by
  unfold Zu q8;dsimp only
  rw [Int.mul_comm (n:Int) (q.1- p.1)]
  generalize (q.1- p.1)*(n:Int)=z
  omega
 have a2:Zu p.2 q.2 (n:Int)=(q8 p q n).2 / 8:=by
  unfold Zu q8;dsimp only
  rw [Int.mul_comm (n:Int) (q.2- p.2)]
  generalize (q.2- p.2)*(n:Int)=z
  omega
 rw [a1,a2] at e
 generalize (q8 p q n).1=u at*
 generalize (q8 p q n).2=v at*
 have r:=Nb (p:=(u / 8,v / 8)) (by dsimp only;omega)
 unfold vO
 rw [e,r]
 refine ⟨(u / 8 / 16).toNat,(v / 8 / 16).toNat,rfl,?_,?_,?_⟩<;>omega
theorem tJ {k:Ty} {β:Type} (h:k.flat=true) (x:k.T) (z:β) (y:k.T): ∀l:List (k.T×β),eI (bU l x z) y=if iQ k y x=true then some z else eI l y
 | []=>by
  unfold bU eI eI
  cases iQ k y x<;>rfl
 |p::r=>by
  unfold bU
  cases hx:iQ k x p.1 with
  |true=>
   have e:=(dm h _ _).1 hx
   subst e
   dsimp only
   unfold eI
   dsimp only
   cases iQ k y p.1<;>rfl
  |false=>
   dsimp only
   unfold eI
   rw [tJ h x z y r]
   cases hy:iQ k y p.1 with
   |false=>rfl
   |true=>
    have e:=(dm h _ _).1 hy
    subst e
    have n: ¬iQ k p.1 x=true:=fun q=>by
     rw [(dm h _ _).1 q,(dm h _ _).2 rfl] at hx
     cases hx
    simp only [n]
    rfl
theorem Ml (l:List P3) (hl:l.length<4611686018427387904) (v:Int):eR (l,v)/\ iE (l,v)=match l.findIdx? (fun x=>x.1==v) with|some i=>(i:Int)|none=> -1:=
 ny l hl (fun x=>x.1==v) (iF (l,v)) (o9 (l,v)) (fun i hi=>by
   unfold o9
   intro h
   simp only [Int.toNat_natCast]
   dsimp only at h ⊢;omega) (fun i x hx=>by
   have hlt:=cU hx
   unfold iF au LJ
   rw [if_pos (by dsimp only;omega),Int.toNat_natCast]
   dsimp only
   rw [gY hx]) (by
   unfold iF
   rw [if_neg (by dsimp only;omega)])
theorem JP (t:T3) {v:Int} (h:t.1.1=v\/ t.2.1.1=v\/ t.2.2.1=v):eR ([t.1,t.2.1,t.2.2],v)/\ ∃k:Nat,k<3/\ iE ([t.1,t.2.1,t.2.2],v)=(k:Int):=by
 obtain ⟨h1,h2⟩:=Ml [t.1,t.2.1,t.2.2] (by simp) v
 refine ⟨h1,?_⟩
 rw [h2]
 by_cases a:t.1.1=v
 ·exact ⟨0,by omega,by simp [List.findIdx?_cons,a]⟩
 ·by_cases b:t.2.1.1=v
  ·exact ⟨1,by omega,by simp [List.findIdx?_cons,a,b]⟩
  ·have c:t.2.2.1=v:=by
    rcases h with h|h|h
    ·exact absurd h a
    ·exact absurd h b
    ·exact h
   exact ⟨2,by omega,by simp [List.findIdx?_cons,a,b,c]⟩
end Go.Proofs.YtojielnkfeoccaaGreat
