/- Plain laws: what 'overlap' comes to. -/
import Derived.Test.YtfgdjlhilladhaaGreatGi
import Derived.Test.YtfgdjlhilladhaaGreatHb
import Derived.Test.YtfgdjlhilladhaaGreatHu
import Derived.Test.YtfgdjlhilladhaaGreatGb
import Derived.Test.YtfgdjlhilladhaaGreatBe
noncomputable section
set_option linter.unusedSectionVars false
set_option linter.unusedVariables false
set_option linter.unusedSimpArgs false
namespace Go.Proofs.YtfgdjlhilladhaaGreat
open Go Go.Ev Go.Proofs
def BF (a b c:P2) (k:Int) (l:List P2):Bool:=FF (Sd a b c) k l||FF (Sd b c a) k l||FF (Sd c a b) k l
abbrev M1 (t:T2):Prop:=Right t.1 t.2.1 t.2.2
def Ov (t u:T2):Bool:= !BF t.1 t.2.1 t.2.2 1 (tp u)&& !BF u.1 u.2.1 u.2.2 1 (tp t)
theorem Z1 {t:T2} (h:M1 t): ∀p∈tp t,Sm p:=fun p hp=>by
 simp only [tp,List.mem_cons,List.not_mem_nil,or_false] at hp
 rcases hp with rfl|rfl|rfl
 ·exact h.1.1
 ·exact h.1.2.1
 ·exact h.1.2.2
theorem RB (t u:T2):gQ (t,u)=if M1 t/\ M1 u then (Ov t u,0) else (false,1):=by
 obtain ⟨a,b,c⟩:=t
 obtain ⟨d,e,f⟩:=u
 unfold gQ aes
 dsimp only [aq]
 rw [iA,iA]
 by_cases ht:M1 (a,b,c)
 ·by_cases hu:M1 (d,e,f)
  ·have e1:=B3 ht 1 (tp (d,e,f)) (Z1 hu) (by simp [tp])
   have e2:=B3 hu 1 (tp (a,b,c)) (Z1 ht) (by simp [tp])
   dsimp only [tp] at e1 e2
   rw [decide_eq_true ht,decide_eq_true hu,if_neg (by decide),if_neg (by decide),if_pos (show M1 (a,b,c)/\ M1 (d,e,f) from ⟨ht,hu⟩),e1,e2]
   unfold Ov
   show (if (!BF a b c 1 [d,e,f])=true then (!BF d e f 1 [a,b,c],(0:Int)) else (false,0))=(!BF a b c 1 [d,e,f]&& !BF d e f 1 [a,b,c],0)
   cases BF a b c 1 [d,e,f]<;>rfl
  ·rw [decide_eq_true ht,decide_eq_false hu,if_neg (by decide),if_pos (by decide),if_neg (fun q=>hu q.2)]
 ·rw [decide_eq_false ht,if_pos (by decide),if_neg (fun q=>ht q.1)]
end Go.Proofs.YtfgdjlhilladhaaGreat
namespace Go.Proofs.YtfgdjlhilladhaaGreat
open Go Go.Ev Go.Proofs
theorem zG {p q:Prop} [Decidable p] [Decidable q] {b:Bool} (h:b=decide q):(if p then b else false)=decide (p/\ q):=by
 subst h
 by_cases hp:p<;>simp [hp]
theorem qT (n:Int):yy n=decide (-1048576<=n/\ n<=1048576):=by
 unfold yy;exact zG rfl
theorem uo (p:P2):HJ p=decide (FG p):=by
 unfold HJ
 dsimp only [aq]
 rw [qT,qT,Bool.eq_iff_iff]
 simp
theorem Ly {a b:P2} (ha:Sm a) (hb:Sm b):Lx (a,b)=(a.1- b.1,a.2- b.2):=by
 unfold Lx
 dsimp only [aq]
 rw [uo,uo,decide_eq_true (show FG a from ⟨by omega,by omega⟩),decide_eq_true (show FG b from ⟨by omega,by omega⟩),if_neg (by decide),if_neg (by decide),ay (by omega) (by omega),ay (by omega) (by omega)]
theorem Sg {a b c:P2} (ha:Sm a) (hb:Sm b) (hc:Sm c):Eh ((b.1- a.1,b.2- a.2),c.1- a.1,c.2- a.2)=(c8 a b c,0):=by
 unfold Eh
 dsimp only [aq]
 rw [uo,uo,decide_eq_true (show FG (b.1- a.1,b.2- a.2) from ⟨by dsimp only;omega,by dsimp only;omega⟩),decide_eq_true (show FG (c.1- a.1,c.2- a.2) from ⟨by dsimp only;omega,by dsimp only;omega⟩),if_neg (by decide),if_neg (by decide)]
 have m1:=jz (a:=b.1- a.1) (b:=c.2- a.2) (A:=8192) (B:=8192) (by omega) (by omega) (by omega) (by omega)
 have m2:=jz (a:=b.2- a.2) (b:=c.1- a.1) (A:=8192) (B:=8192) (by omega) (by omega) (by omega) (by omega)
 rw [ay (n:=(b.1- a.1)*(c.2- a.2)) (by omega) (by omega),ay (n:=(b.2- a.2)*(c.1- a.1)) (by omega) (by omega),ay (by omega) (by omega)]
 rfl
theorem dk (p:P2):bV p=decide (Sm p):=by
 unfold bV
 rw [zG (p:=p.2>= -4096) rfl,zG (p:=p.1<=4096) rfl,zG (p:=p.1>= -4096) rfl,Bool.eq_iff_iff,decide_eq_true_iff,decide_eq_true_iff]
 omega
theorem VG {α:Type} {p q r:Prop} [Decidable p] [Decidable q] [Decidable r] {A B:α} :(if (!decide p)=true then A else if (!decide q)=true then A else if (!decide r)=true then A else B)=if p/\ q/\ r then B else A:=by
 by_cases hp:p<;>by_cases hq:q<;>by_cases hr:r<;>simp [hp,hq,hr]
theorem Cf (a b c:P2):kf (a,b,c)=if Sm a/\ Sm b/\ Sm c then (c8 a b c,0) else (0,5):=by
 unfold kf
 dsimp only [aq]
 rw [dk,dk,dk,VG]
 by_cases h:Sm a/\ Sm b/\ Sm c
 ·rw [if_pos h,if_pos h,Ly h.2.1 h.1,Ly h.2.2 h.1,Sg h.1 h.2.1 h.2.2]
 ·rw [if_neg h,if_neg h]
theorem ab6 (n:Int):afn n=sg n:=rfl
theorem vN (a b c:P2):fu (a,b,c)=if Sm a/\ Sm b/\ Sm c then (sg (c8 a b c),0) else (0,5):=by
 unfold fu
 dsimp only [aq]
 rw [Cf,ab6]
 by_cases h:Sm a/\ Sm b/\ Sm c
 ·rw [if_pos h,if_pos h]
 ·rw [if_neg h,if_neg h];rfl
theorem jP (a b c:P2):cW (a,b,c)=decide (Right a b c):=by
 rw [<- iA a b c]
 unfold cW mright
 dsimp only [aq]
 rw [Cf,(bF a b c).2]
theorem LW (t:T2) (p:P2):bK (t,0,p)/\ bK (t,1,p)/\ bK (t,2,p):=by
 unfold bK
 dsimp only [az]
 refine ⟨⟨by decide,by decide,by decide,by decide,by decide,by decide,by decide,by decide,by decide,by decide⟩,⟨by decide,by decide,by decide,by decide,by decide,by decide,by decide,by decide,by decide,by decide⟩,⟨by decide,by decide,by decide,by decide,by decide,by decide,by decide,by decide,by decide,by decide⟩⟩
theorem GD (t:T2) (p:P2) (ht:M1 t) (hp:Sm p):dL (t,0,p)=Sd t.1 t.2.1 t.2.2 p/\ dL (t,1,p)=Sd t.2.1 t.2.2 t.1 p/\ dL (t,2,p)=Sd t.2.2 t.1 t.2.1 p:=by
 have key: ∀a b c:P2,Right a b c->aj ((fu (a,b,c)).1*(fu (a,b,p)).1)=Sd a b c p:=fun a b c h=>by
  rw [vN,if_pos h.1,vN,if_pos ⟨h.1.1,h.1.2.1,hp⟩]
  dsimp only
  have:=HS a b c p
  unfold Sd at this ⊢
  rw [ay (by omega) (by omega)]
 have e0:dL (t,0,p)=aj ((fu (t.1,t.2.1,t.2.2)).1*(fu (t.1,t.2.1,p)).1):=by kernel_rfl
 have e1:dL (t,1,p)=aj ((fu (t.2.1,t.2.2,t.1)).1*(fu (t.2.1,t.2.2,p)).1):=by kernel_rfl
 have e2:dL (t,2,p)=aj ((fu (t.2.2,t.1,t.2.1)).1*(fu (t.2.2,t.1,p)).1):=by kernel_rfl
 have r1:Right t.2.1 t.2.2 t.1:=⟨⟨ht.1.2.1,ht.1.2.2,ht.1.1⟩,by rw [e8 t.1];exact ht.2⟩
 have r2:Right t.2.2 t.1 t.2.1:=⟨⟨ht.1.2.2,ht.1.1,ht.1.2.1⟩,by rw [e8 t.2.1,e8 t.1];exact ht.2⟩
 exact ⟨e0.trans (key _ _ _ ht),e1.trans (key _ _ _ r1),e2.trans (key _ _ _ r2)⟩
theorem u6 (t:T2) (e:Int) (l:List P2) (m:P2->Int) (k:Int) (hk:0<=k) (hl:l.length<4611686018427387904) (hp: ∀p,bK (t,e,p)) (hm: ∀p∈l,dL (t,e,p)=m p):
  cR (t,e,l)/\ (ct (t,e,l)<k↔FF m k l=true):=by
 obtain ⟨h1,h2⟩:=cV (step:=gB (t,e,l)) (pre:=kY (t,e,l)) (fun s=> ∃(g:Int) (i:Nat),s=(g,(i:Int))/\ i<=l.length/\ (g<k↔FF m k (l.take i)=true)) (fun s=>l.length- s.2.toNat)
  (fun r=>r<k↔FF m k l=true) (fun s ⟨g,i,e',hi,hg⟩=>by
   subst e'
   unfold gB kY
   dsimp only [aq]
   simp only [Int.toNat_natCast]
   refine ⟨fun q=>⟨by omega,by omega,by omega,hp _⟩,?_⟩
   by_cases hlt:i<l.length
   ·rw [if_pos (by omega)]
    refine ⟨fun s' q=> ?_,fun r q=>(by cases q)⟩
    cases q
    rw [cnt hlt hl]
    refine ⟨⟨_,i+1,rfl,hlt,?_⟩,by simp only [Int.toNat_natCast];omega⟩
    have hg2:l.getD i (0,0)=l[i]:=by rw [List.getD_eq_getElem?_getD,List.getElem?_eq_getElem hlt];rfl
    rw [hg2,hm _ (List.getElem_mem hlt),List.take_succ_eq_append_getElem hlt]
    have e2:FF m k (l.take i++ [l[i]])=(FF m k (l.take i)&&decide (m l[i]<k)):=by unfold FF;rw [List.all_append,List.all_cons,List.all_nil,Bool.and_true]
    rw [e2,Bool.and_eq_true,<- hg,decide_eq_true_iff]
    have:=fN g (m l[i])
    omega
   ·rw [if_neg (by omega)]
    refine ⟨fun s' q=>(by cases q),fun r q=> ?_⟩
    cases q
    have:i=l.length:=by omega
    subst this
    rwa [List.take_length] at hg) (-1,0) ⟨-1,0,rfl,Nat.zero_le _,by constructor<;>intro _<;>first|rfl|omega⟩
 exact ⟨h1,h2⟩
theorem B7 {t:T2} (ht:M1 t) (l:List P2) (on:Bool) (hs: ∀p∈l,Sm p) (hl:l.length<4611686018427387904):eJ (t,l,on)/\ fF (t,l,on)=BF t.1 t.2.1 t.2.2 (if on then 1 else 0) l:=by
 have hk:(0:Int)<=(if on then 1 else 0):=by cases on<;>decide
 obtain ⟨p0,g0⟩:=u6 t 0 l (Sd t.1 t.2.1 t.2.2) _ hk hl (fun p=>(LW t p).1) fun p hp=>(GD t p ht (hs p hp)).1
 obtain ⟨p1,g1⟩:=u6 t 1 l (Sd t.2.1 t.2.2 t.1) _ hk hl (fun p=>(LW t p).2.1) fun p hp=>(GD t p ht (hs p hp)).2.1
 obtain ⟨p2,g2⟩:=u6 t 2 l (Sd t.2.2 t.1 t.2.1) _ hk hl (fun p=>(LW t p).2.2) fun p hp=>(GD t p ht (hs p hp)).2.2
 have two: ∀ {α:Type} (n:Int) (A B:α),(if n<0 then A else if on=true then if (n==0)=true then A else B else B)=if n<(if on then 1 else 0) then A else B:=fun n A B=>by
  cases on
  ·show (if n<0 then A else B)=if n<0 then A else B
   rfl
  ·show (if n<0 then A else if (n==0)=true then A else B)=if n<1 then A else B
   by_cases h1:n<0
   ·rw [if_pos h1,if_pos (by omega)]
   ·by_cases h2:n=0
    ·rw [if_neg h1,if_pos (by simpa using h2),if_pos (by omega)]
    ·rw [if_neg h1,if_neg (by simpa using h2),if_neg (by omega)]
 unfold eJ fF BF
 dsimp only [az,aq]
 rw [two,two,two]
 refine ⟨⟨p0,fun _=>⟨fun _ _=>⟨p1,fun _=>⟨fun _ _=>p2,fun _=>p2⟩⟩,fun _=>⟨p1,fun _=>⟨fun _ _=>p2,fun _=>p2⟩⟩⟩⟩,?_⟩
 generalize (if on then (1:Int) else 0)=k at*
 generalize ct (t,0,l)=n0 at*
 generalize ct (t,1,l)=n1 at*
 generalize ct (t,2,l)=n2 at*
 by_cases h0:n0<k
 ·rw [if_pos h0,g0.1 h0];rfl
 ·rw [if_neg h0,Bool.eq_false_iff.2 fun q=>h0 (g0.2 q)]
  by_cases h1:n1<k
  ·rw [if_pos h1,g1.1 h1];rfl
  ·rw [if_neg h1,Bool.eq_false_iff.2 fun q=>h1 (g1.2 q)]
   by_cases h2:n2<k
   ·rw [if_pos h2,g2.1 h2];rfl
   ·rw [if_neg h2,Bool.eq_false_iff.2 fun q=>h2 (g2.2 q)];rfl
theorem ye (t u:T2):mb (t,u)/\ vq (t,u)=gQ (t,u):=by
 rw [RB]
 unfold mb vq
 dsimp only [aq,az]
 rw [show cW t=decide (M1 t) from jP t.1 t.2.1 t.2.2,show cW u=decide (M1 u) from jP u.1 u.2.1 u.2.2]
 by_cases ht:M1 t
 ·by_cases hu:M1 u
  ·have h1:eJ (t,tp u,true)∧fF (t,tp u,true)=BF t.1 t.2.1 t.2.2 1 (tp u):=B7 ht (tp u) true (Z1 hu) (by simp [tp])
   have h2:eJ (u,tp t,true)/\ fF (u,tp t,true)=BF u.1 u.2.1 u.2.2 1 (tp t):=B7 hu (tp t) true (Z1 ht) (by simp [tp])
   rw [decide_eq_true ht,decide_eq_true hu,if_neg (by decide),if_neg (by decide),if_pos (show M1 t/\ M1 u from ⟨ht,hu⟩)]
   refine ⟨fun _ _=>⟨h1.1,fun _=>h2.1⟩,?_⟩
   show (if (!fF (t,tp u,true))=true then (!fF (u,tp t,true),(0:Int)) else (false,0))=_
   rw [h1.2,h2.2]
   unfold Ov
   cases BF t.1 t.2.1 t.2.2 1 (tp u)<;>rfl
  ·rw [decide_eq_true ht,decide_eq_false hu,if_neg (by decide),if_pos (by decide),if_neg (fun q=>hu q.2)]
   exact ⟨fun _ q=>absurd rfl q,rfl⟩
 ·rw [decide_eq_false ht,if_pos (by decide),if_neg (fun q=>ht q.1)]
  exact ⟨fun q=>absurd rfl q,rfl⟩
end Go.Proofs.YtfgdjlhilladhaaGreat
namespace Go.Proofs.YtfgdjlhilladhaaGreat
open Go Go.Ev Go.Proofs
def pick (u v:(Int×Int)×(Int×Int×Int)):(Int×Int)×(Int×Int×Int):=if sg (v.2.2.1*u.2.2.2- u.2.2.1*v.2.2.2)<0 then v else u
def SW (p a b c:Int×Int):(Int×Int)×(Int×Int×Int):=pick (pick (w7 p a b) (w7 p b c)) (w7 p c a)
theorem V6 (x:(Int×Int)×((Int×Int)×(Int×Int)×Int×Int)):xn x:=
 ⟨aeq _,fun _ _=>⟨Jc,Jc,Wk _,fun _=>⟨Jc,Wk _⟩,fun _=>⟨Jc,Wk _⟩⟩⟩
theorem GX (p a b c:Int×Int):zl (p,a,b,c)=if Sm p then (if Right a b c then (if 0<InV p a b c then (p,(0,1),0) else ((SW p a b c).1,(SW p a b c).2.2,0)) else ((0,0),(0,0),1)) else ((0,0),(0,0),5):=by
 unfold zl
 rw [Y7]
 by_cases hp:Sm p
 ·rw [if_pos hp,if_pos hp]
  by_cases hr:Right a b c
  ·rw [if_pos hr,if_pos hr]
   dsimp only [aq]
   rw [if_neg (by decide)]
   by_cases hi:0<InV p a b c
   ·rw [if_pos hi,if_pos hi]
   ·rw [if_neg hi,if_neg hi,Kc hp hr.1.1 hr.1.2.1,Kc hp hr.1.2.1 hr.1.2.2,Kc hp hr.1.2.2 hr.1.1]
    have f1:=(zA hp hr.1.1 hr.1.2.1).1
    have f2:=(zA hp hr.1.2.1 hr.1.2.2).1
    have f3:=(zA hp hr.1.2.2 hr.1.1).1
    rw [J7 f2 f1,J7 f3 f2,J7 f3 f1]
    unfold SW pick
    split<;>split<;>rfl
  ·rw [if_neg hr,if_neg hr];rfl
 ·rw [if_neg hp,if_neg hp];rfl
theorem Yt (x:(Int×Int)×((Int×Int)×(Int×Int)×Int×Int)):ze x:=
 ⟨aeq _,fun _=>⟨(bF _ _ _).1,(bF _ _ _).1,(bF _ _ _).1,(bF _ _ _).1,(bF _ _ _).1⟩⟩
theorem pq {n s:Int} (hn: -134217728<=n/\ n<=134217728):aj (n*sg s)=sg s*n/\ -134217728<=sg s*n/\ sg s*n<=134217728:=by
 rcases qX s with ⟨_,e⟩|⟨_,e⟩|⟨_,e⟩<;>rw [e]<;>refine ⟨by rw [ay (by omega) (by omega)];omega,by omega,by omega⟩
theorem VJ (p a b c:Int×Int):weights (p,a,b,c)=if Sm p then (if Right a b c then ((sg (c8 a b c)*c8 b c p,sg (c8 a b c)*c8 c a p,sg (c8 a b c)*c8 a b p),sg (c8 a b c)*c8 a b c,0) else ((0,0,0),0,1)) else ((0,0,0),0,5):=by
 unfold weights
 rw [Y7]
 by_cases hp:Sm p
 ·rw [if_pos hp,if_pos hp]
  by_cases hr:Right a b c
  ·obtain ⟨⟨ha,hb,hc⟩,hne⟩:=hr
   rw [if_pos ⟨⟨ha,hb,hc⟩,hne⟩,if_pos ⟨⟨ha,hb,hc⟩,hne⟩]
   dsimp only [aq]
   rw [if_neg (by decide),(bF a b c).2,if_pos ⟨ha,hb,hc⟩,Ar,if_pos ⟨ha,hb,hc⟩,(bF p b c).2,if_pos ⟨hp,hb,hc⟩,(bF p c a).2,if_pos ⟨hp,hc,ha⟩,(bF p a b).2,if_pos ⟨hp,ha,hb⟩]
   dsimp only [cond_false,cond_true]
   rw [(pq (s:=c8 a b c) (iy hp hb hc)).1,(pq (s:=c8 a b c) (iy hp hc ha)).1,(pq (s:=c8 a b c) (iy hp ha hb)).1,(pq (s:=c8 a b c) (iy ha hb hc)).1]
   rw [<- e8 p b c,<- e8 p c a,<- e8 p a b]
  ·rw [if_neg hr,if_neg hr];rfl
 ·rw [if_neg hp,if_neg hp];rfl
theorem Zx {n:Int} (h:n≠0):0<sg n*n:=by
 rcases qX n with ⟨h1,e⟩|⟨h1,e⟩|⟨h1,e⟩<;>rw [e]<;>omega
end Go.Proofs.YtfgdjlhilladhaaGreat
namespace Go.Proofs.YtfgdjlhilladhaaGreat
open Go Go.Ev Go.Proofs
theorem aeG (x:(Int×Int)×(((Int×Int)×(Int×Int)×Int×Int)×(Int×Int×Int)×(Int×Int×Int)×Int×Int×Int)):Gc x:=
 ⟨(gp _ (by simp)).1,fun _=>⟨(LZ _ (by simp)).1,fun _=>⟨Yt _,fun _=>⟨uH _,uH _,uH _⟩⟩⟩⟩
def Lf (p a b c:Int×Int) (u v w:Int):Int:=(sg (c8 a b c)*c8 b c p*u+sg (c8 a b c)*c8 c a p*v+sg (c8 a b c)*c8 a b p*w) / (sg (c8 a b c)*c8 a b c)
theorem KI {p a b c:Int×Int} {u v w:Int} (hp:Sm p) (hr:Right a b c) (hu: -16384<=u/\ u<=16384) (hv: -16384<=v/\ v<=16384) (hw: -16384<=w/\ w<=16384):
  floor (aj (aj (aj (0+aj (sg (c8 a b c)*c8 b c p*u))+aj (sg (c8 a b c)*c8 c a p*v))+aj (sg (c8 a b c)*c8 a b p*w)),sg (c8 a b c)*c8 a b c)=Lf p a b c u v w:=by
 obtain ⟨⟨ha,hb,hc⟩,hne⟩:=hr
 have hA:=Zx hne
 have d0:=(pq (s:=c8 a b c) (iy hb hc hp)).2
 have d1:=(pq (s:=c8 a b c) (iy hc ha hp)).2
 have d2:=(pq (s:=c8 a b c) (iy ha hb hp)).2
 have d3:=(pq (s:=c8 a b c) (iy ha hb hc)).2
 unfold Lf
 generalize sg (c8 a b c)*c8 b c p=w0 at*
 generalize sg (c8 a b c)*c8 c a p=w1 at*
 generalize sg (c8 a b c)*c8 a b p=w2 at*
 generalize sg (c8 a b c)*c8 a b c=n at*
 have m1:=jz (a:=w0) (b:=u) (A:=134217728) (B:=16384) d0.1 d0.2 hu.1 hu.2
 have m2:=jz (a:=w1) (b:=v) (A:=134217728) (B:=16384) d1.1 d1.2 hv.1 hv.2
 have m3:=jz (a:=w2) (b:=w) (A:=134217728) (B:=16384) d2.1 d2.2 hw.1 hw.2
 rw [ay (n:=w0*u) (by omega) (by omega),ay (n:=w1*v) (by omega) (by omega),ay (n:=w2*w) (by omega) (by omega),Int.zero_add,ay (n:=w0*u) (by omega) (by omega),ay (n:=w0*u+w1*v) (by omega) (by omega),ay (by omega) (by omega),F2 (by omega) (by omega) (by omega) (by omega)]
theorem zV (p a b c:Int×Int) (s t r:Int×(Int×Int)):OO (p,(a,b,c),s,t,r)=if Sm p then (if Cw s/\ Cw t/\ Cw r then (if Right a b c then ((Lf p a b c s.1 t.1 r.1,Lf p a b c s.2.1 t.2.1 r.2.1,Lf p a b c s.2.2 t.2.2 r.2.2),0) else ((0,0,0),1)) else ((0,0,0),5)) else ((0,0,0),5):=by
 unfold OO
 dsimp only [aq]
 rw [qY,SB,VJ]
 by_cases hp:Sm p
 ·rw [decide_eq_true hp,if_neg (by decide),if_pos hp]
  by_cases hs:Cw s/\ Cw t/\ Cw r
  ·rw [decide_eq_true hs,if_neg (by decide),if_pos hs,if_pos hp]
   by_cases hr:Right a b c
   ·rw [if_pos hr,if_pos hr]
    dsimp only
    rw [if_neg (by decide),KI hp hr hs.1.1 hs.2.1.1 hs.2.2.1,KI hp hr hs.1.2.1 hs.2.1.2.1 hs.2.2.2.1,KI hp hr hs.1.2.2 hs.2.1.2.2 hs.2.2.2.2]
   ·rw [if_neg hr,if_neg hr];rfl
  ·rw [decide_eq_false hs,if_pos (by decide),if_pos hp,if_neg hs]
 ·rw [decide_eq_false hp,if_pos (by decide),if_neg hp]
end Go.Proofs.YtfgdjlhilladhaaGreat
namespace Go.Proofs.YtfgdjlhilladhaaGreat
open Go Go.Ev Go.Proofs
abbrev InT (x y:Int):Prop:=0<=x/\ x<256/\ 0<=y/\ y<256
def Cen (x y:Int):Int×Int:=(16*x+8,16*y+8)
theorem rR (x y:Int):jO (x,y)=if InT x y then (Cen x y,0) else ((0,0),5):=by
 unfold jO Cen
 dsimp only
 by_cases h:InT x y
 ·rw [if_pos h]
  obtain ⟨h1,h2,h3,h4⟩:=h
  have e1: ¬aG x y<0:=by unfold aG;split<;>omega
  have e2: ¬aI x y>=256:=by unfold aI;split<;>omega
  rw [if_neg e1,if_neg e2,ay (n:=16*x) (by omega) (by omega),ay (n:=16*y) (by omega) (by omega),ay (by omega) (by omega),ay (by omega) (by omega)]
 ·rw [if_neg h]
  by_cases e1:aG x y<0
  ·rw [if_pos e1]
  ·rw [if_neg e1]
   have e2:aI x y>=256:=by
    unfold aG at e1;unfold aI;unfold InT at h
    split at e1<;>split<;>omega
   rw [if_pos e2]
theorem ac7 {x y:Int} (h:InT x y):Sm (Cen x y):=by
 unfold Cen Sm;obtain ⟨h1,h2,h3,h4⟩:=h;dsimp only;omega
theorem zJ (x:Int×(Int×((Int×Int)×(Int×Int)×Int×Int)×(Int×Int×Int)×(Int×Int×Int)×Int×Int×Int)):m8 x:=
 fun _=>⟨V6 _,fun _=>aeG _⟩
def Qp (x y:Int) (a b c:Int×Int):Int×Int:=if 0<InV (Cen x y) a b c then Cen x y else (SW (Cen x y) a b c).1
theorem B0 (x y:Int) (a b c:Int×Int) (s:(Int×Int×Int)×((Int×Int×Int)×Int×Int×Int)):
  iz (x,y,(a,b,c),s)=if InT x y then (if Right a b c then OO (Qp x y a b c,(a,b,c),s) else ((0,0,0),1)) else ((0,0,0),5):=by
 unfold iz
 dsimp only [aq]
 rw [rR]
 by_cases h:InT x y
 ·rw [if_pos h,if_pos h,if_neg (by simp)]
  dsimp only
  rw [GX,if_pos (ac7 h)]
  by_cases hr:Right a b c
  ·rw [if_pos hr,if_pos hr]
   unfold Qp
   by_cases hi:0<InV (Cen x y) a b c
   ·rw [if_pos hi,if_pos hi,if_neg (by simp)]
   ·rw [if_neg hi,if_neg hi,if_neg (by simp)]
  ·rw [if_neg hr,if_neg hr,if_pos (by decide)]
 ·rw [if_neg h,if_neg h,if_pos (by decide)]
end Go.Proofs.YtfgdjlhilladhaaGreat
