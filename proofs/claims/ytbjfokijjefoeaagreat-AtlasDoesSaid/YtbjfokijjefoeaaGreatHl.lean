/- Plain laws: turned triangles, patches, charts that are laid. -/
import Derived.Test.YtbjfokijjefoeaaGreatQd
import Derived.Test.YtbjfokijjefoeaaGreatAb
import Derived.Test.YtbjfokijjefoeaaGreatHa
noncomputable section
set_option linter.unusedSectionVars false
set_option linter.unusedVariables false
set_option linter.unusedSimpArgs false
namespace Go.Proofs.YtbjfokijjefoeaaGreat
open Go Go.Ev Go.Proofs
theorem Vl (l:List Int) (hl:l.length<1099511627776):zc l:=fun b hb=>by
 cases b with
 |false=>exact ⟨rfl,fun _=>by omega⟩
 |true=>
  cases l with
  |nil=>exact ⟨rfl,fun h=>absurd rfl h⟩
  |cons a r=>exact absurd (hb (by simp)) (by decide)
theorem J9 (l:List T2) (hl:l.length<1099511627776):s7 l:=fun b hb=>by
 cases b with
 |false=>exact ⟨rfl,fun _=>by omega⟩
 |true=>
  cases l with
  |nil=>exact ⟨rfl,fun h=>absurd rfl h⟩
  |cons a r=>exact absurd (hb (by simp)) (by decide)
def JU (f:P2->P2) (t:T2):T2:=(f t.1,f t.2.1,f t.2.2)
def half (f:P2->P2) (l:List T2) (i:Nat):List T2:=(l.take i).map (JU f)++l.drop i
theorem OB (f:P2->P2) (l:List T2) (i:Nat) (hi:i<=l.length):(half f l i).length=l.length:=by
 unfold half;simp;omega
theorem Ys (f:P2->P2) (l:List T2) (i:Nat) (hi:i<l.length):(half f l i).getD i zT=l.getD i zT:=by
 unfold half
 rw [List.getD_eq_getElem?_getD,List.getElem?_append_right (by simp;omega)]
 simp [Nat.min_eq_left (Nat.le_of_lt hi)]
theorem Yt (f:P2->P2) (l:List T2) (i:Nat) (hi:i<l.length) (v:T2) (hv:v=JU f (l.getD i zT)):(half f l i).set i v=half f l (i+1):=by
 subst hv
 unfold half
 have h1:((l.take i).map (JU f)).length=i:=by simp;omega
 rw [List.set_append_right _ _ (by omega),h1,Nat.sub_self,List.drop_eq_getElem_cons hi,List.set_cons_zero,List.take_succ_eq_append_getElem hi,List.map_append,List.append_assoc,List.getD_eq_getElem?_getD,List.getElem?_eq_getElem hi]
 rfl
theorem Ju {α:Type} (l:List α) (i:Nat) (v d:α) (hi:i<l.length):(l.set i v).getD i d=v:=by
 rw [List.getD_eq_getElem?_getD,List.getElem?_set_self hi];rfl
theorem E4 (l:List T2) (by':P2) (hl:l.length<1099511627776):wZ (l,by')/\ NT (l,by')=l.map (JU fun p=>nY (p,by')):=by
 obtain ⟨h1,h2⟩:=dr (step:=ku (l,by')) (pre:=qu (l,by'))
  (fun s=> ∃i:Nat,s=(half (fun p=>nY (p,by')) l i,(l.length:Int),(i:Int))/\ i<=l.length) (fun s=>l.length- s.2.2.toNat) (fun r=>r=l.map (JU fun p=>nY (p,by'))) (fun s ⟨i,e,hi⟩=>by
   subst e
   unfold ku qu
   dsimp only [ai,aA]
   simp only [Int.toNat_natCast,cond_true,cond_false,List.length_set]
   rw [OB _ _ _ hi]
   refine ⟨fun h=> ?_,fun s' h=> ?_,fun r h=> ?_⟩
   ·have hi:i<l.length:=by omega
    refine ⟨⟨by omega,by omega⟩,by omega,by omega,⟨by omega,by omega⟩,by omega,by omega,by omega,⟨by omega,by omega⟩,by omega,by omega,by omega,?_⟩
    omega
   ·split at h
    ·rename_i hlt
     have hlt:i<l.length:=by omega
     have hH:=OB (fun p=>nY (p,by')) l i hi
     cases h
     refine ⟨⟨i+1,?_,hlt⟩,?_⟩
     ·rw [cnt hlt (by omega)]
      congr 1
      rw [List.set_set,List.set_set,Yt _ _ _ hlt]
      simp only [Ju _ _ _ _ (show i<(half (fun p=>nY (p,by')) l i).length by omega),List.set_set,Ys _ _ _ hlt]
      rfl
     ·rw [cnt hlt (by omega)]
      simp only [Int.toNat_natCast];omega
    ·cases h
   ·split at h
    ·cases h
    ·cases h
     have:i=l.length:=by omega
     subst this
     unfold half
     rw [List.take_length,List.drop_length,List.append_nil]) (l,(l.length:Int),(0:Int)) ⟨0,by unfold half;simp,Nat.zero_le _⟩
 exact ⟨⟨J9 l hl,h1⟩,h2⟩
def QV (t:T2):Bool:=mright (t.1,t.2.1,t.2.2)
theorem Iq (t:T2):QV t=true↔Right t.1 t.2.1 t.2.2:=by
 unfold QV;rw [tJ,decide_eq_true_iff]
theorem yp (l:List T2) (hl:l.length<4611686018427387904) (b:Bool):rB (l,b)/\ sj (l,b)= !decide (∀t∈l,Right t.1 t.2.1 t.2.2):=by
 have hh:=tA l hl (fun t=> !QV t) (iZ (l,false)) (rJ (l,false)) (fun i hi=>by
   unfold rJ
   intro h
   simp only [Int.toNat_natCast];dsimp only at h ⊢
   exact ⟨⟨by omega,by omega⟩,by omega,by omega,(kR _ _ _).1⟩) (fun i x hx=>by
   have hlt:=cD hx
   unfold iZ odd
   dsimp only [ai]
   rw [if_pos (by omega),Int.toNat_natCast,iM hx]
   rfl) (by
   unfold iZ
   dsimp only
   rw [if_neg (by omega)])
 refine ⟨hh.1,?_⟩
 unfold sj RL
 dsimp only [ai]
 rw [hh.2,Gw]
 rw [Bool.eq_iff_iff,List.any_eq_true,Bool.not_eq_true',decide_eq_false_iff_not]
 constructor
 ·rintro ⟨x,h1,h2⟩ h3
  rw [Bool.not_eq_true'] at h2
  rw [(Iq x).2 (h3 x h1)] at h2;cases h2
 ·intro h
  refine Classical.byContradiction fun h2=>h fun p hp=>Classical.byContradiction fun h3=>h2 ⟨p,hp,?_⟩
  rw [Bool.not_eq_true',Bool.eq_false_iff]
  exact fun q=>h3 ((Iq p).1 q)
abbrev JW:Type:=List Int×(List T2×Int×Int)
def Sz (n:Int):Int:=if n<0 then 0 else if n>4096 then 0 else n / 16+1
theorem xn (n:Int):Ko n=(Sz n,if n<0 then 5 else if n>4096 then 5 else 0):=by
 unfold Ko Sz
 split
 ·rfl
 ·split
  ·rfl
  ·rw [Int.tdiv_eq_ediv_of_nonneg (by omega),aR (n:=n / 16) (by omega) (by omega),aR (by omega) (by omega)]
theorem Rj (p:P2):GC p=(Sz p.1,Sz p.2):=by
 unfold GC
 dsimp only [ai]
 rw [xn,xn]
structure dO (x:JW):Prop where
 len:x.1.length<=500
 same:x.2.1.length=x.1.length
 right: ∀t∈x.2.1,Right t.1 t.2.1 t.2.2
 ok:(gG x.2.1).2.2=0
 zero:(gG x.2.1).1=z2
 w:x.2.2.1=Sz (gG x.2.1).2.1.1
 h:x.2.2.2=Sz (gG x.2.1).2.1.2
 free:CS x.2.1=true
theorem nr (x:JW):Av x/\ (QM x=true↔dO x):=by
 obtain ⟨tr,uv,w,h⟩:=x
 unfold Av QM
 dsimp only [aA,ai]
 by_cases h1:((tr.length:Nat):Int)>500
 ·exact ⟨fun q=>absurd h1 q,by rw [if_pos h1];exact ⟨fun q=>(by cases q),fun q=>absurd q.len (by dsimp only;omega)⟩⟩
 rw [if_neg h1]
 by_cases h2:(((uv.length:Nat):Int) !=((tr.length:Nat):Int))=true
 ·refine ⟨fun _ q=>absurd h2 q,?_⟩
  rw [if_pos h2]
  refine ⟨fun q=>(by cases q),fun q=> ?_⟩
  have:=q.same
  dsimp only at this
  rw [this] at h2;simp at h2
 rw [if_neg h2]
 have hlen:uv.length=tr.length:=by simp only [bne_iff_ne,ne_eq,Decidable.not_not] at h2;omega
 have hl:uv.length<4611686018427387904:=by omega
 refine ⟨fun _ _=>⟨(yp uv hl _).1,fun _=>⟨(vH uv hl).1,fun _ _ _ _=>(zk uv hl).1⟩⟩,?_⟩
 rw [(yp uv hl _).2,Rj]
 by_cases h3: ∀t∈uv,Right t.1 t.2.1 t.2.2
 ·rw [decide_eq_true h3,if_neg (by decide)]
  by_cases h4:((gG uv).2.2 !=0)=true
  ·rw [if_pos h4]
   refine ⟨fun q=>(by cases q),fun q=> ?_⟩
   have:=q.ok
   dsimp only at this
   rw [this] at h4;exact absurd h4 (by decide)
  ·rw [if_neg h4]
   have h4:(gG uv).2.2=0:=by simpa using h4
   have he:(((gG uv).1.1==0)&&(((gG uv).1.2==0)&&true))=true↔(gG uv).1=z2:=by
    generalize (gG uv).1=p
    obtain ⟨a,b⟩:=p
    simp
   by_cases h5:(gG uv).1=z2
   ·rw [he.2 h5,if_neg (by decide)]
    by_cases h6:w=Sz (gG uv).2.1.1
    ·rw [if_pos (by rw [h6];simp)]
     by_cases h7:h=Sz (gG uv).2.1.2
     ·rw [if_pos (by rw [h7];simp)]
      exact ⟨fun q=>⟨by dsimp only;omega,hlen,h3,h4,h5,h6,h7,q⟩,fun q=>q.free⟩
     ·rw [if_neg (by simpa using h7)]
      exact ⟨fun q=>(by cases q),fun q=>absurd q.h h7⟩
    ·rw [if_neg (by simpa using h6)]
     exact ⟨fun q=>(by cases q),fun q=>absurd q.w h6⟩
   ·rw [if_pos (by
     rw [Bool.not_eq_true',Bool.eq_false_iff]
     exact fun q=>h5 (he.1 q))]
    exact ⟨fun q=>(by cases q),fun q=>absurd q.zero h5⟩
 ·rw [decide_eq_false h3,if_pos (by decide)]
  exact ⟨fun q=>(by cases q),fun q=>absurd q.right h3⟩
theorem CW (x:JW) (b:P2):xk (x,b)/\ ((¬dO x/\ Ay (x,b)=([],1))\/ (dO x/\ ¬(0<=b.1/\ b.1<=65536/\ 0<=b.2/\ b.2<=65536)/\ Ay (x,b)=([],5))\/
  (dO x/\ (0<=b.1/\ b.1<=65536/\ 0<=b.2/\ b.2<=65536)/\ Ay (x,b)=(x.2.1.map (JU fun p=>nY (p,b)),0))):=by
 unfold xk Ay
 dsimp only [aA,ai]
 by_cases h:dO x
 ·have hf:=(nr x).2.2 h
  have hl:x.2.1.length<1099511627776:=by have:=h.len;have:=h.same;omega
  rw [hf,if_neg (by decide)]
  refine ⟨⟨(nr x).1,fun _ _ _=>(E4 _ _ hl).1⟩,.inr ?_⟩
  have g1:=lG b.1 b.2
  have g2:=gJ b.1 b.2
  by_cases h1:bG b.1 b.2<0
  ·rw [if_pos h1];exact .inl ⟨h,by omega,rfl⟩
  ·rw [if_neg h1]
   by_cases h2:bp b.1 b.2>65536
   ·rw [if_pos h2];exact .inl ⟨h,by omega,rfl⟩
   ·rw [if_neg h2,(E4 _ _ hl).2];exact .inr ⟨h,by omega,rfl⟩
 ·have hf:QM x=false:=by rw [Bool.eq_false_iff];exact fun q=>h ((nr x).2.1 q)
  rw [hf]
  exact ⟨⟨(nr x).1,fun q=>absurd rfl q⟩,.inl ⟨h,rfl⟩⟩
end Go.Proofs.YtbjfokijjefoeaaGreat
namespace Go.Proofs.YtbjfokijjefoeaaGreat
open Go Go.Ev Go.Proofs
theorem C4 {p a b:P2} (n:Int) (hp:Sm p) (ha:Sm a) (hb:Sm b):KO (p,a,b,sg n)=sg n*sg (CC a b p):=by
 unfold KO
 rw [Mg,if_pos ⟨ha,hb,hp⟩]
 dsimp only [ai]
 rcases BP n with ⟨_,e⟩|⟨_,e⟩|⟨_,e⟩<;>rcases BP (CC a b p) with ⟨_,f⟩|⟨_,f⟩|⟨_,f⟩<;>rw [e,f]<;>rfl
def CB (m:P2->Int) (k:Int) (l:List P2):Bool:=l.all fun p=>decide (m p<k)
theorem F8 (c k:Int) (l:List P2) (hl:l.length<4611686018427387904) (m:P2->Int) (step:Int×(Bool×Int)->(Int×Bool×Int)⊕(Int×Bool)) (hT:Term step (fun _=>True) (c,true,0))
  (h1: ∀(i:Nat) (p:P2),l[i]? =some p->step (c,true,(i:Int))= .inl (c,decide (m p<k),az ((i:Int)+1)))
  (h2: ∀(i:Nat) (p:P2),l[i]? =some p->step (c,false,(i:Int))= .inl (c,false,az ((i:Int)+1)))
  (h3: ∀b,step (c,b,(l.length:Int))= .inr (c,b)):run step (c,true,0)=(c,CB m k l):=by
 obtain ⟨_,h⟩:=dr (step:=step) (pre:=fun _=>True) (fun s=> ∃i:Nat,s=(c,CB m k (l.take i),(i:Int))/\ i<=l.length) (fun s=>l.length- s.2.2.toNat) (fun r=>r=(c,CB m k l)) (fun s ⟨i,e,hi⟩=>by
  subst e
  refine ⟨trivial,?_⟩
  rcases Nat.lt_or_ge i l.length with hlt|hge
  ·have hg:=List.getElem?_eq_getElem hlt
   have hs:step (c,CB m k (l.take i),(i:Int))= .inl (c,CB m k (l.take (i+1)),az ((i:Int)+1)):=by
    rw [List.take_succ_eq_append_getElem hlt]
    have e:CB m k (l.take i++ [l[i]])=(CB m k (l.take i)&&decide (m l[i]<k)):=by unfold CB;rw [List.all_append,List.all_cons,List.all_nil,Bool.and_true]
    rw [e]
    cases CB m k (l.take i) with
    |true=>rw [h1 i _ hg];rfl
    |false=>rw [h2 i _ hg];rfl
   refine ⟨fun s' q=> ?_,fun r q=> ?_⟩
   ·rw [hs] at q
    cases q
    rw [cnt hlt hl]
    exact ⟨⟨i+1,rfl,hlt⟩,by simp only [Int.toNat_natCast];omega⟩
   ·rw [hs] at q;cases q
  ·have:i=l.length:=by omega
   subst this
   rw [h3,List.take_length]
   exact ⟨fun s' q=>(by cases q),fun r q=>by cases q;rfl⟩) (c,true,0) ⟨0,rfl,Nat.zero_le _⟩
 exact h
theorem Ds {S R:Type} {step:S->S⊕R} {pre:S->Prop} {s:S} (h:Term step pre s):Term step (fun _=>True) s:=by
 induction h with
 |mk s _ _ ih=>exact .mk s trivial ih
theorem He {a b c:P2} (hr:Right a b c) (k:Int) (l:List P2) (hs: ∀p∈l,Sm p) (hl:l.length<4611686018427387904):
  C2 ((a,b,c),k,l)=(CB (Sd a b c) k l||CB (Sd b c a) k l||CB (Sd c a b) k l):=by
 have hT:=Af ((a,b,c),k,l) hl (sg (CC a b c))
 have e1:run (cm ((a,b,c),k,l)) (sg (CC a b c),true,0)=(sg (CC a b c),CB (Sd a b c) k l):=by
  refine F8 _ k l hl _ _ (Ds hT.1) (fun i p hp=> ?_) (fun i p hp=> ?_) (fun q=> ?_)
  ·have hlt:=cD hp
   unfold cm
   dsimp only [ai]
   rw [if_pos (by omega),if_pos rfl,Int.toNat_natCast,iM hp,C4 _ (hs p (List.mem_of_getElem? hp)) hr.1.1 hr.1.2.1];rfl
  ·have hlt:=cD hp
   unfold cm
   dsimp only [ai]
   rw [if_pos (by omega),if_neg (by decide)]
  ·unfold cm
   dsimp only
   rw [if_neg (by omega)]
 have e2:run (cn ((a,b,c),k,l)) (sg (CC a b c),true,0)=(sg (CC a b c),CB (Sd b c a) k l):=by
  refine F8 _ k l hl _ _ (Ds hT.2.1) (fun i p hp=> ?_) (fun i p hp=> ?_) (fun q=> ?_)
  ·have hlt:=cD hp
   unfold cn
   dsimp only [ai]
   rw [if_pos (by omega),if_pos rfl,Int.toNat_natCast,iM hp,C4 _ (hs p (List.mem_of_getElem? hp)) hr.1.2.1 hr.1.2.2]
   unfold Sd;rw [sn a b c]
  ·have hlt:=cD hp
   unfold cn
   dsimp only [ai]
   rw [if_pos (by omega),if_neg (by decide)]
  ·unfold cn
   dsimp only
   rw [if_neg (by omega)]
 have e3:run (cA ((a,b,c),k,l)) (sg (CC a b c),true,0)=(sg (CC a b c),CB (Sd c a b) k l):=by
  refine F8 _ k l hl _ _ (Ds hT.2.2) (fun i p hp=> ?_) (fun i p hp=> ?_) (fun q=> ?_)
  ·have hlt:=cD hp
   unfold cA
   dsimp only [ai]
   rw [if_pos (by omega),if_pos rfl,Int.toNat_natCast,iM hp,C4 _ (hs p (List.mem_of_getElem? hp)) hr.1.2.2 hr.1.1]
   unfold Sd;rw [sn b c a,sn a b c]
  ·have hlt:=cD hp
   unfold cA
   dsimp only [ai]
   rw [if_pos (by omega),if_neg (by decide)]
  ·unfold cA
   dsimp only
   rw [if_neg (by omega)]
 unfold C2
 dsimp only [ai]
 rw [Mg,if_pos hr.1]
 dsimp only
 rw [e1]
 dsimp only
 rw [e2]
 dsimp only
 rw [e3]
 dsimp only
 generalize CB (Sd a b c) k l=x
 generalize CB (Sd b c a) k l=y
 generalize CB (Sd c a b) k l=z
 cases x<;>cases y<;>cases z<;>rfl
def Jo (a b c:P2) (k:Int) (l:List P2):Bool:=CB (Sd a b c) k l||CB (Sd b c a) k l||CB (Sd c a b) k l
abbrev Rt (t:T2):Prop:=Right t.1 t.2.1 t.2.2
def Ov (t u:T2):Bool:= !Jo t.1 t.2.1 t.2.2 1 (tp u)&& !Jo u.1 u.2.1 u.2.2 1 (tp t)
theorem U2 {t:T2} (h:Rt t): ∀p∈tp t,Sm p:=fun p hp=>by
 simp only [tp,List.mem_cons,List.not_mem_nil,or_false] at hp
 rcases hp with rfl|rfl|rfl
 ·exact h.1.1
 ·exact h.1.2.1
 ·exact h.1.2.2
theorem M6 (t u:T2):fR (t,u)=if Rt t/\ Rt u then (Ov t u,0) else (false,1):=by
 obtain ⟨a,b,c⟩:=t
 obtain ⟨d,e,f⟩:=u
 unfold fR Ze
 dsimp only [ai]
 rw [tJ,tJ]
 by_cases ht:Rt (a,b,c)
 ·by_cases hu:Rt (d,e,f)
  ·have e1:=He ht 1 (tp (d,e,f)) (U2 hu) (by simp [tp])
   have e2:=He hu 1 (tp (a,b,c)) (U2 ht) (by simp [tp])
   dsimp only [tp] at e1 e2
   rw [decide_eq_true ht,decide_eq_true hu,if_neg (by decide),if_neg (by decide),if_pos (show Rt (a,b,c)/\ Rt (d,e,f) from ⟨ht,hu⟩),e1,e2]
   unfold Ov
   show (if (!Jo a b c 1 [d,e,f])=true then (!Jo d e f 1 [a,b,c],(0:Int)) else (false,0))=(!Jo a b c 1 [d,e,f]&& !Jo d e f 1 [a,b,c],0)
   cases Jo a b c 1 [d,e,f]<;>rfl
  ·rw [decide_eq_true ht,decide_eq_false hu,if_neg (by decide),if_pos (by decide),if_neg (fun q=>hu q.2)]
 ·rw [decide_eq_false ht,if_pos (by decide),if_neg (fun q=>ht q.1)]
end Go.Proofs.YtbjfokijjefoeaaGreat
namespace Go.Proofs.YtbjfokijjefoeaaGreat
open Go Go.Ev Go.Proofs
theorem Fw {p q:Prop} [Decidable p] [Decidable q] {b:Bool} (h:b=decide q):(if p then b else false)=decide (p/\ q):=by
 subst h
 by_cases hp:p<;>simp [hp]
theorem Ia (n:Int):H9 n=decide (-1048576<=n/\ n<=1048576):=by
 unfold H9;exact Fw rfl
theorem xS (p:P2):H8 p=decide (N0 p):=by
 unfold H8
 dsimp only [ai]
 rw [Ia,Ia,Bool.eq_iff_iff]
 simp
theorem Ic {a b:P2} (ha:Sm a) (hb:Sm b):Ib (a,b)=(a.1- b.1,a.2- b.2):=by
 unfold Ib
 dsimp only [ai]
 rw [xS,xS,decide_eq_true (show N0 a from ⟨by omega,by omega⟩),decide_eq_true (show N0 b from ⟨by omega,by omega⟩),if_neg (by decide),if_neg (by decide),aR (by omega) (by omega),aR (by omega) (by omega)]
theorem NF {a b c:P2} (ha:Sm a) (hb:Sm b) (hc:Sm c):BB ((b.1- a.1,b.2- a.2),c.1- a.1,c.2- a.2)=(CC a b c,0):=by
 unfold BB
 dsimp only [ai]
 rw [xS,xS,decide_eq_true (show N0 (b.1- a.1,b.2- a.2) from ⟨by dsimp only;omega,by dsimp only;omega⟩),decide_eq_true (show N0 (c.1- a.1,c.2- a.2) from ⟨by dsimp only;omega,by dsimp only;omega⟩),if_neg (by decide),if_neg (by decide)]
 have m1:=Wk (a:=b.1- a.1) (b:=c.2- a.2) (A:=8192) (B:=8192) (by omega) (by omega) (by omega) (by omega)
 have m2:=Wk (a:=b.2- a.2) (b:=c.1- a.1) (A:=8192) (B:=8192) (by omega) (by omega) (by omega) (by omega)
 rw [aR (n:=(b.1- a.1)*(c.2- a.2)) (by omega) (by omega),aR (n:=(b.2- a.2)*(c.1- a.1)) (by omega) (by omega),aR (by omega) (by omega)]
 rfl
theorem pC (p:P2):jo p=decide (Sm p):=by
 unfold jo
 rw [Fw (p:=p.2>= -4096) rfl,Fw (p:=p.1<=4096) rfl,Fw (p:=p.1>= -4096) rfl,Bool.eq_iff_iff,decide_eq_true_iff,decide_eq_true_iff]
 omega
theorem aaG {α:Type} {p q r:Prop} [Decidable p] [Decidable q] [Decidable r] {A B:α} :(if (!decide p)=true then A else if (!decide q)=true then A else if (!decide r)=true then A else B)=if p/\ q/\ r then B else A:=by
 by_cases hp:p<;>by_cases hq:q<;>by_cases hr:r<;>simp [hp,hq,hr]
theorem Ig (a b c:P2):Ie (a,b,c)=if Sm a/\ Sm b/\ Sm c then (CC a b c,0) else (0,5):=by
 unfold Ie
 dsimp only [ai]
 rw [pC,pC,pC,aaG]
 by_cases h:Sm a/\ Sm b/\ Sm c
 ·rw [if_pos h,if_pos h,Ic h.2.1 h.1,Ic h.2.2 h.1,NF h.1 h.2.1 h.2.2]
 ·rw [if_neg h,if_neg h]
theorem W8 (n:Int):ZY n=sg n:=rfl
theorem Ih (a b c:P2):l5 (a,b,c)=if Sm a/\ Sm b/\ Sm c then (sg (CC a b c),0) else (0,5):=by
 unfold l5
 dsimp only [ai]
 rw [Ig,W8]
 by_cases h:Sm a/\ Sm b/\ Sm c
 ·rw [if_pos h,if_pos h]
 ·rw [if_neg h,if_neg h];rfl
theorem tP (a b c:P2):jg (a,b,c)=decide (Right a b c):=by
 rw [<- tJ a b c]
 unfold jg mright
 dsimp only [ai]
 rw [Ig,(kR a b c).2]
theorem IB (t:T2) (p:P2):gM (t,0,p)/\ gM (t,1,p)/\ gM (t,2,p):=by
 unfold gM
 dsimp only [aA]
 refine ⟨⟨by decide,by decide,by decide,by decide,by decide,by decide,by decide,by decide,by decide,by decide⟩,⟨by decide,by decide,by decide,by decide,by decide,by decide,by decide,by decide,by decide,by decide⟩,⟨by decide,by decide,by decide,by decide,by decide,by decide,by decide,by decide,by decide,by decide⟩⟩
theorem Dm (t:T2) (p:P2) (ht:Rt t) (hp:Sm p):lN (t,0,p)=Sd t.1 t.2.1 t.2.2 p/\ lN (t,1,p)=Sd t.2.1 t.2.2 t.1 p/\ lN (t,2,p)=Sd t.2.2 t.1 t.2.1 p:=by
 have key: ∀a b c:P2,Right a b c->az ((l5 (a,b,c)).1*(l5 (a,b,p)).1)=Sd a b c p:=fun a b c h=>by
  rw [Ih,if_pos h.1,Ih,if_pos ⟨h.1.1,h.1.2.1,hp⟩]
  dsimp only
  have:=agS a b c p
  unfold Sd at this ⊢
  rw [aR (by omega) (by omega)]
 have e0:lN (t,0,p)=az ((l5 (t.1,t.2.1,t.2.2)).1*(l5 (t.1,t.2.1,p)).1):=by kernel_rfl
 have e1:lN (t,1,p)=az ((l5 (t.2.1,t.2.2,t.1)).1*(l5 (t.2.1,t.2.2,p)).1):=by kernel_rfl
 have e2:lN (t,2,p)=az ((l5 (t.2.2,t.1,t.2.1)).1*(l5 (t.2.2,t.1,p)).1):=by kernel_rfl
 have r1:Right t.2.1 t.2.2 t.1:=⟨⟨ht.1.2.1,ht.1.2.2,ht.1.1⟩,by rw [sn t.1];exact ht.2⟩
 have r2:Right t.2.2 t.1 t.2.1:=⟨⟨ht.1.2.2,ht.1.1,ht.1.2.1⟩,by rw [sn t.2.1,sn t.1];exact ht.2⟩
 exact ⟨e0.trans (key _ _ _ ht),e1.trans (key _ _ _ r1),e2.trans (key _ _ _ r2)⟩
theorem tu (t:T2) (e:Int) (l:List P2) (m:P2->Int) (hl:l.length<4611686018427387904) (hp: ∀p,gM (t,e,p)) (hm: ∀p∈l,lN (t,e,p)=m p):
  cH (t,e,l)/\ (cu (t,e,l)<=0↔CB m 1 l=true):=by
 obtain ⟨h1,h2⟩:=dr (step:=fG (t,e,l)) (pre:=kC (t,e,l)) (fun s=> ∃(g:Int) (i:Nat),s=(g,(i:Int))/\ i<=l.length/\ (g<=0↔CB m 1 (l.take i)=true)) (fun s=>l.length- s.2.toNat)
  (fun r=>r<=0↔CB m 1 l=true) (fun s ⟨g,i,e',hi,hg⟩=>by
   subst e'
   unfold fG kC
   dsimp only [ai]
   simp only [Int.toNat_natCast]
   refine ⟨fun q=>⟨by omega,by omega,by omega,hp _⟩,?_⟩
   by_cases hlt:i<l.length
   ·rw [if_pos (by omega)]
    refine ⟨fun s' q=> ?_,fun r q=>(by cases q)⟩
    cases q
    rw [cnt hlt hl]
    refine ⟨⟨_,i+1,rfl,hlt,?_⟩,by simp only [Int.toNat_natCast];omega⟩
    have hg2:l.getD i (0,0)=l[i]:=by rw [List.getD_eq_getElem?_getD,List.getElem?_eq_getElem hlt];rfl
    rw [hg2,hm _ (List.getElem_mem hlt),List.take_succ_eq_append_getElem hlt]
    have e2:CB m 1 (l.take i++ [l[i]])=(CB m 1 (l.take i)&&decide (m l[i]<1)):=by unfold CB;rw [List.all_append,List.all_cons,List.all_nil,Bool.and_true]
    rw [e2,Bool.and_eq_true,<- hg,decide_eq_true_iff]
    have:=gJ g (m l[i])
    omega
   ·rw [if_neg (by omega)]
    refine ⟨fun s' q=>(by cases q),fun r q=> ?_⟩
    cases q
    have:i=l.length:=by omega
    subst this
    rwa [List.take_length] at hg) (-1,0) ⟨-1,0,rfl,Nat.zero_le _,by constructor<;>intro _<;>first|rfl|decide⟩
 exact ⟨h1,h2⟩
theorem Hu {t:T2} (ht:Rt t) (l:List P2) (hs: ∀p∈l,Sm p) (hl:l.length<4611686018427387904):jP (t,l,true)/\ kN (t,l,true)=Jo t.1 t.2.1 t.2.2 1 l:=by
 obtain ⟨p0,g0⟩:=tu t 0 l (Sd t.1 t.2.1 t.2.2) hl (fun p=>(IB t p).1) fun p hp=>(Dm t p ht (hs p hp)).1
 obtain ⟨p1,g1⟩:=tu t 1 l (Sd t.2.1 t.2.2 t.1) hl (fun p=>(IB t p).2.1) fun p hp=>(Dm t p ht (hs p hp)).2.1
 obtain ⟨p2,g2⟩:=tu t 2 l (Sd t.2.2 t.1 t.2.1) hl (fun p=>(IB t p).2.2) fun p hp=>(Dm t p ht (hs p hp)).2.2
 have two: ∀ {α:Type} (n:Int) (A B:α),(if n<0 then A else if (n==0)=true then A else B)=if n<=0 then A else B:=fun n A B=>by
  by_cases h1:n<0
  ·rw [if_pos h1,if_pos (by omega)]
  ·by_cases h2:n=0
   ·rw [if_neg h1,if_pos (by simpa using h2),if_pos (by omega)]
   ·rw [if_neg h1,if_neg (by simpa using h2),if_neg (by omega)]
 unfold jP kN Jo
 dsimp only [aA,ai]
 rw [if_pos rfl,if_pos rfl,if_pos rfl,two,two,two]
 refine ⟨⟨p0,fun _=>⟨fun _ _=>⟨p1,fun _=>⟨fun _ _=>p2,fun q=>absurd rfl q⟩⟩,fun q=>absurd rfl q⟩⟩,?_⟩
 generalize cu (t,0,l)=n0 at*
 generalize cu (t,1,l)=n1 at*
 generalize cu (t,2,l)=n2 at*
 by_cases h0:n0<=0
 ·rw [if_pos h0,g0.1 h0];rfl
 ·rw [if_neg h0,Bool.eq_false_iff.2 fun q=>h0 (g0.2 q)]
  by_cases h1:n1<=0
  ·rw [if_pos h1,g1.1 h1];rfl
  ·rw [if_neg h1,Bool.eq_false_iff.2 fun q=>h1 (g1.2 q)]
   by_cases h2:n2<=0
   ·rw [if_pos h2,g2.1 h2];rfl
   ·rw [if_neg h2,Bool.eq_false_iff.2 fun q=>h2 (g2.2 q)];rfl
theorem wo (t u:T2):lM (t,u)/\ tO (t,u)=fR (t,u):=by
 rw [M6]
 unfold lM tO
 dsimp only [ai,aA]
 rw [show jg t=decide (Rt t) from tP t.1 t.2.1 t.2.2,show jg u=decide (Rt u) from tP u.1 u.2.1 u.2.2]
 by_cases ht:Rt t
 ·by_cases hu:Rt u
  ·have h1:=Hu ht (tp u) (U2 hu) (by simp [tp])
   have h2:=Hu hu (tp t) (U2 ht) (by simp [tp])
   rw [decide_eq_true ht,decide_eq_true hu,if_neg (by decide),if_neg (by decide),if_pos (show Rt t/\ Rt u from ⟨ht,hu⟩)]
   refine ⟨fun _ _=>⟨h1.1,fun _=>h2.1⟩,?_⟩
   show (if (!kN (t,tp u,true))=true then (!kN (u,tp t,true),(0:Int)) else (false,0))=_
   rw [h1.2,h2.2]
   unfold Ov
   cases Jo t.1 t.2.1 t.2.2 1 (tp u)<;>rfl
  ·rw [decide_eq_true ht,decide_eq_false hu,if_neg (by decide),if_pos (by decide),if_neg (fun q=>hu q.2)]
   exact ⟨fun _ q=>absurd rfl q,rfl⟩
 ·rw [decide_eq_false ht,if_pos (by decide),if_neg (fun q=>ht q.1)]
  exact ⟨fun q=>absurd rfl q,rfl⟩
end Go.Proofs.YtbjfokijjefoeaaGreat
namespace Go.Proofs.YtbjfokijjefoeaaGreat
open Go Go.Ev Go.Proofs
theorem D9 (n:Int):xJ n=Ko n:=rfl
def TG (l:List T2) (r:Unit⊕(Int×Int×Int×Int)):Prop:=(r= .inl ()/\ ∃p∈pts l,¬Sm p)\/ (∃a b c d,r= .inr (a,b,c,d)/\ (∀p∈pts l,Sm p)/\ FW (pts l) (a,b) (c,d))
theorem Pq (l:List T2) (hl:l.length<4611686018427387904) (h0:l≠ []):
  Term (fU l) (nA l) ((l.getD 0 zT).1.1,(l.getD 0 zT).1.2,(l.getD 0 zT).1.1,(l.getD 0 zT).1.2,(0:Int))/\
  TG l (run (fU l) ((l.getD 0 zT).1.1,(l.getD 0 zT).1.2,(l.getD 0 zT).1.1,(l.getD 0 zT).1.2,(0:Int))):=by
 have hlen:0<l.length:=List.length_pos_iff.2 h0
 have hm0:(l.getD 0 zT).1∈pts l:=o8 hlen (by simp [tp])
 refine dr (step:=fU l) (pre:=nA l) (fun s=> ∃(a b c d:Int) (i:Nat),s=(a,b,c,d,(i:Int))/\ i<=l.length/\ XL l i a b c d)
  (fun s=>l.length- s.2.2.2.2.toNat) (TG l) (fun s hs=> ?_) _ ⟨_,_,_,_,0,rfl,Nat.zero_le _,⟨fun p hp=>(by simp [pts] at hp),fun p hp=>(by simp [pts] at hp),fun p hp=>(by simp [pts] at hp),⟨_,hm0,rfl⟩,⟨_,hm0,rfl⟩,⟨_,hm0,rfl⟩,⟨_,hm0,rfl⟩⟩⟩
 obtain ⟨a,b,c,d,i,rfl,hi,hB⟩:=hs
 unfold fU nA
 dsimp only [ai,aA]
 simp only [Int.toNat_natCast,pC]
 refine ⟨fun h=>⟨⟨by omega,h⟩,by omega,by omega,by omega,fun _=>⟨⟨by omega,h⟩,by omega,by omega,by omega,fun _=>⟨⟨by omega,h⟩,by omega,by omega,by omega⟩⟩⟩,fun s' h=> ?_,fun r h=> ?_⟩
 ·split at h
  ·rename_i hlt
   have hlt:i<l.length:=by omega
   split at h
   ·cases h
   ·rename_i s1
    split at h
    ·cases h
    ·rename_i s2
     split at h
     ·cases h
     ·rename_i s3
      cases h
      rw [cnt hlt hl]
      exact ⟨⟨_,_,_,_,i+1,rfl,hlt,hB.step hlt (ya s1) (ya s2) (ya s3)⟩,by simp only [Int.toNat_natCast];omega⟩
  ·cases h
 ·split at h
  ·rename_i hlt
   have hlt:i<l.length:=by omega
   split at h
   ·rename_i s1
    cases h
    exact .inl ⟨rfl,_,o8 hlt (p:=(l.getD i zT).1) (by simp [tp]),xD s1⟩
   ·split at h
    ·rename_i s2
     cases h
     exact .inl ⟨rfl,_,o8 hlt (p:=(l.getD i zT).2.1) (by simp [tp]),xD s2⟩
    ·split at h
     ·rename_i s3
      cases h
      exact .inl ⟨rfl,_,o8 hlt (p:=(l.getD i zT).2.2) (by simp [tp]),xD s3⟩
     ·cases h
  ·rename_i hlt
   cases h
   have:i=l.length:=by omega
   subst this
   have e:l.take l.length=l:=List.take_length
   exact .inr ⟨a,b,c,d,rfl,fun p hp=>hB.sm p (by rw [e];exact hp),fun p hp=>hB.low p (by rw [e];exact hp),fun p hp=>hB.high p (by rw [e];exact hp),hB.l1,hB.l2,hB.h1,hB.h2⟩
theorem So (l:List T2) (hl:l.length<4611686018427387904):tT l/\ HA l=gG l:=by
 have hf:=(vH l hl).2
 unfold tT HA
 cases l with
 |nil=>exact ⟨fun h=>absurd rfl h,by rcases hf with ⟨_,e⟩|⟨⟨p,hp,_⟩,_⟩|⟨h,_⟩<;>first|(rw [e];rfl)|(simp [pts] at hp)|exact absurd rfl h⟩
 |cons x r=>
  have hlen:0<(x::r).length:=by simp
  have hne: ¬((((x::r).length:Int)==(0:Int))=true):=by simp only [beq_iff_eq];omega
  obtain ⟨h1,h2⟩:=Pq (x::r) hl (by simp)
  refine ⟨fun _=>⟨by omega,hlen,hlen,hlen,by omega,hlen,hlen,hlen,h1⟩,?_⟩
  rw [if_neg hne]
  dsimp only [ai]
  rcases h2 with ⟨e,p,hp,hn⟩|⟨a,b,c,d,e,hs,hB⟩
  ·rw [e]
   rcases hf with ⟨h,_⟩|⟨_,e2⟩|⟨_,hs,_⟩
   ·cases h
   ·rw [e2];rfl
   ·exact absurd (hs p hp) hn
  ·rw [e]
   rcases hf with ⟨h,_⟩|⟨⟨p,hp,hn⟩,_⟩|⟨_,_,lo,hi,hB2,e2⟩
   ·cases h
   ·exact absurd (hs p hp) hn
   ·rw [e2]
    obtain ⟨rfl,rfl⟩:=hB.uniq hB2
    rfl
theorem Xb (l:List T2) (hl:l.length<4611686018427387904) (i:Nat) (hi:i<l.length):
  Term (dZ l) (j8 l) ((i:Int),(0:Int))/\ TE l i (l.getD i zT) (run (dZ l) ((i:Int),(0:Int))):=by
 refine dr (step:=dZ l) (pre:=j8 l) (fun s=> ∃k:Nat,s=((i:Int),(k:Int))/\ k<=i/\ ∀j,j<k->Ac (l.getD i zT) (l.getD j zT)=true)
  (fun s=>i- s.2.toNat) (TE l i (l.getD i zT)) (fun s hs=> ?_) _ ⟨0,rfl,Nat.zero_le _,fun j h=>absurd h (Nat.not_lt_zero _)⟩
 obtain ⟨k,rfl,hk,hf⟩:=hs
 unfold dZ j8
 dsimp only [ai]
 simp only [Int.toNat_natCast]
 have e:=(wo (l.getD i zT) (l.getD k zT)).2
 refine ⟨fun h=>⟨⟨by omega,by omega⟩,by omega,by omega,⟨by omega,by omega⟩,by omega,by omega,(wo _ _).1⟩,?_⟩
 simp only [e]
 by_cases hlt:k<i
 ·rw [if_pos (by omega)]
  by_cases hF:Ac (l.getD i zT) (l.getD k zT)=true
  ·obtain ⟨g1,g2⟩:=(AB _ _).1 hF
   simp only [g1,g2]
   rw [if_neg (by decide),if_neg (by decide),cnt (n:=l.length) (by omega) hl]
   refine ⟨fun s' q=> ?_,fun r q=>(by cases q)⟩
   cases q
   refine ⟨⟨k+1,rfl,hlt,fun j hj=> ?_⟩,by simp only [Int.toNat_natCast];omega⟩
   rcases Nat.lt_or_ge j k with h1|h1
   ·exact hf j h1
   ·have:j=k:=by omega
    subst this;exact hF
  ·have hF':Ac (l.getD i zT) (l.getD k zT)=false:=by simpa using hF
   have: ∀ {α:Type} (A B:α),(if (((fR (l.getD i zT,l.getD k zT)).2 !=0)=true) then A else if ((fR (l.getD i zT,l.getD k zT)).1=true) then A else B)=A:=fun A B=>by
    by_cases h2:(fR (l.getD i zT,l.getD k zT)).2=0
    ·by_cases h1:(fR (l.getD i zT,l.getD k zT)).1=true
     ·rw [if_neg (by simpa using h2),if_pos h1]
     ·exact absurd ((AB _ _).2 ⟨by simpa using h1,h2⟩) hF
    ·rw [if_pos (by simpa using h2)]
   rw [this]
   exact ⟨fun s' q=>(by cases q),fun r q=>by cases q;exact .inl ⟨rfl,k,hlt,hF'⟩⟩
 ·rw [if_neg (by omega)]
  refine ⟨fun s' q=>(by cases q),fun r q=> ?_⟩
  cases q
  have:k=i:=by omega
  subst this
  exact .inr ⟨rfl,hf⟩
theorem No (l:List T2) (hl:l.length<4611686018427387904):tS l/\ Hz l=CS l:=by
 have hF:=(zk l hl).2
 obtain ⟨h1,h2⟩:=dr (step:=jz l) (pre:=oG l) (fun s=> ∃i:Nat,s=i/\ i<=l.length/\ ∀j k,j<i->k<j->Ac (l.getD j zT) (l.getD k zT)=true) (fun s=>l.length- s.toNat)
  (fun r=>Sum.elim (fun _=>false) (fun _=>true) r=true↔ ∀i k,i<l.length->k<i->Ac (l.getD i zT) (l.getD k zT)=true) (fun s ⟨i,e,hi,hf⟩=>by
   subst e
   unfold jz oG
   dsimp only [ai]
   by_cases hlt:i<l.length
   ·obtain ⟨t,o⟩:=Xb l hl i hlt
    rw [if_pos (by omega)]
    refine ⟨fun _=>t,?_⟩
    rcases o with ⟨g1,k,hk,hb⟩|⟨g1,g2⟩
    ·rw [g1]
     refine ⟨fun s' q=>(by cases q),fun r q=> ?_⟩
     cases q
     exact ⟨fun q=>(by cases q),fun q=>by rw [q i k hlt hk] at hb;cases hb⟩
    ·rw [g1]
     refine ⟨fun s' q=> ?_,fun r q=>(by cases q)⟩
     cases q
     refine ⟨⟨i+1,by rw [cnt hlt hl],hlt,fun j k hj hk=> ?_⟩,by rw [cnt hlt hl];simp only [Int.toNat_natCast];omega⟩
     rcases Nat.lt_or_ge j i with hji|hji
     ·exact hf j k hji hk
     ·have:j=i:=by omega
      subst this;exact g2 k hk
   ·rw [if_neg (by omega)]
    refine ⟨fun q=>absurd q (by omega),fun s' q=>(by cases q),fun r q=> ?_⟩
    cases q
    have:i=l.length:=by omega
    subst this
    exact ⟨fun _=>hf,fun _=>rfl⟩) 0 ⟨0,rfl,Nat.zero_le _,fun j k h=>absurd h (Nat.not_lt_zero _)⟩
 refine ⟨h1,?_⟩
 rw [Bool.eq_iff_iff,hF]
 exact h2
theorem K9 (x:JW):sI x/\ Bg x=QM x:=by
 have hI:=(nr x).2
 obtain ⟨tr,uv,w,h⟩:=x
 unfold sI Bg
 dsimp only [aA,ai]
 have no: ¬dO (tr,uv,w,h)->QM (tr,uv,w,h)=false:=fun q=>by rw [Bool.eq_false_iff];exact fun z=>q (hI.1 z)
 by_cases h0:(((tr.length:Nat):Int)==0)=true
 ·refine ⟨fun q=>absurd h0 q,?_⟩
  rw [if_pos h0,no]
  intro q
  have h1:tr.length=0:=by simpa using h0
  have h2:=q.same
  have h3:=q.ok
  dsimp only at h2 h3
  have h4:uv= []:=List.length_eq_zero_iff.1 (by omega)
  subst h4
  rcases (vH [] (by simp)).2 with ⟨_,e⟩|⟨⟨p,hp,_⟩,_⟩|⟨g,_⟩
  ·rw [e] at h3;cases h3
  ·simp [pts] at hp
  ·exact g rfl
 rw [if_neg h0]
 by_cases h1:((tr.length:Nat):Int)>500
 ·refine ⟨fun _ q=>absurd h1 q,?_⟩
  rw [if_pos h1,no]
  exact fun q=>absurd q.len (by dsimp only;omega)
 rw [if_neg h1]
 by_cases h2:(((uv.length:Nat):Int) !=((tr.length:Nat):Int))=true
 ·refine ⟨fun _ _ q=>absurd h2 q,?_⟩
  rw [if_pos h2,no]
  intro q
  have:=q.same
  dsimp only at this
  rw [this] at h2;simp at h2
 rw [if_neg h2]
 have hlen:uv.length=tr.length:=by simp only [bne_iff_ne,ne_eq,Decidable.not_not] at h2;omega
 have hl:uv.length<4611686018427387904:=by omega
 have hh:=pW uv hl (fun t=> !decide (Rt t)) (dV (tr,uv,w,h)) (tU (tr,uv,w,h)) (fun i hi=>by
   unfold tU
   intro q
   simp only [Int.toNat_natCast];dsimp only at q ⊢;omega) (fun i t ht=>by
   have hlt:=cD ht
   unfold dV
   dsimp only [ai]
   rw [if_pos (by omega),Int.toNat_natCast,iM ht,show jg t=decide (Rt t) from tP _ _ _]) (by
   unfold dV
   dsimp only
   rw [if_neg (by omega)])
 rw [R5 (P:=Rt) (fun _=>rfl)] at hh
 obtain ⟨hT,hR⟩:=hh
 have hb:=So uv hl
 have ha:=No uv hl
 refine ⟨fun _ _ _=>⟨hT,?_⟩,?_⟩
 ·cases run (dV (tr,uv,w,h)) 0 with
  |inl a=>trivial
  |inr b=>exact ⟨hb.1,fun _ _ _ _ _ _=>ha.1⟩
 cases hr:run (dV (tr,uv,w,h)) 0 with
 |inl a=>
  rw [hr] at hR
  dsimp only [Sum.elim_inl] at hR ⊢
  rw [no]
  intro q
  rw [decide_eq_true (show∀t∈uv,Rt t from q.right)] at hR;cases hR
 |inr b=>
  rw [hr] at hR
  dsimp only [Sum.elim_inr] at hR ⊢
  have hright: ∀t∈uv,Rt t:=of_decide_eq_true hR.symm
  rw [hb.2,ha.2,D9,D9,xn,xn]
  dsimp only
  rw [Bool.eq_iff_iff,hI]
  by_cases h4:((gG uv).2.2 !=0)=true
  ·rw [if_pos h4]
   refine ⟨fun q=>(by cases q),fun q=> ?_⟩
   have:=q.ok
   dsimp only at this
   rw [this] at h4;exact absurd h4 (by decide)
  rw [if_neg h4]
  have h4:(gG uv).2.2=0:=by simpa using h4
  have he:(((gG uv).1.1==0)&&(((gG uv).1.2==0)&&true))=true↔(gG uv).1=z2:=by
   generalize (gG uv).1=p
   obtain ⟨a,b⟩:=p
   simp
  by_cases h5:(gG uv).1=z2
  ·have hhi:(gG uv).2.1.1≤4096∧(gG uv).2.1.2≤4096:=by
    rcases (vH uv hl).2 with ⟨_,e⟩|⟨_,e⟩|⟨_,hs,lo,hi,hB,e⟩
    ·rw [e];decide
    ·rw [e];decide
    ·rw [e]
     obtain ⟨p,hp,e1⟩:=hB.h1
     obtain ⟨q,hq,e2⟩:=hB.h2
     have s1:=hs p hp
     have s2:=hs q hq
     dsimp only;omega
   rw [he.2 h5,if_neg (by decide),if_neg (by omega),if_neg (by omega)]
   by_cases h6:w=Sz (gG uv).2.1.1
   ·rw [if_pos (by rw [h6];simp)]
    by_cases h7:h=Sz (gG uv).2.1.2
    ·rw [if_pos (by rw [h7];simp)]
     exact ⟨fun q=>⟨by dsimp only;omega,hlen,hright,h4,h5,h6,h7,q⟩,fun q=>q.free⟩
    ·rw [if_neg (by simpa using h7)]
     exact ⟨fun q=>(by cases q),fun q=>absurd q.h h7⟩
   ·rw [if_neg (by simpa using h6)]
    exact ⟨fun q=>(by cases q),fun q=>absurd q.w h6⟩
  ·rw [if_pos (by
    rw [Bool.not_eq_true',Bool.eq_false_iff]
    exact fun q=>h5 (he.1 q))]
   exact ⟨fun q=>(by cases q),fun q=>absurd q.zero h5⟩
end Go.Proofs.YtbjfokijjefoeaaGreat
