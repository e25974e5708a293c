/- Tools for plain laws: loops. -/
import Derived.Test.YtbjfokijjefoeaaGreatEvR
import Derived.Test.YtbjfokijjefoeaaGreatFd
import Derived.Test.YtbjfokijjefoeaaGreatFe
noncomputable section
set_option linter.unusedSectionVars false
set_option linter.unusedVariables false
set_option linter.unusedSimpArgs false
namespace Go.Proofs.YtbjfokijjefoeaaGreat
open Go Go.Ev Go.Proofs
theorem Wk {a b A B:Int} (h1: -A<=a) (h2:a<=A) (h3: -B<=b) (h4:b<=B): -(A*B)<=a*b/\ a*b<=A*B:=by
 have e1:=Int.mul_nonneg (show 0<=A- a by omega) (show 0<=B+b by omega)
 have e2:=Int.mul_nonneg (show 0<=A+a by omega) (show 0<=B- b by omega)
 have e3:=Int.mul_nonneg (show 0<=A- a by omega) (show 0<=B- b by omega)
 have e4:=Int.mul_nonneg (show 0<=A+a by omega) (show 0<=B+b by omega)
 constructor<;>grind
theorem aaf {α R:Type} [Inhabited R] (l:List α) (step:Int->Int⊕R) (pre:Int->Prop) (out:List α->R)
  (hp: ∀i:Nat,i<=l.length->pre i)
  (hs: ∀(i:Nat) (x:α),l[i]? =some x->(step i= .inl ((i:Int)+1)/\ out (l.drop i)=out (l.drop (i+1)))\/ step i= .inr (out (l.drop i)))
  (he:step l.length= .inr (out [])):Term step pre 0/\ run step 0=out l:=by
 refine ⟨Term.of (fun s:Int=> ∃i:Nat,s=i/\ i<=l.length) (fun s:Int=>l.length- s.toNat) (fun s ⟨i,e,hi⟩=> ?_) 0 ⟨0,rfl,Nat.zero_le _⟩,?_⟩
 ·subst e
  refine ⟨hp i hi,fun s' h=> ?_⟩
  rcases Nat.lt_or_ge i l.length with hlt|hge
  ·rcases hs i _ (List.getElem?_eq_getElem hlt) with ⟨h1,_⟩|h1
   ·rw [h1] at h
    cases h
    exact ⟨⟨i+1,by omega,hlt⟩,by simp only [Int.toNat_natCast];omega⟩
   ·rw [h1] at h;cases h
  ·have:i=l.length:=by omega
   subst this
   rw [he] at h;cases h
 ·have main: ∀k i:Nat,i+k=l.length→run step i=out (l.drop i):=by
   intro k
   induction k with
   |zero=>
    intro i hi
    have:i=l.length:=by omega
    subst this
    rw [run_eq,he,List.drop_length]
   |succ k ih=>
    intro i hi
    have hlt:i<l.length:=by omega
    rw [run_eq]
    rcases hs i _ (List.getElem?_eq_getElem hlt) with ⟨h1,h2⟩|h1
    ·rw [h1,h2]
     exact ih (i+1) (by omega)
    ·rw [h1]
  simpa using main l.length 0 (by omega)
def Mr {α:Type} (bad:α->Bool) (l:List α):Unit⊕Unit:=if l.any bad=true then .inl () else .inr ()
theorem iM {α:Type} {l:List α} {i:Nat} {x d:α} (h:l[i]? =some x):l.getD i d=x:=by rw [List.getD_eq_getElem?_getD,h];rfl
theorem cD {α:Type} {l:List α} {i:Nat} {x:α} (h:l[i]? =some x):i<l.length:=(List.getElem?_eq_some_iff.1 h).1
theorem abf {α:Type} {l:List α} {i:Nat} {x:α} (h:l[i]? =some x):l.drop i=x::l.drop (i+1):=by
 obtain ⟨h1,h2⟩:=List.getElem?_eq_some_iff.1 h
 rw [List.drop_eq_getElem_cons h1,h2]
theorem pW {α:Type} (l:List α) (hl:l.length<4611686018427387904) (bad:α->Bool) (step:Int->Int⊕(Unit⊕Unit)) (pre:Int->Prop)
  (hp: ∀i:Nat,i<=l.length->pre i)
  (hs: ∀(i:Nat) (x:α),l[i]? =some x->step i=if bad x=true then .inr (.inl ()) else .inl (az ((i:Int)+1)))
  (he:step l.length= .inr (.inr ())):Term step pre 0/\ Sum.elim (fun _=>false) (fun _=>true) (run step 0)= !l.any bad:=by
 obtain ⟨h1,h2⟩:=aaf l step pre (Mr bad) hp (fun i x hx=>by
  have hlt:=cD hx
  rw [hs i x hx,abf hx]
  unfold Mr
  simp only [List.any_cons]
  by_cases hb:bad x=true
  ·exact .inr (by simp [hb])
  ·refine .inl ⟨?_,by simp [hb]⟩
   rw [if_neg hb,aR (by omega) (by omega)]) (by rw [he];simp [Mr])
 refine ⟨h1,?_⟩
 rw [h2]
 unfold Mr
 cases l.any bad<;>rfl
theorem dr {S R:Type} [Inhabited R] {step:S->S⊕R} {pre:S->Prop} (J:S->Prop) (μ:S->Nat) (Post:R->Prop)
  (h: ∀s,J s->pre s/\ (∀s',step s= .inl s'->J s'/\ μ s'<μ s)/\ ∀r,step s= .inr r->Post r) (s:S) (hs:J s):Term step pre s/\ Post (run step s):=by
 refine ⟨Term.of J μ (fun s hs=>⟨(h s hs).1,(h s hs).2.1⟩) s hs,?_⟩
 obtain ⟨n,hn⟩: ∃n,n=μ s:=⟨_,rfl⟩
 induction n using Nat.strongRecOn generalizing s with
 |_ n ih=>
  obtain ⟨_,h2,h3⟩:=h s hs
  rw [run_eq]
  cases e:step s with
  |inl s'=>
   obtain ⟨h4,h5⟩:=h2 s' e
   exact ih (μ s') (by omega) s' h4 rfl
  |inr r=>exact h3 r e
theorem cnt {i n:Nat} (h:i<n) (hn:n<4611686018427387904):az ((i:Int)+1)=((i+1:Nat):Int):=by rw [aR (by omega) (by omega)];omega
theorem tA {α:Type} (l:List α) (hl:l.length<4611686018427387904) (bad:α->Bool) (step:Int->Int⊕(Int⊕Unit)) (pre:Int->Prop)
  (hp: ∀i:Nat,i<=l.length->pre i)
  (hs: ∀(i:Nat) (x:α),l[i]? =some x->step i=if bad x=true then .inr (.inl i) else .inl (az ((i:Int)+1)))
  (he:step l.length= .inr (.inr ())):Term step pre 0/\ Sum.elim (fun a=>a) (fun _=> -1) (run step 0)=match l.findIdx? bad with|some i=>(i:Int)|none=> -1:=by
 have key: ∀i:Nat,i<=l.length->(∀j x,j<i->l[j]? =some x->bad x=false)->True:=fun _ _ _=>trivial
 obtain ⟨h1,h2⟩:=dr (step:=step) (pre:=pre) (fun s=> ∃i:Nat,s=i/\ i<=l.length/\ ∀j x,j<i->l[j]? =some x->bad x=false) (fun s=>l.length- s.toNat)
  (fun r=>Sum.elim (fun a=>a) (fun _=> -1) r=match l.findIdx? bad with|some i=>(i:Int)|none=> -1) (fun s ⟨i,e,hi,hb⟩=>by
   subst e
   refine ⟨hp i hi,fun s' h=> ?_,fun r h=> ?_⟩
   ·rcases Nat.lt_or_ge i l.length with hlt|hge
    ·have hg:=List.getElem?_eq_getElem hlt
     rw [hs i _ hg] at h
     split at h
     ·cases h
     ·rename_i hn
      cases h
      refine ⟨⟨i+1,by rw [aR (by omega) (by omega)];rfl,hlt,fun j x hj hx=> ?_⟩,?_⟩
      ·rcases Nat.lt_or_ge j i with h1|h1
       ·exact hb j x h1 hx
       ·have:j=i:=by omega
        subst this
        rw [hg] at hx;cases hx
        simpa using hn
      ·rw [aR (by omega) (by omega),Int.toNat_natCast,show ((i:Int)+1).toNat=i+1 by omega];omega
    ·have:i=l.length:=by omega
     subst this
     rw [he] at h;cases h
   ·rcases Nat.lt_or_ge i l.length with hlt|hge
    ·have hg:=List.getElem?_eq_getElem hlt
     rw [hs i _ hg] at h
     split at h
     ·rename_i hy
      cases h
      have:l.findIdx? bad=some i:=by
       rw [List.findIdx?_eq_some_iff_getElem]
       refine ⟨hlt,hy,fun j hj=> ?_⟩
       rw [hb j _ hj (List.getElem?_eq_getElem (by omega))];simp
      rw [this];rfl
     ·cases h
    ·have:i=l.length:=by omega
     subst this
     rw [he] at h;cases h
     have:l.findIdx? bad=none:=by
      rw [List.findIdx?_eq_none_iff]
      intro x hx
      obtain ⟨j,hj,rfl⟩:=List.getElem_of_mem hx
      exact hb j _ hj (List.getElem?_eq_getElem hj)
     rw [this];rfl) 0 ⟨0,rfl,Nat.zero_le _,fun j x hj=>absurd hj (Nat.not_lt_zero _)⟩
 exact ⟨h1,h2⟩
theorem Gw {α:Type} (l:List α) (bad:α->Bool):decide ((match l.findIdx? bad with|some i=>(i:Int)|none=> -1)>=0)=l.any bad:=by
 cases h:l.findIdx? bad with
 |none=>
  rw [List.findIdx?_eq_none_iff] at h
  symm
  simp only [List.any_eq_false]
  refine Eq.trans ?_ (by decide:false=decide ((-1:Int)>=0))
  rw [List.any_eq_false]
  exact fun x hx=>by rw [h x hx];simp
 |some i=>
  rw [List.findIdx?_eq_some_iff_getElem] at h
  obtain ⟨h1,h2,_⟩:=h
  have:l.any bad=true:=List.any_eq_true.2 ⟨_,List.getElem_mem h1,h2⟩
  rw [this]
  exact decide_eq_true (by dsimp only;omega)
end Go.Proofs.YtbjfokijjefoeaaGreat
namespace Go.Proofs.YtbjfokijjefoeaaGreat
open Go Go.Ev Go.Proofs
theorem O3 (x:List Int) (hl:x.length<4611686018427387904):Hj x/\ near x= !x.any (fun v=>decide (v< -1048576)||decide (v>1048576)):=by
 refine pW x hl _ _ _ (fun i hi=> ?_) (fun i v hv=> ?_) ?_
 ·unfold D2
  intro h
  simp only [Int.toNat_natCast];omega
 ·have hlt:=cD hv
  unfold o9
  rw [if_pos (by omega),Int.toNat_natCast,iM hv]
  by_cases h1:v< -1048576
  ·simp [h1]
  ·by_cases h2:v>1048576
   ·simp [h1,h2]
   ·simp [h1,h2]
 ·unfold o9
  rw [if_neg (by omega)]
theorem Jk (m:Int) (hm:0<=m) (hm2:m<4611686018427387904) (x:List Int) (hl:x.length<4611686018427387904):z9 (m,x)/\ within (m,x)= !x.any (fun v=>decide (v< -m)||decide (v>m)):=by
 refine pW x hl _ _ _ (fun i hi=> ?_) (fun i v hv=> ?_) ?_
 ·unfold y7
  intro h
  simp only [Int.toNat_natCast];dsimp only at h ⊢;omega
 ·have hlt:=cD hv
  unfold mz
  rw [if_pos (by dsimp only;omega),Int.toNat_natCast]
  dsimp only
  rw [iM hv,aR (n:=0- m) (by omega) (by omega),show 0- m= -m by omega]
  by_cases h1:v< -m
  ·simp [h1]
  ·by_cases h2:v>m
   ·simp [h1,h2]
   ·simp [h1,h2]
 ·unfold mz
  rw [if_neg (by dsimp only;omega)]
abbrev N0 (p:Int×Int):Prop:=(-1048576<=p.1/\ p.1<=1048576)/\ (-1048576<=p.2/\ p.2<=1048576)
abbrev Sm (p:Int×Int):Prop:=(-4096<=p.1/\ p.1<=4096)/\ (-4096<=p.2/\ p.2<=4096)
theorem R5 {α:Type} {l:List α} {bad:α->Bool} {P:α->Prop} [DecidablePred P] (h: ∀x,bad x= !decide (P x)):(!l.any bad)=decide (∀x∈l,P x):=by
 rw [Bool.eq_iff_iff]
 simp [h]
theorem Fu (x:List (Int×Int)) (hl:x.length<4611686018427387904):Fv x/\ is2 x=decide (∀p∈x,N0 p):=by
 have hn: ∀a b:Int,near [a,b]=decide (N0 (a,b)):=fun a b=>by
  rw [(O3 [a,b] (by simp)).2,Bool.eq_iff_iff];simp
 rw [<- R5 (bad:=fun p=> !decide (N0 p)) (fun _=>rfl)]
 refine pW x hl _ _ _ (fun i hi=> ?_) (fun i v hv=> ?_) ?_
 ·unfold GV
  intro h
  simp only [Int.toNat_natCast]
  exact ⟨by omega,by omega,by omega,(O3 _ (by simp)).1⟩
 ·have hlt:=cD hv
  unfold qK
  rw [if_pos (by omega),Int.toNat_natCast,iM hv]
  unfold ai
  rw [hn]
 ·unfold qK
  rw [if_neg (by omega)]
theorem mV (x:List (Int×Int)) (hl:x.length<4611686018427387904):gR x/\ mc x=decide (∀p∈x,Sm p):=by
 have hn: ∀a b:Int,within (4096,[a,b])=decide (Sm (a,b)):=fun a b=>by
  rw [(Jk 4096 (by omega) (by omega) [a,b] (by simp)).2,Bool.eq_iff_iff];simp
 rw [<- R5 (bad:=fun p=> !decide (Sm p)) (fun _=>rfl)]
 refine pW x hl _ _ _ (fun i hi=> ?_) (fun i v hv=> ?_) ?_
 ·unfold yM
  intro h
  simp only [Int.toNat_natCast]
  exact ⟨by omega,by omega,by omega,(Jk 4096 (by omega) (by omega) _ (by simp)).1⟩
 ·have hlt:=cD hv
  unfold me
  rw [if_pos (by omega),Int.toNat_natCast,iM hv]
  unfold ai
  rw [hn]
 ·unfold me
  rw [if_neg (by omega)]
theorem QE {a b:Int×Int} (ha:Sm a) (hb:Sm b):Ts (a,b)=(a.1- b.1,a.2- b.2):=by
 unfold Ts ai
 rw [(Fu [a,b] (by simp)).2,decide_eq_true (by simp only [List.mem_cons,List.not_mem_nil,or_false,forall_eq_or_imp,forall_eq];exact ⟨⟨by omega,by omega⟩,by omega,by omega⟩)]
 simp only [Bool.not_true,Bool.false_eq_true,if_false]
 rw [aR (by omega) (by omega),aR (by omega) (by omega)]
theorem UU (x:(Int×Int)×(Int×Int)):Ct x:=(Fu _ (by simp)).1
def CC (a b c:Int×Int):Int:=(b.1- a.1)*(c.2- a.2)- (b.2- a.2)*(c.1- a.1)
theorem ahy {a b c:Int×Int} (ha:Sm a) (hb:Sm b) (hc:Sm c): -134217728<=CC a b c/\ CC a b c<=134217728:=by
 have m1:=Wk (a:=b.1- a.1) (b:=c.2- a.2) (A:=8192) (B:=8192) (by omega) (by omega) (by omega) (by omega)
 have m2:=Wk (a:=b.2- a.2) (b:=c.1- a.1) (A:=8192) (B:=8192) (by omega) (by omega) (by omega) (by omega)
 unfold CC;omega
theorem Rc {a b c:Int×Int} (ha:Sm a) (hb:Sm b) (hc:Sm c):MD ((b.1- a.1,b.2- a.2),c.1- a.1,c.2- a.2)=(CC a b c,0):=by
 unfold MD ai
 rw [(Fu _ (by simp)).2,decide_eq_true (by simp only [List.mem_cons,List.not_mem_nil,or_false,forall_eq_or_imp,forall_eq];exact ⟨⟨by omega,by omega⟩,by omega,by omega⟩)]
 simp only [Bool.not_true,Bool.false_eq_true,if_false]
 have m1:=Wk (a:=b.1- a.1) (b:=c.2- a.2) (A:=8192) (B:=8192) (by omega) (by omega) (by omega) (by omega)
 have m2:=Wk (a:=b.2- a.2) (b:=c.1- a.1) (A:=8192) (B:=8192) (by omega) (by omega) (by omega) (by omega)
 rw [aR (n:=(b.1- a.1)*(c.2- a.2)) (by omega) (by omega),aR (n:=(b.2- a.2)*(c.1- a.1)) (by omega) (by omega),aR (by omega) (by omega)]
 rfl
theorem NO (a b c:Int×Int):mc [a,b,c]=decide (Sm a/\ Sm b/\ Sm c):=by
 rw [(mV _ (by simp)).2,Bool.eq_iff_iff,decide_eq_true_iff,decide_eq_true_iff]
 simp only [List.mem_cons,List.not_mem_nil,or_false,forall_eq_or_imp,forall_eq]
theorem Tb (a:Int×Int):mc [a]=decide (Sm a):=by
 rw [(mV _ (by simp)).2,Bool.eq_iff_iff,decide_eq_true_iff,decide_eq_true_iff]
 simp only [List.mem_cons,List.not_mem_nil,or_false,forall_eq]
theorem kR (a b c:Int×Int):xX (a,b,c)/\ Ux (a,b,c)=if Sm a/\ Sm b/\ Sm c then (CC a b c,0) else (0,5):=by
 refine ⟨⟨(mV _ (by simp)).1,fun _=>⟨UU _,UU _,(Fu _ (by simp)).1⟩⟩,?_⟩
 show Up (a,b,c)=_
 unfold Up ai
 rw [NO]
 by_cases h:Sm a/\ Sm b/\ Sm c
 ·rw [if_pos h,decide_eq_true h,QE h.2.1 h.1,QE h.2.2 h.1]
  exact Rc h.1 h.2.1 h.2.2
 ·rw [if_neg h,decide_eq_false h]
  rfl
def sg (n:Int):Int:=if n<0 then-1 else if n>0 then 1 else 0
theorem DE (a b:Int):compare (a,b)=sg (a- b):=by
 unfold compare isNaN ai sg
 have h: ∀z:Int,(z !=z)=false:=fun z=>by simp
 simp only [h,Bool.false_eq_true,if_false]
 split<;>(try split)<;>(try split)<;>(try split)<;>(try omega)
theorem Mg (a b c:Int×Int):Mf (a,b,c)=if Sm a/\ Sm b/\ Sm c then (sg (CC a b c),0) else (0,5):=by
 unfold Mf ai
 rw [(kR a b c).2]
 split
 ·simp [DE]
 ·simp [DE,sg]
theorem tJ (a b c:Int×Int):mright (a,b,c)=decide ((Sm a/\ Sm b/\ Sm c)/\ CC a b c≠0):=by
 unfold mright
 rw [(kR a b c).2]
 dsimp only [ai]
 by_cases h:Sm a/\ Sm b/\ Sm c
 ·rw [if_pos h,if_pos (by rfl),Bool.eq_iff_iff,decide_eq_true_iff]
  simp only [bne_iff_ne,ne_eq]
  exact ⟨fun h2=>⟨h,h2⟩,fun h2=>h2.2⟩
 ·rw [if_neg h,decide_eq_false (fun h2=>h h2.1)]
  rfl
theorem sn (a b c:Int×Int):CC b c a=CC a b c:=by unfold CC;grind
theorem BP (n:Int):(n<0/\ sg n= -1)\/ (n=0/\ sg n=0)\/ (0<n/\ sg n=1):=by
 unfold sg
 rcases Int.lt_trichotomy n 0 with h|h|h
 ·exact .inl ⟨h,by rw [if_pos h]⟩
 ·exact .inr (.inl ⟨h,by rw [if_neg (by omega),if_neg (by omega)]⟩)
 ·exact .inr (.inr ⟨h,by rw [if_neg (by omega),if_pos h]⟩)
abbrev Right (a b c:Int×Int):Prop:=(Sm a/\ Sm b/\ Sm c)/\ CC a b c≠0
def Sd (a b c p:Int×Int):Int:=sg (CC a b c)*sg (CC a b p)
theorem agS (a b c p:Int×Int): -1<=Sd a b c p/\ Sd a b c p<=1:=by
 unfold Sd
 rcases BP (CC a b c) with ⟨_,e⟩|⟨_,e⟩|⟨_,e⟩<;>rcases BP (CC a b p) with ⟨_,f⟩|⟨_,f⟩|⟨_,f⟩<;>rw [e,f]<;>omega
end Go.Proofs.YtbjfokijjefoeaaGreat
namespace Go.Proofs.YtbjfokijjefoeaaGreat
open Go Go.Ev Go.Proofs
abbrev P2:Type:=Int×Int
abbrev T2:Type:=P2×(P2×P2)
abbrev z2:P2:=(0,0)
abbrev zT:T2:=(z2,z2,z2)
theorem xD {p:Prop} [Decidable p] (h:(!decide p)=true): ¬p:=by simpa using h
theorem ya {p:Prop} [Decidable p] (h: ¬(!decide p)=true):p:=by simpa using h
theorem Hh (x:P2×(P2×P2×Int)):sE x:=(kR _ _ _).1
theorem Af (x:T2×(Int×List P2)) (hl:x.2.2.length<4611686018427387904) (a:Int):
  Term (cm x) (sA x) (a,true,0)/\ Term (cn x) (sB x) (a,true,0)/\ Term (cA x) (sC x) (a,true,0):=by
 have main: ∀(step:Int×(Bool×Int)->(Int×Bool×Int)⊕(Int×Bool)) (pre:Int×(Bool×Int)->Prop),
   (∀a b (i:Nat),i<=x.2.2.length->pre (a,b,(i:Int)))->(∀a b (i:Nat) s',step (a,b,(i:Int))= .inl s'->i<x.2.2.length/\ ∃a' b',s'=(a',b',az ((i:Int)+1)))->Term step pre (a,true,0):=fun step pre h1 h2=>by
  refine Term.of (fun s=> ∃i:Nat,s.2.2=(i:Int)/\ i<=x.2.2.length) (fun s=>x.2.2.length- s.2.2.toNat) (fun s hs=> ?_) _ ⟨0,rfl,Nat.zero_le _⟩
  obtain ⟨a,b,c⟩:=s
  obtain ⟨i,e,hi⟩:=hs
  dsimp only at e;subst e
  refine ⟨h1 a b i hi,fun s' h=> ?_⟩
  obtain ⟨hlt,a',b',rfl⟩:=h2 a b i s' h
  rw [cnt hlt hl]
  exact ⟨⟨i+1,rfl,hlt⟩,by simp only [Int.toNat_natCast];omega⟩
 refine ⟨main _ _ (fun a b i hi h=> ?_) (fun a b i s' h=> ?_),main _ _ (fun a b i hi h=> ?_) (fun a b i s' h=> ?_),main _ _ (fun a b i hi h=> ?_) (fun a b i s' h=> ?_)⟩
 ·dsimp only at h ⊢
  simp only [Int.toNat_natCast]
  exact ⟨by omega,by omega,by omega,fun _=>Hh _⟩
 ·unfold cm at h
  dsimp only [ai] at h
  split at h
  ·split at h<;>cases h<;>exact ⟨by omega,_,_,rfl⟩
  ·cases h
 ·dsimp only at h ⊢
  simp only [Int.toNat_natCast]
  exact ⟨by omega,by omega,by omega,fun _=>Hh _⟩
 ·unfold cn at h
  dsimp only [ai] at h
  split at h
  ·split at h<;>cases h<;>exact ⟨by omega,_,_,rfl⟩
  ·cases h
 ·dsimp only at h ⊢
  simp only [Int.toNat_natCast]
  exact ⟨by omega,by omega,by omega,fun _=>Hh _⟩
 ·unfold cA at h
  dsimp only [ai] at h
  split at h
  ·split at h<;>cases h<;>exact ⟨by omega,_,_,rfl⟩
  ·cases h
theorem KI (x:T2×(Int×List P2)) (hl:x.2.2.length<4611686018427387904):tH x:=
 ⟨(kR _ _ _).1,(Af x hl _).1,fun _=>⟨(Af x hl _).2.1,fun _=>(Af x hl _).2.2⟩⟩
theorem O2 (x:T2×T2):tI x:=
 ⟨(kR _ _ _).1,fun _=>⟨(kR _ _ _).1,fun _=>⟨KI _ (by simp),fun _=>KI _ (by simp)⟩⟩⟩
def Ac (t u:T2):Bool:= !(fR (t,u)).1&&(fR (t,u)).2==0
theorem AB (t u:T2):Ac t u=true↔(fR (t,u)).1=false/\ (fR (t,u)).2=0:=by
 unfold Ac;simp
def TE (l:List T2) (i:Nat) (t:T2) (r:Unit⊕Int):Prop:=(r= .inl ()/\ ∃k,k<i/\ Ac t (l.getD k zT)=false)\/ (r= .inr (i:Int)/\ ∀k,k<i->Ac t (l.getD k zT)=true)
theorem F2 (l:List T2) (hl:l.length<4611686018427387904) (i:Nat) (hi:i<l.length) (t:T2):
  Term (fM l) (nq l) (t.1.1,t.1.2,t.2.1.1,t.2.1.2,t.2.2.1,t.2.2.2,(i:Int),i,(((min i (l.length- 0):Nat):Int)),(0:Int))/\
  TE l i t
   (run (fM l) (t.1.1,t.1.2,t.2.1.1,t.2.1.2,t.2.2.1,t.2.2.2,(i:Int),i,(((min i (l.length- 0):Nat):Int)),(0:Int))):=by
 have e:min i (l.length- 0)=i:=by omega
 rw [e]
 refine dr (step:=fM l) (pre:=nq l) (fun s=> ∃k:Nat,s=(t.1.1,t.1.2,t.2.1.1,t.2.1.2,t.2.2.1,t.2.2.2,(i:Int),i,(i:Int),(k:Int))/\ k<=i/\ ∀j,j<k->Ac t (l.getD j zT)=true)
  (fun s=>i- s.2.2.2.2.2.2.2.2.2.toNat) (TE l i t) (fun s hs=> ?_) _ ⟨0,rfl,Nat.zero_le _,fun j h=>absurd h (Nat.not_lt_zero _)⟩
 obtain ⟨k,rfl,hk,hf⟩:=hs
 unfold fM nq
 dsimp only [ai]
 simp only [Int.toNat_natCast,Nat.zero_add]
 refine ⟨fun h=>⟨⟨by omega,by omega⟩,by omega,by omega,O2 _⟩,fun s' h=> ?_,fun r h=> ?_⟩
 ·split at h
  ·rename_i hlt
   split at h
   ·cases h
   ·rename_i h1
    split at h
    ·cases h
    ·rename_i h2
     cases h
     refine ⟨⟨k+1,by rw [cnt (n:=l.length) (by omega) hl],by omega,fun j hj=> ?_⟩,?_⟩
     ·rcases Nat.lt_or_ge j k with hjk|hjk
      ·exact hf j hjk
      ·have:j=k:=by omega
       subst this
       rw [AB]
       exact ⟨by simpa using h1,by simpa using h2⟩
     ·rw [cnt (n:=l.length) (by omega) hl]
      simp only [Int.toNat_natCast];omega
  ·cases h
 ·split at h
  ·rename_i hlt
   split at h
   ·rename_i h1
    cases h
    refine .inl ⟨rfl,k,by omega,?_⟩
    unfold Ac
    rw [h1];rfl
   ·split at h
    ·rename_i h2
     cases h
     refine .inl ⟨rfl,k,by omega,?_⟩
     rw [Bool.eq_false_iff]
     intro q
     rw [AB] at q
     rw [q.2] at h2
     exact absurd h2 (by decide)
    ·cases h
  ·rename_i hlt
   cases h
   have:k=i:=by omega
   subst this
   exact .inr ⟨rfl,hf⟩
theorem zk (l:List T2) (hl:l.length<4611686018427387904):zl l/\ (CS l=true↔ ∀i k,i<l.length->k<i->Ac (l.getD i zT) (l.getD k zT)=true):=by
 obtain ⟨h1,h2⟩:=dr (step:=k9 l) (pre:=rD l) (fun s=> ∃i:Nat,s=i/\ i<=l.length/\ ∀j k,j<i->k<j->Ac (l.getD j zT) (l.getD k zT)=true) (fun s=>l.length- s.toNat)
  (fun r=>Sum.elim (fun _=>false) (fun _=>true) r=true↔ ∀i k,i<l.length->k<i->Ac (l.getD i zT) (l.getD k zT)=true) (fun s ⟨i,e,hi,hf⟩=>by
   subst e
   unfold k9 rD
   dsimp only [ai]
   simp only [Int.toNat_natCast]
   refine ⟨fun h=>⟨⟨by omega,by omega⟩,by omega,by omega,⟨by omega,by omega⟩,(F2 l hl i (by omega) _).1⟩,fun s' h=> ?_,fun r h=> ?_⟩
   ·split at h
    ·rename_i hlt
     rcases (F2 l hl i (by omega) (l.getD i zT)).2 with ⟨g1,g2⟩|⟨g1,g2⟩
     ·rw [g1] at h;cases h
     ·rw [g1] at h
      cases h
      refine ⟨⟨i+1,by rw [cnt (n:=l.length) (by omega) hl],by omega,fun j k hj hk=> ?_⟩,?_⟩
      ·rcases Nat.lt_or_ge j i with hji|hji
       ·exact hf j k hji hk
       ·have:j=i:=by omega
        subst this;exact g2 k hk
      ·rw [cnt (n:=l.length) (by omega) hl]
       simp only [Int.toNat_natCast];omega
    ·cases h
   ·split at h
    ·rename_i hlt
     rcases (F2 l hl i (by omega) (l.getD i zT)).2 with ⟨g1,g2⟩|⟨g1,g2⟩
     ·rw [g1] at h
      cases h
      obtain ⟨k,hk,hF⟩:=g2
      refine ⟨fun q=>(by cases q),fun q=> ?_⟩
      rw [q i k (by omega) hk] at hF;cases hF
     ·rw [g1] at h;cases h
    ·cases h
     have:i=l.length:=by omega
     subst this
     exact ⟨fun _=>hf,fun _=>rfl⟩) 0 ⟨0,rfl,Nat.zero_le _,fun j k h=>absurd h (Nat.not_lt_zero _)⟩
 exact ⟨h1,h2⟩
def tp (t:T2):List P2:= [t.1,t.2.1,t.2.2]
def pts (l:List T2):List P2:=l.flatMap tp
structure FW (l:List P2) (lo hi:P2):Prop where
 low: ∀p∈l,lo.1<=p.1/\ lo.2<=p.2
 high: ∀p∈l,p.1<=hi.1/\ p.2<=hi.2
 l1: ∃p∈l,p.1=lo.1
 l2: ∃p∈l,p.2=lo.2
 h1: ∃p∈l,p.1=hi.1
 h2: ∃p∈l,p.2=hi.2
theorem FW.uniq {l:List P2} {lo hi lo' hi':P2} (h:FW l lo hi) (h':FW l lo' hi'):lo=lo'/\ hi=hi':=by
 obtain ⟨p1,m1,e1⟩:=h.l1
 obtain ⟨p2,m2,e2⟩:=h.l2
 obtain ⟨p3,m3,e3⟩:=h.h1
 obtain ⟨p4,m4,e4⟩:=h.h2
 obtain ⟨q1,n1,f1⟩:=h'.l1
 obtain ⟨q2,n2,f2⟩:=h'.l2
 obtain ⟨q3,n3,f3⟩:=h'.h1
 obtain ⟨q4,n4,f4⟩:=h'.h2
 have a1:=(h.low q1 n1).1
 have a2:=(h'.low p1 m1).1
 have a3:=(h.low q2 n2).2
 have a4:=(h'.low p2 m2).2
 have a5:=(h.high q3 n3).1
 have a6:=(h'.high p3 m3).1
 have a7:=(h.high q4 n4).2
 have a8:=(h'.high p4 m4).2
 exact ⟨Prod.ext (by omega) (by omega),Prod.ext (by omega) (by omega)⟩
theorem lG (a b:Int):bG a b<=a/\ bG a b<=b/\ (bG a b=a\/ bG a b=b):=by unfold bG;split<;>omega
theorem gJ (a b:Int):a<=bp a b/\ b<=bp a b/\ (bp a b=a\/ bp a b=b):=by unfold bp;split<;>omega
theorem ZA (l:List T2) (i:Nat) (hi:i<l.length):pts (l.take (i+1))=pts (l.take i)++tp (l.getD i zT):=by
 unfold pts
 rw [List.take_succ_eq_append_getElem hi,List.flatMap_append,List.getD_eq_getElem?_getD,List.getElem?_eq_getElem hi]
 simp
theorem o8 {l:List T2} {i:Nat} (hi:i<l.length) {p:P2} (hp:p∈tp (l.getD i zT)):p∈pts l:=by
 unfold pts
 rw [List.mem_flatMap]
 refine ⟨_,?_,hp⟩
 rw [List.getD_eq_getElem?_getD,List.getElem?_eq_getElem hi]
 exact List.getElem_mem _
structure XL (l:List T2) (i:Nat) (a b c d:Int):Prop where
 sm: ∀p∈pts (l.take i),Sm p
 low: ∀p∈pts (l.take i),a<=p.1/\ b<=p.2
 high: ∀p∈pts (l.take i),p.1<=c/\ p.2<=d
 l1: ∃p∈pts l,p.1=a
 l2: ∃p∈pts l,p.2=b
 h1: ∃p∈pts l,p.1=c
 h2: ∃p∈pts l,p.2=d
theorem uV {l:List P2} {f:P2->Int} {a b c:Int} (h1: ∃p∈l,f p=a) (h2: ∃p∈l,f p=b) (h:c=a\/ c=b): ∃p∈l,f p=c:=by
 rcases h with rfl|rfl
 ·exact h1
 ·exact h2
theorem XL.step {l:List T2} {i:Nat} {a b c d:Int} (h:XL l i a b c d) (hi:i<l.length) (s1:Sm (l.getD i zT).1) (s2:Sm (l.getD i zT).2.1) (s3:Sm (l.getD i zT).2.2):
  XL l (i+1) (bG (bG (bG a (l.getD i zT).1.1) (l.getD i zT).2.1.1) (l.getD i zT).2.2.1) (bG (bG (bG b (l.getD i zT).1.2) (l.getD i zT).2.1.2) (l.getD i zT).2.2.2)
   (bp (bp (bp c (l.getD i zT).1.1) (l.getD i zT).2.1.1) (l.getD i zT).2.2.1) (bp (bp (bp d (l.getD i zT).1.2) (l.getD i zT).2.1.2) (l.getD i zT).2.2.2):=by
 have hm: ∀p∈tp (l.getD i zT),p∈pts l:=fun p hp=>o8 hi hp
 have m1:=hm (l.getD i zT).1 (by simp [tp])
 have m2:=hm (l.getD i zT).2.1 (by simp [tp])
 have m3:=hm (l.getD i zT).2.2 (by simp [tp])
 have hs:=ZA l i hi
 generalize l.getD i zT=t at*
 have a1:=lG a t.1.1
 have a2:=lG (bG a t.1.1) t.2.1.1
 have a3:=lG (bG (bG a t.1.1) t.2.1.1) t.2.2.1
 have b1:=lG b t.1.2
 have b2:=lG (bG b t.1.2) t.2.1.2
 have b3:=lG (bG (bG b t.1.2) t.2.1.2) t.2.2.2
 have c1:=gJ c t.1.1
 have c2:=gJ (bp c t.1.1) t.2.1.1
 have c3:=gJ (bp (bp c t.1.1) t.2.1.1) t.2.2.1
 have d1:=gJ d t.1.2
 have d2:=gJ (bp d t.1.2) t.2.1.2
 have d3:=gJ (bp (bp d t.1.2) t.2.1.2) t.2.2.2
 refine ⟨fun p hp=> ?_,fun p hp=> ?_,fun p hp=> ?_,?_,?_,?_,?_⟩
 ·rw [hs] at hp
  rcases List.mem_append.1 hp with hp|hp
  ·exact h.sm p hp
  ·simp only [tp,List.mem_cons,List.not_mem_nil,or_false] at hp
   rcases hp with rfl|rfl|rfl<;>assumption
 ·rw [hs] at hp
  rcases List.mem_append.1 hp with hp|hp
  ·have:=h.low p hp;omega
  ·simp only [tp,List.mem_cons,List.not_mem_nil,or_false] at hp
   rcases hp with rfl|rfl|rfl<;>omega
 ·rw [hs] at hp
  rcases List.mem_append.1 hp with hp|hp
  ·have:=h.high p hp;omega
  ·simp only [tp,List.mem_cons,List.not_mem_nil,or_false] at hp
   rcases hp with rfl|rfl|rfl<;>omega
 ·exact uV (f:=(·.1)) (uV (f:=(·.1)) (uV (f:=(·.1)) h.l1 ⟨_,m1,rfl⟩ a1.2.2) ⟨_,m2,rfl⟩ a2.2.2) ⟨_,m3,rfl⟩ a3.2.2
 ·exact uV (f:=(·.2)) (uV (f:=(·.2)) (uV (f:=(·.2)) h.l2 ⟨_,m1,rfl⟩ b1.2.2) ⟨_,m2,rfl⟩ b2.2.2) ⟨_,m3,rfl⟩ b3.2.2
 ·exact uV (f:=(·.1)) (uV (f:=(·.1)) (uV (f:=(·.1)) h.h1 ⟨_,m1,rfl⟩ c1.2.2) ⟨_,m2,rfl⟩ c2.2.2) ⟨_,m3,rfl⟩ c3.2.2
 ·exact uV (f:=(·.2)) (uV (f:=(·.2)) (uV (f:=(·.2)) h.h2 ⟨_,m1,rfl⟩ d1.2.2) ⟨_,m2,rfl⟩ d2.2.2) ⟨_,m3,rfl⟩ d3.2.2
def XK (l:List T2) (r:(Int×Int×Int×Int)⊕(Int×Int×Int×Int)):Prop:=(∃a,r= .inl a/\ ∃p∈pts l,¬Sm p)\/ (∃a b c d,r= .inr (a,b,c,d)/\ (∀p∈pts l,Sm p)/\ FW (pts l) (a,b) (c,d))
theorem VC (l:List T2) (hl:l.length<4611686018427387904) (h0:l≠ []):
  Term (bN l ()) (c8 l ()) ((l.getD 0 zT).1.1,(l.getD 0 zT).1.2,(l.getD 0 zT).1.1,(l.getD 0 zT).1.2,(0:Int))/\
  XK l
   (run (bN l ()) ((l.getD 0 zT).1.1,(l.getD 0 zT).1.2,(l.getD 0 zT).1.1,(l.getD 0 zT).1.2,(0:Int))):=by
 have hlen:0<l.length:=List.length_pos_iff.2 h0
 have hm0:(l.getD 0 zT).1∈pts l:=o8 hlen (by simp [tp])
 refine dr (step:=bN l ()) (pre:=c8 l ()) (fun s=> ∃(a b c d:Int) (i:Nat),s=(a,b,c,d,(i:Int))/\ i<=l.length/\ XL l i a b c d)
  (fun s=>l.length- s.2.2.2.2.toNat) (XK l) (fun s hs=> ?_) _ ⟨_,_,_,_,0,rfl,Nat.zero_le _,⟨fun p hp=>(by simp [pts] at hp),fun p hp=>(by simp [pts] at hp),fun p hp=>(by simp [pts] at hp),⟨_,hm0,rfl⟩,⟨_,hm0,rfl⟩,⟨_,hm0,rfl⟩,⟨_,hm0,rfl⟩⟩⟩
 obtain ⟨a,b,c,d,i,rfl,hi,hB⟩:=hs
 unfold bN c8
 dsimp only [ai,aA]
 simp only [Int.toNat_natCast,Tb]
 refine ⟨fun h=>⟨⟨by omega,by omega⟩,by omega,by omega,(mV _ (by simp)).1,fun _=>⟨(mV _ (by simp)).1,fun _=>(mV _ (by simp)).1⟩⟩,fun s' h=> ?_,fun r h=> ?_⟩
 ·split at h
  ·rename_i hlt
   have hlt:i<l.length:=by omega
   split at h
   ·cases h
   ·rename_i s1
    split at h
    ·cases h
    ·rename_i s2
     split at h
     ·cases h
     ·rename_i s3
      cases h
      rw [cnt hlt hl]
      exact ⟨⟨_,_,_,_,i+1,rfl,hlt,hB.step hlt (ya s1) (ya s2) (ya s3)⟩,by simp only [Int.toNat_natCast];omega⟩
  ·cases h
 ·split at h
  ·rename_i hlt
   have hlt:i<l.length:=by omega
   split at h
   ·rename_i s1
    cases h
    exact .inl ⟨_,rfl,_,o8 hlt (p:=(l.getD i zT).1) (by simp [tp]),xD s1⟩
   ·split at h
    ·rename_i s2
     cases h
     exact .inl ⟨_,rfl,_,o8 hlt (p:=(l.getD i zT).2.1) (by simp [tp]),xD s2⟩
    ·split at h
     ·rename_i s3
      cases h
      exact .inl ⟨_,rfl,_,o8 hlt (p:=(l.getD i zT).2.2) (by simp [tp]),xD s3⟩
     ·cases h
  ·rename_i hlt
   cases h
   have:i=l.length:=by omega
   subst this
   have e:l.take l.length=l:=List.take_length
   refine .inr ⟨a,b,c,d,rfl,fun p hp=>hB.sm p (by rw [e];exact hp),?_⟩
   exact ⟨fun p hp=>hB.low p (by rw [e];exact hp),fun p hp=>hB.high p (by rw [e];exact hp),hB.l1,hB.l2,hB.h1,hB.h2⟩
theorem vH (l:List T2) (hl:l.length<4611686018427387904):p9 l/\
  ((l= []/\ gG l=(z2,z2,1))\/ ((∃p∈pts l,¬Sm p)/\ gG l=(z2,z2,5))\/ (l≠ []/\ (∀p∈pts l,Sm p)/\ ∃lo hi,FW (pts l) lo hi/\ gG l=(lo,hi,0))):=by
 unfold p9 gG
 cases l with
 |nil=>exact ⟨fun h=>absurd rfl h,.inl ⟨rfl,rfl⟩⟩
 |cons x r=>
  have hlen:0<(x::r).length:=by simp
  have hne: ¬((((x::r).length:Int)==(0:Int))=true):=by simp only [beq_iff_eq];omega
  obtain ⟨h1,h2⟩:=VC (x::r) hl (by simp)
  refine ⟨fun _=>⟨by omega,hlen,hlen,hlen,by omega,hlen,hlen,hlen,h1⟩,.inr ?_⟩
  rw [if_neg hne]
  dsimp only [ai]
  rcases h2 with ⟨a,e,hp⟩|⟨a,b,c,d,e,hs,hB⟩
  ·rw [e];exact .inl ⟨hp,rfl⟩
  ·rw [e];exact .inr ⟨by simp,hs,(a,b),(c,d),hB,rfl⟩
end Go.Proofs.YtbjfokijjefoeaaGreat
