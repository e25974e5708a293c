/- Tools for plain laws: loops. -/
import Derived.Test.YtfgdjlhilladhaaGreatEvR
import Derived.Test.YtfgdjlhilladhaaGreatDa
noncomputable section
set_option linter.unusedSectionVars false
set_option linter.unusedVariables false
set_option linter.unusedSimpArgs false
namespace Go.Proofs.YtfgdjlhilladhaaGreat
open Go Go.Ev Go.Proofs
theorem jz {a b A B:Int} (h1: -A<=a) (h2:a<=A) (h3: -B<=b) (h4:b<=B): -(A*B)<=a*b/\ a*b<=A*B:=by
 have e1:=Int.mul_nonneg (show 0<=A- a by omega) (show 0<=B+b by omega)
 have e2:=Int.mul_nonneg (show 0<=A+a by omega) (show 0<=B- b by omega)
 have e3:=Int.mul_nonneg (show 0<=A- a by omega) (show 0<=B- b by omega)
 have e4:=Int.mul_nonneg (show 0<=A+a by omega) (show 0<=B+b by omega)
 constructor<;>grind
theorem U2 {α R:Type} [Inhabited R] (l:List α) (step:Int->Int⊕R) (pre:Int->Prop) (out:List α->R)
  (hp: ∀i:Nat,i<=l.length->pre i)
  (hs: ∀(i:Nat) (x:α),l[i]? =some x->(step i= .inl ((i:Int)+1)/\ out (l.drop i)=out (l.drop (i+1)))\/ step i= .inr (out (l.drop i)))
  (he:step l.length= .inr (out [])):Term step pre 0/\ run step 0=out l:=by
 refine ⟨Term.of (fun s:Int=> ∃i:Nat,s=i/\ i<=l.length) (fun s:Int=>l.length- s.toNat) (fun s ⟨i,e,hi⟩=> ?_) 0 ⟨0,rfl,Nat.zero_le _⟩,?_⟩
 ·subst e
  refine ⟨hp i hi,fun s' h=> ?_⟩
  rcases Nat.lt_or_ge i l.length with hlt|hge
  ·rcases hs i _ (List.getElem?_eq_getElem hlt) with ⟨h1,_⟩|h1
   ·rw [h1] at h
    cases h
    exact ⟨⟨i+1,by omega,hlt⟩,by simp only [Int.toNat_natCast];omega⟩
   ·rw [h1] at h;cases h
  ·have:i=l.length:=by omega
   subst this
   rw [he] at h;cases h
 ·have main: ∀k i:Nat,i+k=l.length→run step i=out (l.drop i):=by
   intro k
   induction k with
   |zero=>
    intro i hi
    have:i=l.length:=by omega
    subst this
    rw [run_eq,he,List.drop_length]
   |succ k ih=>
    intro i hi
    have hlt:i<l.length:=by omega
    rw [run_eq]
    rcases hs i _ (List.getElem?_eq_getElem hlt) with ⟨h1,h2⟩|h1
    ·rw [h1,h2]
     exact ih (i+1) (by omega)
    ·rw [h1]
  simpa using main l.length 0 (by omega)
def QJ {α:Type} (bad:α->Bool) (l:List α):Unit⊕Unit:=if l.any bad=true then .inl () else .inr ()
theorem cY {α:Type} {l:List α} {i:Nat} {x d:α} (h:l[i]? =some x):l.getD i d=x:=by rw [List.getD_eq_getElem?_getD,h];rfl
theorem bt {α:Type} {l:List α} {i:Nat} {x:α} (h:l[i]? =some x):i<l.length:=(List.getElem?_eq_some_iff.1 h).1
theorem YM {α:Type} {l:List α} {i:Nat} {x:α} (h:l[i]? =some x):l.drop i=x::l.drop (i+1):=by
 obtain ⟨h1,h2⟩:=List.getElem?_eq_some_iff.1 h
 rw [List.drop_eq_getElem_cons h1,h2]
theorem gG {α:Type} (l:List α) (hl:l.length<4611686018427387904) (bad:α->Bool) (step:Int->Int⊕(Unit⊕Unit)) (pre:Int->Prop)
  (hp: ∀i:Nat,i<=l.length->pre i)
  (hs: ∀(i:Nat) (x:α),l[i]? =some x->step i=if bad x=true then .inr (.inl ()) else .inl (aj ((i:Int)+1)))
  (he:step l.length= .inr (.inr ())):Term step pre 0/\ Sum.elim (fun _=>false) (fun _=>true) (run step 0)= !l.any bad:=by
 obtain ⟨h1,h2⟩:=U2 l step pre (QJ bad) hp (fun i x hx=>by
  have hlt:=bt hx
  rw [hs i x hx,YM hx]
  unfold QJ
  simp only [List.any_cons]
  by_cases hb:bad x=true
  ·exact .inr (by simp [hb])
  ·refine .inl ⟨?_,by simp [hb]⟩
   rw [if_neg hb,ay (by omega) (by omega)]) (by rw [he];simp [QJ])
 refine ⟨h1,?_⟩
 rw [h2]
 unfold QJ
 cases l.any bad<;>rfl
theorem cV {S R:Type} [Inhabited R] {step:S->S⊕R} {pre:S->Prop} (J:S->Prop) (μ:S->Nat) (Post:R->Prop)
  (h: ∀s,J s->pre s/\ (∀s',step s= .inl s'->J s'/\ μ s'<μ s)/\ ∀r,step s= .inr r->Post r) (s:S) (hs:J s):Term step pre s/\ Post (run step s):=by
 refine ⟨Term.of J μ (fun s hs=>⟨(h s hs).1,(h s hs).2.1⟩) s hs,?_⟩
 obtain ⟨n,hn⟩: ∃n,n=μ s:=⟨_,rfl⟩
 induction n using Nat.strongRecOn generalizing s with
 |_ n ih=>
  obtain ⟨_,h2,h3⟩:=h s hs
  rw [run_eq]
  cases e:step s with
  |inl s'=>
   obtain ⟨h4,h5⟩:=h2 s' e
   exact ih (μ s') (by omega) s' h4 rfl
  |inr r=>exact h3 r e
theorem cnt {i n:Nat} (h:i<n) (hn:n<4611686018427387904):aj ((i:Int)+1)=((i+1:Nat):Int):=by rw [ay (by omega) (by omega)];omega
theorem kW {α:Type} (l:List α) (hl:l.length<4611686018427387904) (bad:α->Bool) (step:Int->Int⊕(Int⊕Unit)) (pre:Int->Prop)
  (hp: ∀i:Nat,i<=l.length->pre i)
  (hs: ∀(i:Nat) (x:α),l[i]? =some x->step i=if bad x=true then .inr (.inl i) else .inl (aj ((i:Int)+1)))
  (he:step l.length= .inr (.inr ())):Term step pre 0/\ Sum.elim (fun a=>a) (fun _=> -1) (run step 0)=match l.findIdx? bad with|some i=>(i:Int)|none=> -1:=by
 have key: ∀i:Nat,i<=l.length->(∀j x,j<i->l[j]? =some x->bad x=false)->True:=fun _ _ _=>trivial
 obtain ⟨h1,h2⟩:=cV (step:=step) (pre:=pre) (fun s=> ∃i:Nat,s=i/\ i<=l.length/\ ∀j x,j<i->l[j]? =some x->bad x=false) (fun s=>l.length- s.toNat)
  (fun r=>Sum.elim (fun a=>a) (fun _=> -1) r=match l.findIdx? bad with|some i=>(i:Int)|none=> -1) (fun s ⟨i,e,hi,hb⟩=>by
   subst e
   refine ⟨hp i hi,fun s' h=> ?_,fun r h=> ?_⟩
   ·rcases Nat.lt_or_ge i l.length with hlt|hge
    ·have hg:=List.getElem?_eq_getElem hlt
     rw [hs i _ hg] at h
     split at h
     ·cases h
     ·rename_i hn
      cases h
      refine ⟨⟨i+1,by rw [ay (by omega) (by omega)];rfl,hlt,fun j x hj hx=> ?_⟩,?_⟩
      ·rcases Nat.lt_or_ge j i with h1|h1
       ·exact hb j x h1 hx
       ·have:j=i:=by omega
        subst this
        rw [hg] at hx;cases hx
        simpa using hn
      ·rw [ay (by omega) (by omega),Int.toNat_natCast,show ((i:Int)+1).toNat=i+1 by omega];omega
    ·have:i=l.length:=by omega
     subst this
     rw [he] at h;cases h
   ·rcases Nat.lt_or_ge i l.length with hlt|hge
    ·have hg:=List.getElem?_eq_getElem hlt
     rw [hs i _ hg] at h
     split at h
     ·rename_i hy
      cases h
      have:l.findIdx? bad=some i:=by
       rw [List.findIdx?_eq_some_iff_getElem]
       refine ⟨hlt,hy,fun j hj=> ?_⟩
       rw [hb j _ hj (List.getElem?_eq_getElem (by omega))];simp
      rw [this];rfl
     ·cases h
    ·have:i=l.length:=by omega
     subst this
     rw [he] at h;cases h
     have:l.findIdx? bad=none:=by
      rw [List.findIdx?_eq_none_iff]
      intro x hx
      obtain ⟨j,hj,rfl⟩:=List.getElem_of_mem hx
      exact hb j _ hj (List.getElem?_eq_getElem hj)
     rw [this];rfl) 0 ⟨0,rfl,Nat.zero_le _,fun j x hj=>absurd hj (Nat.not_lt_zero _)⟩
 exact ⟨h1,h2⟩
theorem xD {α:Type} (l:List α) (bad:α->Bool):decide ((match l.findIdx? bad with|some i=>(i:Int)|none=> -1)>=0)=l.any bad:=by
 cases h:l.findIdx? bad with
 |none=>
  rw [List.findIdx?_eq_none_iff] at h
  symm
  simp only [List.any_eq_false]
  refine Eq.trans ?_ (by decide:false=decide ((-1:Int)>=0))
  rw [List.any_eq_false]
  exact fun x hx=>by rw [h x hx];simp
 |some i=>
  rw [List.findIdx?_eq_some_iff_getElem] at h
  obtain ⟨h1,h2,_⟩:=h
  have:l.any bad=true:=List.any_eq_true.2 ⟨_,List.getElem_mem h1,h2⟩
  rw [this]
  exact decide_eq_true (by dsimp only;omega)
end Go.Proofs.YtfgdjlhilladhaaGreat
namespace Go.Proofs.YtfgdjlhilladhaaGreat
open Go Go.Ev Go.Proofs
def TR {S R:Type} [Inhabited R] (step:S->S⊕R) (pre:S->Prop) (s:S) (Post:R->Prop):Prop:=Term step pre s/\ Post (run step s)
theorem TR.stop {S R:Type} [Inhabited R] {step:S->S⊕R} {pre:S->Prop} {s:S} {Post:R->Prop} {r:R} (hp:pre s) (h:step s= .inr r) (hq:Post r):TR step pre s Post:=
 ⟨.mk s hp (fun s' e=>by rw [h] at e;cases e),by rw [run_eq,h];exact hq⟩
theorem TR.go {S R:Type} [Inhabited R] {step:S->S⊕R} {pre:S->Prop} {s s':S} {Post:R->Prop} (hp:pre s) (h:step s= .inl s') (hn:TR step pre s' Post):TR step pre s Post:=
 ⟨.mk s hp (fun t e=>by rw [h] at e;cases e;exact hn.1),by rw [run_eq,h];exact hn.2⟩
end Go.Proofs.YtfgdjlhilladhaaGreat
namespace Go.Proofs.YtfgdjlhilladhaaGreat
open Go Go.Ev Go.Proofs
theorem Dt (x:List Int) (hl:x.length<4611686018427387904):Du x/\ near x= !x.any (fun v=>decide (v< -1048576)||decide (v>1048576)):=by
 refine gG x hl _ _ _ (fun i hi=> ?_) (fun i v hv=> ?_) ?_
 ·unfold Hr
  intro h
  simp only [Int.toNat_natCast];omega
 ·have hlt:=bt hv
  unfold pT
  rw [if_pos (by omega),Int.toNat_natCast,cY hv]
  by_cases h1:v< -1048576
  ·simp [h1]
  ·by_cases h2:v>1048576
   ·simp [h1,h2]
   ·simp [h1,h2]
 ·unfold pT
  rw [if_neg (by omega)]
theorem wG (m:Int) (hm:0<=m) (hm2:m<4611686018427387904) (x:List Int) (hl:x.length<4611686018427387904):wH (m,x)/\ within (m,x)= !x.any (fun v=>decide (v< -m)||decide (v>m)):=by
 refine gG x hl _ _ _ (fun i hi=> ?_) (fun i v hv=> ?_) ?_
 ·unfold BD
  intro h
  simp only [Int.toNat_natCast];dsimp only at h ⊢;omega
 ·have hlt:=bt hv
  unfold mU
  rw [if_pos (by dsimp only;omega),Int.toNat_natCast]
  dsimp only
  rw [cY hv,ay (n:=0- m) (by omega) (by omega),show 0- m= -m by omega]
  by_cases h1:v< -m
  ·simp [h1]
  ·by_cases h2:v>m
   ·simp [h1,h2]
   ·simp [h1,h2]
 ·unfold mU
  rw [if_neg (by dsimp only;omega)]
abbrev FG (p:Int×Int):Prop:=(-1048576<=p.1/\ p.1<=1048576)/\ (-1048576<=p.2/\ p.2<=1048576)
abbrev Sm (p:Int×Int):Prop:=(-4096<=p.1/\ p.1<=4096)/\ (-4096<=p.2/\ p.2<=4096)
theorem xX {α:Type} {l:List α} {bad:α->Bool} {P:α->Prop} [DecidablePred P] (h: ∀x,bad x= !decide (P x)):(!l.any bad)=decide (∀x∈l,P x):=by
 rw [Bool.eq_iff_iff]
 simp [h]
theorem zF (x:List (Int×Int)) (hl:x.length<4611686018427387904):Dd x/\ is2 x=decide (∀p∈x,FG p):=by
 have hn: ∀a b:Int,near [a,b]=decide (FG (a,b)):=fun a b=>by
  rw [(Dt [a,b] (by simp)).2,Bool.eq_iff_iff];simp
 rw [<- xX (bad:=fun p=> !decide (FG p)) (fun _=>rfl)]
 refine gG x hl _ _ _ (fun i hi=> ?_) (fun i v hv=> ?_) ?_
 ·unfold Ky
  intro h
  simp only [Int.toNat_natCast]
  exact ⟨by omega,by omega,by omega,(Dt _ (by simp)).1⟩
 ·have hlt:=bt hv
  unfold rO
  rw [if_pos (by omega),Int.toNat_natCast,cY hv]
  unfold aq
  rw [hn]
 ·unfold rO
  rw [if_neg (by omega)]
theorem gp (x:List (Int×Int)) (hl:x.length<4611686018427387904):dD x/\ fA x=decide (∀p∈x,Sm p):=by
 have hn: ∀a b:Int,within (4096,[a,b])=decide (Sm (a,b)):=fun a b=>by
  rw [(wG 4096 (by omega) (by omega) [a,b] (by simp)).2,Bool.eq_iff_iff];simp
 rw [<- xX (bad:=fun p=> !decide (Sm p)) (fun _=>rfl)]
 refine gG x hl _ _ _ (fun i hi=> ?_) (fun i v hv=> ?_) ?_
 ·unfold A7
  intro h
  simp only [Int.toNat_natCast]
  exact ⟨by omega,by omega,by omega,(wG 4096 (by omega) (by omega) _ (by simp)).1⟩
 ·have hlt:=bt hv
  unfold mK
  rw [if_pos (by omega),Int.toNat_natCast,cY hv]
  unfold aq
  rw [hn]
 ·unfold mK
  rw [if_neg (by omega)]
theorem yX {a b:Int×Int} (ha:Sm a) (hb:Sm b):IZ (a,b)=(a.1- b.1,a.2- b.2):=by
 unfold IZ aq
 rw [(zF [a,b] (by simp)).2,decide_eq_true (by simp only [List.mem_cons,List.not_mem_nil,or_false,forall_eq_or_imp,forall_eq];exact ⟨⟨by omega,by omega⟩,by omega,by omega⟩)]
 simp only [Bool.not_true,Bool.false_eq_true,if_false]
 rw [ay (by omega) (by omega),ay (by omega) (by omega)]
theorem wo (x:(Int×Int)×(Int×Int)):q7 x:=(zF _ (by simp)).1
def c8 (a b c:Int×Int):Int:=(b.1- a.1)*(c.2- a.2)- (b.2- a.2)*(c.1- a.1)
theorem iy {a b c:Int×Int} (ha:Sm a) (hb:Sm b) (hc:Sm c): -134217728<=c8 a b c/\ c8 a b c<=134217728:=by
 have m1:=jz (a:=b.1- a.1) (b:=c.2- a.2) (A:=8192) (B:=8192) (by omega) (by omega) (by omega) (by omega)
 have m2:=jz (a:=b.2- a.2) (b:=c.1- a.1) (A:=8192) (B:=8192) (by omega) (by omega) (by omega) (by omega)
 unfold c8;omega
theorem V9 {a b c:Int×Int} (ha:Sm a) (hb:Sm b) (hc:Sm c):QZ ((b.1- a.1,b.2- a.2),c.1- a.1,c.2- a.2)=(c8 a b c,0):=by
 unfold QZ aq
 rw [(zF _ (by simp)).2,decide_eq_true (by simp only [List.mem_cons,List.not_mem_nil,or_false,forall_eq_or_imp,forall_eq];exact ⟨⟨by omega,by omega⟩,by omega,by omega⟩)]
 simp only [Bool.not_true,Bool.false_eq_true,if_false]
 have m1:=jz (a:=b.1- a.1) (b:=c.2- a.2) (A:=8192) (B:=8192) (by omega) (by omega) (by omega) (by omega)
 have m2:=jz (a:=b.2- a.2) (b:=c.1- a.1) (A:=8192) (B:=8192) (by omega) (by omega) (by omega) (by omega)
 rw [ay (n:=(b.1- a.1)*(c.2- a.2)) (by omega) (by omega),ay (n:=(b.2- a.2)*(c.1- a.1)) (by omega) (by omega),ay (by omega) (by omega)]
 rfl
theorem SA (a b c:Int×Int):fA [a,b,c]=decide (Sm a/\ Sm b/\ Sm c):=by
 rw [(gp _ (by simp)).2,Bool.eq_iff_iff,decide_eq_true_iff,decide_eq_true_iff]
 simp only [List.mem_cons,List.not_mem_nil,or_false,forall_eq_or_imp,forall_eq]
theorem qY (a:Int×Int):fA [a]=decide (Sm a):=by
 rw [(gp _ (by simp)).2,Bool.eq_iff_iff,decide_eq_true_iff,decide_eq_true_iff]
 simp only [List.mem_cons,List.not_mem_nil,or_false,forall_eq]
theorem bF (a b c:Int×Int):j0 (a,b,c)/\ sC (a,b,c)=if Sm a/\ Sm b/\ Sm c then (c8 a b c,0) else (0,5):=by
 refine ⟨⟨(gp _ (by simp)).1,fun _=>⟨wo _,wo _,(zF _ (by simp)).1⟩⟩,?_⟩
 show Zh (a,b,c)=_
 unfold Zh aq
 rw [SA]
 by_cases h:Sm a/\ Sm b/\ Sm c
 ·rw [if_pos h,decide_eq_true h,yX h.2.1 h.1,yX h.2.2 h.1]
  exact V9 h.1 h.2.1 h.2.2
 ·rw [if_neg h,decide_eq_false h]
  rfl
def sg (n:Int):Int:=if n<0 then-1 else if n>0 then 1 else 0
theorem rD (a b:Int):compare (a,b)=sg (a- b):=by
 unfold compare YX aq sg
 have h: ∀z:Int,(z !=z)=false:=fun z=>by simp
 simp only [h,Bool.false_eq_true,if_false]
 split<;>(try split)<;>(try split)<;>(try split)<;>(try omega)
theorem Ar (a b c:Int×Int):Bz (a,b,c)=if Sm a/\ Sm b/\ Sm c then (sg (c8 a b c),0) else (0,5):=by
 unfold Bz aq
 rw [(bF a b c).2]
 split
 ·simp [rD]
 ·simp [rD,sg]
theorem iA (a b c:Int×Int):mright (a,b,c)=decide ((Sm a/\ Sm b/\ Sm c)/\ c8 a b c≠0):=by
 unfold mright
 rw [(bF a b c).2]
 dsimp only [aq]
 by_cases h:Sm a/\ Sm b/\ Sm c
 ·rw [if_pos h,if_pos (by rfl),Bool.eq_iff_iff,decide_eq_true_iff]
  simp only [bne_iff_ne,ne_eq]
  exact ⟨fun h2=>⟨h,h2⟩,fun h2=>h2.2⟩
 ·rw [if_neg h,decide_eq_false (fun h2=>h h2.1)]
  rfl
theorem e8 (a b c:Int×Int):c8 b c a=c8 a b c:=by unfold c8;grind
theorem qX (n:Int):(n<0/\ sg n= -1)\/ (n=0/\ sg n=0)\/ (0<n/\ sg n=1):=by
 unfold sg
 rcases Int.lt_trichotomy n 0 with h|h|h
 ·exact .inl ⟨h,by rw [if_pos h]⟩
 ·exact .inr (.inl ⟨h,by rw [if_neg (by omega),if_neg (by omega)]⟩)
 ·exact .inr (.inr ⟨h,by rw [if_neg (by omega),if_pos h]⟩)
abbrev Right (a b c:Int×Int):Prop:=(Sm a/\ Sm b/\ Sm c)/\ c8 a b c≠0
def Sd (a b c p:Int×Int):Int:=sg (c8 a b c)*sg (c8 a b p)
def InV (p a b c:Int×Int):Int:=aG (aG (aG 1 (Sd a b c p)) (Sd b c a p)) (Sd c a b p)+1
theorem HS (a b c p:Int×Int): -1<=Sd a b c p/\ Sd a b c p<=1:=by
 unfold Sd
 rcases qX (c8 a b c) with ⟨_,e⟩|⟨_,e⟩|⟨_,e⟩<;>rcases qX (c8 a b p) with ⟨_,f⟩|⟨_,f⟩|⟨_,f⟩<;>rw [e,f]<;>omega
end Go.Proofs.YtfgdjlhilladhaaGreat
