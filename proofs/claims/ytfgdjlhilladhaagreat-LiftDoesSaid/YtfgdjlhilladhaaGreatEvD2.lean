/- What cells hold, as typed values; 'append' and 'make'. -/
import Derived.Test.YtfgdjlhilladhaaGreatEvD
noncomputable section
set_option linter.unusedSectionVars false
set_option linter.unusedVariables false
set_option linter.unusedSimpArgs false
namespace Go.Ev
open Go.RowKit
def bN {α β:Type} (R:α->β->Prop):List α->List β->Prop
 | [],[]=>True
 |a::l,b::m=>R a b/\ bN R l m
 |_,_=>False
section
variable {α β:Type} {R R':α->β->Prop}
theorem bN.length: ∀ {l:List α} {m:List β},bN R l m->l.length=m.length
 | [],[],_=>rfl
 |_::_,_::_,h=>by simp [bN.length h.2]
 | [],_::_,h=>h.elim
 |_::_,[],h=>h.elim
theorem bN.mono (hr: ∀a b,R a b->R' a b): ∀ {l:List α} {m:List β},bN R l m->bN R' l m
 | [],[],_=>trivial
 |_::_,_::_,h=>⟨hr _ _ h.1,h.2.mono hr⟩
 | [],_::_,h=>h.elim
 |_::_,[],h=>h.elim
theorem bN.append: ∀ {l l':List α} {m m':List β},bN R l m->bN R l' m'->bN R (l++l') (m++m')
 | [],_,[],_,_,h=>h
 |_::_,_,_::_,_,h,h'=>⟨h.1,h.2.append h'⟩
 | [],_,_::_,_,h,_=>h.elim
 |_::_,_,[],_,h,_=>h.elim
theorem bN.drop: ∀(n:Nat) {l:List α} {m:List β},bN R l m->bN R (l.drop n) (m.drop n)
 |0,_,_,h=>h
 |n+1,[],[],_=>trivial
 |n+1,_::_,_::_,h=>bN.drop n h.2
 |n+1,[],_::_,h=>h.elim
 |n+1,_::_,[],h=>h.elim
theorem bN.take: ∀(n:Nat) {l:List α} {m:List β},bN R l m->bN R (l.take n) (m.take n)
 |0,l,m,_=>by simp [bN]
 |n+1,[],[],_=>trivial
 |n+1,_::_,_::_,h=>⟨h.1,bN.take n h.2⟩
 |n+1,[],_::_,h=>h.elim
 |n+1,_::_,[],h=>h.elim
theorem bN.get: ∀ {l:List α} {m:List β},bN R l m-> ∀(i:Nat) (a:α),l[i]? =some a-> ∃b,m[i]? =some b/\ R a b
 | [],[],_,i,a,h=>by simp at h
 |x::_,y::_,h,0,a,ha=>by simp at ha;subst ha;exact ⟨y,rfl,h.1⟩
 |_::_,_::_,h,i+1,a,ha=>by simpa using h.2.get i a (by simpa using ha)
 | [],_::_,h,_,_,_=>h.elim
 |_::_,[],h,_,_,_=>h.elim
theorem bN.split: ∀ {l l':List α} {m:List β},bN R (l++l') m-> ∃m1 m2,m=m1++m2/\ bN R l m1/\ bN R l' m2
 | [],_,m,h=>⟨[],m,rfl,trivial,h⟩
 |x::l,l',y::m,h=>by
  obtain ⟨m1,m2,rfl,h1,h2⟩:=bN.split (l:=l) h.2
  exact ⟨y::m1,m2,rfl,⟨h.1,h1⟩,h2⟩
 |_::_,_,[],h=>h.elim
end
def eF (w:World) (ok:Nat->Prop):cD->Value->Prop
 | .flat v,v'=>v'=v
 | .sl u l,v'=> ∃a c,v'= .slice a l.length c/\ gF w ok (a,c) u l
def oA (w:World) (ok:Nat->Prop) (a:Option Addr) (t:Ty) (l:List t.T):Prop:=
 ∃vals,bN (eF w ok) (aD t l) vals/\ ∀i v,vals[i]? =some v-> ∃ad,a=some ad/\ w.cell? (ad.add i)=some v/\ ok ad.block
def IK (w:World) (ok:Nat->Prop):cD->Value->Prop
 | .flat v,v'=>v'=v
 | .sl u l,v'=> ∃a c,v'= .slice a l.length c/\ l.length<=c/\ oA w ok a u l
theorem gF.weak {w:World} {ok ok':Nat->Prop} {s:Option Addr×Nat} {u:Ty} {l:List u.T} (h:gF w ok s u l) (hok: ∀b,ok b->ok' b):gF w ok' s u l:=h.mono fun b hb=>⟨hok b hb,rfl⟩
theorem eF.weak {w:World} {ok ok':Nat->Prop} (hok: ∀b,ok b->ok' b): ∀(c:cD) (v:Value),eF w ok c v->eF w ok' c v
 | .flat _,_,h=>h
 | .sl _ _,_,⟨a,c,h1,h2⟩=>⟨a,c,h1,h2.weak hok⟩
theorem fW {t:Ty} (h:t.flat=true) {x:t.T} {c:cD} (hc:c∈t.aM x): ∃v,c= .flat v:=St.views.fW t h x c hc
theorem iF {t:Ty} (h:t.flat=true) {l:List t.T} {c:cD} (hc:c∈aD t l): ∃v,c= .flat v:=by
 obtain ⟨x,_,hx⟩:=List.mem_flatMap.1 hc
 exact fW h hx
theorem N0 {w:World} {ok:Nat->Prop} : ∀ {cs:List cD} {vs:List Value},(∀c∈cs,∃v,c= .flat v)->bN (eF w ok) cs vs->vs=cs.map aT
 | [],[],_,_=>rfl
 |c::r,v::s,hf,h=>by
  obtain ⟨u,rfl⟩:=hf c (by simp)
  have:=N0 (fun c hc=>hf c (by simp [hc])) h.2
  have h1:v=u:=h.1
  rw [h1,this];rfl
 | [],_::_,_,h=>h.elim
 |_::_,[],_,h=>h.elim
theorem oA.nest {w:World} {ok:Nat->Prop} {a:Option Addr} {t:Ty} {l:List t.T} {c:Nat} (ht:t.flat=true) (hc:l.length<=c) (h:oA w ok a t l):gF w ok (a,c) t l:=by
 obtain ⟨vals,h1,h2⟩:=h
 refine ⟨ht,hc,fun i v hv=> ?_⟩
 rw [N0 (fun c hc=>iF ht hc) h1] at h2
 exact h2 i v hv
theorem za {w:World} {ok:Nat->Prop} : ∀(t:Ty) (x:t.T) (vs:List Value),t.shallow=true->bN (IK w ok) (t.aM x) vs->bN (eF w ok) (t.aM x) vs
 | .int _,x,vs,_,h=>by
  match vs,h with
  | [v],h=>exact ⟨h.1,trivial⟩
  | [],h=>exact h.elim
  |_::_::_,h=>exact h.2.elim
 | .bool,x,vs,_,h=>by
  match vs,h with
  | [v],h=>exact ⟨h.1,trivial⟩
  | [],h=>exact h.elim
  |_::_::_,h=>exact h.2.elim
 | .str,x,vs,_,h=>by
  match vs,h with
  | [v],h=>exact ⟨h.1,trivial⟩
  | [],h=>exact h.elim
  |_::_::_,h=>exact h.2.elim
 | .prod a b,x,vs,hs,h=>by
  simp only [Ty.shallow,Bool.and_eq_true] at hs
  obtain ⟨m1,m2,rfl,h1,h2⟩:=bN.split (l:=a.aM x.1) h
  exact (za a _ _ hs.1 h1).append (za b _ _ hs.2 h2)
 | .sl u,x,vs,hs,h=>by
  match vs,h with
  | [v],h=>
   obtain ⟨a,c,e,hc,hr⟩:=h.1
   exact ⟨⟨a,c,e,hr.nest hs hc⟩,trivial⟩
  | [],h=>exact h.elim
  |_::_::_,h=>exact h.2.elim
theorem sK.rowAt {fz pm ok:Nat->Prop} {w:World} {o:Loc} {t:Ty} {l:List t.T} {rk:Nat} {sub:Nat->Option Addr×Nat} (h:sK fz pm w o t l rk sub) (hfz: ∀b,fz b->ok b) (hlt: ∀b,bS w b->ok b):oA w ok o.base t l:=by
 obtain ⟨h1,h2,_,_⟩:=h
 refine ⟨aL sub 0 (aD t l),?_,fun i v hv=> ?_⟩
 ·have: ∀(cs:List cD) (q:Nat),(∀i u l',cs[i]? =some (.sl u l')→gF w ok (sub (q+i)) u l')→bN (eF w ok) cs (aL sub q cs):=by
   intro cs
   induction cs with
   |nil=>intro q _;trivial
   |cons c r ih=>
    intro q hc
    refine ⟨?_,ih (q+1) fun i u l' hi=>by
     have:=hc (i+1) u l' (by simpa using hi)
     rwa [show q+(i+1)=q+1+i by omega] at this⟩
    cases c with
    |flat v=>rfl
    |sl u l'=>exact ⟨_,_,rfl,by simpa using hc 0 u l' rfl⟩
  exact this _ 0 fun i u l' hi=>(h2 _ u l' (by simpa using hi)).weak fun b hb=>hfz b hb.1
 ·obtain ⟨a,e1,e2,_⟩:=h1 i v hv
  refine ⟨a,e1,e2,hlt _ ?_⟩
  have:=bS.of e2
  rwa [jM] at this
theorem pD (t:Ty) (l m:List t.T):aD t (l++m)=aD t l++aD t m:=by simp [aD]
theorem jb (t:Ty) (x:t.T) (r:List t.T):aD t (x::r)=t.aM x++aD t r:=by simp [aD]
theorem jc (t:Ty): ∀(l:List t.T) (s:Nat),aD t (l.drop s)=(aD t l).drop (s*t.size)
 |l,0=>by simp
 | [],s+1=>by simp [aD]
 |x::r,s+1=>by
  have h1:(t.aM x).drop ((s+1)*t.size)= []:=List.drop_of_length_le (by rw [aV,Nat.succ_mul];omega)
  rw [List.drop_succ_cons,jc t r s,jb,List.drop_append,h1,aV,show (s+1)*t.size- t.size=s*t.size by rw [Nat.succ_mul];omega]
  rfl
theorem kB (t:Ty): ∀(l:List t.T) (s:Nat),aD t (l.take s)=(aD t l).take (s*t.size)
 |l,0=>by simp [aD]
 | [],s+1=>by simp [aD]
 |x::r,s+1=>by
  have h1:(t.aM x).take ((s+1)*t.size)=t.aM x:=List.take_of_length_le (by rw [aV,Nat.succ_mul];omega)
  rw [List.take_succ_cons,jb,jb,kB t r s,List.take_append,h1,aV,show (s+1)*t.size- t.size=s*t.size by rw [Nat.succ_mul];omega]
theorem pV {α:Type} (l:List α) (s:Nat) (q:Option Nat):(oM l s q).length=gy l.length s q:=by cases q<;>simp [oM,gy]
theorem oA.part {w:World} {ok:Nat->Prop} {a a':Option Addr} {t:Ty} {l:List t.T} (h:oA w ok a t l) (s:Nat) (q:Option Nat) (ha:gy l.length s q≠0->a'=a.map (·.add (s*t.size))):oA w ok a' t (oM l s q):=by
 obtain ⟨vals,h1,h2⟩:=h
 have hd: ∀i v,(vals.drop (s*t.size))[i]? =some v-> ∃ad,a=some ad/\ w.cell? ((ad.add (s*t.size)).add i)=some v/\ ok ad.block:=fun i v hv=>by
  rw [List.getElem?_drop] at hv
  obtain ⟨ad,e1,e2,e3⟩:=h2 _ v hv
  exact ⟨ad,e1,by rw [eY];exact e2,e3⟩
 have fin: ∀vals',(∀(i:Nat) (v:Value),vals'[i]? =some v->(vals.drop (s*t.size))[i]? =some v)->bN (eF w ok) (aD t (oM l s q)) vals'->oA w ok a' t (oM l s q):=fun vals' hv hal=>by
  refine ⟨vals',hal,fun i v hi=> ?_⟩
  obtain ⟨ad,e1,e2,e3⟩:=hd i v (hv i v hi)
  refine ⟨ad.add (s*t.size),?_,e2,by rw [jM];exact e3⟩
  rw [ha ?_,e1];rfl
  have hl:=hal.length
  rw [bA,pV] at hl
  rintro e0
  rw [e0,Nat.zero_mul] at hl
  have:=(List.getElem?_eq_some_iff.1 hi).1
  omega
 cases q with
 |none=>exact fin _ (fun _ _ h=>h) (by simp only [oM,jc];exact h1.drop _)
 |some m=>
  refine fin ((vals.drop (s*t.size)).take (m*t.size)) (fun i v h=> ?_) ?_
  ·rw [List.getElem?_take] at h
   split at h
   ·exact h
   ·cases h
  ·simp only [oM,kB,jc]
   exact (h1.drop _).take _
theorem lU: ∀ {t:Ty},t.flat=true->t.shallow=true
 | .int _,_=>rfl
 | .bool,_=>rfl
 | .str,_=>rfl
 | .prod a b,h=>by
  simp only [Ty.flat,Bool.and_eq_true] at h
  simp [Ty.shallow,lU h.1,lU h.2]
 | .sl _,h=>by cases h
def VQ (w:World) (b:Nat):Prop:=bS w b
theorem St.rowAt {aC:mY} {W w:World} {ρ:Env} {Kn:Nat->Prop} {Γ:HP} (h:St aC W ρ Kn Γ w) {n:Nat} {t:Ty} {l:List t.T} {rk:Nat} (hn:Γ n=some (.row t l rk)):oA w (VQ w) (ρ n).base t l:=by
 obtain ⟨_,_,_,sub,hm⟩:=h.at_ n _ hn
 exact hm.rowAt (fun b hb=>hb.1) fun b hb=>hb
theorem fJ {u' u:Ty} {l:List u'.T} {l':List u.T} (h:qw u' u l=some l'): ∃e:u'=u,e▸l=l':=by
 unfold qw at h
 split at h
 ·rename_i e;cases h;exact ⟨e,rfl⟩
 ·cases h
def w9 (ok:Nat->Prop) (ρ:Env) (Γ:HP) (w:World) (tc:List Nat):Prop:=(∀b,lV ρ Γ w b->ok b)/\ ∀m,m∈tc->(Γ m).isSome=true-> ∀b,(ρ m).bR=some b->bS w b->ok b
theorem w9.sub {ok:Nat->Prop} {ρ:Env} {Γ:HP} {w:World} {tc GM:List Nat} (h:w9 ok ρ Γ w tc) (hs: ∀m,m∈GM->m∈tc):w9 ok ρ Γ w GM:=⟨h.1,fun m hm=>h.2 m (hs m hm)⟩
theorem sK.LK {fz pm ok:Nat->Prop} {w:World} {o:Loc} {t:Ty} {l:List t.T} {rk:Nat} {sub:Nat->Option Addr×Nat} (h:sK fz pm w o t l rk sub) (hfz: ∀b,fz b->ok b) (hown: ∀b,o.bR=some b->bS w b->ok b):oA w ok o.base t l:=by
 have h0:=h.rowAt (ok:=fun _=>True) (fun _ _=>trivial) (fun _ _=>trivial)
 obtain ⟨h1,h2,_,h4⟩:=h
 refine ⟨aL sub 0 (aD t l),?_,fun i v hv=> ?_⟩
 ·have: ∀(cs:List cD) (q:Nat),(∀i u l',cs[i]? =some (.sl u l')→gF w ok (sub (q+i)) u l')→bN (eF w ok) cs (aL sub q cs):=by
   intro cs
   induction cs with
   |nil=>intro q _;trivial
   |cons c r ih=>
    intro q hc
    refine ⟨?_,ih (q+1) fun i u l' hi=>by
     have:=hc (i+1) u l' (by simpa using hi)
     rwa [show q+(i+1)=q+1+i by omega] at this⟩
    cases c with
    |flat v=>rfl
    |sl u l'=>exact ⟨_,_,rfl,by simpa using hc 0 u l' rfl⟩
  exact this _ 0 fun i u l' hi=>(h2 _ u l' (by simpa using hi)).weak fun b hb=>hfz b hb.1
 ·obtain ⟨a,e1,e2,e3⟩:=h1 i v hv
  refine ⟨a,e1,e2,?_⟩
  have hc:=bS.of e2
  rw [jM] at hc
  by_cases e:rk=0
  ·exact hfz _ (e3 e)
  ·rcases h4 e with ⟨_,hl,_,_⟩|⟨b,rest,t',g1,g2,_,_⟩
   ·subst hl
    simp [aD,aL] at hv
   ·rw [e1] at g2;cases g2
    exact hown b g1 hc
theorem St.LK {aC:mY} {W w:World} {ρ:Env} {Kn:Nat->Prop} {Γ:HP} {ok:Nat->Prop} {tc:List Nat} (h:St aC W ρ Kn Γ w) {n:Nat} {t:Ty} {l:List t.T} {rk:Nat} (hn:Γ n=some (.row t l rk)) (hok:w9 ok ρ Γ w tc) (ht:n∈tc):oA w ok (ρ n).base t l:=by
 obtain ⟨_,_,_,sub,hm⟩:=h.at_ n _ hn
 exact hm.LK hok.1 fun b hb hc=>hok.2 n ht (by simp [hn]) b hb hc
theorem BN {hp:HP} {u:Ty} (hu:u.shallow=true) (hd: ∀cs x r tc,cN hp u cs=some (x,r,tc)-> ∃ys,cs=ys++r/\ ys.length=u.size/\ ∀aC W ρ Kn Γ w,(∀m∈tc,Γ m=hp m)->St aC W ρ Kn Γ w-> ∀ok,w9 ok ρ Γ w tc->bN (IK w ok) (u.aM x) (ys.map (Cell.af ρ))):
  ∀(n:Nat) (cs:List Cell) (l:List u.T) (tc:List Nat),BM (cN hp u) n cs=some (l,tc)->l.length=n/\ ∃ys r,cs=ys++r/\ ys.length=n*u.size/\ ∀aC W ρ Kn Γ w,(∀m∈tc,Γ m=hp m)->St aC W ρ Kn Γ w-> ∀ok,w9 ok ρ Γ w tc->bN (eF w ok) (aD u l) (ys.map (Cell.af ρ))
 |0,cs,l,tc,h=>by
  simp only [BM,Option.some.injEq,Prod.mk.injEq] at h
  obtain ⟨rfl,rfl⟩:=h
  exact ⟨rfl,[],cs,rfl,by simp,fun _ _ _ _ _ _ _ _ _ _=>trivial⟩
 |n+1,cs,l,tc,h=>by
  simp only [BM] at h
  split at h
  ·rename_i x r Z0 h1
   split at h
   ·rename_i l1 tc2 h2
    cases h
    obtain ⟨ys,rfl,hy,ha⟩:=hd _ _ _ _ h1
    obtain ⟨hl,zs,r2,rfl,hz,hb⟩:=BN hu hd n _ _ _ h2
    refine ⟨by simp [hl],ys++zs,r2,by simp,by simp [hy,hz,Nat.succ_mul,Nat.add_comm],fun aC W ρ Kn Γ w ht hst ok hok=> ?_⟩
    rw [jb,List.map_append]
    exact (za u x _ hu (ha aC W ρ Kn Γ w (fun m hm=>ht m (by simp [hm])) hst ok (hok.sub fun m hm=>by simp [hm]))).append (hb aC W ρ Kn Γ w (fun m hm=>ht m (by simp [hm])) hst ok (hok.sub fun m hm=>by simp [hm]))
   ·cases h
  ·cases h
theorem eZ (hp:HP): ∀(t:Ty) (cs:List Cell) (x:t.T) (r:List Cell) (tc:List Nat),cN hp t cs=some (x,r,tc)->
  ∃ys,cs=ys++r/\ ys.length=t.size/\ ∀aC W ρ Kn Γ w,(∀m∈tc,Γ m=hp m)->St aC W ρ Kn Γ w-> ∀ok,w9 ok ρ Γ w tc->bN (IK w ok) (t.aM x) (ys.map (Cell.af ρ))
 | .int k,cs,x,r,tc,h=>by
  simp only [cN] at h
  split at h
  ·split at h
   ·rename_i e;subst e;cases h
    exact ⟨[_],rfl,rfl,fun _ _ _ _ _ _ _ _ _ _=>⟨rfl,trivial⟩⟩
   ·cases h
  ·cases h
 | .bool,cs,x,r,tc,h=>by
  simp only [cN] at h
  split at h
  ·cases h
   exact ⟨[_],rfl,rfl,fun _ _ _ _ _ _ _ _ _ _=>⟨rfl,trivial⟩⟩
  ·cases h
 | .str,cs,x,r,tc,h=>by
  simp only [cN] at h
  split at h
  ·cases h
   exact ⟨[_],rfl,rfl,fun _ _ _ _ _ _ _ _ _ _=>⟨rfl,trivial⟩⟩
  ·cases h
 | .prod a b,cs,x,r,tc,h=>by
  simp only [cN] at h
  split at h
  ·rename_i x1 r1 Z0 h1
   split at h
   ·rename_i x2 r2 tc2 h2
    cases h
    obtain ⟨ys,rfl,hy,ha⟩:=eZ hp a _ _ _ _ h1
    obtain ⟨zs,rfl,hz,hb⟩:=eZ hp b _ _ _ _ h2
    refine ⟨ys++zs,by simp,by simp [hy,hz,Ty.size],fun aC W ρ Kn Γ w ht hst ok hok=> ?_⟩
    rw [List.map_append]
    exact (ha aC W ρ Kn Γ w (fun m hm=>ht m (by simp [hm])) hst ok (hok.sub fun m hm=>by simp [hm])).append (hb aC W ρ Kn Γ w (fun m hm=>ht m (by simp [hm])) hst ok (hok.sub fun m hm=>by simp [hm]))
   ·cases h
  ·cases h
 | .sl u,cs,x,r,tc,h=>by
  simp only [cN] at h
  split at h
  ·rename_i c r1
   cases h
   refine ⟨[_],rfl,rfl,fun _ _ _ _ _ w _ _ _ _=>⟨⟨none,c,rfl,Nat.zero_le _,[],trivial,fun i v hv=>by simp at hv⟩,trivial⟩⟩
  ·rename_i n r1
   split at h
   ·rename_i t l rk he
    split at h
    ·rename_i l' hl
     cases h
     obtain ⟨rfl,rfl⟩:=fJ hl
     refine ⟨[_],rfl,rfl,fun aC W ρ Kn Γ w ht hst ok hok=>⟨?_,trivial⟩⟩
     have dw:Γ n=some (.row t l rk):=by rw [ht n (by simp),he]
     obtain ⟨o1,_,o3,_⟩:=hst.at_ n _ dw
     exact ⟨(ρ n).base,(ρ n).cap,by rw [Cell.af,o1],o3,hst.LK dw hok (by simp)⟩
    ·cases h
   ·rename_i m s q he
    split at h
    ·rename_i t l rk VP
     split at h
     ·rename_i l' hl
      cases h
      obtain ⟨rfl,rfl⟩:=fJ hl
      refine ⟨[_],rfl,rfl,fun aC W ρ Kn Γ w ht hst ok hok=>⟨?_,trivial⟩⟩
      have dw:Γ m=some (.row t l rk):=by rw [ht m (by simp),VP]
      obtain ⟨o1,o2,o3,_⟩:=hst.at_ m _ dw
      obtain ⟨_,p1,p2,p3,p4⟩:=hst.at_ n _ (show Γ n=some (.alias m s q) by rw [ht n (by simp),he])
      have e1:(ρ n).len=(oM l s q).length:=by rw [pV,p1,o1]
      refine ⟨(ρ n).base,(ρ n).cap,by rw [Cell.af,e1],by rw [<- e1];exact p3,(hst.LK dw hok (by simp)).part s q fun hne=> ?_⟩
      rw [p4 (by rw [e1,pV];exact hne),o2]
     ·cases h
    ·cases h
   ·cases h
  ·rename_i n off len cap r1
   split at h
   ·rename_i hc
    simp only [Bool.and_eq_true,decide_eq_true_eq] at hc
    split at h
    ·rename_i cs e he
     split at h
     ·rename_i l Z0 hl
      cases h
      obtain ⟨hlen,ys,r2,hy,hyl,ha⟩:=BN hc.1 (fun cs x r tc h=>eZ hp u cs x r tc h) _ _ _ _ hl
      refine ⟨[_],rfl,rfl,fun aC W ρ Kn Γ w ht hst ok hok=>⟨?_,trivial⟩⟩
      have dw:Γ n=some (.cells cs e):=by rw [ht n (by simp),he]
      obtain ⟨b,hb,hh⟩:=hst.at_ n _ dw
      refine ⟨some ⟨b,off,none⟩,cap,by simp [Cell.af,addrOf,hb,hlen],by rw [hlen];exact hc.2,ys.map (Cell.af ρ),ha aC W ρ Kn Γ w (fun m hm=>ht m (by simp [hm])) hst ok (hok.sub fun m hm=>by simp [hm]),fun i v hv=>⟨_,rfl,?_,hok.2 n (by simp) (by simp [dw]) b hb ⟨_,_,_,hh⟩⟩⟩
      have e1:(⟨b,off,none⟩:Addr).add i=⟨b,off+i,none⟩:=by unfold Addr.add;split<;>simp_all
      have e2:cs=cs.take off++(ys++r2):=by rw [<- hy,List.take_append_drop]
      rw [e1,cg hh]
      have e3:(cs.map (Cell.af ρ))[off+i]? =((cs.drop off).map (Cell.af ρ))[i]? :=by rw [List.getElem?_map,List.getElem?_map,List.getElem?_drop]
      rw [e3,hy,List.map_append,List.getElem?_append_left (List.getElem?_eq_some_iff.1 hv).1];exact hv
     ·cases h
    ·cases h
   ·cases h
  ·cases h
theorem w9.VQ (ρ:Env) (Γ:HP) (w:World) (tc:List Nat):w9 (VQ w) ρ Γ w tc:=⟨fun _ h=>h.1,fun _ _ _ _ _ h=>h⟩
theorem lq (hp:HP) (t:Ty) (cs:List Cell) (x:t.T) (r:List Cell) (tc:List Nat) (h:cN hp t cs=some (x,r,tc)):
  ∃ys,cs=ys++r/\ ys.length=t.size/\ ∀aC W ρ Kn Γ w,(∀m∈tc,Γ m=hp m)->St aC W ρ Kn Γ w->bN (IK w (VQ w)) (t.aM x) (ys.map (Cell.af ρ)):=by
 obtain ⟨ys,h1,h2,h3⟩:=eZ hp t cs x r tc h
 exact ⟨ys,h1,h2,fun aC W ρ Kn Γ w ht hst=>h3 aC W ρ Kn Γ w ht hst _ (.VQ _ _ _ _)⟩
theorem aao {hp:HP} {u:Ty} (hu:u.shallow=true) (n:Nat) (cs:List Cell) (l:List u.T) (tc:List Nat) (h:BM (cN hp u) n cs=some (l,tc)):l.length=n/\ ∃ys r,cs=ys++r/\ ys.length=n*u.size/\ ∀aC W ρ Kn Γ w,(∀m∈tc,Γ m=hp m)->St aC W ρ Kn Γ w->bN (eF w (VQ w)) (aD u l) (ys.map (Cell.af ρ)):=by
 obtain ⟨h0,ys,r,h1,h2,h3⟩:=BN hu (eZ hp u) n cs l tc h
 exact ⟨h0,ys,r,h1,h2,fun aC W ρ Kn Γ w ht hst=>h3 aC W ρ Kn Γ w ht hst _ (.VQ _ _ _ _)⟩
theorem qj {hp m6:HP} : ∀(t:Ty) (cs:List Cell),t.flat=true->cN hp t cs=cN m6 t cs/\ ∀x r tc,cN hp t cs=some (x,r,tc)->tc= []
 | .int k,cs,_=>by
  refine ⟨by simp only [cN],fun x r tc h=> ?_⟩
  simp only [cN] at h
  split at h
  ·split at h
   ·cases h;rfl
   ·cases h
  ·cases h
 | .bool,cs,_=>by
  refine ⟨by simp only [cN],fun x r tc h=> ?_⟩
  simp only [cN] at h
  split at h
  ·cases h;rfl
  ·cases h
 | .str,cs,_=>by
  refine ⟨by simp only [cN],fun x r tc h=> ?_⟩
  simp only [cN] at h
  split at h
  ·cases h;rfl
  ·cases h
 | .prod a b,cs,hf=>by
  simp only [Ty.flat,Bool.and_eq_true] at hf
  refine ⟨?_,fun x r tc h=> ?_⟩
  ·simp only [cN]
   rw [(qj (hp:=hp) (m6:=m6) a cs hf.1).1]
   cases h1:cN m6 a cs with
   |none=>rfl
   |some q=>
    obtain ⟨x,r,tc⟩:=q
    dsimp only
    rw [(qj (hp:=hp) (m6:=m6) b r hf.2).1]
  ·simp only [cN] at h
   split at h
   ·rename_i x1 r1 Z0 h1
    split at h
    ·rename_i y r2 tc2 h2
     cases h
     rw [(qj (hp:=hp) (m6:=m6) a _ hf.1).2 _ _ _ h1,(qj (hp:=hp) (m6:=m6) b _ hf.2).2 _ _ _ h2];rfl
    ·cases h
   ·cases h
 | .sl u,cs,hf=>by simp [Ty.flat] at hf
theorem N9 {hp m6:HP} {t:Ty} (hf:t.flat=true): ∀(n:Nat) (cs:List Cell) (l:List t.T) (tc:List Nat),BM (cN hp t) n cs=some (l,tc)->BM (cN m6 t) n cs=some (l,[])/\ tc= []
 |0,cs,l,tc,h=>by simp only [BM,Option.some.injEq,Prod.mk.injEq] at h ⊢;obtain ⟨rfl,rfl⟩:=h;simp
 |n+1,cs,l,tc,h=>by
  simp only [BM] at h ⊢
  rw [<- (qj (hp:=hp) (m6:=m6) t cs hf).1]
  split at h
  ·rename_i x r Z0 h1
   have e1:=(qj (hp:=hp) (m6:=m6) t cs hf).2 _ _ _ h1
   split at h
   ·rename_i l1 tc2 h2
    obtain ⟨e2,e3⟩:=N9 (m6:=m6) hf n r l1 tc2 h2
    cases h
    rw [e2,e1,e3];exact ⟨rfl,rfl⟩
   ·cases h
  ·cases h
end Go.Ev
