/- What cells hold, as typed values; 'append' and 'make'. -/
import Derived.Test.YtlkgabjhkfhgaaaGreatEvD
noncomputable section
set_option linter.unusedSectionVars false
set_option linter.unusedVariables false
set_option linter.unusedSimpArgs false
namespace Go.Ev
open Go.RowKit
def bK {α β:Type} (R:α->β->Prop):List α->List β->Prop
 | [],[]=>True
 |a::l,b::m=>R a b/\ bK R l m
 |_,_=>False
section
variable {α β:Type} {R R':α->β->Prop}
theorem bK.length: ∀ {l:List α} {m:List β},bK R l m->l.length=m.length
 | [],[],_=>rfl
 |_::_,_::_,h=>by simp [bK.length h.2]
 | [],_::_,h=>h.elim
 |_::_,[],h=>h.elim
theorem bK.mono (hr: ∀a b,R a b->R' a b): ∀ {l:List α} {m:List β},bK R l m->bK R' l m
 | [],[],_=>trivial
 |_::_,_::_,h=>⟨hr _ _ h.1,h.2.mono hr⟩
 | [],_::_,h=>h.elim
 |_::_,[],h=>h.elim
theorem bK.append: ∀ {l l':List α} {m m':List β},bK R l m->bK R l' m'->bK R (l++l') (m++m')
 | [],_,[],_,_,h=>h
 |_::_,_,_::_,_,h,h'=>⟨h.1,h.2.append h'⟩
 | [],_,_::_,_,h,_=>h.elim
 |_::_,_,[],_,h,_=>h.elim
theorem bK.drop: ∀(n:Nat) {l:List α} {m:List β},bK R l m->bK R (l.drop n) (m.drop n)
 |0,_,_,h=>h
 |n+1,[],[],_=>trivial
 |n+1,_::_,_::_,h=>bK.drop n h.2
 |n+1,[],_::_,h=>h.elim
 |n+1,_::_,[],h=>h.elim
theorem bK.take: ∀(n:Nat) {l:List α} {m:List β},bK R l m->bK R (l.take n) (m.take n)
 |0,l,m,_=>by simp [bK]
 |n+1,[],[],_=>trivial
 |n+1,_::_,_::_,h=>⟨h.1,bK.take n h.2⟩
 |n+1,[],_::_,h=>h.elim
 |n+1,_::_,[],h=>h.elim
theorem bK.get: ∀ {l:List α} {m:List β},bK R l m-> ∀(i:Nat) (a:α),l[i]? =some a-> ∃b,m[i]? =some b/\ R a b
 | [],[],_,i,a,h=>by simp at h
 |x::_,y::_,h,0,a,ha=>by simp at ha;subst ha;exact ⟨y,rfl,h.1⟩
 |_::_,_::_,h,i+1,a,ha=>by simpa using h.2.get i a (by simpa using ha)
 | [],_::_,h,_,_,_=>h.elim
 |_::_,[],h,_,_,_=>h.elim
theorem bK.split: ∀ {l l':List α} {m:List β},bK R (l++l') m-> ∃m1 m2,m=m1++m2/\ bK R l m1/\ bK R l' m2
 | [],_,m,h=>⟨[],m,rfl,trivial,h⟩
 |x::l,l',y::m,h=>by
  obtain ⟨m1,m2,rfl,h1,h2⟩:=bK.split (l:=l) h.2
  exact ⟨y::m1,m2,rfl,⟨h.1,h1⟩,h2⟩
 |_::_,_,[],h=>h.elim
end
def dr (w:World) (ok:Nat->Prop):cl->Value->Prop
 | .flat v,v'=>v'=v
 | .sl u l,v'=> ∃a c,v'= .slice a l.length c/\ eM w ok (a,c) u l
def jU (w:World) (ok:Nat->Prop) (a:Option Addr) (t:Ty) (l:List t.T):Prop:=
 ∃vals,bK (dr w ok) (ax t l) vals/\ ∀i v,vals[i]? =some v-> ∃ad,a=some ad/\ w.cell? (ad.add i)=some v/\ ok ad.block
def Ay (w:World) (ok:Nat->Prop):cl->Value->Prop
 | .flat v,v'=>v'=v
 | .sl u l,v'=> ∃a c,v'= .slice a l.length c/\ l.length<=c/\ jU w ok a u l
theorem eM.weak {w:World} {ok V8:Nat->Prop} {s:Option Addr×Nat} {u:Ty} {l:List u.T} (h:eM w ok s u l) (hok: ∀b,ok b->V8 b):eM w V8 s u l:=h.mono fun b hb=>⟨hok b hb,rfl⟩
theorem dr.weak {w:World} {ok V8:Nat->Prop} (hok: ∀b,ok b->V8 b): ∀(c:cl) (v:Value),dr w ok c v->dr w V8 c v
 | .flat _,_,h=>h
 | .sl _ _,_,⟨a,c,h1,h2⟩=>⟨a,c,h1,h2.weak hok⟩
theorem fI {t:Ty} (h:t.flat=true) {x:t.T} {c:cl} (hc:c∈t.aQ x): ∃v,c= .flat v:=St.views.fI t h x c hc
theorem eH {t:Ty} (h:t.flat=true) {l:List t.T} {c:cl} (hc:c∈ax t l): ∃v,c= .flat v:=by
 obtain ⟨x,_,hx⟩:=List.mem_flatMap.1 hc
 exact fI h hx
theorem DR {w:World} {ok:Nat->Prop} : ∀ {cs:List cl} {vs:List Value},(∀c∈cs,∃v,c= .flat v)->bK (dr w ok) cs vs->vs=cs.map bJ
 | [],[],_,_=>rfl
 |c::r,v::s,hf,h=>by
  obtain ⟨u,rfl⟩:=hf c (by simp)
  have:=DR (fun c hc=>hf c (by simp [hc])) h.2
  have h1:v=u:=h.1
  rw [h1,this];rfl
 | [],_::_,_,h=>h.elim
 |_::_,[],_,h=>h.elim
theorem jU.nest {w:World} {ok:Nat->Prop} {a:Option Addr} {t:Ty} {l:List t.T} {c:Nat} (ht:t.flat=true) (hc:l.length<=c) (h:jU w ok a t l):eM w ok (a,c) t l:=by
 obtain ⟨vals,h1,h2⟩:=h
 refine ⟨ht,hc,fun i v hv=> ?_⟩
 rw [DR (fun c hc=>eH ht hc) h1] at h2
 exact h2 i v hv
theorem sx {w:World} {ok:Nat->Prop} : ∀(t:Ty) (x:t.T) (vs:List Value),t.shallow=true->bK (Ay w ok) (t.aQ x) vs->bK (dr w ok) (t.aQ x) vs
 | .int _,x,vs,_,h=>by
  match vs,h with
  | [v],h=>exact ⟨h.1,trivial⟩
  | [],h=>exact h.elim
  |_::_::_,h=>exact h.2.elim
 | .bool,x,vs,_,h=>by
  match vs,h with
  | [v],h=>exact ⟨h.1,trivial⟩
  | [],h=>exact h.elim
  |_::_::_,h=>exact h.2.elim
 | .str,x,vs,_,h=>by
  match vs,h with
  | [v],h=>exact ⟨h.1,trivial⟩
  | [],h=>exact h.elim
  |_::_::_,h=>exact h.2.elim
 | .prod a b,x,vs,hs,h=>by
  simp only [Ty.shallow,Bool.and_eq_true] at hs
  obtain ⟨m1,m2,rfl,h1,h2⟩:=bK.split (l:=a.aQ x.1) h
  exact (sx a _ _ hs.1 h1).append (sx b _ _ hs.2 h2)
 | .sl u,x,vs,hs,h=>by
  match vs,h with
  | [v],h=>
   obtain ⟨a,c,e,hc,hr⟩:=h.1
   exact ⟨⟨a,c,e,hr.nest hs hc⟩,trivial⟩
  | [],h=>exact h.elim
  |_::_::_,h=>exact h.2.elim
theorem nW.rowAt {fz pm ok:Nat->Prop} {w:World} {o:Loc} {t:Ty} {l:List t.T} {rk:Nat} {sub:Nat->Option Addr×Nat} (h:nW fz pm w o t l rk sub) (hfz: ∀b,fz b->ok b) (hlt: ∀b,aZ w b->ok b):jU w ok o.base t l:=by
 obtain ⟨h1,h2,_,_⟩:=h
 refine ⟨aE sub 0 (ax t l),?_,fun i v hv=> ?_⟩
 ·have: ∀(cs:List cl) (q:Nat),(∀i u l',cs[i]? =some (.sl u l')→eM w ok (sub (q+i)) u l')→bK (dr w ok) cs (aE sub q cs):=by
   intro cs
   induction cs with
   |nil=>intro q _;trivial
   |cons c r ih=>
    intro q hc
    refine ⟨?_,ih (q+1) fun i u l' hi=>by
     have:=hc (i+1) u l' (by simpa using hi)
     rwa [show q+(i+1)=q+1+i by omega] at this⟩
    cases c with
    |flat v=>rfl
    |sl u l'=>exact ⟨_,_,rfl,by simpa using hc 0 u l' rfl⟩
  exact this _ 0 fun i u l' hi=>(h2 _ u l' (by simpa using hi)).weak fun b hb=>hfz b hb.1
 ·obtain ⟨a,e1,e2,_⟩:=h1 i v hv
  refine ⟨a,e1,e2,hlt _ ?_⟩
  have:=aZ.of e2
  rwa [eW] at this
theorem lT (t:Ty) (l m:List t.T):ax t (l++m)=ax t l++ax t m:=by simp [ax]
theorem gu (t:Ty) (x:t.T) (r:List t.T):ax t (x::r)=t.aQ x++ax t r:=by simp [ax]
theorem gw (t:Ty): ∀(l:List t.T) (s:Nat),ax t (l.drop s)=(ax t l).drop (s*t.size)
 |l,0=>by simp
 | [],s+1=>by simp [ax]
 |x::r,s+1=>by
  have h1:(t.aQ x).drop ((s+1)*t.size)= []:=List.drop_of_length_le (by rw [aR,Nat.succ_mul];omega)
  rw [List.drop_succ_cons,gw t r s,gu,List.drop_append,h1,aR,show (s+1)*t.size- t.size=s*t.size by rw [Nat.succ_mul];omega]
  rfl
theorem iO (t:Ty): ∀(l:List t.T) (s:Nat),ax t (l.take s)=(ax t l).take (s*t.size)
 |l,0=>by simp [ax]
 | [],s+1=>by simp [ax]
 |x::r,s+1=>by
  have h1:(t.aQ x).take ((s+1)*t.size)=t.aQ x:=List.take_of_length_le (by rw [aR,Nat.succ_mul];omega)
  rw [List.take_succ_cons,gu,gu,iO t r s,List.take_append,h1,aR,show (s+1)*t.size- t.size=s*t.size by rw [Nat.succ_mul];omega]
theorem mh {α:Type} (l:List α) (s:Nat) (q:Option Nat):(lD l s q).length=eU l.length s q:=by cases q<;>simp [lD,eU]
theorem jU.part {w:World} {ok:Nat->Prop} {a a':Option Addr} {t:Ty} {l:List t.T} (h:jU w ok a t l) (s:Nat) (q:Option Nat) (ha:eU l.length s q≠0->a'=a.map (·.add (s*t.size))):jU w ok a' t (lD l s q):=by
 obtain ⟨vals,h1,h2⟩:=h
 have hd: ∀i v,(vals.drop (s*t.size))[i]? =some v-> ∃ad,a=some ad/\ w.cell? ((ad.add (s*t.size)).add i)=some v/\ ok ad.block:=fun i v hv=>by
  rw [List.getElem?_drop] at hv
  obtain ⟨ad,e1,e2,e3⟩:=h2 _ v hv
  exact ⟨ad,e1,by rw [dH];exact e2,e3⟩
 have fin: ∀vals',(∀(i:Nat) (v:Value),vals'[i]? =some v->(vals.drop (s*t.size))[i]? =some v)->bK (dr w ok) (ax t (lD l s q)) vals'->jU w ok a' t (lD l s q):=fun vals' hv WH=>by
  refine ⟨vals',WH,fun i v hi=> ?_⟩
  obtain ⟨ad,e1,e2,e3⟩:=hd i v (hv i v hi)
  refine ⟨ad.add (s*t.size),?_,e2,by rw [eW];exact e3⟩
  rw [ha ?_,e1];rfl
  have hl:=WH.length
  rw [bw,mh] at hl
  rintro e0
  rw [e0,Nat.zero_mul] at hl
  have:=(List.getElem?_eq_some_iff.1 hi).1
  omega
 cases q with
 |none=>exact fin _ (fun _ _ h=>h) (by simp only [lD,gw];exact h1.drop _)
 |some m=>
  refine fin ((vals.drop (s*t.size)).take (m*t.size)) (fun i v h=> ?_) ?_
  ·rw [List.getElem?_take] at h
   split at h
   ·exact h
   ·cases h
  ·simp only [lD,iO,gw]
   exact (h1.drop _).take _
theorem ju: ∀ {t:Ty},t.flat=true->t.shallow=true
 | .int _,_=>rfl
 | .bool,_=>rfl
 | .str,_=>rfl
 | .prod a b,h=>by
  simp only [Ty.flat,Bool.and_eq_true] at h
  simp [Ty.shallow,ju h.1,ju h.2]
 | .sl _,h=>by cases h
def KA (w:World) (b:Nat):Prop:=aZ w b
theorem St.rowAt {ay:iT} {W w:World} {ρ:Env} {Kn:Nat->Prop} {Γ:HP} (h:St ay W ρ Kn Γ w) {n:Nat} {t:Ty} {l:List t.T} {rk:Nat} (hn:Γ n=some (.row t l rk)):jU w (KA w) (ρ n).base t l:=by
 obtain ⟨_,_,_,sub,hm⟩:=h.at_ n _ hn
 exact hm.rowAt (fun b hb=>hb.1) fun b hb=>hb
theorem cn {u' u:Ty} {l:List u'.T} {l':List u.T} (h:iy u' u l=some l'): ∃e:u'=u,e▸l=l':=by
 unfold iy at h
 split at h
 ·rename_i e;cases h;exact ⟨e,rfl⟩
 ·cases h
def lX (ok:Nat->Prop) (ρ:Env) (Γ:HP) (w:World) (tc:List Nat):Prop:=(∀b,dQ ρ Γ w b->ok b)/\ ∀m,m∈tc->(Γ m).isSome=true-> ∀b,(ρ m).has b->aZ w b->ok b
theorem lX.sub {ok:Nat->Prop} {ρ:Env} {Γ:HP} {w:World} {tc uW:List Nat} (h:lX ok ρ Γ w tc) (hs: ∀m,m∈uW->m∈tc):lX ok ρ Γ w uW:=⟨h.1,fun m hm=>h.2 m (hs m hm)⟩
theorem nW.Cj {fz pm ok:Nat->Prop} {w:World} {o:Loc} {t:Ty} {l:List t.T} {rk:Nat} {sub:Nat->Option Addr×Nat} (h:nW fz pm w o t l rk sub) (hfz: ∀b,fz b->ok b) (hown: ∀b,o.bW=some b->aZ w b->ok b):jU w ok o.base t l:=by
 have h0:=h.rowAt (ok:=fun _=>True) (fun _ _=>trivial) (fun _ _=>trivial)
 obtain ⟨h1,h2,_,h4⟩:=h
 refine ⟨aE sub 0 (ax t l),?_,fun i v hv=> ?_⟩
 ·have: ∀(cs:List cl) (q:Nat),(∀i u l',cs[i]? =some (.sl u l')→eM w ok (sub (q+i)) u l')→bK (dr w ok) cs (aE sub q cs):=by
   intro cs
   induction cs with
   |nil=>intro q _;trivial
   |cons c r ih=>
    intro q hc
    refine ⟨?_,ih (q+1) fun i u l' hi=>by
     have:=hc (i+1) u l' (by simpa using hi)
     rwa [show q+(i+1)=q+1+i by omega] at this⟩
    cases c with
    |flat v=>rfl
    |sl u l'=>exact ⟨_,_,rfl,by simpa using hc 0 u l' rfl⟩
  exact this _ 0 fun i u l' hi=>(h2 _ u l' (by simpa using hi)).weak fun b hb=>hfz b hb.1
 ·obtain ⟨a,e1,e2,e3⟩:=h1 i v hv
  refine ⟨a,e1,e2,?_⟩
  have hc:=aZ.of e2
  rw [eW] at hc
  by_cases e:rk=0
  ·exact hfz _ (e3 e)
  ·rcases h4 e with ⟨_,hl,_,_⟩|⟨b,pre,rest,t',g1,g2,_,_⟩
   ·rw [List.eq_nil_of_length_eq_zero hl] at hv
    simp [ax,aE] at hv
   ·rw [e1] at g2;cases g2
    exact hown b g1 hc
theorem St.Cj {ay:iT} {W w:World} {ρ:Env} {Kn:Nat->Prop} {Γ:HP} {ok:Nat->Prop} {tc:List Nat} (h:St ay W ρ Kn Γ w) {n:Nat} {t:Ty} {l:List t.T} {rk:Nat} (hn:Γ n=some (.row t l rk)) (hok:lX ok ρ Γ w tc) (ht:n∈tc):jU w ok (ρ n).base t l:=by
 obtain ⟨_,_,_,sub,hm⟩:=h.at_ n _ hn
 exact hm.Cj hok.1 fun b hb hc=>hok.2 n ht (by simp [hn]) b (.inl hb) hc
theorem Ke {w:World} {x:Loc} (h: ∀e∈x.ik,PB w e) {a:Addr} {v:Value} (hv:AY x.ik a v):w.cell? a=some v/\ x.has a.block:=by
 obtain ⟨e,b,off,h1,rfl,h2,h3⟩:=hv
 rcases h e h1 with ⟨h4,_⟩|⟨b',rest,t,h4,_,h5,_⟩
 ·rw [h4] at h2;cases h2
 ·rw [h4] at h2;cases h2
  exact ⟨by rw [bL h5,List.getElem?_append_left (List.getElem?_eq_some_iff.1 h3).1];exact h3,.inr ⟨e,h1,h4⟩⟩
theorem TD {w:World} {x:Loc} {ok:Nat->Prop} {base:Option Addr} {t:Ty} {l:List t.T} {sub:Nat->Option Addr×Nat} (hs: ∀e∈x.ik,PB w e) (hok: ∀b,x.has b->aZ w b->ok b)
  {rb:Nat} (h0:l≠ []->base=some ⟨rb,0,none⟩) (h1: ∀i v,(aE sub 0 (ax t l))[i]? =some v->AY x.ik ⟨rb,i,none⟩ v)
  (h2: ∀q u l',(ax t l)[q]? =some (.sl u l')->u.flat=true/\ l'.length<=(sub q).2/\ ∀i v,(aX u l')[i]? =some v-> ∃a v',(sub q).1=some a/\ a.block≠rb/\ AY x.ik (a.add i) v'/\ (true=true->v'=v)):jU w ok base t l:=by
 have hc: ∀(a:Addr) (i:Nat) (v:Value),AY x.ik (a.add i) v->w.cell? (a.add i)=some v/\ ok a.block:=fun a i v h=>by
  obtain ⟨g1,g2⟩:=Ke hs h
  rw [eW] at g2
  have g3:=aZ.of g1
  rw [eW] at g3
  exact ⟨g1,hok _ g2 g3⟩
 refine ⟨aE sub 0 (ax t l),?_,fun i v hv=> ?_⟩
 ·have: ∀(cs:List cl) (q:Nat),(∀i u l',cs[i]? =some (.sl u l')→eM w ok (sub (q+i)) u l')→bK (dr w ok) cs (aE sub q cs):=by
   intro cs
   induction cs with
   |nil=>intro q _;trivial
   |cons c r ih=>
    intro q hc
    refine ⟨?_,ih (q+1) fun i u l' hi=>by
     have:=hc (i+1) u l' (by simpa using hi)
     rwa [show q+(i+1)=q+1+i by omega] at this⟩
    cases c with
    |flat v=>rfl
    |sl u l'=>exact ⟨_,_,rfl,by simpa using hc 0 u l' rfl⟩
  refine this _ 0 fun i u l' hi=> ?_
  rw [Nat.zero_add]
  obtain ⟨g1,g2,g3⟩:=h2 i u l' hi
  refine ⟨g1,g2,fun j v hv=> ?_⟩
  obtain ⟨a,v',g4,_,g5,g6⟩:=g3 j v hv
  obtain rfl:=g6 rfl
  exact ⟨a,g4,(hc a j _ g5).1,(hc a j _ g5).2⟩
 ·have e2:=h1 i v hv
  have hl:l≠ []:=by rintro rfl;simp [ax,aE] at hv
  have e3:(⟨rb,0,none⟩:Addr).add i=⟨rb,i,none⟩:=by unfold Addr.add;split<;>simp_all
  rw [<- e3] at e2
  exact ⟨_,h0 hl,(hc _ i v e2).1,(hc _ i v e2).2⟩
theorem uj {hp:HP} {u:Ty} (hu:u.shallow=true) (hd: ∀cs x r tc,ck hp u cs=some (x,r,tc)-> ∃ys,cs=ys++r/\ ys.length=u.size/\ ∀ay W ρ Kn Γ w,(∀m∈tc,Γ m=hp m)->St ay W ρ Kn Γ w-> ∀ok,lX ok ρ Γ w tc->bK (Ay w ok) (u.aQ x) (ys.map (Cell.af ρ))):
  ∀(n:Nat) (cs:List Cell) (l:List u.T) (tc:List Nat),uh (ck hp u) n cs=some (l,tc)->l.length=n/\ ∃ys r,cs=ys++r/\ ys.length=n*u.size/\ ∀ay W ρ Kn Γ w,(∀m∈tc,Γ m=hp m)->St ay W ρ Kn Γ w-> ∀ok,lX ok ρ Γ w tc->bK (dr w ok) (ax u l) (ys.map (Cell.af ρ))
 |0,cs,l,tc,h=>by
  simp only [uh,Option.some.injEq,Prod.mk.injEq] at h
  obtain ⟨rfl,rfl⟩:=h
  exact ⟨rfl,[],cs,rfl,by simp,fun _ _ _ _ _ _ _ _ _ _=>trivial⟩
 |n+1,cs,l,tc,h=>by
  simp only [uh] at h
  split at h
  ·rename_i x r Al h1
   split at h
   ·rename_i l1 FE h2
    cases h
    obtain ⟨ys,rfl,hy,ha⟩:=hd _ _ _ _ h1
    obtain ⟨hl,zs,r2,rfl,hz,hb⟩:=uj hu hd n _ _ _ h2
    refine ⟨by simp [hl],ys++zs,r2,by simp,by simp [hy,hz,Nat.succ_mul,Nat.add_comm],fun ay W ρ Kn Γ w ht hst ok hok=> ?_⟩
    rw [gu,List.map_append]
    exact (sx u x _ hu (ha ay W ρ Kn Γ w (fun m hm=>ht m (by simp [hm])) hst ok (hok.sub fun m hm=>by simp [hm]))).append (hb ay W ρ Kn Γ w (fun m hm=>ht m (by simp [hm])) hst ok (hok.sub fun m hm=>by simp [hm]))
   ·cases h
  ·cases h
theorem dJ (hp:HP): ∀(t:Ty) (cs:List Cell) (x:t.T) (r:List Cell) (tc:List Nat),ck hp t cs=some (x,r,tc)->
  ∃ys,cs=ys++r/\ ys.length=t.size/\ ∀ay W ρ Kn Γ w,(∀m∈tc,Γ m=hp m)->St ay W ρ Kn Γ w-> ∀ok,lX ok ρ Γ w tc->bK (Ay w ok) (t.aQ x) (ys.map (Cell.af ρ))
 | .int k,cs,x,r,tc,h=>by
  simp only [ck] at h
  split at h
  ·split at h
   ·rename_i e;subst e;cases h
    exact ⟨[_],rfl,rfl,fun _ _ _ _ _ _ _ _ _ _=>⟨rfl,trivial⟩⟩
   ·cases h
  ·cases h
 | .bool,cs,x,r,tc,h=>by
  simp only [ck] at h
  split at h
  ·cases h
   exact ⟨[_],rfl,rfl,fun _ _ _ _ _ _ _ _ _ _=>⟨rfl,trivial⟩⟩
  ·cases h
 | .str,cs,x,r,tc,h=>by
  simp only [ck] at h
  split at h
  ·cases h
   exact ⟨[_],rfl,rfl,fun _ _ _ _ _ _ _ _ _ _=>⟨rfl,trivial⟩⟩
  ·cases h
 | .prod a b,cs,x,r,tc,h=>by
  simp only [ck] at h
  split at h
  ·rename_i x1 r1 Al h1
   split at h
   ·rename_i x2 r2 FE h2
    cases h
    obtain ⟨ys,rfl,hy,ha⟩:=dJ hp a _ _ _ _ h1
    obtain ⟨zs,rfl,hz,hb⟩:=dJ hp b _ _ _ _ h2
    refine ⟨ys++zs,by simp,by simp [hy,hz,Ty.size],fun ay W ρ Kn Γ w ht hst ok hok=> ?_⟩
    rw [List.map_append]
    exact (ha ay W ρ Kn Γ w (fun m hm=>ht m (by simp [hm])) hst ok (hok.sub fun m hm=>by simp [hm])).append (hb ay W ρ Kn Γ w (fun m hm=>ht m (by simp [hm])) hst ok (hok.sub fun m hm=>by simp [hm]))
   ·cases h
  ·cases h
 | .sl u,cs,x,r,tc,h=>by
  simp only [ck] at h
  split at h
  ·rename_i c r1
   cases h
   refine ⟨[_],rfl,rfl,fun _ _ _ _ _ w _ _ _ _=>⟨⟨none,c,rfl,Nat.zero_le _,[],trivial,fun i v hv=>by simp at hv⟩,trivial⟩⟩
  ·rename_i n r1
   split at h
   ·rename_i t l rk he
    split at h
    ·rename_i l' hl
     cases h
     obtain ⟨rfl,rfl⟩:=cn hl
     refine ⟨[_],rfl,rfl,fun ay W ρ Kn Γ w ht hst ok hok=>⟨?_,trivial⟩⟩
     have bN:Γ n=some (.row t l rk):=by rw [ht n (by simp),he]
     obtain ⟨o1,_,o3,_⟩:=hst.at_ n _ bN
     exact ⟨(ρ n).base,(ρ n).cap,by rw [Cell.af,o1],o3,hst.Cj bN hok (by simp)⟩
    ·cases h
   ·rename_i m s q he
    split at h
    ·rename_i t l rk G8
     split at h
     ·rename_i l' hl
      cases h
      obtain ⟨rfl,rfl⟩:=cn hl
      refine ⟨[_],rfl,rfl,fun ay W ρ Kn Γ w ht hst ok hok=>⟨?_,trivial⟩⟩
      have bN:Γ m=some (.row t l rk):=by rw [ht m (by simp),G8]
      obtain ⟨o1,o2,o3,_⟩:=hst.at_ m _ bN
      obtain ⟨_,p1,p2,p3,p4⟩:=hst.at_ n _ (show Γ n=some (.alias m s q) by rw [ht n (by simp),he])
      have e1:(ρ n).len=(lD l s q).length:=by rw [mh,p1,o1]
      refine ⟨(ρ n).base,(ρ n).cap,by rw [Cell.af,e1],by rw [<- e1];exact p3,(hst.Cj bN hok (by simp)).part s q fun hne=> ?_⟩
      rw [p4 (by rw [e1,mh];exact hne),o2]
     ·cases h
    ·cases h
   ·rename_i t l c st kn he
    split at h
    ·rename_i g G8
     split at h
     ·rename_i l' hl
      cases h
      obtain ⟨rfl,rfl⟩:=cn hl
      refine ⟨[_],rfl,rfl,fun ay W ρ Kn Γ w ht hst ok hok=>⟨?_,trivial⟩⟩
      have bN:Γ n=some (.dp t l c st true):=by rw [ht n (by simp),he]
      have Zf:Γ c=some (.set g):=by rw [ht c (by simp),G8]
      obtain ⟨_,o1,_,o3,sub,rb,o4,o5,o6⟩:=hst.at_ n _ bN
      exact ⟨(ρ n).base,(ρ n).cap,by rw [Cell.af,o1],o3,TD (hst.at_ c _ Zf).2.1 (fun b hb hc=>hok.2 c (by simp) (by simp [Zf]) b hb hc) o4 o5 o6⟩
     ·cases h
    ·cases h
   ·cases h
  ·rename_i n off len cap r1
   split at h
   ·rename_i hc
    simp only [Bool.and_eq_true,decide_eq_true_eq] at hc
    split at h
    ·rename_i cs e he
     split at h
     ·rename_i l Al hl
      cases h
      obtain ⟨hlen,ys,r2,hy,hyl,ha⟩:=uj hc.1 (fun cs x r tc h=>dJ hp u cs x r tc h) _ _ _ _ hl
      refine ⟨[_],rfl,rfl,fun ay W ρ Kn Γ w ht hst ok hok=>⟨?_,trivial⟩⟩
      have bN:Γ n=some (.cells cs e):=by rw [ht n (by simp),he]
      obtain ⟨b,hb,hh⟩:=hst.at_ n _ bN
      refine ⟨some ⟨b,off,none⟩,cap,by simp [Cell.af,addrOf,hb,hlen],by rw [hlen];exact hc.2,ys.map (Cell.af ρ),ha ay W ρ Kn Γ w (fun m hm=>ht m (by simp [hm])) hst ok (hok.sub fun m hm=>by simp [hm]),fun i v hv=>⟨_,rfl,?_,hok.2 n (by simp) (by simp [bN]) b (.inl hb) ⟨_,_,_,hh⟩⟩⟩
      have e1:(⟨b,off,none⟩:Addr).add i=⟨b,off+i,none⟩:=by unfold Addr.add;split<;>simp_all
      have e2:cs=cs.take off++(ys++r2):=by rw [<- hy,List.take_append_drop]
      rw [e1,bL hh]
      have e3:(cs.map (Cell.af ρ))[off+i]? =((cs.drop off).map (Cell.af ρ))[i]? :=by rw [List.getElem?_map,List.getElem?_map,List.getElem?_drop]
      rw [e3,hy,List.map_append,List.getElem?_append_left (List.getElem?_eq_some_iff.1 hv).1];exact hv
     ·cases h
    ·cases h
   ·cases h
  ·cases h
theorem lX.KA (ρ:Env) (Γ:HP) (w:World) (tc:List Nat):lX (KA w) ρ Γ w tc:=⟨fun _ h=>h.1,fun _ _ _ _ _ h=>h⟩
theorem j7 (hp:HP) (t:Ty) (cs:List Cell) (x:t.T) (r:List Cell) (tc:List Nat) (h:ck hp t cs=some (x,r,tc)):
  ∃ys,cs=ys++r/\ ys.length=t.size/\ ∀ay W ρ Kn Γ w,(∀m∈tc,Γ m=hp m)->St ay W ρ Kn Γ w->bK (Ay w (KA w)) (t.aQ x) (ys.map (Cell.af ρ)):=by
 obtain ⟨ys,h1,h2,h3⟩:=dJ hp t cs x r tc h
 exact ⟨ys,h1,h2,fun ay W ρ Kn Γ w ht hst=>h3 ay W ρ Kn Γ w ht hst _ (.KA _ _ _ _)⟩
theorem ND {hp:HP} {u:Ty} (hu:u.shallow=true) (n:Nat) (cs:List Cell) (l:List u.T) (tc:List Nat) (h:uh (ck hp u) n cs=some (l,tc)):l.length=n/\ ∃ys r,cs=ys++r/\ ys.length=n*u.size/\ ∀ay W ρ Kn Γ w,(∀m∈tc,Γ m=hp m)->St ay W ρ Kn Γ w->bK (dr w (KA w)) (ax u l) (ys.map (Cell.af ρ)):=by
 obtain ⟨h0,ys,r,h1,h2,h3⟩:=uj hu (dJ hp u) n cs l tc h
 exact ⟨h0,ys,r,h1,h2,fun ay W ρ Kn Γ w ht hst=>h3 ay W ρ Kn Γ w ht hst _ (.KA _ _ _ _)⟩
theorem mC {hp fA:HP} : ∀(t:Ty) (cs:List Cell),t.flat=true->ck hp t cs=ck fA t cs/\ ∀x r tc,ck hp t cs=some (x,r,tc)->tc= []
 | .int k,cs,_=>by
  refine ⟨by simp only [ck],fun x r tc h=> ?_⟩
  simp only [ck] at h
  split at h
  ·split at h
   ·cases h;rfl
   ·cases h
  ·cases h
 | .bool,cs,_=>by
  refine ⟨by simp only [ck],fun x r tc h=> ?_⟩
  simp only [ck] at h
  split at h
  ·cases h;rfl
  ·cases h
 | .str,cs,_=>by
  refine ⟨by simp only [ck],fun x r tc h=> ?_⟩
  simp only [ck] at h
  split at h
  ·cases h;rfl
  ·cases h
 | .prod a b,cs,hf=>by
  simp only [Ty.flat,Bool.and_eq_true] at hf
  refine ⟨?_,fun x r tc h=> ?_⟩
  ·simp only [ck]
   rw [(mC (hp:=hp) (fA:=fA) a cs hf.1).1]
   cases h1:ck fA a cs with
   |none=>rfl
   |some q=>
    obtain ⟨x,r,tc⟩:=q
    dsimp only
    rw [(mC (hp:=hp) (fA:=fA) b r hf.2).1]
  ·simp only [ck] at h
   split at h
   ·rename_i x1 r1 Al h1
    split at h
    ·rename_i y r2 FE h2
     cases h
     rw [(mC (hp:=hp) (fA:=fA) a _ hf.1).2 _ _ _ h1,(mC (hp:=hp) (fA:=fA) b _ hf.2).2 _ _ _ h2];rfl
    ·cases h
   ·cases h
 | .sl u,cs,hf=>by simp [Ty.flat] at hf
theorem D5 {hp fA:HP} {t:Ty} (hf:t.flat=true): ∀(n:Nat) (cs:List Cell) (l:List t.T) (tc:List Nat),uh (ck hp t) n cs=some (l,tc)->uh (ck fA t) n cs=some (l,[])/\ tc= []
 |0,cs,l,tc,h=>by simp only [uh,Option.some.injEq,Prod.mk.injEq] at h ⊢;obtain ⟨rfl,rfl⟩:=h;simp
 |n+1,cs,l,tc,h=>by
  simp only [uh] at h ⊢
  rw [<- (mC (hp:=hp) (fA:=fA) t cs hf).1]
  split at h
  ·rename_i x r Al h1
   have e1:=(mC (hp:=hp) (fA:=fA) t cs hf).2 _ _ _ h1
   split at h
   ·rename_i l1 FE h2
    obtain ⟨e2,e3⟩:=D5 (fA:=fA) hf n r l1 FE h2
    cases h
    rw [e2,e1,e3];exact ⟨rfl,rfl⟩
   ·cases h
  ·cases h
end Go.Ev
