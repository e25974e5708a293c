/- What cells hold, as typed values; 'append' and 'make'. -/
import Derived.Test.YtngdehlpoomaiaaGreatEvD
noncomputable section
set_option linter.unusedSectionVars false
set_option linter.unusedVariables false
set_option linter.unusedSimpArgs false
namespace Go.Ev
open Go.RowKit
def bN {α β:Type} (R:α->β->Prop):List α->List β->Prop
 | [],[]=>True
 |a::l,b::m=>R a b/\ bN R l m
 |_,_=>False
section
variable {α β:Type} {R R':α->β->Prop}
theorem bN.length: ∀ {l:List α} {m:List β},bN R l m->l.length=m.length
 | [],[],_=>rfl
 |_::_,_::_,h=>by simp [bN.length h.2]
 | [],_::_,h=>h.elim
 |_::_,[],h=>h.elim
theorem bN.mono (hr: ∀a b,R a b->R' a b): ∀ {l:List α} {m:List β},bN R l m->bN R' l m
 | [],[],_=>trivial
 |_::_,_::_,h=>⟨hr _ _ h.1,h.2.mono hr⟩
 | [],_::_,h=>h.elim
 |_::_,[],h=>h.elim
theorem bN.append: ∀ {l l':List α} {m m':List β},bN R l m->bN R l' m'->bN R (l++l') (m++m')
 | [],_,[],_,_,h=>h
 |_::_,_,_::_,_,h,h'=>⟨h.1,h.2.append h'⟩
 | [],_,_::_,_,h,_=>h.elim
 |_::_,_,[],_,h,_=>h.elim
theorem bN.drop: ∀(n:Nat) {l:List α} {m:List β},bN R l m->bN R (l.drop n) (m.drop n)
 |0,_,_,h=>h
 |n+1,[],[],_=>trivial
 |n+1,_::_,_::_,h=>bN.drop n h.2
 |n+1,[],_::_,h=>h.elim
 |n+1,_::_,[],h=>h.elim
theorem bN.take: ∀(n:Nat) {l:List α} {m:List β},bN R l m->bN R (l.take n) (m.take n)
 |0,l,m,_=>by simp [bN]
 |n+1,[],[],_=>trivial
 |n+1,_::_,_::_,h=>⟨h.1,bN.take n h.2⟩
 |n+1,[],_::_,h=>h.elim
 |n+1,_::_,[],h=>h.elim
theorem bN.get: ∀ {l:List α} {m:List β},bN R l m-> ∀(i:Nat) (a:α),l[i]? =some a-> ∃b,m[i]? =some b/\ R a b
 | [],[],_,i,a,h=>by simp at h
 |x::_,y::_,h,0,a,ha=>by simp at ha;subst ha;exact ⟨y,rfl,h.1⟩
 |_::_,_::_,h,i+1,a,ha=>by simpa using h.2.get i a (by simpa using ha)
 | [],_::_,h,_,_,_=>h.elim
 |_::_,[],h,_,_,_=>h.elim
theorem bN.split: ∀ {l l':List α} {m:List β},bN R (l++l') m-> ∃m1 m2,m=m1++m2/\ bN R l m1/\ bN R l' m2
 | [],_,m,h=>⟨[],m,rfl,trivial,h⟩
 |x::l,l',y::m,h=>by
  obtain ⟨m1,m2,rfl,h1,h2⟩:=bN.split (l:=l) h.2
  exact ⟨y::m1,m2,rfl,⟨h.1,h1⟩,h2⟩
 |_::_,_,[],h=>h.elim
end
def dQ (w:World) (ok:Nat->Prop):cw->Value->Prop
 | .flat v,v'=>v'=v
 | .sl u l,v'=> ∃a c,v'= .slice a l.length c/\ fH w ok (a,c) u l
def mH (w:World) (ok:Nat->Prop) (a:Option Addr) (t:Ty) (l:List t.T):Prop:=
 ∃vals,bN (dQ w ok) (ay t l) vals/\ ∀i v,vals[i]? =some v-> ∃ad,a=some ad/\ w.cell? (ad.add i)=some v/\ ok ad.block
def Kp (w:World) (ok:Nat->Prop):cw->Value->Prop
 | .flat v,v'=>v'=v
 | .sl u l,v'=> ∃a c,v'= .slice a l.length c/\ l.length<=c/\ mH w ok a u l
theorem fH.weak {w:World} {ok ok':Nat->Prop} {s:Option Addr×Nat} {u:Ty} {l:List u.T} (h:fH w ok s u l) (hok: ∀b,ok b->ok' b):fH w ok' s u l:=h.mono fun b hb=>⟨hok b hb,rfl⟩
theorem dQ.weak {w:World} {ok ok':Nat->Prop} (hok: ∀b,ok b->ok' b): ∀(c:cw) (v:Value),dQ w ok c v->dQ w ok' c v
 | .flat _,_,h=>h
 | .sl _ _,_,⟨a,c,h1,h2⟩=>⟨a,c,h1,h2.weak hok⟩
theorem gV {t:Ty} (h:t.flat=true) {x:t.T} {c:cw} (hc:c∈t.aU x): ∃v,c= .flat v:=St.views.gV t h x c hc
theorem fb {t:Ty} (h:t.flat=true) {l:List t.T} {c:cw} (hc:c∈ay t l): ∃v,c= .flat v:=by
 obtain ⟨x,_,hx⟩:=List.mem_flatMap.1 hc
 exact gV h hx
theorem OW {w:World} {ok:Nat->Prop} : ∀ {cs:List cw} {vs:List Value},(∀c∈cs,∃v,c= .flat v)->bN (dQ w ok) cs vs->vs=cs.map bJ
 | [],[],_,_=>rfl
 |c::r,v::s,hf,h=>by
  obtain ⟨u,rfl⟩:=hf c (by simp)
  have:=OW (fun c hc=>hf c (by simp [hc])) h.2
  have h1:v=u:=h.1
  rw [h1,this];rfl
 | [],_::_,_,h=>h.elim
 |_::_,[],_,h=>h.elim
theorem mH.nest {w:World} {ok:Nat->Prop} {a:Option Addr} {t:Ty} {l:List t.T} {c:Nat} (ht:t.flat=true) (hc:l.length<=c) (h:mH w ok a t l):fH w ok (a,c) t l:=by
 obtain ⟨vals,h1,h2⟩:=h
 refine ⟨ht,hc,fun i v hv=> ?_⟩
 rw [OW (fun c hc=>fb ht hc) h1] at h2
 exact h2 i v hv
theorem zu {w:World} {ok:Nat->Prop} : ∀(t:Ty) (x:t.T) (vs:List Value),t.shallow=true->bN (Kp w ok) (t.aU x) vs->bN (dQ w ok) (t.aU x) vs
 | .int _,x,vs,_,h=>by
  match vs,h with
  | [v],h=>exact ⟨h.1,trivial⟩
  | [],h=>exact h.elim
  |_::_::_,h=>exact h.2.elim
 | .bool,x,vs,_,h=>by
  match vs,h with
  | [v],h=>exact ⟨h.1,trivial⟩
  | [],h=>exact h.elim
  |_::_::_,h=>exact h.2.elim
 | .str,x,vs,_,h=>by
  match vs,h with
  | [v],h=>exact ⟨h.1,trivial⟩
  | [],h=>exact h.elim
  |_::_::_,h=>exact h.2.elim
 | .prod a b,x,vs,hs,h=>by
  simp only [Ty.shallow,Bool.and_eq_true] at hs
  obtain ⟨m1,m2,rfl,h1,h2⟩:=bN.split (l:=a.aU x.1) h
  exact (zu a _ _ hs.1 h1).append (zu b _ _ hs.2 h2)
 | .sl u,x,vs,hs,h=>by
  match vs,h with
  | [v],h=>
   obtain ⟨a,c,e,hc,hr⟩:=h.1
   exact ⟨⟨a,c,e,hr.nest hs hc⟩,trivial⟩
  | [],h=>exact h.elim
  |_::_::_,h=>exact h.2.elim
theorem sI.rowAt {fz pm ok:Nat->Prop} {w:World} {o:Loc} {t:Ty} {l:List t.T} {rk:Nat} {sub:Nat->Option Addr×Nat} (h:sI fz pm w o t l rk sub) (hfz: ∀b,fz b->ok b) (hlt: ∀b,bj w b->ok b):mH w ok o.base t l:=by
 obtain ⟨h1,h2,_,_⟩:=h
 refine ⟨aJ sub 0 (ay t l),?_,fun i v hv=> ?_⟩
 ·have: ∀(cs:List cw) (q:Nat),(∀i u l',cs[i]? =some (.sl u l')→fH w ok (sub (q+i)) u l')→bN (dQ w ok) cs (aJ sub q cs):=by
   intro cs
   induction cs with
   |nil=>intro q _;trivial
   |cons c r ih=>
    intro q hc
    refine ⟨?_,ih (q+1) fun i u l' hi=>by
     have:=hc (i+1) u l' (by simpa using hi)
     rwa [show q+(i+1)=q+1+i by omega] at this⟩
    cases c with
    |flat v=>rfl
    |sl u l'=>exact ⟨_,_,rfl,by simpa using hc 0 u l' rfl⟩
  exact this _ 0 fun i u l' hi=>(h2 _ u l' (by simpa using hi)).weak fun b hb=>hfz b hb.1
 ·obtain ⟨a,e1,e2,_⟩:=h1 i v hv
  refine ⟨a,e1,e2,hlt _ ?_⟩
  have:=bj.of e2
  rwa [fU] at this
theorem oO (t:Ty) (l m:List t.T):ay t (l++m)=ay t l++ay t m:=by simp [ay]
theorem iU (t:Ty) (x:t.T) (r:List t.T):ay t (x::r)=t.aU x++ay t r:=by simp [ay]
theorem iV (t:Ty): ∀(l:List t.T) (s:Nat),ay t (l.drop s)=(ay t l).drop (s*t.size)
 |l,0=>by simp
 | [],s+1=>by simp [ay]
 |x::r,s+1=>by
  have h1:(t.aU x).drop ((s+1)*t.size)= []:=List.drop_of_length_le (by rw [aV,Nat.succ_mul];omega)
  rw [List.drop_succ_cons,iV t r s,iU,List.drop_append,h1,aV,show (s+1)*t.size- t.size=s*t.size by rw [Nat.succ_mul];omega]
  rfl
theorem kq (t:Ty): ∀(l:List t.T) (s:Nat),ay t (l.take s)=(ay t l).take (s*t.size)
 |l,0=>by simp [ay]
 | [],s+1=>by simp [ay]
 |x::r,s+1=>by
  have h1:(t.aU x).take ((s+1)*t.size)=t.aU x:=List.take_of_length_le (by rw [aV,Nat.succ_mul];omega)
  rw [List.take_succ_cons,iU,iU,kq t r s,List.take_append,h1,aV,show (s+1)*t.size- t.size=s*t.size by rw [Nat.succ_mul];omega]
theorem pK {α:Type} (l:List α) (s:Nat) (q:Option Nat):(ov l s q).length=fT l.length s q:=by cases q<;>simp [ov,fT]
theorem mH.part {w:World} {ok:Nat->Prop} {a a':Option Addr} {t:Ty} {l:List t.T} (h:mH w ok a t l) (s:Nat) (q:Option Nat) (ha:fT l.length s q≠0->a'=a.map (·.add (s*t.size))):mH w ok a' t (ov l s q):=by
 obtain ⟨vals,h1,h2⟩:=h
 have hd: ∀i v,(vals.drop (s*t.size))[i]? =some v-> ∃ad,a=some ad/\ w.cell? ((ad.add (s*t.size)).add i)=some v/\ ok ad.block:=fun i v hv=>by
  rw [List.getElem?_drop] at hv
  obtain ⟨ad,e1,e2,e3⟩:=h2 _ v hv
  exact ⟨ad,e1,by rw [eA];exact e2,e3⟩
 have fin: ∀vals',(∀(i:Nat) (v:Value),vals'[i]? =some v->(vals.drop (s*t.size))[i]? =some v)->bN (dQ w ok) (ay t (ov l s q)) vals'->mH w ok a' t (ov l s q):=fun vals' hv hal=>by
  refine ⟨vals',hal,fun i v hi=> ?_⟩
  obtain ⟨ad,e1,e2,e3⟩:=hd i v (hv i v hi)
  refine ⟨ad.add (s*t.size),?_,e2,by rw [fU];exact e3⟩
  rw [ha ?_,e1];rfl
  have hl:=hal.length
  rw [bE,pK] at hl
  rintro e0
  rw [e0,Nat.zero_mul] at hl
  have:=(List.getElem?_eq_some_iff.1 hi).1
  omega
 cases q with
 |none=>exact fin _ (fun _ _ h=>h) (by simp only [ov,iV];exact h1.drop _)
 |some m=>
  refine fin ((vals.drop (s*t.size)).take (m*t.size)) (fun i v h=> ?_) ?_
  ·rw [List.getElem?_take] at h
   split at h
   ·exact h
   ·cases h
  ·simp only [ov,kq,iV]
   exact (h1.drop _).take _
theorem lM: ∀ {t:Ty},t.flat=true->t.shallow=true
 | .int _,_=>rfl
 | .bool,_=>rfl
 | .str,_=>rfl
 | .prod a b,h=>by
  simp only [Ty.flat,Bool.and_eq_true] at h
  simp [Ty.shallow,lM h.1,lM h.2]
 | .sl _,h=>by cases h
def Zx (w:World) (b:Nat):Prop:=bj w b
theorem St.rowAt {av:fG} {W w:World} {ρ:Env} {Kn:Nat->Prop} {Γ:HP} (h:St av W ρ Kn Γ w) {n:Nat} {t:Ty} {l:List t.T} {rk:Nat} (hn:Γ n=some (.row t l rk)):mH w (Zx w) (ρ n).base t l:=by
 obtain ⟨_,_,_,sub,hm⟩:=h.at_ n _ hn
 exact hm.rowAt (fun b hb=>hb.1) fun b hb=>hb
theorem cr {u' u:Ty} {l:List u'.T} {l':List u.T} (h:jm u' u l=some l'): ∃e:u'=u,e▸l=l':=by
 unfold jm at h
 split at h
 ·rename_i e;cases h;exact ⟨e,rfl⟩
 ·cases h
def nV (ok:Nat->Prop) (ρ:Env) (Γ:HP) (w:World) (tc:List Nat):Prop:=(∀b,dV ρ Γ w b->ok b)/\ ∀m,m∈tc->(Γ m).isSome=true-> ∀b,(ρ m).has b->bj w b->ok b
theorem nV.sub {ok:Nat->Prop} {ρ:Env} {Γ:HP} {w:World} {tc CN:List Nat} (h:nV ok ρ Γ w tc) (hs: ∀m,m∈CN->m∈tc):nV ok ρ Γ w CN:=⟨h.1,fun m hm=>h.2 m (hs m hm)⟩
theorem sI.Mz {fz pm ok:Nat->Prop} {w:World} {o:Loc} {t:Ty} {l:List t.T} {rk:Nat} {sub:Nat->Option Addr×Nat} (h:sI fz pm w o t l rk sub) (hfz: ∀b,fz b->ok b) (hown: ∀b,o.blk=some b->bj w b->ok b):mH w ok o.base t l:=by
 have h0:=h.rowAt (ok:=fun _=>True) (fun _ _=>trivial) (fun _ _=>trivial)
 obtain ⟨h1,h2,_,h4⟩:=h
 refine ⟨aJ sub 0 (ay t l),?_,fun i v hv=> ?_⟩
 ·have: ∀(cs:List cw) (q:Nat),(∀i u l',cs[i]? =some (.sl u l')→fH w ok (sub (q+i)) u l')→bN (dQ w ok) cs (aJ sub q cs):=by
   intro cs
   induction cs with
   |nil=>intro q _;trivial
   |cons c r ih=>
    intro q hc
    refine ⟨?_,ih (q+1) fun i u l' hi=>by
     have:=hc (i+1) u l' (by simpa using hi)
     rwa [show q+(i+1)=q+1+i by omega] at this⟩
    cases c with
    |flat v=>rfl
    |sl u l'=>exact ⟨_,_,rfl,by simpa using hc 0 u l' rfl⟩
  exact this _ 0 fun i u l' hi=>(h2 _ u l' (by simpa using hi)).weak fun b hb=>hfz b hb.1
 ·obtain ⟨a,e1,e2,e3⟩:=h1 i v hv
  refine ⟨a,e1,e2,?_⟩
  have hc:=bj.of e2
  rw [fU] at hc
  by_cases e:rk=0
  ·exact hfz _ (e3 e)
  ·rcases h4 e with ⟨_,hl,_,_⟩|⟨b,pre,rest,t',g1,g2,_,_⟩
   ·rw [List.eq_nil_of_length_eq_zero hl] at hv
    simp [ay,aJ] at hv
   ·rw [e1] at g2;cases g2
    exact hown b g1 hc
theorem St.Mz {av:fG} {W w:World} {ρ:Env} {Kn:Nat->Prop} {Γ:HP} {ok:Nat->Prop} {tc:List Nat} (h:St av W ρ Kn Γ w) {n:Nat} {t:Ty} {l:List t.T} {rk:Nat} (hn:Γ n=some (.row t l rk)) (hok:nV ok ρ Γ w tc) (ht:n∈tc):mH w ok (ρ n).base t l:=by
 obtain ⟨_,_,_,sub,hm⟩:=h.at_ n _ hn
 exact hm.Mz hok.1 fun b hb hc=>hok.2 n ht (by simp [hn]) b (.inl hb) hc
theorem Y6 {w:World} {x:Loc} (h: ∀e∈x.jq,agz w e) {a:Addr} {v:Value} (hv:K8 x.jq a v):w.cell? a=some v/\ x.has a.block:=by
 obtain ⟨e,b,off,h1,rfl,h2,h3⟩:=hv
 rcases h e h1 with ⟨h4,_⟩|⟨b',rest,t,h4,_,h5,_⟩
 ·rw [h4] at h2;cases h2
 ·rw [h4] at h2;cases h2
  exact ⟨by rw [bL h5,List.getElem?_append_left (List.getElem?_eq_some_iff.1 h3).1];exact h3,.inr ⟨e,h1,h4⟩⟩
theorem alP {w:World} {x:Loc} {ok:Nat->Prop} {base:Option Addr} {t:Ty} {l:List t.T} {sub:Nat->Option Addr×Nat} (hs: ∀e∈x.jq,agz w e) (hok: ∀b,x.has b->bj w b->ok b)
  {rb:Nat} (h0:l≠ []->base=some ⟨rb,0,none⟩) (h1: ∀i v,(aJ sub 0 (ay t l))[i]? =some v->K8 x.jq ⟨rb,i,none⟩ v)
  (h2: ∀q u l',(ay t l)[q]? =some (.sl u l')->u.flat=true/\ l'.length<=(sub q).2/\ ∀i v,(bf u l')[i]? =some v-> ∃a v',(sub q).1=some a/\ a.block≠rb/\ K8 x.jq (a.add i) v'/\ (true=true->v'=v)):mH w ok base t l:=by
 have hc: ∀(a:Addr) (i:Nat) (v:Value),K8 x.jq (a.add i) v->w.cell? (a.add i)=some v/\ ok a.block:=fun a i v h=>by
  obtain ⟨g1,g2⟩:=Y6 hs h
  rw [fU] at g2
  have g3:=bj.of g1
  rw [fU] at g3
  exact ⟨g1,hok _ g2 g3⟩
 refine ⟨aJ sub 0 (ay t l),?_,fun i v hv=> ?_⟩
 ·have: ∀(cs:List cw) (q:Nat),(∀i u l',cs[i]? =some (.sl u l')→fH w ok (sub (q+i)) u l')→bN (dQ w ok) cs (aJ sub q cs):=by
   intro cs
   induction cs with
   |nil=>intro q _;trivial
   |cons c r ih=>
    intro q hc
    refine ⟨?_,ih (q+1) fun i u l' hi=>by
     have:=hc (i+1) u l' (by simpa using hi)
     rwa [show q+(i+1)=q+1+i by omega] at this⟩
    cases c with
    |flat v=>rfl
    |sl u l'=>exact ⟨_,_,rfl,by simpa using hc 0 u l' rfl⟩
  refine this _ 0 fun i u l' hi=> ?_
  rw [Nat.zero_add]
  obtain ⟨g1,g2,g3⟩:=h2 i u l' hi
  refine ⟨g1,g2,fun j v hv=> ?_⟩
  obtain ⟨a,v',g4,_,g5,g6⟩:=g3 j v hv
  obtain rfl:=g6 rfl
  exact ⟨a,g4,(hc a j _ g5).1,(hc a j _ g5).2⟩
 ·have e2:=h1 i v hv
  have hl:l≠ []:=by rintro rfl;simp [ay,aJ] at hv
  have e3:(⟨rb,0,none⟩:Addr).add i=⟨rb,i,none⟩:=by unfold Addr.add;split<;>simp_all
  rw [<- e3] at e2
  exact ⟨_,h0 hl,(hc _ i v e2).1,(hc _ i v e2).2⟩
theorem BS {hp:HP} {u:Ty} (hu:u.shallow=true) (hd: ∀cs x r tc,ct hp u cs=some (x,r,tc)-> ∃ys,cs=ys++r/\ ys.length=u.size/\ ∀av W ρ Kn Γ w,(∀m∈tc,Γ m=hp m)->St av W ρ Kn Γ w-> ∀ok,nV ok ρ Γ w tc->bN (Kp w ok) (u.aU x) (ys.map (Cell.ae ρ))):
  ∀(n:Nat) (cs:List Cell) (l:List u.T) (tc:List Nat),BR (ct hp u) n cs=some (l,tc)->l.length=n/\ ∃ys r,cs=ys++r/\ ys.length=n*u.size/\ ∀av W ρ Kn Γ w,(∀m∈tc,Γ m=hp m)->St av W ρ Kn Γ w-> ∀ok,nV ok ρ Γ w tc->bN (dQ w ok) (ay u l) (ys.map (Cell.ae ρ))
 |0,cs,l,tc,h=>by
  simp only [BR,Option.some.injEq,Prod.mk.injEq] at h
  obtain ⟨rfl,rfl⟩:=h
  exact ⟨rfl,[],cs,rfl,by simp,fun _ _ _ _ _ _ _ _ _ _=>trivial⟩
 |n+1,cs,l,tc,h=>by
  simp only [BR] at h
  split at h
  ·rename_i x r J8 h1
   split at h
   ·rename_i l1 w7 h2
    cases h
    obtain ⟨ys,rfl,hy,ha⟩:=hd _ _ _ _ h1
    obtain ⟨hl,zs,r2,rfl,hz,hb⟩:=BS hu hd n _ _ _ h2
    refine ⟨by simp [hl],ys++zs,r2,by simp,by simp [hy,hz,Nat.succ_mul,Nat.add_comm],fun av W ρ Kn Γ w ht hst ok hok=> ?_⟩
    rw [iU,List.map_append]
    exact (zu u x _ hu (ha av W ρ Kn Γ w (fun m hm=>ht m (by simp [hm])) hst ok (hok.sub fun m hm=>by simp [hm]))).append (hb av W ρ Kn Γ w (fun m hm=>ht m (by simp [hm])) hst ok (hok.sub fun m hm=>by simp [hm]))
   ·cases h
  ·cases h
theorem eB (hp:HP): ∀(t:Ty) (cs:List Cell) (x:t.T) (r:List Cell) (tc:List Nat),ct hp t cs=some (x,r,tc)->
  ∃ys,cs=ys++r/\ ys.length=t.size/\ ∀av W ρ Kn Γ w,(∀m∈tc,Γ m=hp m)->St av W ρ Kn Γ w-> ∀ok,nV ok ρ Γ w tc->bN (Kp w ok) (t.aU x) (ys.map (Cell.ae ρ))
 | .int k,cs,x,r,tc,h=>by
  simp only [ct] at h
  split at h
  ·split at h
   ·rename_i e;subst e;cases h
    exact ⟨[_],rfl,rfl,fun _ _ _ _ _ _ _ _ _ _=>⟨rfl,trivial⟩⟩
   ·cases h
  ·cases h
 | .bool,cs,x,r,tc,h=>by
  simp only [ct] at h
  split at h
  ·cases h
   exact ⟨[_],rfl,rfl,fun _ _ _ _ _ _ _ _ _ _=>⟨rfl,trivial⟩⟩
  ·cases h
 | .str,cs,x,r,tc,h=>by
  simp only [ct] at h
  split at h
  ·cases h
   exact ⟨[_],rfl,rfl,fun _ _ _ _ _ _ _ _ _ _=>⟨rfl,trivial⟩⟩
  ·cases h
 | .prod a b,cs,x,r,tc,h=>by
  simp only [ct] at h
  split at h
  ·rename_i x1 r1 J8 h1
   split at h
   ·rename_i x2 r2 w7 h2
    cases h
    obtain ⟨ys,rfl,hy,ha⟩:=eB hp a _ _ _ _ h1
    obtain ⟨zs,rfl,hz,hb⟩:=eB hp b _ _ _ _ h2
    refine ⟨ys++zs,by simp,by simp [hy,hz,Ty.size],fun av W ρ Kn Γ w ht hst ok hok=> ?_⟩
    rw [List.map_append]
    exact (ha av W ρ Kn Γ w (fun m hm=>ht m (by simp [hm])) hst ok (hok.sub fun m hm=>by simp [hm])).append (hb av W ρ Kn Γ w (fun m hm=>ht m (by simp [hm])) hst ok (hok.sub fun m hm=>by simp [hm]))
   ·cases h
  ·cases h
 | .sl u,cs,x,r,tc,h=>by
  simp only [ct] at h
  split at h
  ·rename_i c r1
   cases h
   refine ⟨[_],rfl,rfl,fun _ _ _ _ _ w _ _ _ _=>⟨⟨none,c,rfl,Nat.zero_le _,[],trivial,fun i v hv=>by simp at hv⟩,trivial⟩⟩
  ·rename_i n r1
   split at h
   ·rename_i t l rk he
    split at h
    ·rename_i l' hl
     cases h
     obtain ⟨rfl,rfl⟩:=cr hl
     refine ⟨[_],rfl,rfl,fun av W ρ Kn Γ w ht hst ok hok=>⟨?_,trivial⟩⟩
     have bQ:Γ n=some (.row t l rk):=by rw [ht n (by simp),he]
     obtain ⟨o1,_,o3,_⟩:=hst.at_ n _ bQ
     exact ⟨(ρ n).base,(ρ n).cap,by rw [Cell.ae,o1],o3,hst.Mz bQ hok (by simp)⟩
    ·cases h
   ·rename_i m s q he
    split at h
    ·rename_i t l rk Pr
     split at h
     ·rename_i l' hl
      cases h
      obtain ⟨rfl,rfl⟩:=cr hl
      refine ⟨[_],rfl,rfl,fun av W ρ Kn Γ w ht hst ok hok=>⟨?_,trivial⟩⟩
      have bQ:Γ m=some (.row t l rk):=by rw [ht m (by simp),Pr]
      obtain ⟨o1,o2,o3,_⟩:=hst.at_ m _ bQ
      obtain ⟨_,p1,p2,p3,p4⟩:=hst.at_ n _ (show Γ n=some (.alias m s q) by rw [ht n (by simp),he])
      have e1:(ρ n).len=(ov l s q).length:=by rw [pK,p1,o1]
      refine ⟨(ρ n).base,(ρ n).cap,by rw [Cell.ae,e1],by rw [<- e1];exact p3,(hst.Mz bQ hok (by simp)).part s q fun hne=> ?_⟩
      rw [p4 (by rw [e1,pK];exact hne),o2]
     ·cases h
    ·cases h
   ·rename_i t l c st kn he
    split at h
    ·rename_i g Pr
     split at h
     ·rename_i l' hl
      cases h
      obtain ⟨rfl,rfl⟩:=cr hl
      refine ⟨[_],rfl,rfl,fun av W ρ Kn Γ w ht hst ok hok=>⟨?_,trivial⟩⟩
      have bQ:Γ n=some (.dp t l c st true):=by rw [ht n (by simp),he]
      have asy:Γ c=some (.set g):=by rw [ht c (by simp),Pr]
      obtain ⟨_,o1,_,o3,sub,rb,o4,o5,o6⟩:=hst.at_ n _ bQ
      exact ⟨(ρ n).base,(ρ n).cap,by rw [Cell.ae,o1],o3,alP (hst.at_ c _ asy).2.1 (fun b hb hc=>hok.2 c (by simp) (by simp [asy]) b hb hc) o4 o5 o6⟩
     ·cases h
    ·cases h
   ·cases h
  ·rename_i n off len cap r1
   split at h
   ·rename_i hc
    simp only [Bool.and_eq_true,decide_eq_true_eq] at hc
    split at h
    ·rename_i cs e he
     split at h
     ·rename_i l J8 hl
      cases h
      obtain ⟨hlen,ys,r2,hy,hyl,ha⟩:=BS hc.1 (fun cs x r tc h=>eB hp u cs x r tc h) _ _ _ _ hl
      refine ⟨[_],rfl,rfl,fun av W ρ Kn Γ w ht hst ok hok=>⟨?_,trivial⟩⟩
      have bQ:Γ n=some (.cells cs e):=by rw [ht n (by simp),he]
      obtain ⟨b,hb,hh⟩:=hst.at_ n _ bQ
      refine ⟨some ⟨b,off,none⟩,cap,by simp [Cell.ae,addrOf,hb,hlen],by rw [hlen];exact hc.2,ys.map (Cell.ae ρ),ha av W ρ Kn Γ w (fun m hm=>ht m (by simp [hm])) hst ok (hok.sub fun m hm=>by simp [hm]),fun i v hv=>⟨_,rfl,?_,hok.2 n (by simp) (by simp [bQ]) b (.inl hb) ⟨_,_,_,hh⟩⟩⟩
      have e1:(⟨b,off,none⟩:Addr).add i=⟨b,off+i,none⟩:=by unfold Addr.add;split<;>simp_all
      have e2:cs=cs.take off++(ys++r2):=by rw [<- hy,List.take_append_drop]
      rw [e1,bL hh]
      have e3:(cs.map (Cell.ae ρ))[off+i]? =((cs.drop off).map (Cell.ae ρ))[i]? :=by rw [List.getElem?_map,List.getElem?_map,List.getElem?_drop]
      rw [e3,hy,List.map_append,List.getElem?_append_left (List.getElem?_eq_some_iff.1 hv).1];exact hv
     ·cases h
    ·cases h
   ·cases h
  ·cases h
theorem nV.Zx (ρ:Env) (Γ:HP) (w:World) (tc:List Nat):nV (Zx w) ρ Γ w tc:=⟨fun _ h=>h.1,fun _ _ _ _ _ h=>h⟩
theorem mT (hp:HP) (t:Ty) (cs:List Cell) (x:t.T) (r:List Cell) (tc:List Nat) (h:ct hp t cs=some (x,r,tc)):
  ∃ys,cs=ys++r/\ ys.length=t.size/\ ∀av W ρ Kn Γ w,(∀m∈tc,Γ m=hp m)->St av W ρ Kn Γ w->bN (Kp w (Zx w)) (t.aU x) (ys.map (Cell.ae ρ)):=by
 obtain ⟨ys,h1,h2,h3⟩:=eB hp t cs x r tc h
 exact ⟨ys,h1,h2,fun av W ρ Kn Γ w ht hst=>h3 av W ρ Kn Γ w ht hst _ (.Zx _ _ _ _)⟩
theorem adX {hp:HP} {u:Ty} (hu:u.shallow=true) (n:Nat) (cs:List Cell) (l:List u.T) (tc:List Nat) (h:BR (ct hp u) n cs=some (l,tc)):l.length=n/\ ∃ys r,cs=ys++r/\ ys.length=n*u.size/\ ∀av W ρ Kn Γ w,(∀m∈tc,Γ m=hp m)->St av W ρ Kn Γ w->bN (dQ w (Zx w)) (ay u l) (ys.map (Cell.ae ρ)):=by
 obtain ⟨h0,ys,r,h1,h2,h3⟩:=BS hu (eB hp u) n cs l tc h
 exact ⟨h0,ys,r,h1,h2,fun av W ρ Kn Γ w ht hst=>h3 av W ρ Kn Γ w ht hst _ (.Zx _ _ _ _)⟩
theorem qb {hp fh:HP} : ∀(t:Ty) (cs:List Cell),t.flat=true->ct hp t cs=ct fh t cs/\ ∀x r tc,ct hp t cs=some (x,r,tc)->tc= []
 | .int k,cs,_=>by
  refine ⟨by simp only [ct],fun x r tc h=> ?_⟩
  simp only [ct] at h
  split at h
  ·split at h
   ·cases h;rfl
   ·cases h
  ·cases h
 | .bool,cs,_=>by
  refine ⟨by simp only [ct],fun x r tc h=> ?_⟩
  simp only [ct] at h
  split at h
  ·cases h;rfl
  ·cases h
 | .str,cs,_=>by
  refine ⟨by simp only [ct],fun x r tc h=> ?_⟩
  simp only [ct] at h
  split at h
  ·cases h;rfl
  ·cases h
 | .prod a b,cs,hf=>by
  simp only [Ty.flat,Bool.and_eq_true] at hf
  refine ⟨?_,fun x r tc h=> ?_⟩
  ·simp only [ct]
   rw [(qb (hp:=hp) (fh:=fh) a cs hf.1).1]
   cases h1:ct fh a cs with
   |none=>rfl
   |some q=>
    obtain ⟨x,r,tc⟩:=q
    dsimp only
    rw [(qb (hp:=hp) (fh:=fh) b r hf.2).1]
  ·simp only [ct] at h
   split at h
   ·rename_i x1 r1 J8 h1
    split at h
    ·rename_i y r2 w7 h2
     cases h
     rw [(qb (hp:=hp) (fh:=fh) a _ hf.1).2 _ _ _ h1,(qb (hp:=hp) (fh:=fh) b _ hf.2).2 _ _ _ h2];rfl
    ·cases h
   ·cases h
 | .sl u,cs,hf=>by simp [Ty.flat] at hf
theorem Pa {hp fh:HP} {t:Ty} (hf:t.flat=true): ∀(n:Nat) (cs:List Cell) (l:List t.T) (tc:List Nat),BR (ct hp t) n cs=some (l,tc)->BR (ct fh t) n cs=some (l,[])/\ tc= []
 |0,cs,l,tc,h=>by simp only [BR,Option.some.injEq,Prod.mk.injEq] at h ⊢;obtain ⟨rfl,rfl⟩:=h;simp
 |n+1,cs,l,tc,h=>by
  simp only [BR] at h ⊢
  rw [<- (qb (hp:=hp) (fh:=fh) t cs hf).1]
  split at h
  ·rename_i x r J8 h1
   have e1:=(qb (hp:=hp) (fh:=fh) t cs hf).2 _ _ _ h1
   split at h
   ·rename_i l1 w7 h2
    obtain ⟨e2,e3⟩:=Pa (fh:=fh) hf n r l1 w7 h2
    cases h
    rw [e2,e1,e3];exact ⟨rfl,rfl⟩
   ·cases h
  ·cases h
end Go.Ev
