/- Regions in the text's order; code. -/
import Derived.Test.YtojielnkfeoccaaGreatEvE
import Derived.TacticsIn
noncomputable section
set_option linter.unusedSectionVars false
set_option linter.unusedVariables false
set_option linter.unusedSimpArgs false
namespace Go.Ev
open Go.RowKit
structure nT (ax:jh) (W:World) (df:List Deferred) (st:AS) (ρ:Env) (a:Act) (w:World):Prop where
 tmps: ∀t,dP st.tmps t≠ .dead->a.tmps.getD t undef=(dP st.tmps t).ae ρ
 size:a.tmps.size=st.tmps.length
 defers:a.defers=df
 kn: ∀t,(dP st.tmps t).ok (· <st.heap.length)
 st:St ax W ρ (· <st.heap.length) (av st.heap) w
theorem xD: ∀(l:List AV) (t:Nat),dP l t=l.getD t aT
 | [],t=>by simp [dP]
 |a::r,0=>rfl
 |a::r,t+1=>by simp [dP,xD r t]
theorem Dt (l:List AV) (d t:Nat) (v:AV):dP (l.set d v) t=if t=d/\ d<l.length then v else dP l t:=by
 simp only [xD,List.getD,List.getElem?_set]
 by_cases h:d=t
 ·subst h
  by_cases h2:d<l.length
  ·simp [h2]
  ·simp [h2]
 ·simp [h,Ne.symm h]
theorem lX {l:List AV} {d:Nat} {x:Bool} (h:dP l d=bH x):l.set d (bH x)=l:=by
 apply List.ext_getElem?
 intro j
 rw [List.getElem?_set]
 split
 ·rename_i e;subst e
  rw [xD,List.getD] at h
  split
  ·rename_i hl
   rw [List.getElem?_eq_getElem hl] at h ⊢
   simpa using h.symm
  ·rename_i hl
   rw [List.getElem?_eq_none (Nat.le_of_not_lt hl)]
 ·rfl
theorem xJ (a:Act) (dst:Option Nat) (v:Value) (t:Nat):(a.put dst v).tmps.getD t undef=match dst with|some d=>(if t=d/\ d<a.tmps.size then v else a.tmps.getD t undef)|none=>a.tmps.getD t undef:=by
 cases dst with
 |none=>rfl
 |some d=>
  simp only [Act.put,Array.getD_eq_getD_getElem?,Array.getElem?_setIfInBounds]
  by_cases h:d=t
  ·subst h
   by_cases h2:d<a.tmps.size
   ·simp [h2]
   ·simp [h2]
  ·simp [h,Ne.symm h]
theorem ef: ∀(ws:List (Nat×aQ)) (h:List aQ),(ws.foldl (fun h p=>h.set p.1 p.2) h).length=h.length
 | [],_=>rfl
 |p::r,h=>by simp only [List.foldl_cons];rw [ef r];simp
theorem wU: ∀(ws:List (Nat×aQ)) (h:List aQ),(∀p∈ws,p.1<h.length)-> ∀m,(ws.foldl (fun h p=>h.set p.1 p.2) h)[m]? =match ct ws m with|some o=>some o|none=>h[m]?
 | [],_,_,m=>by simp [ct]
 |p::r,h,hl,m=>by
  simp only [List.foldl_cons]
  rw [wU r _ (fun q hq=>by simpa using hl q (by simp [hq]))]
  simp only [ct]
  cases hr:ct r m with
  |some o=>rfl
  |none=>
   simp only [List.getElem?_set]
   by_cases e:p.1=m
   ·subst e;simp [hl p (by simp)]
   ·simp [e]
theorem l8 (st:AS) (dst:Option Nat) (r:Rec):(st.app dst r).heap.length=st.heap.length+r.fresh.length:=by
 simp [AS.app,ef]
theorem I7 (st:AS) (dst:Option Nat) (r:Rec) (hw: ∀p∈r.writes,av st.heap p.1≠none):av (st.app dst r).heap=cq r st.heap.length (av st.heap):=by
 have hl: ∀p∈r.writes,p.1<st.heap.length:=fun p hp=>by
  rcases Nat.lt_or_ge p.1 st.heap.length with h|h
  ·exact h
  ·exact absurd (by rw [bP,List.getElem?_eq_none h];rfl) (hw p hp)
 funext m
 simp only [cq,bP,AS.app]
 by_cases h:st.heap.length<=m/\ m<st.heap.length+r.fresh.length
 ·rw [if_pos h,List.getElem?_append_right (by rw [ef];exact h.1),ef]
 ·rw [if_neg h]
  rcases Nat.lt_or_ge m st.heap.length with h2|h2
  ·rw [List.getElem?_append_left (by rw [ef];exact h2),wU _ _ hl]
   cases ct r.writes m<;>rfl
  ·have hnone:ct r.writes m=none:=by
    have: ∀(ws:List (Nat×aQ)),(∀p∈ws,p.1<st.heap.length)->ct ws m=none:=by
     intro ws
     induction ws with
     |nil=>intro _;rfl
     |cons p q ih=>
      intro hh
      simp only [ct,ih (fun x hx=>hh x (by simp [hx]))]
      have:=hh p (by simp)
      rw [if_neg (by omega)]
    exact this _ hl
   rw [hnone,List.getElem?_eq_none (by simp [ef];omega),List.getElem?_eq_none h2]
theorem pB (l:List AV) (d:Option Nat) (v:AV):(jb l d v).length=l.length:=by cases d<;>simp [jb]
theorem jF (l:List AV) (d:Option Nat) (v:AV) (t:Nat):dP (jb l d v) t=match d with|some d=>(if t=d/\ d<l.length then v else dP l t)|none=>dP l t:=by
 cases d<;>simp [jb,Dt]
section
variable {ax:jh} {W:World} {df:List Deferred} {st:AS} {ρ:Env} {a:Act} {w:World}
theorem nT.eval (h:nT ax W df st ρ a w) (x:Operand) (hx:fM st.tmps x≠ .dead):a.eval x=(fM st.tmps x).ae ρ:=by
 cases x with
 |tmp t=>exact h.tmps t hx
 |const v=>exact (sI v ρ).symm
 |global g=>rfl
 |func f=>rfl
theorem nT.Sk (h:nT ax W df st ρ a w) (x:Operand):(fM st.tmps x).ok (· <st.heap.length):=by
 cases x with
 |tmp t=>exact h.kn t
 |const v=>exact zy _ _
 |global g=>trivial
 |func f=>exact fun r hr=>absurd hr (by simp)
theorem xK (a:Act) (d:Option Nat) (v:Value):(a.put d v).tmps.size=a.tmps.size:=by cases d<;>simp [Act.put]
theorem put_defers (a:Act) (d:Option Nat) (v:Value):(a.put d v).defers=a.defers:=by cases d<;>rfl
theorem nT.app (h:nT ax W df st ρ a w) {dst:Option Nat} {r:Rec} (hw: ∀p∈r.writes,av st.heap p.1≠none) {ρ':Env} {w':World} (l5: ∀m,m<st.heap.length->ρ' m=ρ m)
  (IU:r.val.ok (iK (· <st.heap.length) st.heap.length r)) (hst:St ax W ρ' (iK (· <st.heap.length) st.heap.length r) (cq r st.heap.length (av st.heap)) w'):
  nT ax W df (st.app dst r) ρ' (a.put dst (r.val.ae ρ')) w':=by
 have hkn:iK (· <st.heap.length) st.heap.length r=(· <(st.app dst r).heap.length):=by
  funext m;rw [l8];simp only [iK];apply propext;omega
 rw [hkn,<- I7 st dst r hw] at hst
 rw [hkn] at IU
 refine ⟨fun t=> ?_,by rw [xK,h.size];simp [AS.app,pB],by rw [put_defers,h.defers],fun t=> ?_,hst⟩
 ·rw [xJ]
  simp only [AS.app,jF]
  have hold:dP st.tmps t≠ .dead->a.tmps.getD t undef=(dP st.tmps t).ae ρ':=fun hd=>by rw [h.tmps t hd];exact (AV.bX l5 _ (h.kn t)).symm
  cases dst with
  |none=>exact hold
  |some d=>
   simp only [h.size]
   split
   ·intro _;rfl
   ·exact hold
 ·have hold:(dP st.tmps t).ok (· <(st.app dst r).heap.length):=AV.bC (fun m hm=>by rw [l8];omega) _ (h.kn t)
  simp only [AS.app,jF]
  cases dst with
  |none=>exact hold
  |some d=>
   dsimp only
   split
   ·exact IU
   ·exact hold
theorem nT.skip (h:nT ax W df st ρ a w) (dst:Option Nat):nT ax W df {st with tmps:=jb st.tmps dst aT} ρ (a.put dst undef) w:=by
 refine ⟨fun t=> ?_,by rw [xK,h.size];simp [pB],by rw [put_defers,h.defers],fun t=> ?_,h.st⟩
 ·rw [xJ]
  simp only [jF]
  cases dst with
  |none=>exact h.tmps t
  |some d=>
   simp only [h.size]
   split
   ·intro _;rfl
   ·exact h.tmps t
 ·simp only [jF]
  cases dst with
  |none=>exact h.kn t
  |some d=>
   dsimp only
   split
   ·exact nQ _
   ·exact h.kn t
def kE (π:List Src) (Γ:HP) (ρ:Env):Env:=fun n=>match π[n]? with
 |some (.same m)=>ρ m
 |some .nil=>match Γ n with
  |some (.row t _ _)=> {es:=t.size}
  |_=> {}
 |some (.cells m len)=>match Γ n with
  |some (.row t _ _)=> {blk:=(ρ m).blk,base:=addrOf ρ m 0,len:=len,cap:=len,es:=t.size}
  |_=> {base:=addrOf ρ m 0,len:=len,cap:=len}
 |some (.mt m off)=>match Γ n with
  |some (.row t _ _)=> {base:=addrOf ρ m off,es:=t.size}
  |_=> {base:=addrOf ρ m off}
 |some (.any m)=>ρ m
 |none=> {}
section
variable {π:List Src} {Γ:HP}
theorem mO {n m:Nat} (h:π[n]? =some (.same m)):kE π Γ ρ n=ρ m:=by simp [kE,h]
theorem bp {n m:Nat} (h:iN π n=some m):kE π Γ ρ n=ρ m/\ n<π.length:=by
 unfold iN at h
 split at h
 ·rename_i m' he
  cases h
  exact ⟨mO he,(List.getElem?_eq_some_iff.1 he).1⟩
 ·cases h
theorem qK: ∀(l m:List Ref),jl π l=some m->l.map (Ref.ae (kE π Γ ρ))=m.map (Ref.ae ρ)/\ ∀r∈l,r.ok (· <π.length)
 | [],m,h=>by simp only [jl,Option.some.injEq] at h;subst h;simp
 |r::l,m,h=>by
  simp only [jl] at h
  split at h
  ·rename_i q m' h1 h2
   cases h
   obtain ⟨e1,e2⟩:=qK l m' h2
   have h3:r.ae (kE π Γ ρ)=q.ae ρ/\ r.ok (· <π.length):=by
    cases r with
    |ext v=>simp only [nI,Option.some.injEq] at h1;subst h1;exact ⟨rfl,trivial⟩
    |loc n o=>
     simp only [nI] at h1
     split at h1
     ·rename_i k hk;cases h1
      obtain ⟨e3,e4⟩:=bp (Γ:=Γ) (ρ:=ρ) hk
      exact ⟨by simp [Ref.ae,addrOf,e3],e4⟩
     ·cases h1
    |elem n j=>
     simp only [nI] at h1
     split at h1
     ·rename_i k hk;cases h1
      obtain ⟨e3,e4⟩:=bp (Γ:=Γ) (ρ:=ρ) hk
      exact ⟨by simp [Ref.ae,e3],e4⟩
     ·cases h1
    |full n=>
     simp only [nI] at h1
     split at h1
     ·rename_i k hk;cases h1
      obtain ⟨e3,e4⟩:=bp (Γ:=Γ) (ρ:=ρ) hk
      exact ⟨by simp [Ref.ae,e3],e4⟩
     ·cases h1
    |mp n=>
     simp only [nI] at h1
     split at h1
     ·rename_i k hk;cases h1
      obtain ⟨e3,e4⟩:=bp (Γ:=Γ) (ρ:=ρ) hk
      exact ⟨by simp [Ref.ae,e3],e4⟩
     ·cases h1
   refine ⟨by simp [h3.1,e1],fun x hx=> ?_⟩
   rcases List.mem_cons.1 hx with rfl|hx
   ·exact h3.2
   ·exact e2 x hx
  ·cases h
theorem F9: ∀(c q:Cell),jt π c=some q->c.ae (kE π Γ ρ)=q.ae ρ/\ c.ok (· <π.length)
 | .raw v,q,h=>by simp only [jt,Option.some.injEq] at h;subst h;exact ⟨rfl,trivial⟩
 | .ptr n o,q,h=>by
  simp only [jt] at h
  split at h
  ·rename_i k hk;cases h
   obtain ⟨e3,e4⟩:=bp (Γ:=Γ) (ρ:=ρ) hk
   exact ⟨by simp [Cell.ae,addrOf,e3],e4⟩
  ·cases h
 | .kC n o,q,h=>by
  simp only [jt] at h
  split at h
  ·rename_i k hk;cases h
   obtain ⟨e3,e4⟩:=bp (Γ:=Γ) (ρ:=ρ) hk
   exact ⟨by simp [Cell.ae,addrOf,e3],e4⟩
  ·cases h
 | .sl n o l c,q,h=>by
  simp only [jt] at h
  split at h
  ·rename_i k hk;cases h
   obtain ⟨e3,e4⟩:=bp (Γ:=Γ) (ρ:=ρ) hk
   exact ⟨by simp [Cell.ae,addrOf,e3],e4⟩
  ·cases h
 | .bA n j z,q,h=>by
  simp only [jt] at h
  split at h
  ·rename_i k hk;cases h
   obtain ⟨e3,e4⟩:=bp (Γ:=Γ) (ρ:=ρ) hk
   exact ⟨by simp [Cell.ae,e3],e4⟩
  ·cases h
 | .fq n j z,q,h=>by
  simp only [jt] at h
  split at h
  ·rename_i k hk;cases h
   obtain ⟨e3,e4⟩:=bp (Γ:=Γ) (ρ:=ρ) hk
   exact ⟨by simp [Cell.ae,e3],e4⟩
  ·cases h
 | .nU n,q,h=>by
  simp only [jt] at h
  split at h
  ·rename_i k hk;cases h
   obtain ⟨e3,e4⟩:=bp (Γ:=Γ) (ρ:=ρ) hk
   exact ⟨by simp [Cell.ae,e3],e4⟩
  ·cases h
 | .mp n,q,h=>by
  simp only [jt] at h
  split at h
  ·rename_i k hk;cases h
   obtain ⟨e3,e4⟩:=bp (Γ:=Γ) (ρ:=ρ) hk
   exact ⟨by simp [Cell.ae,e3],e4⟩
  ·cases h
 | .mv f a rs,q,h=>by
  simp only [jt] at h
  split at h
  ·rename_i k hk;cases h
   obtain ⟨e3,e4⟩:=qK (Γ:=Γ) (ρ:=ρ) _ _ hk
   exact ⟨by simp only [Cell.ae,e3],e4⟩
  ·cases h
 | .eN f a cap,q,h=>by
  simp only [jt] at h
  split at h
  ·rename_i k hk;cases h
   obtain ⟨e3,e4⟩:=qK (Γ:=Γ) (ρ:=ρ) _ _ hk
   exact ⟨by simp only [Cell.ae,e3],e4⟩
  ·cases h
 | .full n,q,h=>by
  simp only [jt] at h
  split at h
  ·rename_i m he
   cases h
   exact ⟨by simp [Cell.ae,mO he],(List.getElem?_eq_some_iff.1 he).1⟩
  ·rename_i he
   cases h
   refine ⟨?_,(List.getElem?_eq_some_iff.1 he).1⟩
   simp only [Cell.ae,kE,he]
   split<;>rfl
  ·rename_i m len he
   cases h
   refine ⟨?_,(List.getElem?_eq_some_iff.1 he).1⟩
   simp only [Cell.ae,kE,he]
   split<;>rfl
  ·rename_i m off he
   cases h
   refine ⟨?_,(List.getElem?_eq_some_iff.1 he).1⟩
   simp only [Cell.ae,kE,he]
   split<;>rfl
  ·rename_i m he
   cases h
   exact ⟨by simp only [Cell.ae,kE,he],(List.getElem?_eq_some_iff.1 he).1⟩
  ·cases h
theorem kP: ∀(l m:List Cell),iY π l=some m->l.map (Cell.ae (kE π Γ ρ))=m.map (Cell.ae ρ)/\ ∀r∈l,r.ok (· <π.length)
 | [],m,h=>by simp only [iY,Option.some.injEq] at h;subst h;simp
 |r::l,m,h=>by
  simp only [iY] at h
  split at h
  ·rename_i q m' h1 h2
   cases h
   obtain ⟨e1,e2⟩:=kP l m' h2
   obtain ⟨e3,e4⟩:=F9 (Γ:=Γ) (ρ:=ρ) _ _ h1
   refine ⟨by simp [e3,e1],fun x hx=> ?_⟩
   rcases List.mem_cons.1 hx with rfl|hx
   ·exact e4
   ·exact e2 x hx
  ·cases h
theorem F8 (a q:A0) (h:EL π a=some q):a.ae (kE π Γ ρ)=q.ae ρ/\ a.ok (· <π.length):=by
 cases a with
 |one c=>
  simp only [EL] at h
  split at h
  ·rename_i k hk;cases h;exact F9 _ _ hk
  ·cases h
 |agg cs=>
  simp only [EL] at h
  split at h
  ·rename_i k hk;cases h
   obtain ⟨e1,e2⟩:=kP (Γ:=Γ) (ρ:=ρ) _ _ hk
   exact ⟨by simp only [A0.ae,e1],e2⟩
  ·cases h
theorem DE: ∀(l m:List A0),jG π l=some m->l.map (A0.ae (kE π Γ ρ))=m.map (A0.ae ρ)/\ ∀r∈l,r.ok (· <π.length)
 | [],m,h=>by simp only [jG,Option.some.injEq] at h;subst h;simp
 |r::l,m,h=>by
  simp only [jG] at h
  split at h
  ·rename_i q m' h1 h2
   cases h
   obtain ⟨e1,e2⟩:=DE l m' h2
   obtain ⟨e3,e4⟩:=F8 (Γ:=Γ) (ρ:=ρ) _ _ h1
   refine ⟨by simp [e3,e1],fun x hx=> ?_⟩
   rcases List.mem_cons.1 hx with rfl|hx
   ·exact e4
   ·exact e2 x hx
  ·cases h
theorem Ga (a q:AV) (h:zG π a=some q):a.ae (kE π Γ ρ)=q.ae ρ/\ a.ok (· <π.length):=by
 cases a with
 |v a=>
  simp only [zG] at h
  split at h
  ·rename_i k hk;cases h;exact F8 _ _ hk
  ·cases h
 |lZ l=>
  simp only [zG] at h
  split at h
  ·rename_i k hk;cases h
   obtain ⟨e1,e2⟩:=DE (Γ:=Γ) (ρ:=ρ) _ _ hk
   exact ⟨by simp only [AV.ae,e1],e2⟩
  ·cases h
 |dead=>cases h
theorem qS: ∀(l m:List AV),GV π l m->m.length=l.length/\ ∀t,dP m t= .dead\/ zG π (dP m t)=some (dP l t)
 | [],[],_=>⟨rfl,fun t=> .inr rfl⟩
 |x::r,.dead::s,h=>by
  obtain ⟨h1,h2⟩:=qS r s h
  exact ⟨by simp [h1],fun t=>by cases t with|zero=>exact .inl rfl|succ t=>exact h2 t⟩
 |x::r,.v y::s,h=>by
  obtain ⟨h1,h2⟩:=qS r s h.2
  exact ⟨by simp [h1],fun t=>by cases t with|zero=>exact .inr h.1|succ t=>exact h2 t⟩
 |x::r,.lZ y::s,h=>by
  obtain ⟨h1,h2⟩:=qS r s h.2
  exact ⟨by simp [h1],fun t=>by cases t with|zero=>exact .inr h.1|succ t=>exact h2 t⟩
 | [],_::_,h=>h.elim
 |_::_,[],h=>h.elim
theorem CX {h0:List aQ} : ∀(ss:List Src) (l:List aQ),qW π h0 ss l->ss.length=l.length/\ ∀n o,av l n=some o-> ∃s,ss[n]? =some s/\ Bn π h0 s o
 | [],[],_=>⟨rfl,fun n o ho=>by simp [av] at ho⟩
 |s::r,o::l,h=>by
  have main:qW π h0 r l->(av (o::l) 0=some o->Bn π h0 s o)->(s::r).length=(o::l).length/\ ∀n p,av (o::l) n=some p-> ∃q,(s::r)[n]? =some q/\ Bn π h0 q p:=fun h1 h2=>by
   obtain ⟨e1,e2⟩:=CX r l h1
   refine ⟨by simp [e1],fun n p hp=> ?_⟩
   cases n with
   |zero=>
    have:p=o:=by
     rw [bP] at hp
     cases o<;>simp_all [live]
    subst this
    exact ⟨s,rfl,h2 hp⟩
   |succ n=>exact e2 n p (by simpa [av] using hp)
  cases o with
  |gone=>exact main h fun h=>by simp [av] at h
  |_=>exact main h.2 fun _=>h.1
 | [],_::_,h=>by unfold qW at h;exact h.elim
 |_::_,[],h=>by unfold qW at h;exact h.elim
theorem K4: ∀(ss:List Src) (l:List aQ) (n m:Nat) (s:Src),(av l n).isSome=true->ss[n]? =some s->EV s=some m->m∈ua ss l
 | [],_,n,m,s,_,h,_=>by simp at h
 |_::_,[],n,m,s,h,_,_=>by simp [av] at h
 |q::r,o::l,n,m,s,h1,h2,h3=>by
  have tail: ∀k,n=k+1->m∈ua r l:=fun k e=>by
   subst e
   exact K4 r l k m s (by simpa [av] using h1) (by simpa using h2) h3
  cases n with
  |zero=>
   simp only [List.getElem?_cons_zero,Option.some.injEq] at h2
   subst h2
   cases o with
   |gone=>simp [av] at h1
   |_=>simp [ua,h3]
  |succ n=>
   have:=tail n rfl
   cases o with
   |gone=>exact this
   |_=>simp only [ua];split<;>simp [this]
theorem K3: ∀(ss:List Src) (l:List aQ),(ua ss l).Nodup-> ∀n n' m s s',(av l n).isSome=true->(av l n').isSome=true->ss[n]? =some s->ss[n']? =some s'->EV s=some m->EV s'=some m->n=n'
 | [],_,_,n,_,_,s,_,_,_,h,_,_,_=>by simp at h
 |_::_,[],_,n,_,_,s,_,h,_,_,_,_,_=>by simp [av] at h
 |q::r,o::l,hn,n,n',m,s,s',h1,h2,h3,h4,h5,h6=>by
  have hz: ∀k,(av (o::l) 0).isSome=true->EV q=some m->(av (o::l) (k+1)).isSome=true-> ∀s,(q::r)[k+1]? =some s->EV s=some m->False:=fun k g1 g2 g3 s g4 g5=>by
   have:=K4 r l k m s (by simpa [av] using g3) (by simpa using g4) g5
   cases o with
   |gone=>simp [av] at g1
   |_=>
    simp only [ua,g2] at hn
    exact (List.nodup_cons.1 hn).1 this
  have hr:(ua r l).Nodup:=by
   cases o with
   |gone=>exact hn
   |_=>
    simp only [ua] at hn
    split at hn
    ·exact (List.nodup_cons.1 hn).2
    ·exact hn
  cases n with
  |zero=>
   cases n' with
   |zero=>rfl
   |succ n'=>
    simp only [List.getElem?_cons_zero,Option.some.injEq] at h3
    subst h3
    exact (hz n' h1 h5 h2 s' h4 h6).elim
  |succ n=>
   cases n' with
   |zero=>
    simp only [List.getElem?_cons_zero,Option.some.injEq] at h4
    subst h4
    exact (hz n h2 h6 h1 s h3 h5).elim
   |succ n'=>
    rw [K3 r l hr n n' m s s' (by simpa [av] using h1) (by simpa [av] using h2) (by simpa using h3) (by simpa using h4) h5 h6]
theorem r7: ∀(n:Nat),zk π n=true-> ∀m,m<n->π[m]? =some (.same m)
 |0,_,m,hm=>by omega
 |n+1,h,m,hm=>by
  simp only [zk,Bool.and_eq_true] at h
  by_cases e:m=n
  ·subst e
   have h1:=h.1
   split at h1
   ·rename_i k hk
    rw [hk];simp at h1;rw [h1]
   ·cases h1
  ·exact r7 n h.2 m (by omega)
end
theorem Kv {π:List Src} {g c:Nat} {es:Array MapEntry} {ck:Nat} {ka:Bool} {k u:Ty} {l:List (k.T×List u.T)} {cur:Option (k.T×Nat)} {p:aQ} (h:gg π (.rj g c es ck ka k u l cur)=some p):
  ∃m d cur',iN π g=some m/\ iN π c=some d/\ (∀q,cur=some q-> ∃q',iN π q.2=some q'/\ cur'=some (q.1,q'))/\ p= .rj m d es ck ka k u l cur':=by
 simp only [gg] at h
 cases h1:iN π g with
 |none=>rw [h1] at h;cases h
 |some m=>
  cases h2:iN π c with
  |none=>rw [h1,h2] at h;cases h
  |some d=>
   rw [h1,h2] at h
   cases cur with
   |none=>
    cases h
    exact ⟨m,d,none,rfl,rfl,fun q hq=>(by cases hq),rfl⟩
   |some q=>
    obtain ⟨a,q⟩:=q
    dsimp only at h
    cases h3:iN π q with
    |none=>rw [h3] at h;cases h
    |some q'=>
     rw [h3] at h
     cases h
     exact ⟨m,d,_,rfl,rfl,fun p hp=>(by cases hp;exact ⟨q',h3,rfl⟩),rfl⟩
theorem nT.abW (h:nT ax W df st ρ a w) {st':AS} {π:List Src} (hw:Ren π st st'):nT ax W df st' (kE π (av st'.heap) ρ) a w:=by
 obtain ⟨hl,ht⟩:=qS _ _ hw.tmps
 obtain ⟨Bl,hh⟩:=CX _ _ hw.heap
 have ur:=sG hw.inj
 let ρ':=kE π (av st'.heap) ρ
 have hlt: ∀n o,av st'.heap n=some o->n<st'.heap.length:=fun n o ho=>by
  rcases Nat.lt_or_ge n st'.heap.length with hn|hn
  ·exact hn
  ·simp [av,List.getElem?_eq_none hn] at ho
 have hsrc: ∀n b,(av st'.heap n).isSome=true->(ρ' n).has b-> ∃s m,π[n]? =some s/\ EV s=some m/\ (av st.heap m).isSome=true/\ (ρ m).has b:=fun n b hn hb=>by
  obtain ⟨o,ho⟩:=Option.isSome_iff_exists.1 hn
  obtain ⟨s,hs,mw⟩:=hh n o ho
  cases s with
  |same m=>
   obtain ⟨p,hp,_⟩:=mw
   refine ⟨_,m,hs,rfl,by simp [hp],?_⟩
   rw [<- show ρ' n=ρ m from mO hs];exact hb
  |nil=>
   obtain ⟨t,rk,rfl,_⟩:=mw
   simp only [ρ',kE,hs,ho] at hb;exact absurd (iC.1 hb) (fun h=>by cases h)
  |mt m off=>
   obtain ⟨t,cs,e,rfl,_⟩:=mw
   simp only [ρ',kE,hs,ho] at hb;exact absurd (iC.1 hb) (fun h=>by cases h)
  |any m=>
   obtain ⟨t,l,rk,rfl,hp,_⟩:=mw
   simp only [ρ',kE,hs] at hb
   exact ⟨_,m,hs,rfl,by simp [hp],hb⟩
  |cells m len=>
   obtain ⟨t,l,cs,e,rk,rfl,_,hp,_⟩:=mw
   simp only [ρ',kE,hs,ho] at hb
   exact ⟨_,m,hs,rfl,by simp [hp],.inl (iC.1 hb)⟩
 have Bj: ∀b,HI (av st'.heap) b->HI (av st.heap) b:=fun b ⟨n,S,h1,h2⟩=>by
  obtain ⟨s,hs,mw⟩:=hh n _ h1
  cases s with
  |same m=>
   obtain ⟨p,hp,hr⟩:=mw
   simp only [gg,Option.some.injEq] at hr
   subst hr
   exact ⟨m,S,hp,h2⟩
  |nil=>obtain ⟨_,_,e,_⟩:=mw;cases e
  |mt m off=>obtain ⟨_,_,_,e,_⟩:=mw;cases e
  |any m=>obtain ⟨_,_,_,e,_⟩:=mw;cases e
  |cells m len=>obtain ⟨_,_,_,_,_,e,_⟩:=mw;cases e
 have hfz: ∀b,gW ρ (av st.heap) w b->gW ρ' (av st'.heap) w b/\ w.heap[b]? =w.heap[b]? :=fun b hb=>by
  refine ⟨⟨hb.1,?_⟩,rfl⟩
  rintro (⟨n,h1,h2⟩|⟨n,S,h1,h2⟩)
  ·obtain ⟨s,m,_,_,h5,h6⟩:=hsrc n b h1 h2
   exact hb.2 (.inl ⟨m,h5,h6⟩)
  ·exact hb.2 (.inr (Bj b ⟨n,S,h1,h2⟩))
 show nT ax W df st' ρ' a w
 refine ⟨fun t hd=> ?_,by rw [h.size,hl],h.defers,fun t=> ?_,⟨h.st.fr,fun n o ho=> ?_,fun n o ho=> ?_,fun n n' b hn hn' hb hb'=> ?_,fun n b hn hb=> ?_,fun b BS=> ?_,fun n o ho=> ?_⟩⟩
 rotate_right
 ·obtain ⟨s,hs,mw⟩:=hh n o ho
  cases s with
  |same m=>
   obtain ⟨p,hp,hr⟩:=mw
   rw [show ρ' n=ρ m from mO hs]
   rcases h.st.vX m p hp with ⟨g,rfl⟩|he
   ·cases o with
    |set g'=>exact .inl ⟨_,rfl⟩
    |_=>
     simp only [gg] at hr
     first
     |(cases hr;done)
     |(split at hr<;>cases hr)
     |(split at hr<;>first|(cases hr;done)|(split at hr<;>cases hr))
   ·exact .inr he
  |nil=>
   obtain ⟨t,rk,rfl,_⟩:=mw
   exact .inr (by simp only [ρ',kE,hs,ho])
  |mt m off=>
   obtain ⟨t,cs,e,rfl,_⟩:=mw
   exact .inr (by simp only [ρ',kE,hs,ho])
  |any m=>
   obtain ⟨t,l,rk,rfl,hp,_⟩:=mw
   refine .inr ?_
   simp only [ρ',kE,hs]
   exact (h.st.vX m _ hp).elim (fun ⟨_,e⟩=>by cases e) id
  |cells m len=>
   obtain ⟨t,l,cs,e,rk,rfl,_⟩:=mw
   exact .inr (by simp only [ρ',kE,hs,ho])
 rotate_right
 ·obtain ⟨h1,h2⟩:=h.st.wZ b (Bj b BS)
  refine ⟨h1,?_⟩
  rintro ⟨n,h3,h4⟩
  obtain ⟨s,m,_,_,h5,h6⟩:=hsrc n b h3 h4
  exact h2 ⟨m,h5,h6⟩
 ·rcases ht t with e|e
  ·exact absurd e hd
  ·have hne:dP st.tmps t≠ .dead:=fun e2=>by
    rw [e2] at e
    revert e;cases dP st'.tmps t<;>simp only [zG]<;>(try split)<;>intro e<;>cases e
   rw [h.tmps t hne]
   exact (Ga _ _ e).1.symm
 ·rcases ht t with e|e
  ·rw [e];trivial
  ·rw [<- Bl];exact (Ga (Γ:=av st'.heap) (ρ:=ρ) _ _ e).2
 ·obtain ⟨s,hs,mw⟩:=hh n o ho
  cases s with
  |same m=>
   obtain ⟨p,hp,hr⟩:=mw
   have hn:ρ' n=ρ m:=mO hs
   have bD:=h.st.at_ m p hp
   cases o with
   |cells cs e=>
    simp only [gg] at hr
    split at hr
    ·rename_i q hq
     cases hr
     obtain ⟨b,hb,Xo⟩:=bD
     exact ⟨b,by rw [hn];exact hb,by rw [Xo,(kP (Γ:=av st'.heap) (ρ:=ρ) _ _ hq).1]⟩
    ·cases hr
   |row t l rk=>
    simp only [gg,Option.some.injEq] at hr
    subst hr
    obtain ⟨o1,o2,o3,sub,o4⟩:=bD
    rw [bu,hn]
    exact ⟨o1,o2,o3,sub,o4.keep hfz (fun _ _ h=>h) fun _ _=>rfl⟩
   |alias k z q=>
    simp only [gg] at hr
    split at hr
    ·rename_i k' hk
     cases hr
     have:=(bp (Γ:=av st'.heap) (ρ:=ρ) hk).1
     rw [bu,hn,show ρ' k=ρ k' from this]
     exact bD
    ·cases hr
   |gone=>cases hr
   |loop r z j=>
    simp only [gg,Option.some.injEq] at hr
    subst hr
    obtain ⟨b,hb,Xo⟩:=bD
    exact ⟨b,by rw [hn];exact hb,Xo⟩
   |ga S=>
    simp only [gg,Option.some.injEq] at hr
    subst hr
    rw [bu,hn];exact bD
   |IV ka va kt vt l y a m=>simp [gg] at hr
   |map ka va kt vt l=>
    simp only [gg,Option.some.injEq] at hr
    subst hr
    rw [bu,hn];exact bD
   |eJ mI n0=>
    simp only [gg] at hr
    split at hr
    ·rename_i hf
     cases hr
     exact ⟨by rw [hn];exact bD.1,fun i hi=>by rw [show ρ' i=ρ i from mO (r7 n0 hf i hi)];exact bD.2 i hi⟩
    ·cases hr
   |dp t l c s0 kn=>
    simp only [gg] at hr
    split at hr
    ·rename_i c' hc
     cases hr
     have:=(bp (Γ:=av st'.heap) (ρ:=ρ) hc).1
     rw [bu,hn,show ρ' c=ρ c' from this]
     exact bD
    ·cases hr
   |nv g c j q u=>
    simp only [gg] at hr
    split at hr
    ·rename_i g' c' hg hc
     cases hr
     have e:=(bp (Γ:=av st'.heap) (ρ:=ρ) hc).1
     have e':=(bp (Γ:=av st'.heap) (ρ:=ρ) hg).1
     rw [bu,hn,show ρ' c=ρ c' from e,show ρ' g=ρ g' from e'];exact bD
    ·cases hr
   |jO ka k u l c q=>
    simp only [gg] at hr
    split at hr
    ·rename_i c' hc
     cases hr
     have e:=(bp (Γ:=av st'.heap) (ρ:=ρ) hc).1
     rw [bu,hn,show ρ' c=ρ c' from e];exact bD
    ·cases hr
   |set g=>
    simp only [gg] at hr
    split at hr
    ·cases hr
     rw [bu,hn];exact bD
    ·cases hr
   |gv g c k u x l=>
    simp only [gg] at hr
    split at hr
    ·rename_i g' c' hg hc
     cases hr
     have e:=(bp (Γ:=av st'.heap) (ρ:=ρ) hc).1
     rw [bu,hn,show ρ' c=ρ c' from e];exact bD
    ·cases hr
   |rc cs=>
    simp only [gg] at hr
    split at hr
    ·rename_i q hq
     cases hr
     rw [bu,hn]
     refine ⟨bD.1,fun i c hc=> ?_⟩
     have e:=(kP (Γ:=av st'.heap) (ρ:=ρ) _ _ hq).1
     have e1:(cs.map (Cell.ae ρ'))[i]? =some (c.ae ρ'):=by rw [List.getElem?_map,hc];rfl
     rw [show cs.map (Cell.ae ρ')=q.map (Cell.ae ρ) from e,List.getElem?_map] at e1
     obtain ⟨d,hd,e2⟩:=Option.map_eq_some_iff.1 e1
     rw [<- e2]
     obtain ⟨a,h1,h2,h3⟩:=bD.2 i d hd
     exact ⟨a,h1,h2,(hfz _ h3).1⟩
    ·cases hr
   |hmap es ck=>
    simp only [gg,Option.some.injEq] at hr
    subst hr
    rw [bu,hn];exact bD
   |rj g c es ck ka k u l cur=>
    have key: ∀(m' d:Nat) (cur':Option (k.T×Nat)),iN π g=some m'->iN π c=some d->(∀q,cur=some q-> ∃q',iN π q.2=some q'/\ cur'=some (q.1,q'))->bu (gW ρ (av st.heap) w) (B7 ax W) ρ m (.rj m' d es ck ka k u l cur') w->bu (gW ρ' (av st'.heap) w) (B7 ax W) ρ' n (.rj g c es ck ka k u l cur) w:=by
     intro m' d cur' hg hc ac0 bD
     have e1:ρ' g=ρ m':=(bp (Γ:=av st'.heap) (ρ:=ρ) hg).1
     have e2:ρ' c=ρ d:=(bp (Γ:=av st'.heap) (ρ:=ρ) hc).1
     rw [bu] at bD
     rw [bu,hn,e1,e2]
     obtain ⟨a1,a2,a3,b,since,seen,c0,a4,a5,a6,a7,a8,a9,a10,a11⟩:=bD
     refine ⟨a1,a2,a3,b,since,seen,c0,a4,a5,a6,a7,a8,a9,a10,fun q hq=> ?_⟩
     obtain ⟨q',h1,h2⟩:=ac0 q hq
     have e3:ρ' q.2=ρ q':=(bp (Γ:=av st'.heap) (ρ:=ρ) h1).1
     rw [e3]
     exact a11 _ h2
    obtain ⟨m',d,cur',h1,h2,h3,rfl⟩:=Kv hr
    exact key m' d cur' h1 h2 h3 bD
  |nil=>
   obtain ⟨t,rk,rfl,o7⟩:=mw
   have e:ρ' n= {es:=t.size} :=by simp only [ρ',kE,hs,ho]
   rw [bu,e]
   exact ⟨rfl,rfl,Nat.le_refl _,fun _=>(none,0),fun i v hv=>by simp [ai,aF] at hv,fun q u l' hq=>by simp [ai] at hq,fun e=>absurd e o7,fun _=> .inl ⟨rfl,rfl,rfl,fun _=>rfl⟩⟩
  |mt m off=>
   obtain ⟨t,cs,e,rfl,hp⟩:=mw
   have e1:ρ' n= {base:=addrOf ρ m off,es:=t.size} :=by simp only [ρ',kE,hs,ho]
   rw [bu,e1]
   exact ⟨rfl,rfl,Nat.le_refl _,fun _=>(none,0),fun i v hv=>by simp [ai,aF] at hv,fun q u l' hq=>by simp [ai] at hq,fun e=>(by cases e),fun _=> .inl ⟨rfl,rfl,rfl,fun q=>absurd rfl q⟩⟩
  |any m=>
   obtain ⟨t,l,rk,rfl,hp,o7⟩:=mw
   have e1:ρ' n=ρ m:=by simp only [ρ',kE,hs]
   obtain ⟨o1,o2,o3,sub,o4⟩:=h.st.at_ m _ hp
   obtain ⟨m1,m2,m3,m4⟩:=o4.keep (Zw:=gW ρ' (av st'.heap) w) (pm':=B7 ax W) hfz (fun _ _ h=>h) fun _ _=>rfl
   rw [bu,e1]
   exact ⟨o1,o2,o3,sub,fun i v hv=>by
    obtain ⟨a,h1,h2,_⟩:=m1 i v hv
    exact ⟨a,h1,h2,fun e=>by cases e⟩,fun q u l' hq=>(m2 q u l' hq).mono fun b hb=>⟨⟨hb.1,fun e=>by cases e⟩,rfl⟩,fun e=>(by cases e),fun _=>(m4 o7).any⟩
  |cells m len=>
   obtain ⟨t,l,cs,e,rk,rfl,o7,hp,hf,hd,N2⟩:=mw
   obtain ⟨b,hb,Xo⟩:=h.st.at_ m _ hp
   have e1:ρ' n= {blk:=some b,base:=some ⟨b,0,none⟩,len:=len,cap:=len,es:=t.size} :=by simp only [ρ',kE,hs,ho,addrOf,hb,Option.map_some]
   obtain ⟨hll,ys,r,hy,hyl,Yi⟩:=PT (iR hf) _ _ _ _ hd
   have hr:r= []:=List.eq_nil_of_length_eq_zero (by have:=congrArg List.length hy;rw [List.length_append] at this;omega)
   subst hr
   rw [List.append_nil] at hy
   have Yi:=Yi Kg w ρ (fun _=>False) (fun _=>none) w (fun _ hm=>by cases hm) (St.none w ρ)
   rw [<- hy] at Yi
   obtain ⟨s1,s2⟩:=qR Yi
   rw [bu,e1]
   refine ⟨hll.symm,rfl,by rw [hll];exact Nat.le_refl _,uL (cs.map (Cell.ae ρ)),fun i v hv=>⟨_,rfl,?_,fun e=>(by rcases o7 with rfl|rfl<;>cases e)⟩,fun q u l' hq=> ?_,fun e=>(by rcases o7 with rfl|rfl<;>cases e),fun _=>gl.new (.inr ⟨b,[],e,rfl,rfl,by rw [s1,List.append_nil];exact Xo,?_⟩)⟩
   ·rw [s1] at hv
    have e2:(⟨b,0,none⟩:Addr).add i=⟨b,i,none⟩:=by unfold Addr.add;split<;>simp_all
    rw [e2,bO Xo];exact hv
   ·obtain ⟨v,hv⟩:=eP hf (List.mem_of_getElem? hq)
    cases hv
   ·exact ⟨by rw [s1,List.append_nil];simp [N2.1],Nat.le_trans (Nat.le_of_ble_eq_true N2.2) (by decide)⟩
 ·obtain ⟨s,hs,mw⟩:=hh n o ho
  refine ⟨hlt n o ho,?_⟩
  cases s with
  |same m=>
   obtain ⟨p,hp,hr⟩:=mw
   cases o with
   |cells cs e=>
    simp only [gg] at hr
    split at hr
    ·rename_i q hq
     rw [<- Bl];exact (kP (Γ:=av st'.heap) (ρ:=ρ) _ _ hq).2
    ·cases hr
   |alias k z q=>
    simp only [gg] at hr
    split at hr
    ·rename_i k' hk
     rw [<- Bl];exact (bp (Γ:=av st'.heap) (ρ:=ρ) hk).2
    ·cases hr
   |eJ mI n0=>
    simp only [gg] at hr
    split at hr
    ·rename_i hf
     intro i hi
     rw [<- Bl];exact (List.getElem?_eq_some_iff.1 (r7 n0 hf i hi)).1
    ·cases hr
   |jO ka k u l c q=>
    simp only [gg] at hr
    split at hr
    ·rename_i c' hc
     rw [<- Bl];exact (bp (Γ:=av st'.heap) (ρ:=ρ) hc).2
    ·cases hr
   |set g=>
    simp only [gg] at hr
    split at hr
    ·rename_i c' hc
     rw [<- Bl];exact (bp (Γ:=av st'.heap) (ρ:=ρ) hc).2
    ·cases hr
   |dp t l c=>
    simp only [gg] at hr
    split at hr
    ·rename_i c' hc
     rw [<- Bl];exact (bp (Γ:=av st'.heap) (ρ:=ρ) hc).2
    ·cases hr
   |gv g c k u x l=>
    simp only [gg] at hr
    split at hr
    ·rename_i g' c' hg hc
     rw [<- Bl];exact ⟨(bp (Γ:=av st'.heap) (ρ:=ρ) hg).2,(bp (Γ:=av st'.heap) (ρ:=ρ) hc).2⟩
    ·cases hr
   |nv g c j q u=>
    simp only [gg] at hr
    split at hr
    ·rename_i g' c' hg hc
     rw [<- Bl];exact ⟨(bp (Γ:=av st'.heap) (ρ:=ρ) hg).2,(bp (Γ:=av st'.heap) (ρ:=ρ) hc).2⟩
    ·cases hr
   |rc cs=>
    simp only [gg] at hr
    split at hr
    ·rename_i q hq
     rw [<- Bl];exact (kP (Γ:=av st'.heap) (ρ:=ρ) _ _ hq).2
    ·cases hr
   |rj g c es ck ka k u l cur=>
    obtain ⟨m',d,cur',h1,h2,h3,rfl⟩:=Kv hr
    rw [<- Bl]
    exact ⟨(bp (Γ:=av st'.heap) (ρ:=ρ) h1).2,(bp (Γ:=av st'.heap) (ρ:=ρ) h2).2,fun p hp=>by
     obtain ⟨q',h4,_⟩:=h3 p hp
     exact (bp (Γ:=av st'.heap) (ρ:=ρ) h4).2⟩
   |_=>trivial
  |nil=>obtain ⟨t,rk,rfl,_⟩:=mw;trivial
  |mt m off=>obtain ⟨t,cs,e,rfl,_⟩:=mw;trivial
  |any m=>obtain ⟨t,l,rk,rfl,_⟩:=mw;trivial
  |cells m len=>obtain ⟨t,l,cs,e,rk,rfl,_⟩:=mw;trivial
 ·obtain ⟨s,m,h1,h2,h3,h4⟩:=hsrc n b hn hb
  obtain ⟨s',m',Zy,L5,Bi,Li⟩:=hsrc n' b hn' hb'
  have:=h.st.eS m m' b h3 Bi h4 Li
  subst this
  exact K3 _ _ ur n n' m s s' hn hn' h1 Zy h2 L5
 ·obtain ⟨s,m,h1,h2,h3,h4⟩:=hsrc n b hn hb
  exact h.st.mA m b h3 h4
theorem nT.weak (h:nT ax W df st ρ a w) {st':AS} (hw:mS st st'): ∃ρ',nT ax W df st' ρ' a w:=by
 obtain ⟨π,hw⟩:=hw
 exact ⟨_,h.abW hw⟩
theorem nT.drawn (h:nT ax W df st ρ a w) (n:Nat) (hn:w.drawn<=n):nT ax W df st ρ a {w with drawn:=n} :=⟨h.tmps,h.size,h.defers,h.kn,h.st.drawn n hn⟩
theorem nT.yielded (h:nT ax W df st ρ a w) {ops:Array Oper} {j d:Nat} (hd:Ai ops j=some d) {x:Bool} (hx:dP st.tmps d=bH x):yielded ops a.tmps j=some x:=by
 have h1:=h.tmps d (by rw [hx];simp [bH])
 rw [hx] at h1
 have e1:(ops[j]?).bind (·.dst)=some d:=by
  unfold Ai at hd;split at hd
  ·rename_i o ho;simp [ho,hd]
  ·cases hd
 have e2:a.tmps[d]? =some (.bool x):=by
  rw [Array.getD_eq_getD_getElem?] at h1
  cases hq:a.tmps[d]? with
  |none=>rw [hq] at h1;cases h1
  |some v=>rw [hq] at h1;exact congrArg some h1
 simp [Go.yielded,e1,e2]
theorem nT.Lg (h:nT ax W df st ρ a w) {ops:Array Oper} {j d:Nat} (hd:Ai ops j=some d) (hx:dP st.tmps d= .lZ []):Go.yielded ops a.tmps j=none:=by
 have h1:=h.tmps d (by rw [hx];simp)
 rw [hx] at h1
 have e1:(ops[j]?).bind (·.dst)=some d:=by
  unfold Ai at hd;split at hd
  ·rename_i o ho;simp [ho,hd]
  ·cases hd
 rw [Array.getD_eq_getD_getElem?] at h1
 cases hq:a.tmps[d]? with
 |none=>simp [Go.yielded,e1,hq]
 |some v=>
  rw [hq] at h1
  have e:v= .tuple #[]:=h1
  subst e
  simp [Go.yielded,e1,hq]
end
section
variable {P:Program} {ctx:Ctx} {ax:jh} {W:World} {df:List Deferred} {ro:Option Nat} {n:Nat} {Q:Exit->Act->World->Prop}
theorem Ea {o:Op} {st:AS} {k:Rec->Prop} (h:p8 ctx o st k):(∀x∈o.operands,fM st.tmps x≠ .dead)/\ zz ctx o (fM st.tmps) (av st.heap) st.heap.length k:=by
 unfold p8 at h
 split at h
 ·rename_i hn
  refine ⟨fun x hx e=> ?_,h⟩
  have:=List.all_eq_true.1 hn x (Array.mem_toList_iff.2 hx)
  rw [e] at this;simp [AV.Ta] at this
 ·exact h.elim
theorem Wu (hT:aX P ctx.tt) (hS:nW P ctx) (hX:Ac ax W ctx.X) {st:AS} {ρ:Env} {a:Act} {w:World} (bD:nT ax W df st ρ a w) {o:Oper} {k:Rec->Prop}
  (h:p8 ctx o.op st k) {next:Act->World->Prop}
  (hn: ∀r,k r-> ∀ρ' a' w',nT ax W df (st.app o.dst r) ρ' a' w'->next a' w'):o.wpIn (fw ro) n P a w next Q:=by
 obtain ⟨ur,h⟩:=Ea h
 refine abA hT hS h ro n ax W ρ w a next Q hX (fun x hx=>bD.eval x (ur x hx)) (fun x _=>bD.Sk x) bD.st ?_
 intro r ρ' w' hk hw l5 IU hst
 exact hn r hk ρ' _ w' (bD.app hw l5 IU hst)
theorem kO (hT:aX P ctx.tt) (hS:nW P ctx) (hX:Ac ax W ctx.X) (all:Array Oper): ∀(l:List Oper) (dec:List Nat) (st:AS) (lg:List gC) (K:AS->List gC->Prop),nE ctx all l dec st lg K->
  (∀st' lg' ρ' a' w',K st' lg'->nT ax W df st' ρ' a' w'->Q .normal a' w')-> ∀ρ a w,nT ax W df st ρ a w->wpListIn (fw ro) n P all Q l a w
 | [],dec,st,lg,K,h,hK,ρ,a,w,bD=>hK st lg ρ a w h bD
 |o::rest,dec,st,lg,K,h,hK,ρ,a,w,bD=>by
  have exec: ∀(st:AS) (Cy:List Nat) (lg':Rec->List gC),nT ax W df st ρ a w->p8 ctx o.op st (fun r=>nE ctx all rest Cy (st.app o.dst r) (lg' r) K)->
    o.wpIn (fw ro) n P a w (wpListIn (fw ro) n P all Q rest) Q:=by
   intro st Cy lg' bD h
   exact Wu hT hS hX bD h fun r hr ρ' a' w' kD=>kO hT hS hX all rest Cy _ _ K hr hK ρ' a' w' kD
  unfold nE at h
  split at h
  ·rename_i hg
   show if Region.wanted o (Go.yielded all a.tmps) then _ else _
   rw [if_pos (by simp [Region.wanted,hg])]
   exact exec st dec _ bD h
  ·rename_i j want hg
   split at h
   ·rename_i d hd
    split at h
    ·rename_i x hx
     have hy:Go.yielded all a.tmps j=some x:=bD.yielded hd hx
     have hw:Region.wanted o (Go.yielded all a.tmps)=(x==want):=by
      simp only [Region.wanted,hg,hy];cases x<;>cases want<;>rfl
     show if Region.wanted o (Go.yielded all a.tmps) then _ else _
     rw [hw]
     split at h
     ·split at h
      ·rename_i e;subst e
       rw [if_pos (by simp)]
       exact exec st dec _ bD h
      ·rename_i e
       rw [if_neg (by simpa using e)]
       exact ⟨fun _ _=>trivial,kO hT hS hX all rest _ _ _ K h hK ρ _ w (bD.skip o.dst)⟩
     ·cases want with
      |true=>
       dsimp only at h
       cases x with
       |true=>
        have h:p8 ctx o.op {st with tmps:=st.tmps.set d (bH true)} _:=h
        rw [if_pos (by rfl)]
        rw [lX hx] at h
        exact exec st _ _ bD h
       |false=>
        have h:nE ctx all rest (d::dec) {st with tmps:=jb (st.tmps.set d (bH false)) o.dst aT} (lg++ [lz st.heap.length]) K:=h
        rw [if_neg (by simp)]
        rw [lX hx] at h
        exact ⟨fun _ _=>trivial,kO hT hS hX all rest _ _ _ K h hK ρ _ w (bD.skip o.dst)⟩
      |false=>
       dsimp only at h
       cases x with
       |false=>
        have h:p8 ctx o.op {st with tmps:=st.tmps.set d (bH false)} _:=h
        rw [if_pos (by rfl)]
        rw [lX hx] at h
        exact exec st _ _ bD h
       |true=>
        have h:nE ctx all rest (d::dec) {st with tmps:=jb (st.tmps.set d (bH true)) o.dst aT} (lg++ [lz st.heap.length]) K:=h
        rw [if_neg (by simp)]
        rw [lX hx] at h
        exact ⟨fun _ _=>trivial,kO hT hS hX all rest _ _ _ K h hK ρ _ w (bD.skip o.dst)⟩
    ·rename_i hx
     have hy:Go.yielded all a.tmps j=none:=bD.Lg hd hx
     show if Region.wanted o (Go.yielded all a.tmps) then _ else _
     rw [if_neg (by simp [Region.wanted,hg,hy])]
     exact ⟨fun _ _=>trivial,kO hT hS hX all rest _ _ _ K h hK ρ _ w (bD.skip o.dst)⟩
    ·exact h.elim
   ·exact h.elim
end
end Go.Ev
