/- Regions in the text's order; code. -/
import Derived.Test.YtfgdjlhilladhaaGreatEvE
import Derived.TacticsIn
noncomputable section
set_option linter.unusedSectionVars false
set_option linter.unusedVariables false
set_option linter.unusedSimpArgs false
namespace Go.Ev
open Go.RowKit
structure ry (aC:mY) (W:World) (df:List Deferred) (st:AS) (ρ:Env) (a:Act) (w:World):Prop where
 tmps: ∀t,dG st.tmps t≠ .dead->a.tmps.getD t undef=(dG st.tmps t).af ρ
 size:a.tmps.size=st.tmps.length
 defers:a.defers=df
 kn: ∀t,(dG st.tmps t).ok (· <st.heap.length)
 st:St aC W ρ (· <st.heap.length) (aA st.heap) w
theorem Dw: ∀(l:List AV) (t:Nat),dG l t=l.getD t aH
 | [],t=>by simp [dG]
 |a::r,0=>rfl
 |a::r,t+1=>by simp [dG,Dw r t]
theorem KT (l:List AV) (d t:Nat) (v:AV):dG (l.set d v) t=if t=d/\ d<l.length then v else dG l t:=by
 simp only [Dw,List.getD,List.getElem?_set]
 by_cases h:d=t
 ·subst h
  by_cases h2:d<l.length
  ·simp [h2]
  ·simp [h2]
 ·simp [h,Ne.symm h]
theorem oY {l:List AV} {d:Nat} {x:Bool} (h:dG l d=cf x):l.set d (cf x)=l:=by
 apply List.ext_getElem?
 intro j
 rw [List.getElem?_set]
 split
 ·rename_i e;subst e
  rw [Dw,List.getD] at h
  split
  ·rename_i hl
   rw [List.getElem?_eq_getElem hl] at h ⊢
   simpa using h.symm
  ·rename_i hl
   rw [List.getElem?_eq_none (Nat.le_of_not_lt hl)]
 ·rfl
theorem DD (a:Act) (dst:Option Nat) (v:Value) (t:Nat):(a.put dst v).tmps.getD t undef=match dst with|some d=>(if t=d/\ d<a.tmps.size then v else a.tmps.getD t undef)|none=>a.tmps.getD t undef:=by
 cases dst with
 |none=>rfl
 |some d=>
  simp only [Act.put,Array.getD_eq_getD_getElem?,Array.getElem?_setIfInBounds]
  by_cases h:d=t
  ·subst h
   by_cases h2:d<a.tmps.size
   ·simp [h2]
   ·simp [h2]
  ·simp [h,Ne.symm h]
theorem dU: ∀(ws:List (Nat×aX)) (h:List aX),(ws.foldl (fun h p=>h.set p.1 p.2) h).length=h.length
 | [],_=>rfl
 |p::r,h=>by simp only [List.foldl_cons];rw [dU r];simp
theorem CY: ∀(ws:List (Nat×aX)) (h:List aX),(∀p∈ws,p.1<h.length)-> ∀m,(ws.foldl (fun h p=>h.set p.1 p.2) h)[m]? =match dP ws m with|some o=>some o|none=>h[m]?
 | [],_,_,m=>by simp [dP]
 |p::r,h,hl,m=>by
  simp only [List.foldl_cons]
  rw [CY r _ (fun q hq=>by simpa using hl q (by simp [hq]))]
  simp only [dP]
  cases hr:dP r m with
  |some o=>rfl
  |none=>
   simp only [List.getElem?_set]
   by_cases e:p.1=m
   ·subst e;simp [hl p (by simp)]
   ·simp [e]
theorem pg (st:AS) (dst:Option Nat) (r:Rec):(st.app dst r).heap.length=st.heap.length+r.fresh.length:=by
 simp [AS.app,dU]
theorem S0 (st:AS) (dst:Option Nat) (r:Rec) (hw: ∀p∈r.writes,aA st.heap p.1≠none):aA (st.app dst r).heap=dO r st.heap.length (aA st.heap):=by
 have hl: ∀p∈r.writes,p.1<st.heap.length:=fun p hp=>by
  rcases Nat.lt_or_ge p.1 st.heap.length with h|h
  ·exact h
  ·exact absurd (by rw [bY,List.getElem?_eq_none h];rfl) (hw p hp)
 funext m
 simp only [dO,bY,AS.app]
 by_cases h:st.heap.length<=m/\ m<st.heap.length+r.fresh.length
 ·rw [if_pos h,List.getElem?_append_right (by rw [dU];exact h.1),dU]
 ·rw [if_neg h]
  rcases Nat.lt_or_ge m st.heap.length with h2|h2
  ·rw [List.getElem?_append_left (by rw [dU];exact h2),CY _ _ hl]
   cases dP r.writes m<;>rfl
  ·have hnone:dP r.writes m=none:=by
    have: ∀(ws:List (Nat×aX)),(∀p∈ws,p.1<st.heap.length)->dP ws m=none:=by
     intro ws
     induction ws with
     |nil=>intro _;rfl
     |cons p q ih=>
      intro hh
      simp only [dP,ih (fun x hx=>hh x (by simp [hx]))]
      have:=hh p (by simp)
      rw [if_neg (by omega)]
    exact this _ hl
   rw [hnone,List.getElem?_eq_none (by simp [dU];omega),List.getElem?_eq_none h2]
theorem tj (l:List AV) (d:Option Nat) (v:AV):(kg l d v).length=l.length:=by cases d<;>simp [kg]
theorem lC (l:List AV) (d:Option Nat) (v:AV) (t:Nat):dG (kg l d v) t=match d with|some d=>(if t=d/\ d<l.length then v else dG l t)|none=>dG l t:=by
 cases d<;>simp [kg,KT]
section
variable {aC:mY} {W:World} {df:List Deferred} {st:AS} {ρ:Env} {a:Act} {w:World}
theorem ry.eval (h:ry aC W df st ρ a w) (x:Operand) (hx:pK st.tmps x≠ .dead):a.eval x=(pK st.tmps x).af ρ:=by
 cases x with
 |tmp t=>exact h.tmps t hx
 |const v=>exact (xZ v ρ).symm
 |global g=>rfl
 |func f=>rfl
theorem ry.adn (h:ry aC W df st ρ a w) (x:Operand):(pK st.tmps x).ok (· <st.heap.length):=by
 cases x with
 |tmp t=>exact h.kn t
 |const v=>exact Gf _ _
 |global g=>trivial
 |func f=>exact fun r hr=>absurd hr (by simp)
theorem DE (a:Act) (d:Option Nat) (v:Value):(a.put d v).tmps.size=a.tmps.size:=by cases d<;>simp [Act.put]
theorem put_defers (a:Act) (d:Option Nat) (v:Value):(a.put d v).defers=a.defers:=by cases d<;>rfl
theorem ry.app (h:ry aC W df st ρ a w) {dst:Option Nat} {r:Rec} (hw: ∀p∈r.writes,aA st.heap p.1≠none) {ρ':Env} {w':World} (uI: ∀m,m<st.heap.length->ρ' m=ρ m)
  (SS:r.val.ok (tP (· <st.heap.length) st.heap.length r)) (hst:St aC W ρ' (tP (· <st.heap.length) st.heap.length r) (dO r st.heap.length (aA st.heap)) w'):
  ry aC W df (st.app dst r) ρ' (a.put dst (r.val.af ρ')) w':=by
 have hkn:tP (· <st.heap.length) st.heap.length r=(· <(st.app dst r).heap.length):=by
  funext m;rw [pg];simp only [tP];apply propext;omega
 rw [hkn,<- S0 st dst r hw] at hst
 rw [hkn] at SS
 refine ⟨fun t=> ?_,by rw [DE,h.size];simp [AS.app,tj],by rw [put_defers,h.defers],fun t=> ?_,hst⟩
 ·rw [DD]
  simp only [AS.app,lC]
  have hold:dG st.tmps t≠ .dead->a.tmps.getD t undef=(dG st.tmps t).af ρ':=fun hd=>by rw [h.tmps t hd];exact (AV.bZ uI _ (h.kn t)).symm
  cases dst with
  |none=>exact hold
  |some d=>
   simp only [h.size]
   split
   ·intro _;rfl
   ·exact hold
 ·have hold:(dG st.tmps t).ok (· <(st.app dst r).heap.length):=AV.bG (fun m hm=>by rw [pg];omega) _ (h.kn t)
  simp only [AS.app,lC]
  cases dst with
  |none=>exact hold
  |some d=>
   dsimp only
   split
   ·exact SS
   ·exact hold
theorem ry.skip (h:ry aC W df st ρ a w) (dst:Option Nat):ry aC W df {st with tmps:=kg st.tmps dst aH} ρ (a.put dst undef) w:=by
 refine ⟨fun t=> ?_,by rw [DE,h.size];simp [tj],by rw [put_defers,h.defers],fun t=> ?_,h.st⟩
 ·rw [DD]
  simp only [lC]
  cases dst with
  |none=>exact h.tmps t
  |some d=>
   simp only [h.size]
   split
   ·intro _;rfl
   ·exact h.tmps t
 ·simp only [lC]
  cases dst with
  |none=>exact h.kn t
  |some d=>
   dsimp only
   split
   ·exact MO _
   ·exact h.kn t
def ur (π:List Src) (Γ:HP) (ρ:Env):Env:=fun n=>match π[n]? with
 |some (.same m)=>ρ m
 |some .nil=>match Γ n with
  |some (.row t _ _)=> {es:=t.size}
  |_=> {}
 |some (.cells m len)=>match Γ n with
  |some (.row t _ _)=> {bR:=(ρ m).bR,base:=addrOf ρ m 0,len:=len,cap:=len,es:=t.size}
  |_=> {base:=addrOf ρ m 0,len:=len,cap:=len}
 |none=> {}
section
variable {π:List Src} {Γ:HP}
theorem qq {n m:Nat} (h:π[n]? =some (.same m)):ur π Γ ρ n=ρ m:=by simp [ur,h]
theorem cC {n m:Nat} (h:uu π n=some m):ur π Γ ρ n=ρ m/\ n<π.length:=by
 unfold uu at h
 split at h
 ·rename_i m' he
  cases h
  exact ⟨qq he,(List.getElem?_eq_some_iff.1 he).1⟩
 ·cases h
theorem vR: ∀(l m:List Ref),kQ π l=some m->l.map (Ref.af (ur π Γ ρ))=m.map (Ref.af ρ)/\ ∀r∈l,r.ok (· <π.length)
 | [],m,h=>by simp only [kQ,Option.some.injEq] at h;subst h;simp
 |r::l,m,h=>by
  simp only [kQ] at h
  split at h
  ·rename_i q m' h1 h2
   cases h
   obtain ⟨e1,e2⟩:=vR l m' h2
   have h3:r.af (ur π Γ ρ)=q.af ρ/\ r.ok (· <π.length):=by
    cases r with
    |ext v=>simp only [qU,Option.some.injEq] at h1;subst h1;exact ⟨rfl,trivial⟩
    |loc n o=>
     simp only [qU] at h1
     split at h1
     ·rename_i k hk;cases h1
      obtain ⟨e3,e4⟩:=cC (Γ:=Γ) (ρ:=ρ) hk
      exact ⟨by simp [Ref.af,addrOf,e3],e4⟩
     ·cases h1
    |elem n j=>
     simp only [qU] at h1
     split at h1
     ·rename_i k hk;cases h1
      obtain ⟨e3,e4⟩:=cC (Γ:=Γ) (ρ:=ρ) hk
      exact ⟨by simp [Ref.af,e3],e4⟩
     ·cases h1
    |full n=>
     simp only [qU] at h1
     split at h1
     ·rename_i k hk;cases h1
      obtain ⟨e3,e4⟩:=cC (Γ:=Γ) (ρ:=ρ) hk
      exact ⟨by simp [Ref.af,e3],e4⟩
     ·cases h1
    |mp n=>
     simp only [qU] at h1
     split at h1
     ·rename_i k hk;cases h1
      obtain ⟨e3,e4⟩:=cC (Γ:=Γ) (ρ:=ρ) hk
      exact ⟨by simp [Ref.af,e3],e4⟩
     ·cases h1
   refine ⟨by simp [h3.1,e1],fun x hx=> ?_⟩
   rcases List.mem_cons.1 hx with rfl|hx
   ·exact h3.2
   ·exact e2 x hx
  ·cases h
theorem Po: ∀(c q:Cell),lP π c=some q->c.af (ur π Γ ρ)=q.af ρ/\ c.ok (· <π.length)
 | .raw v,q,h=>by simp only [lP,Option.some.injEq] at h;subst h;exact ⟨rfl,trivial⟩
 | .ptr n o,q,h=>by
  simp only [lP] at h
  split at h
  ·rename_i k hk;cases h
   obtain ⟨e3,e4⟩:=cC (Γ:=Γ) (ρ:=ρ) hk
   exact ⟨by simp [Cell.af,addrOf,e3],e4⟩
  ·cases h
 | .oB n o,q,h=>by
  simp only [lP] at h
  split at h
  ·rename_i k hk;cases h
   obtain ⟨e3,e4⟩:=cC (Γ:=Γ) (ρ:=ρ) hk
   exact ⟨by simp [Cell.af,addrOf,e3],e4⟩
  ·cases h
 | .sl n o l c,q,h=>by
  simp only [lP] at h
  split at h
  ·rename_i k hk;cases h
   obtain ⟨e3,e4⟩:=cC (Γ:=Γ) (ρ:=ρ) hk
   exact ⟨by simp [Cell.af,addrOf,e3],e4⟩
  ·cases h
 | .br n j z,q,h=>by
  simp only [lP] at h
  split at h
  ·rename_i k hk;cases h
   obtain ⟨e3,e4⟩:=cC (Γ:=Γ) (ρ:=ρ) hk
   exact ⟨by simp [Cell.af,e3],e4⟩
  ·cases h
 | .gJ n j z,q,h=>by
  simp only [lP] at h
  split at h
  ·rename_i k hk;cases h
   obtain ⟨e3,e4⟩:=cC (Γ:=Γ) (ρ:=ρ) hk
   exact ⟨by simp [Cell.af,e3],e4⟩
  ·cases h
 | .sJ n,q,h=>by
  simp only [lP] at h
  split at h
  ·rename_i k hk;cases h
   obtain ⟨e3,e4⟩:=cC (Γ:=Γ) (ρ:=ρ) hk
   exact ⟨by simp [Cell.af,e3],e4⟩
  ·cases h
 | .mp n,q,h=>by
  simp only [lP] at h
  split at h
  ·rename_i k hk;cases h
   obtain ⟨e3,e4⟩:=cC (Γ:=Γ) (ρ:=ρ) hk
   exact ⟨by simp [Cell.af,e3],e4⟩
  ·cases h
 | .mv f a rs,q,h=>by
  simp only [lP] at h
  split at h
  ·rename_i k hk;cases h
   obtain ⟨e3,e4⟩:=vR (Γ:=Γ) (ρ:=ρ) _ _ hk
   exact ⟨by simp only [Cell.af,e3],e4⟩
  ·cases h
 | .ik f a cap,q,h=>by
  simp only [lP] at h
  split at h
  ·rename_i k hk;cases h
   obtain ⟨e3,e4⟩:=vR (Γ:=Γ) (ρ:=ρ) _ _ hk
   exact ⟨by simp only [Cell.af,e3],e4⟩
  ·cases h
 | .full n,q,h=>by
  simp only [lP] at h
  split at h
  ·rename_i m he
   cases h
   exact ⟨by simp [Cell.af,qq he],(List.getElem?_eq_some_iff.1 he).1⟩
  ·rename_i he
   cases h
   refine ⟨?_,(List.getElem?_eq_some_iff.1 he).1⟩
   simp only [Cell.af,ur,he]
   split<;>rfl
  ·rename_i m len he
   cases h
   refine ⟨?_,(List.getElem?_eq_some_iff.1 he).1⟩
   simp only [Cell.af,ur,he]
   split<;>rfl
  ·cases h
theorem nu: ∀(l m:List Cell),ke π l=some m->l.map (Cell.af (ur π Γ ρ))=m.map (Cell.af ρ)/\ ∀r∈l,r.ok (· <π.length)
 | [],m,h=>by simp only [ke,Option.some.injEq] at h;subst h;simp
 |r::l,m,h=>by
  simp only [ke] at h
  split at h
  ·rename_i q m' h1 h2
   cases h
   obtain ⟨e1,e2⟩:=nu l m' h2
   obtain ⟨e3,e4⟩:=Po (Γ:=Γ) (ρ:=ρ) _ _ h1
   refine ⟨by simp [e3,e1],fun x hx=> ?_⟩
   rcases List.mem_cons.1 hx with rfl|hx
   ·exact e4
   ·exact e2 x hx
  ·cases h
theorem Pn (a q:A0) (h:NL π a=some q):a.af (ur π Γ ρ)=q.af ρ/\ a.ok (· <π.length):=by
 cases a with
 |one c=>
  simp only [NL] at h
  split at h
  ·rename_i k hk;cases h;exact Po _ _ hk
  ·cases h
 |agg cs=>
  simp only [NL] at h
  split at h
  ·rename_i k hk;cases h
   obtain ⟨e1,e2⟩:=nu (Γ:=Γ) (ρ:=ρ) _ _ hk
   exact ⟨by simp only [A0.af,e1],e2⟩
  ·cases h
theorem LF: ∀(l m:List A0),lK π l=some m->l.map (A0.af (ur π Γ ρ))=m.map (A0.af ρ)/\ ∀r∈l,r.ok (· <π.length)
 | [],m,h=>by simp only [lK,Option.some.injEq] at h;subst h;simp
 |r::l,m,h=>by
  simp only [lK] at h
  split at h
  ·rename_i q m' h1 h2
   cases h
   obtain ⟨e1,e2⟩:=LF l m' h2
   obtain ⟨e3,e4⟩:=Pn (Γ:=Γ) (ρ:=ρ) _ _ h1
   refine ⟨by simp [e3,e1],fun x hx=> ?_⟩
   rcases List.mem_cons.1 hx with rfl|hx
   ·exact e4
   ·exact e2 x hx
  ·cases h
theorem Pp (a q:AV) (h:Gu π a=some q):a.af (ur π Γ ρ)=q.af ρ/\ a.ok (· <π.length):=by
 cases a with
 |v a=>
  simp only [Gu] at h
  split at h
  ·rename_i k hk;cases h;exact Pn _ _ hk
  ·cases h
 |AH l=>
  simp only [Gu] at h
  split at h
  ·rename_i k hk;cases h
   obtain ⟨e1,e2⟩:=LF (Γ:=Γ) (ρ:=ρ) _ _ hk
   exact ⟨by simp only [AV.af,e1],e2⟩
  ·cases h
 |dead=>cases h
theorem wq: ∀(l m:List AV),QC π l m->m.length=l.length/\ ∀t,dG m t= .dead\/ Gu π (dG m t)=some (dG l t)
 | [],[],_=>⟨rfl,fun t=> .inr rfl⟩
 |x::r,.dead::s,h=>by
  obtain ⟨h1,h2⟩:=wq r s h
  exact ⟨by simp [h1],fun t=>by cases t with|zero=>exact .inl rfl|succ t=>exact h2 t⟩
 |x::r,.v y::s,h=>by
  obtain ⟨h1,h2⟩:=wq r s h.2
  exact ⟨by simp [h1],fun t=>by cases t with|zero=>exact .inr h.1|succ t=>exact h2 t⟩
 |x::r,.AH y::s,h=>by
  obtain ⟨h1,h2⟩:=wq r s h.2
  exact ⟨by simp [h1],fun t=>by cases t with|zero=>exact .inr h.1|succ t=>exact h2 t⟩
 | [],_::_,h=>h.elim
 |_::_,[],h=>h.elim
theorem Kl {h0:List aX} : ∀(ss:List Src) (l:List aX),wL π h0 ss l->ss.length=l.length/\ ∀n o,aA l n=some o-> ∃s,ss[n]? =some s/\ IX π h0 s o
 | [],[],_=>⟨rfl,fun n o ho=>by simp [aA] at ho⟩
 |s::r,o::l,h=>by
  have main:wL π h0 r l->(aA (o::l) 0=some o->IX π h0 s o)->(s::r).length=(o::l).length/\ ∀n p,aA (o::l) n=some p-> ∃q,(s::r)[n]? =some q/\ IX π h0 q p:=fun h1 h2=>by
   obtain ⟨e1,e2⟩:=Kl r l h1
   refine ⟨by simp [e1],fun n p hp=> ?_⟩
   cases n with
   |zero=>
    have:p=o:=by
     rw [bY] at hp
     cases o<;>simp_all [live]
    subst this
    exact ⟨s,rfl,h2 hp⟩
   |succ n=>exact e2 n p (by simpa [aA] using hp)
  cases o with
  |gone=>exact main h fun h=>by simp [aA] at h
  |_=>exact main h.2 fun _=>h.1
 | [],_::_,h=>by unfold wL at h;exact h.elim
 |_::_,[],h=>by unfold wL at h;exact h.elim
theorem VF: ∀(ss:List Src) (l:List aX) (n m:Nat) (s:Src),(aA l n).isSome=true->ss[n]? =some s->NT s=some m->m∈AG ss l
 | [],_,n,m,s,_,h,_=>by simp at h
 |_::_,[],n,m,s,h,_,_=>by simp [aA] at h
 |q::r,o::l,n,m,s,h1,h2,h3=>by
  have tail: ∀k,n=k+1->m∈AG r l:=fun k e=>by
   subst e
   exact VF r l k m s (by simpa [aA] using h1) (by simpa using h2) h3
  cases n with
  |zero=>
   simp only [List.getElem?_cons_zero,Option.some.injEq] at h2
   subst h2
   cases o with
   |gone=>simp [aA] at h1
   |_=>simp [AG,h3]
  |succ n=>
   have:=tail n rfl
   cases o with
   |gone=>exact this
   |_=>simp only [AG];split<;>simp [this]
theorem VE: ∀(ss:List Src) (l:List aX),(AG ss l).Nodup-> ∀n n' m s s',(aA l n).isSome=true->(aA l n').isSome=true->ss[n]? =some s->ss[n']? =some s'->NT s=some m->NT s'=some m->n=n'
 | [],_,_,n,_,_,s,_,_,_,h,_,_,_=>by simp at h
 |_::_,[],_,n,_,_,s,_,h,_,_,_,_,_=>by simp [aA] at h
 |q::r,o::l,hn,n,n',m,s,s',h1,h2,h3,h4,h5,h6=>by
  have hz: ∀k,(aA (o::l) 0).isSome=true->NT q=some m->(aA (o::l) (k+1)).isSome=true-> ∀s,(q::r)[k+1]? =some s->NT s=some m->False:=fun k g1 g2 g3 s g4 g5=>by
   have:=VF r l k m s (by simpa [aA] using g3) (by simpa using g4) g5
   cases o with
   |gone=>simp [aA] at g1
   |_=>
    simp only [AG,g2] at hn
    exact (List.nodup_cons.1 hn).1 this
  have hr:(AG r l).Nodup:=by
   cases o with
   |gone=>exact hn
   |_=>
    simp only [AG] at hn
    split at hn
    ·exact (List.nodup_cons.1 hn).2
    ·exact hn
  cases n with
  |zero=>
   cases n' with
   |zero=>rfl
   |succ n'=>
    simp only [List.getElem?_cons_zero,Option.some.injEq] at h3
    subst h3
    exact (hz n' h1 h5 h2 s' h4 h6).elim
  |succ n=>
   cases n' with
   |zero=>
    simp only [List.getElem?_cons_zero,Option.some.injEq] at h4
    subst h4
    exact (hz n h2 h6 h1 s h3 h5).elim
   |succ n'=>
    rw [VE r l hr n n' m s s' (by simpa [aA] using h1) (by simpa [aA] using h2) (by simpa using h3) (by simpa using h4) h5 h6]
theorem xE: ∀(n:Nat),F1 π n=true-> ∀m,m<n->π[m]? =some (.same m)
 |0,_,m,hm=>by omega
 |n+1,h,m,hm=>by
  simp only [F1,Bool.and_eq_true] at h
  by_cases e:m=n
  ·subst e
   have h1:=h.1
   split at h1
   ·rename_i k hk
    rw [hk];simp at h1;rw [h1]
   ·cases h1
  ·exact xE n h.2 m (by omega)
end
theorem ry.ami (h:ry aC W df st ρ a w) {st':AS} {π:List Src} (hw:Ren π st st'):ry aC W df st' (ur π (aA st'.heap) ρ) a w:=by
 obtain ⟨hl,ht⟩:=wq _ _ hw.tmps
 obtain ⟨FD,hh⟩:=Kl _ _ hw.heap
 have Tt:=xW hw.inj
 let ρ':=ur π (aA st'.heap) ρ
 have hlt: ∀n o,aA st'.heap n=some o->n<st'.heap.length:=fun n o ho=>by
  rcases Nat.lt_or_ge n st'.heap.length with hn|hn
  ·exact hn
  ·simp [aA,List.getElem?_eq_none hn] at ho
 have hsrc: ∀n b,(aA st'.heap n).isSome=true->(ρ' n).has b-> ∃s m,π[n]? =some s/\ NT s=some m/\ (aA st.heap m).isSome=true/\ (ρ m).has b:=fun n b hn hb=>by
  obtain ⟨o,ho⟩:=Option.isSome_iff_exists.1 hn
  obtain ⟨s,hs,w5⟩:=hh n o ho
  cases s with
  |same m=>
   obtain ⟨p,hp,_⟩:=w5
   refine ⟨_,m,hs,rfl,by simp [hp],?_⟩
   rw [<- show ρ' n=ρ m from qq hs];exact hb
  |nil=>
   obtain ⟨t,rk,rfl,_⟩:=w5
   simp only [ρ',ur,hs,ho] at hb;exact absurd (lW.1 hb) (fun h=>by cases h)
  |cells m len=>
   obtain ⟨t,l,cs,e,rfl,hp,_⟩:=w5
   simp only [ρ',ur,hs,ho] at hb
   exact ⟨_,m,hs,rfl,by simp [hp],.inl (lW.1 hb)⟩
 have Kj: ∀b,HI (aA st'.heap) b->HI (aA st.heap) b:=fun b ⟨n,S,h1,h2⟩=>by
  obtain ⟨s,hs,w5⟩:=hh n _ h1
  cases s with
  |same m=>
   obtain ⟨p,hp,hr⟩:=w5
   simp only [lQ,Option.some.injEq] at hr
   subst hr
   exact ⟨m,S,hp,h2⟩
  |nil=>obtain ⟨_,_,e,_⟩:=w5;cases e
  |cells m len=>obtain ⟨_,_,_,_,e,_⟩:=w5;cases e
 have hfz: ∀b,lV ρ (aA st.heap) w b->lV ρ' (aA st'.heap) w b/\ w.heap[b]? =w.heap[b]? :=fun b hb=>by
  refine ⟨⟨hb.1,?_⟩,rfl⟩
  rintro (⟨n,h1,h2⟩|⟨n,S,h1,h2⟩)
  ·obtain ⟨s,m,_,_,h5,h6⟩:=hsrc n b h1 h2
   exact hb.2 (.inl ⟨m,h5,h6⟩)
  ·exact hb.2 (.inr (Kj b ⟨n,S,h1,h2⟩))
 show ry aC W df st' ρ' a w
 refine ⟨fun t hd=> ?_,by rw [h.size,hl],h.defers,fun t=> ?_,⟨h.st.fr,fun n o ho=> ?_,fun n o ho=> ?_,fun n n' b hn hn' hb hb'=> ?_,fun n b hn hb=> ?_,fun b IS=> ?_,fun n o ho=> ?_⟩⟩
 rotate_right
 ·obtain ⟨s,hs,w5⟩:=hh n o ho
  cases s with
  |same m=>
   obtain ⟨p,hp,hr⟩:=w5
   rw [show ρ' n=ρ m from qq hs]
   rcases h.st.Nl m p hp with ⟨g,rfl⟩|he
   ·cases o with
    |set g'=>exact .inl ⟨_,rfl⟩
    |_=>
     simp only [lQ] at hr
     first
     |(cases hr;done)
     |(split at hr<;>cases hr)
   ·exact .inr he
  |nil=>
   obtain ⟨t,rk,rfl,_⟩:=w5
   exact .inr (by simp only [ρ',ur,hs,ho])
  |cells m len=>
   obtain ⟨t,l,cs,e,rfl,_⟩:=w5
   exact .inr (by simp only [ρ',ur,hs,ho])
 rotate_right
 ·obtain ⟨h1,h2⟩:=h.st.F5 b (Kj b IS)
  refine ⟨h1,?_⟩
  rintro ⟨n,h3,h4⟩
  obtain ⟨s,m,_,_,h5,h6⟩:=hsrc n b h3 h4
  exact h2 ⟨m,h5,h6⟩
 ·rcases ht t with e|e
  ·exact absurd e hd
  ·have hne:dG st.tmps t≠ .dead:=fun e2=>by
    rw [e2] at e
    revert e;cases dG st'.tmps t<;>simp only [Gu]<;>(try split)<;>intro e<;>cases e
   rw [h.tmps t hne]
   exact (Pp _ _ e).1.symm
 ·rcases ht t with e|e
  ·rw [e];trivial
  ·rw [<- FD];exact (Pp (Γ:=aA st'.heap) (ρ:=ρ) _ _ e).2
 ·obtain ⟨s,hs,w5⟩:=hh n o ho
  cases s with
  |same m=>
   obtain ⟨p,hp,hr⟩:=w5
   have hn:ρ' n=ρ m:=qq hs
   have bE:=h.st.at_ m p hp
   cases o with
   |cells cs e=>
    simp only [lQ] at hr
    split at hr
    ·rename_i q hq
     cases hr
     obtain ⟨b,hb,hhp⟩:=bE
     exact ⟨b,by rw [hn];exact hb,by rw [hhp,(nu (Γ:=aA st'.heap) (ρ:=ρ) _ _ hq).1]⟩
    ·cases hr
   |row t l rk=>
    simp only [lQ,Option.some.injEq] at hr
    subst hr
    obtain ⟨o1,o2,o3,sub,o4⟩:=bE
    rw [dF,hn]
    exact ⟨o1,o2,o3,sub,o4.keep hfz (fun _ _ h=>h) fun _ _=>rfl⟩
   |alias k z q=>
    simp only [lQ] at hr
    split at hr
    ·rename_i k' hk
     cases hr
     have:=(cC (Γ:=aA st'.heap) (ρ:=ρ) hk).1
     rw [dF,hn,show ρ' k=ρ k' from this]
     exact bE
    ·cases hr
   |gone=>cases hr
   |loop r z j=>
    simp only [lQ,Option.some.injEq] at hr
    subst hr
    obtain ⟨b,hb,hhp⟩:=bE
    exact ⟨b,by rw [hn];exact hb,hhp⟩
   |bX S=>
    simp only [lQ,Option.some.injEq] at hr
    subst hr
    rw [dF,hn];exact bE
   |map ka va kt vt l=>
    simp only [lQ,Option.some.injEq] at hr
    subst hr
    rw [dF,hn];exact bE
   |ji tG n0=>
    simp only [lQ] at hr
    split at hr
    ·rename_i hf
     cases hr
     exact ⟨by rw [hn];exact bE.1,fun i hi=>by rw [show ρ' i=ρ i from qq (xE n0 hf i hi)];exact bE.2 i hi⟩
    ·cases hr
   |Om ka k u l c q=>
    simp only [lQ] at hr
    split at hr
    ·rename_i c' hc
     cases hr
     have e:=(cC (Γ:=aA st'.heap) (ρ:=ρ) hc).1
     rw [dF,hn,show ρ' c=ρ c' from e];exact bE
    ·cases hr
   |set g=>
    simp only [lQ] at hr
    split at hr
    ·cases hr
     rw [dF,hn];exact bE
    ·cases hr
   |gv g c k u x l=>
    simp only [lQ] at hr
    split at hr
    ·rename_i g' c' hg hc
     cases hr
     have e:=(cC (Γ:=aA st'.heap) (ρ:=ρ) hc).1
     rw [dF,hn,show ρ' c=ρ c' from e];exact bE
    ·cases hr
   |rc cs=>
    simp only [lQ] at hr
    split at hr
    ·rename_i q hq
     cases hr
     rw [dF,hn]
     refine ⟨bE.1,fun i c hc=> ?_⟩
     have e:=(nu (Γ:=aA st'.heap) (ρ:=ρ) _ _ hq).1
     have e1:(cs.map (Cell.af ρ'))[i]? =some (c.af ρ'):=by rw [List.getElem?_map,hc];rfl
     rw [show cs.map (Cell.af ρ')=q.map (Cell.af ρ) from e,List.getElem?_map] at e1
     obtain ⟨d,hd,e2⟩:=Option.map_eq_some_iff.1 e1
     rw [<- e2]
     obtain ⟨a,h1,h2,h3⟩:=bE.2 i d hd
     exact ⟨a,h1,h2,(hfz _ h3).1⟩
    ·cases hr
  |nil=>
   obtain ⟨t,rk,rfl,C5⟩:=w5
   have e:ρ' n= {es:=t.size} :=by simp only [ρ',ur,hs,ho]
   rw [dF,e]
   exact ⟨rfl,rfl,Nat.le_refl _,fun _=>(none,0),fun i v hv=>by simp [aD,aL] at hv,fun q u l' hq=>by simp [aD] at hq,fun e=>absurd e C5,fun _=> .inl ⟨rfl,rfl,rfl,rfl⟩⟩
  |cells m len=>
   obtain ⟨t,l,cs,e,rfl,hp,hf,hd,hcl⟩:=w5
   obtain ⟨b,hb,hhp⟩:=h.st.at_ m _ hp
   have e1:ρ' n= {bR:=some b,base:=some ⟨b,0,none⟩,len:=len,cap:=len,es:=t.size} :=by simp only [ρ',ur,hs,ho,addrOf,hb,Option.map_some]
   obtain ⟨hll,ys,r,hy,hyl,hal⟩:=aao (lU hf) _ _ _ _ hd
   have hr:r= []:=List.eq_nil_of_length_eq_zero (by have:=congrArg List.length hy;rw [List.length_append] at this;omega)
   subst hr
   rw [List.append_nil] at hy
   have hal:=hal W3 w ρ (fun _=>False) (fun _=>none) w (fun _ hm=>by cases hm) (St.none w ρ)
   rw [<- hy] at hal
   obtain ⟨s1,s2⟩:=q8 hal
   rw [dF,e1]
   refine ⟨hll.symm,rfl,by rw [hll];exact Nat.le_refl _,yY (cs.map (Cell.af ρ)),fun i v hv=>⟨_,rfl,?_,fun e=>by cases e⟩,fun q u l' hq=> ?_,fun e=>(by cases e),fun _=> .inr ⟨b,[],e,rfl,rfl,by rw [s1,List.append_nil];exact hhp,?_⟩⟩
   ·rw [s1] at hv
    have e2:(⟨b,0,none⟩:Addr).add i=⟨b,i,none⟩:=by unfold Addr.add;split<;>simp_all
    rw [e2,cg hhp];exact hv
   ·obtain ⟨v,hv⟩:=iF hf (List.mem_of_getElem? hq)
    cases hv
   ·exact ⟨by rw [s1,List.append_nil];simp [hcl.1],Nat.le_trans (Nat.le_of_ble_eq_true hcl.2) (by decide)⟩
 ·obtain ⟨s,hs,w5⟩:=hh n o ho
  refine ⟨hlt n o ho,?_⟩
  cases s with
  |same m=>
   obtain ⟨p,hp,hr⟩:=w5
   cases o with
   |cells cs e=>
    simp only [lQ] at hr
    split at hr
    ·rename_i q hq
     rw [<- FD];exact (nu (Γ:=aA st'.heap) (ρ:=ρ) _ _ hq).2
    ·cases hr
   |alias k z q=>
    simp only [lQ] at hr
    split at hr
    ·rename_i k' hk
     rw [<- FD];exact (cC (Γ:=aA st'.heap) (ρ:=ρ) hk).2
    ·cases hr
   |ji tG n0=>
    simp only [lQ] at hr
    split at hr
    ·rename_i hf
     intro i hi
     rw [<- FD];exact (List.getElem?_eq_some_iff.1 (xE n0 hf i hi)).1
    ·cases hr
   |Om ka k u l c q=>
    simp only [lQ] at hr
    split at hr
    ·rename_i c' hc
     rw [<- FD];exact (cC (Γ:=aA st'.heap) (ρ:=ρ) hc).2
    ·cases hr
   |set g=>
    simp only [lQ] at hr
    split at hr
    ·rename_i c' hc
     rw [<- FD];exact (cC (Γ:=aA st'.heap) (ρ:=ρ) hc).2
    ·cases hr
   |gv g c k u x l=>
    simp only [lQ] at hr
    split at hr
    ·rename_i g' c' hg hc
     rw [<- FD];exact ⟨(cC (Γ:=aA st'.heap) (ρ:=ρ) hg).2,(cC (Γ:=aA st'.heap) (ρ:=ρ) hc).2⟩
    ·cases hr
   |rc cs=>
    simp only [lQ] at hr
    split at hr
    ·rename_i q hq
     rw [<- FD];exact (nu (Γ:=aA st'.heap) (ρ:=ρ) _ _ hq).2
    ·cases hr
   |_=>trivial
  |nil=>obtain ⟨t,rk,rfl,_⟩:=w5;trivial
  |cells m len=>obtain ⟨t,l,cs,e,rfl,_⟩:=w5;trivial
 ·obtain ⟨s,m,h1,h2,h3,h4⟩:=hsrc n b hn hb
  obtain ⟨s',m',h1',h2',h3',h4'⟩:=hsrc n' b hn' hb'
  have:=h.st.qC m m' b h3 h3' h4 h4'
  subst this
  exact VE _ _ Tt n n' m s s' hn hn' h1 h1' h2 h2'
 ·obtain ⟨s,m,h1,h2,h3,h4⟩:=hsrc n b hn hb
  exact h.st.yb m b h3 h4
theorem ry.weak (h:ry aC W df st ρ a w) {st':AS} (hw:pN st st'): ∃ρ',ry aC W df st' ρ' a w:=by
 obtain ⟨π,hw⟩:=hw
 exact ⟨_,h.ami hw⟩
theorem ry.drawn (h:ry aC W df st ρ a w) (n:Nat):ry aC W df st ρ a {w with drawn:=n} :=⟨h.tmps,h.size,h.defers,h.kn,h.st.drawn n⟩
theorem ry.yielded (h:ry aC W df st ρ a w) {ops:Array Oper} {j d:Nat} (hd:GZ ops j=some d) {x:Bool} (hx:dG st.tmps d=cf x):yielded ops a.tmps j=some x:=by
 have h1:=h.tmps d (by rw [hx];simp [cf])
 rw [hx] at h1
 have e1:(ops[j]?).bind (·.dst)=some d:=by
  unfold GZ at hd;split at hd
  ·rename_i o ho;simp [ho,hd]
  ·cases hd
 have e2:a.tmps[d]? =some (.bool x):=by
  rw [Array.getD_eq_getD_getElem?] at h1
  cases hq:a.tmps[d]? with
  |none=>rw [hq] at h1;cases h1
  |some v=>rw [hq] at h1;exact congrArg some h1
 simp [Go.yielded,e1,e2]
theorem ry.VN (h:ry aC W df st ρ a w) {ops:Array Oper} {j d:Nat} (hd:GZ ops j=some d) (hx:dG st.tmps d= .AH []):Go.yielded ops a.tmps j=none:=by
 have h1:=h.tmps d (by rw [hx];simp)
 rw [hx] at h1
 have e1:(ops[j]?).bind (·.dst)=some d:=by
  unfold GZ at hd;split at hd
  ·rename_i o ho;simp [ho,hd]
  ·cases hd
 rw [Array.getD_eq_getD_getElem?] at h1
 cases hq:a.tmps[d]? with
 |none=>simp [Go.yielded,e1,hq]
 |some v=>
  rw [hq] at h1
  have e:v= .tuple #[]:=h1
  subst e
  simp [Go.yielded,e1,hq]
end
section
variable {P:Program} {ctx:Ctx} {aC:mY} {W:World} {df:List Deferred} {ro:Option Nat} {n:Nat} {Q:Exit->Act->World->Prop}
theorem MG {o:Op} {st:AS} {k:Rec->Prop} (h:uF ctx o st k):(∀x∈o.operands,pK st.tmps x≠ .dead)/\ opE ctx o (pK st.tmps) (aA st.heap) st.heap.length k:=by
 unfold uF at h
 split at h
 ·rename_i hn
  refine ⟨fun x hx e=> ?_,h⟩
  have:=List.all_eq_true.1 hn x (Array.mem_toList_iff.2 hx)
  rw [e] at this;simp [AV.ad8] at this
 ·exact h.elim
theorem ahA (hT:aW P ctx.tt) (hS:rz P ctx) (hX:GU aC W ctx.X) {st:AS} {ρ:Env} {a:Act} {w:World} (bE:ry aC W df st ρ a w) {o:Oper} {k:Rec->Prop}
  (h:uF ctx o.op st k) {next:Act->World->Prop}
  (hn: ∀r,k r-> ∀ρ' a' w',ry aC W df (st.app o.dst r) ρ' a' w'->next a' w'):o.wpIn (fw ro) n P a w next Q:=by
 obtain ⟨Tt,h⟩:=MG h
 refine al2 hT hS h ro n aC W ρ w a next Q hX (fun x hx=>bE.eval x (Tt x hx)) (fun x _=>bE.adn x) bE.st ?_
 intro r ρ' w' hk hw uI SS hst
 exact hn r hk ρ' _ w' (bE.app hw uI SS hst)
theorem ng (hT:aW P ctx.tt) (hS:rz P ctx) (hX:GU aC W ctx.X) (all:Array Oper): ∀(l:List Oper) (dec:List Nat) (st:AS) (lg:List pe) (K:AS->List pe->Prop),qH ctx all l dec st lg K->
  (∀st' lg' ρ' a' w',K st' lg'->ry aC W df st' ρ' a' w'->Q .normal a' w')-> ∀ρ a w,ry aC W df st ρ a w->wpListIn (fw ro) n P all Q l a w
 | [],dec,st,lg,K,h,hK,ρ,a,w,bE=>hK st lg ρ a w h bE
 |o::rest,dec,st,lg,K,h,hK,ρ,a,w,bE=>by
  have exec: ∀(st:AS) (JW:List Nat) (lg':Rec->List pe),ry aC W df st ρ a w->uF ctx o.op st (fun r=>qH ctx all rest JW (st.app o.dst r) (lg' r) K)->
    o.wpIn (fw ro) n P a w (wpListIn (fw ro) n P all Q rest) Q:=by
   intro st JW lg' bE h
   exact ahA hT hS hX bE h fun r hr ρ' a' w' mV=>ng hT hS hX all rest JW _ _ K hr hK ρ' a' w' mV
  unfold qH at h
  split at h
  ·rename_i hg
   show if Region.wanted o (Go.yielded all a.tmps) then _ else _
   rw [if_pos (by simp [Region.wanted,hg])]
   exact exec st dec _ bE h
  ·rename_i j want hg
   split at h
   ·rename_i d hd
    split at h
    ·rename_i x hx
     have hy:Go.yielded all a.tmps j=some x:=bE.yielded hd hx
     have hw:Region.wanted o (Go.yielded all a.tmps)=(x==want):=by
      simp only [Region.wanted,hg,hy];cases x<;>cases want<;>rfl
     show if Region.wanted o (Go.yielded all a.tmps) then _ else _
     rw [hw]
     split at h
     ·split at h
      ·rename_i e;subst e
       rw [if_pos (by simp)]
       exact exec st dec _ bE h
      ·rename_i e
       rw [if_neg (by simpa using e)]
       exact ⟨fun _ _=>trivial,ng hT hS hX all rest _ _ _ K h hK ρ _ w (bE.skip o.dst)⟩
     ·cases want with
      |true=>
       dsimp only at h
       cases x with
       |true=>
        have h:uF ctx o.op {st with tmps:=st.tmps.set d (cf true)} _:=h
        rw [if_pos (by rfl)]
        rw [oY hx] at h
        exact exec st _ _ bE h
       |false=>
        have h:qH ctx all rest (d::dec) {st with tmps:=kg (st.tmps.set d (cf false)) o.dst aH} (lg++ [nN st.heap.length]) K:=h
        rw [if_neg (by simp)]
        rw [oY hx] at h
        exact ⟨fun _ _=>trivial,ng hT hS hX all rest _ _ _ K h hK ρ _ w (bE.skip o.dst)⟩
      |false=>
       dsimp only at h
       cases x with
       |false=>
        have h:uF ctx o.op {st with tmps:=st.tmps.set d (cf false)} _:=h
        rw [if_pos (by rfl)]
        rw [oY hx] at h
        exact exec st _ _ bE h
       |true=>
        have h:qH ctx all rest (d::dec) {st with tmps:=kg (st.tmps.set d (cf true)) o.dst aH} (lg++ [nN st.heap.length]) K:=h
        rw [if_neg (by simp)]
        rw [oY hx] at h
        exact ⟨fun _ _=>trivial,ng hT hS hX all rest _ _ _ K h hK ρ _ w (bE.skip o.dst)⟩
    ·rename_i hx
     have hy:Go.yielded all a.tmps j=none:=bE.VN hd hx
     show if Region.wanted o (Go.yielded all a.tmps) then _ else _
     rw [if_neg (by simp [Region.wanted,hg,hy])]
     exact ⟨fun _ _=>trivial,ng hT hS hX all rest _ _ _ K h hK ρ _ w (bE.skip o.dst)⟩
    ·exact h.elim
   ·exact h.elim
end
end Go.Ev
