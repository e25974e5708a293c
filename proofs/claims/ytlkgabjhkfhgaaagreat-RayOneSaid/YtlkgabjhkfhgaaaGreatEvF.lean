/- Regions in the text's order; code. -/
import Derived.Test.YtlkgabjhkfhgaaaGreatEvE
import Derived.TacticsIn
noncomputable section
set_option linter.unusedSectionVars false
set_option linter.unusedVariables false
set_option linter.unusedSimpArgs false
namespace Go.Ev
open Go.RowKit
structure mG (ay:iT) (W:World) (df:List Deferred) (st:AS) (ρ:Env) (a:Act) (w:World):Prop where
 tmps: ∀t,dD st.tmps t≠ .dead->a.tmps.getD t undef=(dD st.tmps t).af ρ
 size:a.tmps.size=st.tmps.length
 defers:a.defers=df
 kn: ∀t,(dD st.tmps t).ok (· <st.heap.length)
 st:St ay W ρ (· <st.heap.length) (aj st.heap) w
theorem vT: ∀(l:List AV) (t:Nat),dD l t=l.getD t qo
 | [],t=>by simp [dD]
 |a::r,0=>rfl
 |a::r,t+1=>by simp [dD,vT r t]
theorem BP (l:List AV) (d t:Nat) (v:AV):dD (l.set d v) t=if t=d/\ d<l.length then v else dD l t:=by
 simp only [vT,List.getD,List.getElem?_set]
 by_cases h:d=t
 ·subst h
  by_cases h2:d<l.length
  ·simp [h2]
  ·simp [h2]
 ·simp [h,Ne.symm h]
theorem lG {l:List AV} {d:Nat} {x:Bool} (h:dD l d=bC x):l.set d (bC x)=l:=by
 apply List.ext_getElem?
 intro j
 rw [List.getElem?_set]
 split
 ·rename_i e;subst e
  rw [vT,List.getD] at h
  split
  ·rename_i hl
   rw [List.getElem?_eq_getElem hl] at h ⊢
   simpa using h.symm
  ·rename_i hl
   rw [List.getElem?_eq_none (Nat.le_of_not_lt hl)]
 ·rfl
theorem wk (a:Act) (dst:Option Nat) (v:Value) (t:Nat):(a.put dst v).tmps.getD t undef=match dst with|some d=>(if t=d/\ d<a.tmps.size then v else a.tmps.getD t undef)|none=>a.tmps.getD t undef:=by
 cases dst with
 |none=>rfl
 |some d=>
  simp only [Act.put,Array.getD_eq_getD_getElem?,Array.getElem?_setIfInBounds]
  by_cases h:d=t
  ·subst h
   by_cases h2:d<a.tmps.size
   ·simp [h2]
   ·simp [h2]
  ·simp [h,Ne.symm h]
theorem dk: ∀(ws:List (Nat×aF)) (h:List aF),(ws.foldl (fun h p=>h.set p.1 p.2) h).length=h.length
 | [],_=>rfl
 |p::r,h=>by simp only [List.foldl_cons];rw [dk r];simp
theorem vy: ∀(ws:List (Nat×aF)) (h:List aF),(∀p∈ws,p.1<h.length)-> ∀m,(ws.foldl (fun h p=>h.set p.1 p.2) h)[m]? =match cg ws m with|some o=>some o|none=>h[m]?
 | [],_,_,m=>by simp [cg]
 |p::r,h,hl,m=>by
  simp only [List.foldl_cons]
  rw [vy r _ (fun q hq=>by simpa using hl q (by simp [hq]))]
  simp only [cg]
  cases hr:cg r m with
  |some o=>rfl
  |none=>
   simp only [List.getElem?_set]
   by_cases e:p.1=m
   ·subst e;simp [hl p (by simp)]
   ·simp [e]
theorem lO (st:AS) (dst:Option Nat) (r:Rec):(st.app dst r).heap.length=st.heap.length+r.fresh.length:=by
 simp [AS.app,dk]
theorem Ht (st:AS) (dst:Option Nat) (r:Rec) (hw: ∀p∈r.writes,aj st.heap p.1≠none):aj (st.app dst r).heap=bX r st.heap.length (aj st.heap):=by
 have hl: ∀p∈r.writes,p.1<st.heap.length:=fun p hp=>by
  rcases Nat.lt_or_ge p.1 st.heap.length with h|h
  ·exact h
  ·exact absurd (by rw [bt,List.getElem?_eq_none h];rfl) (hw p hp)
 funext m
 simp only [bX,bt,AS.app]
 by_cases h:st.heap.length<=m/\ m<st.heap.length+r.fresh.length
 ·rw [if_pos h,List.getElem?_append_right (by rw [dk];exact h.1),dk]
 ·rw [if_neg h]
  rcases Nat.lt_or_ge m st.heap.length with h2|h2
  ·rw [List.getElem?_append_left (by rw [dk];exact h2),vy _ _ hl]
   cases cg r.writes m<;>rfl
  ·have hnone:cg r.writes m=none:=by
    have: ∀(ws:List (Nat×aF)),(∀p∈ws,p.1<st.heap.length)->cg ws m=none:=by
     intro ws
     induction ws with
     |nil=>intro _;rfl
     |cons p q ih=>
      intro hh
      simp only [cg,ih (fun x hx=>hh x (by simp [hx]))]
      have:=hh p (by simp)
      rw [if_neg (by omega)]
    exact this _ hl
   rw [hnone,List.getElem?_eq_none (by simp [dk];omega),List.getElem?_eq_none h2]
theorem ou (l:List AV) (d:Option Nat) (v:AV):(iD l d v).length=l.length:=by cases d<;>simp [iD]
theorem jd (l:List AV) (d:Option Nat) (v:AV) (t:Nat):dD (iD l d v) t=match d with|some d=>(if t=d/\ d<l.length then v else dD l t)|none=>dD l t:=by
 cases d<;>simp [iD,BP]
section
variable {ay:iT} {W:World} {df:List Deferred} {st:AS} {ρ:Env} {a:Act} {w:World}
theorem mG.eval (h:mG ay W df st ρ a w) (x:Operand) (hx:eO st.tmps x≠ .dead):a.eval x=(eO st.tmps x).af ρ:=by
 cases x with
 |tmp t=>exact h.tmps t hx
 |const v=>exact (rS v ρ).symm
 |global g=>rfl
 |func f=>rfl
theorem mG.Qh (h:mG ay W df st ρ a w) (x:Operand):(eO st.tmps x).ok (· <st.heap.length):=by
 cases x with
 |tmp t=>exact h.kn t
 |const v=>exact x5 _ _
 |global g=>trivial
 |func f=>exact fun r hr=>absurd hr (by simp)
theorem wo (a:Act) (d:Option Nat) (v:Value):(a.put d v).tmps.size=a.tmps.size:=by cases d<;>simp [Act.put]
theorem put_defers (a:Act) (d:Option Nat) (v:Value):(a.put d v).defers=a.defers:=by cases d<;>rfl
theorem mG.app (h:mG ay W df st ρ a w) {dst:Option Nat} {r:Rec} (hw: ∀p∈r.writes,aj st.heap p.1≠none) {ρ':Env} {w':World} (pP: ∀m,m<st.heap.length->ρ' m=ρ m)
  (Hf:r.val.ok (lK (· <st.heap.length) st.heap.length r)) (hst:St ay W ρ' (lK (· <st.heap.length) st.heap.length r) (bX r st.heap.length (aj st.heap)) w'):
  mG ay W df (st.app dst r) ρ' (a.put dst (r.val.af ρ')) w':=by
 have hkn:lK (· <st.heap.length) st.heap.length r=(· <(st.app dst r).heap.length):=by
  funext m;rw [lO];simp only [lK];apply propext;omega
 rw [hkn,<- Ht st dst r hw] at hst
 rw [hkn] at Hf
 refine ⟨fun t=> ?_,by rw [wo,h.size];simp [AS.app,ou],by rw [put_defers,h.defers],fun t=> ?_,hst⟩
 ·rw [wk]
  simp only [AS.app,jd]
  have hold:dD st.tmps t≠ .dead->a.tmps.getD t undef=(dD st.tmps t).af ρ':=fun hd=>by rw [h.tmps t hd];exact (AV.bH pP _ (h.kn t)).symm
  cases dst with
  |none=>exact hold
  |some d=>
   simp only [h.size]
   split
   ·intro _;rfl
   ·exact hold
 ·have hold:(dD st.tmps t).ok (· <(st.app dst r).heap.length):=AV.aT (fun m hm=>by rw [lO];omega) _ (h.kn t)
  simp only [AS.app,jd]
  cases dst with
  |none=>exact hold
  |some d=>
   dsimp only
   split
   ·exact Hf
   ·exact hold
theorem mG.skip (h:mG ay W df st ρ a w) (dst:Option Nat):mG ay W df {st with tmps:=iD st.tmps dst qo} ρ (a.put dst undef) w:=by
 refine ⟨fun t=> ?_,by rw [wo,h.size];simp [ou],by rw [put_defers,h.defers],fun t=> ?_,h.st⟩
 ·rw [wk]
  simp only [jd]
  cases dst with
  |none=>exact h.tmps t
  |some d=>
   simp only [h.size]
   split
   ·intro _;rfl
   ·exact h.tmps t
 ·simp only [jd]
  cases dst with
  |none=>exact h.kn t
  |some d=>
   dsimp only
   split
   ·exact uY _
   ·exact h.kn t
def jn (π:List Src) (Γ:HP) (ρ:Env):Env:=fun n=>match π[n]? with
 |some (.same m)=>ρ m
 |some .nil=>match Γ n with
  |some (.row t _ _)=> {es:=t.size}
  |_=> {}
 |some (.cells m len)=>match Γ n with
  |some (.row t _ _)=> {bW:=(ρ m).bW,base:=addrOf ρ m 0,len:=len,cap:=len,es:=t.size}
  |_=> {base:=addrOf ρ m 0,len:=len,cap:=len}
 |some (.mt m off)=>match Γ n with
  |some (.row t _ _)=> {base:=addrOf ρ m off,es:=t.size}
  |_=> {base:=addrOf ρ m off}
 |some (.any m)=>ρ m
 |none=> {}
section
variable {π:List Src} {Γ:HP}
theorem mF {n m:Nat} (h:π[n]? =some (.same m)):jn π Γ ρ n=ρ m:=by simp [jn,h]
theorem aY {n m:Nat} (h:gY π n=some m):jn π Γ ρ n=ρ m/\ n<π.length:=by
 unfold gY at h
 split at h
 ·rename_i m' he
  cases h
  exact ⟨mF he,(List.getElem?_eq_some_iff.1 he).1⟩
 ·cases h
theorem qa: ∀(l m:List Ref),iS π l=some m->l.map (Ref.af (jn π Γ ρ))=m.map (Ref.af ρ)/\ ∀r∈l,r.ok (· <π.length)
 | [],m,h=>by simp only [iS,Option.some.injEq] at h;subst h;simp
 |r::l,m,h=>by
  simp only [iS] at h
  split at h
  ·rename_i q m' h1 h2
   cases h
   obtain ⟨e1,e2⟩:=qa l m' h2
   have h3:r.af (jn π Γ ρ)=q.af ρ/\ r.ok (· <π.length):=by
    cases r with
    |ext v=>simp only [mZ,Option.some.injEq] at h1;subst h1;exact ⟨rfl,trivial⟩
    |loc n o=>
     simp only [mZ] at h1
     split at h1
     ·rename_i k hk;cases h1
      obtain ⟨e3,e4⟩:=aY (Γ:=Γ) (ρ:=ρ) hk
      exact ⟨by simp [Ref.af,addrOf,e3],e4⟩
     ·cases h1
    |elem n j=>
     simp only [mZ] at h1
     split at h1
     ·rename_i k hk;cases h1
      obtain ⟨e3,e4⟩:=aY (Γ:=Γ) (ρ:=ρ) hk
      exact ⟨by simp [Ref.af,e3],e4⟩
     ·cases h1
    |full n=>
     simp only [mZ] at h1
     split at h1
     ·rename_i k hk;cases h1
      obtain ⟨e3,e4⟩:=aY (Γ:=Γ) (ρ:=ρ) hk
      exact ⟨by simp [Ref.af,e3],e4⟩
     ·cases h1
    |mp n=>
     simp only [mZ] at h1
     split at h1
     ·rename_i k hk;cases h1
      obtain ⟨e3,e4⟩:=aY (Γ:=Γ) (ρ:=ρ) hk
      exact ⟨by simp [Ref.af,e3],e4⟩
     ·cases h1
   refine ⟨by simp [h3.1,e1],fun x hx=> ?_⟩
   rcases List.mem_cons.1 hx with rfl|hx
   ·exact h3.2
   ·exact e2 x hx
  ·cases h
theorem EY: ∀(c q:Cell),iM π c=some q->c.af (jn π Γ ρ)=q.af ρ/\ c.ok (· <π.length)
 | .raw v,q,h=>by simp only [iM,Option.some.injEq] at h;subst h;exact ⟨rfl,trivial⟩
 | .ptr n o,q,h=>by
  simp only [iM] at h
  split at h
  ·rename_i k hk;cases h
   obtain ⟨e3,e4⟩:=aY (Γ:=Γ) (ρ:=ρ) hk
   exact ⟨by simp [Cell.af,addrOf,e3],e4⟩
  ·cases h
 | .kV n o,q,h=>by
  simp only [iM] at h
  split at h
  ·rename_i k hk;cases h
   obtain ⟨e3,e4⟩:=aY (Γ:=Γ) (ρ:=ρ) hk
   exact ⟨by simp [Cell.af,addrOf,e3],e4⟩
  ·cases h
 | .sl n o l c,q,h=>by
  simp only [iM] at h
  split at h
  ·rename_i k hk;cases h
   obtain ⟨e3,e4⟩:=aY (Γ:=Γ) (ρ:=ρ) hk
   exact ⟨by simp [Cell.af,addrOf,e3],e4⟩
  ·cases h
 | .cN n j z,q,h=>by
  simp only [iM] at h
  split at h
  ·rename_i k hk;cases h
   obtain ⟨e3,e4⟩:=aY (Γ:=Γ) (ρ:=ρ) hk
   exact ⟨by simp [Cell.af,e3],e4⟩
  ·cases h
 | .eZ n j z,q,h=>by
  simp only [iM] at h
  split at h
  ·rename_i k hk;cases h
   obtain ⟨e3,e4⟩:=aY (Γ:=Γ) (ρ:=ρ) hk
   exact ⟨by simp [Cell.af,e3],e4⟩
  ·cases h
 | .Hl n,q,h=>by
  simp only [iM] at h
  split at h
  ·rename_i k hk;cases h
   obtain ⟨e3,e4⟩:=aY (Γ:=Γ) (ρ:=ρ) hk
   exact ⟨by simp [Cell.af,e3],e4⟩
  ·cases h
 | .mp n,q,h=>by
  simp only [iM] at h
  split at h
  ·rename_i k hk;cases h
   obtain ⟨e3,e4⟩:=aY (Γ:=Γ) (ρ:=ρ) hk
   exact ⟨by simp [Cell.af,e3],e4⟩
  ·cases h
 | .mv f a rs,q,h=>by
  simp only [iM] at h
  split at h
  ·rename_i k hk;cases h
   obtain ⟨e3,e4⟩:=qa (Γ:=Γ) (ρ:=ρ) _ _ hk
   exact ⟨by simp only [Cell.af,e3],e4⟩
  ·cases h
 | .jS f a cap,q,h=>by
  simp only [iM] at h
  split at h
  ·rename_i k hk;cases h
   obtain ⟨e3,e4⟩:=qa (Γ:=Γ) (ρ:=ρ) _ _ hk
   exact ⟨by simp only [Cell.af,e3],e4⟩
  ·cases h
 | .full n,q,h=>by
  simp only [iM] at h
  split at h
  ·rename_i m he
   cases h
   exact ⟨by simp [Cell.af,mF he],(List.getElem?_eq_some_iff.1 he).1⟩
  ·rename_i he
   cases h
   refine ⟨?_,(List.getElem?_eq_some_iff.1 he).1⟩
   simp only [Cell.af,jn,he]
   split<;>rfl
  ·rename_i m len he
   cases h
   refine ⟨?_,(List.getElem?_eq_some_iff.1 he).1⟩
   simp only [Cell.af,jn,he]
   split<;>rfl
  ·rename_i m off he
   cases h
   refine ⟨?_,(List.getElem?_eq_some_iff.1 he).1⟩
   simp only [Cell.af,jn,he]
   split<;>rfl
  ·rename_i m he
   cases h
   exact ⟨by simp only [Cell.af,jn,he],(List.getElem?_eq_some_iff.1 he).1⟩
  ·cases h
theorem kz: ∀(l m:List Cell),gF π l=some m->l.map (Cell.af (jn π Γ ρ))=m.map (Cell.af ρ)/\ ∀r∈l,r.ok (· <π.length)
 | [],m,h=>by simp only [gF,Option.some.injEq] at h;subst h;simp
 |r::l,m,h=>by
  simp only [gF] at h
  split at h
  ·rename_i q m' h1 h2
   cases h
   obtain ⟨e1,e2⟩:=kz l m' h2
   obtain ⟨e3,e4⟩:=EY (Γ:=Γ) (ρ:=ρ) _ _ h1
   refine ⟨by simp [e3,e1],fun x hx=> ?_⟩
   rcases List.mem_cons.1 hx with rfl|hx
   ·exact e4
   ·exact e2 x hx
  ·cases h
theorem EX (a q:A0) (h:DK π a=some q):a.af (jn π Γ ρ)=q.af ρ/\ a.ok (· <π.length):=by
 cases a with
 |one c=>
  simp only [DK] at h
  split at h
  ·rename_i k hk;cases h;exact EY _ _ hk
  ·cases h
 |agg cs=>
  simp only [DK] at h
  split at h
  ·rename_i k hk;cases h
   obtain ⟨e1,e2⟩:=kz (Γ:=Γ) (ρ:=ρ) _ _ hk
   exact ⟨by simp only [A0.af,e1],e2⟩
  ·cases h
theorem Cg: ∀(l m:List A0),fX π l=some m->l.map (A0.af (jn π Γ ρ))=m.map (A0.af ρ)/\ ∀r∈l,r.ok (· <π.length)
 | [],m,h=>by simp only [fX,Option.some.injEq] at h;subst h;simp
 |r::l,m,h=>by
  simp only [fX] at h
  split at h
  ·rename_i q m' h1 h2
   cases h
   obtain ⟨e1,e2⟩:=Cg l m' h2
   obtain ⟨e3,e4⟩:=EX (Γ:=Γ) (ρ:=ρ) _ _ h1
   refine ⟨by simp [e3,e1],fun x hx=> ?_⟩
   rcases List.mem_cons.1 hx with rfl|hx
   ·exact e4
   ·exact e2 x hx
  ·cases h
theorem EZ (a q:AV) (h:qb π a=some q):a.af (jn π Γ ρ)=q.af ρ/\ a.ok (· <π.length):=by
 cases a with
 |v a=>
  simp only [qb] at h
  split at h
  ·rename_i k hk;cases h;exact EX _ _ hk
  ·cases h
 |oG l=>
  simp only [qb] at h
  split at h
  ·rename_i k hk;cases h
   obtain ⟨e1,e2⟩:=Cg (Γ:=Γ) (ρ:=ρ) _ _ hk
   exact ⟨by simp only [AV.af,e1],e2⟩
  ·cases h
 |dead=>cases h
theorem qn: ∀(l m:List AV),FF π l m->m.length=l.length/\ ∀t,dD m t= .dead\/ qb π (dD m t)=some (dD l t)
 | [],[],_=>⟨rfl,fun t=> .inr rfl⟩
 |x::r,.dead::s,h=>by
  obtain ⟨h1,h2⟩:=qn r s h
  exact ⟨by simp [h1],fun t=>by cases t with|zero=>exact .inl rfl|succ t=>exact h2 t⟩
 |x::r,.v y::s,h=>by
  obtain ⟨h1,h2⟩:=qn r s h.2
  exact ⟨by simp [h1],fun t=>by cases t with|zero=>exact .inr h.1|succ t=>exact h2 t⟩
 |x::r,.oG y::s,h=>by
  obtain ⟨h1,h2⟩:=qn r s h.2
  exact ⟨by simp [h1],fun t=>by cases t with|zero=>exact .inr h.1|succ t=>exact h2 t⟩
 | [],_::_,h=>h.elim
 |_::_,[],h=>h.elim
theorem Bk {h0:List aF} : ∀(ss:List Src) (l:List aF),ry π h0 ss l->ss.length=l.length/\ ∀n o,aj l n=some o-> ∃s,ss[n]? =some s/\ BS π h0 s o
 | [],[],_=>⟨rfl,fun n o ho=>by simp [aj] at ho⟩
 |s::r,o::l,h=>by
  have main:ry π h0 r l->(aj (o::l) 0=some o->BS π h0 s o)->(s::r).length=(o::l).length/\ ∀n p,aj (o::l) n=some p-> ∃q,(s::r)[n]? =some q/\ BS π h0 q p:=fun h1 h2=>by
   obtain ⟨e1,e2⟩:=Bk r l h1
   refine ⟨by simp [e1],fun n p hp=> ?_⟩
   cases n with
   |zero=>
    have:p=o:=by
     rw [bt] at hp
     cases o<;>simp_all [live]
    subst this
    exact ⟨s,rfl,h2 hp⟩
   |succ n=>exact e2 n p (by simpa [aj] using hp)
  cases o with
  |gone=>exact main h fun h=>by simp [aj] at h
  |_=>exact main h.2 fun _=>h.1
 | [],_::_,h=>by unfold ry at h;exact h.elim
 |_::_,[],h=>by unfold ry at h;exact h.elim
theorem JF: ∀(ss:List Src) (l:List aF) (n m:Nat) (s:Src),(aj l n).isSome=true->ss[n]? =some s->yj s=some m->m∈tw ss l
 | [],_,n,m,s,_,h,_=>by simp at h
 |_::_,[],n,m,s,h,_,_=>by simp [aj] at h
 |q::r,o::l,n,m,s,h1,h2,h3=>by
  have tail: ∀k,n=k+1->m∈tw r l:=fun k e=>by
   subst e
   exact JF r l k m s (by simpa [aj] using h1) (by simpa using h2) h3
  cases n with
  |zero=>
   simp only [List.getElem?_cons_zero,Option.some.injEq] at h2
   subst h2
   cases o with
   |gone=>simp [aj] at h1
   |_=>simp [tw,h3]
  |succ n=>
   have:=tail n rfl
   cases o with
   |gone=>exact this
   |_=>simp only [tw];split<;>simp [this]
theorem JE: ∀(ss:List Src) (l:List aF),(tw ss l).Nodup-> ∀n n' m s s',(aj l n).isSome=true->(aj l n').isSome=true->ss[n]? =some s->ss[n']? =some s'->yj s=some m->yj s'=some m->n=n'
 | [],_,_,n,_,_,s,_,_,_,h,_,_,_=>by simp at h
 |_::_,[],_,n,_,_,s,_,h,_,_,_,_,_=>by simp [aj] at h
 |q::r,o::l,hn,n,n',m,s,s',h1,h2,h3,h4,h5,h6=>by
  have hz: ∀k,(aj (o::l) 0).isSome=true->yj q=some m->(aj (o::l) (k+1)).isSome=true-> ∀s,(q::r)[k+1]? =some s->yj s=some m->False:=fun k g1 g2 g3 s g4 g5=>by
   have:=JF r l k m s (by simpa [aj] using g3) (by simpa using g4) g5
   cases o with
   |gone=>simp [aj] at g1
   |_=>
    simp only [tw,g2] at hn
    exact (List.nodup_cons.1 hn).1 this
  have hr:(tw r l).Nodup:=by
   cases o with
   |gone=>exact hn
   |_=>
    simp only [tw] at hn
    split at hn
    ·exact (List.nodup_cons.1 hn).2
    ·exact hn
  cases n with
  |zero=>
   cases n' with
   |zero=>rfl
   |succ n'=>
    simp only [List.getElem?_cons_zero,Option.some.injEq] at h3
    subst h3
    exact (hz n' h1 h5 h2 s' h4 h6).elim
  |succ n=>
   cases n' with
   |zero=>
    simp only [List.getElem?_cons_zero,Option.some.injEq] at h4
    subst h4
    exact (hz n h2 h6 h1 s h3 h5).elim
   |succ n'=>
    rw [JE r l hr n n' m s s' (by simpa [aj] using h1) (by simpa [aj] using h2) (by simpa using h3) (by simpa using h4) h5 h6]
theorem qZ: ∀(n:Nat),xO π n=true-> ∀m,m<n->π[m]? =some (.same m)
 |0,_,m,hm=>by omega
 |n+1,h,m,hm=>by
  simp only [xO,Bool.and_eq_true] at h
  by_cases e:m=n
  ·subst e
   have h1:=h.1
   split at h1
   ·rename_i k hk
    rw [hk];simp at h1;rw [h1]
   ·cases h1
  ·exact qZ n h.2 m (by omega)
end
theorem IY {π:List Src} {g c:Nat} {es:Array MapEntry} {l7:Nat} {ka:Bool} {k u:Ty} {l:List (k.T×List u.T)} {cur:Option (k.T×Nat)} {p:aF} (h:fB π (.It g c es l7 ka k u l cur)=some p):
  ∃m d cur',gY π g=some m/\ gY π c=some d/\ (∀q,cur=some q-> ∃q',gY π q.2=some q'/\ cur'=some (q.1,q'))/\ p= .It m d es l7 ka k u l cur':=by
 simp only [fB] at h
 cases h1:gY π g with
 |none=>rw [h1] at h;cases h
 |some m=>
  cases h2:gY π c with
  |none=>rw [h1,h2] at h;cases h
  |some d=>
   rw [h1,h2] at h
   cases cur with
   |none=>
    cases h
    exact ⟨m,d,none,rfl,rfl,fun q hq=>(by cases hq),rfl⟩
   |some q=>
    obtain ⟨a,q⟩:=q
    dsimp only at h
    cases h3:gY π q with
    |none=>rw [h3] at h;cases h
    |some q'=>
     rw [h3] at h
     cases h
     exact ⟨m,d,_,rfl,rfl,fun p hp=>(by cases hp;exact ⟨q',h3,rfl⟩),rfl⟩
theorem mG.Wc (h:mG ay W df st ρ a w) {st':AS} {π:List Src} (hw:Ren π st st'):mG ay W df st' (jn π (aj st'.heap) ρ) a w:=by
 obtain ⟨hl,ht⟩:=qn _ _ hw.tmps
 obtain ⟨u7,hh⟩:=Bk _ _ hw.heap
 have ke:=fD hw.inj
 let ρ':=jn π (aj st'.heap) ρ
 have hlt: ∀n o,aj st'.heap n=some o->n<st'.heap.length:=fun n o ho=>by
  rcases Nat.lt_or_ge n st'.heap.length with hn|hn
  ·exact hn
  ·simp [aj,List.getElem?_eq_none hn] at ho
 have hsrc: ∀n b,(aj st'.heap n).isSome=true->(ρ' n).has b-> ∃s m,π[n]? =some s/\ yj s=some m/\ (aj st.heap m).isSome=true/\ (ρ m).has b:=fun n b hn hb=>by
  obtain ⟨o,ho⟩:=Option.isSome_iff_exists.1 hn
  obtain ⟨s,hs,lJ⟩:=hh n o ho
  cases s with
  |same m=>
   obtain ⟨p,hp,_⟩:=lJ
   refine ⟨_,m,hs,rfl,by simp [hp],?_⟩
   rw [<- show ρ' n=ρ m from mF hs];exact hb
  |nil=>
   obtain ⟨t,rk,rfl,_⟩:=lJ
   simp only [ρ',jn,hs,ho] at hb;exact absurd (iA.1 hb) (fun h=>by cases h)
  |mt m off=>
   obtain ⟨t,cs,e,rfl,_⟩:=lJ
   simp only [ρ',jn,hs,ho] at hb;exact absurd (iA.1 hb) (fun h=>by cases h)
  |any m=>
   obtain ⟨t,l,rk,rfl,hp,_⟩:=lJ
   simp only [ρ',jn,hs] at hb
   exact ⟨_,m,hs,rfl,by simp [hp],hb⟩
  |cells m len=>
   obtain ⟨t,l,cs,e,rk,rfl,_,hp,_⟩:=lJ
   simp only [ρ',jn,hs,ho] at hb
   exact ⟨_,m,hs,rfl,by simp [hp],.inl (iA.1 hb)⟩
 have sV: ∀b,HI (aj st'.heap) b->HI (aj st.heap) b:=fun b ⟨n,S,h1,h2⟩=>by
  obtain ⟨s,hs,lJ⟩:=hh n _ h1
  cases s with
  |same m=>
   obtain ⟨p,hp,hr⟩:=lJ
   simp only [fB,Option.some.injEq] at hr
   subst hr
   exact ⟨m,S,hp,h2⟩
  |nil=>obtain ⟨_,_,e,_⟩:=lJ;cases e
  |mt m off=>obtain ⟨_,_,_,e,_⟩:=lJ;cases e
  |any m=>obtain ⟨_,_,_,e,_⟩:=lJ;cases e
  |cells m len=>obtain ⟨_,_,_,_,_,e,_⟩:=lJ;cases e
 have hfz: ∀b,dQ ρ (aj st.heap) w b->dQ ρ' (aj st'.heap) w b/\ w.heap[b]? =w.heap[b]? :=fun b hb=>by
  refine ⟨⟨hb.1,?_⟩,rfl⟩
  rintro (⟨n,h1,h2⟩|⟨n,S,h1,h2⟩)
  ·obtain ⟨s,m,_,_,h5,h6⟩:=hsrc n b h1 h2
   exact hb.2 (.inl ⟨m,h5,h6⟩)
  ·exact hb.2 (.inr (sV b ⟨n,S,h1,h2⟩))
 show mG ay W df st' ρ' a w
 refine ⟨fun t hd=> ?_,by rw [h.size,hl],h.defers,fun t=> ?_,⟨h.st.fr,fun n o ho=> ?_,fun n o ho=> ?_,fun n n' b hn hn' hb hb'=> ?_,fun n b hn hb=> ?_,fun b JV=> ?_,fun n o ho=> ?_⟩⟩
 rotate_right
 ·obtain ⟨s,hs,lJ⟩:=hh n o ho
  cases s with
  |same m=>
   obtain ⟨p,hp,hr⟩:=lJ
   rw [show ρ' n=ρ m from mF hs]
   rcases h.st.s8 m p hp with ⟨g,rfl⟩|he
   ·cases o with
    |set g'=>exact .inl ⟨_,rfl⟩
    |_=>
     simp only [fB] at hr
     first
     |(cases hr;done)
     |(split at hr<;>cases hr)
     |(split at hr<;>first|(cases hr;done)|(split at hr<;>cases hr))
   ·exact .inr he
  |nil=>
   obtain ⟨t,rk,rfl,_⟩:=lJ
   exact .inr (by simp only [ρ',jn,hs,ho])
  |mt m off=>
   obtain ⟨t,cs,e,rfl,_⟩:=lJ
   exact .inr (by simp only [ρ',jn,hs,ho])
  |any m=>
   obtain ⟨t,l,rk,rfl,hp,_⟩:=lJ
   refine .inr ?_
   simp only [ρ',jn,hs]
   exact (h.st.s8 m _ hp).elim (fun ⟨_,e⟩=>by cases e) id
  |cells m len=>
   obtain ⟨t,l,cs,e,rk,rfl,_⟩:=lJ
   exact .inr (by simp only [ρ',jn,hs,ho])
 rotate_right
 ·obtain ⟨h1,h2⟩:=h.st.sW b (sV b JV)
  refine ⟨h1,?_⟩
  rintro ⟨n,h3,h4⟩
  obtain ⟨s,m,_,_,h5,h6⟩:=hsrc n b h3 h4
  exact h2 ⟨m,h5,h6⟩
 ·rcases ht t with e|e
  ·exact absurd e hd
  ·have hne:dD st.tmps t≠ .dead:=fun e2=>by
    rw [e2] at e
    revert e;cases dD st'.tmps t<;>simp only [qb]<;>(try split)<;>intro e<;>cases e
   rw [h.tmps t hne]
   exact (EZ _ _ e).1.symm
 ·rcases ht t with e|e
  ·rw [e];trivial
  ·rw [<- u7];exact (EZ (Γ:=aj st'.heap) (ρ:=ρ) _ _ e).2
 ·obtain ⟨s,hs,lJ⟩:=hh n o ho
  cases s with
  |same m=>
   obtain ⟨p,hp,hr⟩:=lJ
   have hn:ρ' n=ρ m:=mF hs
   have bB:=h.st.at_ m p hp
   cases o with
   |cells cs e=>
    simp only [fB] at hr
    split at hr
    ·rename_i q hq
     cases hr
     obtain ⟨b,hb,X8⟩:=bB
     exact ⟨b,by rw [hn];exact hb,by rw [X8,(kz (Γ:=aj st'.heap) (ρ:=ρ) _ _ hq).1]⟩
    ·cases hr
   |row t l rk=>
    simp only [fB,Option.some.injEq] at hr
    subst hr
    obtain ⟨o1,o2,o3,sub,o4⟩:=bB
    rw [bg,hn]
    exact ⟨o1,o2,o3,sub,o4.keep hfz (fun _ _ h=>h) fun _ _=>rfl⟩
   |alias k z q=>
    simp only [fB] at hr
    split at hr
    ·rename_i k' hk
     cases hr
     have:=(aY (Γ:=aj st'.heap) (ρ:=ρ) hk).1
     rw [bg,hn,show ρ' k=ρ k' from this]
     exact bB
    ·cases hr
   |gone=>cases hr
   |loop r z j=>
    simp only [fB,Option.some.injEq] at hr
    subst hr
    obtain ⟨b,hb,X8⟩:=bB
    exact ⟨b,by rw [hn];exact hb,X8⟩
   |fJ S=>
    simp only [fB,Option.some.injEq] at hr
    subst hr
    rw [bg,hn];exact bB
   |map ka va kt vt l=>
    simp only [fB,Option.some.injEq] at hr
    subst hr
    rw [bg,hn];exact bB
   |dO b8 n0=>
    simp only [fB] at hr
    split at hr
    ·rename_i hf
     cases hr
     exact ⟨by rw [hn];exact bB.1,fun i hi=>by rw [show ρ' i=ρ i from mF (qZ n0 hf i hi)];exact bB.2 i hi⟩
    ·cases hr
   |dp t l c s0 kn=>
    simp only [fB] at hr
    split at hr
    ·rename_i c' hc
     cases hr
     have:=(aY (Γ:=aj st'.heap) (ρ:=ρ) hc).1
     rw [bg,hn,show ρ' c=ρ c' from this]
     exact bB
    ·cases hr
   |nv g c j q u=>
    simp only [fB] at hr
    split at hr
    ·rename_i g' c' hg hc
     cases hr
     have e:=(aY (Γ:=aj st'.heap) (ρ:=ρ) hc).1
     have e':=(aY (Γ:=aj st'.heap) (ρ:=ρ) hg).1
     rw [bg,hn,show ρ' c=ρ c' from e,show ρ' g=ρ g' from e'];exact bB
    ·cases hr
   |Ec ka k u l c q=>
    simp only [fB] at hr
    split at hr
    ·rename_i c' hc
     cases hr
     have e:=(aY (Γ:=aj st'.heap) (ρ:=ρ) hc).1
     rw [bg,hn,show ρ' c=ρ c' from e];exact bB
    ·cases hr
   |set g=>
    simp only [fB] at hr
    split at hr
    ·cases hr
     rw [bg,hn];exact bB
    ·cases hr
   |gv g c k u x l=>
    simp only [fB] at hr
    split at hr
    ·rename_i g' c' hg hc
     cases hr
     have e:=(aY (Γ:=aj st'.heap) (ρ:=ρ) hc).1
     rw [bg,hn,show ρ' c=ρ c' from e];exact bB
    ·cases hr
   |rc cs=>
    simp only [fB] at hr
    split at hr
    ·rename_i q hq
     cases hr
     rw [bg,hn]
     refine ⟨bB.1,fun i c hc=> ?_⟩
     have e:=(kz (Γ:=aj st'.heap) (ρ:=ρ) _ _ hq).1
     have e1:(cs.map (Cell.af ρ'))[i]? =some (c.af ρ'):=by rw [List.getElem?_map,hc];rfl
     rw [show cs.map (Cell.af ρ')=q.map (Cell.af ρ) from e,List.getElem?_map] at e1
     obtain ⟨d,hd,e2⟩:=Option.map_eq_some_iff.1 e1
     rw [<- e2]
     obtain ⟨a,h1,h2,h3⟩:=bB.2 i d hd
     exact ⟨a,h1,h2,(hfz _ h3).1⟩
    ·cases hr
   |hmap es l7=>
    simp only [fB,Option.some.injEq] at hr
    subst hr
    rw [bg,hn];exact bB
   |It g c es l7 ka k u l cur=>
    have key: ∀(m' d:Nat) (cur':Option (k.T×Nat)),gY π g=some m'->gY π c=some d->(∀q,cur=some q-> ∃q',gY π q.2=some q'/\ cur'=some (q.1,q'))->bg (dQ ρ (aj st.heap) w) (p7 ay W) ρ m (.It m' d es l7 ka k u l cur') w->bg (dQ ρ' (aj st'.heap) w) (p7 ay W) ρ' n (.It g c es l7 ka k u l cur) w:=by
     intro m' d cur' hg hc aa2 bB
     have e1:ρ' g=ρ m':=(aY (Γ:=aj st'.heap) (ρ:=ρ) hg).1
     have e2:ρ' c=ρ d:=(aY (Γ:=aj st'.heap) (ρ:=ρ) hc).1
     rw [bg] at bB
     rw [bg,hn,e1,e2]
     obtain ⟨a1,a2,a3,b,since,seen,c0,a4,a5,a6,a7,a8,a9,a10,a11⟩:=bB
     refine ⟨a1,a2,a3,b,since,seen,c0,a4,a5,a6,a7,a8,a9,a10,fun q hq=> ?_⟩
     obtain ⟨q',h1,h2⟩:=aa2 q hq
     have e3:ρ' q.2=ρ q':=(aY (Γ:=aj st'.heap) (ρ:=ρ) h1).1
     rw [e3]
     exact a11 _ h2
    obtain ⟨m',d,cur',h1,h2,h3,rfl⟩:=IY hr
    exact key m' d cur' h1 h2 h3 bB
  |nil=>
   obtain ⟨t,rk,rfl,oa⟩:=lJ
   have e:ρ' n= {es:=t.size} :=by simp only [ρ',jn,hs,ho]
   rw [bg,e]
   exact ⟨rfl,rfl,Nat.le_refl _,fun _=>(none,0),fun i v hv=>by simp [ax,aE] at hv,fun q u l' hq=>by simp [ax] at hq,fun e=>absurd e oa,fun _=> .inl ⟨rfl,rfl,rfl,fun _=>rfl⟩⟩
  |mt m off=>
   obtain ⟨t,cs,e,rfl,hp⟩:=lJ
   have e1:ρ' n= {base:=addrOf ρ m off,es:=t.size} :=by simp only [ρ',jn,hs,ho]
   rw [bg,e1]
   exact ⟨rfl,rfl,Nat.le_refl _,fun _=>(none,0),fun i v hv=>by simp [ax,aE] at hv,fun q u l' hq=>by simp [ax] at hq,fun e=>(by cases e),fun _=> .inl ⟨rfl,rfl,rfl,fun q=>absurd rfl q⟩⟩
  |any m=>
   obtain ⟨t,l,rk,rfl,hp,oa⟩:=lJ
   have e1:ρ' n=ρ m:=by simp only [ρ',jn,hs]
   obtain ⟨o1,o2,o3,sub,o4⟩:=h.st.at_ m _ hp
   obtain ⟨m1,m2,m3,m4⟩:=o4.keep (Td:=dQ ρ' (aj st'.heap) w) (pm':=p7 ay W) hfz (fun _ _ h=>h) fun _ _=>rfl
   rw [bg,e1]
   exact ⟨o1,o2,o3,sub,fun i v hv=>by
    obtain ⟨a,h1,h2,_⟩:=m1 i v hv
    exact ⟨a,h1,h2,fun e=>by cases e⟩,fun q u l' hq=>(m2 q u l' hq).mono fun b hb=>⟨⟨hb.1,fun e=>by cases e⟩,rfl⟩,fun e=>(by cases e),fun _=>(m4 oa).any⟩
  |cells m len=>
   obtain ⟨t,l,cs,e,rk,rfl,oa,hp,hf,hd,Kl⟩:=lJ
   obtain ⟨b,hb,X8⟩:=h.st.at_ m _ hp
   have e1:ρ' n= {bW:=some b,base:=some ⟨b,0,none⟩,len:=len,cap:=len,es:=t.size} :=by simp only [ρ',jn,hs,ho,addrOf,hb,Option.map_some]
   obtain ⟨hll,ys,r,hy,hyl,WH⟩:=ND (ju hf) _ _ _ _ hd
   have hr:r= []:=List.eq_nil_of_length_eq_zero (by have:=congrArg List.length hy;rw [List.length_append] at this;omega)
   subst hr
   rw [List.append_nil] at hy
   have WH:=WH K2 w ρ (fun _=>False) (fun _=>none) w (fun _ hm=>by cases hm) (St.none w ρ)
   rw [<- hy] at WH
   obtain ⟨s1,s2⟩:=ja WH
   rw [bg,e1]
   refine ⟨hll.symm,rfl,by rw [hll];exact Nat.le_refl _,o8 (cs.map (Cell.af ρ)),fun i v hv=>⟨_,rfl,?_,fun e=>(by rcases oa with rfl|rfl<;>cases e)⟩,fun q u l' hq=> ?_,fun e=>(by rcases oa with rfl|rfl<;>cases e),fun _=>gK.new (.inr ⟨b,[],e,rfl,rfl,by rw [s1,List.append_nil];exact X8,?_⟩)⟩
   ·rw [s1] at hv
    have e2:(⟨b,0,none⟩:Addr).add i=⟨b,i,none⟩:=by unfold Addr.add;split<;>simp_all
    rw [e2,bL X8];exact hv
   ·obtain ⟨v,hv⟩:=eH hf (List.mem_of_getElem? hq)
    cases hv
   ·exact ⟨by rw [s1,List.append_nil];simp [Kl.1],Nat.le_trans (Nat.le_of_ble_eq_true Kl.2) (by decide)⟩
 ·obtain ⟨s,hs,lJ⟩:=hh n o ho
  refine ⟨hlt n o ho,?_⟩
  cases s with
  |same m=>
   obtain ⟨p,hp,hr⟩:=lJ
   cases o with
   |cells cs e=>
    simp only [fB] at hr
    split at hr
    ·rename_i q hq
     rw [<- u7];exact (kz (Γ:=aj st'.heap) (ρ:=ρ) _ _ hq).2
    ·cases hr
   |alias k z q=>
    simp only [fB] at hr
    split at hr
    ·rename_i k' hk
     rw [<- u7];exact (aY (Γ:=aj st'.heap) (ρ:=ρ) hk).2
    ·cases hr
   |dO b8 n0=>
    simp only [fB] at hr
    split at hr
    ·rename_i hf
     intro i hi
     rw [<- u7];exact (List.getElem?_eq_some_iff.1 (qZ n0 hf i hi)).1
    ·cases hr
   |Ec ka k u l c q=>
    simp only [fB] at hr
    split at hr
    ·rename_i c' hc
     rw [<- u7];exact (aY (Γ:=aj st'.heap) (ρ:=ρ) hc).2
    ·cases hr
   |set g=>
    simp only [fB] at hr
    split at hr
    ·rename_i c' hc
     rw [<- u7];exact (aY (Γ:=aj st'.heap) (ρ:=ρ) hc).2
    ·cases hr
   |dp t l c=>
    simp only [fB] at hr
    split at hr
    ·rename_i c' hc
     rw [<- u7];exact (aY (Γ:=aj st'.heap) (ρ:=ρ) hc).2
    ·cases hr
   |gv g c k u x l=>
    simp only [fB] at hr
    split at hr
    ·rename_i g' c' hg hc
     rw [<- u7];exact ⟨(aY (Γ:=aj st'.heap) (ρ:=ρ) hg).2,(aY (Γ:=aj st'.heap) (ρ:=ρ) hc).2⟩
    ·cases hr
   |nv g c j q u=>
    simp only [fB] at hr
    split at hr
    ·rename_i g' c' hg hc
     rw [<- u7];exact ⟨(aY (Γ:=aj st'.heap) (ρ:=ρ) hg).2,(aY (Γ:=aj st'.heap) (ρ:=ρ) hc).2⟩
    ·cases hr
   |rc cs=>
    simp only [fB] at hr
    split at hr
    ·rename_i q hq
     rw [<- u7];exact (kz (Γ:=aj st'.heap) (ρ:=ρ) _ _ hq).2
    ·cases hr
   |It g c es l7 ka k u l cur=>
    obtain ⟨m',d,cur',h1,h2,h3,rfl⟩:=IY hr
    rw [<- u7]
    exact ⟨(aY (Γ:=aj st'.heap) (ρ:=ρ) h1).2,(aY (Γ:=aj st'.heap) (ρ:=ρ) h2).2,fun p hp=>by
     obtain ⟨q',h4,_⟩:=h3 p hp
     exact (aY (Γ:=aj st'.heap) (ρ:=ρ) h4).2⟩
   |_=>trivial
  |nil=>obtain ⟨t,rk,rfl,_⟩:=lJ;trivial
  |mt m off=>obtain ⟨t,cs,e,rfl,_⟩:=lJ;trivial
  |any m=>obtain ⟨t,l,rk,rfl,_⟩:=lJ;trivial
  |cells m len=>obtain ⟨t,l,cs,e,rk,rfl,_⟩:=lJ;trivial
 ·obtain ⟨s,m,h1,h2,h3,h4⟩:=hsrc n b hn hb
  obtain ⟨s',m',h1',h2',h3',h4'⟩:=hsrc n' b hn' hb'
  have:=h.st.dV m m' b h3 h3' h4 h4'
  subst this
  exact JE _ _ ke n n' m s s' hn hn' h1 h1' h2 h2'
 ·obtain ⟨s,m,h1,h2,h3,h4⟩:=hsrc n b hn hb
  exact h.st.kq m b h3 h4
theorem mG.weak (h:mG ay W df st ρ a w) {st':AS} (hw:Dn st st'): ∃ρ',mG ay W df st' ρ' a w:=by
 obtain ⟨π,hw⟩:=hw
 exact ⟨_,h.Wc hw⟩
theorem mG.drawn (h:mG ay W df st ρ a w) (n:Nat) (hn:w.drawn<=n):mG ay W df st ρ a {w with drawn:=n} :=⟨h.tmps,h.size,h.defers,h.kn,h.st.drawn n hn⟩
theorem mG.yielded (h:mG ay W df st ρ a w) {ops:Array Oper} {j d:Nat} (hd:yE ops j=some d) {x:Bool} (hx:dD st.tmps d=bC x):yielded ops a.tmps j=some x:=by
 have h1:=h.tmps d (by rw [hx];simp [bC])
 rw [hx] at h1
 have e1:(ops[j]?).bind (·.dst)=some d:=by
  unfold yE at hd;split at hd
  ·rename_i o ho;simp [ho,hd]
  ·cases hd
 have e2:a.tmps[d]? =some (.bool x):=by
  rw [Array.getD_eq_getD_getElem?] at h1
  cases hq:a.tmps[d]? with
  |none=>rw [hq] at h1;cases h1
  |some v=>rw [hq] at h1;exact congrArg some h1
 simp [Go.yielded,e1,e2]
theorem mG.JT (h:mG ay W df st ρ a w) {ops:Array Oper} {j d:Nat} (hd:yE ops j=some d) (hx:dD st.tmps d= .oG []):Go.yielded ops a.tmps j=none:=by
 have h1:=h.tmps d (by rw [hx];simp)
 rw [hx] at h1
 have e1:(ops[j]?).bind (·.dst)=some d:=by
  unfold yE at hd;split at hd
  ·rename_i o ho;simp [ho,hd]
  ·cases hd
 rw [Array.getD_eq_getD_getElem?] at h1
 cases hq:a.tmps[d]? with
 |none=>simp [Go.yielded,e1,hq]
 |some v=>
  rw [hq] at h1
  have e:v= .tuple #[]:=h1
  subst e
  simp [Go.yielded,e1,hq]
end
section
variable {P:Program} {ctx:Ctx} {ay:iT} {W:World} {df:List Deferred} {ro:Option Nat} {n:Nat} {Q:Exit->Act->World->Prop}
theorem CZ {o:Op} {st:AS} {k:Rec->Prop} (h:oZ ctx o st k):(∀x∈o.operands,eO st.tmps x≠ .dead)/\ Ah ctx o (eO st.tmps) (aj st.heap) st.heap.length k:=by
 unfold oZ at h
 split at h
 ·rename_i hn
  refine ⟨fun x hx e=> ?_,h⟩
  have:=List.all_eq_true.1 hn x (Array.mem_toList_iff.2 hx)
  rw [e] at this;simp [AV.Rb] at this
 ·exact h.elim
theorem UO (hT:aO P ctx.tt) (hS:qE P ctx) (hX:yw ay W ctx.X) {st:AS} {ρ:Env} {a:Act} {w:World} (bB:mG ay W df st ρ a w) {o:Oper} {k:Rec->Prop}
  (h:oZ ctx o.op st k) {next:Act->World->Prop}
  (hn: ∀r,k r-> ∀ρ' a' w',mG ay W df (st.app o.dst r) ρ' a' w'->next a' w'):o.wpIn (fw ro) n P a w next Q:=by
 obtain ⟨ke,h⟩:=CZ h
 refine Zx hT hS h ro n ay W ρ w a next Q hX (fun x hx=>bB.eval x (ke x hx)) (fun x _=>bB.Qh x) bB.st ?_
 intro r ρ' w' hk hw pP Hf hst
 exact hn r hk ρ' _ w' (bB.app hw pP Hf hst)
theorem kp (hT:aO P ctx.tt) (hS:qE P ctx) (hX:yw ay W ctx.X) (all:Array Oper): ∀(l:List Oper) (dec:List Nat) (st:AS) (lg:List fR) (K:AS->List fR->Prop),mT ctx all l dec st lg K->
  (∀st' lg' ρ' a' w',K st' lg'->mG ay W df st' ρ' a' w'->Q .normal a' w')-> ∀ρ a w,mG ay W df st ρ a w->wpListIn (fw ro) n P all Q l a w
 | [],dec,st,lg,K,h,hK,ρ,a,w,bB=>hK st lg ρ a w h bB
 |o::rest,dec,st,lg,K,h,hK,ρ,a,w,bB=>by
  have exec: ∀(st:AS) (AQ:List Nat) (lg':Rec->List fR),mG ay W df st ρ a w->oZ ctx o.op st (fun r=>mT ctx all rest AQ (st.app o.dst r) (lg' r) K)->
    o.wpIn (fw ro) n P a w (wpListIn (fw ro) n P all Q rest) Q:=by
   intro st AQ lg' bB h
   exact UO hT hS hX bB h fun r hr ρ' a' w' jT=>kp hT hS hX all rest AQ _ _ K hr hK ρ' a' w' jT
  unfold mT at h
  split at h
  ·rename_i hg
   show if Region.wanted o (Go.yielded all a.tmps) then _ else _
   rw [if_pos (by simp [Region.wanted,hg])]
   exact exec st dec _ bB h
  ·rename_i j want hg
   split at h
   ·rename_i d hd
    split at h
    ·rename_i x hx
     have hy:Go.yielded all a.tmps j=some x:=bB.yielded hd hx
     have hw:Region.wanted o (Go.yielded all a.tmps)=(x==want):=by
      simp only [Region.wanted,hg,hy];cases x<;>cases want<;>rfl
     show if Region.wanted o (Go.yielded all a.tmps) then _ else _
     rw [hw]
     split at h
     ·split at h
      ·rename_i e;subst e
       rw [if_pos (by simp)]
       exact exec st dec _ bB h
      ·rename_i e
       rw [if_neg (by simpa using e)]
       exact ⟨fun _ _=>trivial,kp hT hS hX all rest _ _ _ K h hK ρ _ w (bB.skip o.dst)⟩
     ·cases want with
      |true=>
       dsimp only at h
       cases x with
       |true=>
        have h:oZ ctx o.op {st with tmps:=st.tmps.set d (bC true)} _:=h
        rw [if_pos (by rfl)]
        rw [lG hx] at h
        exact exec st _ _ bB h
       |false=>
        have h:mT ctx all rest (d::dec) {st with tmps:=iD (st.tmps.set d (bC false)) o.dst qo} (lg++ [kM st.heap.length]) K:=h
        rw [if_neg (by simp)]
        rw [lG hx] at h
        exact ⟨fun _ _=>trivial,kp hT hS hX all rest _ _ _ K h hK ρ _ w (bB.skip o.dst)⟩
      |false=>
       dsimp only at h
       cases x with
       |false=>
        have h:oZ ctx o.op {st with tmps:=st.tmps.set d (bC false)} _:=h
        rw [if_pos (by rfl)]
        rw [lG hx] at h
        exact exec st _ _ bB h
       |true=>
        have h:mT ctx all rest (d::dec) {st with tmps:=iD (st.tmps.set d (bC true)) o.dst qo} (lg++ [kM st.heap.length]) K:=h
        rw [if_neg (by simp)]
        rw [lG hx] at h
        exact ⟨fun _ _=>trivial,kp hT hS hX all rest _ _ _ K h hK ρ _ w (bB.skip o.dst)⟩
    ·rename_i hx
     have hy:Go.yielded all a.tmps j=none:=bB.JT hd hx
     show if Region.wanted o (Go.yielded all a.tmps) then _ else _
     rw [if_neg (by simp [Region.wanted,hg,hy])]
     exact ⟨fun _ _=>trivial,kp hT hS hX all rest _ _ _ K h hK ρ _ w (bB.skip o.dst)⟩
    ·exact h.elim
   ·exact h.elim
end
end Go.Ev
