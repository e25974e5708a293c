/- Regions in the text's order; code. -/
import Derived.Test.YtngdehlpoomaiaaGreatEvE
import Derived.TacticsIn
noncomputable section
set_option linter.unusedSectionVars false
set_option linter.unusedVariables false
set_option linter.unusedSimpArgs false
namespace Go.Ev
open Go.RowKit
structure mF (av:fG) (W:World) (df:List Deferred) (st:AS) (ρ:Env) (a:Act) (w:World):Prop where
 tmps: ∀t,bY st.tmps t≠ .dead->a.tmps.getD t undef=(bY st.tmps t).ae ρ
 size:a.tmps.size=st.tmps.length
 defers:a.defers=df
 kn: ∀t,(bY st.tmps t).ok (· <st.heap.length)
 st:St av W ρ (· <st.heap.length) (ai st.heap) w
theorem rZ: ∀(l:List AV) (t:Nat),bY l t=l.getD t ck
 | [],t=>by simp [bY]
 |a::r,0=>rfl
 |a::r,t+1=>by simp [bY,rZ r t]
theorem fu (l:List AV) (d t:Nat) (v:AV):bY (l.set d v) t=if t=d/\ d<l.length then v else bY l t:=by
 simp only [rZ,List.getD,List.getElem?_set]
 by_cases h:d=t
 ·subst h
  by_cases h2:d<l.length
  ·simp [h2]
  ·simp [h2]
 ·simp [h,Ne.symm h]
theorem oE {l:List AV} {d:Nat} {x:Bool} (h:bY l d=bG x):l.set d (bG x)=l:=by
 apply List.ext_getElem?
 intro j
 rw [List.getElem?_set]
 split
 ·rename_i e;subst e
  rw [rZ,List.getD] at h
  split
  ·rename_i hl
   rw [List.getElem?_eq_getElem hl] at h ⊢
   simpa using h.symm
  ·rename_i hl
   rw [List.getElem?_eq_none (Nat.le_of_not_lt hl)]
 ·rfl
theorem jz (a:Act) (dst:Option Nat) (v:Value) (t:Nat):(a.put dst v).tmps.getD t undef=match dst with|some d=>(if t=d/\ d<a.tmps.size then v else a.tmps.getD t undef)|none=>a.tmps.getD t undef:=by
 cases dst with
 |none=>rfl
 |some d=>
  simp only [Act.put,Array.getD_eq_getD_getElem?,Array.getElem?_setIfInBounds]
  by_cases h:d=t
  ·subst h
   by_cases h2:d<a.tmps.size
   ·simp [h2]
   ·simp [h2]
  ·simp [h,Ne.symm h]
theorem dN: ∀(ws:List (Nat×aD)) (h:List aD),(ws.foldl (fun h p=>h.set p.1 p.2) h).length=h.length
 | [],_=>rfl
 |p::r,h=>by simp only [List.foldl_cons];rw [dN r];simp
theorem Df: ∀(ws:List (Nat×aD)) (h:List aD),(∀p∈ws,p.1<h.length)-> ∀m,(ws.foldl (fun h p=>h.set p.1 p.2) h)[m]? =match cm ws m with|some o=>some o|none=>h[m]?
 | [],_,_,m=>by simp [cm]
 |p::r,h,hl,m=>by
  simp only [List.foldl_cons]
  rw [Df r _ (fun q hq=>by simpa using hl q (by simp [hq]))]
  simp only [cm]
  cases hr:cm r m with
  |some o=>rfl
  |none=>
   simp only [List.getElem?_set]
   by_cases e:p.1=m
   ·subst e;simp [hl p (by simp)]
   ·simp [e]
theorem oJ (st:AS) (dst:Option Nat) (r:Rec):(st.app dst r).heap.length=st.heap.length+r.fresh.length:=by
 simp [AS.app,dN]
theorem UT (st:AS) (dst:Option Nat) (r:Rec) (hw: ∀p∈r.writes,ai st.heap p.1≠none):ai (st.app dst r).heap=bV r st.heap.length (ai st.heap):=by
 have hl: ∀p∈r.writes,p.1<st.heap.length:=fun p hp=>by
  rcases Nat.lt_or_ge p.1 st.heap.length with h|h
  ·exact h
  ·exact absurd (by rw [bz,List.getElem?_eq_none h];rfl) (hw p hp)
 funext m
 simp only [bV,bz,AS.app]
 by_cases h:st.heap.length<=m/\ m<st.heap.length+r.fresh.length
 ·rw [if_pos h,List.getElem?_append_right (by rw [dN];exact h.1),dN]
 ·rw [if_neg h]
  rcases Nat.lt_or_ge m st.heap.length with h2|h2
  ·rw [List.getElem?_append_left (by rw [dN];exact h2),Df _ _ hl]
   cases cm r.writes m<;>rfl
  ·have hnone:cm r.writes m=none:=by
    have: ∀(ws:List (Nat×aD)),(∀p∈ws,p.1<st.heap.length)->cm ws m=none:=by
     intro ws
     induction ws with
     |nil=>intro _;rfl
     |cons p q ih=>
      intro hh
      simp only [cm,ih (fun x hx=>hh x (by simp [hx]))]
      have:=hh p (by simp)
      rw [if_neg (by omega)]
    exact this _ hl
   rw [hnone,List.getElem?_eq_none (by simp [dN];omega),List.getElem?_eq_none h2]
theorem s9 (l:List AV) (d:Option Nat) (v:AV):(j8 l d v).length=l.length:=by cases d<;>simp [j8]
theorem lq (l:List AV) (d:Option Nat) (v:AV) (t:Nat):bY (j8 l d v) t=match d with|some d=>(if t=d/\ d<l.length then v else bY l t)|none=>bY l t:=by
 cases d<;>simp [j8,fu]
section
variable {av:fG} {W:World} {df:List Deferred} {st:AS} {ρ:Env} {a:Act} {w:World}
theorem mF.eval (h:mF av W df st ρ a w) (x:Operand) (hx:cE st.tmps x≠ .dead):a.eval x=(cE st.tmps x).ae ρ:=by
 cases x with
 |tmp t=>exact h.tmps t hx
 |const v=>exact (qK v ρ).symm
 |global g=>rfl
 |func f=>rfl
theorem mF.Sr (h:mF av W df st ρ a w) (x:Operand):(cE st.tmps x).ok (· <st.heap.length):=by
 cases x with
 |tmp t=>exact h.kn t
 |const v=>exact ym _ _
 |global g=>trivial
 |func f=>exact fun r hr=>absurd hr (by simp)
theorem oz (a:Act) (d:Option Nat) (v:Value):(a.put d v).tmps.size=a.tmps.size:=by cases d<;>simp [Act.put]
theorem put_defers (a:Act) (d:Option Nat) (v:Value):(a.put d v).defers=a.defers:=by cases d<;>rfl
theorem mF.app (h:mF av W df st ρ a w) {dst:Option Nat} {r:Rec} (hw: ∀p∈r.writes,ai st.heap p.1≠none) {ρ':Env} {w':World} (sP: ∀m,m<st.heap.length->ρ' m=ρ m)
  (Oa:r.val.ok (oI (· <st.heap.length) st.heap.length r)) (hst:St av W ρ' (oI (· <st.heap.length) st.heap.length r) (bV r st.heap.length (ai st.heap)) w'):
  mF av W df (st.app dst r) ρ' (a.put dst (r.val.ae ρ')) w':=by
 have hkn:oI (· <st.heap.length) st.heap.length r=(· <(st.app dst r).heap.length):=by
  funext m;rw [oJ];simp only [oI];apply propext;omega
 rw [hkn,<- UT st dst r hw] at hst
 rw [hkn] at Oa
 refine ⟨fun t=> ?_,by rw [oz,h.size];simp [AS.app,s9],by rw [put_defers,h.defers],fun t=> ?_,hst⟩
 ·rw [jz]
  simp only [AS.app,lq]
  have hold:bY st.tmps t≠ .dead->a.tmps.getD t undef=(bY st.tmps t).ae ρ':=fun hd=>by rw [h.tmps t hd];exact (AV.bu sP _ (h.kn t)).symm
  cases dst with
  |none=>exact hold
  |some d=>
   simp only [h.size]
   split
   ·intro _;rfl
   ·exact hold
 ·have hold:(bY st.tmps t).ok (· <(st.app dst r).heap.length):=AV.aT (fun m hm=>by rw [oJ];omega) _ (h.kn t)
  simp only [AS.app,lq]
  cases dst with
  |none=>exact hold
  |some d=>
   dsimp only
   split
   ·exact Oa
   ·exact hold
theorem mF.skip (h:mF av W df st ρ a w) (dst:Option Nat):mF av W df {st with tmps:=j8 st.tmps dst ck} ρ (a.put dst undef) w:=by
 refine ⟨fun t=> ?_,by rw [oz,h.size];simp [s9],by rw [put_defers,h.defers],fun t=> ?_,h.st⟩
 ·rw [jz]
  simp only [lq]
  cases dst with
  |none=>exact h.tmps t
  |some d=>
   simp only [h.size]
   split
   ·intro _;rfl
   ·exact h.tmps t
 ·simp only [lq]
  cases dst with
  |none=>exact h.kn t
  |some d=>
   dsimp only
   split
   ·exact wF _
   ·exact h.kn t
def lD (π:List Src) (Γ:HP) (ρ:Env):Env:=fun n=>match π[n]? with
 |some (.same m)=>ρ m
 |some .nil=>match Γ n with
  |some (.row t _ _)=> {es:=t.size}
  |_=> {}
 |some (.cells m len)=>match Γ n with
  |some (.row t _ _)=> {blk:=(ρ m).blk,base:=addrOf ρ m 0,len:=len,cap:=len,es:=t.size}
  |_=> {base:=addrOf ρ m 0,len:=len,cap:=len}
 |some (.mt m off)=>match Γ n with
  |some (.row t _ _)=> {base:=addrOf ρ m off,es:=t.size}
  |_=> {base:=addrOf ρ m off}
 |some (.any m)=>ρ m
 |none=> {}
section
variable {π:List Src} {Γ:HP}
theorem qo {n m:Nat} (h:π[n]? =some (.same m)):lD π Γ ρ n=ρ m:=by simp [lD,h]
theorem bk {n m:Nat} (h:jG π n=some m):lD π Γ ρ n=ρ m/\ n<π.length:=by
 unfold jG at h
 split at h
 ·rename_i m' he
  cases h
  exact ⟨qo he,(List.getElem?_eq_some_iff.1 he).1⟩
 ·cases h
theorem v7: ∀(l m:List Ref),kH π l=some m->l.map (Ref.ae (lD π Γ ρ))=m.map (Ref.ae ρ)/\ ∀r∈l,r.ok (· <π.length)
 | [],m,h=>by simp only [kH,Option.some.injEq] at h;subst h;simp
 |r::l,m,h=>by
  simp only [kH] at h
  split at h
  ·rename_i q m' h1 h2
   cases h
   obtain ⟨e1,e2⟩:=v7 l m' h2
   have h3:r.ae (lD π Γ ρ)=q.ae ρ/\ r.ok (· <π.length):=by
    cases r with
    |ext v=>simp only [qW,Option.some.injEq] at h1;subst h1;exact ⟨rfl,trivial⟩
    |loc n o=>
     simp only [qW] at h1
     split at h1
     ·rename_i k hk;cases h1
      obtain ⟨e3,e4⟩:=bk (Γ:=Γ) (ρ:=ρ) hk
      exact ⟨by simp [Ref.ae,addrOf,e3],e4⟩
     ·cases h1
    |elem n j=>
     simp only [qW] at h1
     split at h1
     ·rename_i k hk;cases h1
      obtain ⟨e3,e4⟩:=bk (Γ:=Γ) (ρ:=ρ) hk
      exact ⟨by simp [Ref.ae,e3],e4⟩
     ·cases h1
    |full n=>
     simp only [qW] at h1
     split at h1
     ·rename_i k hk;cases h1
      obtain ⟨e3,e4⟩:=bk (Γ:=Γ) (ρ:=ρ) hk
      exact ⟨by simp [Ref.ae,e3],e4⟩
     ·cases h1
    |mp n=>
     simp only [qW] at h1
     split at h1
     ·rename_i k hk;cases h1
      obtain ⟨e3,e4⟩:=bk (Γ:=Γ) (ρ:=ρ) hk
      exact ⟨by simp [Ref.ae,e3],e4⟩
     ·cases h1
   refine ⟨by simp [h3.1,e1],fun x hx=> ?_⟩
   rcases List.mem_cons.1 hx with rfl|hx
   ·exact h3.2
   ·exact e2 x hx
  ·cases h
theorem QA: ∀(c q:Cell),ko π c=some q->c.ae (lD π Γ ρ)=q.ae ρ/\ c.ok (· <π.length)
 | .raw v,q,h=>by simp only [ko,Option.some.injEq] at h;subst h;exact ⟨rfl,trivial⟩
 | .ptr n o,q,h=>by
  simp only [ko] at h
  split at h
  ·rename_i k hk;cases h
   obtain ⟨e3,e4⟩:=bk (Γ:=Γ) (ρ:=ρ) hk
   exact ⟨by simp [Cell.ae,addrOf,e3],e4⟩
  ·cases h
 | .nW n o,q,h=>by
  simp only [ko] at h
  split at h
  ·rename_i k hk;cases h
   obtain ⟨e3,e4⟩:=bk (Γ:=Γ) (ρ:=ρ) hk
   exact ⟨by simp [Cell.ae,addrOf,e3],e4⟩
  ·cases h
 | .sl n o l c,q,h=>by
  simp only [ko] at h
  split at h
  ·rename_i k hk;cases h
   obtain ⟨e3,e4⟩:=bk (Γ:=Γ) (ρ:=ρ) hk
   exact ⟨by simp [Cell.ae,addrOf,e3],e4⟩
  ·cases h
 | .c9 n j z,q,h=>by
  simp only [ko] at h
  split at h
  ·rename_i k hk;cases h
   obtain ⟨e3,e4⟩:=bk (Γ:=Γ) (ρ:=ρ) hk
   exact ⟨by simp [Cell.ae,e3],e4⟩
  ·cases h
 | .fY n j z,q,h=>by
  simp only [ko] at h
  split at h
  ·rename_i k hk;cases h
   obtain ⟨e3,e4⟩:=bk (Γ:=Γ) (ρ:=ρ) hk
   exact ⟨by simp [Cell.ae,e3],e4⟩
  ·cases h
 | .N8 n,q,h=>by
  simp only [ko] at h
  split at h
  ·rename_i k hk;cases h
   obtain ⟨e3,e4⟩:=bk (Γ:=Γ) (ρ:=ρ) hk
   exact ⟨by simp [Cell.ae,e3],e4⟩
  ·cases h
 | .mp n,q,h=>by
  simp only [ko] at h
  split at h
  ·rename_i k hk;cases h
   obtain ⟨e3,e4⟩:=bk (Γ:=Γ) (ρ:=ρ) hk
   exact ⟨by simp [Cell.ae,e3],e4⟩
  ·cases h
 | .mv f a rs,q,h=>by
  simp only [ko] at h
  split at h
  ·rename_i k hk;cases h
   obtain ⟨e3,e4⟩:=v7 (Γ:=Γ) (ρ:=ρ) _ _ hk
   exact ⟨by simp only [Cell.ae,e3],e4⟩
  ·cases h
 | .jO f a cap,q,h=>by
  simp only [ko] at h
  split at h
  ·rename_i k hk;cases h
   obtain ⟨e3,e4⟩:=v7 (Γ:=Γ) (ρ:=ρ) _ _ hk
   exact ⟨by simp only [Cell.ae,e3],e4⟩
  ·cases h
 | .full n,q,h=>by
  simp only [ko] at h
  split at h
  ·rename_i m he
   cases h
   exact ⟨by simp [Cell.ae,qo he],(List.getElem?_eq_some_iff.1 he).1⟩
  ·rename_i he
   cases h
   refine ⟨?_,(List.getElem?_eq_some_iff.1 he).1⟩
   simp only [Cell.ae,lD,he]
   split<;>rfl
  ·rename_i m len he
   cases h
   refine ⟨?_,(List.getElem?_eq_some_iff.1 he).1⟩
   simp only [Cell.ae,lD,he]
   split<;>rfl
  ·rename_i m off he
   cases h
   refine ⟨?_,(List.getElem?_eq_some_iff.1 he).1⟩
   simp only [Cell.ae,lD,he]
   split<;>rfl
  ·rename_i m he
   cases h
   exact ⟨by simp only [Cell.ae,lD,he],(List.getElem?_eq_some_iff.1 he).1⟩
  ·cases h
theorem m9: ∀(l m:List Cell),je π l=some m->l.map (Cell.ae (lD π Γ ρ))=m.map (Cell.ae ρ)/\ ∀r∈l,r.ok (· <π.length)
 | [],m,h=>by simp only [je,Option.some.injEq] at h;subst h;simp
 |r::l,m,h=>by
  simp only [je] at h
  split at h
  ·rename_i q m' h1 h2
   cases h
   obtain ⟨e1,e2⟩:=m9 l m' h2
   obtain ⟨e3,e4⟩:=QA (Γ:=Γ) (ρ:=ρ) _ _ h1
   refine ⟨by simp [e3,e1],fun x hx=> ?_⟩
   rcases List.mem_cons.1 hx with rfl|hx
   ·exact e4
   ·exact e2 x hx
  ·cases h
theorem Qz (a q:A0) (h:OM π a=some q):a.ae (lD π Γ ρ)=q.ae ρ/\ a.ok (· <π.length):=by
 cases a with
 |one c=>
  simp only [OM] at h
  split at h
  ·rename_i k hk;cases h;exact QA _ _ hk
  ·cases h
 |agg cs=>
  simp only [OM] at h
  split at h
  ·rename_i k hk;cases h
   obtain ⟨e1,e2⟩:=m9 (Γ:=Γ) (ρ:=ρ) _ _ hk
   exact ⟨by simp only [A0.ae,e1],e2⟩
  ·cases h
theorem Mw: ∀(l m:List A0),iI π l=some m->l.map (A0.ae (lD π Γ ρ))=m.map (A0.ae ρ)/\ ∀r∈l,r.ok (· <π.length)
 | [],m,h=>by simp only [iI,Option.some.injEq] at h;subst h;simp
 |r::l,m,h=>by
  simp only [iI] at h
  split at h
  ·rename_i q m' h1 h2
   cases h
   obtain ⟨e1,e2⟩:=Mw l m' h2
   obtain ⟨e3,e4⟩:=Qz (Γ:=Γ) (ρ:=ρ) _ _ h1
   refine ⟨by simp [e3,e1],fun x hx=> ?_⟩
   rcases List.mem_cons.1 hx with rfl|hx
   ·exact e4
   ·exact e2 x hx
  ·cases h
theorem QB (a q:AV) (h:v8 π a=some q):a.ae (lD π Γ ρ)=q.ae ρ/\ a.ok (· <π.length):=by
 cases a with
 |v a=>
  simp only [v8] at h
  split at h
  ·rename_i k hk;cases h;exact Qz _ _ hk
  ·cases h
 |pT l=>
  simp only [v8] at h
  split at h
  ·rename_i k hk;cases h
   obtain ⟨e1,e2⟩:=Mw (Γ:=Γ) (ρ:=ρ) _ _ hk
   exact ⟨by simp only [AV.ae,e1],e2⟩
  ·cases h
 |dead=>cases h
theorem wB: ∀(l m:List AV),NH π l m->m.length=l.length/\ ∀t,bY m t= .dead\/ v8 π (bY m t)=some (bY l t)
 | [],[],_=>⟨rfl,fun t=> .inr rfl⟩
 |x::r,.dead::s,h=>by
  obtain ⟨h1,h2⟩:=wB r s h
  exact ⟨by simp [h1],fun t=>by cases t with|zero=>exact .inl rfl|succ t=>exact h2 t⟩
 |x::r,.v y::s,h=>by
  obtain ⟨h1,h2⟩:=wB r s h.2
  exact ⟨by simp [h1],fun t=>by cases t with|zero=>exact .inr h.1|succ t=>exact h2 t⟩
 |x::r,.pT y::s,h=>by
  obtain ⟨h1,h2⟩:=wB r s h.2
  exact ⟨by simp [h1],fun t=>by cases t with|zero=>exact .inr h.1|succ t=>exact h2 t⟩
 | [],_::_,h=>h.elim
 |_::_,[],h=>h.elim
theorem Lq {h0:List aD} : ∀(ss:List Src) (l:List aD),wJ π h0 ss l->ss.length=l.length/\ ∀n o,ai l n=some o-> ∃s,ss[n]? =some s/\ Jp π h0 s o
 | [],[],_=>⟨rfl,fun n o ho=>by simp [ai] at ho⟩
 |s::r,o::l,h=>by
  have main:wJ π h0 r l->(ai (o::l) 0=some o->Jp π h0 s o)->(s::r).length=(o::l).length/\ ∀n p,ai (o::l) n=some p-> ∃q,(s::r)[n]? =some q/\ Jp π h0 q p:=fun h1 h2=>by
   obtain ⟨e1,e2⟩:=Lq r l h1
   refine ⟨by simp [e1],fun n p hp=> ?_⟩
   cases n with
   |zero=>
    have:p=o:=by
     rw [bz] at hp
     cases o<;>simp_all [live]
    subst this
    exact ⟨s,rfl,h2 hp⟩
   |succ n=>exact e2 n p (by simpa [ai] using hp)
  cases o with
  |gone=>exact main h fun h=>by simp [ai] at h
  |_=>exact main h.2 fun _=>h.1
 | [],_::_,h=>by unfold wJ at h;exact h.elim
 |_::_,[],h=>by unfold wJ at h;exact h.elim
theorem Yb: ∀(ss:List Src) (l:List aD) (n m:Nat) (s:Src),(ai l n).isSome=true->ss[n]? =some s->GZ s=some m->m∈zn ss l
 | [],_,n,m,s,_,h,_=>by simp at h
 |_::_,[],n,m,s,h,_,_=>by simp [ai] at h
 |q::r,o::l,n,m,s,h1,h2,h3=>by
  have tail: ∀k,n=k+1->m∈zn r l:=fun k e=>by
   subst e
   exact Yb r l k m s (by simpa [ai] using h1) (by simpa using h2) h3
  cases n with
  |zero=>
   simp only [List.getElem?_cons_zero,Option.some.injEq] at h2
   subst h2
   cases o with
   |gone=>simp [ai] at h1
   |_=>simp [zn,h3]
  |succ n=>
   have:=tail n rfl
   cases o with
   |gone=>exact this
   |_=>simp only [zn];split<;>simp [this]
theorem Ya: ∀(ss:List Src) (l:List aD),(zn ss l).Nodup-> ∀n n' m s s',(ai l n).isSome=true->(ai l n').isSome=true->ss[n]? =some s->ss[n']? =some s'->GZ s=some m->GZ s'=some m->n=n'
 | [],_,_,n,_,_,s,_,_,_,h,_,_,_=>by simp at h
 |_::_,[],_,n,_,_,s,_,h,_,_,_,_,_=>by simp [ai] at h
 |q::r,o::l,hn,n,n',m,s,s',h1,h2,h3,h4,h5,h6=>by
  have hz: ∀k,(ai (o::l) 0).isSome=true->GZ q=some m->(ai (o::l) (k+1)).isSome=true-> ∀s,(q::r)[k+1]? =some s->GZ s=some m->False:=fun k g1 g2 g3 s g4 g5=>by
   have:=Yb r l k m s (by simpa [ai] using g3) (by simpa using g4) g5
   cases o with
   |gone=>simp [ai] at g1
   |_=>
    simp only [zn,g2] at hn
    exact (List.nodup_cons.1 hn).1 this
  have hr:(zn r l).Nodup:=by
   cases o with
   |gone=>exact hn
   |_=>
    simp only [zn] at hn
    split at hn
    ·exact (List.nodup_cons.1 hn).2
    ·exact hn
  cases n with
  |zero=>
   cases n' with
   |zero=>rfl
   |succ n'=>
    simp only [List.getElem?_cons_zero,Option.some.injEq] at h3
    subst h3
    exact (hz n' h1 h5 h2 s' h4 h6).elim
  |succ n=>
   cases n' with
   |zero=>
    simp only [List.getElem?_cons_zero,Option.some.injEq] at h4
    subst h4
    exact (hz n h2 h6 h1 s h3 h5).elim
   |succ n'=>
    rw [Ya r l hr n n' m s s' (by simpa [ai] using h1) (by simpa [ai] using h2) (by simpa using h3) (by simpa using h4) h5 h6]
theorem xF: ∀(n:Nat),F9 π n=true-> ∀m,m<n->π[m]? =some (.same m)
 |0,_,m,hm=>by omega
 |n+1,h,m,hm=>by
  simp only [F9,Bool.and_eq_true] at h
  by_cases e:m=n
  ·subst e
   have h1:=h.1
   split at h1
   ·rename_i k hk
    rw [hk];simp at h1;rw [h1]
   ·cases h1
  ·exact xF n h.2 m (by omega)
end
theorem Xg {π:List Src} {g c:Nat} {es:Array MapEntry} {pB:Nat} {ka:Bool} {k u:Ty} {l:List (k.T×List u.T)} {cur:Option (k.T×Nat)} {p:aD} (h:gu π (.V2 g c es pB ka k u l cur)=some p):
  ∃m d cur',jG π g=some m/\ jG π c=some d/\ (∀q,cur=some q-> ∃q',jG π q.2=some q'/\ cur'=some (q.1,q'))/\ p= .V2 m d es pB ka k u l cur':=by
 simp only [gu] at h
 cases h1:jG π g with
 |none=>rw [h1] at h;cases h
 |some m=>
  cases h2:jG π c with
  |none=>rw [h1,h2] at h;cases h
  |some d=>
   rw [h1,h2] at h
   cases cur with
   |none=>
    cases h
    exact ⟨m,d,none,rfl,rfl,fun q hq=>(by cases hq),rfl⟩
   |some q=>
    obtain ⟨a,q⟩:=q
    dsimp only at h
    cases h3:jG π q with
    |none=>rw [h3] at h;cases h
    |some q'=>
     rw [h3] at h
     cases h
     exact ⟨m,d,_,rfl,rfl,fun p hp=>(by cases hp;exact ⟨q',h3,rfl⟩),rfl⟩
theorem mF.aoD (h:mF av W df st ρ a w) {st':AS} {π:List Src} (hw:Ren π st st'):mF av W df st' (lD π (ai st'.heap) ρ) a w:=by
 obtain ⟨hl,ht⟩:=wB _ _ hw.tmps
 obtain ⟨Aa,hh⟩:=Lq _ _ hw.heap
 have ja:=fq hw.inj
 let ρ':=lD π (ai st'.heap) ρ
 have hlt: ∀n o,ai st'.heap n=some o->n<st'.heap.length:=fun n o ho=>by
  rcases Nat.lt_or_ge n st'.heap.length with hn|hn
  ·exact hn
  ·simp [ai,List.getElem?_eq_none hn] at ho
 have hsrc: ∀n b,(ai st'.heap n).isSome=true->(ρ' n).has b-> ∃s m,π[n]? =some s/\ GZ s=some m/\ (ai st.heap m).isSome=true/\ (ρ m).has b:=fun n b hn hb=>by
  obtain ⟨o,ho⟩:=Option.isSome_iff_exists.1 hn
  obtain ⟨s,hs,oH⟩:=hh n o ho
  cases s with
  |same m=>
   obtain ⟨p,hp,_⟩:=oH
   refine ⟨_,m,hs,rfl,by simp [hp],?_⟩
   rw [<- show ρ' n=ρ m from qo hs];exact hb
  |nil=>
   obtain ⟨t,rk,rfl,_⟩:=oH
   simp only [ρ',lD,hs,ho] at hb;exact absurd (j6.1 hb) (fun h=>by cases h)
  |mt m off=>
   obtain ⟨t,cs,e,rfl,_⟩:=oH
   simp only [ρ',lD,hs,ho] at hb;exact absurd (j6.1 hb) (fun h=>by cases h)
  |any m=>
   obtain ⟨t,l,rk,rfl,hp,_⟩:=oH
   simp only [ρ',lD,hs] at hb
   exact ⟨_,m,hs,rfl,by simp [hp],hb⟩
  |cells m len=>
   obtain ⟨t,l,cs,e,rk,rfl,_,hp,_⟩:=oH
   simp only [ρ',lD,hs,ho] at hb
   exact ⟨_,m,hs,rfl,by simp [hp],.inl (j6.1 hb)⟩
 have z6: ∀b,HI (ai st'.heap) b->HI (ai st.heap) b:=fun b ⟨n,S,h1,h2⟩=>by
  obtain ⟨s,hs,oH⟩:=hh n _ h1
  cases s with
  |same m=>
   obtain ⟨p,hp,hr⟩:=oH
   simp only [gu,Option.some.injEq] at hr
   subst hr
   exact ⟨m,S,hp,h2⟩
  |nil=>obtain ⟨_,_,e,_⟩:=oH;cases e
  |mt m off=>obtain ⟨_,_,_,e,_⟩:=oH;cases e
  |any m=>obtain ⟨_,_,_,e,_⟩:=oH;cases e
  |cells m len=>obtain ⟨_,_,_,_,_,e,_⟩:=oH;cases e
 have hfz: ∀b,dV ρ (ai st.heap) w b->dV ρ' (ai st'.heap) w b/\ w.heap[b]? =w.heap[b]? :=fun b hb=>by
  refine ⟨⟨hb.1,?_⟩,rfl⟩
  rintro (⟨n,h1,h2⟩|⟨n,S,h1,h2⟩)
  ·obtain ⟨s,m,_,_,h5,h6⟩:=hsrc n b h1 h2
   exact hb.2 (.inl ⟨m,h5,h6⟩)
  ·exact hb.2 (.inr (z6 b ⟨n,S,h1,h2⟩))
 show mF av W df st' ρ' a w
 refine ⟨fun t hd=> ?_,by rw [h.size,hl],h.defers,fun t=> ?_,⟨h.st.fr,fun n o ho=> ?_,fun n o ho=> ?_,fun n n' b hn hn' hb hb'=> ?_,fun n b hn hb=> ?_,fun b YE=> ?_,fun n o ho=> ?_⟩⟩
 rotate_right
 ·obtain ⟨s,hs,oH⟩:=hh n o ho
  cases s with
  |same m=>
   obtain ⟨p,hp,hr⟩:=oH
   rw [show ρ' n=ρ m from qo hs]
   rcases h.st.wK m p hp with ⟨g,rfl⟩|he
   ·cases o with
    |set g'=>exact .inl ⟨_,rfl⟩
    |_=>
     simp only [gu] at hr
     first
     |(cases hr;done)
     |(split at hr<;>cases hr)
     |(split at hr<;>first|(cases hr;done)|(split at hr<;>cases hr))
   ·exact .inr he
  |nil=>
   obtain ⟨t,rk,rfl,_⟩:=oH
   exact .inr (by simp only [ρ',lD,hs,ho])
  |mt m off=>
   obtain ⟨t,cs,e,rfl,_⟩:=oH
   exact .inr (by simp only [ρ',lD,hs,ho])
  |any m=>
   obtain ⟨t,l,rk,rfl,hp,_⟩:=oH
   refine .inr ?_
   simp only [ρ',lD,hs]
   exact (h.st.wK m _ hp).elim (fun ⟨_,e⟩=>by cases e) id
  |cells m len=>
   obtain ⟨t,l,cs,e,rk,rfl,_⟩:=oH
   exact .inr (by simp only [ρ',lD,hs,ho])
 rotate_right
 ·obtain ⟨h1,h2⟩:=h.st.ru b (z6 b YE)
  refine ⟨h1,?_⟩
  rintro ⟨n,h3,h4⟩
  obtain ⟨s,m,_,_,h5,h6⟩:=hsrc n b h3 h4
  exact h2 ⟨m,h5,h6⟩
 ·rcases ht t with e|e
  ·exact absurd e hd
  ·have hne:bY st.tmps t≠ .dead:=fun e2=>by
    rw [e2] at e
    revert e;cases bY st'.tmps t<;>simp only [v8]<;>(try split)<;>intro e<;>cases e
   rw [h.tmps t hne]
   exact (QB _ _ e).1.symm
 ·rcases ht t with e|e
  ·rw [e];trivial
  ·rw [<- Aa];exact (QB (Γ:=ai st'.heap) (ρ:=ρ) _ _ e).2
 ·obtain ⟨s,hs,oH⟩:=hh n o ho
  cases s with
  |same m=>
   obtain ⟨p,hp,hr⟩:=oH
   have hn:ρ' n=ρ m:=qo hs
   have aQ:=h.st.at_ m p hp
   cases o with
   |cells cs e=>
    simp only [gu] at hr
    split at hr
    ·rename_i q hq
     cases hr
     obtain ⟨b,hb,hhp⟩:=aQ
     exact ⟨b,by rw [hn];exact hb,by rw [hhp,(m9 (Γ:=ai st'.heap) (ρ:=ρ) _ _ hq).1]⟩
    ·cases hr
   |row t l rk=>
    simp only [gu,Option.some.injEq] at hr
    subst hr
    obtain ⟨o1,o2,o3,sub,o4⟩:=aQ
    rw [bp,hn]
    exact ⟨o1,o2,o3,sub,o4.keep hfz (fun _ _ h=>h) fun _ _=>rfl⟩
   |alias k z q=>
    simp only [gu] at hr
    split at hr
    ·rename_i k' hk
     cases hr
     have:=(bk (Γ:=ai st'.heap) (ρ:=ρ) hk).1
     rw [bp,hn,show ρ' k=ρ k' from this]
     exact aQ
    ·cases hr
   |gone=>cases hr
   |loop r z j=>
    simp only [gu,Option.some.injEq] at hr
    subst hr
    obtain ⟨b,hb,hhp⟩:=aQ
    exact ⟨b,by rw [hn];exact hb,hhp⟩
   |hide S=>
    simp only [gu,Option.some.injEq] at hr
    subst hr
    rw [bp,hn];exact aQ
   |map ka va kt vt l=>
    simp only [gu,Option.some.injEq] at hr
    subst hr
    rw [bp,hn];exact aQ
   |cg aW n0=>
    simp only [gu] at hr
    split at hr
    ·rename_i hf
     cases hr
     exact ⟨by rw [hn];exact aQ.1,fun i hi=>by rw [show ρ' i=ρ i from qo (xF n0 hf i hi)];exact aQ.2 i hi⟩
    ·cases hr
   |dp t l c s0 kn=>
    simp only [gu] at hr
    split at hr
    ·rename_i c' hc
     cases hr
     have:=(bk (Γ:=ai st'.heap) (ρ:=ρ) hc).1
     rw [bp,hn,show ρ' c=ρ c' from this]
     exact aQ
    ·cases hr
   |nv g c j q u=>
    simp only [gu] at hr
    split at hr
    ·rename_i g' c' hg hc
     cases hr
     have e:=(bk (Γ:=ai st'.heap) (ρ:=ρ) hc).1
     have e':=(bk (Γ:=ai st'.heap) (ρ:=ρ) hg).1
     rw [bp,hn,show ρ' c=ρ c' from e,show ρ' g=ρ g' from e'];exact aQ
    ·cases hr
   |Pp ka k u l c q=>
    simp only [gu] at hr
    split at hr
    ·rename_i c' hc
     cases hr
     have e:=(bk (Γ:=ai st'.heap) (ρ:=ρ) hc).1
     rw [bp,hn,show ρ' c=ρ c' from e];exact aQ
    ·cases hr
   |set g=>
    simp only [gu] at hr
    split at hr
    ·cases hr
     rw [bp,hn];exact aQ
    ·cases hr
   |gv g c k u x l=>
    simp only [gu] at hr
    split at hr
    ·rename_i g' c' hg hc
     cases hr
     have e:=(bk (Γ:=ai st'.heap) (ρ:=ρ) hc).1
     rw [bp,hn,show ρ' c=ρ c' from e];exact aQ
    ·cases hr
   |rc cs=>
    simp only [gu] at hr
    split at hr
    ·rename_i q hq
     cases hr
     rw [bp,hn]
     refine ⟨aQ.1,fun i c hc=> ?_⟩
     have e:=(m9 (Γ:=ai st'.heap) (ρ:=ρ) _ _ hq).1
     have e1:(cs.map (Cell.ae ρ'))[i]? =some (c.ae ρ'):=by rw [List.getElem?_map,hc];rfl
     rw [show cs.map (Cell.ae ρ')=q.map (Cell.ae ρ) from e,List.getElem?_map] at e1
     obtain ⟨d,hd,e2⟩:=Option.map_eq_some_iff.1 e1
     rw [<- e2]
     obtain ⟨a,h1,h2,h3⟩:=aQ.2 i d hd
     exact ⟨a,h1,h2,(hfz _ h3).1⟩
    ·cases hr
   |hmap es pB=>
    simp only [gu,Option.some.injEq] at hr
    subst hr
    rw [bp,hn];exact aQ
   |V2 g c es pB ka k u l cur=>
    have key: ∀(m' d:Nat) (cur':Option (k.T×Nat)),jG π g=some m'->jG π c=some d->(∀q,cur=some q-> ∃q',jG π q.2=some q'/\ cur'=some (q.1,q'))->bp (dV ρ (ai st.heap) w) (uk av W) ρ m (.V2 m' d es pB ka k u l cur') w->bp (dV ρ' (ai st'.heap) w) (uk av W) ρ' n (.V2 g c es pB ka k u l cur) w:=by
     intro m' d cur' hg hc auw aQ
     have e1:ρ' g=ρ m':=(bk (Γ:=ai st'.heap) (ρ:=ρ) hg).1
     have e2:ρ' c=ρ d:=(bk (Γ:=ai st'.heap) (ρ:=ρ) hc).1
     rw [bp] at aQ
     rw [bp,hn,e1,e2]
     obtain ⟨a1,a2,a3,b,since,seen,c0,a4,a5,a6,a7,a8,a9,a10,a11⟩:=aQ
     refine ⟨a1,a2,a3,b,since,seen,c0,a4,a5,a6,a7,a8,a9,a10,fun q hq=> ?_⟩
     obtain ⟨q',h1,h2⟩:=auw q hq
     have e3:ρ' q.2=ρ q':=(bk (Γ:=ai st'.heap) (ρ:=ρ) h1).1
     rw [e3]
     exact a11 _ h2
    obtain ⟨m',d,cur',h1,h2,h3,rfl⟩:=Xg hr
    exact key m' d cur' h1 h2 h3 aQ
  |nil=>
   obtain ⟨t,rk,rfl,sQ⟩:=oH
   have e:ρ' n= {es:=t.size} :=by simp only [ρ',lD,hs,ho]
   rw [bp,e]
   exact ⟨rfl,rfl,Nat.le_refl _,fun _=>(none,0),fun i v hv=>by simp [ay,aJ] at hv,fun q u l' hq=>by simp [ay] at hq,fun e=>absurd e sQ,fun _=> .inl ⟨rfl,rfl,rfl,fun _=>rfl⟩⟩
  |mt m off=>
   obtain ⟨t,cs,e,rfl,hp⟩:=oH
   have e1:ρ' n= {base:=addrOf ρ m off,es:=t.size} :=by simp only [ρ',lD,hs,ho]
   rw [bp,e1]
   exact ⟨rfl,rfl,Nat.le_refl _,fun _=>(none,0),fun i v hv=>by simp [ay,aJ] at hv,fun q u l' hq=>by simp [ay] at hq,fun e=>(by cases e),fun _=> .inl ⟨rfl,rfl,rfl,fun q=>absurd rfl q⟩⟩
  |any m=>
   obtain ⟨t,l,rk,rfl,hp,sQ⟩:=oH
   have e1:ρ' n=ρ m:=by simp only [ρ',lD,hs]
   obtain ⟨o1,o2,o3,sub,o4⟩:=h.st.at_ m _ hp
   obtain ⟨m1,m2,m3,m4⟩:=o4.keep (fz':=dV ρ' (ai st'.heap) w) (pm':=uk av W) hfz (fun _ _ h=>h) fun _ _=>rfl
   rw [bp,e1]
   exact ⟨o1,o2,o3,sub,fun i v hv=>by
    obtain ⟨a,h1,h2,_⟩:=m1 i v hv
    exact ⟨a,h1,h2,fun e=>by cases e⟩,fun q u l' hq=>(m2 q u l' hq).mono fun b hb=>⟨⟨hb.1,fun e=>by cases e⟩,rfl⟩,fun e=>(by cases e),fun _=>(m4 sQ).any⟩
  |cells m len=>
   obtain ⟨t,l,cs,e,rk,rfl,sQ,hp,hf,hd,VH⟩:=oH
   obtain ⟨b,hb,hhp⟩:=h.st.at_ m _ hp
   have e1:ρ' n= {blk:=some b,base:=some ⟨b,0,none⟩,len:=len,cap:=len,es:=t.size} :=by simp only [ρ',lD,hs,ho,addrOf,hb,Option.map_some]
   obtain ⟨hll,ys,r,hy,hyl,hal⟩:=adX (lM hf) _ _ _ _ hd
   have hr:r= []:=List.eq_nil_of_length_eq_zero (by have:=congrArg List.length hy;rw [List.length_append] at this;omega)
   subst hr
   rw [List.append_nil] at hy
   have hal:=hal A6 w ρ (fun _=>False) (fun _=>none) w (fun _ hm=>by cases hm) (St.none w ρ)
   rw [<- hy] at hal
   obtain ⟨s1,s2⟩:=kS hal
   rw [bp,e1]
   refine ⟨hll.symm,rfl,by rw [hll];exact Nat.le_refl _,uK (cs.map (Cell.ae ρ)),fun i v hv=>⟨_,rfl,?_,fun e=>(by rcases sQ with rfl|rfl<;>cases e)⟩,fun q u l' hq=> ?_,fun e=>(by rcases sQ with rfl|rfl<;>cases e),fun _=>jk.new (.inr ⟨b,[],e,rfl,rfl,by rw [s1,List.append_nil];exact hhp,?_⟩)⟩
   ·rw [s1] at hv
    have e2:(⟨b,0,none⟩:Addr).add i=⟨b,i,none⟩:=by unfold Addr.add;split<;>simp_all
    rw [e2,bL hhp];exact hv
   ·obtain ⟨v,hv⟩:=fb hf (List.mem_of_getElem? hq)
    cases hv
   ·exact ⟨by rw [s1,List.append_nil];simp [VH.1],Nat.le_trans (Nat.le_of_ble_eq_true VH.2) (by decide)⟩
 ·obtain ⟨s,hs,oH⟩:=hh n o ho
  refine ⟨hlt n o ho,?_⟩
  cases s with
  |same m=>
   obtain ⟨p,hp,hr⟩:=oH
   cases o with
   |cells cs e=>
    simp only [gu] at hr
    split at hr
    ·rename_i q hq
     rw [<- Aa];exact (m9 (Γ:=ai st'.heap) (ρ:=ρ) _ _ hq).2
    ·cases hr
   |alias k z q=>
    simp only [gu] at hr
    split at hr
    ·rename_i k' hk
     rw [<- Aa];exact (bk (Γ:=ai st'.heap) (ρ:=ρ) hk).2
    ·cases hr
   |cg aW n0=>
    simp only [gu] at hr
    split at hr
    ·rename_i hf
     intro i hi
     rw [<- Aa];exact (List.getElem?_eq_some_iff.1 (xF n0 hf i hi)).1
    ·cases hr
   |Pp ka k u l c q=>
    simp only [gu] at hr
    split at hr
    ·rename_i c' hc
     rw [<- Aa];exact (bk (Γ:=ai st'.heap) (ρ:=ρ) hc).2
    ·cases hr
   |set g=>
    simp only [gu] at hr
    split at hr
    ·rename_i c' hc
     rw [<- Aa];exact (bk (Γ:=ai st'.heap) (ρ:=ρ) hc).2
    ·cases hr
   |dp t l c=>
    simp only [gu] at hr
    split at hr
    ·rename_i c' hc
     rw [<- Aa];exact (bk (Γ:=ai st'.heap) (ρ:=ρ) hc).2
    ·cases hr
   |gv g c k u x l=>
    simp only [gu] at hr
    split at hr
    ·rename_i g' c' hg hc
     rw [<- Aa];exact ⟨(bk (Γ:=ai st'.heap) (ρ:=ρ) hg).2,(bk (Γ:=ai st'.heap) (ρ:=ρ) hc).2⟩
    ·cases hr
   |nv g c j q u=>
    simp only [gu] at hr
    split at hr
    ·rename_i g' c' hg hc
     rw [<- Aa];exact ⟨(bk (Γ:=ai st'.heap) (ρ:=ρ) hg).2,(bk (Γ:=ai st'.heap) (ρ:=ρ) hc).2⟩
    ·cases hr
   |rc cs=>
    simp only [gu] at hr
    split at hr
    ·rename_i q hq
     rw [<- Aa];exact (m9 (Γ:=ai st'.heap) (ρ:=ρ) _ _ hq).2
    ·cases hr
   |V2 g c es pB ka k u l cur=>
    obtain ⟨m',d,cur',h1,h2,h3,rfl⟩:=Xg hr
    rw [<- Aa]
    exact ⟨(bk (Γ:=ai st'.heap) (ρ:=ρ) h1).2,(bk (Γ:=ai st'.heap) (ρ:=ρ) h2).2,fun p hp=>by
     obtain ⟨q',h4,_⟩:=h3 p hp
     exact (bk (Γ:=ai st'.heap) (ρ:=ρ) h4).2⟩
   |_=>trivial
  |nil=>obtain ⟨t,rk,rfl,_⟩:=oH;trivial
  |mt m off=>obtain ⟨t,cs,e,rfl,_⟩:=oH;trivial
  |any m=>obtain ⟨t,l,rk,rfl,_⟩:=oH;trivial
  |cells m len=>obtain ⟨t,l,cs,e,rk,rfl,_⟩:=oH;trivial
 ·obtain ⟨s,m,h1,h2,h3,h4⟩:=hsrc n b hn hb
  obtain ⟨s',m',h1',h2',h3',h4'⟩:=hsrc n' b hn' hb'
  have:=h.st.dU m m' b h3 h3' h4 h4'
  subst this
  exact Ya _ _ ja n n' m s s' hn hn' h1 h1' h2 h2'
 ·obtain ⟨s,m,h1,h2,h3,h4⟩:=hsrc n b hn hb
  exact h.st.lC m b h3 h4
theorem mF.weak (h:mF av W df st ρ a w) {st':AS} (hw:uS st st'): ∃ρ',mF av W df st' ρ' a w:=by
 obtain ⟨π,hw⟩:=hw
 exact ⟨_,h.aoD hw⟩
theorem mF.drawn (h:mF av W df st ρ a w) (n:Nat) (hn:w.drawn<=n):mF av W df st ρ a {w with drawn:=n} :=⟨h.tmps,h.size,h.defers,h.kn,h.st.drawn n hn⟩
theorem mF.yielded (h:mF av W df st ρ a w) {ops:Array Oper} {j d:Nat} (hd:xw ops j=some d) {x:Bool} (hx:bY st.tmps d=bG x):yielded ops a.tmps j=some x:=by
 have h1:=h.tmps d (by rw [hx];simp [bG])
 rw [hx] at h1
 have e1:(ops[j]?).bind (·.dst)=some d:=by
  unfold xw at hd;split at hd
  ·rename_i o ho;simp [ho,hd]
  ·cases hd
 have e2:a.tmps[d]? =some (.bool x):=by
  rw [Array.getD_eq_getD_getElem?] at h1
  cases hq:a.tmps[d]? with
  |none=>rw [hq] at h1;cases h1
  |some v=>rw [hq] at h1;exact congrArg some h1
 simp [Go.yielded,e1,e2]
theorem mF.YB (h:mF av W df st ρ a w) {ops:Array Oper} {j d:Nat} (hd:xw ops j=some d) (hx:bY st.tmps d= .pT []):Go.yielded ops a.tmps j=none:=by
 have h1:=h.tmps d (by rw [hx];simp)
 rw [hx] at h1
 have e1:(ops[j]?).bind (·.dst)=some d:=by
  unfold xw at hd;split at hd
  ·rename_i o ho;simp [ho,hd]
  ·cases hd
 rw [Array.getD_eq_getD_getElem?] at h1
 cases hq:a.tmps[d]? with
 |none=>simp [Go.yielded,e1,hq]
 |some v=>
  rw [hq] at h1
  have e:v= .tuple #[]:=h1
  subst e
  simp [Go.yielded,e1,hq]
end
section
variable {P:Program} {ctx:Ctx} {av:fG} {W:World} {df:List Deferred} {ro:Option Nat} {n:Nat} {Q:Exit->Act->World->Prop}
theorem CM {o:Op} {st:AS} {k:Rec->Prop} (h:sG ctx o st k):(∀x∈o.operands,cE st.tmps x≠ .dead)/\ JY ctx o (cE st.tmps) (ai st.heap) st.heap.length k:=by
 unfold sG at h
 split at h
 ·rename_i hn
  refine ⟨fun x hx e=> ?_,h⟩
  have:=List.all_eq_true.1 hn x (Array.mem_toList_iff.2 hx)
  rw [e] at this;simp [AV.LH] at this
 ·exact h.elim
theorem ana (hT:di P ctx.tt) (hS:e8 P ctx) (hX:uR av W ctx.X) {st:AS} {ρ:Env} {a:Act} {w:World} (aQ:mF av W df st ρ a w) {o:Oper} {k:Rec->Prop}
  (h:sG ctx o.op st k) {next:Act->World->Prop}
  (hn: ∀r,k r-> ∀ρ' a' w',mF av W df (st.app o.dst r) ρ' a' w'->next a' w'):o.wpIn (fw ro) n P a w next Q:=by
 obtain ⟨ja,h⟩:=CM h
 refine asT hT hS h ro n av W ρ w a next Q hX (fun x hx=>aQ.eval x (ja x hx)) (fun x _=>aQ.Sr x) aQ.st ?_
 intro r ρ' w' hk hw sP Oa hst
 exact hn r hk ρ' _ w' (aQ.app hw sP Oa hst)
theorem kM (hT:di P ctx.tt) (hS:e8 P ctx) (hX:uR av W ctx.X) (all:Array Oper): ∀(l:List Oper) (dec:List Nat) (st:AS) (lg:List gD) (K:AS->List gD->Prop),oM ctx all l dec st lg K->
  (∀st' lg' ρ' a' w',K st' lg'->mF av W df st' ρ' a' w'->Q .normal a' w')-> ∀ρ a w,mF av W df st ρ a w->wpListIn (fw ro) n P all Q l a w
 | [],dec,st,lg,K,h,hK,ρ,a,w,aQ=>hK st lg ρ a w h aQ
 |o::rest,dec,st,lg,K,h,hK,ρ,a,w,aQ=>by
  have exec: ∀(st:AS) (KX:List Nat) (lg':Rec->List gD),mF av W df st ρ a w->sG ctx o.op st (fun r=>oM ctx all rest KX (st.app o.dst r) (lg' r) K)->
    o.wpIn (fw ro) n P a w (wpListIn (fw ro) n P all Q rest) Q:=by
   intro st KX lg' aQ h
   exact ana hT hS hX aQ h fun r hr ρ' a' w' dr=>kM hT hS hX all rest KX _ _ K hr hK ρ' a' w' dr
  unfold oM at h
  split at h
  ·rename_i hg
   show if Region.wanted o (Go.yielded all a.tmps) then _ else _
   rw [if_pos (by simp [Region.wanted,hg])]
   exact exec st dec _ aQ h
  ·rename_i j want hg
   split at h
   ·rename_i d hd
    split at h
    ·rename_i x hx
     have hy:Go.yielded all a.tmps j=some x:=aQ.yielded hd hx
     have hw:Region.wanted o (Go.yielded all a.tmps)=(x==want):=by
      simp only [Region.wanted,hg,hy];cases x<;>cases want<;>rfl
     show if Region.wanted o (Go.yielded all a.tmps) then _ else _
     rw [hw]
     split at h
     ·split at h
      ·rename_i e;subst e
       rw [if_pos (by simp)]
       exact exec st dec _ aQ h
      ·rename_i e
       rw [if_neg (by simpa using e)]
       exact ⟨fun _ _=>trivial,kM hT hS hX all rest _ _ _ K h hK ρ _ w (aQ.skip o.dst)⟩
     ·cases want with
      |true=>
       dsimp only at h
       cases x with
       |true=>
        have h:sG ctx o.op {st with tmps:=st.tmps.set d (bG true)} _:=h
        rw [if_pos (by rfl)]
        rw [oE hx] at h
        exact exec st _ _ aQ h
       |false=>
        have h:oM ctx all rest (d::dec) {st with tmps:=j8 (st.tmps.set d (bG false)) o.dst ck} (lg++ [nD st.heap.length]) K:=h
        rw [if_neg (by simp)]
        rw [oE hx] at h
        exact ⟨fun _ _=>trivial,kM hT hS hX all rest _ _ _ K h hK ρ _ w (aQ.skip o.dst)⟩
      |false=>
       dsimp only at h
       cases x with
       |false=>
        have h:sG ctx o.op {st with tmps:=st.tmps.set d (bG false)} _:=h
        rw [if_pos (by rfl)]
        rw [oE hx] at h
        exact exec st _ _ aQ h
       |true=>
        have h:oM ctx all rest (d::dec) {st with tmps:=j8 (st.tmps.set d (bG true)) o.dst ck} (lg++ [nD st.heap.length]) K:=h
        rw [if_neg (by simp)]
        rw [oE hx] at h
        exact ⟨fun _ _=>trivial,kM hT hS hX all rest _ _ _ K h hK ρ _ w (aQ.skip o.dst)⟩
    ·rename_i hx
     have hy:Go.yielded all a.tmps j=none:=aQ.YB hd hx
     show if Region.wanted o (Go.yielded all a.tmps) then _ else _
     rw [if_neg (by simp [Region.wanted,hg,hy])]
     exact ⟨fun _ _=>trivial,kM hT hS hX all rest _ _ _ K h hK ρ _ w (aQ.skip o.dst)⟩
    ·exact h.elim
   ·exact h.elim
end
end Go.Ev
