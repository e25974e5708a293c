/- Regions in the text's order; code. -/
import Derived.Test.YtaipcbdilkcdbaaEvE
import Derived.TacticsIn
noncomputable section
set_option linter.unusedSectionVars false
set_option linter.unusedVariables false
set_option linter.unusedSimpArgs false
namespace Go.Ev
open Go.RowKit
structure nD (ax:iV) (W:World) (df:List Deferred) (st:AS) (ρ:Env) (a:Act) (w:World):Prop where
 tmps: ∀t,dK st.tmps t≠ .dead->a.tmps.getD t undef=(dK st.tmps t).af ρ
 size:a.tmps.size=st.tmps.length
 defers:a.defers=df
 kn: ∀t,(dK st.tmps t).ok (· <st.heap.length)
 st:St ax W ρ (· <st.heap.length) (aj st.heap) w
theorem vV: ∀(l:List AV) (t:Nat),dK l t=l.getD t aW
 | [],t=>by simp [dK]
 |a::r,0=>rfl
 |a::r,t+1=>by simp [dK,vV r t]
theorem Bs (l:List AV) (d t:Nat) (v:AV):dK (l.set d v) t=if t=d/\ d<l.length then v else dK l t:=by
 simp only [vV,List.getD,List.getElem?_set]
 by_cases h:d=t
 ·subst h
  by_cases h2:d<l.length
  ·simp [h2]
  ·simp [h2]
 ·simp [h,Ne.symm h]
theorem lR {l:List AV} {d:Nat} {x:Bool} (h:dK l d=cw x):l.set d (cw x)=l:=by
 apply List.ext_getElem?
 intro j
 rw [List.getElem?_set]
 split
 ·rename_i e;subst e
  rw [vV,List.getD] at h
  split
  ·rename_i hl
   rw [List.getElem?_eq_getElem hl] at h ⊢
   simpa using h.symm
  ·rename_i hl
   rw [List.getElem?_eq_none (Nat.le_of_not_lt hl)]
 ·rfl
theorem wq (a:Act) (dst:Option Nat) (v:Value) (t:Nat):(a.put dst v).tmps.getD t undef=match dst with|some d=>(if t=d/\ d<a.tmps.size then v else a.tmps.getD t undef)|none=>a.tmps.getD t undef:=by
 cases dst with
 |none=>rfl
 |some d=>
  simp only [Act.put,Array.getD_eq_getD_getElem?,Array.getElem?_setIfInBounds]
  by_cases h:d=t
  ·subst h
   by_cases h2:d<a.tmps.size
   ·simp [h2]
   ·simp [h2]
  ·simp [h,Ne.symm h]
theorem dF: ∀(ws:List (Nat×aG)) (h:List aG),(ws.foldl (fun h p=>h.set p.1 p.2) h).length=h.length
 | [],_=>rfl
 |p::r,h=>by simp only [List.foldl_cons];rw [dF r];simp
theorem vv: ∀(ws:List (Nat×aG)) (h:List aG),(∀p∈ws,p.1<h.length)-> ∀m,(ws.foldl (fun h p=>h.set p.1 p.2) h)[m]? =match bW ws m with|some o=>some o|none=>h[m]?
 | [],_,_,m=>by simp [bW]
 |p::r,h,hl,m=>by
  simp only [List.foldl_cons]
  rw [vv r _ (fun q hq=>by simpa using hl q (by simp [hq]))]
  simp only [bW]
  cases hr:bW r m with
  |some o=>rfl
  |none=>
   simp only [List.getElem?_set]
   by_cases e:p.1=m
   ·subst e;simp [hl p (by simp)]
   ·simp [e]
theorem lW (st:AS) (dst:Option Nat) (r:Rec):(st.app dst r).heap.length=st.heap.length+r.fresh.length:=by
 simp [AS.app,dF]
theorem FT (st:AS) (dst:Option Nat) (r:Rec) (hw: ∀p∈r.writes,aj st.heap p.1≠none):aj (st.app dst r).heap=bB r st.heap.length (aj st.heap):=by
 have hl: ∀p∈r.writes,p.1<st.heap.length:=fun p hp=>by
  rcases Nat.lt_or_ge p.1 st.heap.length with h|h
  ·exact h
  ·exact absurd (by rw [bX,List.getElem?_eq_none h];rfl) (hw p hp)
 funext m
 simp only [bB,bX,AS.app]
 by_cases h:st.heap.length<=m/\ m<st.heap.length+r.fresh.length
 ·rw [if_pos h,List.getElem?_append_right (by rw [dF];exact h.1),dF]
 ·rw [if_neg h]
  rcases Nat.lt_or_ge m st.heap.length with h2|h2
  ·rw [List.getElem?_append_left (by rw [dF];exact h2),vv _ _ hl]
   cases bW r.writes m<;>rfl
  ·have hnone:bW r.writes m=none:=by
    have: ∀(ws:List (Nat×aG)),(∀p∈ws,p.1<st.heap.length)->bW ws m=none:=by
     intro ws
     induction ws with
     |nil=>intro _;rfl
     |cons p q ih=>
      intro hh
      simp only [bW,ih (fun x hx=>hh x (by simp [hx]))]
      have:=hh p (by simp)
      rw [if_neg (by omega)]
    exact this _ hl
   rw [hnone,List.getElem?_eq_none (by simp [dF];omega),List.getElem?_eq_none h2]
theorem oK (l:List AV) (d:Option Nat) (v:AV):(iU l d v).length=l.length:=by cases d<;>simp [iU]
theorem jv (l:List AV) (d:Option Nat) (v:AV) (t:Nat):dK (iU l d v) t=match d with|some d=>(if t=d/\ d<l.length then v else dK l t)|none=>dK l t:=by
 cases d<;>simp [iU,Bs]
section
variable {ax:iV} {W:World} {df:List Deferred} {st:AS} {ρ:Env} {a:Act} {w:World}
theorem nD.eval (h:nD ax W df st ρ a w) (x:Operand) (hx:mg st.tmps x≠ .dead):a.eval x=(mg st.tmps x).af ρ:=by
 cases x with
 |tmp t=>exact h.tmps t hx
 |const v=>exact (rT v ρ).symm
 |global g=>rfl
 |func f=>rfl
theorem nD.N6 (h:nD ax W df st ρ a w) (x:Operand):(mg st.tmps x).ok (· <st.heap.length):=by
 cases x with
 |tmp t=>exact h.kn t
 |const v=>exact xT _ _
 |global g=>trivial
 |func f=>exact fun r hr=>absurd hr (by simp)
theorem wu (a:Act) (d:Option Nat) (v:Value):(a.put d v).tmps.size=a.tmps.size:=by cases d<;>simp [Act.put]
theorem put_defers (a:Act) (d:Option Nat) (v:Value):(a.put d v).defers=a.defers:=by cases d<;>rfl
theorem nD.app (h:nD ax W df st ρ a w) {dst:Option Nat} {r:Rec} (hw: ∀p∈r.writes,aj st.heap p.1≠none) {ρ':Env} {w':World} (mo: ∀m,m<st.heap.length->ρ' m=ρ m)
  (FM:r.val.ok (iQ (· <st.heap.length) st.heap.length r)) (hst:St ax W ρ' (iQ (· <st.heap.length) st.heap.length r) (bB r st.heap.length (aj st.heap)) w'):
  nD ax W df (st.app dst r) ρ' (a.put dst (r.val.af ρ')) w':=by
 have hkn:iQ (· <st.heap.length) st.heap.length r=(· <(st.app dst r).heap.length):=by
  funext m;rw [lW];simp only [iQ];apply propext;omega
 rw [hkn,<- FT st dst r hw] at hst
 rw [hkn] at FM
 refine ⟨fun t=> ?_,by rw [wu,h.size];simp [AS.app,oK],by rw [put_defers,h.defers],fun t=> ?_,hst⟩
 ·rw [wq]
  simp only [AS.app,jv]
  have hold:dK st.tmps t≠ .dead->a.tmps.getD t undef=(dK st.tmps t).af ρ':=fun hd=>by rw [h.tmps t hd];exact (AV.bZ mo _ (h.kn t)).symm
  cases dst with
  |none=>exact hold
  |some d=>
   simp only [h.size]
   split
   ·intro _;rfl
   ·exact hold
 ·have hold:(dK st.tmps t).ok (· <(st.app dst r).heap.length):=AV.aZ (fun m hm=>by rw [lW];omega) _ (h.kn t)
  simp only [AS.app,jv]
  cases dst with
  |none=>exact hold
  |some d=>
   dsimp only
   split
   ·exact FM
   ·exact hold
theorem nD.skip (h:nD ax W df st ρ a w) (dst:Option Nat):nD ax W df {st with tmps:=iU st.tmps dst aW} ρ (a.put dst undef) w:=by
 refine ⟨fun t=> ?_,by rw [wu,h.size];simp [oK],by rw [put_defers,h.defers],fun t=> ?_,h.st⟩
 ·rw [wq]
  simp only [jv]
  cases dst with
  |none=>exact h.tmps t
  |some d=>
   simp only [h.size]
   split
   ·intro _;rfl
   ·exact h.tmps t
 ·simp only [jv]
  cases dst with
  |none=>exact h.kn t
  |some d=>
   dsimp only
   split
   ·exact qD _
   ·exact h.kn t
def jC (π:List Src) (Γ:HP) (ρ:Env):Env:=fun n=>match π[n]? with
 |some (.same m)=>ρ m
 |some .nil=>match Γ n with
  |some (.row t _ _)=> {es:=t.size}
  |_=> {}
 |some (.cells m len)=>match Γ n with
  |some (.row t _ _)=> {bt:=(ρ m).bt,base:=addrOf ρ m 0,len:=len,cap:=len,es:=t.size}
  |_=> {base:=addrOf ρ m 0,len:=len,cap:=len}
 |some (.mt m off)=>match Γ n with
  |some (.row t _ _)=> {base:=addrOf ρ m off,es:=t.size}
  |_=> {base:=addrOf ρ m off}
 |some (.any m)=>ρ m
 |none=> {}
section
variable {π:List Src} {Γ:HP}
theorem mM {n m:Nat} (h:π[n]? =some (.same m)):jC π Γ ρ n=ρ m:=by simp [jC,h]
theorem bq {n m:Nat} (h:ik π n=some m):jC π Γ ρ n=ρ m/\ n<π.length:=by
 unfold ik at h
 split at h
 ·rename_i m' he
  cases h
  exact ⟨mM he,(List.getElem?_eq_some_iff.1 he).1⟩
 ·cases h
theorem qm: ∀(l m:List Ref),jg π l=some m->l.map (Ref.af (jC π Γ ρ))=m.map (Ref.af ρ)/\ ∀r∈l,r.ok (· <π.length)
 | [],m,h=>by simp only [jg,Option.some.injEq] at h;subst h;simp
 |r::l,m,h=>by
  simp only [jg] at h
  split at h
  ·rename_i q m' h1 h2
   cases h
   obtain ⟨e1,e2⟩:=qm l m' h2
   have h3:r.af (jC π Γ ρ)=q.af ρ/\ r.ok (· <π.length):=by
    cases r with
    |ext v=>simp only [nj,Option.some.injEq] at h1;subst h1;exact ⟨rfl,trivial⟩
    |loc n o=>
     simp only [nj] at h1
     split at h1
     ·rename_i k hk;cases h1
      obtain ⟨e3,e4⟩:=bq (Γ:=Γ) (ρ:=ρ) hk
      exact ⟨by simp [Ref.af,addrOf,e3],e4⟩
     ·cases h1
    |elem n j=>
     simp only [nj] at h1
     split at h1
     ·rename_i k hk;cases h1
      obtain ⟨e3,e4⟩:=bq (Γ:=Γ) (ρ:=ρ) hk
      exact ⟨by simp [Ref.af,e3],e4⟩
     ·cases h1
    |full n=>
     simp only [nj] at h1
     split at h1
     ·rename_i k hk;cases h1
      obtain ⟨e3,e4⟩:=bq (Γ:=Γ) (ρ:=ρ) hk
      exact ⟨by simp [Ref.af,e3],e4⟩
     ·cases h1
    |mp n=>
     simp only [nj] at h1
     split at h1
     ·rename_i k hk;cases h1
      obtain ⟨e3,e4⟩:=bq (Γ:=Γ) (ρ:=ρ) hk
      exact ⟨by simp [Ref.af,e3],e4⟩
     ·cases h1
   refine ⟨by simp [h3.1,e1],fun x hx=> ?_⟩
   rcases List.mem_cons.1 hx with rfl|hx
   ·exact h3.2
   ·exact e2 x hx
  ·cases h
theorem DT: ∀(c q:Cell),iZ π c=some q->c.af (jC π Γ ρ)=q.af ρ/\ c.ok (· <π.length)
 | .raw v,q,h=>by simp only [iZ,Option.some.injEq] at h;subst h;exact ⟨rfl,trivial⟩
 | .ptr n o,q,h=>by
  simp only [iZ] at h
  split at h
  ·rename_i k hk;cases h
   obtain ⟨e3,e4⟩:=bq (Γ:=Γ) (ρ:=ρ) hk
   exact ⟨by simp [Cell.af,addrOf,e3],e4⟩
  ·cases h
 | .jE n o,q,h=>by
  simp only [iZ] at h
  split at h
  ·rename_i k hk;cases h
   obtain ⟨e3,e4⟩:=bq (Γ:=Γ) (ρ:=ρ) hk
   exact ⟨by simp [Cell.af,addrOf,e3],e4⟩
  ·cases h
 | .sl n o l c,q,h=>by
  simp only [iZ] at h
  split at h
  ·rename_i k hk;cases h
   obtain ⟨e3,e4⟩:=bq (Γ:=Γ) (ρ:=ρ) hk
   exact ⟨by simp [Cell.af,addrOf,e3],e4⟩
  ·cases h
 | .cx n j z,q,h=>by
  simp only [iZ] at h
  split at h
  ·rename_i k hk;cases h
   obtain ⟨e3,e4⟩:=bq (Γ:=Γ) (ρ:=ρ) hk
   exact ⟨by simp [Cell.af,e3],e4⟩
  ·cases h
 | .fq n j z,q,h=>by
  simp only [iZ] at h
  split at h
  ·rename_i k hk;cases h
   obtain ⟨e3,e4⟩:=bq (Γ:=Γ) (ρ:=ρ) hk
   exact ⟨by simp [Cell.af,e3],e4⟩
  ·cases h
 | .zJ n,q,h=>by
  simp only [iZ] at h
  split at h
  ·rename_i k hk;cases h
   obtain ⟨e3,e4⟩:=bq (Γ:=Γ) (ρ:=ρ) hk
   exact ⟨by simp [Cell.af,e3],e4⟩
  ·cases h
 | .mp n,q,h=>by
  simp only [iZ] at h
  split at h
  ·rename_i k hk;cases h
   obtain ⟨e3,e4⟩:=bq (Γ:=Γ) (ρ:=ρ) hk
   exact ⟨by simp [Cell.af,e3],e4⟩
  ·cases h
 | .mv f a rs,q,h=>by
  simp only [iZ] at h
  split at h
  ·rename_i k hk;cases h
   obtain ⟨e3,e4⟩:=qm (Γ:=Γ) (ρ:=ρ) _ _ hk
   exact ⟨by simp only [Cell.af,e3],e4⟩
  ·cases h
 | .kq f a cap,q,h=>by
  simp only [iZ] at h
  split at h
  ·rename_i k hk;cases h
   obtain ⟨e3,e4⟩:=qm (Γ:=Γ) (ρ:=ρ) _ _ hk
   exact ⟨by simp only [Cell.af,e3],e4⟩
  ·cases h
 | .full n,q,h=>by
  simp only [iZ] at h
  split at h
  ·rename_i m he
   cases h
   exact ⟨by simp [Cell.af,mM he],(List.getElem?_eq_some_iff.1 he).1⟩
  ·rename_i he
   cases h
   refine ⟨?_,(List.getElem?_eq_some_iff.1 he).1⟩
   simp only [Cell.af,jC,he]
   split<;>rfl
  ·rename_i m len he
   cases h
   refine ⟨?_,(List.getElem?_eq_some_iff.1 he).1⟩
   simp only [Cell.af,jC,he]
   split<;>rfl
  ·rename_i m off he
   cases h
   refine ⟨?_,(List.getElem?_eq_some_iff.1 he).1⟩
   simp only [Cell.af,jC,he]
   split<;>rfl
  ·rename_i m he
   cases h
   exact ⟨by simp only [Cell.af,jC,he],(List.getElem?_eq_some_iff.1 he).1⟩
  ·cases h
theorem kN: ∀(l m:List Cell),gM π l=some m->l.map (Cell.af (jC π Γ ρ))=m.map (Cell.af ρ)/\ ∀r∈l,r.ok (· <π.length)
 | [],m,h=>by simp only [gM,Option.some.injEq] at h;subst h;simp
 |r::l,m,h=>by
  simp only [gM] at h
  split at h
  ·rename_i q m' h1 h2
   cases h
   obtain ⟨e1,e2⟩:=kN l m' h2
   obtain ⟨e3,e4⟩:=DT (Γ:=Γ) (ρ:=ρ) _ _ h1
   refine ⟨by simp [e3,e1],fun x hx=> ?_⟩
   rcases List.mem_cons.1 hx with rfl|hx
   ·exact e4
   ·exact e2 x hx
  ·cases h
theorem DS (a q:A0) (h:CS π a=some q):a.af (jC π Γ ρ)=q.af ρ/\ a.ok (· <π.length):=by
 cases a with
 |one c=>
  simp only [CS] at h
  split at h
  ·rename_i k hk;cases h;exact DT _ _ hk
  ·cases h
 |agg cs=>
  simp only [CS] at h
  split at h
  ·rename_i k hk;cases h
   obtain ⟨e1,e2⟩:=kN (Γ:=Γ) (ρ:=ρ) _ _ hk
   exact ⟨by simp only [A0.af,e1],e2⟩
  ·cases h
theorem BR: ∀(l m:List A0),fZ π l=some m->l.map (A0.af (jC π Γ ρ))=m.map (A0.af ρ)/\ ∀r∈l,r.ok (· <π.length)
 | [],m,h=>by simp only [fZ,Option.some.injEq] at h;subst h;simp
 |r::l,m,h=>by
  simp only [fZ] at h
  split at h
  ·rename_i q m' h1 h2
   cases h
   obtain ⟨e1,e2⟩:=BR l m' h2
   obtain ⟨e3,e4⟩:=DS (Γ:=Γ) (ρ:=ρ) _ _ h1
   refine ⟨by simp [e3,e1],fun x hx=> ?_⟩
   rcases List.mem_cons.1 hx with rfl|hx
   ·exact e4
   ·exact e2 x hx
  ·cases h
theorem DU (a q:AV) (h:qn π a=some q):a.af (jC π Γ ρ)=q.af ρ/\ a.ok (· <π.length):=by
 cases a with
 |v a=>
  simp only [qn] at h
  split at h
  ·rename_i k hk;cases h;exact DS _ _ hk
  ·cases h
 |oP l=>
  simp only [qn] at h
  split at h
  ·rename_i k hk;cases h
   obtain ⟨e1,e2⟩:=BR (Γ:=Γ) (ρ:=ρ) _ _ hk
   exact ⟨by simp only [AV.af,e1],e2⟩
  ·cases h
 |dead=>cases h
theorem qB: ∀(l m:List AV),Cp π l m->m.length=l.length/\ ∀t,dK m t= .dead\/ qn π (dK m t)=some (dK l t)
 | [],[],_=>⟨rfl,fun t=> .inr rfl⟩
 |x::r,.dead::s,h=>by
  obtain ⟨h1,h2⟩:=qB r s h
  exact ⟨by simp [h1],fun t=>by cases t with|zero=>exact .inl rfl|succ t=>exact h2 t⟩
 |x::r,.v y::s,h=>by
  obtain ⟨h1,h2⟩:=qB r s h.2
  exact ⟨by simp [h1],fun t=>by cases t with|zero=>exact .inr h.1|succ t=>exact h2 t⟩
 |x::r,.oP y::s,h=>by
  obtain ⟨h1,h2⟩:=qB r s h.2
  exact ⟨by simp [h1],fun t=>by cases t with|zero=>exact .inr h.1|succ t=>exact h2 t⟩
 | [],_::_,h=>h.elim
 |_::_,[],h=>h.elim
theorem A1 {h0:List aG} : ∀(ss:List Src) (l:List aG),qH π h0 ss l->ss.length=l.length/\ ∀n o,aj l n=some o-> ∃s,ss[n]? =some s/\ zD π h0 s o
 | [],[],_=>⟨rfl,fun n o ho=>by simp [aj] at ho⟩
 |s::r,o::l,h=>by
  have main:qH π h0 r l->(aj (o::l) 0=some o->zD π h0 s o)->(s::r).length=(o::l).length/\ ∀n p,aj (o::l) n=some p-> ∃q,(s::r)[n]? =some q/\ zD π h0 q p:=fun h1 h2=>by
   obtain ⟨e1,e2⟩:=A1 r l h1
   refine ⟨by simp [e1],fun n p hp=> ?_⟩
   cases n with
   |zero=>
    have:p=o:=by
     rw [bX] at hp
     cases o<;>simp_all [live]
    subst this
    exact ⟨s,rfl,h2 hp⟩
   |succ n=>exact e2 n p (by simpa [aj] using hp)
  cases o with
  |gone=>exact main h fun h=>by simp [aj] at h
  |_=>exact main h.2 fun _=>h.1
 | [],_::_,h=>by unfold qH at h;exact h.elim
 |_::_,[],h=>by unfold qH at h;exact h.elim
theorem HZ: ∀(ss:List Src) (l:List aG) (n m:Nat) (s:Src),(aj l n).isSome=true->ss[n]? =some s->x6 s=some m->m∈sj ss l
 | [],_,n,m,s,_,h,_=>by simp at h
 |_::_,[],n,m,s,h,_,_=>by simp [aj] at h
 |q::r,o::l,n,m,s,h1,h2,h3=>by
  have tail: ∀k,n=k+1->m∈sj r l:=fun k e=>by
   subst e
   exact HZ r l k m s (by simpa [aj] using h1) (by simpa using h2) h3
  cases n with
  |zero=>
   simp only [List.getElem?_cons_zero,Option.some.injEq] at h2
   subst h2
   cases o with
   |gone=>simp [aj] at h1
   |_=>simp [sj,h3]
  |succ n=>
   have:=tail n rfl
   cases o with
   |gone=>exact this
   |_=>simp only [sj];split<;>simp [this]
theorem HY: ∀(ss:List Src) (l:List aG),(sj ss l).Nodup-> ∀n n' m s s',(aj l n).isSome=true->(aj l n').isSome=true->ss[n]? =some s->ss[n']? =some s'->x6 s=some m->x6 s'=some m->n=n'
 | [],_,_,n,_,_,s,_,_,_,h,_,_,_=>by simp at h
 |_::_,[],_,n,_,_,s,_,h,_,_,_,_,_=>by simp [aj] at h
 |q::r,o::l,hn,n,n',m,s,s',h1,h2,h3,h4,h5,h6=>by
  have hz: ∀k,(aj (o::l) 0).isSome=true->x6 q=some m->(aj (o::l) (k+1)).isSome=true-> ∀s,(q::r)[k+1]? =some s->x6 s=some m->False:=fun k g1 g2 g3 s g4 g5=>by
   have:=HZ r l k m s (by simpa [aj] using g3) (by simpa using g4) g5
   cases o with
   |gone=>simp [aj] at g1
   |_=>
    simp only [sj,g2] at hn
    exact (List.nodup_cons.1 hn).1 this
  have hr:(sj r l).Nodup:=by
   cases o with
   |gone=>exact hn
   |_=>
    simp only [sj] at hn
    split at hn
    ·exact (List.nodup_cons.1 hn).2
    ·exact hn
  cases n with
  |zero=>
   cases n' with
   |zero=>rfl
   |succ n'=>
    simp only [List.getElem?_cons_zero,Option.some.injEq] at h3
    subst h3
    exact (hz n' h1 h5 h2 s' h4 h6).elim
  |succ n=>
   cases n' with
   |zero=>
    simp only [List.getElem?_cons_zero,Option.some.injEq] at h4
    subst h4
    exact (hz n h2 h6 h1 s h3 h5).elim
   |succ n'=>
    rw [HY r l hr n n' m s s' (by simpa [aj] using h1) (by simpa [aj] using h2) (by simpa using h3) (by simpa using h4) h5 h6]
theorem ry: ∀(n:Nat),xI π n=true-> ∀m,m<n->π[m]? =some (.same m)
 |0,_,m,hm=>by omega
 |n+1,h,m,hm=>by
  simp only [xI,Bool.and_eq_true] at h
  by_cases e:m=n
  ·subst e
   have h1:=h.1
   split at h1
   ·rename_i k hk
    rw [hk];simp at h1;rw [h1]
   ·cases h1
  ·exact ry n h.2 m (by omega)
end
theorem Hs {π:List Src} {g c:Nat} {es:Array MapEntry} {dI:Nat} {ka:Bool} {k u:Ty} {l:List (k.T×List u.T)} {cur:Option (k.T×Nat)} {p:aG} (h:fA π (.sK g c es dI ka k u l cur)=some p):
  ∃m d cur',ik π g=some m/\ ik π c=some d/\ (∀q,cur=some q-> ∃q',ik π q.2=some q'/\ cur'=some (q.1,q'))/\ p= .sK m d es dI ka k u l cur':=by
 simp only [fA] at h
 cases h1:ik π g with
 |none=>rw [h1] at h;cases h
 |some m=>
  cases h2:ik π c with
  |none=>rw [h1,h2] at h;cases h
  |some d=>
   rw [h1,h2] at h
   cases cur with
   |none=>
    cases h
    exact ⟨m,d,none,rfl,rfl,fun q hq=>(by cases hq),rfl⟩
   |some q=>
    obtain ⟨a,q⟩:=q
    dsimp only at h
    cases h3:ik π q with
    |none=>rw [h3] at h;cases h
    |some q'=>
     rw [h3] at h
     cases h
     exact ⟨m,d,_,rfl,rfl,fun p hp=>(by cases hp;exact ⟨q',h3,rfl⟩),rfl⟩
theorem nD.Tm (h:nD ax W df st ρ a w) {st':AS} {π:List Src} (hw:XV π st st'):nD ax W df st' (jC π (aj st'.heap) ρ) a w:=by
 obtain ⟨hl,ht⟩:=qB _ _ hw.tmps
 obtain ⟨rJ,hh⟩:=A1 _ _ hw.heap
 have nE:=ie hw.inj
 let ρ':=jC π (aj st'.heap) ρ
 have hlt: ∀n o,aj st'.heap n=some o->n<st'.heap.length:=fun n o ho=>by
  rcases Nat.lt_or_ge n st'.heap.length with hn|hn
  ·exact hn
  ·simp [aj,List.getElem?_eq_none hn] at ho
 have hsrc: ∀n b,(aj st'.heap n).isSome=true->(ρ' n).has b-> ∃s m,π[n]? =some s/\ x6 s=some m/\ (aj st.heap m).isSome=true/\ (ρ m).has b:=fun n b hn hb=>by
  obtain ⟨o,ho⟩:=Option.isSome_iff_exists.1 hn
  obtain ⟨s,hs,kD⟩:=hh n o ho
  cases s with
  |same m=>
   obtain ⟨p,hp,_⟩:=kD
   refine ⟨_,m,hs,rfl,by simp [hp],?_⟩
   rw [<- show ρ' n=ρ m from mM hs];exact hb
  |nil=>
   obtain ⟨t,rk,rfl,_⟩:=kD
   simp only [ρ',jC,hs,ho] at hb;exact absurd (gU.1 hb) (fun h=>by cases h)
  |mt m off=>
   obtain ⟨t,cs,e,rfl,_⟩:=kD
   simp only [ρ',jC,hs,ho] at hb;exact absurd (gU.1 hb) (fun h=>by cases h)
  |any m=>
   obtain ⟨t,l,rk,rfl,hp,_⟩:=kD
   simp only [ρ',jC,hs] at hb
   exact ⟨_,m,hs,rfl,by simp [hp],hb⟩
  |cells m len=>
   obtain ⟨t,l,cs,e,rk,rfl,_,hp,_⟩:=kD
   simp only [ρ',jC,hs,ho] at hb
   exact ⟨_,m,hs,rfl,by simp [hp],.inl (gU.1 hb)⟩
 have qG: ∀b,HI (aj st'.heap) b->HI (aj st.heap) b:=fun b ⟨n,S,h1,h2⟩=>by
  obtain ⟨s,hs,kD⟩:=hh n _ h1
  cases s with
  |same m=>
   obtain ⟨p,hp,hr⟩:=kD
   simp only [fA,Option.some.injEq] at hr
   subst hr
   exact ⟨m,S,hp,h2⟩
  |nil=>obtain ⟨_,_,e,_⟩:=kD;cases e
  |mt m off=>obtain ⟨_,_,_,e,_⟩:=kD;cases e
  |any m=>obtain ⟨_,_,_,e,_⟩:=kD;cases e
  |cells m len=>obtain ⟨_,_,_,_,_,e,_⟩:=kD;cases e
 have hfz: ∀b,eo ρ (aj st.heap) w b->eo ρ' (aj st'.heap) w b/\ w.heap[b]? =w.heap[b]? :=fun b hb=>by
  refine ⟨⟨hb.1,?_⟩,rfl⟩
  rintro (⟨n,h1,h2⟩|⟨n,S,h1,h2⟩)
  ·obtain ⟨s,m,_,_,h5,h6⟩:=hsrc n b h1 h2
   exact hb.2 (.inl ⟨m,h5,h6⟩)
  ·exact hb.2 (.inr (qG b ⟨n,S,h1,h2⟩))
 show nD ax W df st' ρ' a w
 refine ⟨fun t hd=> ?_,by rw [h.size,hl],h.defers,fun t=> ?_,⟨h.st.fr,fun n o ho=> ?_,fun n o ho=> ?_,fun n n' b hn hn' hb hb'=> ?_,fun n b hn hb=> ?_,fun b FK=> ?_,fun n o ho=> ?_⟩⟩
 rotate_right
 ·obtain ⟨s,hs,kD⟩:=hh n o ho
  cases s with
  |same m=>
   obtain ⟨p,hp,hr⟩:=kD
   rw [show ρ' n=ρ m from mM hs]
   rcases h.st.qI m p hp with ⟨g,rfl⟩|he
   ·cases o with
    |set g'=>exact .inl ⟨_,rfl⟩
    |_=>
     simp only [fA] at hr
     first
     |(cases hr;done)
     |(split at hr<;>cases hr)
     |(split at hr<;>first|(cases hr;done)|(split at hr<;>cases hr))
   ·exact .inr he
  |nil=>
   obtain ⟨t,rk,rfl,_⟩:=kD
   exact .inr (by simp only [ρ',jC,hs,ho])
  |mt m off=>
   obtain ⟨t,cs,e,rfl,_⟩:=kD
   exact .inr (by simp only [ρ',jC,hs,ho])
  |any m=>
   obtain ⟨t,l,rk,rfl,hp,_⟩:=kD
   refine .inr ?_
   simp only [ρ',jC,hs]
   exact (h.st.qI m _ hp).elim (fun ⟨_,e⟩=>by cases e) id
  |cells m len=>
   obtain ⟨t,l,cs,e,rk,rfl,_⟩:=kD
   exact .inr (by simp only [ρ',jC,hs,ho])
 rotate_right
 ·obtain ⟨h1,h2⟩:=h.st.rH b (qG b FK)
  refine ⟨h1,?_⟩
  rintro ⟨n,h3,h4⟩
  obtain ⟨s,m,_,_,h5,h6⟩:=hsrc n b h3 h4
  exact h2 ⟨m,h5,h6⟩
 ·rcases ht t with e|e
  ·exact absurd e hd
  ·have hne:dK st.tmps t≠ .dead:=fun e2=>by
    rw [e2] at e
    revert e;cases dK st'.tmps t<;>simp only [qn]<;>(try split)<;>intro e<;>cases e
   rw [h.tmps t hne]
   exact (DU _ _ e).1.symm
 ·rcases ht t with e|e
  ·rw [e];trivial
  ·rw [<- rJ];exact (DU (Γ:=aj st'.heap) (ρ:=ρ) _ _ e).2
 ·obtain ⟨s,hs,kD⟩:=hh n o ho
  cases s with
  |same m=>
   obtain ⟨p,hp,hr⟩:=kD
   have hn:ρ' n=ρ m:=mM hs
   have bz:=h.st.at_ m p hp
   cases o with
   |cells cs e=>
    simp only [fA] at hr
    split at hr
    ·rename_i q hq
     cases hr
     obtain ⟨b,hb,S1⟩:=bz
     exact ⟨b,by rw [hn];exact hb,by rw [S1,(kN (Γ:=aj st'.heap) (ρ:=ρ) _ _ hq).1]⟩
    ·cases hr
   |row t l rk=>
    simp only [fA,Option.some.injEq] at hr
    subst hr
    obtain ⟨o1,o2,o3,sub,o4⟩:=bz
    rw [aX,hn]
    exact ⟨o1,o2,o3,sub,o4.keep hfz (fun _ _ h=>h) fun _ _=>rfl⟩
   |alias k z q=>
    simp only [fA] at hr
    split at hr
    ·rename_i k' hk
     cases hr
     have:=(bq (Γ:=aj st'.heap) (ρ:=ρ) hk).1
     rw [aX,hn,show ρ' k=ρ k' from this]
     exact bz
    ·cases hr
   |gone=>cases hr
   |loop r z j=>
    simp only [fA,Option.some.injEq] at hr
    subst hr
    obtain ⟨b,hb,S1⟩:=bz
    exact ⟨b,by rw [hn];exact hb,S1⟩
   |eZ S=>
    simp only [fA,Option.some.injEq] at hr
    subst hr
    rw [aX,hn];exact bz
   |map ka va kt vt l=>
    simp only [fA,Option.some.injEq] at hr
    subst hr
    rw [aX,hn];exact bz
   |de dH n0=>
    simp only [fA] at hr
    split at hr
    ·rename_i hf
     cases hr
     exact ⟨by rw [hn];exact bz.1,fun i hi=>by rw [show ρ' i=ρ i from mM (ry n0 hf i hi)];exact bz.2 i hi⟩
    ·cases hr
   |dp t l c s0 kn=>
    simp only [fA] at hr
    split at hr
    ·rename_i c' hc
     cases hr
     have:=(bq (Γ:=aj st'.heap) (ρ:=ρ) hc).1
     rw [aX,hn,show ρ' c=ρ c' from this]
     exact bz
    ·cases hr
   |nv g c j q u=>
    simp only [fA] at hr
    split at hr
    ·rename_i g' c' hg hc
     cases hr
     have e:=(bq (Γ:=aj st'.heap) (ρ:=ρ) hc).1
     have e':=(bq (Γ:=aj st'.heap) (ρ:=ρ) hg).1
     rw [aX,hn,show ρ' c=ρ c' from e,show ρ' g=ρ g' from e'];exact bz
    ·cases hr
   |mh ka k u l c q=>
    simp only [fA] at hr
    split at hr
    ·rename_i c' hc
     cases hr
     have e:=(bq (Γ:=aj st'.heap) (ρ:=ρ) hc).1
     rw [aX,hn,show ρ' c=ρ c' from e];exact bz
    ·cases hr
   |set g=>
    simp only [fA] at hr
    split at hr
    ·cases hr
     rw [aX,hn];exact bz
    ·cases hr
   |gv g c k u x l=>
    simp only [fA] at hr
    split at hr
    ·rename_i g' c' hg hc
     cases hr
     have e:=(bq (Γ:=aj st'.heap) (ρ:=ρ) hc).1
     rw [aX,hn,show ρ' c=ρ c' from e];exact bz
    ·cases hr
   |rc cs=>
    simp only [fA] at hr
    split at hr
    ·rename_i q hq
     cases hr
     rw [aX,hn]
     refine ⟨bz.1,fun i c hc=> ?_⟩
     have e:=(kN (Γ:=aj st'.heap) (ρ:=ρ) _ _ hq).1
     have e1:(cs.map (Cell.af ρ'))[i]? =some (c.af ρ'):=by rw [List.getElem?_map,hc];rfl
     rw [show cs.map (Cell.af ρ')=q.map (Cell.af ρ) from e,List.getElem?_map] at e1
     obtain ⟨d,hd,e2⟩:=Option.map_eq_some_iff.1 e1
     rw [<- e2]
     obtain ⟨a,h1,h2,h3⟩:=bz.2 i d hd
     exact ⟨a,h1,h2,(hfz _ h3).1⟩
    ·cases hr
   |hmap es dI=>
    simp only [fA,Option.some.injEq] at hr
    subst hr
    rw [aX,hn];exact bz
   |sK g c es dI ka k u l cur=>
    have key: ∀(m' d:Nat) (cur':Option (k.T×Nat)),ik π g=some m'->ik π c=some d->(∀q,cur=some q-> ∃q',ik π q.2=some q'/\ cur'=some (q.1,q'))->aX (eo ρ (aj st.heap) w) (qP ax W) ρ m (.sK m' d es dI ka k u l cur') w->aX (eo ρ' (aj st'.heap) w) (qP ax W) ρ' n (.sK g c es dI ka k u l cur) w:=by
     intro m' d cur' hg hc Yx bz
     have e1:ρ' g=ρ m':=(bq (Γ:=aj st'.heap) (ρ:=ρ) hg).1
     have e2:ρ' c=ρ d:=(bq (Γ:=aj st'.heap) (ρ:=ρ) hc).1
     rw [aX] at bz
     rw [aX,hn,e1,e2]
     obtain ⟨a1,a2,a3,b,since,seen,c0,a4,a5,a6,a7,a8,a9,a10,a11⟩:=bz
     refine ⟨a1,a2,a3,b,since,seen,c0,a4,a5,a6,a7,a8,a9,a10,fun q hq=> ?_⟩
     obtain ⟨q',h1,h2⟩:=Yx q hq
     have e3:ρ' q.2=ρ q':=(bq (Γ:=aj st'.heap) (ρ:=ρ) h1).1
     rw [e3]
     exact a11 _ h2
    obtain ⟨m',d,cur',h1,h2,h3,rfl⟩:=Hs hr
    exact key m' d cur' h1 h2 h3 bz
  |nil=>
   obtain ⟨t,rk,rfl,mW⟩:=kD
   have e:ρ' n= {es:=t.size} :=by simp only [ρ',jC,hs,ho]
   rw [aX,e]
   exact ⟨rfl,rfl,Nat.le_refl _,fun _=>(none,0),fun i v hv=>by simp [ak,aA] at hv,fun q u l' hq=>by simp [ak] at hq,fun e=>absurd e mW,fun _=> .inl ⟨rfl,rfl,rfl,fun _=>rfl⟩⟩
  |mt m off=>
   obtain ⟨t,cs,e,rfl,hp⟩:=kD
   have e1:ρ' n= {base:=addrOf ρ m off,es:=t.size} :=by simp only [ρ',jC,hs,ho]
   rw [aX,e1]
   exact ⟨rfl,rfl,Nat.le_refl _,fun _=>(none,0),fun i v hv=>by simp [ak,aA] at hv,fun q u l' hq=>by simp [ak] at hq,fun e=>(by cases e),fun _=> .inl ⟨rfl,rfl,rfl,fun q=>absurd rfl q⟩⟩
  |any m=>
   obtain ⟨t,l,rk,rfl,hp,mW⟩:=kD
   have e1:ρ' n=ρ m:=by simp only [ρ',jC,hs]
   obtain ⟨o1,o2,o3,sub,o4⟩:=h.st.at_ m _ hp
   obtain ⟨m1,m2,m3,m4⟩:=o4.keep (QG:=eo ρ' (aj st'.heap) w) (pm':=qP ax W) hfz (fun _ _ h=>h) fun _ _=>rfl
   rw [aX,e1]
   exact ⟨o1,o2,o3,sub,fun i v hv=>by
    obtain ⟨a,h1,h2,_⟩:=m1 i v hv
    exact ⟨a,h1,h2,fun e=>by cases e⟩,fun q u l' hq=>(m2 q u l' hq).mono fun b hb=>⟨⟨hb.1,fun e=>by cases e⟩,rfl⟩,fun e=>(by cases e),fun _=>(m4 mW).any⟩
  |cells m len=>
   obtain ⟨t,l,cs,e,rk,rfl,mW,hp,hf,hd,Gn⟩:=kD
   obtain ⟨b,hb,S1⟩:=h.st.at_ m _ hp
   have e1:ρ' n= {bt:=some b,base:=some ⟨b,0,none⟩,len:=len,cap:=len,es:=t.size} :=by simp only [ρ',jC,hs,ho,addrOf,hb,Option.map_some]
   obtain ⟨YM,ys,r,hy,hyl,TP⟩:=LP (iG hf) _ _ _ _ hd
   have hr:r= []:=List.eq_nil_of_length_eq_zero (by have:=congrArg List.length hy;rw [List.length_append] at this;omega)
   subst hr
   rw [List.append_nil] at hy
   have TP:=TP zC w ρ (fun _=>False) (fun _=>none) w (fun _ hm=>by cases hm) (St.none w ρ)
   rw [<- hy] at TP
   obtain ⟨s1,s2⟩:=jo TP
   rw [aX,e1]
   refine ⟨YM.symm,rfl,by rw [YM];exact Nat.le_refl _,pM (cs.map (Cell.af ρ)),fun i v hv=>⟨_,rfl,?_,fun e=>(by rcases mW with rfl|rfl<;>cases e)⟩,fun q u l' hq=> ?_,fun e=>(by rcases mW with rfl|rfl<;>cases e),fun _=>fS.new (.inr ⟨b,[],e,rfl,rfl,by rw [s1,List.append_nil];exact S1,?_⟩)⟩
   ·rw [s1] at hv
    have e2:(⟨b,0,none⟩:Addr).add i=⟨b,i,none⟩:=by unfold Addr.add;split<;>simp_all
    rw [e2,bL S1];exact hv
   ·obtain ⟨v,hv⟩:=dn hf (List.mem_of_getElem? hq)
    cases hv
   ·exact ⟨by rw [s1,List.append_nil];simp [Gn.1],Nat.le_trans (Nat.le_of_ble_eq_true Gn.2) (by decide)⟩
 ·obtain ⟨s,hs,kD⟩:=hh n o ho
  refine ⟨hlt n o ho,?_⟩
  cases s with
  |same m=>
   obtain ⟨p,hp,hr⟩:=kD
   cases o with
   |cells cs e=>
    simp only [fA] at hr
    split at hr
    ·rename_i q hq
     rw [<- rJ];exact (kN (Γ:=aj st'.heap) (ρ:=ρ) _ _ hq).2
    ·cases hr
   |alias k z q=>
    simp only [fA] at hr
    split at hr
    ·rename_i k' hk
     rw [<- rJ];exact (bq (Γ:=aj st'.heap) (ρ:=ρ) hk).2
    ·cases hr
   |de dH n0=>
    simp only [fA] at hr
    split at hr
    ·rename_i hf
     intro i hi
     rw [<- rJ];exact (List.getElem?_eq_some_iff.1 (ry n0 hf i hi)).1
    ·cases hr
   |mh ka k u l c q=>
    simp only [fA] at hr
    split at hr
    ·rename_i c' hc
     rw [<- rJ];exact (bq (Γ:=aj st'.heap) (ρ:=ρ) hc).2
    ·cases hr
   |set g=>
    simp only [fA] at hr
    split at hr
    ·rename_i c' hc
     rw [<- rJ];exact (bq (Γ:=aj st'.heap) (ρ:=ρ) hc).2
    ·cases hr
   |dp t l c=>
    simp only [fA] at hr
    split at hr
    ·rename_i c' hc
     rw [<- rJ];exact (bq (Γ:=aj st'.heap) (ρ:=ρ) hc).2
    ·cases hr
   |gv g c k u x l=>
    simp only [fA] at hr
    split at hr
    ·rename_i g' c' hg hc
     rw [<- rJ];exact ⟨(bq (Γ:=aj st'.heap) (ρ:=ρ) hg).2,(bq (Γ:=aj st'.heap) (ρ:=ρ) hc).2⟩
    ·cases hr
   |nv g c j q u=>
    simp only [fA] at hr
    split at hr
    ·rename_i g' c' hg hc
     rw [<- rJ];exact ⟨(bq (Γ:=aj st'.heap) (ρ:=ρ) hg).2,(bq (Γ:=aj st'.heap) (ρ:=ρ) hc).2⟩
    ·cases hr
   |rc cs=>
    simp only [fA] at hr
    split at hr
    ·rename_i q hq
     rw [<- rJ];exact (kN (Γ:=aj st'.heap) (ρ:=ρ) _ _ hq).2
    ·cases hr
   |sK g c es dI ka k u l cur=>
    obtain ⟨m',d,cur',h1,h2,h3,rfl⟩:=Hs hr
    rw [<- rJ]
    exact ⟨(bq (Γ:=aj st'.heap) (ρ:=ρ) h1).2,(bq (Γ:=aj st'.heap) (ρ:=ρ) h2).2,fun p hp=>by
     obtain ⟨q',h4,_⟩:=h3 p hp
     exact (bq (Γ:=aj st'.heap) (ρ:=ρ) h4).2⟩
   |_=>trivial
  |nil=>obtain ⟨t,rk,rfl,_⟩:=kD;trivial
  |mt m off=>obtain ⟨t,cs,e,rfl,_⟩:=kD;trivial
  |any m=>obtain ⟨t,l,rk,rfl,_⟩:=kD;trivial
  |cells m len=>obtain ⟨t,l,cs,e,rk,rfl,_⟩:=kD;trivial
 ·obtain ⟨s,m,h1,h2,h3,h4⟩:=hsrc n b hn hb
  obtain ⟨s',m',h1',TM,IK,Md⟩:=hsrc n' b hn' hb'
  have:=h.st.cW m m' b h3 IK h4 Md
  subst this
  exact HY _ _ nE n n' m s s' hn hn' h1 h1' h2 TM
 ·obtain ⟨s,m,h1,h2,h3,h4⟩:=hsrc n b hn hb
  exact h.st.jR m b h3 h4
theorem nD.weak (h:nD ax W df st ρ a w) {st':AS} (hw:s8 st st'): ∃ρ',nD ax W df st' ρ' a w:=by
 obtain ⟨π,hw⟩:=hw
 exact ⟨_,h.Tm hw⟩
theorem nD.drawn (h:nD ax W df st ρ a w) (n:Nat) (hn:w.drawn<=n):nD ax W df st ρ a {w with drawn:=n} :=⟨h.tmps,h.size,h.defers,h.kn,h.st.drawn n hn⟩
theorem nD.yielded (h:nD ax W df st ρ a w) {ops:Array Oper} {j d:Nat} (hd:yn ops j=some d) {x:Bool} (hx:dK st.tmps d=cw x):yielded ops a.tmps j=some x:=by
 have h1:=h.tmps d (by rw [hx];simp [cw])
 rw [hx] at h1
 have e1:(ops[j]?).bind (·.dst)=some d:=by
  unfold yn at hd;split at hd
  ·rename_i o ho;simp [ho,hd]
  ·cases hd
 have e2:a.tmps[d]? =some (.bool x):=by
  rw [Array.getD_eq_getD_getElem?] at h1
  cases hq:a.tmps[d]? with
  |none=>rw [hq] at h1;cases h1
  |some v=>rw [hq] at h1;exact congrArg some h1
 simp [Go.yielded,e1,e2]
theorem nD.Ie (h:nD ax W df st ρ a w) {ops:Array Oper} {j d:Nat} (hd:yn ops j=some d) (hx:dK st.tmps d= .oP []):Go.yielded ops a.tmps j=none:=by
 have h1:=h.tmps d (by rw [hx];simp)
 rw [hx] at h1
 have e1:(ops[j]?).bind (·.dst)=some d:=by
  unfold yn at hd;split at hd
  ·rename_i o ho;simp [ho,hd]
  ·cases hd
 rw [Array.getD_eq_getD_getElem?] at h1
 cases hq:a.tmps[d]? with
 |none=>simp [Go.yielded,e1,hq]
 |some v=>
  rw [hq] at h1
  have e:v= .tuple #[]:=h1
  subst e
  simp [Go.yielded,e1,hq]
end
section
variable {P:Program} {ctx:Ctx} {ax:iV} {W:World} {df:List Deferred} {ro:Option Nat} {n:Nat} {Q:Exit->Act->World->Prop}
theorem Cm {o:Op} {st:AS} {k:Rec->Prop} (h:pK ctx o st k):(∀x∈o.operands,mg st.tmps x≠ .dead)/\ Jw ctx o (mg st.tmps) (aj st.heap) st.heap.length k:=by
 unfold pK at h
 split at h
 ·rename_i hn
  refine ⟨fun x hx e=> ?_,h⟩
  have:=List.all_eq_true.1 hn x (Array.mem_toList_iff.2 hx)
  rw [e] at this;simp [AV.OV] at this
 ·exact h.elim
theorem R2 (hT:br P ctx.tt) (hS:oT P ctx) (hX:yf ax W ctx.X) {st:AS} {ρ:Env} {a:Act} {w:World} (bz:nD ax W df st ρ a w) {o:Oper} {k:Rec->Prop}
  (h:pK ctx o.op st k) {next:Act->World->Prop}
  (hn: ∀r,k r-> ∀ρ' a' w',nD ax W df (st.app o.dst r) ρ' a' w'->next a' w'):o.wpIn (fw ro) n P a w next Q:=by
 obtain ⟨nE,h⟩:=Cm h
 refine Xa hT hS h ro n ax W ρ w a next Q hX (fun x hx=>bz.eval x (nE x hx)) (fun x _=>bz.N6 x) bz.st ?_
 intro r ρ' w' hk hw mo FM hst
 exact hn r hk ρ' _ w' (bz.app hw mo FM hst)
theorem kK (hT:br P ctx.tt) (hS:oT P ctx) (hX:yf ax W ctx.X) (all:Array Oper): ∀(l:List Oper) (dec:List Nat) (st:AS) (lg:List lT) (K:AS->List lT->Prop),mZ ctx all l dec st lg K->
  (∀st' XN ρ' a' w',K st' XN->nD ax W df st' ρ' a' w'->Q .normal a' w')-> ∀ρ a w,nD ax W df st ρ a w->wpListIn (fw ro) n P all Q l a w
 | [],dec,st,lg,K,h,hK,ρ,a,w,bz=>hK st lg ρ a w h bz
 |o::rest,dec,st,lg,K,h,hK,ρ,a,w,bz=>by
  have exec: ∀(st:AS) (Aw:List Nat) (XN:Rec->List lT),nD ax W df st ρ a w->pK ctx o.op st (fun r=>mZ ctx all rest Aw (st.app o.dst r) (XN r) K)->
    o.wpIn (fw ro) n P a w (wpListIn (fw ro) n P all Q rest) Q:=by
   intro st Aw XN bz h
   exact R2 hT hS hX bz h fun r hr ρ' a' w' j9=>kK hT hS hX all rest Aw _ _ K hr hK ρ' a' w' j9
  unfold mZ at h
  split at h
  ·rename_i hg
   show if Region.wanted o (Go.yielded all a.tmps) then _ else _
   rw [if_pos (by simp [Region.wanted,hg])]
   exact exec st dec _ bz h
  ·rename_i j want hg
   split at h
   ·rename_i d hd
    split at h
    ·rename_i x hx
     have hy:Go.yielded all a.tmps j=some x:=bz.yielded hd hx
     have hw:Region.wanted o (Go.yielded all a.tmps)=(x==want):=by
      simp only [Region.wanted,hg,hy];cases x<;>cases want<;>rfl
     show if Region.wanted o (Go.yielded all a.tmps) then _ else _
     rw [hw]
     split at h
     ·split at h
      ·rename_i e;subst e
       rw [if_pos (by simp)]
       exact exec st dec _ bz h
      ·rename_i e
       rw [if_neg (by simpa using e)]
       exact ⟨fun _ _=>trivial,kK hT hS hX all rest _ _ _ K h hK ρ _ w (bz.skip o.dst)⟩
     ·cases want with
      |true=>
       dsimp only at h
       cases x with
       |true=>
        have h:pK ctx o.op {st with tmps:=st.tmps.set d (cw true)} _:=h
        rw [if_pos (by rfl)]
        rw [lR hx] at h
        exact exec st _ _ bz h
       |false=>
        have h:mZ ctx all rest (d::dec) {st with tmps:=iU (st.tmps.set d (cw false)) o.dst aW} (lg++ [lu st.heap.length]) K:=h
        rw [if_neg (by simp)]
        rw [lR hx] at h
        exact ⟨fun _ _=>trivial,kK hT hS hX all rest _ _ _ K h hK ρ _ w (bz.skip o.dst)⟩
      |false=>
       dsimp only at h
       cases x with
       |false=>
        have h:pK ctx o.op {st with tmps:=st.tmps.set d (cw false)} _:=h
        rw [if_pos (by rfl)]
        rw [lR hx] at h
        exact exec st _ _ bz h
       |true=>
        have h:mZ ctx all rest (d::dec) {st with tmps:=iU (st.tmps.set d (cw true)) o.dst aW} (lg++ [lu st.heap.length]) K:=h
        rw [if_neg (by simp)]
        rw [lR hx] at h
        exact ⟨fun _ _=>trivial,kK hT hS hX all rest _ _ _ K h hK ρ _ w (bz.skip o.dst)⟩
    ·rename_i hx
     have hy:Go.yielded all a.tmps j=none:=bz.Ie hd hx
     show if Region.wanted o (Go.yielded all a.tmps) then _ else _
     rw [if_neg (by simp [Region.wanted,hg,hy])]
     exact ⟨fun _ _=>trivial,kK hT hS hX all rest _ _ _ K h hK ρ _ w (bz.skip o.dst)⟩
    ·exact h.elim
   ·exact h.elim
end
end Go.Ev
