/- Regions in the text's order; code. -/
import Derived.Test.YtbjfokijjefoeaaGreatEvE
import Derived.TacticsIn
noncomputable section
set_option linter.unusedSectionVars false
set_option linter.unusedVariables false
set_option linter.unusedSimpArgs false
namespace Go.Ev
open Go.RowKit
structure qv (ax:kz) (W:World) (df:List Deferred) (st:AS) (ρ:Env) (a:Act) (w:World):Prop where
 tmps: ∀t,dM st.tmps t≠ .dead->a.tmps.getD t undef=(dM st.tmps t).af ρ
 size:a.tmps.size=st.tmps.length
 defers:a.defers=df
 kn: ∀t,(dM st.tmps t).ok (· <st.heap.length)
 st:St ax W ρ (· <st.heap.length) (aq st.heap) w
theorem A4: ∀(l:List AV) (t:Nat),dM l t=l.getD t aX
 | [],t=>by simp [dM]
 |a::r,0=>rfl
 |a::r,t+1=>by simp [dM,A4 r t]
theorem Hl (l:List AV) (d t:Nat) (v:AV):dM (l.set d v) t=if t=d/\ d<l.length then v else dM l t:=by
 simp only [A4,List.getD,List.getElem?_set]
 by_cases h:d=t
 ·subst h
  by_cases h2:d<l.length
  ·simp [h2]
  ·simp [h2]
 ·simp [h,Ne.symm h]
theorem oq {l:List AV} {d:Nat} {x:Bool} (h:dM l d=cl x):l.set d (cl x)=l:=by
 apply List.ext_getElem?
 intro j
 rw [List.getElem?_set]
 split
 ·rename_i e;subst e
  rw [A4,List.getD] at h
  split
  ·rename_i hl
   rw [List.getElem?_eq_getElem hl] at h ⊢
   simpa using h.symm
  ·rename_i hl
   rw [List.getElem?_eq_none (Nat.le_of_not_lt hl)]
 ·rfl
theorem Bc (a:Act) (dst:Option Nat) (v:Value) (t:Nat):(a.put dst v).tmps.getD t undef=match dst with|some d=>(if t=d/\ d<a.tmps.size then v else a.tmps.getD t undef)|none=>a.tmps.getD t undef:=by
 cases dst with
 |none=>rfl
 |some d=>
  simp only [Act.put,Array.getD_eq_getD_getElem?,Array.getElem?_setIfInBounds]
  by_cases h:d=t
  ·subst h
   by_cases h2:d<a.tmps.size
   ·simp [h2]
   ·simp [h2]
  ·simp [h,Ne.symm h]
theorem dB: ∀(ws:List (Nat×aI)) (h:List aI),(ws.foldl (fun h p=>h.set p.1 p.2) h).length=h.length
 | [],_=>rfl
 |p::r,h=>by simp only [List.foldl_cons];rw [dB r];simp
theorem AA: ∀(ws:List (Nat×aI)) (h:List aI),(∀p∈ws,p.1<h.length)-> ∀m,(ws.foldl (fun h p=>h.set p.1 p.2) h)[m]? =match cf ws m with|some o=>some o|none=>h[m]?
 | [],_,_,m=>by simp [cf]
 |p::r,h,hl,m=>by
  simp only [List.foldl_cons]
  rw [AA r _ (fun q hq=>by simpa using hl q (by simp [hq]))]
  simp only [cf]
  cases hr:cf r m with
  |some o=>rfl
  |none=>
   simp only [List.getElem?_set]
   by_cases e:p.1=m
   ·subst e;simp [hl p (by simp)]
   ·simp [e]
theorem oA (st:AS) (dst:Option Nat) (r:Rec):(st.app dst r).heap.length=st.heap.length+r.fresh.length:=by
 simp [AS.app,dB]
theorem N4 (st:AS) (dst:Option Nat) (r:Rec) (hw: ∀p∈r.writes,aq st.heap p.1≠none):aq (st.app dst r).heap=bC r st.heap.length (aq st.heap):=by
 have hl: ∀p∈r.writes,p.1<st.heap.length:=fun p hp=>by
  rcases Nat.lt_or_ge p.1 st.heap.length with h|h
  ·exact h
  ·exact absurd (by rw [bO,List.getElem?_eq_none h];rfl) (hw p hp)
 funext m
 simp only [bC,bO,AS.app]
 by_cases h:st.heap.length<=m/\ m<st.heap.length+r.fresh.length
 ·rw [if_pos h,List.getElem?_append_right (by rw [dB];exact h.1),dB]
 ·rw [if_neg h]
  rcases Nat.lt_or_ge m st.heap.length with h2|h2
  ·rw [List.getElem?_append_left (by rw [dB];exact h2),AA _ _ hl]
   cases cf r.writes m<;>rfl
  ·have hnone:cf r.writes m=none:=by
    have: ∀(ws:List (Nat×aI)),(∀p∈ws,p.1<st.heap.length)->cf ws m=none:=by
     intro ws
     induction ws with
     |nil=>intro _;rfl
     |cons p q ih=>
      intro hh
      simp only [cf,ih (fun x hx=>hh x (by simp [hx]))]
      have:=hh p (by simp)
      rw [if_neg (by omega)]
    exact this _ hl
   rw [hnone,List.getElem?_eq_none (by simp [dB];omega),List.getElem?_eq_none h2]
theorem rQ (l:List AV) (d:Option Nat) (v:AV):(jK l d v).length=l.length:=by cases d<;>simp [jK]
theorem kM (l:List AV) (d:Option Nat) (v:AV) (t:Nat):dM (jK l d v) t=match d with|some d=>(if t=d/\ d<l.length then v else dM l t)|none=>dM l t:=by
 cases d<;>simp [jK,Hl]
section
variable {ax:kz} {W:World} {df:List Deferred} {st:AS} {ρ:Env} {a:Act} {w:World}
theorem qv.eval (h:qv ax W df st ρ a w) (x:Operand) (hx:oP st.tmps x≠ .dead):a.eval x=(oP st.tmps x).af ρ:=by
 cases x with
 |tmp t=>exact h.tmps t hx
 |const v=>exact (wg v ρ).symm
 |global g=>rfl
 |func f=>rfl
theorem qv.Yh (h:qv ax W df st ρ a w) (x:Operand):(oP st.tmps x).ok (· <st.heap.length):=by
 cases x with
 |tmp t=>exact h.kn t
 |const v=>exact C8 _ _
 |global g=>trivial
 |func f=>exact fun r hr=>absurd hr (by simp)
theorem Bd (a:Act) (d:Option Nat) (v:Value):(a.put d v).tmps.size=a.tmps.size:=by cases d<;>simp [Act.put]
theorem put_defers (a:Act) (d:Option Nat) (v:Value):(a.put d v).defers=a.defers:=by cases d<;>rfl
theorem qv.app (h:qv ax W df st ρ a w) {dst:Option Nat} {r:Rec} (hw: ∀p∈r.writes,aq st.heap p.1≠none) {ρ':Env} {w':World} (oS: ∀m,m<st.heap.length->ρ' m=ρ m)
  (NZ:r.val.ok (jO (· <st.heap.length) st.heap.length r)) (hst:St ax W ρ' (jO (· <st.heap.length) st.heap.length r) (bC r st.heap.length (aq st.heap)) w'):
  qv ax W df (st.app dst r) ρ' (a.put dst (r.val.af ρ')) w':=by
 have hkn:jO (· <st.heap.length) st.heap.length r=(· <(st.app dst r).heap.length):=by
  funext m;rw [oA];simp only [jO];apply propext;omega
 rw [hkn,<- N4 st dst r hw] at hst
 rw [hkn] at NZ
 refine ⟨fun t=> ?_,by rw [Bd,h.size];simp [AS.app,rQ],by rw [put_defers,h.defers],fun t=> ?_,hst⟩
 ·rw [Bc]
  simp only [AS.app,kM]
  have hold:dM st.tmps t≠ .dead->a.tmps.getD t undef=(dM st.tmps t).af ρ':=fun hd=>by rw [h.tmps t hd];exact (AV.cg oS _ (h.kn t)).symm
  cases dst with
  |none=>exact hold
  |some d=>
   simp only [h.size]
   split
   ·intro _;rfl
   ·exact hold
 ·have hold:(dM st.tmps t).ok (· <(st.app dst r).heap.length):=AV.bg (fun m hm=>by rw [oA];omega) _ (h.kn t)
  simp only [AS.app,kM]
  cases dst with
  |none=>exact hold
  |some d=>
   dsimp only
   split
   ·exact NZ
   ·exact hold
theorem qv.skip (h:qv ax W df st ρ a w) (dst:Option Nat):qv ax W df {st with tmps:=jK st.tmps dst aX} ρ (a.put dst undef) w:=by
 refine ⟨fun t=> ?_,by rw [Bd,h.size];simp [rQ],by rw [put_defers,h.defers],fun t=> ?_,h.st⟩
 ·rw [Bc]
  simp only [kM]
  cases dst with
  |none=>exact h.tmps t
  |some d=>
   simp only [h.size]
   split
   ·intro _;rfl
   ·exact h.tmps t
 ·simp only [kM]
  cases dst with
  |none=>exact h.kn t
  |some d=>
   dsimp only
   split
   ·exact w4 _
   ·exact h.kn t
def kW (π:List Src) (Γ:HP) (ρ:Env):Env:=fun n=>match π[n]? with
 |some (.same m)=>ρ m
 |some .nil=>match Γ n with
  |some (.row t _ _)=> {es:=t.size}
  |_=> {}
 |some (.cells m len)=>match Γ n with
  |some (.row t _ _)=> {bq:=(ρ m).bq,base:=addrOf ρ m 0,len:=len,cap:=len,es:=t.size}
  |_=> {base:=addrOf ρ m 0,len:=len,cap:=len}
 |some (.mt m off)=>match Γ n with
  |some (.row t _ _)=> {base:=addrOf ρ m off,es:=t.size}
  |_=> {base:=addrOf ρ m off}
 |some (.any m)=>ρ m
 |none=> {}
section
variable {π:List Src} {Γ:HP}
theorem pP {n m:Nat} (h:π[n]? =some (.same m)):kW π Γ ρ n=ρ m:=by simp [kW,h]
theorem bk {n m:Nat} (h:jq π n=some m):kW π Γ ρ n=ρ m/\ n<π.length:=by
 unfold jq at h
 split at h
 ·rename_i m' he
  cases h
  exact ⟨pP he,(List.getElem?_eq_some_iff.1 he).1⟩
 ·cases h
theorem ux: ∀(l m:List Ref),kq π l=some m->l.map (Ref.af (kW π Γ ρ))=m.map (Ref.af ρ)/\ ∀r∈l,r.ok (· <π.length)
 | [],m,h=>by simp only [kq,Option.some.injEq] at h;subst h;simp
 |r::l,m,h=>by
  simp only [kq] at h
  split at h
  ·rename_i q m' h1 h2
   cases h
   obtain ⟨e1,e2⟩:=ux l m' h2
   have h3:r.af (kW π Γ ρ)=q.af ρ/\ r.ok (· <π.length):=by
    cases r with
    |ext v=>simp only [qk,Option.some.injEq] at h1;subst h1;exact ⟨rfl,trivial⟩
    |loc n o=>
     simp only [qk] at h1
     split at h1
     ·rename_i k hk;cases h1
      obtain ⟨e3,e4⟩:=bk (Γ:=Γ) (ρ:=ρ) hk
      exact ⟨by simp [Ref.af,addrOf,e3],e4⟩
     ·cases h1
    |elem n j=>
     simp only [qk] at h1
     split at h1
     ·rename_i k hk;cases h1
      obtain ⟨e3,e4⟩:=bk (Γ:=Γ) (ρ:=ρ) hk
      exact ⟨by simp [Ref.af,e3],e4⟩
     ·cases h1
    |full n=>
     simp only [qk] at h1
     split at h1
     ·rename_i k hk;cases h1
      obtain ⟨e3,e4⟩:=bk (Γ:=Γ) (ρ:=ρ) hk
      exact ⟨by simp [Ref.af,e3],e4⟩
     ·cases h1
    |mp n=>
     simp only [qk] at h1
     split at h1
     ·rename_i k hk;cases h1
      obtain ⟨e3,e4⟩:=bk (Γ:=Γ) (ρ:=ρ) hk
      exact ⟨by simp [Ref.af,e3],e4⟩
     ·cases h1
   refine ⟨by simp [h3.1,e1],fun x hx=> ?_⟩
   rcases List.mem_cons.1 hx with rfl|hx
   ·exact h3.2
   ·exact e2 x hx
  ·cases h
theorem Lo: ∀(c q:Cell),jU π c=some q->c.af (kW π Γ ρ)=q.af ρ/\ c.ok (· <π.length)
 | .raw v,q,h=>by simp only [jU,Option.some.injEq] at h;subst h;exact ⟨rfl,trivial⟩
 | .ptr n o,q,h=>by
  simp only [jU] at h
  split at h
  ·rename_i k hk;cases h
   obtain ⟨e3,e4⟩:=bk (Γ:=Γ) (ρ:=ρ) hk
   exact ⟨by simp [Cell.af,addrOf,e3],e4⟩
  ·cases h
 | .nS n o,q,h=>by
  simp only [jU] at h
  split at h
  ·rename_i k hk;cases h
   obtain ⟨e3,e4⟩:=bk (Γ:=Γ) (ρ:=ρ) hk
   exact ⟨by simp [Cell.af,addrOf,e3],e4⟩
  ·cases h
 | .sl n o l c,q,h=>by
  simp only [jU] at h
  split at h
  ·rename_i k hk;cases h
   obtain ⟨e3,e4⟩:=bk (Γ:=Γ) (ρ:=ρ) hk
   exact ⟨by simp [Cell.af,addrOf,e3],e4⟩
  ·cases h
 | .bD n j z,q,h=>by
  simp only [jU] at h
  split at h
  ·rename_i k hk;cases h
   obtain ⟨e3,e4⟩:=bk (Γ:=Γ) (ρ:=ρ) hk
   exact ⟨by simp [Cell.af,e3],e4⟩
  ·cases h
 | .fK n j z,q,h=>by
  simp only [jU] at h
  split at h
  ·rename_i k hk;cases h
   obtain ⟨e3,e4⟩:=bk (Γ:=Γ) (ρ:=ρ) hk
   exact ⟨by simp [Cell.af,e3],e4⟩
  ·cases h
 | .Cz n,q,h=>by
  simp only [jU] at h
  split at h
  ·rename_i k hk;cases h
   obtain ⟨e3,e4⟩:=bk (Γ:=Γ) (ρ:=ρ) hk
   exact ⟨by simp [Cell.af,e3],e4⟩
  ·cases h
 | .mp n,q,h=>by
  simp only [jU] at h
  split at h
  ·rename_i k hk;cases h
   obtain ⟨e3,e4⟩:=bk (Γ:=Γ) (ρ:=ρ) hk
   exact ⟨by simp [Cell.af,e3],e4⟩
  ·cases h
 | .mv f a rs,q,h=>by
  simp only [jU] at h
  split at h
  ·rename_i k hk;cases h
   obtain ⟨e3,e4⟩:=ux (Γ:=Γ) (ρ:=ρ) _ _ hk
   exact ⟨by simp only [Cell.af,e3],e4⟩
  ·cases h
 | .mB f a cap,q,h=>by
  simp only [jU] at h
  split at h
  ·rename_i k hk;cases h
   obtain ⟨e3,e4⟩:=ux (Γ:=Γ) (ρ:=ρ) _ _ hk
   exact ⟨by simp only [Cell.af,e3],e4⟩
  ·cases h
 | .full n,q,h=>by
  simp only [jU] at h
  split at h
  ·rename_i m he
   cases h
   exact ⟨by simp [Cell.af,pP he],(List.getElem?_eq_some_iff.1 he).1⟩
  ·rename_i he
   cases h
   refine ⟨?_,(List.getElem?_eq_some_iff.1 he).1⟩
   simp only [Cell.af,kW,he]
   split<;>rfl
  ·rename_i m len he
   cases h
   refine ⟨?_,(List.getElem?_eq_some_iff.1 he).1⟩
   simp only [Cell.af,kW,he]
   split<;>rfl
  ·rename_i m off he
   cases h
   refine ⟨?_,(List.getElem?_eq_some_iff.1 he).1⟩
   simp only [Cell.af,kW,he]
   split<;>rfl
  ·rename_i m he
   cases h
   exact ⟨by simp only [Cell.af,kW,he],(List.getElem?_eq_some_iff.1 he).1⟩
  ·cases h
theorem mS: ∀(l m:List Cell),iO π l=some m->l.map (Cell.af (kW π Γ ρ))=m.map (Cell.af ρ)/\ ∀r∈l,r.ok (· <π.length)
 | [],m,h=>by simp only [iO,Option.some.injEq] at h;subst h;simp
 |r::l,m,h=>by
  simp only [iO] at h
  split at h
  ·rename_i q m' h1 h2
   cases h
   obtain ⟨e1,e2⟩:=mS l m' h2
   obtain ⟨e3,e4⟩:=Lo (Γ:=Γ) (ρ:=ρ) _ _ h1
   refine ⟨by simp [e3,e1],fun x hx=> ?_⟩
   rcases List.mem_cons.1 hx with rfl|hx
   ·exact e4
   ·exact e2 x hx
  ·cases h
theorem Ln (a q:A0) (h:JP π a=some q):a.af (kW π Γ ρ)=q.af ρ/\ a.ok (· <π.length):=by
 cases a with
 |one c=>
  simp only [JP] at h
  split at h
  ·rename_i k hk;cases h;exact Lo _ _ hk
  ·cases h
 |agg cs=>
  simp only [JP] at h
  split at h
  ·rename_i k hk;cases h
   obtain ⟨e1,e2⟩:=mS (Γ:=Γ) (ρ:=ρ) _ _ hk
   exact ⟨by simp only [A0.af,e1],e2⟩
  ·cases h
theorem Im: ∀(l m:List A0),iq π l=some m->l.map (A0.af (kW π Γ ρ))=m.map (A0.af ρ)/\ ∀r∈l,r.ok (· <π.length)
 | [],m,h=>by simp only [iq,Option.some.injEq] at h;subst h;simp
 |r::l,m,h=>by
  simp only [iq] at h
  split at h
  ·rename_i q m' h1 h2
   cases h
   obtain ⟨e1,e2⟩:=Im l m' h2
   obtain ⟨e3,e4⟩:=Ln (Γ:=Γ) (ρ:=ρ) _ _ h1
   refine ⟨by simp [e3,e1],fun x hx=> ?_⟩
   rcases List.mem_cons.1 hx with rfl|hx
   ·exact e4
   ·exact e2 x hx
  ·cases h
theorem Lp (a q:AV) (h:uy π a=some q):a.af (kW π Γ ρ)=q.af ρ/\ a.ok (· <π.length):=by
 cases a with
 |v a=>
  simp only [uy] at h
  split at h
  ·rename_i k hk;cases h;exact Ln _ _ hk
  ·cases h
 |r7 l=>
  simp only [uy] at h
  split at h
  ·rename_i k hk;cases h
   obtain ⟨e1,e2⟩:=Im (Γ:=Γ) (ρ:=ρ) _ _ hk
   exact ⟨by simp only [AV.af,e1],e2⟩
  ·cases h
 |dead=>cases h
theorem uR: ∀(l m:List AV),Ja π l m->m.length=l.length/\ ∀t,dM m t= .dead\/ uy π (dM m t)=some (dM l t)
 | [],[],_=>⟨rfl,fun t=> .inr rfl⟩
 |x::r,.dead::s,h=>by
  obtain ⟨h1,h2⟩:=uR r s h
  exact ⟨by simp [h1],fun t=>by cases t with|zero=>exact .inl rfl|succ t=>exact h2 t⟩
 |x::r,.v y::s,h=>by
  obtain ⟨h1,h2⟩:=uR r s h.2
  exact ⟨by simp [h1],fun t=>by cases t with|zero=>exact .inr h.1|succ t=>exact h2 t⟩
 |x::r,.r7 y::s,h=>by
  obtain ⟨h1,h2⟩:=uR r s h.2
  exact ⟨by simp [h1],fun t=>by cases t with|zero=>exact .inr h.1|succ t=>exact h2 t⟩
 | [],_::_,h=>h.elim
 |_::_,[],h=>h.elim
theorem GJ {h0:List aI} : ∀(ss:List Src) (l:List aI),uW π h0 ss l->ss.length=l.length/\ ∀n o,aq l n=some o-> ∃s,ss[n]? =some s/\ C7 π h0 s o
 | [],[],_=>⟨rfl,fun n o ho=>by simp [aq] at ho⟩
 |s::r,o::l,h=>by
  have main:uW π h0 r l->(aq (o::l) 0=some o->C7 π h0 s o)->(s::r).length=(o::l).length/\ ∀n p,aq (o::l) n=some p-> ∃q,(s::r)[n]? =some q/\ C7 π h0 q p:=fun h1 h2=>by
   obtain ⟨e1,e2⟩:=GJ r l h1
   refine ⟨by simp [e1],fun n p hp=> ?_⟩
   cases n with
   |zero=>
    have:p=o:=by
     rw [bO] at hp
     cases o<;>simp_all [live]
    subst this
    exact ⟨s,rfl,h2 hp⟩
   |succ n=>exact e2 n p (by simpa [aq] using hp)
  cases o with
  |gone=>exact main h fun h=>by simp [aq] at h
  |_=>exact main h.2 fun _=>h.1
 | [],_::_,h=>by unfold uW at h;exact h.elim
 |_::_,[],h=>by unfold uW at h;exact h.elim
theorem QD: ∀(ss:List Src) (l:List aI) (n m:Nat) (s:Src),(aq l n).isSome=true->ss[n]? =some s->Dq s=some m->m∈wW ss l
 | [],_,n,m,s,_,h,_=>by simp at h
 |_::_,[],n,m,s,h,_,_=>by simp [aq] at h
 |q::r,o::l,n,m,s,h1,h2,h3=>by
  have tail: ∀k,n=k+1->m∈wW r l:=fun k e=>by
   subst e
   exact QD r l k m s (by simpa [aq] using h1) (by simpa using h2) h3
  cases n with
  |zero=>
   simp only [List.getElem?_cons_zero,Option.some.injEq] at h2
   subst h2
   cases o with
   |gone=>simp [aq] at h1
   |_=>simp [wW,h3]
  |succ n=>
   have:=tail n rfl
   cases o with
   |gone=>exact this
   |_=>simp only [wW];split<;>simp [this]
theorem QC: ∀(ss:List Src) (l:List aI),(wW ss l).Nodup-> ∀n n' m s s',(aq l n).isSome=true->(aq l n').isSome=true->ss[n]? =some s->ss[n']? =some s'->Dq s=some m->Dq s'=some m->n=n'
 | [],_,_,n,_,_,s,_,_,_,h,_,_,_=>by simp at h
 |_::_,[],_,n,_,_,s,_,h,_,_,_,_,_=>by simp [aq] at h
 |q::r,o::l,hn,n,n',m,s,s',h1,h2,h3,h4,h5,h6=>by
  have hz: ∀k,(aq (o::l) 0).isSome=true->Dq q=some m->(aq (o::l) (k+1)).isSome=true-> ∀s,(q::r)[k+1]? =some s->Dq s=some m->False:=fun k g1 g2 g3 s g4 g5=>by
   have:=QD r l k m s (by simpa [aq] using g3) (by simpa using g4) g5
   cases o with
   |gone=>simp [aq] at g1
   |_=>
    simp only [wW,g2] at hn
    exact (List.nodup_cons.1 hn).1 this
  have hr:(wW r l).Nodup:=by
   cases o with
   |gone=>exact hn
   |_=>
    simp only [wW] at hn
    split at hn
    ·exact (List.nodup_cons.1 hn).2
    ·exact hn
  cases n with
  |zero=>
   cases n' with
   |zero=>rfl
   |succ n'=>
    simp only [List.getElem?_cons_zero,Option.some.injEq] at h3
    subst h3
    exact (hz n' h1 h5 h2 s' h4 h6).elim
  |succ n=>
   cases n' with
   |zero=>
    simp only [List.getElem?_cons_zero,Option.some.injEq] at h4
    subst h4
    exact (hz n h2 h6 h1 s h3 h5).elim
   |succ n'=>
    rw [QC r l hr n n' m s s' (by simpa [aq] using h1) (by simpa [aq] using h2) (by simpa using h3) (by simpa using h4) h5 h6]
theorem vM: ∀(n:Nat),CV π n=true-> ∀m,m<n->π[m]? =some (.same m)
 |0,_,m,hm=>by omega
 |n+1,h,m,hm=>by
  simp only [CV,Bool.and_eq_true] at h
  by_cases e:m=n
  ·subst e
   have h1:=h.1
   split at h1
   ·rename_i k hk
    rw [hk];simp at h1;rw [h1]
   ·cases h1
  ·exact vM n h.2 m (by omega)
end
theorem P7 {π:List Src} {g c:Nat} {es:Array MapEntry} {dI:Nat} {ka:Bool} {k u:Ty} {l:List (k.T×List u.T)} {cur:Option (k.T×Nat)} {p:aI} (h:gg π (.xq g c es dI ka k u l cur)=some p):
  ∃m d cur',jq π g=some m/\ jq π c=some d/\ (∀q,cur=some q-> ∃q',jq π q.2=some q'/\ cur'=some (q.1,q'))/\ p= .xq m d es dI ka k u l cur':=by
 simp only [gg] at h
 cases h1:jq π g with
 |none=>rw [h1] at h;cases h
 |some m=>
  cases h2:jq π c with
  |none=>rw [h1,h2] at h;cases h
  |some d=>
   rw [h1,h2] at h
   cases cur with
   |none=>
    cases h
    exact ⟨m,d,none,rfl,rfl,fun q hq=>(by cases hq),rfl⟩
   |some q=>
    obtain ⟨a,q⟩:=q
    dsimp only at h
    cases h3:jq π q with
    |none=>rw [h3] at h;cases h
    |some q'=>
     rw [h3] at h
     cases h
     exact ⟨m,d,_,rfl,rfl,fun p hp=>(by cases hp;exact ⟨q',h3,rfl⟩),rfl⟩
theorem qv.adr (h:qv ax W df st ρ a w) {st':AS} {π:List Src} (hw:Ren π st st'):qv ax W df st' (kW π (aq st'.heap) ρ) a w:=by
 obtain ⟨hl,ht⟩:=uR _ _ hw.tmps
 obtain ⟨yy,hh⟩:=GJ _ _ hw.heap
 have zq:=kL hw.inj
 let ρ':=kW π (aq st'.heap) ρ
 have hlt: ∀n o,aq st'.heap n=some o->n<st'.heap.length:=fun n o ho=>by
  rcases Nat.lt_or_ge n st'.heap.length with hn|hn
  ·exact hn
  ·simp [aq,List.getElem?_eq_none hn] at ho
 have hsrc: ∀n b,(aq st'.heap n).isSome=true->(ρ' n).has b-> ∃s m,π[n]? =some s/\ Dq s=some m/\ (aq st.heap m).isSome=true/\ (ρ m).has b:=fun n b hn hb=>by
  obtain ⟨o,ho⟩:=Option.isSome_iff_exists.1 hn
  obtain ⟨s,hs,mK⟩:=hh n o ho
  cases s with
  |same m=>
   obtain ⟨p,hp,_⟩:=mK
   refine ⟨_,m,hs,rfl,by simp [hp],?_⟩
   rw [<- show ρ' n=ρ m from pP hs];exact hb
  |nil=>
   obtain ⟨t,rk,rfl,_⟩:=mK
   simp only [ρ',kW,hs,ho] at hb;exact absurd (jI.1 hb) (fun h=>by cases h)
  |mt m off=>
   obtain ⟨t,cs,e,rfl,_⟩:=mK
   simp only [ρ',kW,hs,ho] at hb;exact absurd (jI.1 hb) (fun h=>by cases h)
  |any m=>
   obtain ⟨t,l,rk,rfl,hp,_⟩:=mK
   simp only [ρ',kW,hs] at hb
   exact ⟨_,m,hs,rfl,by simp [hp],hb⟩
  |cells m len=>
   obtain ⟨t,l,cs,e,rk,rfl,_,hp,_⟩:=mK
   simp only [ρ',kW,hs,ho] at hb
   exact ⟨_,m,hs,rfl,by simp [hp],.inl (jI.1 hb)⟩
 have yf: ∀b,HI (aq st'.heap) b->HI (aq st.heap) b:=fun b ⟨n,S,h1,h2⟩=>by
  obtain ⟨s,hs,mK⟩:=hh n _ h1
  cases s with
  |same m=>
   obtain ⟨p,hp,hr⟩:=mK
   simp only [gg,Option.some.injEq] at hr
   subst hr
   exact ⟨m,S,hp,h2⟩
  |nil=>obtain ⟨_,_,e,_⟩:=mK;cases e
  |mt m off=>obtain ⟨_,_,_,e,_⟩:=mK;cases e
  |any m=>obtain ⟨_,_,_,e,_⟩:=mK;cases e
  |cells m len=>obtain ⟨_,_,_,_,_,e,_⟩:=mK;cases e
 have hfz: ∀b,gW ρ (aq st.heap) w b->gW ρ' (aq st'.heap) w b/\ w.heap[b]? =w.heap[b]? :=fun b hb=>by
  refine ⟨⟨hb.1,?_⟩,rfl⟩
  rintro (⟨n,h1,h2⟩|⟨n,S,h1,h2⟩)
  ·obtain ⟨s,m,_,_,h5,h6⟩:=hsrc n b h1 h2
   exact hb.2 (.inl ⟨m,h5,h6⟩)
  ·exact hb.2 (.inr (yf b ⟨n,S,h1,h2⟩))
 show qv ax W df st' ρ' a w
 refine ⟨fun t hd=> ?_,by rw [h.size,hl],h.defers,fun t=> ?_,⟨h.st.fr,fun n o ho=> ?_,fun n o ho=> ?_,fun n n' b hn hn' hb hb'=> ?_,fun n b hn hb=> ?_,fun b CZ=> ?_,fun n o ho=> ?_⟩⟩
 rotate_right
 ·obtain ⟨s,hs,mK⟩:=hh n o ho
  cases s with
  |same m=>
   obtain ⟨p,hp,hr⟩:=mK
   rw [show ρ' n=ρ m from pP hs]
   rcases h.st.yl m p hp with ⟨g,rfl⟩|he
   ·cases o with
    |set g'=>exact .inl ⟨_,rfl⟩
    |_=>
     simp only [gg] at hr
     first
     |(cases hr;done)
     |(split at hr<;>cases hr)
     |(split at hr<;>first|(cases hr;done)|(split at hr<;>cases hr))
   ·exact .inr he
  |nil=>
   obtain ⟨t,rk,rfl,_⟩:=mK
   exact .inr (by simp only [ρ',kW,hs,ho])
  |mt m off=>
   obtain ⟨t,cs,e,rfl,_⟩:=mK
   exact .inr (by simp only [ρ',kW,hs,ho])
  |any m=>
   obtain ⟨t,l,rk,rfl,hp,_⟩:=mK
   refine .inr ?_
   simp only [ρ',kW,hs]
   exact (h.st.yl m _ hp).elim (fun ⟨_,e⟩=>by cases e) id
  |cells m len=>
   obtain ⟨t,l,cs,e,rk,rfl,_⟩:=mK
   exact .inr (by simp only [ρ',kW,hs,ho])
 rotate_right
 ·obtain ⟨h1,h2⟩:=h.st.zo b (yf b CZ)
  refine ⟨h1,?_⟩
  rintro ⟨n,h3,h4⟩
  obtain ⟨s,m,_,_,h5,h6⟩:=hsrc n b h3 h4
  exact h2 ⟨m,h5,h6⟩
 ·rcases ht t with e|e
  ·exact absurd e hd
  ·have hne:dM st.tmps t≠ .dead:=fun e2=>by
    rw [e2] at e
    revert e;cases dM st'.tmps t<;>simp only [uy]<;>(try split)<;>intro e<;>cases e
   rw [h.tmps t hne]
   exact (Lp _ _ e).1.symm
 ·rcases ht t with e|e
  ·rw [e];trivial
  ·rw [<- yy];exact (Lp (Γ:=aq st'.heap) (ρ:=ρ) _ _ e).2
 ·obtain ⟨s,hs,mK⟩:=hh n o ho
  cases s with
  |same m=>
   obtain ⟨p,hp,hr⟩:=mK
   have hn:ρ' n=ρ m:=pP hs
   have br:=h.st.at_ m p hp
   cases o with
   |cells cs e=>
    simp only [gg] at hr
    split at hr
    ·rename_i q hq
     cases hr
     obtain ⟨b,hb,hhp⟩:=br
     exact ⟨b,by rw [hn];exact hb,by rw [hhp,(mS (Γ:=aq st'.heap) (ρ:=ρ) _ _ hq).1]⟩
    ·cases hr
   |row t l rk=>
    simp only [gg,Option.some.injEq] at hr
    subst hr
    obtain ⟨o1,o2,o3,sub,o4⟩:=br
    rw [bh,hn]
    exact ⟨o1,o2,o3,sub,o4.keep hfz (fun _ _ h=>h) fun _ _=>rfl⟩
   |alias k z q=>
    simp only [gg] at hr
    split at hr
    ·rename_i k' hk
     cases hr
     have:=(bk (Γ:=aq st'.heap) (ρ:=ρ) hk).1
     rw [bh,hn,show ρ' k=ρ k' from this]
     exact br
    ·cases hr
   |gone=>cases hr
   |loop r z j=>
    simp only [gg,Option.some.injEq] at hr
    subst hr
    obtain ⟨b,hb,hhp⟩:=br
    exact ⟨b,by rw [hn];exact hb,hhp⟩
   |cK S=>
    simp only [gg,Option.some.injEq] at hr
    subst hr
    rw [bh,hn];exact br
   |map ka va kt vt l=>
    simp only [gg,Option.some.injEq] at hr
    subst hr
    rw [bh,hn];exact br
   |gU jD n0=>
    simp only [gg] at hr
    split at hr
    ·rename_i hf
     cases hr
     exact ⟨by rw [hn];exact br.1,fun i hi=>by rw [show ρ' i=ρ i from pP (vM n0 hf i hi)];exact br.2 i hi⟩
    ·cases hr
   |dp t l c s0 kn=>
    simp only [gg] at hr
    split at hr
    ·rename_i c' hc
     cases hr
     have:=(bk (Γ:=aq st'.heap) (ρ:=ρ) hc).1
     rw [bh,hn,show ρ' c=ρ c' from this]
     exact br
    ·cases hr
   |nv g c j q u=>
    simp only [gg] at hr
    split at hr
    ·rename_i g' c' hg hc
     cases hr
     have e:=(bk (Γ:=aq st'.heap) (ρ:=ρ) hc).1
     have e':=(bk (Γ:=aq st'.heap) (ρ:=ρ) hg).1
     rw [bh,hn,show ρ' c=ρ c' from e,show ρ' g=ρ g' from e'];exact br
    ·cases hr
   |oQ ka k u l c q=>
    simp only [gg] at hr
    split at hr
    ·rename_i c' hc
     cases hr
     have e:=(bk (Γ:=aq st'.heap) (ρ:=ρ) hc).1
     rw [bh,hn,show ρ' c=ρ c' from e];exact br
    ·cases hr
   |set g=>
    simp only [gg] at hr
    split at hr
    ·cases hr
     rw [bh,hn];exact br
    ·cases hr
   |gv g c k u x l=>
    simp only [gg] at hr
    split at hr
    ·rename_i g' c' hg hc
     cases hr
     have e:=(bk (Γ:=aq st'.heap) (ρ:=ρ) hc).1
     rw [bh,hn,show ρ' c=ρ c' from e];exact br
    ·cases hr
   |rc cs=>
    simp only [gg] at hr
    split at hr
    ·rename_i q hq
     cases hr
     rw [bh,hn]
     refine ⟨br.1,fun i c hc=> ?_⟩
     have e:=(mS (Γ:=aq st'.heap) (ρ:=ρ) _ _ hq).1
     have e1:(cs.map (Cell.af ρ'))[i]? =some (c.af ρ'):=by rw [List.getElem?_map,hc];rfl
     rw [show cs.map (Cell.af ρ')=q.map (Cell.af ρ) from e,List.getElem?_map] at e1
     obtain ⟨d,hd,e2⟩:=Option.map_eq_some_iff.1 e1
     rw [<- e2]
     obtain ⟨a,h1,h2,h3⟩:=br.2 i d hd
     exact ⟨a,h1,h2,(hfz _ h3).1⟩
    ·cases hr
   |hmap es dI=>
    simp only [gg,Option.some.injEq] at hr
    subst hr
    rw [bh,hn];exact br
   |xq g c es dI ka k u l cur=>
    have key: ∀(m' d:Nat) (cur':Option (k.T×Nat)),jq π g=some m'->jq π c=some d->(∀q,cur=some q-> ∃q',jq π q.2=some q'/\ cur'=some (q.1,q'))->bh (gW ρ (aq st.heap) w) (Fh ax W) ρ m (.xq m' d es dI ka k u l cur') w->bh (gW ρ' (aq st'.heap) w) (Fh ax W) ρ' n (.xq g c es dI ka k u l cur) w:=by
     intro m' d cur' hg hc ahU br
     have e1:ρ' g=ρ m':=(bk (Γ:=aq st'.heap) (ρ:=ρ) hg).1
     have e2:ρ' c=ρ d:=(bk (Γ:=aq st'.heap) (ρ:=ρ) hc).1
     rw [bh] at br
     rw [bh,hn,e1,e2]
     obtain ⟨a1,a2,a3,b,since,seen,c0,a4,a5,a6,a7,a8,a9,a10,a11⟩:=br
     refine ⟨a1,a2,a3,b,since,seen,c0,a4,a5,a6,a7,a8,a9,a10,fun q hq=> ?_⟩
     obtain ⟨q',h1,h2⟩:=ahU q hq
     have e3:ρ' q.2=ρ q':=(bk (Γ:=aq st'.heap) (ρ:=ρ) h1).1
     rw [e3]
     exact a11 _ h2
    obtain ⟨m',d,cur',h1,h2,h3,rfl⟩:=P7 hr
    exact key m' d cur' h1 h2 h3 br
  |nil=>
   obtain ⟨t,rk,rfl,rE⟩:=mK
   have e:ρ' n= {es:=t.size} :=by simp only [ρ',kW,hs,ho]
   rw [bh,e]
   exact ⟨rfl,rfl,Nat.le_refl _,fun _=>(none,0),fun i v hv=>by simp [ak,aD] at hv,fun q u l' hq=>by simp [ak] at hq,fun e=>absurd e rE,fun _=> .inl ⟨rfl,rfl,rfl,fun _=>rfl⟩⟩
  |mt m off=>
   obtain ⟨t,cs,e,rfl,hp⟩:=mK
   have e1:ρ' n= {base:=addrOf ρ m off,es:=t.size} :=by simp only [ρ',kW,hs,ho]
   rw [bh,e1]
   exact ⟨rfl,rfl,Nat.le_refl _,fun _=>(none,0),fun i v hv=>by simp [ak,aD] at hv,fun q u l' hq=>by simp [ak] at hq,fun e=>(by cases e),fun _=> .inl ⟨rfl,rfl,rfl,fun q=>absurd rfl q⟩⟩
  |any m=>
   obtain ⟨t,l,rk,rfl,hp,rE⟩:=mK
   have e1:ρ' n=ρ m:=by simp only [ρ',kW,hs]
   obtain ⟨o1,o2,o3,sub,o4⟩:=h.st.at_ m _ hp
   obtain ⟨m1,m2,m3,m4⟩:=o4.keep (fz':=gW ρ' (aq st'.heap) w) (pm':=Fh ax W) hfz (fun _ _ h=>h) fun _ _=>rfl
   rw [bh,e1]
   exact ⟨o1,o2,o3,sub,fun i v hv=>by
    obtain ⟨a,h1,h2,_⟩:=m1 i v hv
    exact ⟨a,h1,h2,fun e=>by cases e⟩,fun q u l' hq=>(m2 q u l' hq).mono fun b hb=>⟨⟨hb.1,fun e=>by cases e⟩,rfl⟩,fun e=>(by cases e),fun _=>(m4 rE).any⟩
  |cells m len=>
   obtain ⟨t,l,cs,e,rk,rfl,rE,hp,hf,hd,VP⟩:=mK
   obtain ⟨b,hb,hhp⟩:=h.st.at_ m _ hp
   have e1:ρ' n= {bq:=some b,base:=some ⟨b,0,none⟩,len:=len,cap:=len,es:=t.size} :=by simp only [ρ',kW,hs,ho,addrOf,hb,Option.map_some]
   obtain ⟨hll,ys,r,hy,hyl,hal⟩:=Vt (ju hf) _ _ _ _ hd
   have hr:r= []:=List.eq_nil_of_length_eq_zero (by have:=congrArg List.length hy;rw [List.length_append] at this;omega)
   subst hr
   rw [List.append_nil] at hy
   have hal:=hal KS w ρ (fun _=>False) (fun _=>none) w (fun _ hm=>by cases hm) (St.none w ρ)
   rw [<- hy] at hal
   obtain ⟨s1,s2⟩:=mY hal
   rw [bh,e1]
   refine ⟨hll.symm,rfl,by rw [hll];exact Nat.le_refl _,u9 (cs.map (Cell.af ρ)),fun i v hv=>⟨_,rfl,?_,fun e=>(by rcases rE with rfl|rfl<;>cases e)⟩,fun q u l' hq=> ?_,fun e=>(by rcases rE with rfl|rfl<;>cases e),fun _=>gV.new (.inr ⟨b,[],e,rfl,rfl,by rw [s1,List.append_nil];exact hhp,?_⟩)⟩
   ·rw [s1] at hv
    have e2:(⟨b,0,none⟩:Addr).add i=⟨b,i,none⟩:=by unfold Addr.add;split<;>simp_all
    rw [e2,bF hhp];exact hv
   ·obtain ⟨v,hv⟩:=dk hf (List.mem_of_getElem? hq)
    cases hv
   ·exact ⟨by rw [s1,List.append_nil];simp [VP.1],Nat.le_trans (Nat.le_of_ble_eq_true VP.2) (by decide)⟩
 ·obtain ⟨s,hs,mK⟩:=hh n o ho
  refine ⟨hlt n o ho,?_⟩
  cases s with
  |same m=>
   obtain ⟨p,hp,hr⟩:=mK
   cases o with
   |cells cs e=>
    simp only [gg] at hr
    split at hr
    ·rename_i q hq
     rw [<- yy];exact (mS (Γ:=aq st'.heap) (ρ:=ρ) _ _ hq).2
    ·cases hr
   |alias k z q=>
    simp only [gg] at hr
    split at hr
    ·rename_i k' hk
     rw [<- yy];exact (bk (Γ:=aq st'.heap) (ρ:=ρ) hk).2
    ·cases hr
   |gU jD n0=>
    simp only [gg] at hr
    split at hr
    ·rename_i hf
     intro i hi
     rw [<- yy];exact (List.getElem?_eq_some_iff.1 (vM n0 hf i hi)).1
    ·cases hr
   |oQ ka k u l c q=>
    simp only [gg] at hr
    split at hr
    ·rename_i c' hc
     rw [<- yy];exact (bk (Γ:=aq st'.heap) (ρ:=ρ) hc).2
    ·cases hr
   |set g=>
    simp only [gg] at hr
    split at hr
    ·rename_i c' hc
     rw [<- yy];exact (bk (Γ:=aq st'.heap) (ρ:=ρ) hc).2
    ·cases hr
   |dp t l c=>
    simp only [gg] at hr
    split at hr
    ·rename_i c' hc
     rw [<- yy];exact (bk (Γ:=aq st'.heap) (ρ:=ρ) hc).2
    ·cases hr
   |gv g c k u x l=>
    simp only [gg] at hr
    split at hr
    ·rename_i g' c' hg hc
     rw [<- yy];exact ⟨(bk (Γ:=aq st'.heap) (ρ:=ρ) hg).2,(bk (Γ:=aq st'.heap) (ρ:=ρ) hc).2⟩
    ·cases hr
   |nv g c j q u=>
    simp only [gg] at hr
    split at hr
    ·rename_i g' c' hg hc
     rw [<- yy];exact ⟨(bk (Γ:=aq st'.heap) (ρ:=ρ) hg).2,(bk (Γ:=aq st'.heap) (ρ:=ρ) hc).2⟩
    ·cases hr
   |rc cs=>
    simp only [gg] at hr
    split at hr
    ·rename_i q hq
     rw [<- yy];exact (mS (Γ:=aq st'.heap) (ρ:=ρ) _ _ hq).2
    ·cases hr
   |xq g c es dI ka k u l cur=>
    obtain ⟨m',d,cur',h1,h2,h3,rfl⟩:=P7 hr
    rw [<- yy]
    exact ⟨(bk (Γ:=aq st'.heap) (ρ:=ρ) h1).2,(bk (Γ:=aq st'.heap) (ρ:=ρ) h2).2,fun p hp=>by
     obtain ⟨q',h4,_⟩:=h3 p hp
     exact (bk (Γ:=aq st'.heap) (ρ:=ρ) h4).2⟩
   |_=>trivial
  |nil=>obtain ⟨t,rk,rfl,_⟩:=mK;trivial
  |mt m off=>obtain ⟨t,cs,e,rfl,_⟩:=mK;trivial
  |any m=>obtain ⟨t,l,rk,rfl,_⟩:=mK;trivial
  |cells m len=>obtain ⟨t,l,cs,e,rk,rfl,_⟩:=mK;trivial
 ·obtain ⟨s,m,h1,h2,h3,h4⟩:=hsrc n b hn hb
  obtain ⟨s',m',h1',h2',Rl,VL⟩:=hsrc n' b hn' hb'
  have:=h.st.dK m m' b h3 Rl h4 VL
  subst this
  exact QC _ _ zq n n' m s s' hn hn' h1 h1' h2 h2'
 ·obtain ⟨s,m,h1,h2,h3,h4⟩:=hsrc n b hn hb
  exact h.st.oF m b h3 h4
theorem qv.weak (h:qv ax W df st ρ a w) {st':AS} (hw:vn st st'): ∃ρ',qv ax W df st' ρ' a w:=by
 obtain ⟨π,hw⟩:=hw
 exact ⟨_,h.adr hw⟩
theorem qv.drawn (h:qv ax W df st ρ a w) (n:Nat) (hn:w.drawn<=n):qv ax W df st ρ a {w with drawn:=n} :=⟨h.tmps,h.size,h.defers,h.kn,h.st.drawn n hn⟩
theorem qv.yielded (h:qv ax W df st ρ a w) {ops:Array Oper} {j d:Nat} (hd:DG ops j=some d) {x:Bool} (hx:dM st.tmps d=cl x):yielded ops a.tmps j=some x:=by
 have h1:=h.tmps d (by rw [hx];simp [cl])
 rw [hx] at h1
 have e1:(ops[j]?).bind (·.dst)=some d:=by
  unfold DG at hd;split at hd
  ·rename_i o ho;simp [ho,hd]
  ·cases hd
 have e2:a.tmps[d]? =some (.bool x):=by
  rw [Array.getD_eq_getD_getElem?] at h1
  cases hq:a.tmps[d]? with
  |none=>rw [hq] at h1;cases h1
  |some v=>rw [hq] at h1;exact congrArg some h1
 simp [Go.yielded,e1,e2]
theorem qv.QK (h:qv ax W df st ρ a w) {ops:Array Oper} {j d:Nat} (hd:DG ops j=some d) (hx:dM st.tmps d= .r7 []):Go.yielded ops a.tmps j=none:=by
 have h1:=h.tmps d (by rw [hx];simp)
 rw [hx] at h1
 have e1:(ops[j]?).bind (·.dst)=some d:=by
  unfold DG at hd;split at hd
  ·rename_i o ho;simp [ho,hd]
  ·cases hd
 rw [Array.getD_eq_getD_getElem?] at h1
 cases hq:a.tmps[d]? with
 |none=>simp [Go.yielded,e1,hq]
 |some v=>
  rw [hq] at h1
  have e:v= .tuple #[]:=h1
  subst e
  simp [Go.yielded,e1,hq]
end
section
variable {P:Program} {ctx:Ctx} {ax:kz} {W:World} {df:List Deferred} {ro:Option Nat} {n:Nat} {Q:Exit->Act->World->Prop}
theorem I5 {o:Op} {st:AS} {k:Rec->Prop} (h:sW ctx o st k):(∀x∈o.operands,oP st.tmps x≠ .dead)/\ R7 ctx o (oP st.tmps) (aq st.heap) st.heap.length k:=by
 unfold sW at h
 split at h
 ·rename_i hn
  refine ⟨fun x hx e=> ?_,h⟩
  have:=List.all_eq_true.1 hn x (Array.mem_toList_iff.2 hx)
  rw [e] at this;simp [AV.YW] at this
 ·exact h.elim
theorem abX (hT:aU P ctx.tt) (hS:qx P ctx) (hX:Dy ax W ctx.X) {st:AS} {ρ:Env} {a:Act} {w:World} (br:qv ax W df st ρ a w) {o:Oper} {k:Rec->Prop}
  (h:sW ctx o.op st k) {next:Act->World->Prop}
  (hn: ∀r,k r-> ∀ρ' a' w',qv ax W df (st.app o.dst r) ρ' a' w'->next a' w'):o.wpIn (fw ro) n P a w next Q:=by
 obtain ⟨zq,h⟩:=I5 h
 refine agK hT hS h ro n ax W ρ w a next Q hX (fun x hx=>br.eval x (zq x hx)) (fun x _=>br.Yh x) br.st ?_
 intro r ρ' w' hk hw oS NZ hst
 exact hn r hk ρ' _ w' (br.app hw oS NZ hst)
theorem mO (hT:aU P ctx.tt) (hS:qx P ctx) (hX:Dy ax W ctx.X) (all:Array Oper): ∀(l:List Oper) (dec:List Nat) (st:AS) (lg:List ow) (K:AS->List ow->Prop),qd ctx all l dec st lg K->
  (∀st' lg' ρ' a' w',K st' lg'->qv ax W df st' ρ' a' w'->Q .normal a' w')-> ∀ρ a w,qv ax W df st ρ a w->wpListIn (fw ro) n P all Q l a w
 | [],dec,st,lg,K,h,hK,ρ,a,w,br=>hK st lg ρ a w h br
 |o::rest,dec,st,lg,K,h,hK,ρ,a,w,br=>by
  have exec: ∀(st:AS) (Gh:List Nat) (lg':Rec->List ow),qv ax W df st ρ a w->sW ctx o.op st (fun r=>qd ctx all rest Gh (st.app o.dst r) (lg' r) K)->
    o.wpIn (fw ro) n P a w (wpListIn (fw ro) n P all Q rest) Q:=by
   intro st Gh lg' br h
   exact abX hT hS hX br h fun r hr ρ' a' w' mC=>mO hT hS hX all rest Gh _ _ K hr hK ρ' a' w' mC
  unfold qd at h
  split at h
  ·rename_i hg
   show if Region.wanted o (Go.yielded all a.tmps) then _ else _
   rw [if_pos (by simp [Region.wanted,hg])]
   exact exec st dec _ br h
  ·rename_i j want hg
   split at h
   ·rename_i d hd
    split at h
    ·rename_i x hx
     have hy:Go.yielded all a.tmps j=some x:=br.yielded hd hx
     have hw:Region.wanted o (Go.yielded all a.tmps)=(x==want):=by
      simp only [Region.wanted,hg,hy];cases x<;>cases want<;>rfl
     show if Region.wanted o (Go.yielded all a.tmps) then _ else _
     rw [hw]
     split at h
     ·split at h
      ·rename_i e;subst e
       rw [if_pos (by simp)]
       exact exec st dec _ br h
      ·rename_i e
       rw [if_neg (by simpa using e)]
       exact ⟨fun _ _=>trivial,mO hT hS hX all rest _ _ _ K h hK ρ _ w (br.skip o.dst)⟩
     ·cases want with
      |true=>
       dsimp only at h
       cases x with
       |true=>
        have h:sW ctx o.op {st with tmps:=st.tmps.set d (cl true)} _:=h
        rw [if_pos (by rfl)]
        rw [oq hx] at h
        exact exec st _ _ br h
       |false=>
        have h:qd ctx all rest (d::dec) {st with tmps:=jK (st.tmps.set d (cl false)) o.dst aX} (lg++ [nx st.heap.length]) K:=h
        rw [if_neg (by simp)]
        rw [oq hx] at h
        exact ⟨fun _ _=>trivial,mO hT hS hX all rest _ _ _ K h hK ρ _ w (br.skip o.dst)⟩
      |false=>
       dsimp only at h
       cases x with
       |false=>
        have h:sW ctx o.op {st with tmps:=st.tmps.set d (cl false)} _:=h
        rw [if_pos (by rfl)]
        rw [oq hx] at h
        exact exec st _ _ br h
       |true=>
        have h:qd ctx all rest (d::dec) {st with tmps:=jK (st.tmps.set d (cl true)) o.dst aX} (lg++ [nx st.heap.length]) K:=h
        rw [if_neg (by simp)]
        rw [oq hx] at h
        exact ⟨fun _ _=>trivial,mO hT hS hX all rest _ _ _ K h hK ρ _ w (br.skip o.dst)⟩
    ·rename_i hx
     have hy:Go.yielded all a.tmps j=none:=br.QK hd hx
     show if Region.wanted o (Go.yielded all a.tmps) then _ else _
     rw [if_neg (by simp [Region.wanted,hg,hy])]
     exact ⟨fun _ _=>trivial,mO hT hS hX all rest _ _ _ K h hK ρ _ w (br.skip o.dst)⟩
    ·exact h.elim
   ·exact h.elim
end
end Go.Ev
