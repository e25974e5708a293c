/- Regions in the text's order; code. -/
import Derived.Test.YtngdehlpoomaiaaGreatEvE
import Derived.TacticsIn
noncomputable section
set_option linter.unusedSectionVars false
set_option linter.unusedVariables false
set_option linter.unusedSimpArgs false
namespace Go.Ev
open Go.RowKit
structure kJ (au:eW) (W:World) (df:List Deferred) (st:AS) (ρ:Env) (a:Act) (w:World):Prop where
 tmps: ∀t,bP st.tmps t≠ .dead->a.tmps.getD t undef=(bP st.tmps t).ae ρ
 size:a.tmps.size=st.tmps.length
 defers:a.defers=df
 kn: ∀t,(bP st.tmps t).ok (· <st.heap.length)
 st:St au W ρ (· <st.heap.length) (aj st.heap) w
theorem pW: ∀(l:List AV) (t:Nat),bP l t=l.getD t bU
 | [],t=>by simp [bP]
 |a::r,0=>rfl
 |a::r,t+1=>by simp [bP,pW r t]
theorem eN (l:List AV) (d t:Nat) (v:AV):bP (l.set d v) t=if t=d/\ d<l.length then v else bP l t:=by
 simp only [pW,List.getD,List.getElem?_set]
 by_cases h:d=t
 ·subst h
  by_cases h2:d<l.length
  ·simp [h2]
  ·simp [h2]
 ·simp [h,Ne.symm h]
theorem mC {l:List AV} {d:Nat} {x:Bool} (h:bP l d=bD x):l.set d (bD x)=l:=by
 apply List.ext_getElem?
 intro j
 rw [List.getElem?_set]
 split
 ·rename_i e;subst e
  rw [pW,List.getD] at h
  split
  ·rename_i hl
   rw [List.getElem?_eq_getElem hl] at h ⊢
   simpa using h.symm
  ·rename_i hl
   rw [List.getElem?_eq_none (Nat.le_of_not_lt hl)]
 ·rfl
theorem iF (a:Act) (dst:Option Nat) (v:Value) (t:Nat):(a.put dst v).tmps.getD t undef=match dst with|some d=>(if t=d/\ d<a.tmps.size then v else a.tmps.getD t undef)|none=>a.tmps.getD t undef:=by
 cases dst with
 |none=>rfl
 |some d=>
  simp only [Act.put,Array.getD_eq_getD_getElem?,Array.getElem?_setIfInBounds]
  by_cases h:d=t
  ·subst h
   by_cases h2:d<a.tmps.size
   ·simp [h2]
   ·simp [h2]
  ·simp [h,Ne.symm h]
theorem dw: ∀(ws:List (Nat×aG)) (h:List aG),(ws.foldl (fun h p=>h.set p.1 p.2) h).length=h.length
 | [],_=>rfl
 |p::r,h=>by simp only [List.foldl_cons];rw [dw r];simp
theorem zq: ∀(ws:List (Nat×aG)) (h:List aG),(∀p∈ws,p.1<h.length)-> ∀m,(ws.foldl (fun h p=>h.set p.1 p.2) h)[m]? =match bV ws m with|some o=>some o|none=>h[m]?
 | [],_,_,m=>by simp [bV]
 |p::r,h,hl,m=>by
  simp only [List.foldl_cons]
  rw [zq r _ (fun q hq=>by simpa using hl q (by simp [hq]))]
  simp only [bV]
  cases hr:bV r m with
  |some o=>rfl
  |none=>
   simp only [List.getElem?_set]
   by_cases e:p.1=m
   ·subst e;simp [hl p (by simp)]
   ·simp [e]
theorem mH (st:AS) (dst:Option Nat) (r:Rec):(st.app dst r).heap.length=st.heap.length+r.fresh.length:=by
 simp [AS.app,dw]
theorem Nw (st:AS) (dst:Option Nat) (r:Rec) (hw: ∀p∈r.writes,aj st.heap p.1≠none):aj (st.app dst r).heap=bO r st.heap.length (aj st.heap):=by
 have hl: ∀p∈r.writes,p.1<st.heap.length:=fun p hp=>by
  rcases Nat.lt_or_ge p.1 st.heap.length with h|h
  ·exact h
  ·exact absurd (by rw [br,List.getElem?_eq_none h];rfl) (hw p hp)
 funext m
 simp only [bO,br,AS.app]
 by_cases h:st.heap.length<=m/\ m<st.heap.length+r.fresh.length
 ·rw [if_pos h,List.getElem?_append_right (by rw [dw];exact h.1),dw]
 ·rw [if_neg h]
  rcases Nat.lt_or_ge m st.heap.length with h2|h2
  ·rw [List.getElem?_append_left (by rw [dw];exact h2),zq _ _ hl]
   cases bV r.writes m<;>rfl
  ·have hnone:bV r.writes m=none:=by
    have: ∀(ws:List (Nat×aG)),(∀p∈ws,p.1<st.heap.length)->bV ws m=none:=by
     intro ws
     induction ws with
     |nil=>intro _;rfl
     |cons p q ih=>
      intro hh
      simp only [bV,ih (fun x hx=>hh x (by simp [hx]))]
      have:=hh p (by simp)
      rw [if_neg (by omega)]
    exact this _ hl
   rw [hnone,List.getElem?_eq_none (by simp [dw];omega),List.getElem?_eq_none h2]
theorem qx (l:List AV) (d:Option Nat) (v:AV):(jb l d v).length=l.length:=by cases d<;>simp [jb]
theorem jJ (l:List AV) (d:Option Nat) (v:AV) (t:Nat):bP (jb l d v) t=match d with|some d=>(if t=d/\ d<l.length then v else bP l t)|none=>bP l t:=by
 cases d<;>simp [jb,eN]
section
variable {au:eW} {W:World} {df:List Deferred} {st:AS} {ρ:Env} {a:Act} {w:World}
theorem kJ.eval (h:kJ au W df st ρ a w) (x:Operand) (hx:cr st.tmps x≠ .dead):a.eval x=(cr st.tmps x).ae ρ:=by
 cases x with
 |tmp t=>exact h.tmps t hx
 |const v=>exact (oG v ρ).symm
 |global g=>rfl
 |func f=>rfl
theorem kJ.LV (h:kJ au W df st ρ a w) (x:Operand):(cr st.tmps x).ok (· <st.heap.length):=by
 cases x with
 |tmp t=>exact h.kn t
 |const v=>exact u7 _ _
 |global g=>trivial
 |func f=>exact fun r hr=>absurd hr (by simp)
theorem mB (a:Act) (d:Option Nat) (v:Value):(a.put d v).tmps.size=a.tmps.size:=by cases d<;>simp [Act.put]
theorem put_defers (a:Act) (d:Option Nat) (v:Value):(a.put d v).defers=a.defers:=by cases d<;>rfl
theorem kJ.app (h:kJ au W df st ρ a w) {dst:Option Nat} {r:Rec} (hw: ∀p∈r.writes,aj st.heap p.1≠none) {ρ':Env} {w':World} (ql: ∀m,m<st.heap.length->ρ' m=ρ m)
  (Ih:r.val.ok (mG (· <st.heap.length) st.heap.length r)) (hst:St au W ρ' (mG (· <st.heap.length) st.heap.length r) (bO r st.heap.length (aj st.heap)) w'):
  kJ au W df (st.app dst r) ρ' (a.put dst (r.val.ae ρ')) w':=by
 have hkn:mG (· <st.heap.length) st.heap.length r=(· <(st.app dst r).heap.length):=by
  funext m;rw [mH];simp only [mG];apply propext;omega
 rw [hkn,<- Nw st dst r hw] at hst
 rw [hkn] at Ih
 refine ⟨fun t=> ?_,by rw [mB,h.size];simp [AS.app,qx],by rw [put_defers,h.defers],fun t=> ?_,hst⟩
 ·rw [iF]
  simp only [AS.app,jJ]
  have hold:bP st.tmps t≠ .dead->a.tmps.getD t undef=(bP st.tmps t).ae ρ':=fun hd=>by rw [h.tmps t hd];exact (AV.bq ql _ (h.kn t)).symm
  cases dst with
  |none=>exact hold
  |some d=>
   simp only [h.size]
   split
   ·intro _;rfl
   ·exact hold
 ·have hold:(bP st.tmps t).ok (· <(st.app dst r).heap.length):=AV.aR (fun m hm=>by rw [mH];omega) _ (h.kn t)
  simp only [AS.app,jJ]
  cases dst with
  |none=>exact hold
  |some d=>
   dsimp only
   split
   ·exact Ih
   ·exact hold
theorem kJ.skip (h:kJ au W df st ρ a w) (dst:Option Nat):kJ au W df {st with tmps:=jb st.tmps dst bU} ρ (a.put dst undef) w:=by
 refine ⟨fun t=> ?_,by rw [mB,h.size];simp [qx],by rw [put_defers,h.defers],fun t=> ?_,h.st⟩
 ·rw [iF]
  simp only [jJ]
  cases dst with
  |none=>exact h.tmps t
  |some d=>
   simp only [h.size]
   split
   ·intro _;rfl
   ·exact h.tmps t
 ·simp only [jJ]
  cases dst with
  |none=>exact h.kn t
  |some d=>
   dsimp only
   split
   ·exact s7 _
   ·exact h.kn t
def jQ (π:List Src) (Γ:HP) (ρ:Env):Env:=fun n=>match π[n]? with
 |some (.same m)=>ρ m
 |some .nil=>match Γ n with
  |some (.row t _ _)=> {es:=t.size}
  |_=> {}
 |some (.cells m len)=>match Γ n with
  |some (.row t _ _)=> {blk:=(ρ m).blk,base:=addrOf ρ m 0,len:=len,cap:=len,es:=t.size}
  |_=> {base:=addrOf ρ m 0,len:=len,cap:=len}
 |some (.mt m off)=>match Γ n with
  |some (.row t _ _)=> {base:=addrOf ρ m off,es:=t.size}
  |_=> {base:=addrOf ρ m off}
 |some (.any m)=>ρ m
 |none=> {}
section
variable {π:List Src} {Γ:HP}
theorem nV {n m:Nat} (h:π[n]? =some (.same m)):jQ π Γ ρ n=ρ m:=by simp [jQ,h]
theorem bj {n m:Nat} (h:iG π n=some m):jQ π Γ ρ n=ρ m/\ n<π.length:=by
 unfold iG at h
 split at h
 ·rename_i m' he
  cases h
  exact ⟨nV he,(List.getElem?_eq_some_iff.1 he).1⟩
 ·cases h
theorem sJ: ∀(l m:List Ref),jq π l=some m->l.map (Ref.ae (jQ π Γ ρ))=m.map (Ref.ae ρ)/\ ∀r∈l,r.ok (· <π.length)
 | [],m,h=>by simp only [jq,Option.some.injEq] at h;subst h;simp
 |r::l,m,h=>by
  simp only [jq] at h
  split at h
  ·rename_i q m' h1 h2
   cases h
   obtain ⟨e1,e2⟩:=sJ l m' h2
   have h3:r.ae (jQ π Γ ρ)=q.ae ρ/\ r.ok (· <π.length):=by
    cases r with
    |ext v=>simp only [oJ,Option.some.injEq] at h1;subst h1;exact ⟨rfl,trivial⟩
    |loc n o=>
     simp only [oJ] at h1
     split at h1
     ·rename_i k hk;cases h1
      obtain ⟨e3,e4⟩:=bj (Γ:=Γ) (ρ:=ρ) hk
      exact ⟨by simp [Ref.ae,addrOf,e3],e4⟩
     ·cases h1
    |elem n j=>
     simp only [oJ] at h1
     split at h1
     ·rename_i k hk;cases h1
      obtain ⟨e3,e4⟩:=bj (Γ:=Γ) (ρ:=ρ) hk
      exact ⟨by simp [Ref.ae,e3],e4⟩
     ·cases h1
    |full n=>
     simp only [oJ] at h1
     split at h1
     ·rename_i k hk;cases h1
      obtain ⟨e3,e4⟩:=bj (Γ:=Γ) (ρ:=ρ) hk
      exact ⟨by simp [Ref.ae,e3],e4⟩
     ·cases h1
    |mp n=>
     simp only [oJ] at h1
     split at h1
     ·rename_i k hk;cases h1
      obtain ⟨e3,e4⟩:=bj (Γ:=Γ) (ρ:=ρ) hk
      exact ⟨by simp [Ref.ae,e3],e4⟩
     ·cases h1
   refine ⟨by simp [h3.1,e1],fun x hx=> ?_⟩
   rcases List.mem_cons.1 hx with rfl|hx
   ·exact h3.2
   ·exact e2 x hx
  ·cases h
theorem Kj: ∀(c q:Cell),jh π c=some q->c.ae (jQ π Γ ρ)=q.ae ρ/\ c.ok (· <π.length)
 | .raw v,q,h=>by simp only [jh,Option.some.injEq] at h;subst h;exact ⟨rfl,trivial⟩
 | .ptr n o,q,h=>by
  simp only [jh] at h
  split at h
  ·rename_i k hk;cases h
   obtain ⟨e3,e4⟩:=bj (Γ:=Γ) (ρ:=ρ) hk
   exact ⟨by simp [Cell.ae,addrOf,e3],e4⟩
  ·cases h
 | .lZ n o,q,h=>by
  simp only [jh] at h
  split at h
  ·rename_i k hk;cases h
   obtain ⟨e3,e4⟩:=bj (Γ:=Γ) (ρ:=ρ) hk
   exact ⟨by simp [Cell.ae,addrOf,e3],e4⟩
  ·cases h
 | .sl n o l c,q,h=>by
  simp only [jh] at h
  split at h
  ·rename_i k hk;cases h
   obtain ⟨e3,e4⟩:=bj (Γ:=Γ) (ρ:=ρ) hk
   exact ⟨by simp [Cell.ae,addrOf,e3],e4⟩
  ·cases h
 | .cK n j z,q,h=>by
  simp only [jh] at h
  split at h
  ·rename_i k hk;cases h
   obtain ⟨e3,e4⟩:=bj (Γ:=Γ) (ρ:=ρ) hk
   exact ⟨by simp [Cell.ae,e3],e4⟩
  ·cases h
 | .fk n j z,q,h=>by
  simp only [jh] at h
  split at h
  ·rename_i k hk;cases h
   obtain ⟨e3,e4⟩:=bj (Γ:=Γ) (ρ:=ρ) hk
   exact ⟨by simp [Cell.ae,e3],e4⟩
  ·cases h
 | .Ic n,q,h=>by
  simp only [jh] at h
  split at h
  ·rename_i k hk;cases h
   obtain ⟨e3,e4⟩:=bj (Γ:=Γ) (ρ:=ρ) hk
   exact ⟨by simp [Cell.ae,e3],e4⟩
  ·cases h
 | .mp n,q,h=>by
  simp only [jh] at h
  split at h
  ·rename_i k hk;cases h
   obtain ⟨e3,e4⟩:=bj (Γ:=Γ) (ρ:=ρ) hk
   exact ⟨by simp [Cell.ae,e3],e4⟩
  ·cases h
 | .mv f a rs,q,h=>by
  simp only [jh] at h
  split at h
  ·rename_i k hk;cases h
   obtain ⟨e3,e4⟩:=sJ (Γ:=Γ) (ρ:=ρ) _ _ hk
   exact ⟨by simp only [Cell.ae,e3],e4⟩
  ·cases h
 | .iP f a cap,q,h=>by
  simp only [jh] at h
  split at h
  ·rename_i k hk;cases h
   obtain ⟨e3,e4⟩:=sJ (Γ:=Γ) (ρ:=ρ) _ _ hk
   exact ⟨by simp only [Cell.ae,e3],e4⟩
  ·cases h
 | .full n,q,h=>by
  simp only [jh] at h
  split at h
  ·rename_i m he
   cases h
   exact ⟨by simp [Cell.ae,nV he],(List.getElem?_eq_some_iff.1 he).1⟩
  ·rename_i he
   cases h
   refine ⟨?_,(List.getElem?_eq_some_iff.1 he).1⟩
   simp only [Cell.ae,jQ,he]
   split<;>rfl
  ·rename_i m len he
   cases h
   refine ⟨?_,(List.getElem?_eq_some_iff.1 he).1⟩
   simp only [Cell.ae,jQ,he]
   split<;>rfl
  ·rename_i m off he
   cases h
   refine ⟨?_,(List.getElem?_eq_some_iff.1 he).1⟩
   simp only [Cell.ae,jQ,he]
   split<;>rfl
  ·rename_i m he
   cases h
   exact ⟨by simp only [Cell.ae,jQ,he],(List.getElem?_eq_some_iff.1 he).1⟩
  ·cases h
theorem lD: ∀(l m:List Cell),gX π l=some m->l.map (Cell.ae (jQ π Γ ρ))=m.map (Cell.ae ρ)/\ ∀r∈l,r.ok (· <π.length)
 | [],m,h=>by simp only [gX,Option.some.injEq] at h;subst h;simp
 |r::l,m,h=>by
  simp only [gX] at h
  split at h
  ·rename_i q m' h1 h2
   cases h
   obtain ⟨e1,e2⟩:=lD l m' h2
   obtain ⟨e3,e4⟩:=Kj (Γ:=Γ) (ρ:=ρ) _ _ h1
   refine ⟨by simp [e3,e1],fun x hx=> ?_⟩
   rcases List.mem_cons.1 hx with rfl|hx
   ·exact e4
   ·exact e2 x hx
  ·cases h
theorem Ki (a q:A0) (h:IL π a=some q):a.ae (jQ π Γ ρ)=q.ae ρ/\ a.ok (· <π.length):=by
 cases a with
 |one c=>
  simp only [IL] at h
  split at h
  ·rename_i k hk;cases h;exact Kj _ _ hk
  ·cases h
 |agg cs=>
  simp only [IL] at h
  split at h
  ·rename_i k hk;cases h
   obtain ⟨e1,e2⟩:=lD (Γ:=Γ) (ρ:=ρ) _ _ hk
   exact ⟨by simp only [A0.ae,e1],e2⟩
  ·cases h
theorem Gt: ∀(l m:List A0),gp π l=some m->l.map (A0.ae (jQ π Γ ρ))=m.map (A0.ae ρ)/\ ∀r∈l,r.ok (· <π.length)
 | [],m,h=>by simp only [gp,Option.some.injEq] at h;subst h;simp
 |r::l,m,h=>by
  simp only [gp] at h
  split at h
  ·rename_i q m' h1 h2
   cases h
   obtain ⟨e1,e2⟩:=Gt l m' h2
   obtain ⟨e3,e4⟩:=Ki (Γ:=Γ) (ρ:=ρ) _ _ h1
   refine ⟨by simp [e3,e1],fun x hx=> ?_⟩
   rcases List.mem_cons.1 hx with rfl|hx
   ·exact e4
   ·exact e2 x hx
  ·cases h
theorem Kk (a q:AV) (h:sK π a=some q):a.ae (jQ π Γ ρ)=q.ae ρ/\ a.ok (· <π.length):=by
 cases a with
 |v a=>
  simp only [sK] at h
  split at h
  ·rename_i k hk;cases h;exact Ki _ _ hk
  ·cases h
 |nC l=>
  simp only [sK] at h
  split at h
  ·rename_i k hk;cases h
   obtain ⟨e1,e2⟩:=Gt (Γ:=Γ) (ρ:=ρ) _ _ hk
   exact ⟨by simp only [AV.ae,e1],e2⟩
  ·cases h
 |dead=>cases h
theorem sX: ∀(l m:List AV),HE π l m->m.length=l.length/\ ∀t,bP m t= .dead\/ sK π (bP m t)=some (bP l t)
 | [],[],_=>⟨rfl,fun t=> .inr rfl⟩
 |x::r,.dead::s,h=>by
  obtain ⟨h1,h2⟩:=sX r s h
  exact ⟨by simp [h1],fun t=>by cases t with|zero=>exact .inl rfl|succ t=>exact h2 t⟩
 |x::r,.v y::s,h=>by
  obtain ⟨h1,h2⟩:=sX r s h.2
  exact ⟨by simp [h1],fun t=>by cases t with|zero=>exact .inr h.1|succ t=>exact h2 t⟩
 |x::r,.nC y::s,h=>by
  obtain ⟨h1,h2⟩:=sX r s h.2
  exact ⟨by simp [h1],fun t=>by cases t with|zero=>exact .inr h.1|succ t=>exact h2 t⟩
 | [],_::_,h=>h.elim
 |_::_,[],h=>h.elim
theorem FF {h0:List aG} : ∀(ss:List Src) (l:List aG),tf π h0 ss l->ss.length=l.length/\ ∀n o,aj l n=some o-> ∃s,ss[n]? =some s/\ DG π h0 s o
 | [],[],_=>⟨rfl,fun n o ho=>by simp [aj] at ho⟩
 |s::r,o::l,h=>by
  have main:tf π h0 r l->(aj (o::l) 0=some o->DG π h0 s o)->(s::r).length=(o::l).length/\ ∀n p,aj (o::l) n=some p-> ∃q,(s::r)[n]? =some q/\ DG π h0 q p:=fun h1 h2=>by
   obtain ⟨e1,e2⟩:=FF r l h1
   refine ⟨by simp [e1],fun n p hp=> ?_⟩
   cases n with
   |zero=>
    have:p=o:=by
     rw [br] at hp
     cases o<;>simp_all [live]
    subst this
    exact ⟨s,rfl,h2 hp⟩
   |succ n=>exact e2 n p (by simpa [aj] using hp)
  cases o with
  |gone=>exact main h fun h=>by simp [aj] at h
  |_=>exact main h.2 fun _=>h.1
 | [],_::_,h=>by unfold tf at h;exact h.elim
 |_::_,[],h=>by unfold tf at h;exact h.elim
theorem Qt: ∀(ss:List Src) (l:List aG) (n m:Nat) (s:Src),(aj l n).isSome=true->ss[n]? =some s->Cg s=some m->m∈vJ ss l
 | [],_,n,m,s,_,h,_=>by simp at h
 |_::_,[],n,m,s,h,_,_=>by simp [aj] at h
 |q::r,o::l,n,m,s,h1,h2,h3=>by
  have tail: ∀k,n=k+1->m∈vJ r l:=fun k e=>by
   subst e
   exact Qt r l k m s (by simpa [aj] using h1) (by simpa using h2) h3
  cases n with
  |zero=>
   simp only [List.getElem?_cons_zero,Option.some.injEq] at h2
   subst h2
   cases o with
   |gone=>simp [aj] at h1
   |_=>simp [vJ,h3]
  |succ n=>
   have:=tail n rfl
   cases o with
   |gone=>exact this
   |_=>simp only [vJ];split<;>simp [this]
theorem Qs: ∀(ss:List Src) (l:List aG),(vJ ss l).Nodup-> ∀n n' m s s',(aj l n).isSome=true->(aj l n').isSome=true->ss[n]? =some s->ss[n']? =some s'->Cg s=some m->Cg s'=some m->n=n'
 | [],_,_,n,_,_,s,_,_,_,h,_,_,_=>by simp at h
 |_::_,[],_,n,_,_,s,_,h,_,_,_,_,_=>by simp [aj] at h
 |q::r,o::l,hn,n,n',m,s,s',h1,h2,h3,h4,h5,h6=>by
  have hz: ∀k,(aj (o::l) 0).isSome=true->Cg q=some m->(aj (o::l) (k+1)).isSome=true-> ∀s,(q::r)[k+1]? =some s->Cg s=some m->False:=fun k g1 g2 g3 s g4 g5=>by
   have:=Qt r l k m s (by simpa [aj] using g3) (by simpa using g4) g5
   cases o with
   |gone=>simp [aj] at g1
   |_=>
    simp only [vJ,g2] at hn
    exact (List.nodup_cons.1 hn).1 this
  have hr:(vJ r l).Nodup:=by
   cases o with
   |gone=>exact hn
   |_=>
    simp only [vJ] at hn
    split at hn
    ·exact (List.nodup_cons.1 hn).2
    ·exact hn
  cases n with
  |zero=>
   cases n' with
   |zero=>rfl
   |succ n'=>
    simp only [List.getElem?_cons_zero,Option.some.injEq] at h3
    subst h3
    exact (hz n' h1 h5 h2 s' h4 h6).elim
  |succ n=>
   cases n' with
   |zero=>
    simp only [List.getElem?_cons_zero,Option.some.injEq] at h4
    subst h4
    exact (hz n h2 h6 h1 s h3 h5).elim
   |succ n'=>
    rw [Qs r l hr n n' m s s' (by simpa [aj] using h1) (by simpa [aj] using h2) (by simpa using h3) (by simpa using h4) h5 h6]
theorem um: ∀(n:Nat),BG π n=true-> ∀m,m<n->π[m]? =some (.same m)
 |0,_,m,hm=>by omega
 |n+1,h,m,hm=>by
  simp only [BG,Bool.and_eq_true] at h
  by_cases e:m=n
  ·subst e
   have h1:=h.1
   split at h1
   ·rename_i k hk
    rw [hk];simp at h1;rw [h1]
   ·cases h1
  ·exact um n h.2 m (by omega)
end
theorem Ps {π:List Src} {g c:Nat} {es:Array MapEntry} {mY:Nat} {ka:Bool} {k u:Ty} {l:List (k.T×List u.T)} {cur:Option (k.T×Nat)} {p:aG} (h:fA π (.OP g c es mY ka k u l cur)=some p):
  ∃m d cur',iG π g=some m/\ iG π c=some d/\ (∀q,cur=some q-> ∃q',iG π q.2=some q'/\ cur'=some (q.1,q'))/\ p= .OP m d es mY ka k u l cur':=by
 simp only [fA] at h
 cases h1:iG π g with
 |none=>rw [h1] at h;cases h
 |some m=>
  cases h2:iG π c with
  |none=>rw [h1,h2] at h;cases h
  |some d=>
   rw [h1,h2] at h
   cases cur with
   |none=>
    cases h
    exact ⟨m,d,none,rfl,rfl,fun q hq=>(by cases hq),rfl⟩
   |some q=>
    obtain ⟨a,q⟩:=q
    dsimp only at h
    cases h3:iG π q with
    |none=>rw [h3] at h;cases h
    |some q'=>
     rw [h3] at h
     cases h
     exact ⟨m,d,_,rfl,rfl,fun p hp=>(by cases hp;exact ⟨q',h3,rfl⟩),rfl⟩
theorem kJ.age (h:kJ au W df st ρ a w) {st':AS} {π:List Src} (hw:Ren π st st'):kJ au W df st' (jQ π (aj st'.heap) ρ) a w:=by
 obtain ⟨hl,ht⟩:=sX _ _ hw.tmps
 obtain ⟨xq,hh⟩:=FF _ _ hw.heap
 have gU:=eM hw.inj
 let ρ':=jQ π (aj st'.heap) ρ
 have hlt: ∀n o,aj st'.heap n=some o->n<st'.heap.length:=fun n o ho=>by
  rcases Nat.lt_or_ge n st'.heap.length with hn|hn
  ·exact hn
  ·simp [aj,List.getElem?_eq_none hn] at ho
 have hsrc: ∀n b,(aj st'.heap n).isSome=true->(ρ' n).has b-> ∃s m,π[n]? =some s/\ Cg s=some m/\ (aj st.heap m).isSome=true/\ (ρ m).has b:=fun n b hn hb=>by
  obtain ⟨o,ho⟩:=Option.isSome_iff_exists.1 hn
  obtain ⟨s,hs,mF⟩:=hh n o ho
  cases s with
  |same m=>
   obtain ⟨p,hp,_⟩:=mF
   refine ⟨_,m,hs,rfl,by simp [hp],?_⟩
   rw [<- show ρ' n=ρ m from nV hs];exact hb
  |nil=>
   obtain ⟨t,rk,rfl,_⟩:=mF
   simp only [ρ',jQ,hs,ho] at hb;exact absurd (iZ.1 hb) (fun h=>by cases h)
  |mt m off=>
   obtain ⟨t,cs,e,rfl,_⟩:=mF
   simp only [ρ',jQ,hs,ho] at hb;exact absurd (iZ.1 hb) (fun h=>by cases h)
  |any m=>
   obtain ⟨t,l,rk,rfl,hp,_⟩:=mF
   simp only [ρ',jQ,hs] at hb
   exact ⟨_,m,hs,rfl,by simp [hp],hb⟩
  |cells m len=>
   obtain ⟨t,l,cs,e,rk,rfl,_,hp,_⟩:=mF
   simp only [ρ',jQ,hs,ho] at hb
   exact ⟨_,m,hs,rfl,by simp [hp],.inl (iZ.1 hb)⟩
 have wu: ∀b,HI (aj st'.heap) b->HI (aj st.heap) b:=fun b ⟨n,S,h1,h2⟩=>by
  obtain ⟨s,hs,mF⟩:=hh n _ h1
  cases s with
  |same m=>
   obtain ⟨p,hp,hr⟩:=mF
   simp only [fA,Option.some.injEq] at hr
   subst hr
   exact ⟨m,S,hp,h2⟩
  |nil=>obtain ⟨_,_,e,_⟩:=mF;cases e
  |mt m off=>obtain ⟨_,_,_,e,_⟩:=mF;cases e
  |any m=>obtain ⟨_,_,_,e,_⟩:=mF;cases e
  |cells m len=>obtain ⟨_,_,_,_,_,e,_⟩:=mF;cases e
 have hfz: ∀b,dA ρ (aj st.heap) w b->dA ρ' (aj st'.heap) w b/\ w.heap[b]? =w.heap[b]? :=fun b hb=>by
  refine ⟨⟨hb.1,?_⟩,rfl⟩
  rintro (⟨n,h1,h2⟩|⟨n,S,h1,h2⟩)
  ·obtain ⟨s,m,_,_,h5,h6⟩:=hsrc n b h1 h2
   exact hb.2 (.inl ⟨m,h5,h6⟩)
  ·exact hb.2 (.inr (wu b ⟨n,S,h1,h2⟩))
 show kJ au W df st' ρ' a w
 refine ⟨fun t hd=> ?_,by rw [h.size,hl],h.defers,fun t=> ?_,⟨h.st.fr,fun n o ho=> ?_,fun n o ho=> ?_,fun n n' b hn hn' hb hb'=> ?_,fun n b hn hb=> ?_,fun b QZ=> ?_,fun n o ho=> ?_⟩⟩
 rotate_right
 ·obtain ⟨s,hs,mF⟩:=hh n o ho
  cases s with
  |same m=>
   obtain ⟨p,hp,hr⟩:=mF
   rw [show ρ' n=ρ m from nV hs]
   rcases h.st.tg m p hp with ⟨g,rfl⟩|he
   ·cases o with
    |set g'=>exact .inl ⟨_,rfl⟩
    |_=>
     simp only [fA] at hr
     first
     |(cases hr;done)
     |(split at hr<;>cases hr)
     |(split at hr<;>first|(cases hr;done)|(split at hr<;>cases hr))
   ·exact .inr he
  |nil=>
   obtain ⟨t,rk,rfl,_⟩:=mF
   exact .inr (by simp only [ρ',jQ,hs,ho])
  |mt m off=>
   obtain ⟨t,cs,e,rfl,_⟩:=mF
   exact .inr (by simp only [ρ',jQ,hs,ho])
  |any m=>
   obtain ⟨t,l,rk,rfl,hp,_⟩:=mF
   refine .inr ?_
   simp only [ρ',jQ,hs]
   exact (h.st.tg m _ hp).elim (fun ⟨_,e⟩=>by cases e) id
  |cells m len=>
   obtain ⟨t,l,cs,e,rk,rfl,_⟩:=mF
   exact .inr (by simp only [ρ',jQ,hs,ho])
 rotate_right
 ·obtain ⟨h1,h2⟩:=h.st.oX b (wu b QZ)
  refine ⟨h1,?_⟩
  rintro ⟨n,h3,h4⟩
  obtain ⟨s,m,_,_,h5,h6⟩:=hsrc n b h3 h4
  exact h2 ⟨m,h5,h6⟩
 ·rcases ht t with e|e
  ·exact absurd e hd
  ·have hne:bP st.tmps t≠ .dead:=fun e2=>by
    rw [e2] at e
    revert e;cases bP st'.tmps t<;>simp only [sK]<;>(try split)<;>intro e<;>cases e
   rw [h.tmps t hne]
   exact (Kk _ _ e).1.symm
 ·rcases ht t with e|e
  ·rw [e];trivial
  ·rw [<- xq];exact (Kk (Γ:=aj st'.heap) (ρ:=ρ) _ _ e).2
 ·obtain ⟨s,hs,mF⟩:=hh n o ho
  cases s with
  |same m=>
   obtain ⟨p,hp,hr⟩:=mF
   have hn:ρ' n=ρ m:=nV hs
   have aO:=h.st.at_ m p hp
   cases o with
   |cells cs e=>
    simp only [fA] at hr
    split at hr
    ·rename_i q hq
     cases hr
     obtain ⟨b,hb,hhp⟩:=aO
     exact ⟨b,by rw [hn];exact hb,by rw [hhp,(lD (Γ:=aj st'.heap) (ρ:=ρ) _ _ hq).1]⟩
    ·cases hr
   |row t l rk=>
    simp only [fA,Option.some.injEq] at hr
    subst hr
    obtain ⟨o1,o2,o3,sub,o4⟩:=aO
    rw [bn,hn]
    exact ⟨o1,o2,o3,sub,o4.keep hfz (fun _ _ h=>h) fun _ _=>rfl⟩
   |alias k z q=>
    simp only [fA] at hr
    split at hr
    ·rename_i k' hk
     cases hr
     have:=(bj (Γ:=aj st'.heap) (ρ:=ρ) hk).1
     rw [bn,hn,show ρ' k=ρ k' from this]
     exact aO
    ·cases hr
   |gone=>cases hr
   |loop r z j=>
    simp only [fA,Option.some.injEq] at hr
    subst hr
    obtain ⟨b,hb,hhp⟩:=aO
    exact ⟨b,by rw [hn];exact hb,hhp⟩
   |hide S=>
    simp only [fA,Option.some.injEq] at hr
    subst hr
    rw [bn,hn];exact aO
   |map ka va kt vt l=>
    simp only [fA,Option.some.injEq] at hr
    subst hr
    rw [bn,hn];exact aO
   |bT aV n0=>
    simp only [fA] at hr
    split at hr
    ·rename_i hf
     cases hr
     exact ⟨by rw [hn];exact aO.1,fun i hi=>by rw [show ρ' i=ρ i from nV (um n0 hf i hi)];exact aO.2 i hi⟩
    ·cases hr
   |dp t l c s0 kn=>
    simp only [fA] at hr
    split at hr
    ·rename_i c' hc
     cases hr
     have:=(bj (Γ:=aj st'.heap) (ρ:=ρ) hc).1
     rw [bn,hn,show ρ' c=ρ c' from this]
     exact aO
    ·cases hr
   |nv g c j q u=>
    simp only [fA] at hr
    split at hr
    ·rename_i g' c' hg hc
     cases hr
     have e:=(bj (Γ:=aj st'.heap) (ρ:=ρ) hc).1
     have e':=(bj (Γ:=aj st'.heap) (ρ:=ρ) hg).1
     rw [bn,hn,show ρ' c=ρ c' from e,show ρ' g=ρ g' from e'];exact aO
    ·cases hr
   |Jp ka k u l c q=>
    simp only [fA] at hr
    split at hr
    ·rename_i c' hc
     cases hr
     have e:=(bj (Γ:=aj st'.heap) (ρ:=ρ) hc).1
     rw [bn,hn,show ρ' c=ρ c' from e];exact aO
    ·cases hr
   |set g=>
    simp only [fA] at hr
    split at hr
    ·cases hr
     rw [bn,hn];exact aO
    ·cases hr
   |gv g c k u x l=>
    simp only [fA] at hr
    split at hr
    ·rename_i g' c' hg hc
     cases hr
     have e:=(bj (Γ:=aj st'.heap) (ρ:=ρ) hc).1
     rw [bn,hn,show ρ' c=ρ c' from e];exact aO
    ·cases hr
   |rc cs=>
    simp only [fA] at hr
    split at hr
    ·rename_i q hq
     cases hr
     rw [bn,hn]
     refine ⟨aO.1,fun i c hc=> ?_⟩
     have e:=(lD (Γ:=aj st'.heap) (ρ:=ρ) _ _ hq).1
     have e1:(cs.map (Cell.ae ρ'))[i]? =some (c.ae ρ'):=by rw [List.getElem?_map,hc];rfl
     rw [show cs.map (Cell.ae ρ')=q.map (Cell.ae ρ) from e,List.getElem?_map] at e1
     obtain ⟨d,hd,e2⟩:=Option.map_eq_some_iff.1 e1
     rw [<- e2]
     obtain ⟨a,h1,h2,h3⟩:=aO.2 i d hd
     exact ⟨a,h1,h2,(hfz _ h3).1⟩
    ·cases hr
   |hmap es mY=>
    simp only [fA,Option.some.injEq] at hr
    subst hr
    rw [bn,hn];exact aO
   |OP g c es mY ka k u l cur=>
    have key: ∀(m' d:Nat) (cur':Option (k.T×Nat)),iG π g=some m'->iG π c=some d->(∀q,cur=some q-> ∃q',iG π q.2=some q'/\ cur'=some (q.1,q'))->bn (dA ρ (aj st.heap) w) (q8 au W) ρ m (.OP m' d es mY ka k u l cur') w->bn (dA ρ' (aj st'.heap) w) (q8 au W) ρ' n (.OP g c es mY ka k u l cur) w:=by
     intro m' d cur' hg hc alW aO
     have e1:ρ' g=ρ m':=(bj (Γ:=aj st'.heap) (ρ:=ρ) hg).1
     have e2:ρ' c=ρ d:=(bj (Γ:=aj st'.heap) (ρ:=ρ) hc).1
     rw [bn] at aO
     rw [bn,hn,e1,e2]
     obtain ⟨a1,a2,a3,b,since,seen,c0,a4,a5,a6,a7,a8,a9,a10,a11⟩:=aO
     refine ⟨a1,a2,a3,b,since,seen,c0,a4,a5,a6,a7,a8,a9,a10,fun q hq=> ?_⟩
     obtain ⟨q',h1,h2⟩:=alW q hq
     have e3:ρ' q.2=ρ q':=(bj (Γ:=aj st'.heap) (ρ:=ρ) h1).1
     rw [e3]
     exact a11 _ h2
    obtain ⟨m',d,cur',h1,h2,h3,rfl⟩:=Ps hr
    exact key m' d cur' h1 h2 h3 aO
  |nil=>
   obtain ⟨t,rk,rfl,qm⟩:=mF
   have e:ρ' n= {es:=t.size} :=by simp only [ρ',jQ,hs,ho]
   rw [bn,e]
   exact ⟨rfl,rfl,Nat.le_refl _,fun _=>(none,0),fun i v hv=>by simp [az,aI] at hv,fun q u l' hq=>by simp [az] at hq,fun e=>absurd e qm,fun _=> .inl ⟨rfl,rfl,rfl,fun _=>rfl⟩⟩
  |mt m off=>
   obtain ⟨t,cs,e,rfl,hp⟩:=mF
   have e1:ρ' n= {base:=addrOf ρ m off,es:=t.size} :=by simp only [ρ',jQ,hs,ho]
   rw [bn,e1]
   exact ⟨rfl,rfl,Nat.le_refl _,fun _=>(none,0),fun i v hv=>by simp [az,aI] at hv,fun q u l' hq=>by simp [az] at hq,fun e=>(by cases e),fun _=> .inl ⟨rfl,rfl,rfl,fun q=>absurd rfl q⟩⟩
  |any m=>
   obtain ⟨t,l,rk,rfl,hp,qm⟩:=mF
   have e1:ρ' n=ρ m:=by simp only [ρ',jQ,hs]
   obtain ⟨o1,o2,o3,sub,o4⟩:=h.st.at_ m _ hp
   obtain ⟨m1,m2,m3,m4⟩:=o4.keep (fz':=dA ρ' (aj st'.heap) w) (pm':=q8 au W) hfz (fun _ _ h=>h) fun _ _=>rfl
   rw [bn,e1]
   exact ⟨o1,o2,o3,sub,fun i v hv=>by
    obtain ⟨a,h1,h2,_⟩:=m1 i v hv
    exact ⟨a,h1,h2,fun e=>by cases e⟩,fun q u l' hq=>(m2 q u l' hq).mono fun b hb=>⟨⟨hb.1,fun e=>by cases e⟩,rfl⟩,fun e=>(by cases e),fun _=>(m4 qm).any⟩
  |cells m len=>
   obtain ⟨t,l,cs,e,rk,rfl,qm,hp,hf,hd,Ot⟩:=mF
   obtain ⟨b,hb,hhp⟩:=h.st.at_ m _ hp
   have e1:ρ' n= {blk:=some b,base:=some ⟨b,0,none⟩,len:=len,cap:=len,es:=t.size} :=by simp only [ρ',jQ,hs,ho,addrOf,hb,Option.map_some]
   obtain ⟨hll,ys,r,hy,hyl,hal⟩:=VK (jY hf) _ _ _ _ hd
   have hr:r= []:=List.eq_nil_of_length_eq_zero (by have:=congrArg List.length hy;rw [List.length_append] at this;omega)
   subst hr
   rw [List.append_nil] at hy
   have hal:=hal xw w ρ (fun _=>False) (fun _=>none) w (fun _ hm=>by cases hm) (St.none w ρ)
   rw [<- hy] at hal
   obtain ⟨s1,s2⟩:=jC hal
   rw [bn,e1]
   refine ⟨hll.symm,rfl,by rw [hll];exact Nat.le_refl _,rz (cs.map (Cell.ae ρ)),fun i v hv=>⟨_,rfl,?_,fun e=>(by rcases qm with rfl|rfl<;>cases e)⟩,fun q u l' hq=> ?_,fun e=>(by rcases qm with rfl|rfl<;>cases e),fun _=>ia.new (.inr ⟨b,[],e,rfl,rfl,by rw [s1,List.append_nil];exact hhp,?_⟩)⟩
   ·rw [s1] at hv
    have e2:(⟨b,0,none⟩:Addr).add i=⟨b,i,none⟩:=by unfold Addr.add;split<;>simp_all
    rw [e2,bH hhp];exact hv
   ·obtain ⟨v,hv⟩:=eD hf (List.mem_of_getElem? hq)
    cases hv
   ·exact ⟨by rw [s1,List.append_nil];simp [Ot.1],Nat.le_trans (Nat.le_of_ble_eq_true Ot.2) (by decide)⟩
 ·obtain ⟨s,hs,mF⟩:=hh n o ho
  refine ⟨hlt n o ho,?_⟩
  cases s with
  |same m=>
   obtain ⟨p,hp,hr⟩:=mF
   cases o with
   |cells cs e=>
    simp only [fA] at hr
    split at hr
    ·rename_i q hq
     rw [<- xq];exact (lD (Γ:=aj st'.heap) (ρ:=ρ) _ _ hq).2
    ·cases hr
   |alias k z q=>
    simp only [fA] at hr
    split at hr
    ·rename_i k' hk
     rw [<- xq];exact (bj (Γ:=aj st'.heap) (ρ:=ρ) hk).2
    ·cases hr
   |bT aV n0=>
    simp only [fA] at hr
    split at hr
    ·rename_i hf
     intro i hi
     rw [<- xq];exact (List.getElem?_eq_some_iff.1 (um n0 hf i hi)).1
    ·cases hr
   |Jp ka k u l c q=>
    simp only [fA] at hr
    split at hr
    ·rename_i c' hc
     rw [<- xq];exact (bj (Γ:=aj st'.heap) (ρ:=ρ) hc).2
    ·cases hr
   |set g=>
    simp only [fA] at hr
    split at hr
    ·rename_i c' hc
     rw [<- xq];exact (bj (Γ:=aj st'.heap) (ρ:=ρ) hc).2
    ·cases hr
   |dp t l c=>
    simp only [fA] at hr
    split at hr
    ·rename_i c' hc
     rw [<- xq];exact (bj (Γ:=aj st'.heap) (ρ:=ρ) hc).2
    ·cases hr
   |gv g c k u x l=>
    simp only [fA] at hr
    split at hr
    ·rename_i g' c' hg hc
     rw [<- xq];exact ⟨(bj (Γ:=aj st'.heap) (ρ:=ρ) hg).2,(bj (Γ:=aj st'.heap) (ρ:=ρ) hc).2⟩
    ·cases hr
   |nv g c j q u=>
    simp only [fA] at hr
    split at hr
    ·rename_i g' c' hg hc
     rw [<- xq];exact ⟨(bj (Γ:=aj st'.heap) (ρ:=ρ) hg).2,(bj (Γ:=aj st'.heap) (ρ:=ρ) hc).2⟩
    ·cases hr
   |rc cs=>
    simp only [fA] at hr
    split at hr
    ·rename_i q hq
     rw [<- xq];exact (lD (Γ:=aj st'.heap) (ρ:=ρ) _ _ hq).2
    ·cases hr
   |OP g c es mY ka k u l cur=>
    obtain ⟨m',d,cur',h1,h2,h3,rfl⟩:=Ps hr
    rw [<- xq]
    exact ⟨(bj (Γ:=aj st'.heap) (ρ:=ρ) h1).2,(bj (Γ:=aj st'.heap) (ρ:=ρ) h2).2,fun p hp=>by
     obtain ⟨q',h4,_⟩:=h3 p hp
     exact (bj (Γ:=aj st'.heap) (ρ:=ρ) h4).2⟩
   |_=>trivial
  |nil=>obtain ⟨t,rk,rfl,_⟩:=mF;trivial
  |mt m off=>obtain ⟨t,cs,e,rfl,_⟩:=mF;trivial
  |any m=>obtain ⟨t,l,rk,rfl,_⟩:=mF;trivial
  |cells m len=>obtain ⟨t,l,cs,e,rk,rfl,_⟩:=mF;trivial
 ·obtain ⟨s,m,h1,h2,h3,h4⟩:=hsrc n b hn hb
  obtain ⟨s',m',h1',h2',h3',h4'⟩:=hsrc n' b hn' hb'
  have:=h.st.dz m m' b h3 h3' h4 h4'
  subst this
  exact Qs _ _ gU n n' m s s' hn hn' h1 h1' h2 h2'
 ·obtain ⟨s,m,h1,h2,h3,h4⟩:=hsrc n b hn hb
  exact h.st.jP m b h3 h4
theorem kJ.weak (h:kJ au W df st ρ a w) {st':AS} (hw:rF st st'): ∃ρ',kJ au W df st' ρ' a w:=by
 obtain ⟨π,hw⟩:=hw
 exact ⟨_,h.age hw⟩
theorem kJ.drawn (h:kJ au W df st ρ a w) (n:Nat) (hn:w.drawn<=n):kJ au W df st ρ a {w with drawn:=n} :=⟨h.tmps,h.size,h.defers,h.kn,h.st.drawn n hn⟩
theorem kJ.yielded (h:kJ au W df st ρ a w) {ops:Array Oper} {j d:Nat} (hd:tZ ops j=some d) {x:Bool} (hx:bP st.tmps d=bD x):yielded ops a.tmps j=some x:=by
 have h1:=h.tmps d (by rw [hx];simp [bD])
 rw [hx] at h1
 have e1:(ops[j]?).bind (·.dst)=some d:=by
  unfold tZ at hd;split at hd
  ·rename_i o ho;simp [ho,hd]
  ·cases hd
 have e2:a.tmps[d]? =some (.bool x):=by
  rw [Array.getD_eq_getD_getElem?] at h1
  cases hq:a.tmps[d]? with
  |none=>rw [hq] at h1;cases h1
  |some v=>rw [hq] at h1;exact congrArg some h1
 simp [Go.yielded,e1,e2]
theorem kJ.QW (h:kJ au W df st ρ a w) {ops:Array Oper} {j d:Nat} (hd:tZ ops j=some d) (hx:bP st.tmps d= .nC []):Go.yielded ops a.tmps j=none:=by
 have h1:=h.tmps d (by rw [hx];simp)
 rw [hx] at h1
 have e1:(ops[j]?).bind (·.dst)=some d:=by
  unfold tZ at hd;split at hd
  ·rename_i o ho;simp [ho,hd]
  ·cases hd
 rw [Array.getD_eq_getD_getElem?] at h1
 cases hq:a.tmps[d]? with
 |none=>simp [Go.yielded,e1,hq]
 |some v=>
  rw [hq] at h1
  have e:v= .tuple #[]:=h1
  subst e
  simp [Go.yielded,e1,hq]
end
section
variable {P:Program} {ctx:Ctx} {au:eW} {W:World} {df:List Deferred} {ro:Option Nat} {n:Nat} {Q:Exit->Act->World->Prop}
theorem yK {o:Op} {st:AS} {k:Rec->Prop} (h:qb ctx o st k):(∀x∈o.operands,cr st.tmps x≠ .dead)/\ Ed ctx o (cr st.tmps) (aj st.heap) st.heap.length k:=by
 unfold qb at h
 split at h
 ·rename_i hn
  refine ⟨fun x hx e=> ?_,h⟩
  have:=List.all_eq_true.1 hn x (Array.mem_toList_iff.2 hx)
  rw [e] at this;simp [AV.FV] at this
 ·exact h.elim
theorem aeR (hT:cP P ctx.tt) (hS:eB P ctx) (hX:rD au W ctx.X) {st:AS} {ρ:Env} {a:Act} {w:World} (aO:kJ au W df st ρ a w) {o:Oper} {k:Rec->Prop}
  (h:qb ctx o.op st k) {next:Act->World->Prop}
  (hn: ∀r,k r-> ∀ρ' a' w',kJ au W df (st.app o.dst r) ρ' a' w'->next a' w'):o.wpIn (fw ro) n P a w next Q:=by
 obtain ⟨gU,h⟩:=yK h
 refine akp hT hS h ro n au W ρ w a next Q hX (fun x hx=>aO.eval x (gU x hx)) (fun x _=>aO.LV x) aO.st ?_
 intro r ρ' w' hk hw ql Ih hst
 exact hn r hk ρ' _ w' (aO.app hw ql Ih hst)
theorem jx (hT:cP P ctx.tt) (hS:eB P ctx) (hX:rD au W ctx.X) (all:Array Oper): ∀(l:List Oper) (dec:List Nat) (st:AS) (lg:List fD) (K:AS->List fD->Prop),mL ctx all l dec st lg K->
  (∀st' lg' ρ' a' w',K st' lg'->kJ au W df st' ρ' a' w'->Q .normal a' w')-> ∀ρ a w,kJ au W df st ρ a w->wpListIn (fw ro) n P all Q l a w
 | [],dec,st,lg,K,h,hK,ρ,a,w,aO=>hK st lg ρ a w h aO
 |o::rest,dec,st,lg,K,h,hK,ρ,a,w,aO=>by
  have exec: ∀(st:AS) (E7:List Nat) (lg':Rec->List fD),kJ au W df st ρ a w->qb ctx o.op st (fun r=>mL ctx all rest E7 (st.app o.dst r) (lg' r) K)->
    o.wpIn (fw ro) n P a w (wpListIn (fw ro) n P all Q rest) Q:=by
   intro st E7 lg' aO h
   exact aeR hT hS hX aO h fun r hr ρ' a' w' cW=>jx hT hS hX all rest E7 _ _ K hr hK ρ' a' w' cW
  unfold mL at h
  split at h
  ·rename_i hg
   show if Region.wanted o (Go.yielded all a.tmps) then _ else _
   rw [if_pos (by simp [Region.wanted,hg])]
   exact exec st dec _ aO h
  ·rename_i j want hg
   split at h
   ·rename_i d hd
    split at h
    ·rename_i x hx
     have hy:Go.yielded all a.tmps j=some x:=aO.yielded hd hx
     have hw:Region.wanted o (Go.yielded all a.tmps)=(x==want):=by
      simp only [Region.wanted,hg,hy];cases x<;>cases want<;>rfl
     show if Region.wanted o (Go.yielded all a.tmps) then _ else _
     rw [hw]
     split at h
     ·split at h
      ·rename_i e;subst e
       rw [if_pos (by simp)]
       exact exec st dec _ aO h
      ·rename_i e
       rw [if_neg (by simpa using e)]
       exact ⟨fun _ _=>trivial,jx hT hS hX all rest _ _ _ K h hK ρ _ w (aO.skip o.dst)⟩
     ·cases want with
      |true=>
       dsimp only at h
       cases x with
       |true=>
        have h:qb ctx o.op {st with tmps:=st.tmps.set d (bD true)} _:=h
        rw [if_pos (by rfl)]
        rw [mC hx] at h
        exact exec st _ _ aO h
       |false=>
        have h:mL ctx all rest (d::dec) {st with tmps:=jb (st.tmps.set d (bD false)) o.dst bU} (lg++ [lQ st.heap.length]) K:=h
        rw [if_neg (by simp)]
        rw [mC hx] at h
        exact ⟨fun _ _=>trivial,jx hT hS hX all rest _ _ _ K h hK ρ _ w (aO.skip o.dst)⟩
      |false=>
       dsimp only at h
       cases x with
       |false=>
        have h:qb ctx o.op {st with tmps:=st.tmps.set d (bD false)} _:=h
        rw [if_pos (by rfl)]
        rw [mC hx] at h
        exact exec st _ _ aO h
       |true=>
        have h:mL ctx all rest (d::dec) {st with tmps:=jb (st.tmps.set d (bD true)) o.dst bU} (lg++ [lQ st.heap.length]) K:=h
        rw [if_neg (by simp)]
        rw [mC hx] at h
        exact ⟨fun _ _=>trivial,jx hT hS hX all rest _ _ _ K h hK ρ _ w (aO.skip o.dst)⟩
    ·rename_i hx
     have hy:Go.yielded all a.tmps j=none:=aO.QW hd hx
     show if Region.wanted o (Go.yielded all a.tmps) then _ else _
     rw [if_neg (by simp [Region.wanted,hg,hy])]
     exact ⟨fun _ _=>trivial,jx hT hS hX all rest _ _ _ K h hK ρ _ w (aO.skip o.dst)⟩
    ·exact h.elim
   ·exact h.elim
end
end Go.Ev
