/- Regions in the text's order; code. -/
import Derived.Test.YtngdehlpoomaiaaGreatEvE
import Derived.TacticsIn
noncomputable section
set_option linter.unusedSectionVars false
set_option linter.unusedVariables false
set_option linter.unusedSimpArgs false
namespace Go.Ev
open Go.RowKit
structure lV (aq:e8) (W:World) (df:List Deferred) (st:AS) (ρ:Env) (a:Act) (w:World):Prop where
 tmps: ∀t,cz st.tmps t≠ .dead->a.tmps.getD t undef=(cz st.tmps t).ae ρ
 size:a.tmps.size=st.tmps.length
 defers:a.defers=df
 kn: ∀t,(cz st.tmps t).ok (· <st.heap.length)
 st:St aq W ρ (· <st.heap.length) (ai st.heap) w
theorem r9: ∀(l:List AV) (t:Nat),cz l t=l.getD t ck
 | [],t=>by simp [cz]
 |a::r,0=>rfl
 |a::r,t+1=>by simp [cz,r9 r t]
theorem iJ (l:List AV) (d t:Nat) (v:AV):cz (l.set d v) t=if t=d/\ d<l.length then v else cz l t:=by
 simp only [r9,List.getD,List.getElem?_set]
 by_cases h:d=t
 ·subst h
  by_cases h2:d<l.length
  ·simp [h2]
  ·simp [h2]
 ·simp [h,Ne.symm h]
theorem mC {l:List AV} {d:Nat} {x:Bool} (h:cz l d=bG x):l.set d (bG x)=l:=by
 apply List.ext_getElem?
 intro j
 rw [List.getElem?_set]
 split
 ·rename_i e;subst e
  rw [r9,List.getD] at h
  split
  ·rename_i hl
   rw [List.getElem?_eq_getElem hl] at h ⊢
   simpa using h.symm
  ·rename_i hl
   rw [List.getElem?_eq_none (Nat.le_of_not_lt hl)]
 ·rfl
theorem iK (a:Act) (dst:Option Nat) (v:Value) (t:Nat):(a.put dst v).tmps.getD t undef=match dst with|some d=>(if t=d/\ d<a.tmps.size then v else a.tmps.getD t undef)|none=>a.tmps.getD t undef:=by
 cases dst with
 |none=>rfl
 |some d=>
  simp only [Act.put,Array.getD_eq_getD_getElem?,Array.getElem?_setIfInBounds]
  by_cases h:d=t
  ·subst h
   by_cases h2:d<a.tmps.size
   ·simp [h2]
   ·simp [h2]
  ·simp [h,Ne.symm h]
theorem dG: ∀(ws:List (Nat×aF)) (h:List aF),(ws.foldl (fun h p=>h.set p.1 p.2) h).length=h.length
 | [],_=>rfl
 |p::r,h=>by simp only [List.foldl_cons];rw [dG r];simp
theorem y7: ∀(ws:List (Nat×aF)) (h:List aF),(∀p∈ws,p.1<h.length)-> ∀m,(ws.foldl (fun h p=>h.set p.1 p.2) h)[m]? =match bZ ws m with|some o=>some o|none=>h[m]?
 | [],_,_,m=>by simp [bZ]
 |p::r,h,hl,m=>by
  simp only [List.foldl_cons]
  rw [y7 r _ (fun q hq=>by simpa using hl q (by simp [hq]))]
  simp only [bZ]
  cases hr:bZ r m with
  |some o=>rfl
  |none=>
   simp only [List.getElem?_set]
   by_cases e:p.1=m
   ·subst e;simp [hl p (by simp)]
   ·simp [e]
theorem mI (st:AS) (dst:Option Nat) (r:Rec):(st.app dst r).heap.length=st.heap.length+r.fresh.length:=by
 simp [AS.app,dG]
theorem MG (st:AS) (dst:Option Nat) (r:Rec) (hw: ∀p∈r.writes,ai st.heap p.1≠none):ai (st.app dst r).heap=bU r st.heap.length (ai st.heap):=by
 have hl: ∀p∈r.writes,p.1<st.heap.length:=fun p hp=>by
  rcases Nat.lt_or_ge p.1 st.heap.length with h|h
  ·exact h
  ·exact absurd (by rw [bu,List.getElem?_eq_none h];rfl) (hw p hp)
 funext m
 simp only [bU,bu,AS.app]
 by_cases h:st.heap.length<=m/\ m<st.heap.length+r.fresh.length
 ·rw [if_pos h,List.getElem?_append_right (by rw [dG];exact h.1),dG]
 ·rw [if_neg h]
  rcases Nat.lt_or_ge m st.heap.length with h2|h2
  ·rw [List.getElem?_append_left (by rw [dG];exact h2),y7 _ _ hl]
   cases bZ r.writes m<;>rfl
  ·have hnone:bZ r.writes m=none:=by
    have: ∀(ws:List (Nat×aF)),(∀p∈ws,p.1<st.heap.length)->bZ ws m=none:=by
     intro ws
     induction ws with
     |nil=>intro _;rfl
     |cons p q ih=>
      intro hh
      simp only [bZ,ih (fun x hx=>hh x (by simp [hx]))]
      have:=hh p (by simp)
      rw [if_neg (by omega)]
    exact this _ hl
   rw [hnone,List.getElem?_eq_none (by simp [dG];omega),List.getElem?_eq_none h2]
theorem ql (l:List AV) (d:Option Nat) (v:AV):(jf l d v).length=l.length:=by cases d<;>simp [jf]
theorem jP (l:List AV) (d:Option Nat) (v:AV) (t:Nat):cz (jf l d v) t=match d with|some d=>(if t=d/\ d<l.length then v else cz l t)|none=>cz l t:=by
 cases d<;>simp [jf,iJ]
section
variable {aq:e8} {W:World} {df:List Deferred} {st:AS} {ρ:Env} {a:Act} {w:World}
theorem lV.eval (h:lV aq W df st ρ a w) (x:Operand) (hx:dw st.tmps x≠ .dead):a.eval x=(dw st.tmps x).ae ρ:=by
 cases x with
 |tmp t=>exact h.tmps t hx
 |const v=>exact (qT v ρ).symm
 |global g=>rfl
 |func f=>rfl
theorem lV.Lc (h:lV aq W df st ρ a w) (x:Operand):(dw st.tmps x).ok (· <st.heap.length):=by
 cases x with
 |tmp t=>exact h.kn t
 |const v=>exact x4 _ _
 |global g=>trivial
 |func f=>exact fun r hr=>absurd hr (by simp)
theorem mB (a:Act) (d:Option Nat) (v:Value):(a.put d v).tmps.size=a.tmps.size:=by cases d<;>simp [Act.put]
theorem put_defers (a:Act) (d:Option Nat) (v:Value):(a.put d v).defers=a.defers:=by cases d<;>rfl
theorem lV.app (h:lV aq W df st ρ a w) {dst:Option Nat} {r:Rec} (hw: ∀p∈r.writes,ai st.heap p.1≠none) {ρ':Env} {w':World} (pZ: ∀m,m<st.heap.length->ρ' m=ρ m)
  (HC:r.val.ok (mH (· <st.heap.length) st.heap.length r)) (hst:St aq W ρ' (mH (· <st.heap.length) st.heap.length r) (bU r st.heap.length (ai st.heap)) w'):
  lV aq W df (st.app dst r) ρ' (a.put dst (r.val.ae ρ')) w':=by
 have hkn:mH (· <st.heap.length) st.heap.length r=(· <(st.app dst r).heap.length):=by
  funext m;rw [mI];simp only [mH];apply propext;omega
 rw [hkn,<- MG st dst r hw] at hst
 rw [hkn] at HC
 refine ⟨fun t=> ?_,by rw [mB,h.size];simp [AS.app,ql],by rw [put_defers,h.defers],fun t=> ?_,hst⟩
 ·rw [iK]
  simp only [AS.app,jP]
  have hold:cz st.tmps t≠ .dead->a.tmps.getD t undef=(cz st.tmps t).ae ρ':=fun hd=>by rw [h.tmps t hd];exact (AV.bt pZ _ (h.kn t)).symm
  cases dst with
  |none=>exact hold
  |some d=>
   simp only [h.size]
   split
   ·intro _;rfl
   ·exact hold
 ·have hold:(cz st.tmps t).ok (· <(st.app dst r).heap.length):=AV.aV (fun m hm=>by rw [mI];omega) _ (h.kn t)
  simp only [AS.app,jP]
  cases dst with
  |none=>exact hold
  |some d=>
   dsimp only
   split
   ·exact HC
   ·exact hold
theorem lV.skip (h:lV aq W df st ρ a w) (dst:Option Nat):lV aq W df {st with tmps:=jf st.tmps dst ck} ρ (a.put dst undef) w:=by
 refine ⟨fun t=> ?_,by rw [mB,h.size];simp [ql],by rw [put_defers,h.defers],fun t=> ?_,h.st⟩
 ·rw [iK]
  simp only [jP]
  cases dst with
  |none=>exact h.tmps t
  |some d=>
   simp only [h.size]
   split
   ·intro _;rfl
   ·exact h.tmps t
 ·simp only [jP]
  cases dst with
  |none=>exact h.kn t
  |some d=>
   dsimp only
   split
   ·exact sM _
   ·exact h.kn t
def jY (π:List Src) (Γ:HP) (ρ:Env):Env:=fun n=>match π[n]? with
 |some (.same m)=>ρ m
 |some .nil=>match Γ n with
  |some (.row t _ _)=> {es:=t.size}
  |_=> {}
 |some (.cells m len)=>match Γ n with
  |some (.row t _ _)=> {blk:=(ρ m).blk,base:=addrOf ρ m 0,len:=len,cap:=len,es:=t.size}
  |_=> {base:=addrOf ρ m 0,len:=len,cap:=len}
 |some (.mt m off)=>match Γ n with
  |some (.row t _ _)=> {base:=addrOf ρ m off,es:=t.size}
  |_=> {base:=addrOf ρ m off}
 |some (.any m)=>ρ m
 |none=> {}
section
variable {π:List Src} {Γ:HP}
theorem nS {n m:Nat} (h:π[n]? =some (.same m)):jY π Γ ρ n=ρ m:=by simp [jY,h]
theorem bq {n m:Nat} (h:iL π n=some m):jY π Γ ρ n=ρ m/\ n<π.length:=by
 unfold iL at h
 split at h
 ·rename_i m' he
  cases h
  exact ⟨nS he,(List.getElem?_eq_some_iff.1 he).1⟩
 ·cases h
theorem su: ∀(l m:List Ref),jw π l=some m->l.map (Ref.ae (jY π Γ ρ))=m.map (Ref.ae ρ)/\ ∀r∈l,r.ok (· <π.length)
 | [],m,h=>by simp only [jw,Option.some.injEq] at h;subst h;simp
 |r::l,m,h=>by
  simp only [jw] at h
  split at h
  ·rename_i q m' h1 h2
   cases h
   obtain ⟨e1,e2⟩:=su l m' h2
   have h3:r.ae (jY π Γ ρ)=q.ae ρ/\ r.ok (· <π.length):=by
    cases r with
    |ext v=>simp only [oB,Option.some.injEq] at h1;subst h1;exact ⟨rfl,trivial⟩
    |loc n o=>
     simp only [oB] at h1
     split at h1
     ·rename_i k hk;cases h1
      obtain ⟨e3,e4⟩:=bq (Γ:=Γ) (ρ:=ρ) hk
      exact ⟨by simp [Ref.ae,addrOf,e3],e4⟩
     ·cases h1
    |elem n j=>
     simp only [oB] at h1
     split at h1
     ·rename_i k hk;cases h1
      obtain ⟨e3,e4⟩:=bq (Γ:=Γ) (ρ:=ρ) hk
      exact ⟨by simp [Ref.ae,e3],e4⟩
     ·cases h1
    |full n=>
     simp only [oB] at h1
     split at h1
     ·rename_i k hk;cases h1
      obtain ⟨e3,e4⟩:=bq (Γ:=Γ) (ρ:=ρ) hk
      exact ⟨by simp [Ref.ae,e3],e4⟩
     ·cases h1
    |mp n=>
     simp only [oB] at h1
     split at h1
     ·rename_i k hk;cases h1
      obtain ⟨e3,e4⟩:=bq (Γ:=Γ) (ρ:=ρ) hk
      exact ⟨by simp [Ref.ae,e3],e4⟩
     ·cases h1
   refine ⟨by simp [h3.1,e1],fun x hx=> ?_⟩
   rcases List.mem_cons.1 hx with rfl|hx
   ·exact h3.2
   ·exact e2 x hx
  ·cases h
theorem JG: ∀(c q:Cell),jn π c=some q->c.ae (jY π Γ ρ)=q.ae ρ/\ c.ok (· <π.length)
 | .raw v,q,h=>by simp only [jn,Option.some.injEq] at h;subst h;exact ⟨rfl,trivial⟩
 | .ptr n o,q,h=>by
  simp only [jn] at h
  split at h
  ·rename_i k hk;cases h
   obtain ⟨e3,e4⟩:=bq (Γ:=Γ) (ρ:=ρ) hk
   exact ⟨by simp [Cell.ae,addrOf,e3],e4⟩
  ·cases h
 | .lY n o,q,h=>by
  simp only [jn] at h
  split at h
  ·rename_i k hk;cases h
   obtain ⟨e3,e4⟩:=bq (Γ:=Γ) (ρ:=ρ) hk
   exact ⟨by simp [Cell.ae,addrOf,e3],e4⟩
  ·cases h
 | .sl n o l c,q,h=>by
  simp only [jn] at h
  split at h
  ·rename_i k hk;cases h
   obtain ⟨e3,e4⟩:=bq (Γ:=Γ) (ρ:=ρ) hk
   exact ⟨by simp [Cell.ae,addrOf,e3],e4⟩
  ·cases h
 | .cW n j z,q,h=>by
  simp only [jn] at h
  split at h
  ·rename_i k hk;cases h
   obtain ⟨e3,e4⟩:=bq (Γ:=Γ) (ρ:=ρ) hk
   exact ⟨by simp [Cell.ae,e3],e4⟩
  ·cases h
 | .fB n j z,q,h=>by
  simp only [jn] at h
  split at h
  ·rename_i k hk;cases h
   obtain ⟨e3,e4⟩:=bq (Γ:=Γ) (ρ:=ρ) hk
   exact ⟨by simp [Cell.ae,e3],e4⟩
  ·cases h
 | .HA n,q,h=>by
  simp only [jn] at h
  split at h
  ·rename_i k hk;cases h
   obtain ⟨e3,e4⟩:=bq (Γ:=Γ) (ρ:=ρ) hk
   exact ⟨by simp [Cell.ae,e3],e4⟩
  ·cases h
 | .mp n,q,h=>by
  simp only [jn] at h
  split at h
  ·rename_i k hk;cases h
   obtain ⟨e3,e4⟩:=bq (Γ:=Γ) (ρ:=ρ) hk
   exact ⟨by simp [Cell.ae,e3],e4⟩
  ·cases h
 | .mv f a rs,q,h=>by
  simp only [jn] at h
  split at h
  ·rename_i k hk;cases h
   obtain ⟨e3,e4⟩:=su (Γ:=Γ) (ρ:=ρ) _ _ hk
   exact ⟨by simp only [Cell.ae,e3],e4⟩
  ·cases h
 | .iT f a cap,q,h=>by
  simp only [jn] at h
  split at h
  ·rename_i k hk;cases h
   obtain ⟨e3,e4⟩:=su (Γ:=Γ) (ρ:=ρ) _ _ hk
   exact ⟨by simp only [Cell.ae,e3],e4⟩
  ·cases h
 | .full n,q,h=>by
  simp only [jn] at h
  split at h
  ·rename_i m he
   cases h
   exact ⟨by simp [Cell.ae,nS he],(List.getElem?_eq_some_iff.1 he).1⟩
  ·rename_i he
   cases h
   refine ⟨?_,(List.getElem?_eq_some_iff.1 he).1⟩
   simp only [Cell.ae,jY,he]
   split<;>rfl
  ·rename_i m len he
   cases h
   refine ⟨?_,(List.getElem?_eq_some_iff.1 he).1⟩
   simp only [Cell.ae,jY,he]
   split<;>rfl
  ·rename_i m off he
   cases h
   refine ⟨?_,(List.getElem?_eq_some_iff.1 he).1⟩
   simp only [Cell.ae,jY,he]
   split<;>rfl
  ·rename_i m he
   cases h
   exact ⟨by simp only [Cell.ae,jY,he],(List.getElem?_eq_some_iff.1 he).1⟩
  ·cases h
theorem lA: ∀(l m:List Cell),hO π l=some m->l.map (Cell.ae (jY π Γ ρ))=m.map (Cell.ae ρ)/\ ∀r∈l,r.ok (· <π.length)
 | [],m,h=>by simp only [hO,Option.some.injEq] at h;subst h;simp
 |r::l,m,h=>by
  simp only [hO] at h
  split at h
  ·rename_i q m' h1 h2
   cases h
   obtain ⟨e1,e2⟩:=lA l m' h2
   obtain ⟨e3,e4⟩:=JG (Γ:=Γ) (ρ:=ρ) _ _ h1
   refine ⟨by simp [e3,e1],fun x hx=> ?_⟩
   rcases List.mem_cons.1 hx with rfl|hx
   ·exact e4
   ·exact e2 x hx
  ·cases h
theorem JF (a q:A0) (h:H8 π a=some q):a.ae (jY π Γ ρ)=q.ae ρ/\ a.ok (· <π.length):=by
 cases a with
 |one c=>
  simp only [H8] at h
  split at h
  ·rename_i k hk;cases h;exact JG _ _ hk
  ·cases h
 |agg cs=>
  simp only [H8] at h
  split at h
  ·rename_i k hk;cases h
   obtain ⟨e1,e2⟩:=lA (Γ:=Γ) (ρ:=ρ) _ _ hk
   exact ⟨by simp only [A0.ae,e1],e2⟩
  ·cases h
theorem FX: ∀(l m:List A0),gy π l=some m->l.map (A0.ae (jY π Γ ρ))=m.map (A0.ae ρ)/\ ∀r∈l,r.ok (· <π.length)
 | [],m,h=>by simp only [gy,Option.some.injEq] at h;subst h;simp
 |r::l,m,h=>by
  simp only [gy] at h
  split at h
  ·rename_i q m' h1 h2
   cases h
   obtain ⟨e1,e2⟩:=FX l m' h2
   obtain ⟨e3,e4⟩:=JF (Γ:=Γ) (ρ:=ρ) _ _ h1
   refine ⟨by simp [e3,e1],fun x hx=> ?_⟩
   rcases List.mem_cons.1 hx with rfl|hx
   ·exact e4
   ·exact e2 x hx
  ·cases h
theorem JH (a q:AV) (h:sv π a=some q):a.ae (jY π Γ ρ)=q.ae ρ/\ a.ok (· <π.length):=by
 cases a with
 |v a=>
  simp only [sv] at h
  split at h
  ·rename_i k hk;cases h;exact JF _ _ hk
  ·cases h
 |nC l=>
  simp only [sv] at h
  split at h
  ·rename_i k hk;cases h
   obtain ⟨e1,e2⟩:=FX (Γ:=Γ) (ρ:=ρ) _ _ hk
   exact ⟨by simp only [AV.ae,e1],e2⟩
  ·cases h
 |dead=>cases h
theorem sL: ∀(l m:List AV),GZ π l m->m.length=l.length/\ ∀t,cz m t= .dead\/ sv π (cz m t)=some (cz l t)
 | [],[],_=>⟨rfl,fun t=> .inr rfl⟩
 |x::r,.dead::s,h=>by
  obtain ⟨h1,h2⟩:=sL r s h
  exact ⟨by simp [h1],fun t=>by cases t with|zero=>exact .inl rfl|succ t=>exact h2 t⟩
 |x::r,.v y::s,h=>by
  obtain ⟨h1,h2⟩:=sL r s h.2
  exact ⟨by simp [h1],fun t=>by cases t with|zero=>exact .inr h.1|succ t=>exact h2 t⟩
 |x::r,.nC y::s,h=>by
  obtain ⟨h1,h2⟩:=sL r s h.2
  exact ⟨by simp [h1],fun t=>by cases t with|zero=>exact .inr h.1|succ t=>exact h2 t⟩
 | [],_::_,h=>h.elim
 |_::_,[],h=>h.elim
theorem E8 {h0:List aF} : ∀(ss:List Src) (l:List aF),sQ π h0 ss l->ss.length=l.length/\ ∀n o,ai l n=some o-> ∃s,ss[n]? =some s/\ Dk π h0 s o
 | [],[],_=>⟨rfl,fun n o ho=>by simp [ai] at ho⟩
 |s::r,o::l,h=>by
  have main:sQ π h0 r l->(ai (o::l) 0=some o->Dk π h0 s o)->(s::r).length=(o::l).length/\ ∀n p,ai (o::l) n=some p-> ∃q,(s::r)[n]? =some q/\ Dk π h0 q p:=fun h1 h2=>by
   obtain ⟨e1,e2⟩:=E8 r l h1
   refine ⟨by simp [e1],fun n p hp=> ?_⟩
   cases n with
   |zero=>
    have:p=o:=by
     rw [bu] at hp
     cases o<;>simp_all [live]
    subst this
    exact ⟨s,rfl,h2 hp⟩
   |succ n=>exact e2 n p (by simpa [ai] using hp)
  cases o with
  |gone=>exact main h fun h=>by simp [ai] at h
  |_=>exact main h.2 fun _=>h.1
 | [],_::_,h=>by unfold sQ at h;exact h.elim
 |_::_,[],h=>by unfold sQ at h;exact h.elim
theorem Pt: ∀(ss:List Src) (l:List aF) (n m:Nat) (s:Src),(ai l n).isSome=true->ss[n]? =some s->BT s=some m->m∈vo ss l
 | [],_,n,m,s,_,h,_=>by simp at h
 |_::_,[],n,m,s,h,_,_=>by simp [ai] at h
 |q::r,o::l,n,m,s,h1,h2,h3=>by
  have tail: ∀k,n=k+1->m∈vo r l:=fun k e=>by
   subst e
   exact Pt r l k m s (by simpa [ai] using h1) (by simpa using h2) h3
  cases n with
  |zero=>
   simp only [List.getElem?_cons_zero,Option.some.injEq] at h2
   subst h2
   cases o with
   |gone=>simp [ai] at h1
   |_=>simp [vo,h3]
  |succ n=>
   have:=tail n rfl
   cases o with
   |gone=>exact this
   |_=>simp only [vo];split<;>simp [this]
theorem Ps: ∀(ss:List Src) (l:List aF),(vo ss l).Nodup-> ∀n n' m s s',(ai l n).isSome=true->(ai l n').isSome=true->ss[n]? =some s->ss[n']? =some s'->BT s=some m->BT s'=some m->n=n'
 | [],_,_,n,_,_,s,_,_,_,h,_,_,_=>by simp at h
 |_::_,[],_,n,_,_,s,_,h,_,_,_,_,_=>by simp [ai] at h
 |q::r,o::l,hn,n,n',m,s,s',h1,h2,h3,h4,h5,h6=>by
  have hz: ∀k,(ai (o::l) 0).isSome=true->BT q=some m->(ai (o::l) (k+1)).isSome=true-> ∀s,(q::r)[k+1]? =some s->BT s=some m->False:=fun k g1 g2 g3 s g4 g5=>by
   have:=Pt r l k m s (by simpa [ai] using g3) (by simpa using g4) g5
   cases o with
   |gone=>simp [ai] at g1
   |_=>
    simp only [vo,g2] at hn
    exact (List.nodup_cons.1 hn).1 this
  have hr:(vo r l).Nodup:=by
   cases o with
   |gone=>exact hn
   |_=>
    simp only [vo] at hn
    split at hn
    ·exact (List.nodup_cons.1 hn).2
    ·exact hn
  cases n with
  |zero=>
   cases n' with
   |zero=>rfl
   |succ n'=>
    simp only [List.getElem?_cons_zero,Option.some.injEq] at h3
    subst h3
    exact (hz n' h1 h5 h2 s' h4 h6).elim
  |succ n=>
   cases n' with
   |zero=>
    simp only [List.getElem?_cons_zero,Option.some.injEq] at h4
    subst h4
    exact (hz n h2 h6 h1 s h3 h5).elim
   |succ n'=>
    rw [Ps r l hr n n' m s s' (by simpa [ai] using h1) (by simpa [ai] using h2) (by simpa using h3) (by simpa using h4) h5 h6]
theorem tP: ∀(n:Nat),Bi π n=true-> ∀m,m<n->π[m]? =some (.same m)
 |0,_,m,hm=>by omega
 |n+1,h,m,hm=>by
  simp only [Bi,Bool.and_eq_true] at h
  by_cases e:m=n
  ·subst e
   have h1:=h.1
   split at h1
   ·rename_i k hk
    rw [hk];simp at h1;rw [h1]
   ·cases h1
  ·exact tP n h.2 m (by omega)
end
theorem Oz {π:List Src} {g c:Nat} {es:Array MapEntry} {mY:Nat} {ka:Bool} {k u:Ty} {l:List (k.T×List u.T)} {cur:Option (k.T×Nat)} {p:aF} (h:fH π (.NT g c es mY ka k u l cur)=some p):
  ∃m d cur',iL π g=some m/\ iL π c=some d/\ (∀q,cur=some q-> ∃q',iL π q.2=some q'/\ cur'=some (q.1,q'))/\ p= .NT m d es mY ka k u l cur':=by
 simp only [fH] at h
 cases h1:iL π g with
 |none=>rw [h1] at h;cases h
 |some m=>
  cases h2:iL π c with
  |none=>rw [h1,h2] at h;cases h
  |some d=>
   rw [h1,h2] at h
   cases cur with
   |none=>
    cases h
    exact ⟨m,d,none,rfl,rfl,fun q hq=>(by cases hq),rfl⟩
   |some q=>
    obtain ⟨a,q⟩:=q
    dsimp only at h
    cases h3:iL π q with
    |none=>rw [h3] at h;cases h
    |some q'=>
     rw [h3] at h
     cases h
     exact ⟨m,d,_,rfl,rfl,fun p hp=>(by cases hp;exact ⟨q',h3,rfl⟩),rfl⟩
theorem lV.ae2 (h:lV aq W df st ρ a w) {st':AS} {π:List Src} (hw:Ren π st st'):lV aq W df st' (jY π (ai st'.heap) ρ) a w:=by
 obtain ⟨hl,ht⟩:=sL _ _ hw.tmps
 obtain ⟨w7,hh⟩:=E8 _ _ hw.heap
 have ie:=eX hw.inj
 let ρ':=jY π (ai st'.heap) ρ
 have hlt: ∀n o,ai st'.heap n=some o->n<st'.heap.length:=fun n o ho=>by
  rcases Nat.lt_or_ge n st'.heap.length with hn|hn
  ·exact hn
  ·simp [ai,List.getElem?_eq_none hn] at ho
 have hsrc: ∀n b,(ai st'.heap n).isSome=true->(ρ' n).has b-> ∃s m,π[n]? =some s/\ BT s=some m/\ (ai st.heap m).isSome=true/\ (ρ m).has b:=fun n b hn hb=>by
  obtain ⟨o,ho⟩:=Option.isSome_iff_exists.1 hn
  obtain ⟨s,hs,mG⟩:=hh n o ho
  cases s with
  |same m=>
   obtain ⟨p,hp,_⟩:=mG
   refine ⟨_,m,hs,rfl,by simp [hp],?_⟩
   rw [<- show ρ' n=ρ m from nS hs];exact hb
  |nil=>
   obtain ⟨t,rk,rfl,_⟩:=mG
   simp only [ρ',jY,hs,ho] at hb;exact absurd (jd.1 hb) (fun h=>by cases h)
  |mt m off=>
   obtain ⟨t,cs,e,rfl,_⟩:=mG
   simp only [ρ',jY,hs,ho] at hb;exact absurd (jd.1 hb) (fun h=>by cases h)
  |any m=>
   obtain ⟨t,l,rk,rfl,hp,_⟩:=mG
   simp only [ρ',jY,hs] at hb
   exact ⟨_,m,hs,rfl,by simp [hp],hb⟩
  |cells m len=>
   obtain ⟨t,l,cs,e,rk,rfl,_,hp,_⟩:=mG
   simp only [ρ',jY,hs,ho] at hb
   exact ⟨_,m,hs,rfl,by simp [hp],.inl (jd.1 hb)⟩
 have vU: ∀b,HI (ai st'.heap) b->HI (ai st.heap) b:=fun b ⟨n,S,h1,h2⟩=>by
  obtain ⟨s,hs,mG⟩:=hh n _ h1
  cases s with
  |same m=>
   obtain ⟨p,hp,hr⟩:=mG
   simp only [fH,Option.some.injEq] at hr
   subst hr
   exact ⟨m,S,hp,h2⟩
  |nil=>obtain ⟨_,_,e,_⟩:=mG;cases e
  |mt m off=>obtain ⟨_,_,_,e,_⟩:=mG;cases e
  |any m=>obtain ⟨_,_,_,e,_⟩:=mG;cases e
  |cells m len=>obtain ⟨_,_,_,_,_,e,_⟩:=mG;cases e
 have hfz: ∀b,dM ρ (ai st.heap) w b->dM ρ' (ai st'.heap) w b/\ w.heap[b]? =w.heap[b]? :=fun b hb=>by
  refine ⟨⟨hb.1,?_⟩,rfl⟩
  rintro (⟨n,h1,h2⟩|⟨n,S,h1,h2⟩)
  ·obtain ⟨s,m,_,_,h5,h6⟩:=hsrc n b h1 h2
   exact hb.2 (.inl ⟨m,h5,h6⟩)
  ·exact hb.2 (.inr (vU b ⟨n,S,h1,h2⟩))
 show lV aq W df st' ρ' a w
 refine ⟨fun t hd=> ?_,by rw [h.size,hl],h.defers,fun t=> ?_,⟨h.st.fr,fun n o ho=> ?_,fun n o ho=> ?_,fun n n' b hn hn' hb hb'=> ?_,fun n b hn hb=> ?_,fun b P9=> ?_,fun n o ho=> ?_⟩⟩
 rotate_right
 ·obtain ⟨s,hs,mG⟩:=hh n o ho
  cases s with
  |same m=>
   obtain ⟨p,hp,hr⟩:=mG
   rw [show ρ' n=ρ m from nS hs]
   rcases h.st.sR m p hp with ⟨g,rfl⟩|he
   ·cases o with
    |set g'=>exact .inl ⟨_,rfl⟩
    |_=>
     simp only [fH] at hr
     first
     |(cases hr;done)
     |(split at hr<;>cases hr)
     |(split at hr<;>first|(cases hr;done)|(split at hr<;>cases hr))
   ·exact .inr he
  |nil=>
   obtain ⟨t,rk,rfl,_⟩:=mG
   exact .inr (by simp only [ρ',jY,hs,ho])
  |mt m off=>
   obtain ⟨t,cs,e,rfl,_⟩:=mG
   exact .inr (by simp only [ρ',jY,hs,ho])
  |any m=>
   obtain ⟨t,l,rk,rfl,hp,_⟩:=mG
   refine .inr ?_
   simp only [ρ',jY,hs]
   exact (h.st.sR m _ hp).elim (fun ⟨_,e⟩=>by cases e) id
  |cells m len=>
   obtain ⟨t,l,cs,e,rk,rfl,_⟩:=mG
   exact .inr (by simp only [ρ',jY,hs,ho])
 rotate_right
 ·obtain ⟨h1,h2⟩:=h.st.oK b (vU b P9)
  refine ⟨h1,?_⟩
  rintro ⟨n,h3,h4⟩
  obtain ⟨s,m,_,_,h5,h6⟩:=hsrc n b h3 h4
  exact h2 ⟨m,h5,h6⟩
 ·rcases ht t with e|e
  ·exact absurd e hd
  ·have hne:cz st.tmps t≠ .dead:=fun e2=>by
    rw [e2] at e
    revert e;cases cz st'.tmps t<;>simp only [sv]<;>(try split)<;>intro e<;>cases e
   rw [h.tmps t hne]
   exact (JH _ _ e).1.symm
 ·rcases ht t with e|e
  ·rw [e];trivial
  ·rw [<- w7];exact (JH (Γ:=ai st'.heap) (ρ:=ρ) _ _ e).2
 ·obtain ⟨s,hs,mG⟩:=hh n o ho
  cases s with
  |same m=>
   obtain ⟨p,hp,hr⟩:=mG
   have hn:ρ' n=ρ m:=nS hs
   have aR:=h.st.at_ m p hp
   cases o with
   |cells cs e=>
    simp only [fH] at hr
    split at hr
    ·rename_i q hq
     cases hr
     obtain ⟨b,hb,hhp⟩:=aR
     exact ⟨b,by rw [hn];exact hb,by rw [hhp,(lA (Γ:=ai st'.heap) (ρ:=ρ) _ _ hq).1]⟩
    ·cases hr
   |row t l rk=>
    simp only [fH,Option.some.injEq] at hr
    subst hr
    obtain ⟨o1,o2,o3,sub,o4⟩:=aR
    rw [br,hn]
    exact ⟨o1,o2,o3,sub,o4.keep hfz (fun _ _ h=>h) fun _ _=>rfl⟩
   |alias k z q=>
    simp only [fH] at hr
    split at hr
    ·rename_i k' hk
     cases hr
     have:=(bq (Γ:=ai st'.heap) (ρ:=ρ) hk).1
     rw [br,hn,show ρ' k=ρ k' from this]
     exact aR
    ·cases hr
   |gone=>cases hr
   |loop r z j=>
    simp only [fH,Option.some.injEq] at hr
    subst hr
    obtain ⟨b,hb,hhp⟩:=aR
    exact ⟨b,by rw [hn];exact hb,hhp⟩
   |hide S=>
    simp only [fH,Option.some.injEq] at hr
    subst hr
    rw [br,hn];exact aR
   |map ka va kt vt l=>
    simp only [fH,Option.some.injEq] at hr
    subst hr
    rw [br,hn];exact aR
   |cw aZ n0=>
    simp only [fH] at hr
    split at hr
    ·rename_i hf
     cases hr
     exact ⟨by rw [hn];exact aR.1,fun i hi=>by rw [show ρ' i=ρ i from nS (tP n0 hf i hi)];exact aR.2 i hi⟩
    ·cases hr
   |dp t l c s0 kn=>
    simp only [fH] at hr
    split at hr
    ·rename_i c' hc
     cases hr
     have:=(bq (Γ:=ai st'.heap) (ρ:=ρ) hc).1
     rw [br,hn,show ρ' c=ρ c' from this]
     exact aR
    ·cases hr
   |nv g c j q u=>
    simp only [fH] at hr
    split at hr
    ·rename_i g' c' hg hc
     cases hr
     have e:=(bq (Γ:=ai st'.heap) (ρ:=ρ) hc).1
     have e':=(bq (Γ:=ai st'.heap) (ρ:=ρ) hg).1
     rw [br,hn,show ρ' c=ρ c' from e,show ρ' g=ρ g' from e'];exact aR
    ·cases hr
   |IP ka k u l c q=>
    simp only [fH] at hr
    split at hr
    ·rename_i c' hc
     cases hr
     have e:=(bq (Γ:=ai st'.heap) (ρ:=ρ) hc).1
     rw [br,hn,show ρ' c=ρ c' from e];exact aR
    ·cases hr
   |set g=>
    simp only [fH] at hr
    split at hr
    ·cases hr
     rw [br,hn];exact aR
    ·cases hr
   |gv g c k u x l=>
    simp only [fH] at hr
    split at hr
    ·rename_i g' c' hg hc
     cases hr
     have e:=(bq (Γ:=ai st'.heap) (ρ:=ρ) hc).1
     rw [br,hn,show ρ' c=ρ c' from e];exact aR
    ·cases hr
   |rc cs=>
    simp only [fH] at hr
    split at hr
    ·rename_i q hq
     cases hr
     rw [br,hn]
     refine ⟨aR.1,fun i c hc=> ?_⟩
     have e:=(lA (Γ:=ai st'.heap) (ρ:=ρ) _ _ hq).1
     have e1:(cs.map (Cell.ae ρ'))[i]? =some (c.ae ρ'):=by rw [List.getElem?_map,hc];rfl
     rw [show cs.map (Cell.ae ρ')=q.map (Cell.ae ρ) from e,List.getElem?_map] at e1
     obtain ⟨d,hd,e2⟩:=Option.map_eq_some_iff.1 e1
     rw [<- e2]
     obtain ⟨a,h1,h2,h3⟩:=aR.2 i d hd
     exact ⟨a,h1,h2,(hfz _ h3).1⟩
    ·cases hr
   |hmap es mY=>
    simp only [fH,Option.some.injEq] at hr
    subst hr
    rw [br,hn];exact aR
   |NT g c es mY ka k u l cur=>
    have key: ∀(m' d:Nat) (cur':Option (k.T×Nat)),iL π g=some m'->iL π c=some d->(∀q,cur=some q-> ∃q',iL π q.2=some q'/\ cur'=some (q.1,q'))->br (dM ρ (ai st.heap) w) (qU aq W) ρ m (.NT m' d es mY ka k u l cur') w->br (dM ρ' (ai st'.heap) w) (qU aq W) ρ' n (.NT g c es mY ka k u l cur) w:=by
     intro m' d cur' hg hc akK aR
     have e1:ρ' g=ρ m':=(bq (Γ:=ai st'.heap) (ρ:=ρ) hg).1
     have e2:ρ' c=ρ d:=(bq (Γ:=ai st'.heap) (ρ:=ρ) hc).1
     rw [br] at aR
     rw [br,hn,e1,e2]
     obtain ⟨a1,a2,a3,b,since,seen,c0,a4,a5,a6,a7,a8,a9,a10,a11⟩:=aR
     refine ⟨a1,a2,a3,b,since,seen,c0,a4,a5,a6,a7,a8,a9,a10,fun q hq=> ?_⟩
     obtain ⟨q',h1,h2⟩:=akK q hq
     have e3:ρ' q.2=ρ q':=(bq (Γ:=ai st'.heap) (ρ:=ρ) h1).1
     rw [e3]
     exact a11 _ h2
    obtain ⟨m',d,cur',h1,h2,h3,rfl⟩:=Oz hr
    exact key m' d cur' h1 h2 h3 aR
  |nil=>
   obtain ⟨t,rk,rfl,p9⟩:=mG
   have e:ρ' n= {es:=t.size} :=by simp only [ρ',jY,hs,ho]
   rw [br,e]
   exact ⟨rfl,rfl,Nat.le_refl _,fun _=>(none,0),fun i v hv=>by simp [ay,aH] at hv,fun q u l' hq=>by simp [ay] at hq,fun e=>absurd e p9,fun _=> .inl ⟨rfl,rfl,rfl,fun _=>rfl⟩⟩
  |mt m off=>
   obtain ⟨t,cs,e,rfl,hp⟩:=mG
   have e1:ρ' n= {base:=addrOf ρ m off,es:=t.size} :=by simp only [ρ',jY,hs,ho]
   rw [br,e1]
   exact ⟨rfl,rfl,Nat.le_refl _,fun _=>(none,0),fun i v hv=>by simp [ay,aH] at hv,fun q u l' hq=>by simp [ay] at hq,fun e=>(by cases e),fun _=> .inl ⟨rfl,rfl,rfl,fun q=>absurd rfl q⟩⟩
  |any m=>
   obtain ⟨t,l,rk,rfl,hp,p9⟩:=mG
   have e1:ρ' n=ρ m:=by simp only [ρ',jY,hs]
   obtain ⟨o1,o2,o3,sub,o4⟩:=h.st.at_ m _ hp
   obtain ⟨m1,m2,m3,m4⟩:=o4.keep (fz':=dM ρ' (ai st'.heap) w) (pm':=qU aq W) hfz (fun _ _ h=>h) fun _ _=>rfl
   rw [br,e1]
   exact ⟨o1,o2,o3,sub,fun i v hv=>by
    obtain ⟨a,h1,h2,_⟩:=m1 i v hv
    exact ⟨a,h1,h2,fun e=>by cases e⟩,fun q u l' hq=>(m2 q u l' hq).mono fun b hb=>⟨⟨hb.1,fun e=>by cases e⟩,rfl⟩,fun e=>(by cases e),fun _=>(m4 p9).any⟩
  |cells m len=>
   obtain ⟨t,l,cs,e,rk,rfl,p9,hp,hf,hd,Nu⟩:=mG
   obtain ⟨b,hb,hhp⟩:=h.st.at_ m _ hp
   have e1:ρ' n= {blk:=some b,base:=some ⟨b,0,none⟩,len:=len,cap:=len,es:=t.size} :=by simp only [ρ',jY,hs,ho,addrOf,hb,Option.map_some]
   obtain ⟨hll,ys,r,hy,hyl,hal⟩:=UY (kf hf) _ _ _ _ hd
   have hr:r= []:=List.eq_nil_of_length_eq_zero (by have:=congrArg List.length hy;rw [List.length_append] at this;omega)
   subst hr
   rw [List.append_nil] at hy
   have hal:=hal yB w ρ (fun _=>False) (fun _=>none) w (fun _ hm=>by cases hm) (St.none w ρ)
   rw [<- hy] at hal
   obtain ⟨s1,s2⟩:=jH hal
   rw [br,e1]
   refine ⟨hll.symm,rfl,by rw [hll];exact Nat.le_refl _,q8 (cs.map (Cell.ae ρ)),fun i v hv=>⟨_,rfl,?_,fun e=>(by rcases p9 with rfl|rfl<;>cases e)⟩,fun q u l' hq=> ?_,fun e=>(by rcases p9 with rfl|rfl<;>cases e),fun _=>ik.new (.inr ⟨b,[],e,rfl,rfl,by rw [s1,List.append_nil];exact hhp,?_⟩)⟩
   ·rw [s1] at hv
    have e2:(⟨b,0,none⟩:Addr).add i=⟨b,i,none⟩:=by unfold Addr.add;split<;>simp_all
    rw [e2,bL hhp];exact hv
   ·obtain ⟨v,hv⟩:=eO hf (List.mem_of_getElem? hq)
    cases hv
   ·exact ⟨by rw [s1,List.append_nil];simp [Nu.1],Nat.le_trans (Nat.le_of_ble_eq_true Nu.2) (by decide)⟩
 ·obtain ⟨s,hs,mG⟩:=hh n o ho
  refine ⟨hlt n o ho,?_⟩
  cases s with
  |same m=>
   obtain ⟨p,hp,hr⟩:=mG
   cases o with
   |cells cs e=>
    simp only [fH] at hr
    split at hr
    ·rename_i q hq
     rw [<- w7];exact (lA (Γ:=ai st'.heap) (ρ:=ρ) _ _ hq).2
    ·cases hr
   |alias k z q=>
    simp only [fH] at hr
    split at hr
    ·rename_i k' hk
     rw [<- w7];exact (bq (Γ:=ai st'.heap) (ρ:=ρ) hk).2
    ·cases hr
   |cw aZ n0=>
    simp only [fH] at hr
    split at hr
    ·rename_i hf
     intro i hi
     rw [<- w7];exact (List.getElem?_eq_some_iff.1 (tP n0 hf i hi)).1
    ·cases hr
   |IP ka k u l c q=>
    simp only [fH] at hr
    split at hr
    ·rename_i c' hc
     rw [<- w7];exact (bq (Γ:=ai st'.heap) (ρ:=ρ) hc).2
    ·cases hr
   |set g=>
    simp only [fH] at hr
    split at hr
    ·rename_i c' hc
     rw [<- w7];exact (bq (Γ:=ai st'.heap) (ρ:=ρ) hc).2
    ·cases hr
   |dp t l c=>
    simp only [fH] at hr
    split at hr
    ·rename_i c' hc
     rw [<- w7];exact (bq (Γ:=ai st'.heap) (ρ:=ρ) hc).2
    ·cases hr
   |gv g c k u x l=>
    simp only [fH] at hr
    split at hr
    ·rename_i g' c' hg hc
     rw [<- w7];exact ⟨(bq (Γ:=ai st'.heap) (ρ:=ρ) hg).2,(bq (Γ:=ai st'.heap) (ρ:=ρ) hc).2⟩
    ·cases hr
   |nv g c j q u=>
    simp only [fH] at hr
    split at hr
    ·rename_i g' c' hg hc
     rw [<- w7];exact ⟨(bq (Γ:=ai st'.heap) (ρ:=ρ) hg).2,(bq (Γ:=ai st'.heap) (ρ:=ρ) hc).2⟩
    ·cases hr
   |rc cs=>
    simp only [fH] at hr
    split at hr
    ·rename_i q hq
     rw [<- w7];exact (lA (Γ:=ai st'.heap) (ρ:=ρ) _ _ hq).2
    ·cases hr
   |NT g c es mY ka k u l cur=>
    obtain ⟨m',d,cur',h1,h2,h3,rfl⟩:=Oz hr
    rw [<- w7]
    exact ⟨(bq (Γ:=ai st'.heap) (ρ:=ρ) h1).2,(bq (Γ:=ai st'.heap) (ρ:=ρ) h2).2,fun p hp=>by
     obtain ⟨q',h4,_⟩:=h3 p hp
     exact (bq (Γ:=ai st'.heap) (ρ:=ρ) h4).2⟩
   |_=>trivial
  |nil=>obtain ⟨t,rk,rfl,_⟩:=mG;trivial
  |mt m off=>obtain ⟨t,cs,e,rfl,_⟩:=mG;trivial
  |any m=>obtain ⟨t,l,rk,rfl,_⟩:=mG;trivial
  |cells m len=>obtain ⟨t,l,cs,e,rk,rfl,_⟩:=mG;trivial
 ·obtain ⟨s,m,h1,h2,h3,h4⟩:=hsrc n b hn hb
  obtain ⟨s',m',h1',h2',h3',h4'⟩:=hsrc n' b hn' hb'
  have:=h.st.dK m m' b h3 h3' h4 h4'
  subst this
  exact Ps _ _ ie n n' m s s' hn hn' h1 h1' h2 h2'
 ·obtain ⟨s,m,h1,h2,h3,h4⟩:=hsrc n b hn hb
  exact h.st.jX m b h3 h4
theorem lV.weak (h:lV aq W df st ρ a w) {st':AS} (hw:rq st st'): ∃ρ',lV aq W df st' ρ' a w:=by
 obtain ⟨π,hw⟩:=hw
 exact ⟨_,h.ae2 hw⟩
theorem lV.drawn (h:lV aq W df st ρ a w) (n:Nat) (hn:w.drawn<=n):lV aq W df st ρ a {w with drawn:=n} :=⟨h.tmps,h.size,h.defers,h.kn,h.st.drawn n hn⟩
theorem lV.yielded (h:lV aq W df st ρ a w) {ops:Array Oper} {j d:Nat} (hd:B9 ops j=some d) {x:Bool} (hx:cz st.tmps d=bG x):yielded ops a.tmps j=some x:=by
 have h1:=h.tmps d (by rw [hx];simp [bG])
 rw [hx] at h1
 have e1:(ops[j]?).bind (·.dst)=some d:=by
  unfold B9 at hd;split at hd
  ·rename_i o ho;simp [ho,hd]
  ·cases hd
 have e2:a.tmps[d]? =some (.bool x):=by
  rw [Array.getD_eq_getD_getElem?] at h1
  cases hq:a.tmps[d]? with
  |none=>rw [hq] at h1;cases h1
  |some v=>rw [hq] at h1;exact congrArg some h1
 simp [Go.yielded,e1,e2]
theorem lV.P7 (h:lV aq W df st ρ a w) {ops:Array Oper} {j d:Nat} (hd:B9 ops j=some d) (hx:cz st.tmps d= .nC []):Go.yielded ops a.tmps j=none:=by
 have h1:=h.tmps d (by rw [hx];simp)
 rw [hx] at h1
 have e1:(ops[j]?).bind (·.dst)=some d:=by
  unfold B9 at hd;split at hd
  ·rename_i o ho;simp [ho,hd]
  ·cases hd
 rw [Array.getD_eq_getD_getElem?] at h1
 cases hq:a.tmps[d]? with
 |none=>simp [Go.yielded,e1,hq]
 |some v=>
  rw [hq] at h1
  have e:v= .tuple #[]:=h1
  subst e
  simp [Go.yielded,e1,hq]
end
section
variable {P:Program} {ctx:Ctx} {aq:e8} {W:World} {df:List Deferred} {ro:Option Nat} {n:Nat} {Q:Exit->Act->World->Prop}
theorem yu {o:Op} {st:AS} {k:Rec->Prop} (h:pO ctx o st k):(∀x∈o.operands,dw st.tmps x≠ .dead)/\ DO ctx o (dw st.tmps) (ai st.heap) st.heap.length k:=by
 unfold pO at h
 split at h
 ·rename_i hn
  refine ⟨fun x hx e=> ?_,h⟩
  have:=List.all_eq_true.1 hn x (Array.mem_toList_iff.2 hx)
  rw [e] at this;simp [AV.Rf] at this
 ·exact h.elim
theorem adF (hT:aK P ctx.tt) (hS:fq P ctx) (hX:ru aq W ctx.X) {st:AS} {ρ:Env} {a:Act} {w:World} (aR:lV aq W df st ρ a w) {o:Oper} {k:Rec->Prop}
  (h:pO ctx o.op st k) {next:Act->World->Prop}
  (hn: ∀r,k r-> ∀ρ' a' w',lV aq W df (st.app o.dst r) ρ' a' w'->next a' w'):o.wpIn (fw ro) n P a w next Q:=by
 obtain ⟨ie,h⟩:=yu h
 refine aje hT hS h ro n aq W ρ w a next Q hX (fun x hx=>aR.eval x (ie x hx)) (fun x _=>aR.Lc x) aR.st ?_
 intro r ρ' w' hk hw pZ HC hst
 exact hn r hk ρ' _ w' (aR.app hw pZ HC hst)
theorem jD (hT:aK P ctx.tt) (hS:fq P ctx) (hX:ru aq W ctx.X) (all:Array Oper): ∀(l:List Oper) (dec:List Nat) (st:AS) (lg:List fR) (K:AS->List fR->Prop),nj ctx all l dec st lg K->
  (∀st' lg' ρ' a' w',K st' lg'->lV aq W df st' ρ' a' w'->Q .normal a' w')-> ∀ρ a w,lV aq W df st ρ a w->wpListIn (fw ro) n P all Q l a w
 | [],dec,st,lg,K,h,hK,ρ,a,w,aR=>hK st lg ρ a w h aR
 |o::rest,dec,st,lg,K,h,hK,ρ,a,w,aR=>by
  have exec: ∀(st:AS) (EF:List Nat) (lg':Rec->List fR),lV aq W df st ρ a w->pO ctx o.op st (fun r=>nj ctx all rest EF (st.app o.dst r) (lg' r) K)->
    o.wpIn (fw ro) n P a w (wpListIn (fw ro) n P all Q rest) Q:=by
   intro st EF lg' aR h
   exact adF hT hS hX aR h fun r hr ρ' a' w' c9=>jD hT hS hX all rest EF _ _ K hr hK ρ' a' w' c9
  unfold nj at h
  split at h
  ·rename_i hg
   show if Region.wanted o (Go.yielded all a.tmps) then _ else _
   rw [if_pos (by simp [Region.wanted,hg])]
   exact exec st dec _ aR h
  ·rename_i j want hg
   split at h
   ·rename_i d hd
    split at h
    ·rename_i x hx
     have hy:Go.yielded all a.tmps j=some x:=aR.yielded hd hx
     have hw:Region.wanted o (Go.yielded all a.tmps)=(x==want):=by
      simp only [Region.wanted,hg,hy];cases x<;>cases want<;>rfl
     show if Region.wanted o (Go.yielded all a.tmps) then _ else _
     rw [hw]
     split at h
     ·split at h
      ·rename_i e;subst e
       rw [if_pos (by simp)]
       exact exec st dec _ aR h
      ·rename_i e
       rw [if_neg (by simpa using e)]
       exact ⟨fun _ _=>trivial,jD hT hS hX all rest _ _ _ K h hK ρ _ w (aR.skip o.dst)⟩
     ·cases want with
      |true=>
       dsimp only at h
       cases x with
       |true=>
        have h:pO ctx o.op {st with tmps:=st.tmps.set d (bG true)} _:=h
        rw [if_pos (by rfl)]
        rw [mC hx] at h
        exact exec st _ _ aR h
       |false=>
        have h:nj ctx all rest (d::dec) {st with tmps:=jf (st.tmps.set d (bG false)) o.dst ck} (lg++ [lN st.heap.length]) K:=h
        rw [if_neg (by simp)]
        rw [mC hx] at h
        exact ⟨fun _ _=>trivial,jD hT hS hX all rest _ _ _ K h hK ρ _ w (aR.skip o.dst)⟩
      |false=>
       dsimp only at h
       cases x with
       |false=>
        have h:pO ctx o.op {st with tmps:=st.tmps.set d (bG false)} _:=h
        rw [if_pos (by rfl)]
        rw [mC hx] at h
        exact exec st _ _ aR h
       |true=>
        have h:nj ctx all rest (d::dec) {st with tmps:=jf (st.tmps.set d (bG true)) o.dst ck} (lg++ [lN st.heap.length]) K:=h
        rw [if_neg (by simp)]
        rw [mC hx] at h
        exact ⟨fun _ _=>trivial,jD hT hS hX all rest _ _ _ K h hK ρ _ w (aR.skip o.dst)⟩
    ·rename_i hx
     have hy:Go.yielded all a.tmps j=none:=aR.P7 hd hx
     show if Region.wanted o (Go.yielded all a.tmps) then _ else _
     rw [if_neg (by simp [Region.wanted,hg,hy])]
     exact ⟨fun _ _=>trivial,jD hT hS hX all rest _ _ _ K h hK ρ _ w (aR.skip o.dst)⟩
    ·exact h.elim
   ·exact h.elim
end
end Go.Ev
