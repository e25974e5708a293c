/- Each operation does what 'opE' says; a call does what its contract says. -/
import Derived.Test.YtngdehlpoomaiaaGreatEvD6
noncomputable section
set_option linter.unusedSectionVars false
set_option linter.unusedVariables false
set_option linter.unusedSimpArgs false
namespace Go.Ev
open Go.RowKit
def rA (P:Program) (f:FuncId) (X:Addr->Value->Prop) (args:List AV) (hp:HP) (nm:Nat) (r:Rec):Prop:=
 (∀p∈r.writes,hp p.1≠none)/\ ∀av W ρ Kn Γ w,uR av W X->(∀x∈args,x.ok Kn)->(∀m∈r.aF,Γ m=hp m)->(∀i,i<r.fresh.length-> ¬Kn (nm+i))->St av W ρ Kn Γ w->
  Calls P f (args.map (AV.ae ρ)).toArray w fun e w'=> ∃ρ',e= .returned (r.val.ae ρ')/\ (∀m,Kn m->ρ' m=ρ m)/\ r.val.ok (oI Kn nm r)/\ St av W ρ' (oI Kn nm r) (bV r nm Γ) w'
def aq (P:Program) (f:FuncId) (s:Spec):Prop:= ∀X args hp nm k,s X args hp nm k-> ∃r,rA P f X args hp nm r/\ k r
def b9 (P:Program) (f:FuncId):Prop:= ∀args w,(callFunc f args).run P w= .ok (.enter f args) w
def aj (P:Program) (specs:List (Nat×Spec)):Prop:= ∀f s,aL specs f=some s->b9 P f/\ aq P f s
theorem aj.nil (P:Program):aj P []:=fun _ _ h=>by cases h
theorem aj.cons {P:Program} {f:FuncId} {s:Spec} {l:List (Nat×Spec)} (he:b9 P f) (h:aq P f s) (hl:aj P l):aj P ((f,s)::l):=by
 intro g q hg
 unfold aL at hg
 split at hg
 ·rename_i e;subst e;cases hg;exact ⟨he,h⟩
 ·exact hl g q hg
def atY (P:Program) (n:Nat) (X:Addr->Value->Prop) (args:List AV) (hp:HP) (nm:Nat) (k:Rec->Prop):Prop:=
 ∀ro m av W ρ w,uR av W X->(∀x∈args,x.ok (· <nm))->St av W ρ (· <nm) hp w->
  ∃l f tmps assign body,(ρ n).1=some l/\ (Instr.yield l (args.map (AV.ae ρ)).toArray).run P w= .ok (.round l f tmps assign body) w/\
   RoundIn (fw ro) m P l f tmps assign body w fun e w'=> ∃r ρ',k r/\ (∀p∈r.writes,hp p.1≠none)/\ e= .returned (r.val.ae ρ')/\ (∀m,m<nm->ρ' m=ρ m)/\ r.val.ok (oI (· <nm) nm r)/\ St av W ρ' (oI (· <nm) nm r) (bV r nm hp) w'
def o9 (P:Program) (ys:List (Nat×Spec)):Prop:= ∀n s,aL ys n=some s-> ∀X args hp nm k,s X args hp nm k->atY P n X args hp nm k
def gM (P:Program) (X:Addr->Value->Prop) (f:FuncId) (ZK:cP):Prop:= ∀ys args heap R,ZK ys args heap R->o9 P ys-> ∀av W ρ w,uR av W X->(∀x∈args,x.ok (· <heap.length))->St av W ρ (· <heap.length) (ai heap) w->
 Calls P f (args.map (AV.ae ρ)).toArray w fun e w'=> ∃st ρ' v,e= .returned (v.ae ρ')/\ v.ok (· <st.heap.length)/\ R v st/\ St av W ρ' (· <st.heap.length) (ai st.heap) w'
def aH (P:Program) (X:Addr->Value->Prop) (its:List (Nat×cP)):Prop:= ∀f ZK,aL its f=some ZK->b9 P f/\ gM P X f ZK
structure e8 (P:Program) (ctx:Ctx):Prop where
 sp:aj P ctx.specs
 ys:o9 P ctx.ys
 its:aH P ctx.X ctx.its
structure RX (P:Program) (ctx:Ctx):Prop where
 sp:aj P ctx.specs
 ys:ctx.ys= []
 its:ctx.its= []
theorem o9.nil (P:Program):o9 P []:=fun _ _ h=>by cases h
theorem aH.nil (P:Program) (X:Addr->Value->Prop):aH P X []:=fun _ _ h=>by cases h
theorem aj.ctx {P:Program} {tt:List (Nat×TI)} {specs:List (Nat×Spec)} {X:Addr->Value->Prop} {lp:List (Nat×br)} (h:aj P specs):e8 P ⟨tt,specs,X,lp,[],[]⟩:=⟨h,o9.nil P,aH.nil P X⟩
section
variable (P:Program) (X:Addr->Value->Prop)
def bO (o:Oper) (ev:Operand->AV) (hp:HP) (nm:Nat) (r:Rec):Prop:=
 (∀p∈r.writes,hp p.1≠none)/\ ∀ro n av W ρ Kn Γ w a next Q,uR av W X->(∀x∈o.op.operands,a.eval x=(ev x).ae ρ)->(∀x∈o.op.operands,(ev x).ok Kn)->(∀m∈r.aF,Γ m=hp m)->
  (∀i,i<r.fresh.length-> ¬Kn (nm+i))->St av W ρ Kn Γ w->
  (∀ρ' w',(∀m,Kn m->ρ' m=ρ m)->r.val.ok (oI Kn nm r)->St av W ρ' (oI Kn nm r) (bV r nm Γ) w'->next (a.put o.dst (r.val.ae ρ')) w')->
  o.wpIn (fw ro) n P a w next Q
end
section
variable {P:Program} {X:Addr->Value->Prop} {hp:HP} {nm:Nat} {k:Rec->Prop} {o:Oper} {ev:Operand->AV}
theorem bO.lT {HM:(Nat->Prop)->Prop} {f:Env->Sem Value} {r:Rec} (hs:aO P X hp nm HM f (fun ρ=>r.val.ae ρ) r)
  (hok: ∀Kn,(∀x∈o.op.operands,(ev x).ok Kn)->HM Kn) (hd: ∀c,o.op≠ .defer c)
  (hx: ∀(a:Act) (ρ:Env),(∀x∈o.op.operands,a.eval x=(ev x).ae ρ)->execOp a.eval o=(do pure (.value (<- f ρ)))):bO P X o ev hp nm r:=by
 refine ⟨hs.1,?_⟩
 intro ro n av W ρ Kn Γ w a next Q hX he hk ht hf hst lO
 obtain ⟨ρ',w',hrun,sP,Oa,lB⟩:=hs.2 av W ρ Kn Γ w hX (hok Kn hk) ht hf hst
 refine ⟨fun _ _=>trivial,?_⟩
 rw [Oper.semAt_eq _ _ _ hd,hx a ρ he]
 simp only [Sem.run_bind,hrun,Result.andThen_ok,Sem.run_pure,Oper.uponIn]
 exact lO ρ' w' sP Oa lB
theorem bO.am8 {HM:(Nat->Prop)->Prop} {f:Env->Sem Unit} {r:Rec} (hs:aO P X hp nm HM f (fun _=>()) r) (hv:r.val=ck)
  (hok: ∀Kn,(∀x∈o.op.operands,(ev x).ok Kn)->HM Kn) (hd: ∀c,o.op≠ .defer c)
  (hx: ∀(a:Act) (ρ:Env),(∀x∈o.op.operands,a.eval x=(ev x).ae ρ)->execOp a.eval o=(do f ρ;pure .skip)):bO P X o ev hp nm r:=by
 refine ⟨hs.1,?_⟩
 intro ro n av W ρ Kn Γ w a next Q hX he hk ht hf hst lO
 obtain ⟨ρ',w',hrun,sP,Oa,lB⟩:=hs.2 av W ρ Kn Γ w hX (hok Kn hk) ht hf hst
 refine ⟨fun _ _=>trivial,?_⟩
 rw [Oper.semAt_eq _ _ _ hd,hx a ρ he]
 simp only [Sem.run_bind,hrun,Result.andThen_ok,Sem.run_pure,Oper.uponIn]
 have:=lO ρ' w' sP Oa lB
 rw [hv] at this;exact this
theorem bO.same {v:AV} {tc:List Nat} (hd: ∀c,o.op≠ .defer c) (hv: ∀Kn,(∀x∈o.op.operands,(ev x).ok Kn)->v.ok Kn)
  (hx: ∀(a:Act) (ρ:Env) (Γ:HP) (av:fG) (W w:World) (Kn:Nat->Prop),(∀x∈o.op.operands,a.eval x=(ev x).ae ρ)->(∀m∈tc,Γ m=hp m)->St av W ρ Kn Γ w->(execOp a.eval o).run P w= .ok (.value (v.ae ρ)) w):
  bO P X o ev hp nm {val:=v,aF:=tc} :=by
 refine ⟨fun p hp=>absurd hp (by simp),?_⟩
 intro ro n av W ρ Kn Γ w a next Q hX he hk ht hf hst lO
 refine ⟨fun _ _=>trivial,?_⟩
 rw [Oper.semAt_eq _ _ _ hd,hx a ρ Γ av W w Kn he ht hst]
 simp only [Oper.uponIn]
 exact lO ρ w (fun _ _=>rfl) (by rw [fS];exact hv Kn hk) (by rw [fS,qt];exact hst)
theorem uV {ro:Option Nat} {n:Nat} {f:FuncId} {args:Array Value} {w:World} {R:Ending->World->Prop} (h:Calls P f args w R):CallsIn (fw ro) n P f args w R:=by
 have:=(callsIn_wide (n:=n)).2 h
 exact this
theorem iC (ev:Operand->AV) (l:List Operand):qG ev l=l.map ev:=by induction l<;>simp_all [qG]
theorem Yi {a:A0} {v:Value} (h:CO a=some v) (ρ:Env):a.ae ρ=v:=by
 have hl: ∀(cs:List Cell) (l:List Value),CO.Mu cs=some l->cs.map (Cell.ae ρ)=l:=by
  intro cs
  induction cs with
  |nil=>intro l h;simp only [CO.Mu,Option.some.injEq] at h;subst h;rfl
  |cons c r ih=>
   intro l h
   cases c<;>simp only [CO.Mu,Option.map_eq_some_iff] at h<;>try (cases h;done)
   obtain ⟨l',h1,rfl⟩:=h
   simp [Cell.ae,ih l' h1]
 cases a with
 |one c=>cases c<;>simp [CO] at h;subst h;rfl
 |agg cs=>
  simp only [CO,Option.map_eq_some_iff] at h
  obtain ⟨l,h1,rfl⟩:=h
  simp [A0.ae,hl cs l h1]
theorem IZ (ρ:Env): ∀(l:List AV) (vs:List Value),NI l=some vs->l.map (AV.ae ρ)=vs
 | [],vs,h=>by simp only [NI,Option.some.injEq] at h;subst h;rfl
 |x::r,vs,h=>by
  simp only [NI] at h
  split at h
  ·rename_i v l h1 h2
   cases h
   cases x with
   |v a=>simp [AV.ae,Yi h1,IZ ρ r l h2]
   |pT l=>simp [akw] at h1
   |dead=>simp [akw] at h1
  ·cases h
theorem abf {x:AV} {q:Ref} (h:akx x=some q) (ρ:Env):x.ae ρ=q.ae ρ/\ ∀Kn,x.ok Kn->q.ok Kn:=by
 unfold akx at h
 split at h<;>simp at h<;>subst h
 ·exact ⟨rfl,fun _ h=>h⟩
 ·exact ⟨rfl,fun _ h=>h⟩
 ·exact ⟨rfl,fun _ _=>trivial⟩
 ·exact ⟨rfl,fun _ h=>h⟩
 ·exact ⟨rfl,fun _ h=>h⟩
theorem zq (ρ:Env): ∀(l:List AV) (qs:List Ref),NJ l=some qs->l.map (AV.ae ρ)=qs.map (Ref.ae ρ)/\ ∀Kn,(∀x∈l,x.ok Kn)-> ∀q∈qs,q.ok Kn
 | [],qs,h=>by simp only [NJ,Option.some.injEq] at h;subst h;exact ⟨rfl,fun _ _ q hq=>absurd hq (by simp)⟩
 |x::r,qs,h=>by
  simp only [NJ] at h
  split at h
  ·rename_i v l h1 h2
   cases h
   obtain ⟨e1,k1⟩:=abf h1 ρ
   obtain ⟨e2,k2⟩:=zq ρ r l h2
   exact ⟨by simp [e1,e2],fun Kn hk q hq=>by
    rcases List.mem_cons.1 hq with rfl|hq
    ·exact k1 Kn (hk x (by simp))
    ·exact k2 Kn (fun y hy=>hk y (by simp [hy])) q hq⟩
  ·cases h
theorem vw (ρ:Env) (q:Ref):(DN q).ae ρ=q.ae ρ:=by
 cases q with
 |ext v=>exact qK v ρ
 |loc n off=>rfl
 |elem n j=>rfl
 |full n=>rfl
 |mp n=>rfl
theorem Wk {Kn:Nat->Prop} {q:Ref} (h:q.ok Kn):(DN q).ok Kn:=by cases q<;>first|exact ym _ _|exact h
theorem pP (ρ:Env) (q:Ref):(Ee q).ae ρ=q.ae ρ:=by cases q<;>rfl
theorem Mv {Kn:Nat->Prop} {q:Ref} (h:q.ok Kn):(Ee q).ok Kn:=by cases q<;>first|trivial|exact h
theorem aaP (ρ:Env) (agg:Bool) (rs:List Ref):(Xc agg rs).ae ρ=acP agg (rs.map (Ref.ae ρ)):=by
 unfold Xc acP
 cases agg with
 |true=>simp only [AV.ae,A0.ae,List.map_map];congr 2;exact List.map_congr_left fun q _=>pP ρ q
 |false=>match rs with
  | []=>rfl
  | [r]=>exact pP ρ r
  |_::_::_=>rfl
theorem ajQ {Kn:Nat->Prop} {agg:Bool} {rs:List Ref} (h: ∀r∈rs,r.ok Kn):(Xc agg rs).ok Kn:=by
 unfold Xc
 cases agg with
 |true=>intro c hc;obtain ⟨r,hr,rfl⟩:=List.mem_map.1 hc;exact Mv (h r hr)
 |false=>match rs,h with
  | [],_=>intro a ha;cases ha
  | [r],h=>exact Mv (h r (by simp))
  |_::_::_,_=>intro a ha;cases ha
theorem FX {q:Cell} {g:FuncId} {fs cs:List AV} (h:ahd q=some (g,fs,cs)):
  (∀ρ:Env,q.ae ρ= .func (.func g) (fs.map (AV.ae ρ)).toArray (cs.map (AV.ae ρ)).toArray)/\ ∀Kn,q.ok Kn->(∀x∈fs,x.ok Kn)/\ ∀x∈cs,x.ok Kn:=by
 unfold ahd at h
 split at h
 ·cases h
  rename_i first cap
  refine ⟨fun ρ=> ?_,fun Kn hk=>⟨fun x hx=> ?_,fun x hx=> ?_⟩⟩
  ·have e1:List.map (AV.ae ρ) (first.map ofV)=first:=by rw [List.map_map];exact (List.map_congr_left fun v _=>qK v ρ).trans (List.map_id _)
   have e2:List.map (AV.ae ρ) (cap.map DN)=cap.map (Ref.ae ρ):=by rw [List.map_map];exact List.map_congr_left fun v _=>vw ρ v
   rw [e1,e2];rfl
  ·obtain ⟨v,_,rfl⟩:=List.mem_map.1 hx;exact ym _ _
  ·obtain ⟨r,hr,rfl⟩:=List.mem_map.1 hx;exact Wk (hk r hr)
 ·cases h
  refine ⟨fun ρ=> ?_,fun Kn hk=>⟨fun x hx=> ?_,fun x hx=>by cases hx⟩⟩
  ·simp only [List.map_cons,List.map_nil,aaP];rfl
  ·rw [List.mem_singleton] at hx;subst hx;exact ajQ hk
 ·cases h
theorem CZ {c:Cell} {r:Ref} (h:Jy c=some r):(∀ρ:Env,r.ae ρ=c.ae ρ)/\ (∀ρ:Env,(c.ae ρ).oneCell'=true)/\ ∀Kn,c.ok Kn->r.ok Kn:=by
 unfold Jy at h
 split at h
 ·cases h;exact ⟨fun _=>rfl,fun _=>rfl,fun _ h=>h⟩
 ·cases h;exact ⟨fun _=>rfl,fun _=>rfl,fun _ h=>h⟩
 ·split at h
  ·rename_i hv
   cases h;exact ⟨fun _=>rfl,fun ρ=>Cell.KV (c:= .raw _) hv ρ,fun _ _=>trivial⟩
  ·cases h
 ·cases h;exact ⟨fun _=>rfl,fun _=>rfl,fun _ h=>h⟩
 ·cases h;exact ⟨fun _=>rfl,fun _=>rfl,fun _ h=>h⟩
 ·cases h
theorem AT: ∀ {cs:List Cell} {rs:List Ref},xk cs=some rs->(∀ρ:Env,rs.map (Ref.ae ρ)=cs.map (Cell.ae ρ))/\ ∀Kn,(∀c∈cs,c.ok Kn)-> ∀r∈rs,r.ok Kn
 | [],rs,h=>by simp only [xk,Option.some.injEq] at h;subst h;simp
 |c::l,rs,h=>by
  simp only [xk] at h
  split at h
  ·rename_i x m h1 h2
   cases h
   obtain ⟨e1,e2⟩:=AT h2
   obtain ⟨e3,_,e4⟩:=CZ h1
   refine ⟨fun ρ=>by simp [e1,e3],fun Kn hk r hr=> ?_⟩
   rcases List.mem_cons.1 hr with rfl|hr
   ·exact e4 Kn (hk c (by simp))
   ·exact e2 Kn (fun c hc=>hk c (by simp [hc])) r hr
  ·cases h
theorem Xd {v:AV} {agg:Bool} {rs:List Ref} (h:aaQ v=some (agg,rs)):(∀ρ:Env,acP agg (rs.map (Ref.ae ρ))=v.ae ρ)/\ ∀Kn,v.ok Kn-> ∀r∈rs,r.ok Kn:=by
 unfold aaQ at h
 split at h
 ·split at h
  ·rename_i l hl
   cases h
   obtain ⟨e1,e2⟩:=AT hl
   exact ⟨fun ρ=>by rw [e1];rfl,e2⟩
  ·cases h
 ·split at h
  ·rename_i r hr
   cases h
   obtain ⟨e1,_,e2⟩:=CZ hr
   refine ⟨fun ρ=>e1 ρ,fun Kn hk r hr=> ?_⟩
   rw [List.mem_singleton] at hr;subst hr;exact e2 Kn hk
  ·cases h
 ·cases h
end
section
variable {P:Program} {ctx:Ctx} {hp:HP} {nm:Nat} {k:Rec->Prop} {o:Oper} {ev:Operand->AV}
theorem adM (hT:di P ctx.tt) (hS:RX P ctx) {c:Call} (ho:o.op= .call c) (h:O6 ctx c ev hp nm k): ∃r,bO P ctx.X o ev hp nm r/\ k r:=by
 obtain ⟨callee,args,argTypes⟩:=c
 have hd: ∀c,o.op≠ .defer c:=fun c e=>by rw [ho] at e;cases e
 have hargs: ∀(a:Act) (ρ:Env),(∀x∈o.op.operands,a.eval x=(ev x).ae ρ)->args.map a.eval=((qG ev args.toList).map (AV.ae ρ)).toArray:=by
  intro a ρ he
  apply Array.ext'
  simp only [Array.toList_map,iC,List.map_map]
  refine List.map_congr_left fun x hx=>he x ?_
  rw [ho];simp [Op.operands,Call.operands,Array.mem_toList_iff.1 hx]
 have Pq: ∀Kn,(∀x∈o.op.operands,(ev x).ok Kn)-> ∀x∈qG ev args.toList,x.ok Kn:=by
  intro Kn hk x hx
  rw [iC] at hx
  obtain ⟨y,hy,rfl⟩:=List.mem_map.1 hx
  exact hk y (by rw [ho];simp [Op.operands,Call.operands,Array.mem_toList_iff.1 hy])
 have enter: ∀(g:FuncId) (s:Spec) (full:List AV) (f:Operand) (fnv:AV),callee= .value f->ev f=fnv->aL ctx.specs g=some s->s ctx.X full hp nm k->
   (∀Kn,(∀x∈o.op.operands,(ev x).ok Kn)-> ∀x∈full,x.ok Kn)->
   (∀(a:Act) (ρ:Env) (w:World),(∀x∈o.op.operands,a.eval x=(ev x).ae ρ)->(execOp a.eval o).run P w= .ok (.enter g (full.map (AV.ae ρ)).toArray) w)-> ∃r,bO P ctx.X o ev hp nm r/\ k r:=by
  intro g s full f fnv _ _ hg hs hfk hrun
  obtain ⟨r,hr,hkr⟩:=(hS.sp g s hg).2 ctx.X full hp nm k hs
  refine ⟨r,⟨hr.1,?_⟩,hkr⟩
  intro ro n av W ρ Kn Γ w a next Q hX he hk ht hf hst lO
  refine ⟨fun _ _=>trivial,?_⟩
  rw [Oper.semAt_eq _ _ _ hd,hrun a ρ w he]
  simp only [Oper.uponIn]
  refine ⟨fun h=>by simp [fw] at h,uV ?_⟩
  refine (hr.2 av W ρ Kn Γ w hX (hfk Kn hk) ht hf hst).mono ?_
  rintro e w' ⟨ρ',rfl,sP,Oa,lB⟩
  exact lO ρ' w' sP Oa lB
 unfold O6 at h
 dsimp only at h
 split at h
 ·rename_i b
  obtain ⟨r,hr,hkr⟩:=Sd (P:=P) (nm:=nm) hT h o.type (args.map fun| .const _=>true|_=>false)
  refine ⟨r,⟨hr.1,?_⟩,hkr⟩
  intro ro n av W ρ Kn Γ w a next Q hX he hk ht hf hst lO
  obtain ⟨ρ',w',hrun,sP,Oa,lB⟩:=hr.2 av W ρ Kn Γ w hX (Pq Kn hk) ht hf hst
  refine ⟨fun _ _=>trivial,?_⟩
  rw [Oper.semAt_eq _ _ _ hd]
  have:(execOp a.eval o).run P w= .ok (.value (r.val.ae ρ')) w':=by
   simp only [execOp,ho,resolve,Sem.run_bind,Sem.run_pure,Result.andThen_ok,invoke]
   rw [hargs a ρ he]
   exact hrun
  rw [this]
  simp only [Oper.uponIn]
  exact lO ρ' w' sP Oa lB
 ·rename_i f
  have hfm:f∈o.op.operands:=by rw [ho];simp [Op.operands,Call.operands]
  split at h
  ·rename_i q ny
   split at h
   ·rename_i g fs cs hq
    obtain ⟨hqc,hqk⟩:=FX hq
    split at h
    ·rename_i s hg
     refine enter g s _ f _ rfl ny hg h ?_ ?_
     ·intro Kn hk x hx
      have hfk:=hk f hfm
      rw [ny] at hfk
      obtain ⟨k1,k2⟩:=hqk Kn hfk
      rcases List.mem_append.1 hx with hx|hx
      ·rcases List.mem_append.1 hx with hx|hx
       ·exact k1 x hx
       ·exact Pq Kn hk x hx
      ·exact k2 x hx
     ·intro a ρ w he
      have hf:=he f hfm
      rw [ny] at hf
      simp only [execOp,ho,resolve,Sem.run_bind,hf,AV.ae,A0.ae,hqc ρ,Deferred.ofValue,Sem.run_pure,Result.andThen_ok,invoke]
      rw [hargs a ρ he,(hS.sp g s hg).1]
      congr 2
      apply Array.ext'
      simp [List.map_append,-List.map_map]
    ·rw [hS.its] at h
     exact h.elim
   ·split at h
    ·rename_i g first cap hq
     split at h
     ·rename_i s hg
      refine enter g s _ f _ rfl ny hg h ?_ ?_
      ·intro Kn hk x hx
       rcases List.mem_append.1 hx with hx|hx
       ·rcases List.mem_append.1 hx with hx|hx
        ·obtain ⟨v,_,rfl⟩:=List.mem_map.1 hx;exact ym _ _
        ·exact Pq Kn hk x hx
       ·obtain ⟨q,hq,rfl⟩:=List.mem_map.1 hx;exact ym _ _
      ·intro a ρ w he
       have hf:=he f hfm
       rw [ny] at hf
       simp only [execOp,ho,resolve,Sem.run_bind,hf,AV.ae,A0.ae,Cell.ae,Deferred.ofValue,Sem.run_pure,Result.andThen_ok,invoke]
       rw [hargs a ρ he,(hS.sp g s hg).1]
       congr 2
       apply Array.ext'
       have e1: ∀l:List Value,List.map (AV.ae ρ) (l.map ofV)=l:=fun l=>by rw [List.map_map];exact (List.map_congr_left fun v _=>qK v ρ).trans (List.map_id _)
       simp [List.map_append,-List.map_map,e1]
     ·exact h.elim
    ·rw [hS.ys] at h
     exact h.elim
    ·exact h.elim
  ·exact h.elim
 ·exact h.elim
theorem JZ (hT:di P ctx.tt) (hS:RX P ctx) (h:JY ctx o.op ev hp nm k): ∃r,bO P ctx.X o ev hp nm r/\ k r:=by
 unfold JY at h
 split at h
 ·rename_i x ho
  exact ⟨_,bO.same (fun c e=>by rw [ho] at e;cases e) (fun Kn hk=>hk x (by rw [ho];simp [Op.operands])) fun a ρ Γ av W w Kn he _ _=>by simp [execOp,ho,he x (by rw [ho];simp [Op.operands])],h⟩
 ·rename_i x ho
  exact ⟨_,bO.same (fun c e=>by rw [ho] at e;cases e) (fun Kn hk=>hk x (by rw [ho];simp [Op.operands])) fun a ρ Γ av W w Kn he _ _=>by simp [execOp,ho,he x (by rw [ho];simp [Op.operands])],h⟩
 ·rename_i c x y ho
  split at h
  ·rename_i t hc
   cases t with
   |true=>
    refine ⟨_,bO.same (fun c e=>by rw [ho] at e;cases e) (fun Kn hk=>hk x (by rw [ho];simp [Op.operands])) fun a ρ Γ av W w Kn he _ _=> ?_,h⟩
    have h1:=he c (by rw [ho];simp [Op.operands])
    rw [hc] at h1
    simp [execOp,ho,h1,AV.ae,A0.ae,Cell.ae,asBool,he x (by rw [ho];simp [Op.operands])]
   |false=>
    refine ⟨_,bO.same (fun c e=>by rw [ho] at e;cases e) (fun Kn hk=>hk y (by rw [ho];simp [Op.operands])) fun a ρ Γ av W w Kn he _ _=> ?_,h⟩
    have h1:=he c (by rw [ho];simp [Op.operands])
    rw [hc] at h1
    simp [execOp,ho,h1,AV.ae,A0.ae,Cell.ae,asBool,he y (by rw [ho];simp [Op.operands])]
  ·exact h.elim
 ·rename_i t ho
  split at h
  ·rename_i i hi
   exact ⟨_,bO.lT (adE hT hi) (fun _ _=>trivial) (fun c e=>by rw [ho] at e;cases e) fun a ρ he=>by simp [execOp,ho],h⟩
  ·exact h.elim
 ·rename_i t x ho
  split at h
  ·rename_i xs hxs
   exact ⟨_,bO.lT (alJ hxs (ctx:=ctx)) (fun Kn hk=>hk x (by rw [ho];simp [Op.operands])) (fun c e=>by rw [ho] at e;cases e) fun a ρ he=>by simp [execOp,ho,he x (by rw [ho];simp [Op.operands])],h⟩
  ·exact h.elim
 ·rename_i t parts ho
  split at h
  ·rename_i i hi
   obtain ⟨r,h1,h2⟩:=YR (nm:=nm) (hp:=hp) hT hi h
   refine ⟨r,bO.lT h1 (fun Kn hk p hp=>hk p.2 ?_) (fun c e=>by rw [ho] at e;cases e) fun a ρ he=> ?_,h2⟩
   ·rw [ho];simp only [Op.operands,List.mem_toArray,List.mem_map];exact ⟨p,hp,rfl⟩
   ·have:(parts.map fun (i,x)=>(i,a.eval x))=parts.map fun (i,x)=>(i,(ev x).ae ρ):=Array.map_congr_left fun p hp=>by
     show (p.1,a.eval p.2)=(p.1,(ev p.2).ae ρ)
     rw [he p.2 (by rw [ho];simp only [Op.operands,List.mem_toArray,List.mem_map];exact ⟨p,Array.mem_toList_iff.2 hp,rfl⟩)]
    simp only [execOp,ho,this]
  ·exact h.elim
 ·rename_i t len parts ho
  split at h
  ·rename_i i hi
   split at h
   ·rename_i h0
    simp only [Bool.and_eq_true,List.isEmpty_iff] at h0
    obtain ⟨r,h1,h2⟩:=Ou (hp:=hp) hT hi h
    refine ⟨r,bO.lT h1 (fun _ _=>trivial) (fun c e=>by rw [ho] at e;cases e) fun a ρ he=> ?_,h2⟩
    have e1:len=0:=Nat.eq_of_beq_eq_true h0.1
    have e2:parts= #[]:=by cases parts;simp_all
    subst e1;subst e2
    simp [execOp,ho]
   obtain ⟨r,h1,h2⟩:=Jf (hp:=hp) hT hi h
   refine ⟨r,bO.lT h1 (fun Kn hk p hp=>hk p.2 ?_) (fun c e=>by rw [ho] at e;cases e) fun a ρ he=> ?_,h2⟩
   ·rw [ho];simp only [Op.operands,List.mem_toArray,List.mem_map];exact ⟨p,hp,rfl⟩
   ·have:(parts.map fun (i,x)=>(i,a.eval x))=parts.map fun (i,x)=>(i,(ev x).ae ρ):=Array.map_congr_left fun p hp=>by
     show (p.1,a.eval p.2)=(p.1,(ev p.2).ae ρ)
     rw [he p.2 (by rw [ho];simp only [Op.operands,List.mem_toArray,List.mem_map];exact ⟨p,Array.mem_toList_iff.2 hp,rfl⟩)]
    simp only [execOp,ho,this]
  ·exact h.elim
 ·rename_i t x ho
  split at h
  ·rename_i i hi
   obtain ⟨r,h1,h2⟩:=aeR (nm:=nm) hT hi h
   exact ⟨r,bO.lT h1 (fun Kn hk=>hk x (by rw [ho];simp [Op.operands])) (fun c e=>by rw [ho] at e;cases e) fun a ρ he=>by simp [execOp,ho,he x (by rw [ho];simp [Op.operands])],h2⟩
  ·exact h.elim
 ·rename_i t x y ho
  split at h
  ·rename_i i hi
   obtain ⟨r,h1,h2,h3⟩:=NF (nm:=nm) hT hi h
   exact ⟨r,bO.am8 h1 h2 (fun Kn hk=>⟨hk x (by rw [ho];simp [Op.operands]),hk y (by rw [ho];simp [Op.operands])⟩) (fun c e=>by rw [ho] at e;cases e)
    fun a ρ he=>by simp [execOp,ho,he x (by rw [ho];simp [Op.operands]),he y (by rw [ho];simp [Op.operands])],h3⟩
  ·exact h.elim
 ·rename_i x ho
  have Hu:x∈o.op.operands:=by rw [ho];simp [Op.operands]
  split at h
  ·rename_i n off hx
   obtain ⟨⟨ob,oH,dS⟩,hk⟩:=c7 h
   refine ⟨_,bO.same (fun c e=>by rw [ho] at e;cases e) (fun Kn hk=>by have:=hk x Hu;rw [hx] at this;exact this) fun a ρ Γ av W w Kn he ht hst=> ?_,hk⟩
   obtain ⟨b,hb⟩:=dS _ _ ρ w (hst.at_ n ob (by rw [ht n (by simp),oH]))
   have h1:=he x Hu
   rw [hx,ow hb] at h1
   simp [execOp,ho,h1,ow hb]
  ·rename_i n off hx
   obtain ⟨⟨ob,oH,dS⟩,hk⟩:=c7 h
   refine ⟨_,bO.same (fun c e=>by rw [ho] at e;cases e) (fun Kn hk=>by have:=hk x Hu;rw [hx] at this;exact this) fun a ρ Γ av W w Kn he ht hst=> ?_,hk⟩
   obtain ⟨b,hb⟩:=dS _ _ ρ w (hst.at_ n ob (by rw [ht n (by simp),oH]))
   have h1:=he x Hu
   rw [hx,pY hb] at h1
   simp [execOp,ho,h1,pY hb]
  ·rename_i n j q hx
   split at h
   ·rename_i hrc
    obtain ⟨c,cs,oH⟩:=PU hrc
    refine ⟨_,bO.same (fun c e=>by rw [ho] at e;cases e) (fun Kn hk=>by have:=hk x Hu;rw [hx] at this;exact this) fun a ρ Γ av W w Kn he ht hst=> ?_,h⟩
    obtain ⟨b,hb⟩:=acN (hst.at_ n (.rc (c::cs)) (by rw [ht n (by simp),oH]))
    have h1:=he x Hu
    rw [hx,iQ hb] at h1
    simp [execOp,ho,h1,iQ hb]
   obtain ⟨u,l,rk,oH,hj,hk⟩:=dY h
   refine ⟨_,bO.same (fun c e=>by rw [ho] at e;cases e) (fun Kn hk=>by have:=hk x Hu;rw [hx] at this;exact this) fun a ρ Γ av W w Kn he ht hst=> ?_,hk⟩
   obtain ⟨b,hb⟩:=(rk.2.at (hst.at_ n _ (by rw [ht n (by simp),oH]))).2.2.2 _ hj
   have h1:=he x Hu
   rw [hx,iQ hb] at h1
   simp [execOp,ho,h1,iQ hb]
  ·rename_i n j q hx
   obtain ⟨u,l,rk,oH,hj,hk⟩:=dY h
   refine ⟨_,bO.same (fun c e=>by rw [ho] at e;cases e) (fun Kn hk=>by have:=hk x Hu;rw [hx] at this;exact this) fun a ρ Γ av W w Kn he ht hst=> ?_,hk⟩
   obtain ⟨b,hb⟩:=(rk.2.at (hst.at_ n _ (by rw [ht n (by simp),oH]))).2.2.2 _ hj
   have h1:=he x Hu
   rw [hx,qx hb] at h1
   simp [execOp,ho,h1,qx hb]
  ·rename_i f first cap hx
   refine ⟨_,bO.same (fun c e=>by rw [ho] at e;cases e) (fun Kn hk=>by have:=hk x Hu;rw [hx] at this;exact this) fun a ρ Γ av W w Kn he ht hst=> ?_,h⟩
   have h1:=he x Hu
   rw [hx] at h1
   simp [execOp,ho,h1,AV.ae,A0.ae,Cell.ae]
  ·rename_i f agg rs hx
   refine ⟨_,bO.same (fun c e=>by rw [ho] at e;cases e) (fun Kn hk=>by have:=hk x Hu;rw [hx] at this;exact this) fun a ρ Γ av W w Kn he ht hst=> ?_,h⟩
   have h1:=he x Hu
   rw [hx] at h1
   simp [execOp,ho,h1,AV.ae,A0.ae,Cell.ae]
  ·rename_i b hx
   refine ⟨_,bO.same (fun c e=>by rw [ho] at e;cases e) (fun Kn hk=> ?_) (fun a ρ Γ av W w Kn he ht hst=> ?_),h⟩
   ·trivial
   have h1:=he x Hu
   rw [hx] at h1
   simp [execOp,ho,h1,AV.ae,A0.ae,Cell.ae]
  ·rename_i f first cap hx
   refine ⟨_,bO.same (fun c e=>by rw [ho] at e;cases e) (fun Kn hk=> ?_) (fun a ρ Γ av W w Kn he ht hst=> ?_),h⟩
   ·trivial
   have h1:=he x Hu
   rw [hx] at h1
   simp [execOp,ho,h1,AV.ae,A0.ae,Cell.ae]
  ·exact h.elim
 ·rename_i op t x y yt ho
  rw [if_neg (by simp [ndB,hS.its])] at h
  split at h
  ·obtain ⟨r,h1,h2⟩:=ajy (nm:=nm) (hp:=hp) (P:=P) (ox:=x) (oy:=y) hT h
   refine ⟨r,bO.lT h1 (fun _ _=>trivial) (fun c e=>by rw [ho] at e;cases e) fun a ρ he=> ?_,h2⟩
   simp [execOp,ho,he x (by rw [ho];simp [Op.operands]),he y (by rw [ho];simp [Op.operands])]
  obtain ⟨r,h1,h2⟩:=ag0 (nm:=nm) (hp:=hp) (P:=P) (ox:=x) (oy:=y) hT h
  refine ⟨r,bO.lT h1 (fun _ _=>trivial) (fun c e=>by rw [ho] at e;cases e) fun a ρ he=> ?_,h2⟩
  simp [execOp,ho,he x (by rw [ho];simp [Op.operands]),he y (by rw [ho];simp [Op.operands])]
 ·rename_i u t x ho
  have Hu:x∈o.op.operands:=by rw [ho];simp [Op.operands]
  split at h
  ·rename_i kk n hx
   refine ⟨_,bO.same (fun c e=>by rw [ho] at e;cases e) (fun Kn hk=> ?_) (fun a ρ Γ av W w Kn he ht hst=> ?_),h⟩
   ·trivial
   have h1:=he x Hu
   rw [hx] at h1
   simp [execOp,ho,h1,AV.ae,A0.ae,Cell.ae,Op.unary,Op.intArith,iA]
  ·rename_i b hx
   refine ⟨_,bO.same (fun c e=>by rw [ho] at e;cases e) (fun Kn hk=> ?_) (fun a ρ Γ av W w Kn he ht hst=> ?_),h⟩
   ·trivial
   have h1:=he x Hu
   rw [hx] at h1
   simp [execOp,ho,h1,AV.ae,A0.ae,Cell.ae,Op.unary,bG]
  ·exact h.elim
 ·rename_i s d x ho
  have Hu:x∈o.op.operands:=by rw [ho];simp [Op.operands]
  split at h
  ·rename_i i0 i hi0 hi
   split at h
   ·rename_i kk k1 n hd hx
    refine ⟨_,bO.same (fun c e=>by rw [ho] at e;cases e) (fun Kn hk=> ?_) (fun a ρ Γ av W w Kn he ht hst=> ?_),h⟩
    ·trivial
    have h1:=he x Hu
    rw [hx] at h1
    simp [execOp,ho,h1,AV.ae,A0.ae,Cell.ae,convert,hT.u hi0,hT.u hi,hd,Conv.intToInt,iA]
   ·exact h.elim
  ·exact h.elim
 ·rename_i fn first cap ho
  split at h
  ·rename_i f c hf hc
   refine ⟨_,bO.same (fun c e=>by rw [ho] at e;cases e) (fun Kn hk=> ?_) fun a ρ Γ av W w Kn he ht hst=> ?_,h⟩
   ·refine (zq (fun _=> {}) _ _ hc).2 Kn fun x hx=> ?_
    rw [iC] at hx
    obtain ⟨y,hy,rfl⟩:=List.mem_map.1 hx
    exact hk y (by rw [ho];simp [Op.operands,Array.mem_toList_iff.1 hy])
   ·have e1:first.map a.eval=f.toArray:=by
     apply Array.ext'
     rw [<- IZ ρ _ _ hf,iC]
     simp only [Array.toList_map,List.map_map]
     exact List.map_congr_left fun y hy=>he y (by rw [ho];simp [Op.operands,Array.mem_toList_iff.1 hy])
    have e2:cap.map a.eval=(c.map (Ref.ae ρ)).toArray:=by
     apply Array.ext'
     rw [<- (zq ρ _ _ hc).1,iC]
     simp only [Array.toList_map,List.map_map]
     exact List.map_congr_left fun y hy=>he y (by rw [ho];simp [Op.operands,Array.mem_toList_iff.1 hy])
    simp only [execOp,ho,Instr.makeFunc,e1,e2,AV.ae,A0.ae,Cell.ae]
    rfl
  ·split at h
   ·rename_i g r hfs hcs
    split at h
    ·rename_i agg rs hr
     obtain ⟨hrc,sQ⟩:=Xd hr
     have hmem: ∀y∈first.toList,y∈o.op.operands:=fun y hy=>by rw [ho];simp [Op.operands,Array.mem_toList_iff.1 hy]
     rw [iC] at hfs
     obtain ⟨y,hy1⟩: ∃y,first.toList= [y]:=by
      match hm:first.toList,hfs with
      | [y],_=>exact ⟨y,rfl⟩
     have hr1:ev y=r:=by rw [hy1] at hfs;simpa using hfs
     refine ⟨_,bO.same (fun c e=>by rw [ho] at e;cases e) (fun Kn hk=> ?_) fun a ρ Γ av W w Kn he ht hst=> ?_,h⟩
     ·exact sQ Kn (by rw [<- hr1];exact hk y (hmem y (by rw [hy1];simp)))
     ·have e1:first.map a.eval= #[r.ae ρ]:=by
       apply Array.ext'
       simp only [Array.toList_map,hy1,List.map_cons,List.map_nil]
       rw [he y (hmem y (by rw [hy1];simp)),hr1]
      have e2:cap.map a.eval= #[]:=by
       apply Array.ext'
       simp [Array.toList_map,hcs]
      simp only [execOp,ho,Instr.makeFunc,e1,e2,AV.ae,A0.ae,Cell.ae,hrc ρ]
      rfl
    ·exact h.elim
   ·exact h.elim
 ·rename_i t x lo hh mx ho
  split at h
  ·rename_i i hi
   obtain ⟨r,h1,h2⟩:=aa2 (nm:=nm) (P:=P) hT hi h
   refine ⟨r,bO.lT h1 (fun Kn hk=>hk x (by rw [ho];simp [Op.operands])) (fun c e=>by rw [ho] at e;cases e) fun a ρ he=> ?_,h2⟩
   have e: ∀q:Option Operand,(∀y,q=some y->y∈o.op.operands)->q.map a.eval=(q.map ev).map (AV.ae ρ):=by
    intro q hq;cases q with
    |none=>rfl
    |some y=>simp [he y (hq y rfl)]
   rw [execOp,ho]
   simp only
   rw [he x (by rw [ho];simp [Op.operands]),e lo (fun y hy=>by rw [ho];simp [Op.operands,hy]),e hh (fun y hy=>by rw [ho];simp [Op.operands,hy]),e mx (fun y hy=>by rw [ho];simp [Op.operands,hy])]
  ·exact h.elim
 ·rename_i t x y ho
  split at h
  ·rename_i i hi
   obtain ⟨r,h1,h2⟩:=yd (hp:=hp) hT hi h
   exact ⟨r,bO.lT h1 (fun _ _=>trivial) (fun c e=>by rw [ho] at e;cases e) fun a ρ he=>by simp [execOp,ho,he x (by rw [ho];simp [Op.operands]),he y (by rw [ho];simp [Op.operands])],h2⟩
  ·exact h.elim
 ·rename_i t x f ho
  split at h
  ·rename_i i hi
   obtain ⟨r,h1,h2⟩:=Ld (nm:=nm) hT hi h
   exact ⟨r,bO.lT h1 (fun Kn hk=>hk x (by rw [ho];simp [Op.operands])) (fun c e=>by rw [ho] at e;cases e) fun a ρ he=>by simp [execOp,ho,he x (by rw [ho];simp [Op.operands])],h2⟩
  ·exact h.elim
 ·rename_i t x f ho
  split at h
  ·rename_i i hi
   obtain ⟨r,h1,h2⟩:=Y9 (nm:=nm) (hp:=hp) hT hi h
   exact ⟨r,bO.lT h1 (fun Kn hk=>hk x (by rw [ho];simp [Op.operands])) (fun c e=>by rw [ho] at e;cases e) fun a ρ he=>by simp [execOp,ho,he x (by rw [ho];simp [Op.operands])],h2⟩
  ·exact h.elim
 ·rename_i t x ix ho
  split at h
  ·rename_i i hi
   obtain ⟨r,h1,h2⟩:=LA (nm:=nm) hT hi h
   exact ⟨r,bO.lT h1 (fun Kn hk=>hk x (by rw [ho];simp [Op.operands])) (fun c e=>by rw [ho] at e;cases e) fun a ρ he=>by simp [execOp,ho,he x (by rw [ho];simp [Op.operands]),he ix (by rw [ho];simp [Op.operands])],h2⟩
  ·exact h.elim
 ·rename_i t x ix ho
  split at h
  ·rename_i i hi
   obtain ⟨r,h1,h2⟩:=ZA (nm:=nm) (hp:=hp) hT hi h
   exact ⟨r,bO.lT h1 (fun Kn hk=>hk x (by rw [ho];simp [Op.operands])) (fun c e=>by rw [ho] at e;cases e) fun a ρ he=>by simp [execOp,ho,he x (by rw [ho];simp [Op.operands]),he ix (by rw [ho];simp [Op.operands])],h2⟩
  ·exact h.elim
 ·rename_i x i ho
  have Hu:x∈o.op.operands:=by rw [ho];simp [Op.operands]
  split at h
  ·rename_i l hx
   split at h
   ·rename_i v hv
    refine ⟨_,bO.same (fun c e=>by rw [ho] at e;cases e) (fun Kn hk=> ?_) fun a ρ Γ av W w Kn he ht hst=> ?_,h⟩
    ·have:=hk x Hu;rw [hx] at this;exact this v (List.mem_of_getElem? hv)
    ·have h1:=he x Hu
     rw [hx] at h1
     simp [execOp,ho,h1,AV.ae,Instr.extract,hv]
   ·exact h.elim
  ·exact h.elim
 ·rename_i c ho
  exact adM hT hS ho h
 ·exact h.elim
def OpK (P:Program) (X:Addr->Value->Prop) (o:Oper) (ev:Operand->AV) (hp:HP) (nm:Nat) (k:Rec->Prop):Prop:=
 ∀ro n av W ρ w a next Q,uR av W X->(∀x∈o.op.operands,a.eval x=(ev x).ae ρ)->(∀x∈o.op.operands,(ev x).ok (· <nm))->St av W ρ (· <nm) hp w->
  (∀r ρ' w',k r->(∀p∈r.writes,hp p.1≠none)->(∀m,m<nm->ρ' m=ρ m)->r.val.ok (oI (· <nm) nm r)->St av W ρ' (oI (· <nm) nm r) (bV r nm hp) w'->next (a.put o.dst (r.val.ae ρ')) w')->
  o.wpIn (fw ro) n P a w next Q
theorem OpK.ajm {X:Addr->Value->Prop} {r:Rec} (h:bO P X o ev hp nm r) (hk:k r):OpK P X o ev hp nm k:=
 fun ro n av W ρ w a next Q hX he hv hst hn=>h.2 ro n av W ρ _ _ w a next Q hX he hv (fun _ _=>rfl) (fun i _=>by omega) hst fun ρ' w' h1 h2 h3=>hn r ρ' w' hk h.1 h1 h2 h3
def V0 (ctx:Ctx) (ev:Operand->AV):Op->Bool
 | .call c=>match c.callee with
  | .value f=>match ev f with
   | .v (.one q)=>match ahd q with
    |some (g,_,_)=>(aL ctx.specs g).isNone
    |none=>match q with
     | .N8 _=>true
     |_=>false
   |_=>false
  |_=>false
 | .binOp _ _ x y _=>ndB ctx (ev x) (ev y)
 |_=>false
theorem afa (h:JY ctx o.op ev hp nm k) (hy:V0 ctx ev o.op=false):JY {ctx with ys:= [],its:= []} o.op ev hp nm k:=by
 revert h hy
 cases o.op with
 |call c=>
  intro h hy
  simp only [JY,O6] at h ⊢
  simp only [V0] at hy
  split at h
  ·exact h
  ·rename_i f hc
   rw [hc] at hy
   dsimp only at hy
   split at h
   ·rename_i q ny
    rw [ny] at hy
    dsimp only at hy ⊢
    split at h
    ·rename_i g fs cs hq
     rw [hq] at hy
     dsimp only at hy ⊢
     split at h
     ·rename_i s hs
      exact h
     ·rename_i hs
      rw [hs] at hy;cases hy
    ·rename_i hq
     rw [hq] at hy
     dsimp only at hy ⊢
     split at h
     ·exact h
     ·cases hy
     ·exact h.elim
   ·exact h.elim
  ·exact h.elim
 |binOp op t x y yt=>
  intro h hy
  simp only [V0] at hy
  simp only [JY] at h ⊢
  rw [if_neg (by rw [hy];decide)] at h
  rw [if_neg (by simp [ndB])]
  exact h
 |_=>intro h _;exact h
theorem asO (hT:di P ctx.tt) {op:BinOp} {t:TypeId} {x y:Operand} {yt:TypeId} (ho:o.op= .binOp op t x y yt) (h:aqi ctx op t (ev x) (ev y) hp k):OpK P ctx.X o ev hp nm k:=by
 unfold aqi at h
 split at h
 rotate_left
 ·exact h.elim
 rename_i n hx hy
 split at h
 rotate_left
 ·exact h.elim
 rename_i u l rk i hr hi
 have key: ∀(g:Bool->Bool),(∀(e:TypeId),i.desc= .slice e-> ∀(a:Option Addr) (n1 c1:Nat) (w:World),(binOp op t (.slice a n1 c1) (.slice none 0 0)).run P w= .ok (.bool (g a.isNone)) w)->(∃e,i.desc= .slice e)->(∀b:Bool,(0<l.length->b=false)->k {val:=bG (g b),aF:= [n]})->OpK P ctx.X o ev hp nm k:=by
  intro g hrun ⟨e,hd⟩ hk ro n' av W ρ w a next Q hX he hok hst lO
  obtain ⟨_,_,_,sub,hm⟩:=hst.at_ n _ hr
  have hb:0<l.length->(ρ n).base.isNone=false:=by
   intro hl
   have hlen:0<(aJ sub 0 (ay u l)).length:=by rw [bM,bE];exact Nat.mul_pos hl u.size_pos
   obtain ⟨a',e',_⟩:=hm.1 0 _ (List.getElem?_eq_getElem hlen)
   rw [e'];rfl
  have h1:=he x (by rw [ho];simp [Op.operands])
  have h2:=he y (by rw [ho];simp [Op.operands])
  rw [hx] at h1
  rw [hy] at h2
  have hg:=dc (P:=P) op t x y (.slice (ρ n).base (ρ n).len (ρ n).cap) (.slice none 0 0) w (by simp) (by simp)
  have hr2:=hrun e hd (ρ n).base (ρ n).len (ρ n).cap w
  have ar1:(execOp a.eval o).run P w= .ok (.value (.bool (g (ρ n).base.isNone))) w:=by
   simp [execOp,ho,h1,h2,AV.ae,A0.ae,Cell.ae,hg,hr2]
  refine ⟨fun _ _=>trivial,?_⟩
  rw [Oper.semAt_eq _ _ _ (fun c e=>by rw [ho] at e;cases e),ar1]
  simp only [Oper.uponIn]
  exact lO {val:=bG (g (ρ n).base.isNone),aF:= [n]} ρ w (hk _ hb) (fun p hp=>absurd hp (by simp)) (fun _ _=>rfl) (by rw [fS];exact trivial) (by rw [fS,qt];exact hst)
 split at h
 ·rename_i e hd
  exact key id (fun e hd a n1 c1 w=>by simp [binOp,nN hT hi hd]) ⟨e,hd⟩ h
 ·rename_i e hd
  exact key (fun b=> !b) (fun e hd a n1 c1 w=>by simp [binOp,nN hT hi hd]) ⟨e,hd⟩ h
 ·exact h.elim
theorem asT (hT:di P ctx.tt) (hC:e8 P ctx) (h:JY ctx o.op ev hp nm k):OpK P ctx.X o ev hp nm k:=by
 cases hy:V0 ctx ev o.op with
 |false=>
  obtain ⟨r,h1,h2⟩:=JZ (ctx:= {ctx with ys:= [],its:= []}) hT ⟨hC.sp,rfl,rfl⟩ (afa h hy)
  exact .ajm h1 h2
 |true=>
  unfold V0 at hy
  split at hy
  ·rename_i c ho
   split at hy
   ·rename_i f hc
    obtain ⟨callee,args,argTypes⟩:=c
    dsimp only at hc
    subst hc
    have hd: ∀c,o.op≠ .defer c:=fun c e=>by rw [ho] at e;cases e
    have hmem: ∀x∈args.toList,x∈o.op.operands:=fun x hx=>by rw [ho];simp [Op.operands,Call.operands,Array.mem_toList_iff.1 hx]
    have hfm:f∈o.op.operands:=by rw [ho];simp [Op.operands,Call.operands]
    have hargs: ∀(a:Act) (ρ:Env),(∀x∈o.op.operands,a.eval x=(ev x).ae ρ)->args.map a.eval=((qG ev args.toList).map (AV.ae ρ)).toArray:=by
     intro a ρ he
     apply Array.ext'
     simp only [Array.toList_map,iC,List.map_map]
     exact List.map_congr_left fun x hx=>he x (hmem x hx)
    have Pq:(∀x∈o.op.operands,(ev x).ok (· <nm))-> ∀x∈qG ev args.toList,x.ok (· <nm):=by
     intro hk x hx
     rw [iC] at hx
     obtain ⟨y,hy,rfl⟩:=List.mem_map.1 hx
     exact hk y (hmem y hy)
    split at hy
    ·rename_i q ny
     rw [ho] at h
     split at hy
     ·rename_i g fs cs hq
      simp only [JY,O6,ny,hq] at h
      obtain ⟨hqc,hqk⟩:=FX hq
      split at h
      ·rename_i s hs
       rw [hs] at hy;cases hy
      split at h
      rotate_left
      ·exact h.elim
      rename_i ZK hg
      obtain ⟨B5,ail⟩:=hC.its g ZK hg
      intro ro n av W ρ w a next Q hX he hk hst lO
      obtain ⟨wI,ff,xX⟩:=hst.pinned
      have hlen:(iZ hp nm++ [aD.cg ρ nm]).length=nm+1:=by simp [bP]
      have Ps: ∀m,hp m≠some .gone:=fun m e=>hst.at_ m _ e
      have hkl: ∀m,(hp m).isSome=true->m<nm:=fun m hm=>by
       obtain ⟨o,ho⟩:=Option.isSome_iff_exists.1 hm
       exact (hst.kn m o ho).1
      have hfk:=hk f hfm
      rw [ny] at hfk
      obtain ⟨k1,k2⟩:=hqk _ hfk
      have hfull: ∀x∈fs++qG ev args.toList++cs,x.ok (· <nm):=fun x hx=>by
       rcases List.mem_append.1 hx with hx|hx
       ·rcases List.mem_append.1 hx with hx|hx
        ·exact k1 x hx
        ·exact Pq hk x hx
       ·exact k2 x hx
      have xL:=ail [] _ _ _ (h ρ) (o9.nil P) av W wI w hX (fun x hx=>AV.aT (fun i hi=>by rw [hlen];omega) x (hfull x hx)) (by rw [hlen];exact xX)
      refine ⟨fun _ _=>trivial,?_⟩
      have hf:=he f hfm
      rw [ny] at hf
      have hrun:(execOp a.eval o).run P w= .ok (.enter g ((fs++qG ev args.toList++cs).map (AV.ae wI)).toArray) w:=by
       simp only [execOp,ho,resolve,Sem.run_bind,hf,AV.ae,A0.ae,hqc ρ,Deferred.ofValue,Sem.run_pure,Result.andThen_ok,invoke]
       rw [hargs a ρ he,B5]
       congr 2
       apply Array.ext'
       have e0:(fs++qG ev args.toList++cs).map (AV.ae wI)=(fs++qG ev args.toList++cs).map (AV.ae ρ):=List.map_congr_left fun x hx=>AV.bu (Kn:=(· <nm)) ff x (hfull x hx)
       rw [e0]
       simp [List.map_append,-List.map_map]
      rw [Oper.semAt_eq _ _ _ hd,hrun]
      simp only [Oper.uponIn]
      refine ⟨fun h=>by simp [fw] at h,uV ?_⟩
      refine xL.mono ?_
      rintro e w' ⟨st,ρ',v,rfl,Oa,hR,lB⟩
      obtain ⟨hp1,hkk⟩:=dy hR
      have hlt:=e7 hp1
      have sP: ∀m,m<nm->ρ' m=ρ m:=(lB.at_ _ _ hp1).2
      have JJ:=lB.diff (v:=v) hlt Ps hkl
      refine lO _ ρ' w' hkk (fun p hp=>Dn hp) sP ?_ JJ
      exact AV.aT (fun i hi=>by simp only [oI,C5,List.length_drop,List.length_set];omega) v Oa
     ·rename_i hq
      split at hy
      rotate_left
      ·cases hy
      rename_i m
      simp only [JY,O6,ny,hq] at h
      split at h
      ·rename_i s hg
       have hkk:=hC.ys m s hg ctx.X _ hp nm k h
       intro ro n av W ρ w a next Q hX he hk hst lO
       obtain ⟨l,g,tmps,assign,body,hl,hrun,apP⟩:=hkk ro (n- 1) av W ρ w hX (Pq hk) hst
       refine ⟨fun _ _=>trivial,?_⟩
       rw [Oper.semAt_eq _ _ _ hd]
       have:(execOp a.eval o).run P w= .ok (.round l g tmps assign body) w:=by
        have hf:=he f hfm
        rw [ny] at hf
        simp only [execOp,ho,resolve,Sem.run_bind,hf,AV.ae,A0.ae,Cell.ae,hl,Deferred.ofValue,Sem.run_pure,Result.andThen_ok,invoke]
        rw [hargs a ρ he]
        simpa using hrun
       rw [this,Oper.uponIn_round]
       refine ⟨fun h=>by simp [fw] at h,apP.mono ?_⟩
       rintro e w' ⟨r,ρ',hkr,hw,rfl,sP,Oa,lB⟩
       exact lO r ρ' w' hkr hw sP Oa lB
      ·exact h.elim
    ·cases hy
   ·cases hy
  ·rename_i op t x y yt ho
   rw [ho] at h
   simp only [JY] at h
   rw [if_pos hy] at h
   exact asO hT ho h
  ·cases hy
end
end Go.Ev
