/- Each operation does what 'opE' says; a call does what its contract says. -/
import Derived.Test.YtfgdjlhilladhaaGreatEvE0
import Derived.Test.YtfgdjlhilladhaaGreatEvD5
noncomputable section
set_option linter.unusedSectionVars false
set_option linter.unusedVariables false
set_option linter.unusedSimpArgs false
namespace Go.Ev
open Go.RowKit
def agy (P:Program) (f:FuncId) (X:Addr->Value->Prop) (args:List AV) (hp:HP) (nm:Nat) (r:Rec):Prop:=
 (∀p∈r.writes,hp p.1≠none)/\ ∀aC W ρ Kn Γ w,GU aC W X->(∀x∈args,x.ok Kn)->(∀m∈r.aO,Γ m=hp m)->(∀i,i<r.fresh.length-> ¬Kn (nm+i))->St aC W ρ Kn Γ w->
  Calls P f (args.map (AV.af ρ)).toArray w fun e w'=> ∃ρ',e= .returned (r.val.af ρ')/\ (∀m,Kn m->ρ' m=ρ m)/\ r.val.ok (tP Kn nm r)/\ St aC W ρ' (tP Kn nm r) (dO r nm Γ) w'
def ah (P:Program) (f:FuncId) (s:Spec):Prop:= ∀X args hp nm k,s X args hp nm k-> ∃r,agy P f X args hp nm r/\ k r
def dS (P:Program) (f:FuncId):Prop:= ∀args w,(callFunc f args).run P w= .ok (.enter f args) w
def ae (P:Program) (specs:List (Nat×Spec)):Prop:= ∀f s,aJ specs f=some s->dS P f/\ ah P f s
theorem ae.nil (P:Program):ae P []:=fun _ _ h=>by cases h
theorem ae.cons {P:Program} {f:FuncId} {s:Spec} {l:List (Nat×Spec)} (he:dS P f) (h:ah P f s) (hl:ae P l):ae P ((f,s)::l):=by
 intro g q hg
 unfold aJ at hg
 split at hg
 ·rename_i e;subst e;cases hg;exact ⟨he,h⟩
 ·exact hl g q hg
def amI (P:Program) (n:Nat) (X:Addr->Value->Prop) (args:List AV) (hp:HP) (nm:Nat) (k:Rec->Prop):Prop:=
 ∀ro m aC W ρ w,GU aC W X->(∀x∈args,x.ok (· <nm))->St aC W ρ (· <nm) hp w->
  ∃l f tmps assign body,(ρ n).1=some l/\ (Instr.yield l (args.map (AV.af ρ)).toArray).run P w= .ok (.round l f tmps assign body) w/\
   RoundIn (fw ro) m P l f tmps assign body w fun e w'=> ∃r ρ',k r/\ (∀p∈r.writes,hp p.1≠none)/\ e= .returned (r.val.af ρ')/\ (∀m,m<nm->ρ' m=ρ m)/\ r.val.ok (tP (· <nm) nm r)/\ St aC W ρ' (tP (· <nm) nm r) (dO r nm hp) w'
def xe (P:Program) (ys:List (Nat×Spec)):Prop:= ∀n s,aJ ys n=some s-> ∀X args hp nm k,s X args hp nm k->amI P n X args hp nm k
def dr (P:Program) (X:Addr->Value->Prop) (f:FuncId) (WL:k9):Prop:= ∀ys args heap R,WL ys args heap R->xe P ys-> ∀aC W ρ w,GU aC W X->(∀x∈args,x.ok (· <heap.length))->St aC W ρ (· <heap.length) (aA heap) w->
 Calls P f (args.map (AV.af ρ)).toArray w fun e w'=> ∃st ρ' v,e= .returned (v.af ρ')/\ v.ok (· <st.heap.length)/\ R v st/\ St aC W ρ' (· <st.heap.length) (aA st.heap) w'
def av (P:Program) (X:Addr->Value->Prop) (its:List (Nat×k9)):Prop:= ∀f WL,aJ its f=some WL->dS P f/\ dr P X f WL
structure rz (P:Program) (ctx:Ctx):Prop where
 sp:ae P ctx.specs
 ys:xe P ctx.ys
 its:av P ctx.X ctx.its
structure VS (P:Program) (ctx:Ctx):Prop where
 sp:ae P ctx.specs
 ys:ctx.ys= []
 its:ctx.its= []
theorem xe.nil (P:Program):xe P []:=fun _ _ h=>by cases h
theorem av.nil (P:Program) (X:Addr->Value->Prop):av P X []:=fun _ _ h=>by cases h
section
variable (P:Program) (X:Addr->Value->Prop)
def cm (o:Oper) (ev:Operand->AV) (hp:HP) (nm:Nat) (r:Rec):Prop:=
 (∀p∈r.writes,hp p.1≠none)/\ ∀ro n aC W ρ Kn Γ w a next Q,GU aC W X->(∀x∈o.op.operands,a.eval x=(ev x).af ρ)->(∀x∈o.op.operands,(ev x).ok Kn)->(∀m∈r.aO,Γ m=hp m)->
  (∀i,i<r.fresh.length-> ¬Kn (nm+i))->St aC W ρ Kn Γ w->
  (∀ρ' w',(∀m,Kn m->ρ' m=ρ m)->r.val.ok (tP Kn nm r)->St aC W ρ' (tP Kn nm r) (dO r nm Γ) w'->next (a.put o.dst (r.val.af ρ')) w')->
  o.wpIn (fw ro) n P a w next Q
end
section
variable {P:Program} {X:Addr->Value->Prop} {hp:HP} {nm:Nat} {k:Rec->Prop} {o:Oper} {ev:Operand->AV}
theorem cm.kX {Ht:(Nat->Prop)->Prop} {f:Env->Sem Value} {r:Rec} (hs:aS P X hp nm Ht f (fun ρ=>r.val.af ρ) r)
  (hok: ∀Kn,(∀x∈o.op.operands,(ev x).ok Kn)->Ht Kn) (hd: ∀c,o.op≠ .defer c)
  (hx: ∀(a:Act) (ρ:Env),(∀x∈o.op.operands,a.eval x=(ev x).af ρ)->execOp a.eval o=(do pure (.value (<- f ρ)))):cm P X o ev hp nm r:=by
 refine ⟨hs.1,?_⟩
 intro ro n aC W ρ Kn Γ w a next Q hX he hk ht hf hst oH
 obtain ⟨ρ',w',hrun,uI,SS,IU⟩:=hs.2 aC W ρ Kn Γ w hX (hok Kn hk) ht hf hst
 refine ⟨fun _ _=>trivial,?_⟩
 rw [Oper.semAt_eq _ _ _ hd,hx a ρ he]
 simp only [Sem.run_bind,hrun,Result.andThen_ok,Sem.run_pure,Oper.uponIn]
 exact oH ρ' w' uI SS IU
theorem cm.RG {Ht:(Nat->Prop)->Prop} {f:Env->Sem Unit} {r:Rec} (hs:aS P X hp nm Ht f (fun _=>()) r) (hv:r.val=aH)
  (hok: ∀Kn,(∀x∈o.op.operands,(ev x).ok Kn)->Ht Kn) (hd: ∀c,o.op≠ .defer c)
  (hx: ∀(a:Act) (ρ:Env),(∀x∈o.op.operands,a.eval x=(ev x).af ρ)->execOp a.eval o=(do f ρ;pure .skip)):cm P X o ev hp nm r:=by
 refine ⟨hs.1,?_⟩
 intro ro n aC W ρ Kn Γ w a next Q hX he hk ht hf hst oH
 obtain ⟨ρ',w',hrun,uI,SS,IU⟩:=hs.2 aC W ρ Kn Γ w hX (hok Kn hk) ht hf hst
 refine ⟨fun _ _=>trivial,?_⟩
 rw [Oper.semAt_eq _ _ _ hd,hx a ρ he]
 simp only [Sem.run_bind,hrun,Result.andThen_ok,Sem.run_pure,Oper.uponIn]
 have:=oH ρ' w' uI SS IU
 rw [hv] at this;exact this
theorem cm.same {v:AV} {tc:List Nat} (hd: ∀c,o.op≠ .defer c) (hv: ∀Kn,(∀x∈o.op.operands,(ev x).ok Kn)->v.ok Kn)
  (hx: ∀(a:Act) (ρ:Env) (Γ:HP) (aC:mY) (W w:World) (Kn:Nat->Prop),(∀x∈o.op.operands,a.eval x=(ev x).af ρ)->(∀m∈tc,Γ m=hp m)->St aC W ρ Kn Γ w->(execOp a.eval o).run P w= .ok (.value (v.af ρ)) w):
  cm P X o ev hp nm {val:=v,aO:=tc} :=by
 refine ⟨fun p hp=>absurd hp (by simp),?_⟩
 intro ro n aC W ρ Kn Γ w a next Q hX he hk ht hf hst oH
 refine ⟨fun _ _=>trivial,?_⟩
 rw [Oper.semAt_eq _ _ _ hd,hx a ρ Γ aC W w Kn he ht hst]
 simp only [Oper.uponIn]
 exact oH ρ w (fun _ _=>rfl) (by rw [jN];exact hv Kn hk) (by rw [jN,CD];exact hst)
theorem BJ {ro:Option Nat} {n:Nat} {f:FuncId} {args:Array Value} {w:World} {R:Ending->World->Prop} (h:Calls P f args w R):CallsIn (fw ro) n P f args w R:=by
 have:=(callsIn_wide (n:=n)).2 h
 exact this
theorem oL (ev:Operand->AV) (l:List Operand):vf ev l=l.map ev:=by induction l<;>simp_all [vf]
theorem VH {a:A0} {v:Value} (h:Ct a=some v) (ρ:Env):a.af ρ=v:=by
 have hl: ∀(cs:List Cell) (l:List Value),Ct.LB cs=some l->cs.map (Cell.af ρ)=l:=by
  intro cs
  induction cs with
  |nil=>intro l h;simp only [Ct.LB,Option.some.injEq] at h;subst h;rfl
  |cons c r ih=>
   intro l h
   cases c<;>simp only [Ct.LB,Option.map_eq_some_iff] at h<;>try (cases h;done)
   obtain ⟨l',h1,rfl⟩:=h
   simp [Cell.af,ih l' h1]
 cases a with
 |one c=>cases c<;>simp [Ct] at h;subst h;rfl
 |agg cs=>
  simp only [Ct,Option.map_eq_some_iff] at h
  obtain ⟨l,h1,rfl⟩:=h
  simp [A0.af,hl cs l h1]
theorem IB (ρ:Env): ∀(l:List AV) (vs:List Value),MJ l=some vs->l.map (AV.af ρ)=vs
 | [],vs,h=>by simp only [MJ,Option.some.injEq] at h;subst h;rfl
 |x::r,vs,h=>by
  simp only [MJ] at h
  split at h
  ·rename_i v l h1 h2
   cases h
   cases x with
   |v a=>simp [AV.af,VH h1,IB ρ r l h2]
   |AH l=>simp [af8] at h1
   |dead=>simp [af8] at h1
  ·cases h
theorem Yo {x:AV} {q:Ref} (h:af9 x=some q) (ρ:Env):x.af ρ=q.af ρ/\ ∀Kn,x.ok Kn->q.ok Kn:=by
 unfold af9 at h
 split at h<;>simp at h<;>subst h
 ·exact ⟨rfl,fun _ h=>h⟩
 ·exact ⟨rfl,fun _ h=>h⟩
 ·exact ⟨rfl,fun _ _=>trivial⟩
 ·exact ⟨rfl,fun _ h=>h⟩
 ·exact ⟨rfl,fun _ h=>h⟩
theorem yZ (ρ:Env): ∀(l:List AV) (qs:List Ref),MK l=some qs->l.map (AV.af ρ)=qs.map (Ref.af ρ)/\ ∀Kn,(∀x∈l,x.ok Kn)-> ∀q∈qs,q.ok Kn
 | [],qs,h=>by simp only [MK,Option.some.injEq] at h;subst h;exact ⟨rfl,fun _ _ q hq=>absurd hq (by simp)⟩
 |x::r,qs,h=>by
  simp only [MK] at h
  split at h
  ·rename_i v l h1 h2
   cases h
   obtain ⟨e1,k1⟩:=Yo h1 ρ
   obtain ⟨e2,k2⟩:=yZ ρ r l h2
   exact ⟨by simp [e1,e2],fun Kn hk q hq=>by
    rcases List.mem_cons.1 hq with rfl|hq
    ·exact k1 Kn (hk x (by simp))
    ·exact k2 Kn (fun y hy=>hk y (by simp [hy])) q hq⟩
  ·cases h
theorem vm (ρ:Env) (q:Ref):(Dy q).af ρ=q.af ρ:=by
 cases q with
 |ext v=>exact xZ v ρ
 |loc n off=>rfl
 |elem n j=>rfl
 |full n=>rfl
 |mp n=>rfl
theorem T8 {Kn:Nat->Prop} {q:Ref} (h:q.ok Kn):(Dy q).ok Kn:=by cases q<;>first|exact Gf _ _|exact h
theorem qc (ρ:Env) (q:Ref):(Em q).af ρ=q.af ρ:=by cases q<;>rfl
theorem LD {Kn:Nat->Prop} {q:Ref} (h:q.ok Kn):(Em q).ok Kn:=by cases q<;>first|trivial|exact h
theorem X1 (ρ:Env) (agg:Bool) (rs:List Ref):(UU agg rs).af ρ=Zs agg (rs.map (Ref.af ρ)):=by
 unfold UU Zs
 cases agg with
 |true=>simp only [AV.af,A0.af,List.map_map];congr 2;exact List.map_congr_left fun q _=>qc ρ q
 |false=>match rs with
  | []=>rfl
  | [r]=>exact qc ρ r
  |_::_::_=>rfl
theorem afr {Kn:Nat->Prop} {agg:Bool} {rs:List Ref} (h: ∀r∈rs,r.ok Kn):(UU agg rs).ok Kn:=by
 unfold UU
 cases agg with
 |true=>intro c hc;obtain ⟨r,hr,rfl⟩:=List.mem_map.1 hc;exact LD (h r hr)
 |false=>match rs,h with
  | [],_=>intro a ha;cases ha
  | [r],h=>exact LD (h r (by simp))
  |_::_::_,_=>intro a ha;cases ha
theorem N5 {q:Cell} {g:FuncId} {fs cs:List AV} (h:agO q=some (g,fs,cs)):
  (∀ρ:Env,q.af ρ= .func (.func g) (fs.map (AV.af ρ)).toArray (cs.map (AV.af ρ)).toArray)/\ ∀Kn,q.ok Kn->(∀x∈fs,x.ok Kn)/\ ∀x∈cs,x.ok Kn:=by
 unfold agO at h
 split at h
 ·cases h
  rename_i first cap
  refine ⟨fun ρ=> ?_,fun Kn hk=>⟨fun x hx=> ?_,fun x hx=> ?_⟩⟩
  ·have e1:List.map (AV.af ρ) (first.map ofV)=first:=by rw [List.map_map];exact (List.map_congr_left fun v _=>xZ v ρ).trans (List.map_id _)
   have e2:List.map (AV.af ρ) (cap.map Dy)=cap.map (Ref.af ρ):=by rw [List.map_map];exact List.map_congr_left fun v _=>vm ρ v
   rw [e1,e2];rfl
  ·obtain ⟨v,_,rfl⟩:=List.mem_map.1 hx;exact Gf _ _
  ·obtain ⟨r,hr,rfl⟩:=List.mem_map.1 hx;exact T8 (hk r hr)
 ·cases h
  refine ⟨fun ρ=> ?_,fun Kn hk=>⟨fun x hx=> ?_,fun x hx=>by cases hx⟩⟩
  ·simp only [List.map_cons,List.map_nil,X1];rfl
  ·rw [List.mem_singleton] at hx;subst hx;exact afr hk
 ·cases h
theorem CH {c:Cell} {r:Ref} (h:I4 c=some r):(∀ρ:Env,r.af ρ=c.af ρ)/\ (∀ρ:Env,(c.af ρ).oneCell'=true)/\ ∀Kn,c.ok Kn->r.ok Kn:=by
 unfold I4 at h
 split at h
 ·cases h;exact ⟨fun _=>rfl,fun _=>rfl,fun _ h=>h⟩
 ·cases h;exact ⟨fun _=>rfl,fun _=>rfl,fun _ h=>h⟩
 ·split at h
  ·rename_i hv
   cases h;exact ⟨fun _=>rfl,fun ρ=>Cell.JS (c:= .raw _) hv ρ,fun _ _=>trivial⟩
  ·cases h
 ·cases h;exact ⟨fun _=>rfl,fun _=>rfl,fun _ h=>h⟩
 ·cases h;exact ⟨fun _=>rfl,fun _=>rfl,fun _ h=>h⟩
 ·cases h
theorem AL: ∀ {cs:List Cell} {rs:List Ref},xl cs=some rs->(∀ρ:Env,rs.map (Ref.af ρ)=cs.map (Cell.af ρ))/\ ∀Kn,(∀c∈cs,c.ok Kn)-> ∀r∈rs,r.ok Kn
 | [],rs,h=>by simp only [xl,Option.some.injEq] at h;subst h;simp
 |c::l,rs,h=>by
  simp only [xl] at h
  split at h
  ·rename_i x m h1 h2
   cases h
   obtain ⟨e1,e2⟩:=AL h2
   obtain ⟨e3,_,e4⟩:=CH h1
   refine ⟨fun ρ=>by simp [e1,e3],fun Kn hk r hr=> ?_⟩
   rcases List.mem_cons.1 hr with rfl|hr
   ·exact e4 Kn (hk c (by simp))
   ·exact e2 Kn (fun c hc=>hk c (by simp [hc])) r hr
  ·cases h
theorem UW {v:AV} {agg:Bool} {rs:List Ref} (h:X2 v=some (agg,rs)):(∀ρ:Env,Zs agg (rs.map (Ref.af ρ))=v.af ρ)/\ ∀Kn,v.ok Kn-> ∀r∈rs,r.ok Kn:=by
 unfold X2 at h
 split at h
 ·split at h
  ·rename_i l hl
   cases h
   obtain ⟨e1,e2⟩:=AL hl
   exact ⟨fun ρ=>by rw [e1];rfl,e2⟩
  ·cases h
 ·split at h
  ·rename_i r hr
   cases h
   obtain ⟨e1,_,e2⟩:=CH hr
   refine ⟨fun ρ=>e1 ρ,fun Kn hk r hr=> ?_⟩
   rw [List.mem_singleton] at hr;subst hr;exact e2 Kn hk
  ·cases h
 ·cases h
end
section
variable {P:Program} {ctx:Ctx} {hp:HP} {nm:Nat} {k:Rec->Prop} {o:Oper} {ev:Operand->AV}
theorem aad (hT:aW P ctx.tt) (hS:VS P ctx) {c:Call} (ho:o.op= .call c) (h:N3 ctx c ev hp nm k): ∃r,cm P ctx.X o ev hp nm r/\ k r:=by
 obtain ⟨callee,args,argTypes⟩:=c
 have hd: ∀c,o.op≠ .defer c:=fun c e=>by rw [ho] at e;cases e
 have hargs: ∀(a:Act) (ρ:Env),(∀x∈o.op.operands,a.eval x=(ev x).af ρ)->args.map a.eval=((vf ev args.toList).map (AV.af ρ)).toArray:=by
  intro a ρ he
  apply Array.ext'
  simp only [Array.toList_map,oL,List.map_map]
  refine List.map_congr_left fun x hx=>he x ?_
  rw [ho];simp [Op.operands,Call.operands,Array.mem_toList_iff.1 hx]
 have On: ∀Kn,(∀x∈o.op.operands,(ev x).ok Kn)-> ∀x∈vf ev args.toList,x.ok Kn:=by
  intro Kn hk x hx
  rw [oL] at hx
  obtain ⟨y,hy,rfl⟩:=List.mem_map.1 hx
  exact hk y (by rw [ho];simp [Op.operands,Call.operands,Array.mem_toList_iff.1 hy])
 have enter: ∀(g:FuncId) (s:Spec) (full:List AV) (f:Operand) (fnv:AV),callee= .value f->ev f=fnv->aJ ctx.specs g=some s->s ctx.X full hp nm k->
   (∀Kn,(∀x∈o.op.operands,(ev x).ok Kn)-> ∀x∈full,x.ok Kn)->
   (∀(a:Act) (ρ:Env) (w:World),(∀x∈o.op.operands,a.eval x=(ev x).af ρ)->(execOp a.eval o).run P w= .ok (.enter g (full.map (AV.af ρ)).toArray) w)-> ∃r,cm P ctx.X o ev hp nm r/\ k r:=by
  intro g s full f fnv _ _ hg hs hfk hrun
  obtain ⟨r,hr,hkr⟩:=(hS.sp g s hg).2 ctx.X full hp nm k hs
  refine ⟨r,⟨hr.1,?_⟩,hkr⟩
  intro ro n aC W ρ Kn Γ w a next Q hX he hk ht hf hst oH
  refine ⟨fun _ _=>trivial,?_⟩
  rw [Oper.semAt_eq _ _ _ hd,hrun a ρ w he]
  simp only [Oper.uponIn]
  refine ⟨fun h=>by simp [fw] at h,BJ ?_⟩
  refine (hr.2 aC W ρ Kn Γ w hX (hfk Kn hk) ht hf hst).mono ?_
  rintro e w' ⟨ρ',rfl,uI,SS,IU⟩
  exact oH ρ' w' uI SS IU
 unfold N3 at h
 dsimp only at h
 split at h
 ·rename_i b
  obtain ⟨r,hr,hkr⟩:=QO (P:=P) (nm:=nm) hT h o.type (args.map fun| .const _=>true|_=>false)
  refine ⟨r,⟨hr.1,?_⟩,hkr⟩
  intro ro n aC W ρ Kn Γ w a next Q hX he hk ht hf hst oH
  obtain ⟨ρ',w',hrun,uI,SS,IU⟩:=hr.2 aC W ρ Kn Γ w hX (On Kn hk) ht hf hst
  refine ⟨fun _ _=>trivial,?_⟩
  rw [Oper.semAt_eq _ _ _ hd]
  have:(execOp a.eval o).run P w= .ok (.value (r.val.af ρ')) w':=by
   simp only [execOp,ho,resolve,Sem.run_bind,Sem.run_pure,Result.andThen_ok,invoke]
   rw [hargs a ρ he]
   exact hrun
  rw [this]
  simp only [Oper.uponIn]
  exact oH ρ' w' uI SS IU
 ·rename_i f
  have hfm:f∈o.op.operands:=by rw [ho];simp [Op.operands,Call.operands]
  split at h
  ·rename_i q Rh
   split at h
   ·rename_i g fs cs hq
    obtain ⟨hqc,hqk⟩:=N5 hq
    split at h
    ·rename_i s hg
     refine enter g s _ f _ rfl Rh hg h ?_ ?_
     ·intro Kn hk x hx
      have hfk:=hk f hfm
      rw [Rh] at hfk
      obtain ⟨k1,k2⟩:=hqk Kn hfk
      rcases List.mem_append.1 hx with hx|hx
      ·rcases List.mem_append.1 hx with hx|hx
       ·exact k1 x hx
       ·exact On Kn hk x hx
      ·exact k2 x hx
     ·intro a ρ w he
      have hf:=he f hfm
      rw [Rh] at hf
      simp only [execOp,ho,resolve,Sem.run_bind,hf,AV.af,A0.af,hqc ρ,Deferred.ofValue,Sem.run_pure,Result.andThen_ok,invoke]
      rw [hargs a ρ he,(hS.sp g s hg).1]
      congr 2
      apply Array.ext'
      simp [List.map_append,-List.map_map]
    ·rw [hS.its] at h
     exact h.elim
   ·split at h
    ·rename_i g first cap hq
     split at h
     ·rename_i s hg
      refine enter g s _ f _ rfl Rh hg h ?_ ?_
      ·intro Kn hk x hx
       rcases List.mem_append.1 hx with hx|hx
       ·rcases List.mem_append.1 hx with hx|hx
        ·obtain ⟨v,_,rfl⟩:=List.mem_map.1 hx;exact Gf _ _
        ·exact On Kn hk x hx
       ·obtain ⟨q,hq,rfl⟩:=List.mem_map.1 hx;exact Gf _ _
      ·intro a ρ w he
       have hf:=he f hfm
       rw [Rh] at hf
       simp only [execOp,ho,resolve,Sem.run_bind,hf,AV.af,A0.af,Cell.af,Deferred.ofValue,Sem.run_pure,Result.andThen_ok,invoke]
       rw [hargs a ρ he,(hS.sp g s hg).1]
       congr 2
       apply Array.ext'
       have e1: ∀l:List Value,List.map (AV.af ρ) (l.map ofV)=l:=fun l=>by rw [List.map_map];exact (List.map_congr_left fun v _=>xZ v ρ).trans (List.map_id _)
       simp [List.map_append,-List.map_map,e1]
     ·exact h.elim
    ·rw [hS.ys] at h
     exact h.elim
    ·exact h.elim
  ·exact h.elim
 ·exact h.elim
theorem Zf (hT:aW P ctx.tt) (hS:VS P ctx) (h:opE ctx o.op ev hp nm k): ∃r,cm P ctx.X o ev hp nm r/\ k r:=by
 unfold opE at h
 split at h
 ·rename_i x ho
  exact ⟨_,cm.same (fun c e=>by rw [ho] at e;cases e) (fun Kn hk=>hk x (by rw [ho];simp [Op.operands])) fun a ρ Γ aC W w Kn he _ _=>by simp [execOp,ho,he x (by rw [ho];simp [Op.operands])],h⟩
 ·rename_i x ho
  exact ⟨_,cm.same (fun c e=>by rw [ho] at e;cases e) (fun Kn hk=>hk x (by rw [ho];simp [Op.operands])) fun a ρ Γ aC W w Kn he _ _=>by simp [execOp,ho,he x (by rw [ho];simp [Op.operands])],h⟩
 ·rename_i c x y ho
  split at h
  ·rename_i t hc
   cases t with
   |true=>
    refine ⟨_,cm.same (fun c e=>by rw [ho] at e;cases e) (fun Kn hk=>hk x (by rw [ho];simp [Op.operands])) fun a ρ Γ aC W w Kn he _ _=> ?_,h⟩
    have h1:=he c (by rw [ho];simp [Op.operands])
    rw [hc] at h1
    simp [execOp,ho,h1,AV.af,A0.af,Cell.af,asBool,he x (by rw [ho];simp [Op.operands])]
   |false=>
    refine ⟨_,cm.same (fun c e=>by rw [ho] at e;cases e) (fun Kn hk=>hk y (by rw [ho];simp [Op.operands])) fun a ρ Γ aC W w Kn he _ _=> ?_,h⟩
    have h1:=he c (by rw [ho];simp [Op.operands])
    rw [hc] at h1
    simp [execOp,ho,h1,AV.af,A0.af,Cell.af,asBool,he y (by rw [ho];simp [Op.operands])]
  ·exact h.elim
 ·rename_i t ho
  split at h
  ·rename_i i hi
   exact ⟨_,cm.kX (Z6 hT hi) (fun _ _=>trivial) (fun c e=>by rw [ho] at e;cases e) fun a ρ he=>by simp [execOp,ho],h⟩
  ·exact h.elim
 ·rename_i t x ho
  split at h
  ·rename_i xs hxs
   exact ⟨_,cm.kX (agK hxs (ctx:=ctx)) (fun Kn hk=>hk x (by rw [ho];simp [Op.operands])) (fun c e=>by rw [ho] at e;cases e) fun a ρ he=>by simp [execOp,ho,he x (by rw [ho];simp [Op.operands])],h⟩
  ·exact h.elim
 ·rename_i t parts ho
  split at h
  ·rename_i i hi
   obtain ⟨r,h1,h2⟩:=VZ (nm:=nm) (hp:=hp) hT hi h
   refine ⟨r,cm.kX h1 (fun Kn hk p hp=>hk p.2 ?_) (fun c e=>by rw [ho] at e;cases e) fun a ρ he=> ?_,h2⟩
   ·rw [ho];simp only [Op.operands,List.mem_toArray,List.mem_map];exact ⟨p,hp,rfl⟩
   ·have:(parts.map fun (i,x)=>(i,a.eval x))=parts.map fun (i,x)=>(i,(ev x).af ρ):=Array.map_congr_left fun p hp=>by
     show (p.1,a.eval p.2)=(p.1,(ev p.2).af ρ)
     rw [he p.2 (by rw [ho];simp only [Op.operands,List.mem_toArray,List.mem_map];exact ⟨p,Array.mem_toList_iff.2 hp,rfl⟩)]
    simp only [execOp,ho,this]
  ·exact h.elim
 ·rename_i t len parts ho
  split at h
  ·rename_i i hi
   split at h
   ·rename_i h0
    simp only [Bool.and_eq_true,List.isEmpty_iff] at h0
    obtain ⟨r,h1,h2⟩:=Nk (hp:=hp) hT hi h
    refine ⟨r,cm.kX h1 (fun _ _=>trivial) (fun c e=>by rw [ho] at e;cases e) fun a ρ he=> ?_,h2⟩
    have e1:len=0:=Nat.eq_of_beq_eq_true h0.1
    have e2:parts= #[]:=by cases parts;simp_all
    subst e1;subst e2
    simp [execOp,ho]
   obtain ⟨r,h1,h2⟩:=IL (hp:=hp) hT hi h
   refine ⟨r,cm.kX h1 (fun Kn hk p hp=>hk p.2 ?_) (fun c e=>by rw [ho] at e;cases e) fun a ρ he=> ?_,h2⟩
   ·rw [ho];simp only [Op.operands,List.mem_toArray,List.mem_map];exact ⟨p,hp,rfl⟩
   ·have:(parts.map fun (i,x)=>(i,a.eval x))=parts.map fun (i,x)=>(i,(ev x).af ρ):=Array.map_congr_left fun p hp=>by
     show (p.1,a.eval p.2)=(p.1,(ev p.2).af ρ)
     rw [he p.2 (by rw [ho];simp only [Op.operands,List.mem_toArray,List.mem_map];exact ⟨p,Array.mem_toList_iff.2 hp,rfl⟩)]
    simp only [execOp,ho,this]
  ·exact h.elim
 ·rename_i t x ho
  split at h
  ·rename_i i hi
   obtain ⟨r,h1,h2⟩:=aaZ (nm:=nm) hT hi h
   exact ⟨r,cm.kX h1 (fun Kn hk=>hk x (by rw [ho];simp [Op.operands])) (fun c e=>by rw [ho] at e;cases e) fun a ρ he=>by simp [execOp,ho,he x (by rw [ho];simp [Op.operands])],h2⟩
  ·exact h.elim
 ·rename_i t x y ho
  split at h
  ·rename_i i hi
   obtain ⟨r,h1,h2,h3⟩:=Yl (nm:=nm) hT hi h
   exact ⟨r,cm.RG h1 h2 (fun Kn hk=>⟨hk x (by rw [ho];simp [Op.operands]),hk y (by rw [ho];simp [Op.operands])⟩) (fun c e=>by rw [ho] at e;cases e)
    fun a ρ he=>by simp [execOp,ho,he x (by rw [ho];simp [Op.operands]),he y (by rw [ho];simp [Op.operands])],h3⟩
  ·exact h.elim
 ·rename_i x ho
  have G6:x∈o.op.operands:=by rw [ho];simp [Op.operands]
  split at h
  ·rename_i n off hx
   obtain ⟨⟨ob,w5,pQ⟩,hk⟩:=eC h
   refine ⟨_,cm.same (fun c e=>by rw [ho] at e;cases e) (fun Kn hk=>by have:=hk x G6;rw [hx] at this;exact this) fun a ρ Γ aC W w Kn he ht hst=> ?_,hk⟩
   obtain ⟨b,hb⟩:=pQ _ _ ρ w (hst.at_ n ob (by rw [ht n (by simp),w5]))
   have h1:=he x G6
   rw [hx,oN hb] at h1
   simp [execOp,ho,h1,oN hb]
  ·rename_i n off hx
   obtain ⟨⟨ob,w5,pQ⟩,hk⟩:=eC h
   refine ⟨_,cm.same (fun c e=>by rw [ho] at e;cases e) (fun Kn hk=>by have:=hk x G6;rw [hx] at this;exact this) fun a ρ Γ aC W w Kn he ht hst=> ?_,hk⟩
   obtain ⟨b,hb⟩:=pQ _ _ ρ w (hst.at_ n ob (by rw [ht n (by simp),w5]))
   have h1:=he x G6
   rw [hx,qh hb] at h1
   simp [execOp,ho,h1,qh hb]
  ·rename_i n j q hx
   split at h
   ·rename_i hrc
    obtain ⟨c,cs,w5⟩:=OA hrc
    refine ⟨_,cm.same (fun c e=>by rw [ho] at e;cases e) (fun Kn hk=>by have:=hk x G6;rw [hx] at this;exact this) fun a ρ Γ aC W w Kn he ht hst=> ?_,h⟩
    obtain ⟨b,hb⟩:=Zq (hst.at_ n (.rc (c::cs)) (by rw [ht n (by simp),w5]))
    have h1:=he x G6
    rw [hx,iV hb] at h1
    simp [execOp,ho,h1,iV hb]
   obtain ⟨u,l,rk,w5,hj,hk⟩:=eE h
   refine ⟨_,cm.same (fun c e=>by rw [ho] at e;cases e) (fun Kn hk=>by have:=hk x G6;rw [hx] at this;exact this) fun a ρ Γ aC W w Kn he ht hst=> ?_,hk⟩
   obtain ⟨b,hb⟩:=(rk.2.at (hst.at_ n _ (by rw [ht n (by simp),w5]))).2.2.2 _ hj
   have h1:=he x G6
   rw [hx,iV hb] at h1
   simp [execOp,ho,h1,iV hb]
  ·rename_i n j q hx
   obtain ⟨u,l,rk,w5,hj,hk⟩:=eE h
   refine ⟨_,cm.same (fun c e=>by rw [ho] at e;cases e) (fun Kn hk=>by have:=hk x G6;rw [hx] at this;exact this) fun a ρ Γ aC W w Kn he ht hst=> ?_,hk⟩
   obtain ⟨b,hb⟩:=(rk.2.at (hst.at_ n _ (by rw [ht n (by simp),w5]))).2.2.2 _ hj
   have h1:=he x G6
   rw [hx,qy hb] at h1
   simp [execOp,ho,h1,qy hb]
  ·rename_i f first cap hx
   refine ⟨_,cm.same (fun c e=>by rw [ho] at e;cases e) (fun Kn hk=>by have:=hk x G6;rw [hx] at this;exact this) fun a ρ Γ aC W w Kn he ht hst=> ?_,h⟩
   have h1:=he x G6
   rw [hx] at h1
   simp [execOp,ho,h1,AV.af,A0.af,Cell.af]
  ·rename_i f agg rs hx
   refine ⟨_,cm.same (fun c e=>by rw [ho] at e;cases e) (fun Kn hk=>by have:=hk x G6;rw [hx] at this;exact this) fun a ρ Γ aC W w Kn he ht hst=> ?_,h⟩
   have h1:=he x G6
   rw [hx] at h1
   simp [execOp,ho,h1,AV.af,A0.af,Cell.af]
  ·rename_i b hx
   refine ⟨_,cm.same (fun c e=>by rw [ho] at e;cases e) (fun Kn hk=> ?_) (fun a ρ Γ aC W w Kn he ht hst=> ?_),h⟩
   ·trivial
   have h1:=he x G6
   rw [hx] at h1
   simp [execOp,ho,h1,AV.af,A0.af,Cell.af]
  ·rename_i f first cap hx
   refine ⟨_,cm.same (fun c e=>by rw [ho] at e;cases e) (fun Kn hk=> ?_) (fun a ρ Γ aC W w Kn he ht hst=> ?_),h⟩
   ·trivial
   have h1:=he x G6
   rw [hx] at h1
   simp [execOp,ho,h1,AV.af,A0.af,Cell.af]
  ·exact h.elim
 ·rename_i op t x y yt ho
  rw [if_neg (by simp [ndB,hS.its])] at h
  obtain ⟨r,h1,h2⟩:=ac2 (nm:=nm) (hp:=hp) (P:=P) (ox:=x) (oy:=y) hT h
  refine ⟨r,cm.kX h1 (fun _ _=>trivial) (fun c e=>by rw [ho] at e;cases e) fun a ρ he=> ?_,h2⟩
  simp [execOp,ho,he x (by rw [ho];simp [Op.operands]),he y (by rw [ho];simp [Op.operands])]
 ·rename_i u t x ho
  have G6:x∈o.op.operands:=by rw [ho];simp [Op.operands]
  split at h
  ·rename_i kk n hx
   refine ⟨_,cm.same (fun c e=>by rw [ho] at e;cases e) (fun Kn hk=> ?_) (fun a ρ Γ aC W w Kn he ht hst=> ?_),h⟩
   ·trivial
   have h1:=he x G6
   rw [hx] at h1
   simp [execOp,ho,h1,AV.af,A0.af,Cell.af,Op.unary,Op.intArith,iI]
  ·rename_i b hx
   refine ⟨_,cm.same (fun c e=>by rw [ho] at e;cases e) (fun Kn hk=> ?_) (fun a ρ Γ aC W w Kn he ht hst=> ?_),h⟩
   ·trivial
   have h1:=he x G6
   rw [hx] at h1
   simp [execOp,ho,h1,AV.af,A0.af,Cell.af,Op.unary,cf]
  ·exact h.elim
 ·rename_i s d x ho
  have G6:x∈o.op.operands:=by rw [ho];simp [Op.operands]
  split at h
  ·rename_i i0 i hi0 hi
   split at h
   ·rename_i kk k1 n hd hx
    refine ⟨_,cm.same (fun c e=>by rw [ho] at e;cases e) (fun Kn hk=> ?_) (fun a ρ Γ aC W w Kn he ht hst=> ?_),h⟩
    ·trivial
    have h1:=he x G6
    rw [hx] at h1
    simp [execOp,ho,h1,AV.af,A0.af,Cell.af,convert,hT.u hi0,hT.u hi,hd,Conv.intToInt,iI]
   ·exact h.elim
  ·exact h.elim
 ·rename_i fn first cap ho
  split at h
  ·rename_i f c hf hc
   refine ⟨_,cm.same (fun c e=>by rw [ho] at e;cases e) (fun Kn hk=> ?_) fun a ρ Γ aC W w Kn he ht hst=> ?_,h⟩
   ·refine (yZ (fun _=> {}) _ _ hc).2 Kn fun x hx=> ?_
    rw [oL] at hx
    obtain ⟨y,hy,rfl⟩:=List.mem_map.1 hx
    exact hk y (by rw [ho];simp [Op.operands,Array.mem_toList_iff.1 hy])
   ·have e1:first.map a.eval=f.toArray:=by
     apply Array.ext'
     rw [<- IB ρ _ _ hf,oL]
     simp only [Array.toList_map,List.map_map]
     exact List.map_congr_left fun y hy=>he y (by rw [ho];simp [Op.operands,Array.mem_toList_iff.1 hy])
    have e2:cap.map a.eval=(c.map (Ref.af ρ)).toArray:=by
     apply Array.ext'
     rw [<- (yZ ρ _ _ hc).1,oL]
     simp only [Array.toList_map,List.map_map]
     exact List.map_congr_left fun y hy=>he y (by rw [ho];simp [Op.operands,Array.mem_toList_iff.1 hy])
    simp only [execOp,ho,Instr.makeFunc,e1,e2,AV.af,A0.af,Cell.af]
    rfl
  ·split at h
   ·rename_i g r hfs hcs
    split at h
    ·rename_i agg rs hr
     obtain ⟨hrc,C5⟩:=UW hr
     have hmem: ∀y∈first.toList,y∈o.op.operands:=fun y hy=>by rw [ho];simp [Op.operands,Array.mem_toList_iff.1 hy]
     rw [oL] at hfs
     obtain ⟨y,hy1⟩: ∃y,first.toList= [y]:=by
      match hm:first.toList,hfs with
      | [y],_=>exact ⟨y,rfl⟩
     have hr1:ev y=r:=by rw [hy1] at hfs;simpa using hfs
     refine ⟨_,cm.same (fun c e=>by rw [ho] at e;cases e) (fun Kn hk=> ?_) fun a ρ Γ aC W w Kn he ht hst=> ?_,h⟩
     ·exact C5 Kn (by rw [<- hr1];exact hk y (hmem y (by rw [hy1];simp)))
     ·have e1:first.map a.eval= #[r.af ρ]:=by
       apply Array.ext'
       simp only [Array.toList_map,hy1,List.map_cons,List.map_nil]
       rw [he y (hmem y (by rw [hy1];simp)),hr1]
      have e2:cap.map a.eval= #[]:=by
       apply Array.ext'
       simp [Array.toList_map,hcs]
      simp only [execOp,ho,Instr.makeFunc,e1,e2,AV.af,A0.af,Cell.af,hrc ρ]
      rfl
    ·exact h.elim
   ·exact h.elim
 ·rename_i t ho
  split at h
  ·rename_i i hi
   obtain ⟨r,h1,h2⟩: ∃r,aS P ctx.X hp nm (fun _=>True) (fun _=>Instr.makeMap t none) (fun ρ=>r.val.af ρ) r/\ k r:=by
    exact Rw h
   exact ⟨r,cm.kX h1 (fun _ _=>trivial) (fun c e=>by rw [ho] at e;cases e) fun a ρ he=>by simp only [execOp,ho,Option.map_none],h2⟩
  ·exact h.elim
 ·rename_i t x ix ok ho
  split at h
  ·rename_i i hi
   obtain ⟨r,h1,h2⟩: ∃r,aS P ctx.X hp nm (fun _=>True) (fun ρ=>Instr.lookup t ((ev x).af ρ) ((ev ix).af ρ) ok) (fun ρ=>r.val.af ρ) r/\ k r:=by
    exact TN hT hi h
   exact ⟨r,cm.kX h1 (fun _ _=>trivial) (fun c e=>by rw [ho] at e;cases e) fun a ρ he=>by simp [execOp,ho,he x (by rw [ho];simp [Op.operands]),he ix (by rw [ho];simp [Op.operands])],h2⟩
  ·exact h.elim
 ·rename_i t m ix x ho
  split at h
  ·rename_i i hi
   obtain ⟨r,h1,h2,h3⟩: ∃r,aS P ctx.X hp nm (fun _=>True) (fun ρ=>Instr.mapUpdate t ((ev m).af ρ) ((ev ix).af ρ) ((ev x).af ρ)) (fun _=>()) r/\ k r/\ r.val=aH:=by
    exact xM hT hi h
   exact ⟨r,cm.RG h1 h3 (fun _ _=>trivial) (fun c e=>by rw [ho] at e;cases e) fun a ρ he=>by simp [execOp,ho,he m (by rw [ho];simp [Op.operands]),he ix (by rw [ho];simp [Op.operands]),he x (by rw [ho];simp [Op.operands])],h2⟩
  ·exact h.elim
 ·rename_i t m ix x ho
  split at h
  ·rename_i i hi
   obtain ⟨r,h1,h2,h3⟩:=xM (nm:=nm) hT hi h
   exact ⟨r,cm.RG h1 h3 (fun _ _=>trivial) (fun c e=>by rw [ho] at e;cases e) fun a ρ he=>by simp [execOp,ho,he m (by rw [ho];simp [Op.operands]),he ix (by rw [ho];simp [Op.operands]),he x (by rw [ho];simp [Op.operands])],h2⟩
  ·exact h.elim
 ·rename_i t x lo hh mx ho
  split at h
  ·rename_i i hi
   obtain ⟨r,h1,h2⟩:=Yd (nm:=nm) (P:=P) hT hi h
   refine ⟨r,cm.kX h1 (fun Kn hk=>hk x (by rw [ho];simp [Op.operands])) (fun c e=>by rw [ho] at e;cases e) fun a ρ he=> ?_,h2⟩
   have e: ∀q:Option Operand,(∀y,q=some y->y∈o.op.operands)->q.map a.eval=(q.map ev).map (AV.af ρ):=by
    intro q hq;cases q with
    |none=>rfl
    |some y=>simp [he y (hq y rfl)]
   rw [execOp,ho]
   simp only
   rw [he x (by rw [ho];simp [Op.operands]),e lo (fun y hy=>by rw [ho];simp [Op.operands,hy]),e hh (fun y hy=>by rw [ho];simp [Op.operands,hy]),e mx (fun y hy=>by rw [ho];simp [Op.operands,hy])]
  ·exact h.elim
 ·rename_i t x y ho
  split at h
  ·rename_i i hi
   obtain ⟨r,h1,h2⟩:=xL (hp:=hp) hT hi h
   exact ⟨r,cm.kX h1 (fun _ _=>trivial) (fun c e=>by rw [ho] at e;cases e) fun a ρ he=>by simp [execOp,ho,he x (by rw [ho];simp [Op.operands]),he y (by rw [ho];simp [Op.operands])],h2⟩
  ·exact h.elim
 ·rename_i t x f ho
  split at h
  ·rename_i i hi
   obtain ⟨r,h1,h2⟩:=J9 (nm:=nm) hT hi h
   exact ⟨r,cm.kX h1 (fun Kn hk=>hk x (by rw [ho];simp [Op.operands])) (fun c e=>by rw [ho] at e;cases e) fun a ρ he=>by simp [execOp,ho,he x (by rw [ho];simp [Op.operands])],h2⟩
  ·exact h.elim
 ·rename_i t x f ho
  split at h
  ·rename_i i hi
   obtain ⟨r,h1,h2⟩:=Wg (nm:=nm) (hp:=hp) hT hi h
   exact ⟨r,cm.kX h1 (fun Kn hk=>hk x (by rw [ho];simp [Op.operands])) (fun c e=>by rw [ho] at e;cases e) fun a ρ he=>by simp [execOp,ho,he x (by rw [ho];simp [Op.operands])],h2⟩
  ·exact h.elim
 ·rename_i t x ix ho
  split at h
  ·rename_i i hi
   obtain ⟨r,h1,h2⟩:=Kp (nm:=nm) hT hi h
   exact ⟨r,cm.kX h1 (fun Kn hk=>hk x (by rw [ho];simp [Op.operands])) (fun c e=>by rw [ho] at e;cases e) fun a ρ he=>by simp [execOp,ho,he x (by rw [ho];simp [Op.operands]),he ix (by rw [ho];simp [Op.operands])],h2⟩
  ·exact h.elim
 ·rename_i t x ix ho
  split at h
  ·rename_i i hi
   obtain ⟨r,h1,h2⟩:=Wy (nm:=nm) (hp:=hp) hT hi h
   exact ⟨r,cm.kX h1 (fun Kn hk=>hk x (by rw [ho];simp [Op.operands])) (fun c e=>by rw [ho] at e;cases e) fun a ρ he=>by simp [execOp,ho,he x (by rw [ho];simp [Op.operands]),he ix (by rw [ho];simp [Op.operands])],h2⟩
  ·exact h.elim
 ·rename_i x i ho
  have G6:x∈o.op.operands:=by rw [ho];simp [Op.operands]
  split at h
  ·rename_i l hx
   split at h
   ·rename_i v hv
    refine ⟨_,cm.same (fun c e=>by rw [ho] at e;cases e) (fun Kn hk=> ?_) fun a ρ Γ aC W w Kn he ht hst=> ?_,h⟩
    ·have:=hk x G6;rw [hx] at this;exact this v (List.mem_of_getElem? hv)
    ·have h1:=he x G6
     rw [hx] at h1
     simp [execOp,ho,h1,AV.af,Instr.extract,hv]
   ·exact h.elim
  ·exact h.elim
 ·rename_i c ho
  exact aad hT hS ho h
 ·exact h.elim
def OpK (P:Program) (X:Addr->Value->Prop) (o:Oper) (ev:Operand->AV) (hp:HP) (nm:Nat) (k:Rec->Prop):Prop:=
 ∀ro n aC W ρ w a next Q,GU aC W X->(∀x∈o.op.operands,a.eval x=(ev x).af ρ)->(∀x∈o.op.operands,(ev x).ok (· <nm))->St aC W ρ (· <nm) hp w->
  (∀r ρ' w',k r->(∀p∈r.writes,hp p.1≠none)->(∀m,m<nm->ρ' m=ρ m)->r.val.ok (tP (· <nm) nm r)->St aC W ρ' (tP (· <nm) nm r) (dO r nm hp) w'->next (a.put o.dst (r.val.af ρ')) w')->
  o.wpIn (fw ro) n P a w next Q
theorem OpK.ajX {X:Addr->Value->Prop} {r:Rec} (h:cm P X o ev hp nm r) (hk:k r):OpK P X o ev hp nm k:=
 fun ro n aC W ρ w a next Q hX he hv hst hn=>h.2 ro n aC W ρ _ _ w a next Q hX he hv (fun _ _=>rfl) (fun i _=>by omega) hst fun ρ' w' h1 h2 h3=>hn r ρ' w' hk h.1 h1 h2 h3
def TE (ctx:Ctx) (ev:Operand->AV):Op->Bool
 | .call c=>match c.callee with
  | .value f=>match ev f with
   | .v (.one q)=>match agO q with
    |some (g,_,_)=>(aJ ctx.specs g).isNone
    |none=>match q with
     | .sJ _=>true
     |_=>false
   |_=>false
  |_=>false
 | .binOp _ _ x y _=>ndB ctx (ev x) (ev y)
 |_=>false
theorem abj (h:opE ctx o.op ev hp nm k) (hy:TE ctx ev o.op=false):opE {ctx with ys:= [],its:= []} o.op ev hp nm k:=by
 revert h hy
 cases o.op with
 |call c=>
  intro h hy
  simp only [opE,N3] at h ⊢
  simp only [TE] at hy
  split at h
  ·exact h
  ·rename_i f hc
   rw [hc] at hy
   dsimp only at hy
   split at h
   ·rename_i q Rh
    rw [Rh] at hy
    dsimp only at hy ⊢
    split at h
    ·rename_i g fs cs hq
     rw [hq] at hy
     dsimp only at hy ⊢
     split at h
     ·rename_i s hs
      exact h
     ·rename_i hs
      rw [hs] at hy;cases hy
    ·rename_i hq
     rw [hq] at hy
     dsimp only at hy ⊢
     split at h
     ·exact h
     ·cases hy
     ·exact h.elim
   ·exact h.elim
  ·exact h.elim
 |binOp op t x y yt=>
  intro h hy
  simp only [TE] at hy
  simp only [opE] at h ⊢
  rw [if_neg (by rw [hy];decide)] at h
  rw [if_neg (by simp [ndB])]
  exact h
 |makeMap t r=>intro h _;cases r<;>exact h
 |_=>intro h _;exact h
theorem alY (hT:aW P ctx.tt) {op:BinOp} {t:TypeId} {x y:Operand} {yt:TypeId} (ho:o.op= .binOp op t x y yt) (h:ajS ctx op t (ev x) (ev y) hp k):OpK P ctx.X o ev hp nm k:=by
 unfold ajS at h
 split at h
 rotate_left
 ·exact h.elim
 rename_i n hx hy
 split at h
 rotate_left
 ·exact h.elim
 rename_i u l rk i hr hi
 have key: ∀(g:Bool->Bool),(∀(e:TypeId),i.desc= .slice e-> ∀(a:Option Addr) (n1 c1:Nat) (w:World),(binOp op t (.slice a n1 c1) (.slice none 0 0)).run P w= .ok (.bool (g a.isNone)) w)->(∃e,i.desc= .slice e)->(∀b:Bool,(0<l.length->b=false)->k {val:=cf (g b),aO:= [n]})->OpK P ctx.X o ev hp nm k:=by
  intro g hrun ⟨e,hd⟩ hk ro n' aC W ρ w a next Q hX he hok hst oH
  obtain ⟨_,_,_,sub,hm⟩:=hst.at_ n _ hr
  have hb:0<l.length->(ρ n).base.isNone=false:=by
   intro hl
   have hlen:0<(aL sub 0 (aD u l)).length:=by rw [bM,bA];exact Nat.mul_pos hl u.size_pos
   obtain ⟨a',e',_⟩:=hm.1 0 _ (List.getElem?_eq_getElem hlen)
   rw [e'];rfl
  have h1:=he x (by rw [ho];simp [Op.operands])
  have h2:=he y (by rw [ho];simp [Op.operands])
  rw [hx] at h1
  rw [hy] at h2
  have hg:=dZ (P:=P) op t x y (.slice (ρ n).base (ρ n).len (ρ n).cap) (.slice none 0 0) w (by simp) (by simp)
  have hr2:=hrun e hd (ρ n).base (ρ n).len (ρ n).cap w
  have alh:(execOp a.eval o).run P w= .ok (.value (.bool (g (ρ n).base.isNone))) w:=by
   simp [execOp,ho,h1,h2,AV.af,A0.af,Cell.af,hg,hr2]
  refine ⟨fun _ _=>trivial,?_⟩
  rw [Oper.semAt_eq _ _ _ (fun c e=>by rw [ho] at e;cases e),alh]
  simp only [Oper.uponIn]
  exact oH {val:=cf (g (ρ n).base.isNone),aO:= [n]} ρ w (hk _ hb) (fun p hp=>absurd hp (by simp)) (fun _ _=>rfl) (by rw [jN];exact trivial) (by rw [jN,CD];exact hst)
 split at h
 ·rename_i e hd
  exact key id (fun e hd a n1 c1 w=>by simp [binOp,om hT hi hd]) ⟨e,hd⟩ h
 ·rename_i e hd
  exact key (fun b=> !b) (fun e hd a n1 c1 w=>by simp [binOp,om hT hi hd]) ⟨e,hd⟩ h
 ·exact h.elim
theorem al2 (hT:aW P ctx.tt) (hC:rz P ctx) (h:opE ctx o.op ev hp nm k):OpK P ctx.X o ev hp nm k:=by
 cases hy:TE ctx ev o.op with
 |false=>
  obtain ⟨r,h1,h2⟩:=Zf (ctx:= {ctx with ys:= [],its:= []}) hT ⟨hC.sp,rfl,rfl⟩ (abj h hy)
  exact .ajX h1 h2
 |true=>
  unfold TE at hy
  split at hy
  ·rename_i c ho
   split at hy
   ·rename_i f hc
    obtain ⟨callee,args,argTypes⟩:=c
    dsimp only at hc
    subst hc
    have hd: ∀c,o.op≠ .defer c:=fun c e=>by rw [ho] at e;cases e
    have hmem: ∀x∈args.toList,x∈o.op.operands:=fun x hx=>by rw [ho];simp [Op.operands,Call.operands,Array.mem_toList_iff.1 hx]
    have hfm:f∈o.op.operands:=by rw [ho];simp [Op.operands,Call.operands]
    have hargs: ∀(a:Act) (ρ:Env),(∀x∈o.op.operands,a.eval x=(ev x).af ρ)->args.map a.eval=((vf ev args.toList).map (AV.af ρ)).toArray:=by
     intro a ρ he
     apply Array.ext'
     simp only [Array.toList_map,oL,List.map_map]
     exact List.map_congr_left fun x hx=>he x (hmem x hx)
    have On:(∀x∈o.op.operands,(ev x).ok (· <nm))-> ∀x∈vf ev args.toList,x.ok (· <nm):=by
     intro hk x hx
     rw [oL] at hx
     obtain ⟨y,hy,rfl⟩:=List.mem_map.1 hx
     exact hk y (hmem y hy)
    split at hy
    ·rename_i q Rh
     rw [ho] at h
     split at hy
     ·rename_i g fs cs hq
      simp only [opE,N3,Rh,hq] at h
      obtain ⟨hqc,hqk⟩:=N5 hq
      split at h
      ·rename_i s hs
       rw [hs] at hy;cases hy
      split at h
      rotate_left
      ·exact h.elim
      rename_i WL hg
      obtain ⟨ajp,adP⟩:=hC.its g WL hg
      intro ro n aC W ρ w a next Q hX he hk hst oH
      obtain ⟨MZ,j9,adU⟩:=hst.pinned
      have hlen:(lY hp nm++ [aX.ji ρ nm]).length=nm+1:=by simp [bW]
      have Oo: ∀m,hp m≠some .gone:=fun m e=>hst.at_ m _ e
      have hkl: ∀m,(hp m).isSome=true->m<nm:=fun m hm=>by
       obtain ⟨o,ho⟩:=Option.isSome_iff_exists.1 hm
       exact (hst.kn m o ho).1
      have hfk:=hk f hfm
      rw [Rh] at hfk
      obtain ⟨k1,k2⟩:=hqk _ hfk
      have hfull: ∀x∈fs++vf ev args.toList++cs,x.ok (· <nm):=fun x hx=>by
       rcases List.mem_append.1 hx with hx|hx
       ·rcases List.mem_append.1 hx with hx|hx
        ·exact k1 x hx
        ·exact On hk x hx
       ·exact k2 x hx
      have YR:=adP [] _ _ _ (h ρ) (xe.nil P) aC W MZ w hX (fun x hx=>AV.bG (fun i hi=>by rw [hlen];omega) x (hfull x hx)) (by rw [hlen];exact adU)
      refine ⟨fun _ _=>trivial,?_⟩
      have hf:=he f hfm
      rw [Rh] at hf
      have hrun:(execOp a.eval o).run P w= .ok (.enter g ((fs++vf ev args.toList++cs).map (AV.af MZ)).toArray) w:=by
       simp only [execOp,ho,resolve,Sem.run_bind,hf,AV.af,A0.af,hqc ρ,Deferred.ofValue,Sem.run_pure,Result.andThen_ok,invoke]
       rw [hargs a ρ he,ajp]
       congr 2
       apply Array.ext'
       have e0:(fs++vf ev args.toList++cs).map (AV.af MZ)=(fs++vf ev args.toList++cs).map (AV.af ρ):=List.map_congr_left fun x hx=>AV.bZ (Kn:=(· <nm)) j9 x (hfull x hx)
       rw [e0]
       simp [List.map_append,-List.map_map]
      rw [Oper.semAt_eq _ _ _ hd,hrun]
      simp only [Oper.uponIn]
      refine ⟨fun h=>by simp [fw] at h,BJ ?_⟩
      refine YR.mono ?_
      rintro e w' ⟨st,ρ',v,rfl,SS,hR,IU⟩
      obtain ⟨hp1,hkk⟩:=qD hR
      have hlt:=iX hp1
      have uI: ∀m,m<nm->ρ' m=ρ m:=(IU.at_ _ _ hp1).2
      have hd2:=IU.diff (v:=v) hlt Oo hkl
      refine oH _ ρ' w' hkk (fun p hp=>C4 hp) uI ?_ hd2
      exact AV.bG (fun i hi=>by simp only [tP,CN,List.length_drop,List.length_set];omega) v SS
     ·rename_i hq
      split at hy
      rotate_left
      ·cases hy
      rename_i m
      simp only [opE,N3,Rh,hq] at h
      split at h
      ·rename_i s hg
       have hkk:=hC.ys m s hg ctx.X _ hp nm k h
       intro ro n aC W ρ w a next Q hX he hk hst oH
       obtain ⟨l,g,tmps,assign,body,hl,hrun,ajz⟩:=hkk ro (n- 1) aC W ρ w hX (On hk) hst
       refine ⟨fun _ _=>trivial,?_⟩
       rw [Oper.semAt_eq _ _ _ hd]
       have:(execOp a.eval o).run P w= .ok (.round l g tmps assign body) w:=by
        have hf:=he f hfm
        rw [Rh] at hf
        simp only [execOp,ho,resolve,Sem.run_bind,hf,AV.af,A0.af,Cell.af,hl,Deferred.ofValue,Sem.run_pure,Result.andThen_ok,invoke]
        rw [hargs a ρ he]
        simpa using hrun
       rw [this,Oper.uponIn_round]
       refine ⟨fun h=>by simp [fw] at h,ajz.mono ?_⟩
       rintro e w' ⟨r,ρ',hkr,hw,rfl,uI,SS,IU⟩
       exact oH r ρ' w' hkr hw uI SS IU
      ·exact h.elim
    ·cases hy
   ·cases hy
  ·rename_i op t x y yt ho
   rw [ho] at h
   simp only [opE] at h
   rw [if_pos hy] at h
   exact alY hT ho h
  ·cases hy
end
end Go.Ev
