/- Each operation does what 'opE' says; a call does what its contract says. -/
import Derived.Test.YtaipcbdilkcdbaaEvE0
import Derived.Test.YtaipcbdilkcdbaaEvD6
noncomputable section
set_option linter.unusedSectionVars false
set_option linter.unusedVariables false
set_option linter.unusedSimpArgs false
namespace Go.Ev
open Go.RowKit
def QV (P:Program) (f:FuncId) (X:Addr->Value->Prop) (args:List AV) (hp:HP) (nm:Nat) (r:Rec):Prop:=
 (∀p∈r.writes,hp p.1≠none)/\ ∀ax W ρ Kn Γ w,yf ax W X->(∀x∈args,x.ok Kn)->(∀m∈r.az,Γ m=hp m)->(∀i,i<r.fresh.length-> ¬Kn (nm+i))->St ax W ρ Kn Γ w->
  Calls P f (args.map (AV.af ρ)).toArray w fun e w'=> ∃ρ',e= .returned (r.val.af ρ')/\ (∀m,Kn m->ρ' m=ρ m)/\ r.val.ok (iQ Kn nm r)/\ St ax W ρ' (iQ Kn nm r) (bB r nm Γ) w'
def av (P:Program) (f:FuncId) (s:Spec):Prop:= ∀X args hp nm k,s X args hp nm k-> ∃r,QV P f X args hp nm r/\ k r
def iS (P:Program) (f:FuncId):Prop:= ∀args w,(callFunc f args).run P w= .ok (.enter f args) w
def ah (P:Program) (specs:List (Nat×Spec)):Prop:= ∀f s,aF specs f=some s->iS P f/\ av P f s
theorem ah.nil (P:Program):ah P []:=fun _ _ h=>by cases h
theorem ah.cons {P:Program} {f:FuncId} {s:Spec} {l:List (Nat×Spec)} (he:iS P f) (h:av P f s) (hl:ah P l):ah P ((f,s)::l):=by
 intro g q hg
 unfold aF at hg
 split at hg
 ·rename_i e;subst e;cases hg;exact ⟨he,h⟩
 ·exact hl g q hg
def XY (P:Program) (n:Nat) (X:Addr->Value->Prop) (args:List AV) (hp:HP) (nm:Nat) (k:Rec->Prop):Prop:=
 ∀ro m ax W ρ w,yf ax W X->(∀x∈args,x.ok (· <nm))->St ax W ρ (· <nm) hp w->
  ∃l f tmps assign body,(ρ n).1=some l/\ (Instr.yield l (args.map (AV.af ρ)).toArray).run P w= .ok (.round l f tmps assign body) w/\
   RoundIn (fw ro) m P l f tmps assign body w fun e w'=> ∃r ρ',k r/\ (∀p∈r.writes,hp p.1≠none)/\ e= .returned (r.val.af ρ')/\ (∀m,m<nm->ρ' m=ρ m)/\ r.val.ok (iQ (· <nm) nm r)/\ St ax W ρ' (iQ (· <nm) nm r) (bB r nm hp) w'
def s9 (P:Program) (ys:List (Nat×Spec)):Prop:= ∀n s,aF ys n=some s-> ∀X args hp nm k,s X args hp nm k->XY P n X args hp nm k
def iA (P:Program) (X:Addr->Value->Prop) (f:FuncId) (Jm:iL):Prop:= ∀ys args heap R,Jm ys args heap R->s9 P ys-> ∀ax W ρ w,yf ax W X->(∀x∈args,x.ok (· <heap.length))->St ax W ρ (· <heap.length) (aj heap) w->
 Calls P f (args.map (AV.af ρ)).toArray w fun e w'=> ∃st ρ' v,e= .returned (v.af ρ')/\ v.ok (· <st.heap.length)/\ R v st/\ St ax W ρ' (· <st.heap.length) (aj st.heap) w'
def aD (P:Program) (X:Addr->Value->Prop) (dc:List (Nat×iL)):Prop:= ∀f Jm,aF dc f=some Jm->iS P f/\ iA P X f Jm
structure oT (P:Program) (ctx:Ctx):Prop where
 sp:ah P ctx.specs
 ys:s9 P ctx.ys
 dc:aD P ctx.X ctx.dc
structure Ip (P:Program) (ctx:Ctx):Prop where
 sp:ah P ctx.specs
 ys:ctx.ys= []
 dc:ctx.dc= []
theorem s9.nil (P:Program):s9 P []:=fun _ _ h=>by cases h
theorem aD.nil (P:Program) (X:Addr->Value->Prop):aD P X []:=fun _ _ h=>by cases h
section
variable (P:Program) (X:Addr->Value->Prop)
def cg (o:Oper) (ev:Operand->AV) (hp:HP) (nm:Nat) (r:Rec):Prop:=
 (∀p∈r.writes,hp p.1≠none)/\ ∀ro n ax W ρ Kn Γ w a next Q,yf ax W X->(∀x∈o.op.operands,a.eval x=(ev x).af ρ)->(∀x∈o.op.operands,(ev x).ok Kn)->(∀m∈r.az,Γ m=hp m)->
  (∀i,i<r.fresh.length-> ¬Kn (nm+i))->St ax W ρ Kn Γ w->
  (∀ρ' w',(∀m,Kn m->ρ' m=ρ m)->r.val.ok (iQ Kn nm r)->St ax W ρ' (iQ Kn nm r) (bB r nm Γ) w'->next (a.put o.dst (r.val.af ρ')) w')->
  o.wpIn (fw ro) n P a w next Q
end
section
variable {P:Program} {X:Addr->Value->Prop} {hp:HP} {nm:Nat} {k:Rec->Prop} {o:Oper} {ev:Operand->AV}
theorem cg.ig {yN:(Nat->Prop)->Prop} {f:Env->Sem Value} {r:Rec} (hs:aL P X hp nm yN f (fun ρ=>r.val.af ρ) r)
  (hok: ∀Kn,(∀x∈o.op.operands,(ev x).ok Kn)->yN Kn) (hd: ∀c,o.op≠ .defer c)
  (hx: ∀(a:Act) (ρ:Env),(∀x∈o.op.operands,a.eval x=(ev x).af ρ)->execOp a.eval o=(do pure (.value (<- f ρ)))):cg P X o ev hp nm r:=by
 refine ⟨hs.1,?_⟩
 intro ro n ax W ρ Kn Γ w a next Q hX he hk ht hf hst gJ
 obtain ⟨ρ',w',hrun,mo,FM,tf⟩:=hs.2 ax W ρ Kn Γ w hX (hok Kn hk) ht hf hst
 refine ⟨fun _ _=>trivial,?_⟩
 rw [Oper.semAt_eq _ _ _ hd,hx a ρ he]
 simp only [Sem.run_bind,hrun,Result.andThen_ok,Sem.run_pure,Oper.uponIn]
 exact gJ ρ' w' mo FM tf
theorem cg.zY {yN:(Nat->Prop)->Prop} {f:Env->Sem Unit} {r:Rec} (hs:aL P X hp nm yN f (fun _=>()) r) (hv:r.val=aW)
  (hok: ∀Kn,(∀x∈o.op.operands,(ev x).ok Kn)->yN Kn) (hd: ∀c,o.op≠ .defer c)
  (hx: ∀(a:Act) (ρ:Env),(∀x∈o.op.operands,a.eval x=(ev x).af ρ)->execOp a.eval o=(do f ρ;pure .skip)):cg P X o ev hp nm r:=by
 refine ⟨hs.1,?_⟩
 intro ro n ax W ρ Kn Γ w a next Q hX he hk ht hf hst gJ
 obtain ⟨ρ',w',hrun,mo,FM,tf⟩:=hs.2 ax W ρ Kn Γ w hX (hok Kn hk) ht hf hst
 refine ⟨fun _ _=>trivial,?_⟩
 rw [Oper.semAt_eq _ _ _ hd,hx a ρ he]
 simp only [Sem.run_bind,hrun,Result.andThen_ok,Sem.run_pure,Oper.uponIn]
 have:=gJ ρ' w' mo FM tf
 rw [hv] at this;exact this
theorem cg.same {v:AV} {tc:List Nat} (hd: ∀c,o.op≠ .defer c) (hv: ∀Kn,(∀x∈o.op.operands,(ev x).ok Kn)->v.ok Kn)
  (hx: ∀(a:Act) (ρ:Env) (Γ:HP) (ax:iV) (W w:World) (Kn:Nat->Prop),(∀x∈o.op.operands,a.eval x=(ev x).af ρ)->(∀m∈tc,Γ m=hp m)->St ax W ρ Kn Γ w->(execOp a.eval o).run P w= .ok (.value (v.af ρ)) w):
  cg P X o ev hp nm {val:=v,az:=tc} :=by
 refine ⟨fun p hp=>absurd hp (by simp),?_⟩
 intro ro n ax W ρ Kn Γ w a next Q hX he hk ht hf hst gJ
 refine ⟨fun _ _=>trivial,?_⟩
 rw [Oper.semAt_eq _ _ _ hd,hx a ρ Γ ax W w Kn he ht hst]
 simp only [Oper.uponIn]
 exact gJ ρ w (fun _ _=>rfl) (by rw [fO];exact hv Kn hk) (by rw [fO,oV];exact hst)
theorem tZ {ro:Option Nat} {n:Nat} {f:FuncId} {args:Array Value} {w:World} {R:Ending->World->Prop} (h:Calls P f args w R):CallsIn (fw ro) n P f args w R:=by
 have:=(callsIn_wide (n:=n)).2 h
 exact this
theorem lK (ev:Operand->AV) (l:List Operand):qd ev l=l.map ev:=by induction l<;>simp_all [qd]
theorem H6 {a:A0} {v:Value} (h:uU a=some v) (ρ:Env):a.af ρ=v:=by
 have hl: ∀(cs:List Cell) (l:List Value),uU.BO cs=some l->cs.map (Cell.af ρ)=l:=by
  intro cs
  induction cs with
  |nil=>intro l h;simp only [uU.BO,Option.some.injEq] at h;subst h;rfl
  |cons c r ih=>
   intro l h
   cases c<;>simp only [uU.BO,Option.map_eq_some_iff] at h<;>try (cases h;done)
   obtain ⟨l',h1,rfl⟩:=h
   simp [Cell.af,ih l' h1]
 cases a with
 |one c=>cases c<;>simp [uU] at h;subst h;rfl
 |agg cs=>
  simp only [uU,Option.map_eq_some_iff] at h
  obtain ⟨l,h1,rfl⟩:=h
  simp [A0.af,hl cs l h1]
theorem zi (ρ:Env): ∀(l:List AV) (vs:List Value),Cq l=some vs->l.map (AV.af ρ)=vs
 | [],vs,h=>by simp only [Cq,Option.some.injEq] at h;subst h;rfl
 |x::r,vs,h=>by
  simp only [Cq] at h
  split at h
  ·rename_i v l h1 h2
   cases h
   cases x with
   |v a=>simp [AV.af,H6 h1,zi ρ r l h2]
   |oP l=>simp [Qw] at h1
   |dead=>simp [Qw] at h1
  ·cases h
theorem J1 {x:AV} {q:Ref} (h:Qx x=some q) (ρ:Env):x.af ρ=q.af ρ/\ ∀Kn,x.ok Kn->q.ok Kn:=by
 unfold Qx at h
 split at h<;>simp at h<;>subst h
 ·exact ⟨rfl,fun _ h=>h⟩
 ·exact ⟨rfl,fun _ h=>h⟩
 ·exact ⟨rfl,fun _ _=>trivial⟩
 ·exact ⟨rfl,fun _ h=>h⟩
 ·exact ⟨rfl,fun _ h=>h⟩
theorem so (ρ:Env): ∀(l:List AV) (qs:List Ref),Cr l=some qs->l.map (AV.af ρ)=qs.map (Ref.af ρ)/\ ∀Kn,(∀x∈l,x.ok Kn)-> ∀q∈qs,q.ok Kn
 | [],qs,h=>by simp only [Cr,Option.some.injEq] at h;subst h;exact ⟨rfl,fun _ _ q hq=>absurd hq (by simp)⟩
 |x::r,qs,h=>by
  simp only [Cr] at h
  split at h
  ·rename_i v l h1 h2
   cases h
   obtain ⟨e1,k1⟩:=J1 h1 ρ
   obtain ⟨e2,k2⟩:=so ρ r l h2
   exact ⟨by simp [e1,e2],fun Kn hk q hq=>by
    rcases List.mem_cons.1 hq with rfl|hq
    ·exact k1 Kn (hk x (by simp))
    ·exact k2 Kn (fun y hy=>hk y (by simp [hy])) q hq⟩
  ·cases h
theorem qe (ρ:Env) (q:Ref):(vW q).af ρ=q.af ρ:=by
 cases q with
 |ext v=>exact rT v ρ
 |loc n off=>rfl
 |elem n j=>rfl
 |full n=>rfl
 |mp n=>rfl
theorem G5 {Kn:Nat->Prop} {q:Ref} (h:q.ok Kn):(vW q).ok Kn:=by cases q<;>first|exact xT _ _|exact h
theorem mB (ρ:Env) (q:Ref):(wv q).af ρ=q.af ρ:=by cases q<;>rfl
theorem BQ {Kn:Nat->Prop} {q:Ref} (h:q.ok Kn):(wv q).ok Kn:=by cases q<;>first|trivial|exact h
theorem JK (ρ:Env) (agg:Bool) (rs:List Ref):(Ho agg rs).af ρ=K0 agg (rs.map (Ref.af ρ)):=by
 unfold Ho K0
 cases agg with
 |true=>simp only [AV.af,A0.af,List.map_map];congr 2;exact List.map_congr_left fun q _=>mB ρ q
 |false=>match rs with
  | []=>rfl
  | [r]=>exact mB ρ r
  |_::_::_=>rfl
theorem P5 {Kn:Nat->Prop} {agg:Bool} {rs:List Ref} (h: ∀r∈rs,r.ok Kn):(Ho agg rs).ok Kn:=by
 unfold Ho
 cases agg with
 |true=>intro c hc;obtain ⟨r,hr,rfl⟩:=List.mem_map.1 hc;exact BQ (h r hr)
 |false=>match rs,h with
  | [],_=>intro a ha;cases ha
  | [r],h=>exact BQ (h r (by simp))
  |_::_::_,_=>intro a ha;cases ha
theorem C4 {q:Cell} {g:FuncId} {fs cs:List AV} (h:Rb q=some (g,fs,cs)):
  (∀ρ:Env,q.af ρ= .func (.func g) (fs.map (AV.af ρ)).toArray (cs.map (AV.af ρ)).toArray)/\ ∀Kn,q.ok Kn->(∀x∈fs,x.ok Kn)/\ ∀x∈cs,x.ok Kn:=by
 unfold Rb at h
 split at h
 ·cases h
  rename_i first cap
  refine ⟨fun ρ=> ?_,fun Kn hk=>⟨fun x hx=> ?_,fun x hx=> ?_⟩⟩
  ·have e1:List.map (AV.af ρ) (first.map RX)=first:=by rw [List.map_map];exact (List.map_congr_left fun v _=>rT v ρ).trans (List.map_id _)
   have e2:List.map (AV.af ρ) (cap.map vW)=cap.map (Ref.af ρ):=by rw [List.map_map];exact List.map_congr_left fun v _=>qe ρ v
   rw [e1,e2];rfl
  ·obtain ⟨v,_,rfl⟩:=List.mem_map.1 hx;exact xT _ _
  ·obtain ⟨r,hr,rfl⟩:=List.mem_map.1 hx;exact G5 (hk r hr)
 ·cases h
  refine ⟨fun ρ=> ?_,fun Kn hk=>⟨fun x hx=> ?_,fun x hx=>by cases hx⟩⟩
  ·simp only [List.map_cons,List.map_nil,JK];rfl
  ·rw [List.mem_singleton] at hx;subst hx;exact P5 hk
 ·cases h
theorem u7 {c:Cell} {r:Ref} (h:zN c=some r):(∀ρ:Env,r.af ρ=c.af ρ)/\ (∀ρ:Env,(c.af ρ).oneCell'=true)/\ ∀Kn,c.ok Kn->r.ok Kn:=by
 unfold zN at h
 split at h
 ·cases h;exact ⟨fun _=>rfl,fun _=>rfl,fun _ h=>h⟩
 ·cases h;exact ⟨fun _=>rfl,fun _=>rfl,fun _ h=>h⟩
 ·split at h
  ·rename_i hv
   cases h;exact ⟨fun _=>rfl,fun ρ=>Cell.Av (c:= .raw _) hv ρ,fun _ _=>trivial⟩
  ·cases h
 ·cases h;exact ⟨fun _=>rfl,fun _=>rfl,fun _ h=>h⟩
 ·cases h;exact ⟨fun _=>rfl,fun _=>rfl,fun _ h=>h⟩
 ·cases h
theorem tp: ∀ {cs:List Cell} {rs:List Ref},qY cs=some rs->(∀ρ:Env,rs.map (Ref.af ρ)=cs.map (Cell.af ρ))/\ ∀Kn,(∀c∈cs,c.ok Kn)-> ∀r∈rs,r.ok Kn
 | [],rs,h=>by simp only [qY,Option.some.injEq] at h;subst h;simp
 |c::l,rs,h=>by
  simp only [qY] at h
  split at h
  ·rename_i x m h1 h2
   cases h
   obtain ⟨e1,e2⟩:=tp h2
   obtain ⟨e3,_,e4⟩:=u7 h1
   refine ⟨fun ρ=>by simp [e1,e3],fun Kn hk r hr=> ?_⟩
   rcases List.mem_cons.1 hr with rfl|hr
   ·exact e4 Kn (hk c (by simp))
   ·exact e2 Kn (fun c hc=>hk c (by simp [hc])) r hr
  ·cases h
theorem Hp {v:AV} {agg:Bool} {rs:List Ref} (h:JL v=some (agg,rs)):(∀ρ:Env,K0 agg (rs.map (Ref.af ρ))=v.af ρ)/\ ∀Kn,v.ok Kn-> ∀r∈rs,r.ok Kn:=by
 unfold JL at h
 split at h
 ·split at h
  ·rename_i l hl
   cases h
   obtain ⟨e1,e2⟩:=tp hl
   exact ⟨fun ρ=>by rw [e1];rfl,e2⟩
  ·cases h
 ·split at h
  ·rename_i r hr
   cases h
   obtain ⟨e1,_,e2⟩:=u7 hr
   refine ⟨fun ρ=>e1 ρ,fun Kn hk r hr=> ?_⟩
   rw [List.mem_singleton] at hr;subst hr;exact e2 Kn hk
  ·cases h
 ·cases h
end
section
variable {P:Program} {ctx:Ctx} {hp:HP} {nm:Nat} {k:Rec->Prop} {o:Oper} {ev:Operand->AV}
theorem LH (hT:br P ctx.tt) (hS:Ip P ctx) {c:Call} (ho:o.op= .call c) (h:C2 ctx c ev hp nm k): ∃r,cg P ctx.X o ev hp nm r/\ k r:=by
 obtain ⟨callee,args,argTypes⟩:=c
 have hd: ∀c,o.op≠ .defer c:=fun c e=>by rw [ho] at e;cases e
 have hargs: ∀(a:Act) (ρ:Env),(∀x∈o.op.operands,a.eval x=(ev x).af ρ)->args.map a.eval=((qd ev args.toList).map (AV.af ρ)).toArray:=by
  intro a ρ he
  apply Array.ext'
  simp only [Array.toList_map,lK,List.map_map]
  refine List.map_congr_left fun x hx=>he x ?_
  rw [ho];simp [Op.operands,Call.operands,Array.mem_toList_iff.1 hx]
 have De: ∀Kn,(∀x∈o.op.operands,(ev x).ok Kn)-> ∀x∈qd ev args.toList,x.ok Kn:=by
  intro Kn hk x hx
  rw [lK] at hx
  obtain ⟨y,hy,rfl⟩:=List.mem_map.1 hx
  exact hk y (by rw [ho];simp [Op.operands,Call.operands,Array.mem_toList_iff.1 hy])
 have enter: ∀(g:FuncId) (s:Spec) (full:List AV) (f:Operand) (ZH:AV),callee= .value f->ev f=ZH->aF ctx.specs g=some s->s ctx.X full hp nm k->
   (∀Kn,(∀x∈o.op.operands,(ev x).ok Kn)-> ∀x∈full,x.ok Kn)->
   (∀(a:Act) (ρ:Env) (w:World),(∀x∈o.op.operands,a.eval x=(ev x).af ρ)->(execOp a.eval o).run P w= .ok (.enter g (full.map (AV.af ρ)).toArray) w)-> ∃r,cg P ctx.X o ev hp nm r/\ k r:=by
  intro g s full f ZH _ _ hg hs T0 hrun
  obtain ⟨r,hr,Wj⟩:=(hS.sp g s hg).2 ctx.X full hp nm k hs
  refine ⟨r,⟨hr.1,?_⟩,Wj⟩
  intro ro n ax W ρ Kn Γ w a next Q hX he hk ht hf hst gJ
  refine ⟨fun _ _=>trivial,?_⟩
  rw [Oper.semAt_eq _ _ _ hd,hrun a ρ w he]
  simp only [Oper.uponIn]
  refine ⟨fun h=>by simp [fw] at h,tZ ?_⟩
  refine (hr.2 ax W ρ Kn Γ w hX (T0 Kn hk) ht hf hst).mono ?_
  rintro e w' ⟨ρ',rfl,mo,FM,tf⟩
  exact gJ ρ' w' mo FM tf
 unfold C2 at h
 dsimp only at h
 split at h
 ·rename_i b
  obtain ⟨r,hr,Wj⟩:=EI (P:=P) (nm:=nm) hT h o.type (args.map fun| .const _=>true|_=>false)
  refine ⟨r,⟨hr.1,?_⟩,Wj⟩
  intro ro n ax W ρ Kn Γ w a next Q hX he hk ht hf hst gJ
  obtain ⟨ρ',w',hrun,mo,FM,tf⟩:=hr.2 ax W ρ Kn Γ w hX (De Kn hk) ht hf hst
  refine ⟨fun _ _=>trivial,?_⟩
  rw [Oper.semAt_eq _ _ _ hd]
  have:(execOp a.eval o).run P w= .ok (.value (r.val.af ρ')) w':=by
   simp only [execOp,ho,resolve,Sem.run_bind,Sem.run_pure,Result.andThen_ok,invoke]
   rw [hargs a ρ he]
   exact hrun
  rw [this]
  simp only [Oper.uponIn]
  exact gJ ρ' w' mo FM tf
 ·rename_i f
  have Ru:f∈o.op.operands:=by rw [ho];simp [Op.operands,Call.operands]
  split at h
  ·rename_i q CJ
   split at h
   ·rename_i g fs cs hq
    obtain ⟨YW,YX⟩:=C4 hq
    split at h
    ·rename_i s hg
     refine enter g s _ f _ rfl CJ hg h ?_ ?_
     ·intro Kn hk x hx
      have T0:=hk f Ru
      rw [CJ] at T0
      obtain ⟨k1,k2⟩:=YX Kn T0
      rcases List.mem_append.1 hx with hx|hx
      ·rcases List.mem_append.1 hx with hx|hx
       ·exact k1 x hx
       ·exact De Kn hk x hx
      ·exact k2 x hx
     ·intro a ρ w he
      have hf:=he f Ru
      rw [CJ] at hf
      simp only [execOp,ho,resolve,Sem.run_bind,hf,AV.af,A0.af,YW ρ,Deferred.ofValue,Sem.run_pure,Result.andThen_ok,invoke]
      rw [hargs a ρ he,(hS.sp g s hg).1]
      congr 2
      apply Array.ext'
      simp [List.map_append,-List.map_map]
    ·rw [hS.dc] at h
     exact h.elim
   ·split at h
    ·rename_i g first cap hq
     split at h
     ·rename_i s hg
      refine enter g s _ f _ rfl CJ hg h ?_ ?_
      ·intro Kn hk x hx
       rcases List.mem_append.1 hx with hx|hx
       ·rcases List.mem_append.1 hx with hx|hx
        ·obtain ⟨v,_,rfl⟩:=List.mem_map.1 hx;exact xT _ _
        ·exact De Kn hk x hx
       ·obtain ⟨q,hq,rfl⟩:=List.mem_map.1 hx;exact xT _ _
      ·intro a ρ w he
       have hf:=he f Ru
       rw [CJ] at hf
       simp only [execOp,ho,resolve,Sem.run_bind,hf,AV.af,A0.af,Cell.af,Deferred.ofValue,Sem.run_pure,Result.andThen_ok,invoke]
       rw [hargs a ρ he,(hS.sp g s hg).1]
       congr 2
       apply Array.ext'
       have e1: ∀l:List Value,List.map (AV.af ρ) (l.map RX)=l:=fun l=>by rw [List.map_map];exact (List.map_congr_left fun v _=>rT v ρ).trans (List.map_id _)
       simp [List.map_append,-List.map_map,e1]
     ·exact h.elim
    ·rw [hS.ys] at h
     exact h.elim
    ·exact h.elim
  ·exact h.elim
 ·exact h.elim
theorem KO (hT:br P ctx.tt) (hS:Ip P ctx) (h:Jw ctx o.op ev hp nm k): ∃r,cg P ctx.X o ev hp nm r/\ k r:=by
 unfold Jw at h
 split at h
 ·rename_i x ho
  exact ⟨_,cg.same (fun c e=>by rw [ho] at e;cases e) (fun Kn hk=>hk x (by rw [ho];simp [Op.operands])) fun a ρ Γ ax W w Kn he _ _=>by simp [execOp,ho,he x (by rw [ho];simp [Op.operands])],h⟩
 ·rename_i x ho
  exact ⟨_,cg.same (fun c e=>by rw [ho] at e;cases e) (fun Kn hk=>hk x (by rw [ho];simp [Op.operands])) fun a ρ Γ ax W w Kn he _ _=>by simp [execOp,ho,he x (by rw [ho];simp [Op.operands])],h⟩
 ·rename_i c x y ho
  split at h
  ·rename_i t hc
   cases t with
   |true=>
    refine ⟨_,cg.same (fun c e=>by rw [ho] at e;cases e) (fun Kn hk=>hk x (by rw [ho];simp [Op.operands])) fun a ρ Γ ax W w Kn he _ _=> ?_,h⟩
    have h1:=he c (by rw [ho];simp [Op.operands])
    rw [hc] at h1
    simp [execOp,ho,h1,AV.af,A0.af,Cell.af,asBool,he x (by rw [ho];simp [Op.operands])]
   |false=>
    refine ⟨_,cg.same (fun c e=>by rw [ho] at e;cases e) (fun Kn hk=>hk y (by rw [ho];simp [Op.operands])) fun a ρ Γ ax W w Kn he _ _=> ?_,h⟩
    have h1:=he c (by rw [ho];simp [Op.operands])
    rw [hc] at h1
    simp [execOp,ho,h1,AV.af,A0.af,Cell.af,asBool,he y (by rw [ho];simp [Op.operands])]
  ·exact h.elim
 ·rename_i t ho
  split at h
  ·rename_i i hi
   exact ⟨_,cg.ig (Lx hT hi) (fun _ _=>trivial) (fun c e=>by rw [ho] at e;cases e) fun a ρ he=>by simp [execOp,ho],h⟩
  ·exact h.elim
 ·rename_i t x ho
  split at h
  ·rename_i xs hxs
   exact ⟨_,cg.ig (Q8 hxs (ctx:=ctx)) (fun Kn hk=>hk x (by rw [ho];simp [Op.operands])) (fun c e=>by rw [ho] at e;cases e) fun a ρ he=>by simp [execOp,ho,he x (by rw [ho];simp [Op.operands])],h⟩
  ·exact h.elim
 ·rename_i t parts ho
  split at h
  ·rename_i i hi
   obtain ⟨r,h1,h2⟩:=Iu (nm:=nm) (hp:=hp) hT hi h
   refine ⟨r,cg.ig h1 (fun Kn hk p hp=>hk p.2 ?_) (fun c e=>by rw [ho] at e;cases e) fun a ρ he=> ?_,h2⟩
   ·rw [ho];simp only [Op.operands,List.mem_toArray,List.mem_map];exact ⟨p,hp,rfl⟩
   ·have:(parts.map fun (i,x)=>(i,a.eval x))=parts.map fun (i,x)=>(i,(ev x).af ρ):=Array.map_congr_left fun p hp=>by
     show (p.1,a.eval p.2)=(p.1,(ev p.2).af ρ)
     rw [he p.2 (by rw [ho];simp only [Op.operands,List.mem_toArray,List.mem_map];exact ⟨p,Array.mem_toList_iff.2 hp,rfl⟩)]
    simp only [execOp,ho,this]
  ·exact h.elim
 ·rename_i t len parts ho
  split at h
  ·rename_i i hi
   split at h
   ·rename_i h0
    simp only [Bool.and_eq_true,List.isEmpty_iff] at h0
    obtain ⟨r,h1,h2⟩:=CP (hp:=hp) hT hi h
    refine ⟨r,cg.ig h1 (fun _ _=>trivial) (fun c e=>by rw [ho] at e;cases e) fun a ρ he=> ?_,h2⟩
    have e1:len=0:=Nat.eq_of_beq_eq_true h0.1
    have e2:parts= #[]:=by cases parts;simp_all
    subst e1;subst e2
    simp [execOp,ho]
   obtain ⟨r,h1,h2⟩:=zq (hp:=hp) hT hi h
   refine ⟨r,cg.ig h1 (fun Kn hk p hp=>hk p.2 ?_) (fun c e=>by rw [ho] at e;cases e) fun a ρ he=> ?_,h2⟩
   ·rw [ho];simp only [Op.operands,List.mem_toArray,List.mem_map];exact ⟨p,hp,rfl⟩
   ·have:(parts.map fun (i,x)=>(i,a.eval x))=parts.map fun (i,x)=>(i,(ev x).af ρ):=Array.map_congr_left fun p hp=>by
     show (p.1,a.eval p.2)=(p.1,(ev p.2).af ρ)
     rw [he p.2 (by rw [ho];simp only [Op.operands,List.mem_toArray,List.mem_map];exact ⟨p,Array.mem_toList_iff.2 hp,rfl⟩)]
    simp only [execOp,ho,this]
  ·exact h.elim
 ·rename_i t x ho
  split at h
  ·rename_i i hi
   split at h
   ·obtain ⟨r,h1,h2⟩:=Ga (nm:=nm) hT hi h
    exact ⟨r,cg.ig h1 (fun Kn hk=>hk x (by rw [ho];simp [Op.operands])) (fun c e=>by rw [ho] at e;cases e) fun a ρ he=>by simp [execOp,ho,he x (by rw [ho];simp [Op.operands])],h2⟩
   obtain ⟨r,h1,h2⟩:=Mx (nm:=nm) hT hi h
   exact ⟨r,cg.ig h1 (fun Kn hk=>hk x (by rw [ho];simp [Op.operands])) (fun c e=>by rw [ho] at e;cases e) fun a ρ he=>by simp [execOp,ho,he x (by rw [ho];simp [Op.operands])],h2⟩
  ·exact h.elim
 ·rename_i t x y ho
  split at h
  ·rename_i i hi
   split at h
   ·obtain ⟨r,h1,h2,h3⟩:=EP (nm:=nm) hT hi h
    exact ⟨r,cg.zY h1 h2 (fun Kn hk=>⟨hk x (by rw [ho];simp [Op.operands]),hk y (by rw [ho];simp [Op.operands])⟩) (fun c e=>by rw [ho] at e;cases e)
     fun a ρ he=>by simp [execOp,ho,he x (by rw [ho];simp [Op.operands]),he y (by rw [ho];simp [Op.operands])],h3⟩
   obtain ⟨r,h1,h2,h3⟩:=JY (nm:=nm) hT hi h
   exact ⟨r,cg.zY h1 h2 (fun Kn hk=>⟨hk x (by rw [ho];simp [Op.operands]),hk y (by rw [ho];simp [Op.operands])⟩) (fun c e=>by rw [ho] at e;cases e)
    fun a ρ he=>by simp [execOp,ho,he x (by rw [ho];simp [Op.operands]),he y (by rw [ho];simp [Op.operands])],h3⟩
  ·exact h.elim
 ·rename_i x ho
  have yz:x∈o.op.operands:=by rw [ho];simp [Op.operands]
  split at h
  ·rename_i n off hx
   obtain ⟨⟨ob,kD,gO⟩,hk⟩:=dM h
   refine ⟨_,cg.same (fun c e=>by rw [ho] at e;cases e) (fun Kn hk=>by have:=hk x yz;rw [hx] at this;exact this) fun a ρ Γ ax W w Kn he ht hst=> ?_,hk⟩
   obtain ⟨b,hb⟩:=gO _ _ ρ w (hst.at_ n ob (by rw [ht n (by simp),kD]))
   have h1:=he x yz
   rw [hx,lQ hb] at h1
   simp [execOp,ho,h1,lQ hb]
  ·rename_i n off hx
   obtain ⟨⟨ob,kD,gO⟩,hk⟩:=dM h
   refine ⟨_,cg.same (fun c e=>by rw [ho] at e;cases e) (fun Kn hk=>by have:=hk x yz;rw [hx] at this;exact this) fun a ρ Γ ax W w Kn he ht hst=> ?_,hk⟩
   obtain ⟨b,hb⟩:=gO _ _ ρ w (hst.at_ n ob (by rw [ht n (by simp),kD]))
   have h1:=he x yz
   rw [hx,mG hb] at h1
   simp [execOp,ho,h1,mG hb]
  ·rename_i n j q hx
   split at h
   ·rename_i hrc
    obtain ⟨c,cs,kD⟩:=Dp hrc
    refine ⟨_,cg.same (fun c e=>by rw [ho] at e;cases e) (fun Kn hk=>by have:=hk x yz;rw [hx] at this;exact this) fun a ρ Γ ax W w Kn he ht hst=> ?_,h⟩
    obtain ⟨b,hb⟩:=KY (hst.at_ n (.rc (c::cs)) (by rw [ht n (by simp),kD]))
    have h1:=he x yz
    rw [hx,dA hb] at h1
    simp [execOp,ho,h1,dA hb]
   obtain ⟨u,l,rk,kD,hj,hk⟩:=dN h
   refine ⟨_,cg.same (fun c e=>by rw [ho] at e;cases e) (fun Kn hk=>by have:=hk x yz;rw [hx] at this;exact this) fun a ρ Γ ax W w Kn he ht hst=> ?_,hk⟩
   obtain ⟨b,hb⟩:=(rk.2.at (hst.at_ n _ (by rw [ht n (by simp),kD]))).2.2.2 _ hj
   have h1:=he x yz
   rw [hx,dA hb] at h1
   simp [execOp,ho,h1,dA hb]
  ·rename_i n j q hx
   obtain ⟨u,l,rk,kD,hj,hk⟩:=dN h
   refine ⟨_,cg.same (fun c e=>by rw [ho] at e;cases e) (fun Kn hk=>by have:=hk x yz;rw [hx] at this;exact this) fun a ρ Γ ax W w Kn he ht hst=> ?_,hk⟩
   obtain ⟨b,hb⟩:=(rk.2.at (hst.at_ n _ (by rw [ht n (by simp),kD]))).2.2.2 _ hj
   have h1:=he x yz
   rw [hx,mT hb] at h1
   simp [execOp,ho,h1,mT hb]
  ·rename_i f first cap hx
   refine ⟨_,cg.same (fun c e=>by rw [ho] at e;cases e) (fun Kn hk=>by have:=hk x yz;rw [hx] at this;exact this) fun a ρ Γ ax W w Kn he ht hst=> ?_,h⟩
   have h1:=he x yz
   rw [hx] at h1
   simp [execOp,ho,h1,AV.af,A0.af,Cell.af]
  ·rename_i f agg rs hx
   refine ⟨_,cg.same (fun c e=>by rw [ho] at e;cases e) (fun Kn hk=>by have:=hk x yz;rw [hx] at this;exact this) fun a ρ Γ ax W w Kn he ht hst=> ?_,h⟩
   have h1:=he x yz
   rw [hx] at h1
   simp [execOp,ho,h1,AV.af,A0.af,Cell.af]
  ·rename_i b hx
   refine ⟨_,cg.same (fun c e=>by rw [ho] at e;cases e) (fun Kn hk=> ?_) (fun a ρ Γ ax W w Kn he ht hst=> ?_),h⟩
   ·trivial
   have h1:=he x yz
   rw [hx] at h1
   simp [execOp,ho,h1,AV.af,A0.af,Cell.af]
  ·rename_i f first cap hx
   refine ⟨_,cg.same (fun c e=>by rw [ho] at e;cases e) (fun Kn hk=> ?_) (fun a ρ Γ ax W w Kn he ht hst=> ?_),h⟩
   ·trivial
   have h1:=he x yz
   rw [hx] at h1
   simp [execOp,ho,h1,AV.af,A0.af,Cell.af]
  ·exact h.elim
 ·rename_i op t x y yt ho
  rw [if_neg (by simp [XP,hS.dc])] at h
  obtain ⟨r,h1,h2⟩:=NJ (nm:=nm) (hp:=hp) (P:=P) (ox:=x) (oy:=y) hT h
  refine ⟨r,cg.ig h1 (fun _ _=>trivial) (fun c e=>by rw [ho] at e;cases e) fun a ρ he=> ?_,h2⟩
  simp [execOp,ho,he x (by rw [ho];simp [Op.operands]),he y (by rw [ho];simp [Op.operands])]
 ·rename_i u t x ho
  have yz:x∈o.op.operands:=by rw [ho];simp [Op.operands]
  split at h
  ·rename_i kk n hx
   refine ⟨_,cg.same (fun c e=>by rw [ho] at e;cases e) (fun Kn hk=> ?_) (fun a ρ Γ ax W w Kn he ht hst=> ?_),h⟩
   ·trivial
   have h1:=he x yz
   rw [hx] at h1
   simp [execOp,ho,h1,AV.af,A0.af,Cell.af,Op.unary,Op.intArith,fG]
  ·rename_i b hx
   refine ⟨_,cg.same (fun c e=>by rw [ho] at e;cases e) (fun Kn hk=> ?_) (fun a ρ Γ ax W w Kn he ht hst=> ?_),h⟩
   ·trivial
   have h1:=he x yz
   rw [hx] at h1
   simp [execOp,ho,h1,AV.af,A0.af,Cell.af,Op.unary,cw]
  ·exact h.elim
 ·rename_i s d x ho
  have yz:x∈o.op.operands:=by rw [ho];simp [Op.operands]
  split at h
  ·rename_i i0 i Z1 hi
   split at h
   ·rename_i kk k1 n hd hx
    refine ⟨_,cg.same (fun c e=>by rw [ho] at e;cases e) (fun Kn hk=> ?_) (fun a ρ Γ ax W w Kn he ht hst=> ?_),h⟩
    ·trivial
    have h1:=he x yz
    rw [hx] at h1
    simp [execOp,ho,h1,AV.af,A0.af,Cell.af,convert,hT.u Z1,hT.u hi,hd,Conv.intToInt,fG]
   ·exact h.elim
  ·exact h.elim
 ·rename_i fn first cap ho
  split at h
  ·rename_i f c hf hc
   refine ⟨_,cg.same (fun c e=>by rw [ho] at e;cases e) (fun Kn hk=> ?_) fun a ρ Γ ax W w Kn he ht hst=> ?_,h⟩
   ·refine (so (fun _=> {}) _ _ hc).2 Kn fun x hx=> ?_
    rw [lK] at hx
    obtain ⟨y,hy,rfl⟩:=List.mem_map.1 hx
    exact hk y (by rw [ho];simp [Op.operands,Array.mem_toList_iff.1 hy])
   ·have e1:first.map a.eval=f.toArray:=by
     apply Array.ext'
     rw [<- zi ρ _ _ hf,lK]
     simp only [Array.toList_map,List.map_map]
     exact List.map_congr_left fun y hy=>he y (by rw [ho];simp [Op.operands,Array.mem_toList_iff.1 hy])
    have e2:cap.map a.eval=(c.map (Ref.af ρ)).toArray:=by
     apply Array.ext'
     rw [<- (so ρ _ _ hc).1,lK]
     simp only [Array.toList_map,List.map_map]
     exact List.map_congr_left fun y hy=>he y (by rw [ho];simp [Op.operands,Array.mem_toList_iff.1 hy])
    simp only [execOp,ho,Instr.makeFunc,e1,e2,AV.af,A0.af,Cell.af]
    rfl
  ·split at h
   ·rename_i g r T5 hcs
    split at h
    ·rename_i agg rs hr
     obtain ⟨hrc,mW⟩:=Hp hr
     have hmem: ∀y∈first.toList,y∈o.op.operands:=fun y hy=>by rw [ho];simp [Op.operands,Array.mem_toList_iff.1 hy]
     rw [lK] at T5
     obtain ⟨y,XM⟩: ∃y,first.toList= [y]:=by
      match hm:first.toList,T5 with
      | [y],_=>exact ⟨y,rfl⟩
     have hr1:ev y=r:=by rw [XM] at T5;simpa using T5
     refine ⟨_,cg.same (fun c e=>by rw [ho] at e;cases e) (fun Kn hk=> ?_) fun a ρ Γ ax W w Kn he ht hst=> ?_,h⟩
     ·exact mW Kn (by rw [<- hr1];exact hk y (hmem y (by rw [XM];simp)))
     ·have e1:first.map a.eval= #[r.af ρ]:=by
       apply Array.ext'
       simp only [Array.toList_map,XM,List.map_cons,List.map_nil]
       rw [he y (hmem y (by rw [XM];simp)),hr1]
      have e2:cap.map a.eval= #[]:=by
       apply Array.ext'
       simp [Array.toList_map,hcs]
      simp only [execOp,ho,Instr.makeFunc,e1,e2,AV.af,A0.af,Cell.af,hrc ρ]
      rfl
    ·exact h.elim
   ·exact h.elim
 ·rename_i t ho
  split at h
  ·rename_i i hi
   obtain ⟨r,h1,h2⟩: ∃r,aL P ctx.X hp nm (fun _=>True) (fun _=>Instr.makeMap t none) (fun ρ=>r.val.af ρ) r/\ k r:=by
    split at h
    ·exact Fe h
    ·exact Fc h
   exact ⟨r,cg.ig h1 (fun _ _=>trivial) (fun c e=>by rw [ho] at e;cases e) fun a ρ he=>by simp only [execOp,ho,Option.map_none],h2⟩
  ·exact h.elim
 ·rename_i t x ix ok ho
  split at h
  ·rename_i i hi
   obtain ⟨r,h1,h2⟩: ∃r,aL P ctx.X hp nm (fun _=>True) (fun ρ=>Instr.lookup t ((ev x).af ρ) ((ev ix).af ρ) ok) (fun ρ=>r.val.af ρ) r/\ k r:=by
    split at h
    ·exact GN hT hi h
    ·exact GM hT hi h
   exact ⟨r,cg.ig h1 (fun _ _=>trivial) (fun c e=>by rw [ho] at e;cases e) fun a ρ he=>by simp [execOp,ho,he x (by rw [ho];simp [Op.operands]),he ix (by rw [ho];simp [Op.operands])],h2⟩
  ·exact h.elim
 ·rename_i t m ix x ho
  split at h
  ·rename_i i hi
   obtain ⟨r,h1,h2,h3⟩: ∃r,aL P ctx.X hp nm (fun _=>True) (fun ρ=>Instr.mapUpdate t ((ev m).af ρ) ((ev ix).af ρ) ((ev x).af ρ)) (fun _=>()) r/\ k r/\ r.val=aW:=by
    split at h
    ·exact Bm hT hi h
    ·exact rP hT hi h
   exact ⟨r,cg.zY h1 h3 (fun _ _=>trivial) (fun c e=>by rw [ho] at e;cases e) fun a ρ he=>by simp [execOp,ho,he m (by rw [ho];simp [Op.operands]),he ix (by rw [ho];simp [Op.operands]),he x (by rw [ho];simp [Op.operands])],h2⟩
  ·exact h.elim
 ·rename_i t m ix x ho
  split at h
  ·rename_i i hi
   obtain ⟨r,h1,h2,h3⟩:=rP (nm:=nm) hT hi h
   exact ⟨r,cg.zY h1 h3 (fun _ _=>trivial) (fun c e=>by rw [ho] at e;cases e) fun a ρ he=>by simp [execOp,ho,he m (by rw [ho];simp [Op.operands]),he ix (by rw [ho];simp [Op.operands]),he x (by rw [ho];simp [Op.operands])],h2⟩
  ·exact h.elim
 ·rename_i t x lo hh mx ho
  split at h
  ·rename_i i hi
   obtain ⟨r,h1,h2⟩:=JQ (nm:=nm) (P:=P) hT hi h
   refine ⟨r,cg.ig h1 (fun Kn hk=>hk x (by rw [ho];simp [Op.operands])) (fun c e=>by rw [ho] at e;cases e) fun a ρ he=> ?_,h2⟩
   have e: ∀q:Option Operand,(∀y,q=some y->y∈o.op.operands)->q.map a.eval=(q.map ev).map (AV.af ρ):=by
    intro q hq;cases q with
    |none=>rfl
    |some y=>simp [he y (hq y rfl)]
   rw [execOp,ho]
   simp only
   rw [he x (by rw [ho];simp [Op.operands]),e lo (fun y hy=>by rw [ho];simp [Op.operands,hy]),e hh (fun y hy=>by rw [ho];simp [Op.operands,hy]),e mx (fun y hy=>by rw [ho];simp [Op.operands,hy])]
  ·exact h.elim
 ·rename_i t x y ho
  split at h
  ·rename_i i hi
   obtain ⟨r,h1,h2⟩:=rO (hp:=hp) hT hi h
   exact ⟨r,cg.ig h1 (fun _ _=>trivial) (fun c e=>by rw [ho] at e;cases e) fun a ρ he=>by simp [execOp,ho,he x (by rw [ho];simp [Op.operands]),he y (by rw [ho];simp [Op.operands])],h2⟩
  ·exact h.elim
 ·rename_i t x f ho
  split at h
  ·rename_i i hi
   obtain ⟨r,h1,h2⟩:=AH (nm:=nm) hT hi h
   exact ⟨r,cg.ig h1 (fun Kn hk=>hk x (by rw [ho];simp [Op.operands])) (fun c e=>by rw [ho] at e;cases e) fun a ρ he=>by simp [execOp,ho,he x (by rw [ho];simp [Op.operands])],h2⟩
  ·exact h.elim
 ·rename_i t x f ho
  split at h
  ·rename_i i hi
   obtain ⟨r,h1,h2⟩:=IJ (nm:=nm) (hp:=hp) hT hi h
   exact ⟨r,cg.ig h1 (fun Kn hk=>hk x (by rw [ho];simp [Op.operands])) (fun c e=>by rw [ho] at e;cases e) fun a ρ he=>by simp [execOp,ho,he x (by rw [ho];simp [Op.operands])],h2⟩
  ·exact h.elim
 ·rename_i t x ix ho
  split at h
  ·rename_i i hi
   split at h
   ·obtain ⟨r,h1,h2⟩:=G3 (nm:=nm) hT hi h
    exact ⟨r,cg.ig h1 (fun Kn hk=>⟨hk x (by rw [ho];simp [Op.operands]),hk ix (by rw [ho];simp [Op.operands])⟩) (fun c e=>by rw [ho] at e;cases e) fun a ρ he=>by simp [execOp,ho,he x (by rw [ho];simp [Op.operands]),he ix (by rw [ho];simp [Op.operands])],h2⟩
   obtain ⟨r,h1,h2⟩:=A7 (nm:=nm) hT hi h
   exact ⟨r,cg.ig h1 (fun Kn hk=>hk x (by rw [ho];simp [Op.operands])) (fun c e=>by rw [ho] at e;cases e) fun a ρ he=>by simp [execOp,ho,he x (by rw [ho];simp [Op.operands]),he ix (by rw [ho];simp [Op.operands])],h2⟩
  ·exact h.elim
 ·rename_i t x ix ho
  split at h
  ·rename_i i hi
   obtain ⟨r,h1,h2⟩:=Jd (nm:=nm) (hp:=hp) hT hi h
   exact ⟨r,cg.ig h1 (fun Kn hk=>hk x (by rw [ho];simp [Op.operands])) (fun c e=>by rw [ho] at e;cases e) fun a ρ he=>by simp [execOp,ho,he x (by rw [ho];simp [Op.operands]),he ix (by rw [ho];simp [Op.operands])],h2⟩
  ·exact h.elim
 ·rename_i x i ho
  have yz:x∈o.op.operands:=by rw [ho];simp [Op.operands]
  split at h
  ·rename_i l hx
   split at h
   ·rename_i v hv
    refine ⟨_,cg.same (fun c e=>by rw [ho] at e;cases e) (fun Kn hk=> ?_) fun a ρ Γ ax W w Kn he ht hst=> ?_,h⟩
    ·have:=hk x yz;rw [hx] at this;exact this v (List.mem_of_getElem? hv)
    ·have h1:=he x yz
     rw [hx] at h1
     simp [execOp,ho,h1,AV.af,Instr.extract,hv]
   ·exact h.elim
  ·exact h.elim
 ·rename_i c ho
  exact LH hT hS ho h
 ·rw [if_pos (by simp [hS.dc])] at h;exact h.elim
 ·rw [if_pos (by simp [hS.dc])] at h;exact h.elim
 ·rw [if_pos (by simp [hS.dc])] at h;exact h.elim
 ·exact h.elim
def SN (P:Program) (X:Addr->Value->Prop) (o:Oper) (ev:Operand->AV) (hp:HP) (nm:Nat) (k:Rec->Prop):Prop:=
 ∀ro n ax W ρ w a next Q,yf ax W X->(∀x∈o.op.operands,a.eval x=(ev x).af ρ)->(∀x∈o.op.operands,(ev x).ok (· <nm))->St ax W ρ (· <nm) hp w->
  (∀r ρ' w',k r->(∀p∈r.writes,hp p.1≠none)->(∀m,m<nm->ρ' m=ρ m)->r.val.ok (iQ (· <nm) nm r)->St ax W ρ' (iQ (· <nm) nm r) (bB r nm hp) w'->next (a.put o.dst (r.val.af ρ')) w')->
  o.wpIn (fw ro) n P a w next Q
theorem SN.UN {X:Addr->Value->Prop} {r:Rec} (h:cg P X o ev hp nm r) (hk:k r):SN P X o ev hp nm k:=
 fun ro n ax W ρ w a next Q hX he hv hst hn=>h.2 ro n ax W ρ _ _ w a next Q hX he hv (fun _ _=>rfl) (fun i _=>by omega) hst fun ρ' w' h1 h2 h3=>hn r ρ' w' hk h.1 h1 h2 h3
def GG (ctx:Ctx) (ev:Operand->AV):Op->Bool
 | .call c=>match c.callee with
  | .value f=>match ev f with
   | .v (.one q)=>match Rb q with
    |some (g,_,_)=>(aF ctx.specs g).isNone
    |none=>match q with
     | .zJ _=>true
     |_=>false
   |_=>false
  |_=>false
 | .binOp _ _ x y _=>XP ctx (ev x) (ev y)
 | .range _ _=>true
 | .next _ _=>true
 | .entry _=>true
 |_=>false
theorem ML (h:Jw ctx o.op ev hp nm k) (hy:GG ctx ev o.op=false):Jw {ctx with ys:= [],dc:= []} o.op ev hp nm k:=by
 revert h hy
 cases o.op with
 |call c=>
  intro h hy
  simp only [Jw,C2] at h ⊢
  simp only [GG] at hy
  split at h
  ·exact h
  ·rename_i f hc
   rw [hc] at hy
   dsimp only at hy
   split at h
   ·rename_i q CJ
    rw [CJ] at hy
    dsimp only at hy ⊢
    split at h
    ·rename_i g fs cs hq
     rw [hq] at hy
     dsimp only at hy ⊢
     split at h
     ·rename_i s hs
      exact h
     ·rename_i hs
      rw [hs] at hy;cases hy
    ·rename_i hq
     rw [hq] at hy
     dsimp only at hy ⊢
     split at h
     ·exact h
     ·cases hy
     ·exact h.elim
   ·exact h.elim
  ·exact h.elim
 |binOp op t x y yt=>
  intro h hy
  simp only [GG] at hy
  simp only [Jw] at h ⊢
  rw [if_neg (by rw [hy];decide)] at h
  rw [if_neg (by simp [XP])]
  exact h
 |makeMap t r=>intro h _;cases r<;>exact h
 |range t x=>intro _ hy;cases hy
 |next x b=>intro _ hy;cases hy
 |entry x=>intro _ hy;cases hy
 |_=>intro h _;exact h
theorem W6 (hT:br P ctx.tt) {op:BinOp} {t:TypeId} {x y:Operand} {yt:TypeId} (ho:o.op= .binOp op t x y yt) (h:UG ctx op t (ev x) (ev y) hp k):SN P ctx.X o ev hp nm k:=by
 unfold UG at h
 split at h
 rotate_left
 ·exact h.elim
 rename_i n hx hy
 split at h
 rotate_left
 ·exact h.elim
 rename_i u l rk i hr hi
 have key: ∀(g:Bool->Bool),(∀(e:TypeId),i.desc= .slice e-> ∀(a:Option Addr) (n1 c1:Nat) (w:World),(binOp op t (.slice a n1 c1) (.slice none 0 0)).run P w= .ok (.bool (g a.isNone)) w)->(∃e,i.desc= .slice e)->(∀b:Bool,(0<l.length->b=false)->k {val:=cw (g b),az:= [n]})->SN P ctx.X o ev hp nm k:=by
  intro g hrun ⟨e,hd⟩ hk ro n' ax W ρ w a next Q hX he hok hst gJ
  obtain ⟨_,_,_,sub,hm⟩:=hst.at_ n _ hr
  have hb:0<l.length->(ρ n).base.isNone=false:=by
   intro hl
   have hlen:0<(aA sub 0 (ak u l)).length:=by rw [bJ,bn];exact Nat.mul_pos hl u.size_pos
   obtain ⟨a',e',_⟩:=hm.1 0 _ (List.getElem?_eq_getElem hlen)
   rw [e'];rfl
  have h1:=he x (by rw [ho];simp [Op.operands])
  have h2:=he y (by rw [ho];simp [Op.operands])
  rw [hx] at h1
  rw [hy] at h2
  have hg:=dG (P:=P) op t x y (.slice (ρ n).base (ρ n).len (ρ n).cap) (.slice none 0 0) w (by simp) (by simp)
  have XI:=hrun e hd (ρ n).base (ρ n).len (ρ n).cap w
  have vB:(execOp a.eval o).run P w= .ok (.value (.bool (g (ρ n).base.isNone))) w:=by
   simp [execOp,ho,h1,h2,AV.af,A0.af,Cell.af,hg,XI]
  refine ⟨fun _ _=>trivial,?_⟩
  rw [Oper.semAt_eq _ _ _ (fun c e=>by rw [ho] at e;cases e),vB]
  simp only [Oper.uponIn]
  exact gJ {val:=cw (g (ρ n).base.isNone),az:= [n]} ρ w (hk _ hb) (fun p hp=>absurd hp (by simp)) (fun _ _=>rfl) (by rw [fO];exact trivial) (by rw [fO,oV];exact hst)
 split at h
 ·rename_i e hd
  exact key id (fun e hd a n1 c1 w=>by simp [binOp,lC hT hi hd]) ⟨e,hd⟩ h
 ·rename_i e hd
  exact key (fun b=> !b) (fun e hd a n1 c1 w=>by simp [binOp,lC hT hi hd]) ⟨e,hd⟩ h
 ·exact h.elim
theorem Sr (hT:br P ctx.tt) {t:TypeId} {x:Operand} (ho:o.op= .range t x) (h:JI ctx t (ev x) hp nm k):SN P ctx.X o ev hp nm k:=by
 unfold JI at h
 split at h
 rotate_left
 ·exact h.elim
 rename_i i hi
 split at h
 rotate_left
 ·exact h.elim
 rename_i kt et n hd hx
 split at h
 rotate_left
 ·exact h.elim
 rename_i ka kT uT l c hn
 obtain ⟨fF,h⟩:=bh h
 obtain ⟨n',hc⟩:=g9 fF
 intro ro n0 ax W ρ w a next Q hX he hok hst gJ
 obtain ⟨b,es,dI,gb,gh,ρ',hρ,hb',tf⟩:=SG hst hn hc (Nat.lt_irrefl nm)
 have h1:=he x (by rw [ho];simp [Op.operands])
 rw [hx] at h1
 have kn:=(hst.kn n _ hn).1
 have IZ:n≠nm:=by omega
 have vB:(execOp a.eval o).run P w= .ok (.value (.pointer (some ⟨w.heap.size,0,none⟩))) (w.alloc (.mapIter (some b) dI #[] dI)):=by
  have:=run_range_map (P:=P) w t kt et b es dI (by rw [(hT t i hi).1,hd]) gh
  simp [execOp,ho,h1,AV.af,A0.af,Cell.af,gb,this]
 refine ⟨fun _ _=>trivial,?_⟩
 rw [Oper.semAt_eq _ _ _ (fun c e=>by rw [ho] at e;cases e),vB]
 simp only [Oper.uponIn]
 have:=gJ _ ρ' (w.alloc (.mapIter (some b) dI #[] dI)) (h es dI) (fun p fI=>by simp only [List.mem_singleton] at fI;subst fI;rw [hn];simp) hρ (.inr (by simp)) ?_
 ·simp only [AV.af,A0.af,Cell.af,addrOf,hb',Option.map_some] at this
  exact this
 ·rw [show iQ (· <nm) nm {val:=AV.v (.one (.ptr nm 0)),fresh:= [aG.sK n c es dI ka kT uT l none],writes:= [(n,.hmap es dI)],az:= [n,c]} =sM (· <nm) nm by
   funext m;simp only [iQ,sM,List.length_singleton];congr 1;apply propext;omega]
  rw [show bB {val:=AV.v (.one (.ptr nm 0)),fresh:= [aG.sK n c es dI ka kT uT l none],writes:= [(n,.hmap es dI)],az:= [n,c]} nm hp=(fun y=>if y=nm then some (.sK n c es dI ka kT uT l none) else if y=n then some (.hmap es dI) else hp y) by
   funext m
   simp only [bB,List.length_singleton,bW]
   by_cases e1:m=nm
   ·rw [e1,if_pos (by omega),if_pos rfl];simp [live]
   ·rw [if_neg (by omega),if_neg e1]
    by_cases e2:n=m
    ·rw [if_pos e2,if_pos e2.symm];simp [live]
    ·rw [if_neg e2,if_neg (Ne.symm e2)]]
  exact tf
theorem UF {x:Operand} (ho:o.op= .next x false) (h:Pn (ev x) hp nm k):SN P ctx.X o ev hp nm k:=by
 unfold Pn at h
 split at h
 rotate_left
 ·exact h.elim
 rename_i r hx
 split at h
 rotate_left
 ·exact h.elim
 rename_i n c es dI ka kT uT l cur hr
 split at h
 rotate_left
 ·exact h.elim
 rename_i es' ko hn
 obtain ⟨fF,rfl,rfl,hd,hm⟩:=bh h
 obtain ⟨n',hc⟩:=g9 fF
 intro ro n0 ax W ρ w a next Q hX he hok hst gJ
 have h1:=he x (by rw [ho];simp [Op.operands])
 rw [hx] at h1
 have kr:=(hst.kn r _ hr).1
 have kn:=(hst.kn n _ hn).1
 have kc:=(hst.kn c _ hc).1
 obtain ⟨gk,gu,Mb,rb,since,seen,c0,hrb,Vs,hnb,hold,hsc,Y1,gr,VQ⟩:=hst.at_ r _ hr
 obtain ⟨bm,QI,OF⟩:=hst.at_ n _ hn
 rw [QI] at Vs
 rw [show AV.af ρ (AV.v (.one (.ptr r 0)))= .pointer (some ⟨rb,0,none⟩) by simp [AV.af,A0.af,Cell.af,addrOf,hrb]] at h1
 have hrc:c≠r:=by rintro rfl;rw [hr] at hc;cases hc
 have hrn:n≠r:=by rintro rfl;rw [hr] at hn;cases hn
 have hL:(leftOf es' seen).toList=es'.toList.filter fun e=> !seen.contains e.born:=by unfold leftOf;rw [Array.toList_filter]
 rcases run_next_at (P:=P) w o.type rb bm since c0 seen es' ko Vs OF hold hsc with ⟨h0,hrun⟩|⟨e,hem,w1,hw1,hrun⟩
 ·have hl:l= []:=by
   have:es'.toList.filter (fun e=> !seen.contains e.born)= []:=List.eq_nil_of_length_eq_zero (by rw [<- hL,Array.length_toList];exact h0)
   rw [this] at gr
   exact gr.Zo
  have vB:(execOp a.eval o).run P w= .ok (.value (.tuple #[.bool false])) w:=by
   simp [execOp,ho,h1,hrun]
  refine ⟨fun _ _=>trivial,?_⟩
  rw [Oper.semAt_eq _ _ _ (fun c e=>by rw [ho] at e;cases e),vB]
  simp only [Oper.uponIn]
  exact gJ _ ρ w (hd hl) (fun p hp=>absurd hp (by simp)) (fun _ _=>rfl) (fun a ha=>by simp only [List.mem_singleton] at ha;subst ha;trivial) (by rw [fO,oV];exact hst)
 ·rw [hL] at hem
  obtain ⟨i,hi⟩:=List.getElem?_of_mem hem
  have Z2:(es'.toList.filter fun e=> !seen.contains e.born)[i]? =some e:=hi
  obtain ⟨p,en,hp1,hen,hkey,hval,yy,hlen,Rt⟩:=eu.get _ _ _ _ _ gr Z2
  have Vo:i<l.length:=(List.getElem?_eq_some_iff.1 hp1).1
  have hka:GI l i=p:=by unfold GI;rw [List.getD_eq_getElem?_getD,hp1];rfl
  obtain ⟨ρ',hρ,q1,q2,q3,q4,lY⟩:=U7 (nm:=nm) (n:=n) hst hc kn hen yy hlen Rt gu (Nat.lt_irrefl nm) (by omega)
  have vB:(execOp a.eval o).run P w= .ok (.value (.tuple #[.bool true,e.key,e.val])) (Go.ChangeMaps.setBlock w1 rb (.mapIter (some bm) since (seen.push e.born) ko)):=by
   simp [execOp,ho,h1,hrun]
  refine ⟨fun _ _=>trivial,?_⟩
  rw [Oper.semAt_eq _ _ _ (fun c e=>by rw [ho] at e;cases e),vB]
  simp only [Oper.uponIn]
  have Wm:=hm i Vo
  rw [hka] at Wm
  have S0:(AV.oP [.one (.raw (.bool true)),xk ka kT p.1,.one (.full (nm+1))]).af ρ'= .tuple #[.bool true,e.key,e.val]:=by
   show Value.tuple #[.bool true,(xk ka kT p.1).af ρ',.slice (ρ' (nm+1)).base (ρ' (nm+1)).len (ρ' (nm+1)).cap]=_
   rw [mN,q2,q3,q4,<- hkey,<- hval]
  have:=gJ _ ρ' (Go.ChangeMaps.setBlock w1 rb (.mapIter (some bm) since (seen.push e.born) ko)) Wm (fun p fI=> ?_) hρ (fun a ha=> ?_) ?_
  ·rw [S0] at this;exact this
  ·simp only [List.mem_cons,List.not_mem_nil,or_false] at fI
   rcases fI with rfl|rfl
   ·rw [hr];simp
   ·rw [hc];simp
  ·simp only [List.mem_cons,List.not_mem_nil,or_false] at ha
   rcases ha with rfl|rfl|rfl
   ·trivial
   ·exact Ab _ _ _ _
   ·exact .inr (by simp)
  ·
   have my:St ax W ρ' (fun y=>y<nm\/ y=nm\/ y=nm+1) (fun y=>if y=nm+1 then some (.row uT p.2 1) else if y=nm then some (.set n) else if y=c then none else hp y) w1:=by
    rcases hw1 with rfl|rfl
    ·exact lY
    ·exact lY.drawn _ (Nat.le_succ _)
   have WB:r≠nm:=by omega
   have WC:r≠nm+1:=by omega
   have WM:(fun y=>if y=nm+1 then some (aG.row uT p.2 1) else if y=nm then some (.set n) else if y=c then none else hp y) r=some (.sK n c es' ko ka kT uT l cur):=by
    simp [WB,WC,Ne.symm hrc,hr]
   have fg:(ρ' r).bt=some rb:=by rw [hρ r kr];exact hrb
   have Wz:w1.heap[rb]? =some (.mapIter (some bm) since seen c0):=by rcases hw1 with rfl|rfl<;>exact Vs
   have A5:=MapKept.heap_set (o':=Obj.mapIter (some bm) since (seen.push e.born) ko) Wz
   have hlt:rb<w1.heap.size:=(Array.getElem?_eq_some_iff.1 Wz).1
   have hown:=my.own r rb (by have h9:=WM;dsimp only at h9 ⊢;rw [h9];rfl) fg
   have I5:=my.J5 (o':= .sK n nm es' ko ka kT uT (l.eraseIdx i) (some (p.1,nm+1))) (w1:=Go.ChangeMaps.setBlock w1 rb (.mapIter (some bm) since (seen.push e.born) ko)) WM fg ⟨.inl kn,.inr (.inl rfl),fun q hq=>by cases hq;exact .inr (.inr rfl)⟩ (fun _ h=>by cases h)
    ⟨my.fr.os,my.fr.tape,my.fr.output,by simpa [Go.ChangeMaps.setBlock] using my.fr.size,fun k hk hnb=>by
     have hne:k≠rb:=by
      rintro rfl
      rcases hown with h|h
      ·omega
      ·exact hnb h
     rw [<- my.fr.block k hk hnb]
     exact A5.2 k hne,my.fr.FJ⟩ (fun b' hne=>A5.2 b' hne) (by simp [Go.ChangeMaps.setBlock]) fun _=>by
     have Ww:(es'.toList.filter fun x=> !(seen.push e.born).contains x.born)=(es'.toList.filter fun x=> !seen.contains x.born).eraseIdx i:=by
      rw [<- AJ _ i e Z2 ((List.filter_sublist (l:=es'.toList)).map _|>.nodup Mb.2),List.filter_filter]
      refine List.filter_congr fun x _=> ?_
      rw [contains_push]
      cases seen.contains x.born<;>cases (x.born==e.born)<;>rfl
     refine ⟨gk,gu,Mb,rb,since,seen.push e.born,ko,fg,?_,by rw [hρ n kn];exact hnb,hold,Y1,Y1,?_,fun q hq=> ?_⟩
     ·rw [hρ n kn,QI];exact A5.1
     ·rw [Ww,q1];exact gr.erase _ _ _ _
     ·cases hq
      exact ⟨rfl,seen,e,rfl,(List.mem_filter.1 hem).1,hkey,by rw [q2,q3,q4];exact hval⟩
   rw [show iQ (· <nm) nm {val:= .oP [.one (.raw (.bool true)),xk ka kT p.1,.one (.full (nm+1))],fresh:= [.set n,.row uT p.2 1],writes:= [(r,.sK n nm es' ko ka kT uT (l.eraseIdx i) (some (p.1,nm+1))),(c,.gone)],az:= [r,n,c]} =(fun y=>y<nm\/ y=nm\/ y=nm+1) by
    funext y;simp only [iQ,List.length_cons,List.length_nil];apply propext;omega]
   rw [show bB {val:= .oP [.one (.raw (.bool true)),xk ka kT p.1,.one (.full (nm+1))],fresh:= [.set n,.row uT p.2 1],writes:= [(r,.sK n nm es' ko ka kT uT (l.eraseIdx i) (some (p.1,nm+1))),(c,.gone)],az:= [r,n,c]} nm hp=
     bN (fun y=>if y=nm+1 then some (aG.row uT p.2 1) else if y=nm then some (.set n) else if y=c then none else hp y) r (.sK n nm es' ko ka kT uT (l.eraseIdx i) (some (p.1,nm+1))) by
    funext y
    simp only [bB,bW,List.length_cons,List.length_nil,bN]
    by_cases y0:y=nm
    ·rw [y0,if_pos (by omega),if_neg (Ne.symm WB)];simp [live]
    by_cases y1:y=nm+1
    ·rw [y1,if_pos (by omega),if_neg (Ne.symm WC)];simp [live]
    rw [if_neg (by omega)]
    by_cases y2:y=c
    ·rw [y2]
     have c0:c≠nm:=by omega
     have c1:c≠nm+1:=by omega
     simp [live,hrc,Ne.symm hrc,c0,c1]
    by_cases y3:y=r
    ·rw [y3];simp [live,hrc,Ne.symm hrc]
    simp [y0,y1,y2,y3,Ne.symm y2,Ne.symm y3]]
   exact I5
theorem Rj {x:Operand} (ho:o.op= .entry x) (h:IG (ev x) hp k):SN P ctx.X o ev hp nm k:=by
 unfold IG at h
 split at h
 rotate_left
 ·exact h.elim
 rename_i r hx
 split at h
 rotate_left
 ·exact h.elim
 rename_i n c es dI ka kT uT l a0 m hr
 split at h
 rotate_left
 ·exact h.elim
 rename_i es' ko t0 l0 rk0 hn hm
 obtain ⟨rfl,rfl,h⟩:=h
 intro ro n0 ax W ρ w a next Q hX he hok hst gJ
 have h1:=he x (by rw [ho];simp [Op.operands])
 rw [hx] at h1
 obtain ⟨gk,gu,Mb,rb,since,seen,c0,hrb,Vs,hnb,hold,hsc,Y1,gr,VQ⟩:=hst.at_ r _ hr
 obtain ⟨bm,QI,OF⟩:=hst.at_ n _ hn
 rw [QI] at Vs
 obtain ⟨rfl,seen',e,rfl,hem,hkey,hval⟩:=VQ _ rfl
 rw [show AV.af ρ (AV.v (.one (.ptr r 0)))= .pointer (some ⟨rb,0,none⟩) by simp [AV.af,A0.af,Cell.af,addrOf,hrb]] at h1
 have hrun:=run_entry_at (P:=P) w rb bm since seen' es' c0 e Vs OF hem Mb.2
 have vB:(execOp a.eval o).run P w= .ok (.value (.tuple #[e.key,e.val])) w:=by
  simp [execOp,ho,h1,hrun]
 refine ⟨fun _ _=>trivial,?_⟩
 rw [Oper.semAt_eq _ _ _ (fun c e=>by rw [ho] at e;cases e),vB]
 simp only [Oper.uponIn]
 have S0:(AV.oP [xk ka kT a0,.one (.full m)]).af ρ= .tuple #[e.key,e.val]:=by
  show Value.tuple #[(xk ka kT a0).af ρ,.slice (ρ m).base (ρ m).len (ρ m).cap]=_
  rw [mN,hkey,hval]
 have:=gJ _ ρ w h (fun p hp=>absurd hp (by simp)) (fun _ _=>rfl) (fun q hq=>by
  simp only [List.mem_cons,List.not_mem_nil,or_false] at hq
  rcases hq with rfl|rfl
  ·exact Ab _ _ _ _
  ·exact .inl (hst.kn m _ hm).1) (by rw [fO,oV];exact hst)
 rw [S0] at this;exact this
theorem Xa (hT:br P ctx.tt) (hC:oT P ctx) (h:Jw ctx o.op ev hp nm k):SN P ctx.X o ev hp nm k:=by
 cases hy:GG ctx ev o.op with
 |false=>
  obtain ⟨r,h1,h2⟩:=KO (ctx:= {ctx with ys:= [],dc:= []}) hT ⟨hC.sp,rfl,rfl⟩ (ML h hy)
  exact .UN h1 h2
 |true=>
  unfold GG at hy
  split at hy
  ·rename_i c ho
   split at hy
   ·rename_i f hc
    obtain ⟨callee,args,argTypes⟩:=c
    dsimp only at hc
    subst hc
    have hd: ∀c,o.op≠ .defer c:=fun c e=>by rw [ho] at e;cases e
    have hmem: ∀x∈args.toList,x∈o.op.operands:=fun x hx=>by rw [ho];simp [Op.operands,Call.operands,Array.mem_toList_iff.1 hx]
    have Ru:f∈o.op.operands:=by rw [ho];simp [Op.operands,Call.operands]
    have hargs: ∀(a:Act) (ρ:Env),(∀x∈o.op.operands,a.eval x=(ev x).af ρ)->args.map a.eval=((qd ev args.toList).map (AV.af ρ)).toArray:=by
     intro a ρ he
     apply Array.ext'
     simp only [Array.toList_map,lK,List.map_map]
     exact List.map_congr_left fun x hx=>he x (hmem x hx)
    have De:(∀x∈o.op.operands,(ev x).ok (· <nm))-> ∀x∈qd ev args.toList,x.ok (· <nm):=by
     intro hk x hx
     rw [lK] at hx
     obtain ⟨y,hy,rfl⟩:=List.mem_map.1 hx
     exact hk y (hmem y hy)
    split at hy
    ·rename_i q CJ
     rw [ho] at h
     split at hy
     ·rename_i g fs cs hq
      simp only [Jw,C2,CJ,hq] at h
      obtain ⟨YW,YX⟩:=C4 hq
      split at h
      ·rename_i s hs
       rw [hs] at hy;cases hy
      split at h
      rotate_left
      ·exact h.elim
      rename_i Jm hg
      obtain ⟨TX,OB⟩:=hC.dc g Jm hg
      intro ro n ax W ρ w a next Q hX he hk hst gJ
      obtain ⟨Cw,iP,I5⟩:=hst.pinned
      have hlen:(jJ hp nm++ [aG.de ρ nm]).length=nm+1:=by simp [cq]
      have Df: ∀m,hp m≠some .gone:=fun m e=>hst.at_ m _ e
      have Wi: ∀m,(hp m).isSome=true->m<nm:=fun m hm=>by
       obtain ⟨o,ho⟩:=Option.isSome_iff_exists.1 hm
       exact (hst.kn m o ho).1
      have T0:=hk f Ru
      rw [CJ] at T0
      obtain ⟨k1,k2⟩:=YX _ T0
      have hfull: ∀x∈fs++qd ev args.toList++cs,x.ok (· <nm):=fun x hx=>by
       rcases List.mem_append.1 hx with hx|hx
       ·rcases List.mem_append.1 hx with hx|hx
        ·exact k1 x hx
        ·exact De hk x hx
       ·exact k2 x hx
      have Kl:=OB [] _ _ _ (h ρ) (s9.nil P) ax W Cw w hX (fun x hx=>AV.aZ (fun i hi=>by rw [hlen];omega) x (hfull x hx)) (by rw [hlen];exact I5)
      refine ⟨fun _ _=>trivial,?_⟩
      have hf:=he f Ru
      rw [CJ] at hf
      have hrun:(execOp a.eval o).run P w= .ok (.enter g ((fs++qd ev args.toList++cs).map (AV.af Cw)).toArray) w:=by
       simp only [execOp,ho,resolve,Sem.run_bind,hf,AV.af,A0.af,YW ρ,Deferred.ofValue,Sem.run_pure,Result.andThen_ok,invoke]
       rw [hargs a ρ he,TX]
       congr 2
       apply Array.ext'
       have e0:(fs++qd ev args.toList++cs).map (AV.af Cw)=(fs++qd ev args.toList++cs).map (AV.af ρ):=List.map_congr_left fun x hx=>AV.bZ (Kn:=(· <nm)) iP x (hfull x hx)
       rw [e0]
       simp [List.map_append,-List.map_map]
      rw [Oper.semAt_eq _ _ _ hd,hrun]
      simp only [Oper.uponIn]
      refine ⟨fun h=>by simp [fw] at h,tZ ?_⟩
      refine Kl.mono ?_
      rintro e w' ⟨st,ρ',v,rfl,FM,hR,tf⟩
      obtain ⟨hp1,hkk⟩:=jm hR
      have hlt:=gw hp1
      have mo: ∀m,m<nm->ρ' m=ρ m:=(tf.at_ _ _ hp1).2
      have TW:=tf.diff (v:=v) hlt Df Wi
      refine gJ _ ρ' w' hkk (fun p hp=>vC hp) mo ?_ TW
      exact AV.aZ (fun i hi=>by simp only [iQ,vh,List.length_drop,List.length_set];omega) v FM
     ·rename_i hq
      split at hy
      rotate_left
      ·cases hy
      rename_i m
      simp only [Jw,C2,CJ,hq] at h
      split at h
      ·rename_i s hg
       have hkk:=hC.ys m s hg ctx.X _ hp nm k h
       intro ro n ax W ρ w a next Q hX he hk hst gJ
       obtain ⟨l,g,tmps,assign,body,hl,hrun,E4⟩:=hkk ro (n- 1) ax W ρ w hX (De hk) hst
       refine ⟨fun _ _=>trivial,?_⟩
       rw [Oper.semAt_eq _ _ _ hd]
       have:(execOp a.eval o).run P w= .ok (.round l g tmps assign body) w:=by
        have hf:=he f Ru
        rw [CJ] at hf
        simp only [execOp,ho,resolve,Sem.run_bind,hf,AV.af,A0.af,Cell.af,hl,Deferred.ofValue,Sem.run_pure,Result.andThen_ok,invoke]
        rw [hargs a ρ he]
        simpa using hrun
       rw [this,Oper.uponIn_round]
       refine ⟨fun h=>by simp [fw] at h,E4.mono ?_⟩
       rintro e w' ⟨r,ρ',Wj,hw,rfl,mo,FM,tf⟩
       exact gJ r ρ' w' Wj hw mo FM tf
      ·exact h.elim
    ·cases hy
   ·cases hy
  ·rename_i op t x y yt ho
   rw [ho] at h
   simp only [Jw] at h
   rw [if_pos hy] at h
   exact W6 hT ho h
  ·rename_i t x ho
   rw [ho] at h
   simp only [Jw] at h
   split at h
   ·exact h.elim
   ·exact Sr hT ho h
  ·rename_i x b ho
   rw [ho] at h
   cases b with
   |true=>exact h.elim
   |false=>
    simp only [Jw] at h
    split at h
    ·exact h.elim
    ·exact UF ho h
  ·rename_i x ho
   rw [ho] at h
   simp only [Jw] at h
   split at h
   ·exact h.elim
   ·exact Rj ho h
  ·cases hy
end
end Go.Ev
