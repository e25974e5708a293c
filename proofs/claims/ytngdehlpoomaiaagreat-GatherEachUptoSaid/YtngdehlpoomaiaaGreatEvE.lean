/- Each operation does what 'opE' says; a call does what its contract says. -/
import Derived.Test.YtngdehlpoomaiaaGreatEvD6
noncomputable section
set_option linter.unusedSectionVars false
set_option linter.unusedVariables false
set_option linter.unusedSimpArgs false
namespace Go.Ev
open Go.RowKit
def o7 (P:Program) (f:FuncId) (X:Addr->Value->Prop) (args:List AV) (hp:HP) (nm:Nat) (r:Rec):Prop:=
 (∀p∈r.writes,hp p.1≠none)/\ ∀au W ρ Kn Γ w,rD au W X->(∀x∈args,x.ok Kn)->(∀m∈r.aH,Γ m=hp m)->(∀i,i<r.fresh.length-> ¬Kn (nm+i))->St au W ρ Kn Γ w->
  Calls P f (args.map (AV.ae ρ)).toArray w fun e w'=> ∃ρ',e= .returned (r.val.ae ρ')/\ (∀m,Kn m->ρ' m=ρ m)/\ r.val.ok (mG Kn nm r)/\ St au W ρ' (mG Kn nm r) (bO r nm Γ) w'
def ai (P:Program) (f:FuncId) (s:Spec):Prop:= ∀X args hp nm k,s X args hp nm k-> ∃r,o7 P f X args hp nm r/\ k r
def bS (P:Program) (f:FuncId):Prop:= ∀args w,(callFunc f args).run P w= .ok (.enter f args) w
def ah (P:Program) (specs:List (Nat×Spec)):Prop:= ∀f s,aJ specs f=some s->bS P f/\ ai P f s
theorem ah.nil (P:Program):ah P []:=fun _ _ h=>by cases h
theorem ah.cons {P:Program} {f:FuncId} {s:Spec} {l:List (Nat×Spec)} (he:bS P f) (h:ai P f s) (hl:ah P l):ah P ((f,s)::l):=by
 intro g q hg
 unfold aJ at hg
 split at hg
 ·rename_i e;subst e;cases hg;exact ⟨he,h⟩
 ·exact hl g q hg
def alp (P:Program) (n:Nat) (X:Addr->Value->Prop) (args:List AV) (hp:HP) (nm:Nat) (k:Rec->Prop):Prop:=
 ∀ro m au W ρ w,rD au W X->(∀x∈args,x.ok (· <nm))->St au W ρ (· <nm) hp w->
  ∃l f tmps assign body,(ρ n).1=some l/\ (Instr.yield l (args.map (AV.ae ρ)).toArray).run P w= .ok (.round l f tmps assign body) w/\
   RoundIn (fw ro) m P l f tmps assign body w fun e w'=> ∃r ρ',k r/\ (∀p∈r.writes,hp p.1≠none)/\ e= .returned (r.val.ae ρ')/\ (∀m,m<nm->ρ' m=ρ m)/\ r.val.ok (mG (· <nm) nm r)/\ St au W ρ' (mG (· <nm) nm r) (bO r nm hp) w'
def mU (P:Program) (ys:List (Nat×Spec)):Prop:= ∀n s,aJ ys n=some s-> ∀X args hp nm k,s X args hp nm k->alp P n X args hp nm k
def fJ (P:Program) (X:Addr->Value->Prop) (f:FuncId) (R6:cD):Prop:= ∀ys args heap R,R6 ys args heap R->mU P ys-> ∀au W ρ w,rD au W X->(∀x∈args,x.ok (· <heap.length))->St au W ρ (· <heap.length) (aj heap) w->
 Calls P f (args.map (AV.ae ρ)).toArray w fun e w'=> ∃st ρ' v,e= .returned (v.ae ρ')/\ v.ok (· <st.heap.length)/\ R v st/\ St au W ρ' (· <st.heap.length) (aj st.heap) w'
def ax (P:Program) (X:Addr->Value->Prop) (its:List (Nat×cD)):Prop:= ∀f R6,aJ its f=some R6->bS P f/\ fJ P X f R6
structure eB (P:Program) (ctx:Ctx):Prop where
 sp:ah P ctx.specs
 ys:mU P ctx.ys
 its:ax P ctx.X ctx.its
structure Lp (P:Program) (ctx:Ctx):Prop where
 sp:ah P ctx.specs
 ys:ctx.ys= []
 its:ctx.its= []
theorem mU.nil (P:Program):mU P []:=fun _ _ h=>by cases h
theorem ax.nil (P:Program) (X:Addr->Value->Prop):ax P X []:=fun _ _ h=>by cases h
theorem ah.ctx {P:Program} {tt:List (Nat×TI)} {specs:List (Nat×Spec)} {X:Addr->Value->Prop} {lp:List (Nat×bw)} (h:ah P specs):eB P ⟨tt,specs,X,lp,[],[]⟩:=⟨h,mU.nil P,ax.nil P X⟩
section
variable (P:Program) (X:Addr->Value->Prop)
def bJ (o:Oper) (ev:Operand->AV) (hp:HP) (nm:Nat) (r:Rec):Prop:=
 (∀p∈r.writes,hp p.1≠none)/\ ∀ro n au W ρ Kn Γ w a next Q,rD au W X->(∀x∈o.op.operands,a.eval x=(ev x).ae ρ)->(∀x∈o.op.operands,(ev x).ok Kn)->(∀m∈r.aH,Γ m=hp m)->
  (∀i,i<r.fresh.length-> ¬Kn (nm+i))->St au W ρ Kn Γ w->
  (∀ρ' w',(∀m,Kn m->ρ' m=ρ m)->r.val.ok (mG Kn nm r)->St au W ρ' (mG Kn nm r) (bO r nm Γ) w'->next (a.put o.dst (r.val.ae ρ')) w')->
  o.wpIn (fw ro) n P a w next Q
end
section
variable {P:Program} {X:Addr->Value->Prop} {hp:HP} {nm:Nat} {k:Rec->Prop} {o:Oper} {ev:Operand->AV}
theorem bJ.kg {CT:(Nat->Prop)->Prop} {f:Env->Sem Value} {r:Rec} (hs:aL P X hp nm CT f (fun ρ=>r.val.ae ρ) r)
  (hok: ∀Kn,(∀x∈o.op.operands,(ev x).ok Kn)->CT Kn) (hd: ∀c,o.op≠ .defer c)
  (hx: ∀(a:Act) (ρ:Env),(∀x∈o.op.operands,a.eval x=(ev x).ae ρ)->execOp a.eval o=(do pure (.value (<- f ρ)))):bJ P X o ev hp nm r:=by
 refine ⟨hs.1,?_⟩
 intro ro n au W ρ Kn Γ w a next Q hX he hk ht hf hst j7
 obtain ⟨ρ',w',hrun,ql,Ih,jO⟩:=hs.2 au W ρ Kn Γ w hX (hok Kn hk) ht hf hst
 refine ⟨fun _ _=>trivial,?_⟩
 rw [Oper.semAt_eq _ _ _ hd,hx a ρ he]
 simp only [Sem.run_bind,hrun,Result.andThen_ok,Sem.run_pure,Oper.uponIn]
 exact j7 ρ' w' ql Ih jO
theorem bJ.aeP {CT:(Nat->Prop)->Prop} {f:Env->Sem Unit} {r:Rec} (hs:aL P X hp nm CT f (fun _=>()) r) (hv:r.val=bU)
  (hok: ∀Kn,(∀x∈o.op.operands,(ev x).ok Kn)->CT Kn) (hd: ∀c,o.op≠ .defer c)
  (hx: ∀(a:Act) (ρ:Env),(∀x∈o.op.operands,a.eval x=(ev x).ae ρ)->execOp a.eval o=(do f ρ;pure .skip)):bJ P X o ev hp nm r:=by
 refine ⟨hs.1,?_⟩
 intro ro n au W ρ Kn Γ w a next Q hX he hk ht hf hst j7
 obtain ⟨ρ',w',hrun,ql,Ih,jO⟩:=hs.2 au W ρ Kn Γ w hX (hok Kn hk) ht hf hst
 refine ⟨fun _ _=>trivial,?_⟩
 rw [Oper.semAt_eq _ _ _ hd,hx a ρ he]
 simp only [Sem.run_bind,hrun,Result.andThen_ok,Sem.run_pure,Oper.uponIn]
 have:=j7 ρ' w' ql Ih jO
 rw [hv] at this;exact this
theorem bJ.same {v:AV} {tc:List Nat} (hd: ∀c,o.op≠ .defer c) (hv: ∀Kn,(∀x∈o.op.operands,(ev x).ok Kn)->v.ok Kn)
  (hx: ∀(a:Act) (ρ:Env) (Γ:HP) (au:eW) (W w:World) (Kn:Nat->Prop),(∀x∈o.op.operands,a.eval x=(ev x).ae ρ)->(∀m∈tc,Γ m=hp m)->St au W ρ Kn Γ w->(execOp a.eval o).run P w= .ok (.value (v.ae ρ)) w):
  bJ P X o ev hp nm {val:=v,aH:=tc} :=by
 refine ⟨fun p hp=>absurd hp (by simp),?_⟩
 intro ro n au W ρ Kn Γ w a next Q hX he hk ht hf hst j7
 refine ⟨fun _ _=>trivial,?_⟩
 rw [Oper.semAt_eq _ _ _ hd,hx a ρ Γ au W w Kn he ht hst]
 simp only [Oper.uponIn]
 exact j7 ρ w (fun _ _=>rfl) (by rw [fb];exact hv Kn hk) (by rw [fb,n6];exact hst)
theorem rI {ro:Option Nat} {n:Nat} {f:FuncId} {args:Array Value} {w:World} {R:Ending->World->Prop} (h:Calls P f args w R):CallsIn (fw ro) n P f args w R:=by
 have:=(callsIn_wide (n:=n)).2 h
 exact this
theorem gh (ev:Operand->AV) (l:List Operand):oE ev l=l.map ev:=by induction l<;>simp_all [oE]
theorem Qz {a:A0} {v:Value} (h:yM a=some v) (ρ:Env):a.ae ρ=v:=by
 have hl: ∀(cs:List Cell) (l:List Value),yM.Gr cs=some l->cs.map (Cell.ae ρ)=l:=by
  intro cs
  induction cs with
  |nil=>intro l h;simp only [yM.Gr,Option.some.injEq] at h;subst h;rfl
  |cons c r ih=>
   intro l h
   cases c<;>simp only [yM.Gr,Option.map_eq_some_iff] at h<;>try (cases h;done)
   obtain ⟨l',h1,rfl⟩:=h
   simp [Cell.ae,ih l' h1]
 cases a with
 |one c=>cases c<;>simp [yM] at h;subst h;rfl
 |agg cs=>
  simp only [yM,Option.map_eq_some_iff] at h
  obtain ⟨l,h1,rfl⟩:=h
  simp [A0.ae,hl cs l h1]
theorem Dm (ρ:Env): ∀(l:List AV) (vs:List Value),HF l=some vs->l.map (AV.ae ρ)=vs
 | [],vs,h=>by simp only [HF,Option.some.injEq] at h;subst h;rfl
 |x::r,vs,h=>by
  simp only [HF] at h
  split at h
  ·rename_i v l h1 h2
   cases h
   cases x with
   |v a=>simp [AV.ae,Qz h1,Dm ρ r l h2]
   |nC l=>simp [abW] at h1
   |dead=>simp [abW] at h1
  ·cases h
theorem SZ {x:AV} {q:Ref} (h:abX x=some q) (ρ:Env):x.ae ρ=q.ae ρ/\ ∀Kn,x.ok Kn->q.ok Kn:=by
 unfold abX at h
 split at h<;>simp at h<;>subst h
 ·exact ⟨rfl,fun _ h=>h⟩
 ·exact ⟨rfl,fun _ h=>h⟩
 ·exact ⟨rfl,fun _ _=>trivial⟩
 ·exact ⟨rfl,fun _ h=>h⟩
 ·exact ⟨rfl,fun _ h=>h⟩
theorem vL (ρ:Env): ∀(l:List AV) (qs:List Ref),HG l=some qs->l.map (AV.ae ρ)=qs.map (Ref.ae ρ)/\ ∀Kn,(∀x∈l,x.ok Kn)-> ∀q∈qs,q.ok Kn
 | [],qs,h=>by simp only [HG,Option.some.injEq] at h;subst h;exact ⟨rfl,fun _ _ q hq=>absurd hq (by simp)⟩
 |x::r,qs,h=>by
  simp only [HG] at h
  split at h
  ·rename_i v l h1 h2
   cases h
   obtain ⟨e1,k1⟩:=SZ h1 ρ
   obtain ⟨e2,k2⟩:=vL ρ r l h2
   exact ⟨by simp [e1,e2],fun Kn hk q hq=>by
    rcases List.mem_cons.1 hq with rfl|hq
    ·exact k1 Kn (hk x (by simp))
    ·exact k2 Kn (fun y hy=>hk y (by simp [hy])) q hq⟩
  ·cases h
theorem sr (ρ:Env) (q:Ref):(zY q).ae ρ=q.ae ρ:=by
 cases q with
 |ext v=>exact oG v ρ
 |loc n off=>rfl
 |elem n j=>rfl
 |full n=>rfl
 |mp n=>rfl
theorem O7 {Kn:Nat->Prop} {q:Ref} (h:q.ok Kn):(zY q).ok Kn:=by cases q<;>first|exact u7 _ _|exact h
theorem nt (ρ:Env) (q:Ref):(z9 q).ae ρ=q.ae ρ:=by cases q<;>rfl
theorem Gs {Kn:Nat->Prop} {q:Ref} (h:q.ok Kn):(z9 q).ok Kn:=by cases q<;>first|trivial|exact h
theorem SB (ρ:Env) (agg:Bool) (rs:List Ref):(Po agg rs).ae ρ=Uy agg (rs.map (Ref.ae ρ)):=by
 unfold Po Uy
 cases agg with
 |true=>simp only [AV.ae,A0.ae,List.map_map];congr 2;exact List.map_congr_left fun q _=>nt ρ q
 |false=>match rs with
  | []=>rfl
  | [r]=>exact nt ρ r
  |_::_::_=>rfl
theorem abi {Kn:Nat->Prop} {agg:Bool} {rs:List Ref} (h: ∀r∈rs,r.ok Kn):(Po agg rs).ok Kn:=by
 unfold Po
 cases agg with
 |true=>intro c hc;obtain ⟨r,hr,rfl⟩:=List.mem_map.1 hc;exact Gs (h r hr)
 |false=>match rs,h with
  | [],_=>intro a ha;cases ha
  | [r],h=>exact Gs (h r (by simp))
  |_::_::_,_=>intro a ha;cases ha
theorem Bu {q:Cell} {g:FuncId} {fs cs:List AV} (h:YM q=some (g,fs,cs)):
  (∀ρ:Env,q.ae ρ= .func (.func g) (fs.map (AV.ae ρ)).toArray (cs.map (AV.ae ρ)).toArray)/\ ∀Kn,q.ok Kn->(∀x∈fs,x.ok Kn)/\ ∀x∈cs,x.ok Kn:=by
 unfold YM at h
 split at h
 ·cases h
  rename_i first cap
  refine ⟨fun ρ=> ?_,fun Kn hk=>⟨fun x hx=> ?_,fun x hx=> ?_⟩⟩
  ·have e1:List.map (AV.ae ρ) (first.map ofV)=first:=by rw [List.map_map];exact (List.map_congr_left fun v _=>oG v ρ).trans (List.map_id _)
   have e2:List.map (AV.ae ρ) (cap.map zY)=cap.map (Ref.ae ρ):=by rw [List.map_map];exact List.map_congr_left fun v _=>sr ρ v
   rw [e1,e2];rfl
  ·obtain ⟨v,_,rfl⟩:=List.mem_map.1 hx;exact u7 _ _
  ·obtain ⟨r,hr,rfl⟩:=List.mem_map.1 hx;exact O7 (hk r hr)
 ·cases h
  refine ⟨fun ρ=> ?_,fun Kn hk=>⟨fun x hx=> ?_,fun x hx=>by cases hx⟩⟩
  ·simp only [List.map_cons,List.map_nil,SB];rfl
  ·rw [List.mem_singleton] at hx;subst hx;exact abi hk
 ·cases h
theorem y9 {c:Cell} {r:Ref} (h:DN c=some r):(∀ρ:Env,r.ae ρ=c.ae ρ)/\ (∀ρ:Env,(c.ae ρ).oneCell'=true)/\ ∀Kn,c.ok Kn->r.ok Kn:=by
 unfold DN at h
 split at h
 ·cases h;exact ⟨fun _=>rfl,fun _=>rfl,fun _ h=>h⟩
 ·cases h;exact ⟨fun _=>rfl,fun _=>rfl,fun _ h=>h⟩
 ·split at h
  ·rename_i hv
   cases h;exact ⟨fun _=>rfl,fun ρ=>Cell.E6 (c:= .raw _) hv ρ,fun _ _=>trivial⟩
  ·cases h
 ·cases h;exact ⟨fun _=>rfl,fun _=>rfl,fun _ h=>h⟩
 ·cases h;exact ⟨fun _=>rfl,fun _=>rfl,fun _ h=>h⟩
 ·cases h
theorem xd: ∀ {cs:List Cell} {rs:List Ref},tQ cs=some rs->(∀ρ:Env,rs.map (Ref.ae ρ)=cs.map (Cell.ae ρ))/\ ∀Kn,(∀c∈cs,c.ok Kn)-> ∀r∈rs,r.ok Kn
 | [],rs,h=>by simp only [tQ,Option.some.injEq] at h;subst h;simp
 |c::l,rs,h=>by
  simp only [tQ] at h
  split at h
  ·rename_i x m h1 h2
   cases h
   obtain ⟨e1,e2⟩:=xd h2
   obtain ⟨e3,_,e4⟩:=y9 h1
   refine ⟨fun ρ=>by simp [e1,e3],fun Kn hk r hr=> ?_⟩
   rcases List.mem_cons.1 hr with rfl|hr
   ·exact e4 Kn (hk c (by simp))
   ·exact e2 Kn (fun c hc=>hk c (by simp [hc])) r hr
  ·cases h
theorem Pp {v:AV} {agg:Bool} {rs:List Ref} (h:SC v=some (agg,rs)):(∀ρ:Env,Uy agg (rs.map (Ref.ae ρ))=v.ae ρ)/\ ∀Kn,v.ok Kn-> ∀r∈rs,r.ok Kn:=by
 unfold SC at h
 split at h
 ·split at h
  ·rename_i l hl
   cases h
   obtain ⟨e1,e2⟩:=xd hl
   exact ⟨fun ρ=>by rw [e1];rfl,e2⟩
  ·cases h
 ·split at h
  ·rename_i r hr
   cases h
   obtain ⟨e1,_,e2⟩:=y9 hr
   refine ⟨fun ρ=>e1 ρ,fun Kn hk r hr=> ?_⟩
   rw [List.mem_singleton] at hr;subst hr;exact e2 Kn hk
  ·cases h
 ·cases h
end
section
variable {P:Program} {ctx:Ctx} {hp:HP} {nm:Nat} {k:Rec->Prop} {o:Oper} {ev:Operand->AV}
theorem Vz (hT:cP P ctx.tt) (hS:Lp P ctx) {c:Call} (ho:o.op= .call c) (h:Ja ctx c ev hp nm k): ∃r,bJ P ctx.X o ev hp nm r/\ k r:=by
 obtain ⟨callee,args,argTypes⟩:=c
 have hd: ∀c,o.op≠ .defer c:=fun c e=>by rw [ho] at e;cases e
 have hargs: ∀(a:Act) (ρ:Env),(∀x∈o.op.operands,a.eval x=(ev x).ae ρ)->args.map a.eval=((oE ev args.toList).map (AV.ae ρ)).toArray:=by
  intro a ρ he
  apply Array.ext'
  simp only [Array.toList_map,gh,List.map_map]
  refine List.map_congr_left fun x hx=>he x ?_
  rw [ho];simp [Op.operands,Call.operands,Array.mem_toList_iff.1 hx]
 have Jq: ∀Kn,(∀x∈o.op.operands,(ev x).ok Kn)-> ∀x∈oE ev args.toList,x.ok Kn:=by
  intro Kn hk x hx
  rw [gh] at hx
  obtain ⟨y,hy,rfl⟩:=List.mem_map.1 hx
  exact hk y (by rw [ho];simp [Op.operands,Call.operands,Array.mem_toList_iff.1 hy])
 have enter: ∀(g:FuncId) (s:Spec) (full:List AV) (f:Operand) (fnv:AV),callee= .value f->ev f=fnv->aJ ctx.specs g=some s->s ctx.X full hp nm k->
   (∀Kn,(∀x∈o.op.operands,(ev x).ok Kn)-> ∀x∈full,x.ok Kn)->
   (∀(a:Act) (ρ:Env) (w:World),(∀x∈o.op.operands,a.eval x=(ev x).ae ρ)->(execOp a.eval o).run P w= .ok (.enter g (full.map (AV.ae ρ)).toArray) w)-> ∃r,bJ P ctx.X o ev hp nm r/\ k r:=by
  intro g s full f fnv _ _ hg hs hfk hrun
  obtain ⟨r,hr,hkr⟩:=(hS.sp g s hg).2 ctx.X full hp nm k hs
  refine ⟨r,⟨hr.1,?_⟩,hkr⟩
  intro ro n au W ρ Kn Γ w a next Q hX he hk ht hf hst j7
  refine ⟨fun _ _=>trivial,?_⟩
  rw [Oper.semAt_eq _ _ _ hd,hrun a ρ w he]
  simp only [Oper.uponIn]
  refine ⟨fun h=>by simp [fw] at h,rI ?_⟩
  refine (hr.2 au W ρ Kn Γ w hX (hfk Kn hk) ht hf hst).mono ?_
  rintro e w' ⟨ρ',rfl,ql,Ih,jO⟩
  exact j7 ρ' w' ql Ih jO
 unfold Ja at h
 dsimp only at h
 split at h
 ·rename_i b
  obtain ⟨r,hr,hkr⟩:=LH (P:=P) (nm:=nm) hT h o.type (args.map fun| .const _=>true|_=>false)
  refine ⟨r,⟨hr.1,?_⟩,hkr⟩
  intro ro n au W ρ Kn Γ w a next Q hX he hk ht hf hst j7
  obtain ⟨ρ',w',hrun,ql,Ih,jO⟩:=hr.2 au W ρ Kn Γ w hX (Jq Kn hk) ht hf hst
  refine ⟨fun _ _=>trivial,?_⟩
  rw [Oper.semAt_eq _ _ _ hd]
  have:(execOp a.eval o).run P w= .ok (.value (r.val.ae ρ')) w':=by
   simp only [execOp,ho,resolve,Sem.run_bind,Sem.run_pure,Result.andThen_ok,invoke]
   rw [hargs a ρ he]
   exact hrun
  rw [this]
  simp only [Oper.uponIn]
  exact j7 ρ' w' ql Ih jO
 ·rename_i f
  have X3:f∈o.op.operands:=by rw [ho];simp [Op.operands,Call.operands]
  split at h
  ·rename_i q lO
   split at h
   ·rename_i g fs cs hq
    obtain ⟨hqc,hqk⟩:=Bu hq
    split at h
    ·rename_i s hg
     refine enter g s _ f _ rfl lO hg h ?_ ?_
     ·intro Kn hk x hx
      have hfk:=hk f X3
      rw [lO] at hfk
      obtain ⟨k1,k2⟩:=hqk Kn hfk
      rcases List.mem_append.1 hx with hx|hx
      ·rcases List.mem_append.1 hx with hx|hx
       ·exact k1 x hx
       ·exact Jq Kn hk x hx
      ·exact k2 x hx
     ·intro a ρ w he
      have hf:=he f X3
      rw [lO] at hf
      simp only [execOp,ho,resolve,Sem.run_bind,hf,AV.ae,A0.ae,hqc ρ,Deferred.ofValue,Sem.run_pure,Result.andThen_ok,invoke]
      rw [hargs a ρ he,(hS.sp g s hg).1]
      congr 2
      apply Array.ext'
      simp [List.map_append,-List.map_map]
    ·rw [hS.its] at h
     exact h.elim
   ·split at h
    ·rename_i g first cap hq
     split at h
     ·rename_i s hg
      refine enter g s _ f _ rfl lO hg h ?_ ?_
      ·intro Kn hk x hx
       rcases List.mem_append.1 hx with hx|hx
       ·rcases List.mem_append.1 hx with hx|hx
        ·obtain ⟨v,_,rfl⟩:=List.mem_map.1 hx;exact u7 _ _
        ·exact Jq Kn hk x hx
       ·obtain ⟨q,hq,rfl⟩:=List.mem_map.1 hx;exact u7 _ _
      ·intro a ρ w he
       have hf:=he f X3
       rw [lO] at hf
       simp only [execOp,ho,resolve,Sem.run_bind,hf,AV.ae,A0.ae,Cell.ae,Deferred.ofValue,Sem.run_pure,Result.andThen_ok,invoke]
       rw [hargs a ρ he,(hS.sp g s hg).1]
       congr 2
       apply Array.ext'
       have e1: ∀l:List Value,List.map (AV.ae ρ) (l.map ofV)=l:=fun l=>by rw [List.map_map];exact (List.map_congr_left fun v _=>oG v ρ).trans (List.map_id _)
       simp [List.map_append,-List.map_map,e1]
     ·exact h.elim
    ·rw [hS.ys] at h
     exact h.elim
    ·exact h.elim
  ·exact h.elim
 ·exact h.elim
theorem Ee (hT:cP P ctx.tt) (hS:Lp P ctx) (h:Ed ctx o.op ev hp nm k): ∃r,bJ P ctx.X o ev hp nm r/\ k r:=by
 unfold Ed at h
 split at h
 ·rename_i x ho
  exact ⟨_,bJ.same (fun c e=>by rw [ho] at e;cases e) (fun Kn hk=>hk x (by rw [ho];simp [Op.operands])) fun a ρ Γ au W w Kn he _ _=>by simp [execOp,ho,he x (by rw [ho];simp [Op.operands])],h⟩
 ·rename_i x ho
  exact ⟨_,bJ.same (fun c e=>by rw [ho] at e;cases e) (fun Kn hk=>hk x (by rw [ho];simp [Op.operands])) fun a ρ Γ au W w Kn he _ _=>by simp [execOp,ho,he x (by rw [ho];simp [Op.operands])],h⟩
 ·rename_i c x y ho
  split at h
  ·rename_i t hc
   cases t with
   |true=>
    refine ⟨_,bJ.same (fun c e=>by rw [ho] at e;cases e) (fun Kn hk=>hk x (by rw [ho];simp [Op.operands])) fun a ρ Γ au W w Kn he _ _=> ?_,h⟩
    have h1:=he c (by rw [ho];simp [Op.operands])
    rw [hc] at h1
    simp [execOp,ho,h1,AV.ae,A0.ae,Cell.ae,asBool,he x (by rw [ho];simp [Op.operands])]
   |false=>
    refine ⟨_,bJ.same (fun c e=>by rw [ho] at e;cases e) (fun Kn hk=>hk y (by rw [ho];simp [Op.operands])) fun a ρ Γ au W w Kn he _ _=> ?_,h⟩
    have h1:=he c (by rw [ho];simp [Op.operands])
    rw [hc] at h1
    simp [execOp,ho,h1,AV.ae,A0.ae,Cell.ae,asBool,he y (by rw [ho];simp [Op.operands])]
  ·exact h.elim
 ·rename_i t ho
  split at h
  ·rename_i i hi
   exact ⟨_,bJ.kg (Vs hT hi) (fun _ _=>trivial) (fun c e=>by rw [ho] at e;cases e) fun a ρ he=>by simp [execOp,ho],h⟩
  ·exact h.elim
 ·rename_i t x ho
  split at h
  ·rename_i xs hxs
   exact ⟨_,bJ.kg (ada hxs (ctx:=ctx)) (fun Kn hk=>hk x (by rw [ho];simp [Op.operands])) (fun c e=>by rw [ho] at e;cases e) fun a ρ he=>by simp [execOp,ho,he x (by rw [ho];simp [Op.operands])],h⟩
  ·exact h.elim
 ·rename_i t parts ho
  split at h
  ·rename_i i hi
   obtain ⟨r,h1,h2⟩:=Rc (nm:=nm) (hp:=hp) hT hi h
   refine ⟨r,bJ.kg h1 (fun Kn hk p hp=>hk p.2 ?_) (fun c e=>by rw [ho] at e;cases e) fun a ρ he=> ?_,h2⟩
   ·rw [ho];simp only [Op.operands,List.mem_toArray,List.mem_map];exact ⟨p,hp,rfl⟩
   ·have:(parts.map fun (i,x)=>(i,a.eval x))=parts.map fun (i,x)=>(i,(ev x).ae ρ):=Array.map_congr_left fun p hp=>by
     show (p.1,a.eval p.2)=(p.1,(ev p.2).ae ρ)
     rw [he p.2 (by rw [ho];simp only [Op.operands,List.mem_toArray,List.mem_map];exact ⟨p,Array.mem_toList_iff.2 hp,rfl⟩)]
    simp only [execOp,ho,this]
  ·exact h.elim
 ·rename_i t len parts ho
  split at h
  ·rename_i i hi
   split at h
   ·rename_i h0
    simp only [Bool.and_eq_true,List.isEmpty_iff] at h0
    obtain ⟨r,h1,h2⟩:=IG (hp:=hp) hT hi h
    refine ⟨r,bJ.kg h1 (fun _ _=>trivial) (fun c e=>by rw [ho] at e;cases e) fun a ρ he=> ?_,h2⟩
    have e1:len=0:=Nat.eq_of_beq_eq_true h0.1
    have e2:parts= #[]:=by cases parts;simp_all
    subst e1;subst e2
    simp [execOp,ho]
   obtain ⟨r,h1,h2⟩:=Dx (hp:=hp) hT hi h
   refine ⟨r,bJ.kg h1 (fun Kn hk p hp=>hk p.2 ?_) (fun c e=>by rw [ho] at e;cases e) fun a ρ he=> ?_,h2⟩
   ·rw [ho];simp only [Op.operands,List.mem_toArray,List.mem_map];exact ⟨p,hp,rfl⟩
   ·have:(parts.map fun (i,x)=>(i,a.eval x))=parts.map fun (i,x)=>(i,(ev x).ae ρ):=Array.map_congr_left fun p hp=>by
     show (p.1,a.eval p.2)=(p.1,(ev p.2).ae ρ)
     rw [he p.2 (by rw [ho];simp only [Op.operands,List.mem_toArray,List.mem_map];exact ⟨p,Array.mem_toList_iff.2 hp,rfl⟩)]
    simp only [execOp,ho,this]
  ·exact h.elim
 ·rename_i t x ho
  split at h
  ·rename_i i hi
   obtain ⟨r,h1,h2⟩:=WL (nm:=nm) hT hi h
   exact ⟨r,bJ.kg h1 (fun Kn hk=>hk x (by rw [ho];simp [Op.operands])) (fun c e=>by rw [ho] at e;cases e) fun a ρ he=>by simp [execOp,ho,he x (by rw [ho];simp [Op.operands])],h2⟩
  ·exact h.elim
 ·rename_i t x y ho
  split at h
  ·rename_i i hi
   obtain ⟨r,h1,h2,h3⟩:=HC (nm:=nm) hT hi h
   exact ⟨r,bJ.aeP h1 h2 (fun Kn hk=>⟨hk x (by rw [ho];simp [Op.operands]),hk y (by rw [ho];simp [Op.operands])⟩) (fun c e=>by rw [ho] at e;cases e)
    fun a ρ he=>by simp [execOp,ho,he x (by rw [ho];simp [Op.operands]),he y (by rw [ho];simp [Op.operands])],h3⟩
  ·exact h.elim
 ·rename_i x ho
  have CB:x∈o.op.operands:=by rw [ho];simp [Op.operands]
  split at h
  ·rename_i n off hx
   obtain ⟨⟨ob,mF,dy⟩,hk⟩:=cJ h
   refine ⟨_,bJ.same (fun c e=>by rw [ho] at e;cases e) (fun Kn hk=>by have:=hk x CB;rw [hx] at this;exact this) fun a ρ Γ au W w Kn he ht hst=> ?_,hk⟩
   obtain ⟨b,hb⟩:=dy _ _ ρ w (hst.at_ n ob (by rw [ht n (by simp),mF]))
   have h1:=he x CB
   rw [hx,mA hb] at h1
   simp [execOp,ho,h1,mA hb]
  ·rename_i n off hx
   obtain ⟨⟨ob,mF,dy⟩,hk⟩:=cJ h
   refine ⟨_,bJ.same (fun c e=>by rw [ho] at e;cases e) (fun Kn hk=>by have:=hk x CB;rw [hx] at this;exact this) fun a ρ Γ au W w Kn he ht hst=> ?_,hk⟩
   obtain ⟨b,hb⟩:=dy _ _ ρ w (hst.at_ n ob (by rw [ht n (by simp),mF]))
   have h1:=he x CB
   rw [hx,nK hb] at h1
   simp [execOp,ho,h1,nK hb]
  ·rename_i n j q hx
   split at h
   ·rename_i hrc
    obtain ⟨c,cs,mF⟩:=JL hrc
    refine ⟨_,bJ.same (fun c e=>by rw [ho] at e;cases e) (fun Kn hk=>by have:=hk x CB;rw [hx] at this;exact this) fun a ρ Γ au W w Kn he ht hst=> ?_,h⟩
    obtain ⟨b,hb⟩:=Uw (hst.at_ n (.rc (c::cs)) (by rw [ht n (by simp),mF]))
    have h1:=he x CB
    rw [hx,gG hb] at h1
    simp [execOp,ho,h1,gG hb]
   obtain ⟨u,l,rk,mF,hj,hk⟩:=dD h
   refine ⟨_,bJ.same (fun c e=>by rw [ho] at e;cases e) (fun Kn hk=>by have:=hk x CB;rw [hx] at this;exact this) fun a ρ Γ au W w Kn he ht hst=> ?_,hk⟩
   obtain ⟨b,hb⟩:=(rk.2.at (hst.at_ n _ (by rw [ht n (by simp),mF]))).2.2.2 _ hj
   have h1:=he x CB
   rw [hx,gG hb] at h1
   simp [execOp,ho,h1,gG hb]
  ·rename_i n j q hx
   obtain ⟨u,l,rk,mF,hj,hk⟩:=dD h
   refine ⟨_,bJ.same (fun c e=>by rw [ho] at e;cases e) (fun Kn hk=>by have:=hk x CB;rw [hx] at this;exact this) fun a ρ Γ au W w Kn he ht hst=> ?_,hk⟩
   obtain ⟨b,hb⟩:=(rk.2.at (hst.at_ n _ (by rw [ht n (by simp),mF]))).2.2.2 _ hj
   have h1:=he x CB
   rw [hx,oo hb] at h1
   simp [execOp,ho,h1,oo hb]
  ·rename_i f first cap hx
   refine ⟨_,bJ.same (fun c e=>by rw [ho] at e;cases e) (fun Kn hk=>by have:=hk x CB;rw [hx] at this;exact this) fun a ρ Γ au W w Kn he ht hst=> ?_,h⟩
   have h1:=he x CB
   rw [hx] at h1
   simp [execOp,ho,h1,AV.ae,A0.ae,Cell.ae]
  ·rename_i f agg rs hx
   refine ⟨_,bJ.same (fun c e=>by rw [ho] at e;cases e) (fun Kn hk=>by have:=hk x CB;rw [hx] at this;exact this) fun a ρ Γ au W w Kn he ht hst=> ?_,h⟩
   have h1:=he x CB
   rw [hx] at h1
   simp [execOp,ho,h1,AV.ae,A0.ae,Cell.ae]
  ·rename_i b hx
   refine ⟨_,bJ.same (fun c e=>by rw [ho] at e;cases e) (fun Kn hk=> ?_) (fun a ρ Γ au W w Kn he ht hst=> ?_),h⟩
   ·trivial
   have h1:=he x CB
   rw [hx] at h1
   simp [execOp,ho,h1,AV.ae,A0.ae,Cell.ae]
  ·rename_i f first cap hx
   refine ⟨_,bJ.same (fun c e=>by rw [ho] at e;cases e) (fun Kn hk=> ?_) (fun a ρ Γ au W w Kn he ht hst=> ?_),h⟩
   ·trivial
   have h1:=he x CB
   rw [hx] at h1
   simp [execOp,ho,h1,AV.ae,A0.ae,Cell.ae]
  ·exact h.elim
 ·rename_i op t x y yt ho
  rw [if_neg (by simp [ndB,hS.its])] at h
  split at h
  ·obtain ⟨r,h1,h2⟩:=aa8 (nm:=nm) (hp:=hp) (P:=P) (ox:=x) (oy:=y) hT h
   refine ⟨r,bJ.kg h1 (fun _ _=>trivial) (fun c e=>by rw [ho] at e;cases e) fun a ρ he=> ?_,h2⟩
   simp [execOp,ho,he x (by rw [ho];simp [Op.operands]),he y (by rw [ho];simp [Op.operands])]
  obtain ⟨r,h1,h2⟩:=Yz (nm:=nm) (hp:=hp) (P:=P) (ox:=x) (oy:=y) hT h
  refine ⟨r,bJ.kg h1 (fun _ _=>trivial) (fun c e=>by rw [ho] at e;cases e) fun a ρ he=> ?_,h2⟩
  simp [execOp,ho,he x (by rw [ho];simp [Op.operands]),he y (by rw [ho];simp [Op.operands])]
 ·rename_i u t x ho
  have CB:x∈o.op.operands:=by rw [ho];simp [Op.operands]
  split at h
  ·rename_i kk n hx
   refine ⟨_,bJ.same (fun c e=>by rw [ho] at e;cases e) (fun Kn hk=> ?_) (fun a ρ Γ au W w Kn he ht hst=> ?_),h⟩
   ·trivial
   have h1:=he x CB
   rw [hx] at h1
   simp [execOp,ho,h1,AV.ae,A0.ae,Cell.ae,Op.unary,Op.intArith,gb]
  ·rename_i b hx
   refine ⟨_,bJ.same (fun c e=>by rw [ho] at e;cases e) (fun Kn hk=> ?_) (fun a ρ Γ au W w Kn he ht hst=> ?_),h⟩
   ·trivial
   have h1:=he x CB
   rw [hx] at h1
   simp [execOp,ho,h1,AV.ae,A0.ae,Cell.ae,Op.unary,bD]
  ·exact h.elim
 ·rename_i s d x ho
  have CB:x∈o.op.operands:=by rw [ho];simp [Op.operands]
  split at h
  ·rename_i i0 i hi0 hi
   split at h
   ·rename_i kk k1 n hd hx
    refine ⟨_,bJ.same (fun c e=>by rw [ho] at e;cases e) (fun Kn hk=> ?_) (fun a ρ Γ au W w Kn he ht hst=> ?_),h⟩
    ·trivial
    have h1:=he x CB
    rw [hx] at h1
    simp [execOp,ho,h1,AV.ae,A0.ae,Cell.ae,convert,hT.u hi0,hT.u hi,hd,Conv.intToInt,gb]
   ·exact h.elim
  ·exact h.elim
 ·rename_i fn first cap ho
  split at h
  ·rename_i f c hf hc
   refine ⟨_,bJ.same (fun c e=>by rw [ho] at e;cases e) (fun Kn hk=> ?_) fun a ρ Γ au W w Kn he ht hst=> ?_,h⟩
   ·refine (vL (fun _=> {}) _ _ hc).2 Kn fun x hx=> ?_
    rw [gh] at hx
    obtain ⟨y,hy,rfl⟩:=List.mem_map.1 hx
    exact hk y (by rw [ho];simp [Op.operands,Array.mem_toList_iff.1 hy])
   ·have e1:first.map a.eval=f.toArray:=by
     apply Array.ext'
     rw [<- Dm ρ _ _ hf,gh]
     simp only [Array.toList_map,List.map_map]
     exact List.map_congr_left fun y hy=>he y (by rw [ho];simp [Op.operands,Array.mem_toList_iff.1 hy])
    have e2:cap.map a.eval=(c.map (Ref.ae ρ)).toArray:=by
     apply Array.ext'
     rw [<- (vL ρ _ _ hc).1,gh]
     simp only [Array.toList_map,List.map_map]
     exact List.map_congr_left fun y hy=>he y (by rw [ho];simp [Op.operands,Array.mem_toList_iff.1 hy])
    simp only [execOp,ho,Instr.makeFunc,e1,e2,AV.ae,A0.ae,Cell.ae]
    rfl
  ·split at h
   ·rename_i g r hfs hcs
    split at h
    ·rename_i agg rs hr
     obtain ⟨hrc,qm⟩:=Pp hr
     have hmem: ∀y∈first.toList,y∈o.op.operands:=fun y hy=>by rw [ho];simp [Op.operands,Array.mem_toList_iff.1 hy]
     rw [gh] at hfs
     obtain ⟨y,hy1⟩: ∃y,first.toList= [y]:=by
      match hm:first.toList,hfs with
      | [y],_=>exact ⟨y,rfl⟩
     have hr1:ev y=r:=by rw [hy1] at hfs;simpa using hfs
     refine ⟨_,bJ.same (fun c e=>by rw [ho] at e;cases e) (fun Kn hk=> ?_) fun a ρ Γ au W w Kn he ht hst=> ?_,h⟩
     ·exact qm Kn (by rw [<- hr1];exact hk y (hmem y (by rw [hy1];simp)))
     ·have e1:first.map a.eval= #[r.ae ρ]:=by
       apply Array.ext'
       simp only [Array.toList_map,hy1,List.map_cons,List.map_nil]
       rw [he y (hmem y (by rw [hy1];simp)),hr1]
      have e2:cap.map a.eval= #[]:=by
       apply Array.ext'
       simp [Array.toList_map,hcs]
      simp only [execOp,ho,Instr.makeFunc,e1,e2,AV.ae,A0.ae,Cell.ae,hrc ρ]
      rfl
    ·exact h.elim
   ·exact h.elim
 ·rename_i t x lo hh mx ho
  split at h
  ·rename_i i hi
   obtain ⟨r,h1,h2⟩:=SO (nm:=nm) (P:=P) hT hi h
   refine ⟨r,bJ.kg h1 (fun Kn hk=>hk x (by rw [ho];simp [Op.operands])) (fun c e=>by rw [ho] at e;cases e) fun a ρ he=> ?_,h2⟩
   have e: ∀q:Option Operand,(∀y,q=some y->y∈o.op.operands)->q.map a.eval=(q.map ev).map (AV.ae ρ):=by
    intro q hq;cases q with
    |none=>rfl
    |some y=>simp [he y (hq y rfl)]
   rw [execOp,ho]
   simp only
   rw [he x (by rw [ho];simp [Op.operands]),e lo (fun y hy=>by rw [ho];simp [Op.operands,hy]),e hh (fun y hy=>by rw [ho];simp [Op.operands,hy]),e mx (fun y hy=>by rw [ho];simp [Op.operands,hy])]
  ·exact h.elim
 ·rename_i t x y ho
  split at h
  ·rename_i i hi
   obtain ⟨r,h1,h2⟩:=uV (hp:=hp) hT hi h
   exact ⟨r,bJ.kg h1 (fun _ _=>trivial) (fun c e=>by rw [ho] at e;cases e) fun a ρ he=>by simp [execOp,ho,he x (by rw [ho];simp [Op.operands]),he y (by rw [ho];simp [Op.operands])],h2⟩
  ·exact h.elim
 ·rename_i t x f ho
  split at h
  ·rename_i i hi
   obtain ⟨r,h1,h2⟩:=Fq (nm:=nm) hT hi h
   exact ⟨r,bJ.kg h1 (fun Kn hk=>hk x (by rw [ho];simp [Op.operands])) (fun c e=>by rw [ho] at e;cases e) fun a ρ he=>by simp [execOp,ho,he x (by rw [ho];simp [Op.operands])],h2⟩
  ·exact h.elim
 ·rename_i t x f ho
  split at h
  ·rename_i i hi
   obtain ⟨r,h1,h2⟩:=Rt (nm:=nm) (hp:=hp) hT hi h
   exact ⟨r,bJ.kg h1 (fun Kn hk=>hk x (by rw [ho];simp [Op.operands])) (fun c e=>by rw [ho] at e;cases e) fun a ρ he=>by simp [execOp,ho,he x (by rw [ho];simp [Op.operands])],h2⟩
  ·exact h.elim
 ·rename_i t x ix ho
  split at h
  ·rename_i i hi
   obtain ⟨r,h1,h2⟩:=FO (nm:=nm) hT hi h
   exact ⟨r,bJ.kg h1 (fun Kn hk=>hk x (by rw [ho];simp [Op.operands])) (fun c e=>by rw [ho] at e;cases e) fun a ρ he=>by simp [execOp,ho,he x (by rw [ho];simp [Op.operands]),he ix (by rw [ho];simp [Op.operands])],h2⟩
  ·exact h.elim
 ·rename_i t x ix ho
  split at h
  ·rename_i i hi
   obtain ⟨r,h1,h2⟩:=RV (nm:=nm) (hp:=hp) hT hi h
   exact ⟨r,bJ.kg h1 (fun Kn hk=>hk x (by rw [ho];simp [Op.operands])) (fun c e=>by rw [ho] at e;cases e) fun a ρ he=>by simp [execOp,ho,he x (by rw [ho];simp [Op.operands]),he ix (by rw [ho];simp [Op.operands])],h2⟩
  ·exact h.elim
 ·rename_i x i ho
  have CB:x∈o.op.operands:=by rw [ho];simp [Op.operands]
  split at h
  ·rename_i l hx
   split at h
   ·rename_i v hv
    refine ⟨_,bJ.same (fun c e=>by rw [ho] at e;cases e) (fun Kn hk=> ?_) fun a ρ Γ au W w Kn he ht hst=> ?_,h⟩
    ·have:=hk x CB;rw [hx] at this;exact this v (List.mem_of_getElem? hv)
    ·have h1:=he x CB
     rw [hx] at h1
     simp [execOp,ho,h1,AV.ae,Instr.extract,hv]
   ·exact h.elim
  ·exact h.elim
 ·rename_i c ho
  exact Vz hT hS ho h
 ·exact h.elim
def OpK (P:Program) (X:Addr->Value->Prop) (o:Oper) (ev:Operand->AV) (hp:HP) (nm:Nat) (k:Rec->Prop):Prop:=
 ∀ro n au W ρ w a next Q,rD au W X->(∀x∈o.op.operands,a.eval x=(ev x).ae ρ)->(∀x∈o.op.operands,(ev x).ok (· <nm))->St au W ρ (· <nm) hp w->
  (∀r ρ' w',k r->(∀p∈r.writes,hp p.1≠none)->(∀m,m<nm->ρ' m=ρ m)->r.val.ok (mG (· <nm) nm r)->St au W ρ' (mG (· <nm) nm r) (bO r nm hp) w'->next (a.put o.dst (r.val.ae ρ')) w')->
  o.wpIn (fw ro) n P a w next Q
theorem OpK.aaX {X:Addr->Value->Prop} {r:Rec} (h:bJ P X o ev hp nm r) (hk:k r):OpK P X o ev hp nm k:=
 fun ro n au W ρ w a next Q hX he hv hst hn=>h.2 ro n au W ρ _ _ w a next Q hX he hv (fun _ _=>rfl) (fun i _=>by omega) hst fun ρ' w' h1 h2 h3=>hn r ρ' w' hk h.1 h1 h2 h3
def ON (ctx:Ctx) (ev:Operand->AV):Op->Bool
 | .call c=>match c.callee with
  | .value f=>match ev f with
   | .v (.one q)=>match YM q with
    |some (g,_,_)=>(aJ ctx.specs g).isNone
    |none=>match q with
     | .Ic _=>true
     |_=>false
   |_=>false
  |_=>false
 | .binOp _ _ x y _=>ndB ctx (ev x) (ev y)
 |_=>false
theorem W7 (h:Ed ctx o.op ev hp nm k) (hy:ON ctx ev o.op=false):Ed {ctx with ys:= [],its:= []} o.op ev hp nm k:=by
 revert h hy
 cases o.op with
 |call c=>
  intro h hy
  simp only [Ed,Ja] at h ⊢
  simp only [ON] at hy
  split at h
  ·exact h
  ·rename_i f hc
   rw [hc] at hy
   dsimp only at hy
   split at h
   ·rename_i q lO
    rw [lO] at hy
    dsimp only at hy ⊢
    split at h
    ·rename_i g fs cs hq
     rw [hq] at hy
     dsimp only at hy ⊢
     split at h
     ·rename_i s hs
      exact h
     ·rename_i hs
      rw [hs] at hy;cases hy
    ·rename_i hq
     rw [hq] at hy
     dsimp only at hy ⊢
     split at h
     ·exact h
     ·cases hy
     ·exact h.elim
   ·exact h.elim
  ·exact h.elim
 |binOp op t x y yt=>
  intro h hy
  simp only [ON] at hy
  simp only [Ed] at h ⊢
  rw [if_neg (by rw [hy];decide)] at h
  rw [if_neg (by simp [ndB])]
  exact h
 |_=>intro h _;exact h
theorem akk (hT:cP P ctx.tt) {op:BinOp} {t:TypeId} {x y:Operand} {yt:TypeId} (ho:o.op= .binOp op t x y yt) (h:ahQ ctx op t (ev x) (ev y) hp k):OpK P ctx.X o ev hp nm k:=by
 unfold ahQ at h
 split at h
 rotate_left
 ·exact h.elim
 rename_i n hx hy
 split at h
 rotate_left
 ·exact h.elim
 rename_i u l rk i hr hi
 have key: ∀(g:Bool->Bool),(∀(e:TypeId),i.desc= .slice e-> ∀(a:Option Addr) (n1 c1:Nat) (w:World),(binOp op t (.slice a n1 c1) (.slice none 0 0)).run P w= .ok (.bool (g a.isNone)) w)->(∃e,i.desc= .slice e)->(∀b:Bool,(0<l.length->b=false)->k {val:=bD (g b),aH:= [n]})->OpK P ctx.X o ev hp nm k:=by
  intro g hrun ⟨e,hd⟩ hk ro n' au W ρ w a next Q hX he hok hst j7
  obtain ⟨_,_,_,sub,hm⟩:=hst.at_ n _ hr
  have hb:0<l.length->(ρ n).base.isNone=false:=by
   intro hl
   have hlen:0<(aI sub 0 (az u l)).length:=by rw [bI,bB];exact Nat.mul_pos hl u.size_pos
   obtain ⟨a',e',_⟩:=hm.1 0 _ (List.getElem?_eq_getElem hlen)
   rw [e'];rfl
  have h1:=he x (by rw [ho];simp [Op.operands])
  have h2:=he y (by rw [ho];simp [Op.operands])
  rw [hx] at h1
  rw [hy] at h2
  have hg:=cM (P:=P) op t x y (.slice (ρ n).base (ρ n).len (ρ n).cap) (.slice none 0 0) w (by simp) (by simp)
  have X5:=hrun e hd (ρ n).base (ρ n).len (ρ n).cap w
  have ajx:(execOp a.eval o).run P w= .ok (.value (.bool (g (ρ n).base.isNone))) w:=by
   simp [execOp,ho,h1,h2,AV.ae,A0.ae,Cell.ae,hg,X5]
  refine ⟨fun _ _=>trivial,?_⟩
  rw [Oper.semAt_eq _ _ _ (fun c e=>by rw [ho] at e;cases e),ajx]
  simp only [Oper.uponIn]
  exact j7 {val:=bD (g (ρ n).base.isNone),aH:= [n]} ρ w (hk _ hb) (fun p hp=>absurd hp (by simp)) (fun _ _=>rfl) (by rw [fb];exact trivial) (by rw [fb,n6];exact hst)
 split at h
 ·rename_i e hd
  exact key id (fun e hd a n1 c1 w=>by simp [binOp,lU hT hi hd]) ⟨e,hd⟩ h
 ·rename_i e hd
  exact key (fun b=> !b) (fun e hd a n1 c1 w=>by simp [binOp,lU hT hi hd]) ⟨e,hd⟩ h
 ·exact h.elim
theorem akp (hT:cP P ctx.tt) (hC:eB P ctx) (h:Ed ctx o.op ev hp nm k):OpK P ctx.X o ev hp nm k:=by
 cases hy:ON ctx ev o.op with
 |false=>
  obtain ⟨r,h1,h2⟩:=Ee (ctx:= {ctx with ys:= [],its:= []}) hT ⟨hC.sp,rfl,rfl⟩ (W7 h hy)
  exact .aaX h1 h2
 |true=>
  unfold ON at hy
  split at hy
  ·rename_i c ho
   split at hy
   ·rename_i f hc
    obtain ⟨callee,args,argTypes⟩:=c
    dsimp only at hc
    subst hc
    have hd: ∀c,o.op≠ .defer c:=fun c e=>by rw [ho] at e;cases e
    have hmem: ∀x∈args.toList,x∈o.op.operands:=fun x hx=>by rw [ho];simp [Op.operands,Call.operands,Array.mem_toList_iff.1 hx]
    have X3:f∈o.op.operands:=by rw [ho];simp [Op.operands,Call.operands]
    have hargs: ∀(a:Act) (ρ:Env),(∀x∈o.op.operands,a.eval x=(ev x).ae ρ)->args.map a.eval=((oE ev args.toList).map (AV.ae ρ)).toArray:=by
     intro a ρ he
     apply Array.ext'
     simp only [Array.toList_map,gh,List.map_map]
     exact List.map_congr_left fun x hx=>he x (hmem x hx)
    have Jq:(∀x∈o.op.operands,(ev x).ok (· <nm))-> ∀x∈oE ev args.toList,x.ok (· <nm):=by
     intro hk x hx
     rw [gh] at hx
     obtain ⟨y,hy,rfl⟩:=List.mem_map.1 hx
     exact hk y (hmem y hy)
    split at hy
    ·rename_i q lO
     rw [ho] at h
     split at hy
     ·rename_i g fs cs hq
      simp only [Ed,Ja,lO,hq] at h
      obtain ⟨hqc,hqk⟩:=Bu hq
      split at h
      ·rename_i s hs
       rw [hs] at hy;cases hy
      split at h
      rotate_left
      ·exact h.elim
      rename_i R6 hg
      obtain ⟨x8,ZR⟩:=hC.its g R6 hg
      intro ro n au W ρ w a next Q hX he hk hst j7
      obtain ⟨ta,eK,uK⟩:=hst.pinned
      have hlen:(gQ hp nm++ [aG.bT ρ nm]).length=nm+1:=by simp [bK]
      have Js: ∀m,hp m≠some .gone:=fun m e=>hst.at_ m _ e
      have hkl: ∀m,(hp m).isSome=true->m<nm:=fun m hm=>by
       obtain ⟨o,ho⟩:=Option.isSome_iff_exists.1 hm
       exact (hst.kn m o ho).1
      have hfk:=hk f X3
      rw [lO] at hfk
      obtain ⟨k1,k2⟩:=hqk _ hfk
      have hfull: ∀x∈fs++oE ev args.toList++cs,x.ok (· <nm):=fun x hx=>by
       rcases List.mem_append.1 hx with hx|hx
       ·rcases List.mem_append.1 hx with hx|hx
        ·exact k1 x hx
        ·exact Jq hk x hx
       ·exact k2 x hx
      have uw:=ZR [] _ _ _ (h ρ) (mU.nil P) au W ta w hX (fun x hx=>AV.aR (fun i hi=>by rw [hlen];omega) x (hfull x hx)) (by rw [hlen];exact uK)
      refine ⟨fun _ _=>trivial,?_⟩
      have hf:=he f X3
      rw [lO] at hf
      have hrun:(execOp a.eval o).run P w= .ok (.enter g ((fs++oE ev args.toList++cs).map (AV.ae ta)).toArray) w:=by
       simp only [execOp,ho,resolve,Sem.run_bind,hf,AV.ae,A0.ae,hqc ρ,Deferred.ofValue,Sem.run_pure,Result.andThen_ok,invoke]
       rw [hargs a ρ he,x8]
       congr 2
       apply Array.ext'
       have e0:(fs++oE ev args.toList++cs).map (AV.ae ta)=(fs++oE ev args.toList++cs).map (AV.ae ρ):=List.map_congr_left fun x hx=>AV.bq (Kn:=(· <nm)) eK x (hfull x hx)
       rw [e0]
       simp [List.map_append,-List.map_map]
      rw [Oper.semAt_eq _ _ _ hd,hrun]
      simp only [Oper.uponIn]
      refine ⟨fun h=>by simp [fw] at h,rI ?_⟩
      refine uw.mono ?_
      rintro e w' ⟨st,ρ',v,rfl,Ih,hR,jO⟩
      obtain ⟨hp1,hkk⟩:=cZ hR
      have hlt:=eu hp1
      have ql: ∀m,m<nm->ρ' m=ρ m:=(jO.at_ _ _ hp1).2
      have DZ:=jO.diff (v:=v) hlt Js hkl
      refine j7 _ ρ' w' hkk (fun p hp=>zy hp) ql ?_ DZ
      exact AV.aR (fun i hi=>by simp only [mG,zf,List.length_drop,List.length_set];omega) v Ih
     ·rename_i hq
      split at hy
      rotate_left
      ·cases hy
      rename_i m
      simp only [Ed,Ja,lO,hq] at h
      split at h
      ·rename_i s hg
       have hkk:=hC.ys m s hg ctx.X _ hp nm k h
       intro ro n au W ρ w a next Q hX he hk hst j7
       obtain ⟨l,g,tmps,assign,body,hl,hrun,aho⟩:=hkk ro (n- 1) au W ρ w hX (Jq hk) hst
       refine ⟨fun _ _=>trivial,?_⟩
       rw [Oper.semAt_eq _ _ _ hd]
       have:(execOp a.eval o).run P w= .ok (.round l g tmps assign body) w:=by
        have hf:=he f X3
        rw [lO] at hf
        simp only [execOp,ho,resolve,Sem.run_bind,hf,AV.ae,A0.ae,Cell.ae,hl,Deferred.ofValue,Sem.run_pure,Result.andThen_ok,invoke]
        rw [hargs a ρ he]
        simpa using hrun
       rw [this,Oper.uponIn_round]
       refine ⟨fun h=>by simp [fw] at h,aho.mono ?_⟩
       rintro e w' ⟨r,ρ',hkr,hw,rfl,ql,Ih,jO⟩
       exact j7 r ρ' w' hkr hw ql Ih jO
      ·exact h.elim
    ·cases hy
   ·cases hy
  ·rename_i op t x y yt ho
   rw [ho] at h
   simp only [Ed] at h
   rw [if_pos hy] at h
   exact akk hT ho h
  ·cases hy
end
end Go.Ev
