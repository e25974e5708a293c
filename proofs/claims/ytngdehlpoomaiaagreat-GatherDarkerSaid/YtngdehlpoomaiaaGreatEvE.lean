/- Each operation does what 'opE' says; a call does what its contract says. -/
import Derived.Test.YtngdehlpoomaiaaGreatEvD6
noncomputable section
set_option linter.unusedSectionVars false
set_option linter.unusedVariables false
set_option linter.unusedSimpArgs false
namespace Go.Ev
open Go.RowKit
def oM (P:Program) (f:FuncId) (X:Addr->Value->Prop) (args:List AV) (hp:HP) (nm:Nat) (r:Rec):Prop:=
 (∀p∈r.writes,hp p.1≠none)/\ ∀aq W ρ Kn Γ w,ru aq W X->(∀x∈args,x.ok Kn)->(∀m∈r.aD,Γ m=hp m)->(∀i,i<r.fresh.length-> ¬Kn (nm+i))->St aq W ρ Kn Γ w->
  Calls P f (args.map (AV.ae ρ)).toArray w fun e w'=> ∃ρ',e= .returned (r.val.ae ρ')/\ (∀m,Kn m->ρ' m=ρ m)/\ r.val.ok (mH Kn nm r)/\ St aq W ρ' (mH Kn nm r) (bU r nm Γ) w'
def ah (P:Program) (f:FuncId) (s:Spec):Prop:= ∀X args hp nm k,s X args hp nm k-> ∃r,oM P f X args hp nm r/\ k r
def cr (P:Program) (f:FuncId):Prop:= ∀args w,(callFunc f args).run P w= .ok (.enter f args) w
def af (P:Program) (specs:List (Nat×Spec)):Prop:= ∀f s,aI specs f=some s->cr P f/\ ah P f s
theorem af.nil (P:Program):af P []:=fun _ _ h=>by cases h
theorem af.cons {P:Program} {f:FuncId} {s:Spec} {l:List (Nat×Spec)} (he:cr P f) (h:ah P f s) (hl:af P l):af P ((f,s)::l):=by
 intro g q hg
 unfold aI at hg
 split at hg
 ·rename_i e;subst e;cases hg;exact ⟨he,h⟩
 ·exact hl g q hg
def ake (P:Program) (n:Nat) (X:Addr->Value->Prop) (args:List AV) (hp:HP) (nm:Nat) (k:Rec->Prop):Prop:=
 ∀ro m aq W ρ w,ru aq W X->(∀x∈args,x.ok (· <nm))->St aq W ρ (· <nm) hp w->
  ∃l f tmps assign body,(ρ n).1=some l/\ (Instr.yield l (args.map (AV.ae ρ)).toArray).run P w= .ok (.round l f tmps assign body) w/\
   RoundIn (fw ro) m P l f tmps assign body w fun e w'=> ∃r ρ',k r/\ (∀p∈r.writes,hp p.1≠none)/\ e= .returned (r.val.ae ρ')/\ (∀m,m<nm->ρ' m=ρ m)/\ r.val.ok (mH (· <nm) nm r)/\ St aq W ρ' (mH (· <nm) nm r) (bU r nm hp) w'
def nW (P:Program) (ys:List (Nat×Spec)):Prop:= ∀n s,aI ys n=some s-> ∀X args hp nm k,s X args hp nm k->ake P n X args hp nm k
def fQ (P:Program) (X:Addr->Value->Prop) (f:FuncId) (Rh:cX):Prop:= ∀ys args heap R,Rh ys args heap R->nW P ys-> ∀aq W ρ w,ru aq W X->(∀x∈args,x.ok (· <heap.length))->St aq W ρ (· <heap.length) (ai heap) w->
 Calls P f (args.map (AV.ae ρ)).toArray w fun e w'=> ∃st ρ' v,e= .returned (v.ae ρ')/\ v.ok (· <st.heap.length)/\ R v st/\ St aq W ρ' (· <st.heap.length) (ai st.heap) w'
def av (P:Program) (X:Addr->Value->Prop) (its:List (Nat×cX)):Prop:= ∀f Rh,aI its f=some Rh->cr P f/\ fQ P X f Rh
structure fq (P:Program) (ctx:Ctx):Prop where
 sp:af P ctx.specs
 ys:nW P ctx.ys
 its:av P ctx.X ctx.its
structure KL (P:Program) (ctx:Ctx):Prop where
 sp:af P ctx.specs
 ys:ctx.ys= []
 its:ctx.its= []
theorem nW.nil (P:Program):nW P []:=fun _ _ h=>by cases h
theorem av.nil (P:Program) (X:Addr->Value->Prop):av P X []:=fun _ _ h=>by cases h
theorem af.ctx {P:Program} {tt:List (Nat×TI)} {specs:List (Nat×Spec)} {X:Addr->Value->Prop} {lp:List (Nat×bC)} (h:af P specs):fq P ⟨tt,specs,X,lp,[],[]⟩:=⟨h,nW.nil P,av.nil P X⟩
section
variable (P:Program) (X:Addr->Value->Prop)
def bO (o:Oper) (ev:Operand->AV) (hp:HP) (nm:Nat) (r:Rec):Prop:=
 (∀p∈r.writes,hp p.1≠none)/\ ∀ro n aq W ρ Kn Γ w a next Q,ru aq W X->(∀x∈o.op.operands,a.eval x=(ev x).ae ρ)->(∀x∈o.op.operands,(ev x).ok Kn)->(∀m∈r.aD,Γ m=hp m)->
  (∀i,i<r.fresh.length-> ¬Kn (nm+i))->St aq W ρ Kn Γ w->
  (∀ρ' w',(∀m,Kn m->ρ' m=ρ m)->r.val.ok (mH Kn nm r)->St aq W ρ' (mH Kn nm r) (bU r nm Γ) w'->next (a.put o.dst (r.val.ae ρ')) w')->
  o.wpIn (fw ro) n P a w next Q
end
section
variable {P:Program} {X:Addr->Value->Prop} {hp:HP} {nm:Nat} {k:Rec->Prop} {o:Oper} {ev:Operand->AV}
theorem bO.kC {Cy:(Nat->Prop)->Prop} {f:Env->Sem Value} {r:Rec} (hs:aM P X hp nm Cy f (fun ρ=>r.val.ae ρ) r)
  (hok: ∀Kn,(∀x∈o.op.operands,(ev x).ok Kn)->Cy Kn) (hd: ∀c,o.op≠ .defer c)
  (hx: ∀(a:Act) (ρ:Env),(∀x∈o.op.operands,a.eval x=(ev x).ae ρ)->execOp a.eval o=(do pure (.value (<- f ρ)))):bO P X o ev hp nm r:=by
 refine ⟨hs.1,?_⟩
 intro ro n aq W ρ Kn Γ w a next Q hX he hk ht hf hst kq
 obtain ⟨ρ',w',hrun,pZ,HC,jW⟩:=hs.2 aq W ρ Kn Γ w hX (hok Kn hk) ht hf hst
 refine ⟨fun _ _=>trivial,?_⟩
 rw [Oper.semAt_eq _ _ _ hd,hx a ρ he]
 simp only [Sem.run_bind,hrun,Result.andThen_ok,Sem.run_pure,Oper.uponIn]
 exact kq ρ' w' pZ HC jW
theorem bO.adD {Cy:(Nat->Prop)->Prop} {f:Env->Sem Unit} {r:Rec} (hs:aM P X hp nm Cy f (fun _=>()) r) (hv:r.val=ck)
  (hok: ∀Kn,(∀x∈o.op.operands,(ev x).ok Kn)->Cy Kn) (hd: ∀c,o.op≠ .defer c)
  (hx: ∀(a:Act) (ρ:Env),(∀x∈o.op.operands,a.eval x=(ev x).ae ρ)->execOp a.eval o=(do f ρ;pure .skip)):bO P X o ev hp nm r:=by
 refine ⟨hs.1,?_⟩
 intro ro n aq W ρ Kn Γ w a next Q hX he hk ht hf hst kq
 obtain ⟨ρ',w',hrun,pZ,HC,jW⟩:=hs.2 aq W ρ Kn Γ w hX (hok Kn hk) ht hf hst
 refine ⟨fun _ _=>trivial,?_⟩
 rw [Oper.semAt_eq _ _ _ hd,hx a ρ he]
 simp only [Sem.run_bind,hrun,Result.andThen_ok,Sem.run_pure,Oper.uponIn]
 have:=kq ρ' w' pZ HC jW
 rw [hv] at this;exact this
theorem bO.same {v:AV} {tc:List Nat} (hd: ∀c,o.op≠ .defer c) (hv: ∀Kn,(∀x∈o.op.operands,(ev x).ok Kn)->v.ok Kn)
  (hx: ∀(a:Act) (ρ:Env) (Γ:HP) (aq:e8) (W w:World) (Kn:Nat->Prop),(∀x∈o.op.operands,a.eval x=(ev x).ae ρ)->(∀m∈tc,Γ m=hp m)->St aq W ρ Kn Γ w->(execOp a.eval o).run P w= .ok (.value (v.ae ρ)) w):
  bO P X o ev hp nm {val:=v,aD:=tc} :=by
 refine ⟨fun p hp=>absurd hp (by simp),?_⟩
 intro ro n aq W ρ Kn Γ w a next Q hX he hk ht hf hst kq
 refine ⟨fun _ _=>trivial,?_⟩
 rw [Oper.semAt_eq _ _ _ hd,hx a ρ Γ aq W w Kn he ht hst]
 simp only [Oper.uponIn]
 exact kq ρ w (fun _ _=>rfl) (by rw [fh];exact hv Kn hk) (by rw [fh,nY];exact hst)
theorem rB {ro:Option Nat} {n:Nat} {f:FuncId} {args:Array Value} {w:World} {R:Ending->World->Prop} (h:Calls P f args w R):CallsIn (fw ro) n P f args w R:=by
 have:=(callsIn_wide (n:=n)).2 h
 exact this
theorem jm (ev:Operand->AV) (l:List Operand):qh ev l=l.map ev:=by induction l<;>simp_all [qh]
theorem PB {a:A0} {v:Value} (h:yx a=some v) (ρ:Env):a.ae ρ=v:=by
 have hl: ∀(cs:List Cell) (l:List Value),yx.FV cs=some l->cs.map (Cell.ae ρ)=l:=by
  intro cs
  induction cs with
  |nil=>intro l h;simp only [yx.FV,Option.some.injEq] at h;subst h;rfl
  |cons c r ih=>
   intro l h
   cases c<;>simp only [yx.FV,Option.map_eq_some_iff] at h<;>try (cases h;done)
   obtain ⟨l',h1,rfl⟩:=h
   simp [Cell.ae,ih l' h1]
 cases a with
 |one c=>cases c<;>simp [yx] at h;subst h;rfl
 |agg cs=>
  simp only [yx,Option.map_eq_some_iff] at h
  obtain ⟨l,h1,rfl⟩:=h
  simp [A0.ae,hl cs l h1]
theorem C0 (ρ:Env): ∀(l:List AV) (vs:List Value),G0 l=some vs->l.map (AV.ae ρ)=vs
 | [],vs,h=>by simp only [G0,Option.some.injEq] at h;subst h;rfl
 |x::r,vs,h=>by
  simp only [G0] at h
  split at h
  ·rename_i v l h1 h2
   cases h
   cases x with
   |v a=>simp [AV.ae,PB h1,C0 ρ r l h2]
   |nC l=>simp [aa0] at h1
   |dead=>simp [aa0] at h1
  ·cases h
theorem Sd {x:AV} {q:Ref} (h:aa1 x=some q) (ρ:Env):x.ae ρ=q.ae ρ/\ ∀Kn,x.ok Kn->q.ok Kn:=by
 unfold aa1 at h
 split at h<;>simp at h<;>subst h
 ·exact ⟨rfl,fun _ h=>h⟩
 ·exact ⟨rfl,fun _ h=>h⟩
 ·exact ⟨rfl,fun _ _=>trivial⟩
 ·exact ⟨rfl,fun _ h=>h⟩
 ·exact ⟨rfl,fun _ h=>h⟩
theorem vq (ρ:Env): ∀(l:List AV) (qs:List Ref),G3 l=some qs->l.map (AV.ae ρ)=qs.map (Ref.ae ρ)/\ ∀Kn,(∀x∈l,x.ok Kn)-> ∀q∈qs,q.ok Kn
 | [],qs,h=>by simp only [G3,Option.some.injEq] at h;subst h;exact ⟨rfl,fun _ _ q hq=>absurd hq (by simp)⟩
 |x::r,qs,h=>by
  simp only [G3] at h
  split at h
  ·rename_i v l h1 h2
   cases h
   obtain ⟨e1,k1⟩:=Sd h1 ρ
   obtain ⟨e2,k2⟩:=vq ρ r l h2
   exact ⟨by simp [e1,e2],fun Kn hk q hq=>by
    rcases List.mem_cons.1 hq with rfl|hq
    ·exact k1 Kn (hk x (by simp))
    ·exact k2 Kn (fun y hy=>hk y (by simp [hy])) q hq⟩
  ·cases h
theorem sg (ρ:Env) (q:Ref):(zH q).ae ρ=q.ae ρ:=by
 cases q with
 |ext v=>exact qT v ρ
 |loc n off=>rfl
 |elem n j=>rfl
 |full n=>rfl
 |mp n=>rfl
theorem Od {Kn:Nat->Prop} {q:Ref} (h:q.ok Kn):(zH q).ok Kn:=by cases q<;>first|exact x4 _ _|exact h
theorem nt (ρ:Env) (q:Ref):(zP q).ae ρ=q.ae ρ:=by cases q<;>rfl
theorem FW {Kn:Nat->Prop} {q:Ref} (h:q.ok Kn):(zP q).ok Kn:=by cases q<;>first|trivial|exact h
theorem RN (ρ:Env) (agg:Bool) (rs:List Ref):(Ov agg rs).ae ρ=TG agg (rs.map (Ref.ae ρ)):=by
 unfold Ov TG
 cases agg with
 |true=>simp only [AV.ae,A0.ae,List.map_map];congr 2;exact List.map_congr_left fun q _=>nt ρ q
 |false=>match rs with
  | []=>rfl
  | [r]=>exact nt ρ r
  |_::_::_=>rfl
theorem aan {Kn:Nat->Prop} {agg:Bool} {rs:List Ref} (h: ∀r∈rs,r.ok Kn):(Ov agg rs).ok Kn:=by
 unfold Ov
 cases agg with
 |true=>intro c hc;obtain ⟨r,hr,rfl⟩:=List.mem_map.1 hc;exact FW (h r hr)
 |false=>match rs,h with
  | [],_=>intro a ha;cases ha
  | [r],h=>exact FW (h r (by simp))
  |_::_::_,_=>intro a ha;cases ha
theorem A7 {q:Cell} {g:FuncId} {fs cs:List AV} (h:X4 q=some (g,fs,cs)):
  (∀ρ:Env,q.ae ρ= .func (.func g) (fs.map (AV.ae ρ)).toArray (cs.map (AV.ae ρ)).toArray)/\ ∀Kn,q.ok Kn->(∀x∈fs,x.ok Kn)/\ ∀x∈cs,x.ok Kn:=by
 unfold X4 at h
 split at h
 ·cases h
  rename_i first cap
  refine ⟨fun ρ=> ?_,fun Kn hk=>⟨fun x hx=> ?_,fun x hx=> ?_⟩⟩
  ·have e1:List.map (AV.ae ρ) (first.map ofV)=first:=by rw [List.map_map];exact (List.map_congr_left fun v _=>qT v ρ).trans (List.map_id _)
   have e2:List.map (AV.ae ρ) (cap.map zH)=cap.map (Ref.ae ρ):=by rw [List.map_map];exact List.map_congr_left fun v _=>sg ρ v
   rw [e1,e2];rfl
  ·obtain ⟨v,_,rfl⟩:=List.mem_map.1 hx;exact x4 _ _
  ·obtain ⟨r,hr,rfl⟩:=List.mem_map.1 hx;exact Od (hk r hr)
 ·cases h
  refine ⟨fun ρ=> ?_,fun Kn hk=>⟨fun x hx=> ?_,fun x hx=>by cases hx⟩⟩
  ·simp only [List.map_cons,List.map_nil,RN];rfl
  ·rw [List.mem_singleton] at hx;subst hx;exact aan hk
 ·cases h
theorem yL {c:Cell} {r:Ref} (h:Dt c=some r):(∀ρ:Env,r.ae ρ=c.ae ρ)/\ (∀ρ:Env,(c.ae ρ).oneCell'=true)/\ ∀Kn,c.ok Kn->r.ok Kn:=by
 unfold Dt at h
 split at h
 ·cases h;exact ⟨fun _=>rfl,fun _=>rfl,fun _ h=>h⟩
 ·cases h;exact ⟨fun _=>rfl,fun _=>rfl,fun _ h=>h⟩
 ·split at h
  ·rename_i hv
   cases h;exact ⟨fun _=>rfl,fun ρ=>Cell.ED (c:= .raw _) hv ρ,fun _ _=>trivial⟩
  ·cases h
 ·cases h;exact ⟨fun _=>rfl,fun _=>rfl,fun _ h=>h⟩
 ·cases h;exact ⟨fun _=>rfl,fun _=>rfl,fun _ h=>h⟩
 ·cases h
theorem wQ: ∀ {cs:List Cell} {rs:List Ref},tp cs=some rs->(∀ρ:Env,rs.map (Ref.ae ρ)=cs.map (Cell.ae ρ))/\ ∀Kn,(∀c∈cs,c.ok Kn)-> ∀r∈rs,r.ok Kn
 | [],rs,h=>by simp only [tp,Option.some.injEq] at h;subst h;simp
 |c::l,rs,h=>by
  simp only [tp] at h
  split at h
  ·rename_i x m h1 h2
   cases h
   obtain ⟨e1,e2⟩:=wQ h2
   obtain ⟨e3,_,e4⟩:=yL h1
   refine ⟨fun ρ=>by simp [e1,e3],fun Kn hk r hr=> ?_⟩
   rcases List.mem_cons.1 hr with rfl|hr
   ·exact e4 Kn (hk c (by simp))
   ·exact e2 Kn (fun c hc=>hk c (by simp [hc])) r hr
  ·cases h
theorem Ow {v:AV} {agg:Bool} {rs:List Ref} (h:RP v=some (agg,rs)):(∀ρ:Env,TG agg (rs.map (Ref.ae ρ))=v.ae ρ)/\ ∀Kn,v.ok Kn-> ∀r∈rs,r.ok Kn:=by
 unfold RP at h
 split at h
 ·split at h
  ·rename_i l hl
   cases h
   obtain ⟨e1,e2⟩:=wQ hl
   exact ⟨fun ρ=>by rw [e1];rfl,e2⟩
  ·cases h
 ·split at h
  ·rename_i r hr
   cases h
   obtain ⟨e1,_,e2⟩:=yL hr
   refine ⟨fun ρ=>e1 ρ,fun Kn hk r hr=> ?_⟩
   rw [List.mem_singleton] at hr;subst hr;exact e2 Kn hk
  ·cases h
 ·cases h
end
section
variable {P:Program} {ctx:Ctx} {hp:HP} {nm:Nat} {k:Rec->Prop} {o:Oper} {ev:Operand->AV}
theorem UL (hT:aK P ctx.tt) (hS:KL P ctx) {c:Call} (ho:o.op= .call c) (h:Iu ctx c ev hp nm k): ∃r,bO P ctx.X o ev hp nm r/\ k r:=by
 obtain ⟨callee,args,argTypes⟩:=c
 have hd: ∀c,o.op≠ .defer c:=fun c e=>by rw [ho] at e;cases e
 have hargs: ∀(a:Act) (ρ:Env),(∀x∈o.op.operands,a.eval x=(ev x).ae ρ)->args.map a.eval=((qh ev args.toList).map (AV.ae ρ)).toArray:=by
  intro a ρ he
  apply Array.ext'
  simp only [Array.toList_map,jm,List.map_map]
  refine List.map_congr_left fun x hx=>he x ?_
  rw [ho];simp [Op.operands,Call.operands,Array.mem_toList_iff.1 hx]
 have IQ: ∀Kn,(∀x∈o.op.operands,(ev x).ok Kn)-> ∀x∈qh ev args.toList,x.ok Kn:=by
  intro Kn hk x hx
  rw [jm] at hx
  obtain ⟨y,hy,rfl⟩:=List.mem_map.1 hx
  exact hk y (by rw [ho];simp [Op.operands,Call.operands,Array.mem_toList_iff.1 hy])
 have enter: ∀(g:FuncId) (s:Spec) (full:List AV) (f:Operand) (fnv:AV),callee= .value f->ev f=fnv->aI ctx.specs g=some s->s ctx.X full hp nm k->
   (∀Kn,(∀x∈o.op.operands,(ev x).ok Kn)-> ∀x∈full,x.ok Kn)->
   (∀(a:Act) (ρ:Env) (w:World),(∀x∈o.op.operands,a.eval x=(ev x).ae ρ)->(execOp a.eval o).run P w= .ok (.enter g (full.map (AV.ae ρ)).toArray) w)-> ∃r,bO P ctx.X o ev hp nm r/\ k r:=by
  intro g s full f fnv _ _ hg hs hfk hrun
  obtain ⟨r,hr,hkr⟩:=(hS.sp g s hg).2 ctx.X full hp nm k hs
  refine ⟨r,⟨hr.1,?_⟩,hkr⟩
  intro ro n aq W ρ Kn Γ w a next Q hX he hk ht hf hst kq
  refine ⟨fun _ _=>trivial,?_⟩
  rw [Oper.semAt_eq _ _ _ hd,hrun a ρ w he]
  simp only [Oper.uponIn]
  refine ⟨fun h=>by simp [fw] at h,rB ?_⟩
  refine (hr.2 aq W ρ Kn Γ w hX (hfk Kn hk) ht hf hst).mono ?_
  rintro e w' ⟨ρ',rfl,pZ,HC,jW⟩
  exact kq ρ' w' pZ HC jW
 unfold Iu at h
 dsimp only at h
 split at h
 ·rename_i b
  obtain ⟨r,hr,hkr⟩:=K0 (P:=P) (nm:=nm) hT h o.type (args.map fun| .const _=>true|_=>false)
  refine ⟨r,⟨hr.1,?_⟩,hkr⟩
  intro ro n aq W ρ Kn Γ w a next Q hX he hk ht hf hst kq
  obtain ⟨ρ',w',hrun,pZ,HC,jW⟩:=hr.2 aq W ρ Kn Γ w hX (IQ Kn hk) ht hf hst
  refine ⟨fun _ _=>trivial,?_⟩
  rw [Oper.semAt_eq _ _ _ hd]
  have:(execOp a.eval o).run P w= .ok (.value (r.val.ae ρ')) w':=by
   simp only [execOp,ho,resolve,Sem.run_bind,Sem.run_pure,Result.andThen_ok,invoke]
   rw [hargs a ρ he]
   exact hrun
  rw [this]
  simp only [Oper.uponIn]
  exact kq ρ' w' pZ HC jW
 ·rename_i f
  have Xi:f∈o.op.operands:=by rw [ho];simp [Op.operands,Call.operands]
  split at h
  ·rename_i q mR
   split at h
   ·rename_i g fs cs hq
    obtain ⟨hqc,hqk⟩:=A7 hq
    split at h
    ·rename_i s hg
     refine enter g s _ f _ rfl mR hg h ?_ ?_
     ·intro Kn hk x hx
      have hfk:=hk f Xi
      rw [mR] at hfk
      obtain ⟨k1,k2⟩:=hqk Kn hfk
      rcases List.mem_append.1 hx with hx|hx
      ·rcases List.mem_append.1 hx with hx|hx
       ·exact k1 x hx
       ·exact IQ Kn hk x hx
      ·exact k2 x hx
     ·intro a ρ w he
      have hf:=he f Xi
      rw [mR] at hf
      simp only [execOp,ho,resolve,Sem.run_bind,hf,AV.ae,A0.ae,hqc ρ,Deferred.ofValue,Sem.run_pure,Result.andThen_ok,invoke]
      rw [hargs a ρ he,(hS.sp g s hg).1]
      congr 2
      apply Array.ext'
      simp [List.map_append,-List.map_map]
    ·rw [hS.its] at h
     exact h.elim
   ·split at h
    ·rename_i g first cap hq
     split at h
     ·rename_i s hg
      refine enter g s _ f _ rfl mR hg h ?_ ?_
      ·intro Kn hk x hx
       rcases List.mem_append.1 hx with hx|hx
       ·rcases List.mem_append.1 hx with hx|hx
        ·obtain ⟨v,_,rfl⟩:=List.mem_map.1 hx;exact x4 _ _
        ·exact IQ Kn hk x hx
       ·obtain ⟨q,hq,rfl⟩:=List.mem_map.1 hx;exact x4 _ _
      ·intro a ρ w he
       have hf:=he f Xi
       rw [mR] at hf
       simp only [execOp,ho,resolve,Sem.run_bind,hf,AV.ae,A0.ae,Cell.ae,Deferred.ofValue,Sem.run_pure,Result.andThen_ok,invoke]
       rw [hargs a ρ he,(hS.sp g s hg).1]
       congr 2
       apply Array.ext'
       have e1: ∀l:List Value,List.map (AV.ae ρ) (l.map ofV)=l:=fun l=>by rw [List.map_map];exact (List.map_congr_left fun v _=>qT v ρ).trans (List.map_id _)
       simp [List.map_append,-List.map_map,e1]
     ·exact h.elim
    ·rw [hS.ys] at h
     exact h.elim
    ·exact h.elim
  ·exact h.elim
 ·exact h.elim
theorem DP (hT:aK P ctx.tt) (hS:KL P ctx) (h:DO ctx o.op ev hp nm k): ∃r,bO P ctx.X o ev hp nm r/\ k r:=by
 unfold DO at h
 split at h
 ·rename_i x ho
  exact ⟨_,bO.same (fun c e=>by rw [ho] at e;cases e) (fun Kn hk=>hk x (by rw [ho];simp [Op.operands])) fun a ρ Γ aq W w Kn he _ _=>by simp [execOp,ho,he x (by rw [ho];simp [Op.operands])],h⟩
 ·rename_i x ho
  exact ⟨_,bO.same (fun c e=>by rw [ho] at e;cases e) (fun Kn hk=>hk x (by rw [ho];simp [Op.operands])) fun a ρ Γ aq W w Kn he _ _=>by simp [execOp,ho,he x (by rw [ho];simp [Op.operands])],h⟩
 ·rename_i c x y ho
  split at h
  ·rename_i t hc
   cases t with
   |true=>
    refine ⟨_,bO.same (fun c e=>by rw [ho] at e;cases e) (fun Kn hk=>hk x (by rw [ho];simp [Op.operands])) fun a ρ Γ aq W w Kn he _ _=> ?_,h⟩
    have h1:=he c (by rw [ho];simp [Op.operands])
    rw [hc] at h1
    simp [execOp,ho,h1,AV.ae,A0.ae,Cell.ae,asBool,he x (by rw [ho];simp [Op.operands])]
   |false=>
    refine ⟨_,bO.same (fun c e=>by rw [ho] at e;cases e) (fun Kn hk=>hk y (by rw [ho];simp [Op.operands])) fun a ρ Γ aq W w Kn he _ _=> ?_,h⟩
    have h1:=he c (by rw [ho];simp [Op.operands])
    rw [hc] at h1
    simp [execOp,ho,h1,AV.ae,A0.ae,Cell.ae,asBool,he y (by rw [ho];simp [Op.operands])]
  ·exact h.elim
 ·rename_i t ho
  split at h
  ·rename_i i hi
   exact ⟨_,bO.kC (UC hT hi) (fun _ _=>trivial) (fun c e=>by rw [ho] at e;cases e) fun a ρ he=>by simp [execOp,ho],h⟩
  ·exact h.elim
 ·rename_i t x ho
  split at h
  ·rename_i xs hxs
   exact ⟨_,bO.kC (ab4 hxs (ctx:=ctx)) (fun Kn hk=>hk x (by rw [ho];simp [Op.operands])) (fun c e=>by rw [ho] at e;cases e) fun a ρ he=>by simp [execOp,ho,he x (by rw [ho];simp [Op.operands])],h⟩
  ·exact h.elim
 ·rename_i t parts ho
  split at h
  ·rename_i i hi
   obtain ⟨r,h1,h2⟩:=Qj (nm:=nm) (hp:=hp) hT hi h
   refine ⟨r,bO.kC h1 (fun Kn hk p hp=>hk p.2 ?_) (fun c e=>by rw [ho] at e;cases e) fun a ρ he=> ?_,h2⟩
   ·rw [ho];simp only [Op.operands,List.mem_toArray,List.mem_map];exact ⟨p,hp,rfl⟩
   ·have:(parts.map fun (i,x)=>(i,a.eval x))=parts.map fun (i,x)=>(i,(ev x).ae ρ):=Array.map_congr_left fun p hp=>by
     show (p.1,a.eval p.2)=(p.1,(ev p.2).ae ρ)
     rw [he p.2 (by rw [ho];simp only [Op.operands,List.mem_toArray,List.mem_map];exact ⟨p,Array.mem_toList_iff.2 hp,rfl⟩)]
    simp only [execOp,ho,this]
  ·exact h.elim
 ·rename_i t len parts ho
  split at h
  ·rename_i i hi
   split at h
   ·rename_i h0
    simp only [Bool.and_eq_true,List.isEmpty_iff] at h0
    obtain ⟨r,h1,h2⟩:=HZ (hp:=hp) hT hi h
    refine ⟨r,bO.kC h1 (fun _ _=>trivial) (fun c e=>by rw [ho] at e;cases e) fun a ρ he=> ?_,h2⟩
    have e1:len=0:=Nat.eq_of_beq_eq_true h0.1
    have e2:parts= #[]:=by cases parts;simp_all
    subst e1;subst e2
    simp [execOp,ho]
   obtain ⟨r,h1,h2⟩:=Dc (hp:=hp) hT hi h
   refine ⟨r,bO.kC h1 (fun Kn hk p hp=>hk p.2 ?_) (fun c e=>by rw [ho] at e;cases e) fun a ρ he=> ?_,h2⟩
   ·rw [ho];simp only [Op.operands,List.mem_toArray,List.mem_map];exact ⟨p,hp,rfl⟩
   ·have:(parts.map fun (i,x)=>(i,a.eval x))=parts.map fun (i,x)=>(i,(ev x).ae ρ):=Array.map_congr_left fun p hp=>by
     show (p.1,a.eval p.2)=(p.1,(ev p.2).ae ρ)
     rw [he p.2 (by rw [ho];simp only [Op.operands,List.mem_toArray,List.mem_map];exact ⟨p,Array.mem_toList_iff.2 hp,rfl⟩)]
    simp only [execOp,ho,this]
  ·exact h.elim
 ·rename_i t x ho
  split at h
  ·rename_i i hi
   obtain ⟨r,h1,h2⟩:=VY (nm:=nm) hT hi h
   exact ⟨r,bO.kC h1 (fun Kn hk=>hk x (by rw [ho];simp [Op.operands])) (fun c e=>by rw [ho] at e;cases e) fun a ρ he=>by simp [execOp,ho,he x (by rw [ho];simp [Op.operands])],h2⟩
  ·exact h.elim
 ·rename_i t x y ho
  split at h
  ·rename_i i hi
   obtain ⟨r,h1,h2,h3⟩:=GX (nm:=nm) hT hi h
   exact ⟨r,bO.adD h1 h2 (fun Kn hk=>⟨hk x (by rw [ho];simp [Op.operands]),hk y (by rw [ho];simp [Op.operands])⟩) (fun c e=>by rw [ho] at e;cases e)
    fun a ρ he=>by simp [execOp,ho,he x (by rw [ho];simp [Op.operands]),he y (by rw [ho];simp [Op.operands])],h3⟩
  ·exact h.elim
 ·rename_i x ho
  have Cf:x∈o.op.operands:=by rw [ho];simp [Op.operands]
  split at h
  ·rename_i n off hx
   obtain ⟨⟨ob,mG,dJ⟩,hk⟩:=cU h
   refine ⟨_,bO.same (fun c e=>by rw [ho] at e;cases e) (fun Kn hk=>by have:=hk x Cf;rw [hx] at this;exact this) fun a ρ Γ aq W w Kn he ht hst=> ?_,hk⟩
   obtain ⟨b,hb⟩:=dJ _ _ ρ w (hst.at_ n ob (by rw [ht n (by simp),mG]))
   have h1:=he x Cf
   rw [hx,mA hb] at h1
   simp [execOp,ho,h1,mA hb]
  ·rename_i n off hx
   obtain ⟨⟨ob,mG,dJ⟩,hk⟩:=cU h
   refine ⟨_,bO.same (fun c e=>by rw [ho] at e;cases e) (fun Kn hk=>by have:=hk x Cf;rw [hx] at this;exact this) fun a ρ Γ aq W w Kn he ht hst=> ?_,hk⟩
   obtain ⟨b,hb⟩:=dJ _ _ ρ w (hst.at_ n ob (by rw [ht n (by simp),mG]))
   have h1:=he x Cf
   rw [hx,nE hb] at h1
   simp [execOp,ho,h1,nE hb]
  ·rename_i n j q hx
   split at h
   ·rename_i hrc
    obtain ⟨c,cs,mG⟩:=Je hrc
    refine ⟨_,bO.same (fun c e=>by rw [ho] at e;cases e) (fun Kn hk=>by have:=hk x Cf;rw [hx] at this;exact this) fun a ρ Γ aq W w Kn he ht hst=> ?_,h⟩
    obtain ⟨b,hb⟩:=TE (hst.at_ n (.rc (c::cs)) (by rw [ht n (by simp),mG]))
    have h1:=he x Cf
    rw [hx,gM hb] at h1
    simp [execOp,ho,h1,gM hb]
   obtain ⟨u,l,rk,mG,hj,hk⟩:=dO h
   refine ⟨_,bO.same (fun c e=>by rw [ho] at e;cases e) (fun Kn hk=>by have:=hk x Cf;rw [hx] at this;exact this) fun a ρ Γ aq W w Kn he ht hst=> ?_,hk⟩
   obtain ⟨b,hb⟩:=(rk.2.at (hst.at_ n _ (by rw [ht n (by simp),mG]))).2.2.2 _ hj
   have h1:=he x Cf
   rw [hx,gM hb] at h1
   simp [execOp,ho,h1,gM hb]
  ·rename_i n j q hx
   obtain ⟨u,l,rk,mG,hj,hk⟩:=dO h
   refine ⟨_,bO.same (fun c e=>by rw [ho] at e;cases e) (fun Kn hk=>by have:=hk x Cf;rw [hx] at this;exact this) fun a ρ Γ aq W w Kn he ht hst=> ?_,hk⟩
   obtain ⟨b,hb⟩:=(rk.2.at (hst.at_ n _ (by rw [ht n (by simp),mG]))).2.2.2 _ hj
   have h1:=he x Cf
   rw [hx,n7 hb] at h1
   simp [execOp,ho,h1,n7 hb]
  ·rename_i f first cap hx
   refine ⟨_,bO.same (fun c e=>by rw [ho] at e;cases e) (fun Kn hk=>by have:=hk x Cf;rw [hx] at this;exact this) fun a ρ Γ aq W w Kn he ht hst=> ?_,h⟩
   have h1:=he x Cf
   rw [hx] at h1
   simp [execOp,ho,h1,AV.ae,A0.ae,Cell.ae]
  ·rename_i f agg rs hx
   refine ⟨_,bO.same (fun c e=>by rw [ho] at e;cases e) (fun Kn hk=>by have:=hk x Cf;rw [hx] at this;exact this) fun a ρ Γ aq W w Kn he ht hst=> ?_,h⟩
   have h1:=he x Cf
   rw [hx] at h1
   simp [execOp,ho,h1,AV.ae,A0.ae,Cell.ae]
  ·rename_i b hx
   refine ⟨_,bO.same (fun c e=>by rw [ho] at e;cases e) (fun Kn hk=> ?_) (fun a ρ Γ aq W w Kn he ht hst=> ?_),h⟩
   ·trivial
   have h1:=he x Cf
   rw [hx] at h1
   simp [execOp,ho,h1,AV.ae,A0.ae,Cell.ae]
  ·rename_i f first cap hx
   refine ⟨_,bO.same (fun c e=>by rw [ho] at e;cases e) (fun Kn hk=> ?_) (fun a ρ Γ aq W w Kn he ht hst=> ?_),h⟩
   ·trivial
   have h1:=he x Cf
   rw [hx] at h1
   simp [execOp,ho,h1,AV.ae,A0.ae,Cell.ae]
  ·exact h.elim
 ·rename_i op t x y yt ho
  rw [if_neg (by simp [ndB,hS.its])] at h
  split at h
  ·obtain ⟨r,h1,h2⟩:=aak (nm:=nm) (hp:=hp) (P:=P) (ox:=x) (oy:=y) hT h
   refine ⟨r,bO.kC h1 (fun _ _=>trivial) (fun c e=>by rw [ho] at e;cases e) fun a ρ he=> ?_,h2⟩
   simp [execOp,ho,he x (by rw [ho];simp [Op.operands]),he y (by rw [ho];simp [Op.operands])]
  obtain ⟨r,h1,h2⟩:=XO (nm:=nm) (hp:=hp) (P:=P) (ox:=x) (oy:=y) hT h
  refine ⟨r,bO.kC h1 (fun _ _=>trivial) (fun c e=>by rw [ho] at e;cases e) fun a ρ he=> ?_,h2⟩
  simp [execOp,ho,he x (by rw [ho];simp [Op.operands]),he y (by rw [ho];simp [Op.operands])]
 ·rename_i u t x ho
  have Cf:x∈o.op.operands:=by rw [ho];simp [Op.operands]
  split at h
  ·rename_i kk n hx
   refine ⟨_,bO.same (fun c e=>by rw [ho] at e;cases e) (fun Kn hk=> ?_) (fun a ρ Γ aq W w Kn he ht hst=> ?_),h⟩
   ·trivial
   have h1:=he x Cf
   rw [hx] at h1
   simp [execOp,ho,h1,AV.ae,A0.ae,Cell.ae,Op.unary,Op.intArith,gp]
  ·rename_i b hx
   refine ⟨_,bO.same (fun c e=>by rw [ho] at e;cases e) (fun Kn hk=> ?_) (fun a ρ Γ aq W w Kn he ht hst=> ?_),h⟩
   ·trivial
   have h1:=he x Cf
   rw [hx] at h1
   simp [execOp,ho,h1,AV.ae,A0.ae,Cell.ae,Op.unary,bG]
  ·exact h.elim
 ·rename_i s d x ho
  have Cf:x∈o.op.operands:=by rw [ho];simp [Op.operands]
  split at h
  ·rename_i i0 i hi0 hi
   split at h
   ·rename_i kk k1 n hd hx
    refine ⟨_,bO.same (fun c e=>by rw [ho] at e;cases e) (fun Kn hk=> ?_) (fun a ρ Γ aq W w Kn he ht hst=> ?_),h⟩
    ·trivial
    have h1:=he x Cf
    rw [hx] at h1
    simp [execOp,ho,h1,AV.ae,A0.ae,Cell.ae,convert,hT.u hi0,hT.u hi,hd,Conv.intToInt,gp]
   ·exact h.elim
  ·exact h.elim
 ·rename_i fn first cap ho
  split at h
  ·rename_i f c hf hc
   refine ⟨_,bO.same (fun c e=>by rw [ho] at e;cases e) (fun Kn hk=> ?_) fun a ρ Γ aq W w Kn he ht hst=> ?_,h⟩
   ·refine (vq (fun _=> {}) _ _ hc).2 Kn fun x hx=> ?_
    rw [jm] at hx
    obtain ⟨y,hy,rfl⟩:=List.mem_map.1 hx
    exact hk y (by rw [ho];simp [Op.operands,Array.mem_toList_iff.1 hy])
   ·have e1:first.map a.eval=f.toArray:=by
     apply Array.ext'
     rw [<- C0 ρ _ _ hf,jm]
     simp only [Array.toList_map,List.map_map]
     exact List.map_congr_left fun y hy=>he y (by rw [ho];simp [Op.operands,Array.mem_toList_iff.1 hy])
    have e2:cap.map a.eval=(c.map (Ref.ae ρ)).toArray:=by
     apply Array.ext'
     rw [<- (vq ρ _ _ hc).1,jm]
     simp only [Array.toList_map,List.map_map]
     exact List.map_congr_left fun y hy=>he y (by rw [ho];simp [Op.operands,Array.mem_toList_iff.1 hy])
    simp only [execOp,ho,Instr.makeFunc,e1,e2,AV.ae,A0.ae,Cell.ae]
    rfl
  ·split at h
   ·rename_i g r hfs hcs
    split at h
    ·rename_i agg rs hr
     obtain ⟨hrc,p9⟩:=Ow hr
     have hmem: ∀y∈first.toList,y∈o.op.operands:=fun y hy=>by rw [ho];simp [Op.operands,Array.mem_toList_iff.1 hy]
     rw [jm] at hfs
     obtain ⟨y,hy1⟩: ∃y,first.toList= [y]:=by
      match hm:first.toList,hfs with
      | [y],_=>exact ⟨y,rfl⟩
     have hr1:ev y=r:=by rw [hy1] at hfs;simpa using hfs
     refine ⟨_,bO.same (fun c e=>by rw [ho] at e;cases e) (fun Kn hk=> ?_) fun a ρ Γ aq W w Kn he ht hst=> ?_,h⟩
     ·exact p9 Kn (by rw [<- hr1];exact hk y (hmem y (by rw [hy1];simp)))
     ·have e1:first.map a.eval= #[r.ae ρ]:=by
       apply Array.ext'
       simp only [Array.toList_map,hy1,List.map_cons,List.map_nil]
       rw [he y (hmem y (by rw [hy1];simp)),hr1]
      have e2:cap.map a.eval= #[]:=by
       apply Array.ext'
       simp [Array.toList_map,hcs]
      simp only [execOp,ho,Instr.makeFunc,e1,e2,AV.ae,A0.ae,Cell.ae,hrc ρ]
      rfl
    ·exact h.elim
   ·exact h.elim
 ·rename_i t x lo hh mx ho
  split at h
  ·rename_i i hi
   obtain ⟨r,h1,h2⟩:=R2 (nm:=nm) (P:=P) hT hi h
   refine ⟨r,bO.kC h1 (fun Kn hk=>hk x (by rw [ho];simp [Op.operands])) (fun c e=>by rw [ho] at e;cases e) fun a ρ he=> ?_,h2⟩
   have e: ∀q:Option Operand,(∀y,q=some y->y∈o.op.operands)->q.map a.eval=(q.map ev).map (AV.ae ρ):=by
    intro q hq;cases q with
    |none=>rfl
    |some y=>simp [he y (hq y rfl)]
   rw [execOp,ho]
   simp only
   rw [he x (by rw [ho];simp [Op.operands]),e lo (fun y hy=>by rw [ho];simp [Op.operands,hy]),e hh (fun y hy=>by rw [ho];simp [Op.operands,hy]),e mx (fun y hy=>by rw [ho];simp [Op.operands,hy])]
  ·exact h.elim
 ·rename_i t x y ho
  split at h
  ·rename_i i hi
   obtain ⟨r,h1,h2⟩:=uF (hp:=hp) hT hi h
   exact ⟨r,bO.kC h1 (fun _ _=>trivial) (fun c e=>by rw [ho] at e;cases e) fun a ρ he=>by simp [execOp,ho,he x (by rw [ho];simp [Op.operands]),he y (by rw [ho];simp [Op.operands])],h2⟩
  ·exact h.elim
 ·rename_i t x f ho
  split at h
  ·rename_i i hi
   obtain ⟨r,h1,h2⟩:=ET (nm:=nm) hT hi h
   exact ⟨r,bO.kC h1 (fun Kn hk=>hk x (by rw [ho];simp [Op.operands])) (fun c e=>by rw [ho] at e;cases e) fun a ρ he=>by simp [execOp,ho,he x (by rw [ho];simp [Op.operands])],h2⟩
  ·exact h.elim
 ·rename_i t x f ho
  split at h
  ·rename_i i hi
   obtain ⟨r,h1,h2⟩:=Qy (nm:=nm) (hp:=hp) hT hi h
   exact ⟨r,bO.kC h1 (fun Kn hk=>hk x (by rw [ho];simp [Op.operands])) (fun c e=>by rw [ho] at e;cases e) fun a ρ he=>by simp [execOp,ho,he x (by rw [ho];simp [Op.operands])],h2⟩
  ·exact h.elim
 ·rename_i t x ix ho
  split at h
  ·rename_i i hi
   obtain ⟨r,h1,h2⟩:=Fi (nm:=nm) hT hi h
   exact ⟨r,bO.kC h1 (fun Kn hk=>hk x (by rw [ho];simp [Op.operands])) (fun c e=>by rw [ho] at e;cases e) fun a ρ he=>by simp [execOp,ho,he x (by rw [ho];simp [Op.operands]),he ix (by rw [ho];simp [Op.operands])],h2⟩
  ·exact h.elim
 ·rename_i t x ix ho
  split at h
  ·rename_i i hi
   obtain ⟨r,h1,h2⟩:=Q6 (nm:=nm) (hp:=hp) hT hi h
   exact ⟨r,bO.kC h1 (fun Kn hk=>hk x (by rw [ho];simp [Op.operands])) (fun c e=>by rw [ho] at e;cases e) fun a ρ he=>by simp [execOp,ho,he x (by rw [ho];simp [Op.operands]),he ix (by rw [ho];simp [Op.operands])],h2⟩
  ·exact h.elim
 ·rename_i x i ho
  have Cf:x∈o.op.operands:=by rw [ho];simp [Op.operands]
  split at h
  ·rename_i l hx
   split at h
   ·rename_i v hv
    refine ⟨_,bO.same (fun c e=>by rw [ho] at e;cases e) (fun Kn hk=> ?_) fun a ρ Γ aq W w Kn he ht hst=> ?_,h⟩
    ·have:=hk x Cf;rw [hx] at this;exact this v (List.mem_of_getElem? hv)
    ·have h1:=he x Cf
     rw [hx] at h1
     simp [execOp,ho,h1,AV.ae,Instr.extract,hv]
   ·exact h.elim
  ·exact h.elim
 ·rename_i c ho
  exact UL hT hS ho h
 ·exact h.elim
def OpK (P:Program) (X:Addr->Value->Prop) (o:Oper) (ev:Operand->AV) (hp:HP) (nm:Nat) (k:Rec->Prop):Prop:=
 ∀ro n aq W ρ w a next Q,ru aq W X->(∀x∈o.op.operands,a.eval x=(ev x).ae ρ)->(∀x∈o.op.operands,(ev x).ok (· <nm))->St aq W ρ (· <nm) hp w->
  (∀r ρ' w',k r->(∀p∈r.writes,hp p.1≠none)->(∀m,m<nm->ρ' m=ρ m)->r.val.ok (mH (· <nm) nm r)->St aq W ρ' (mH (· <nm) nm r) (bU r nm hp) w'->next (a.put o.dst (r.val.ae ρ')) w')->
  o.wpIn (fw ro) n P a w next Q
theorem OpK.Z6 {X:Addr->Value->Prop} {r:Rec} (h:bO P X o ev hp nm r) (hk:k r):OpK P X o ev hp nm k:=
 fun ro n aq W ρ w a next Q hX he hv hst hn=>h.2 ro n aq W ρ _ _ w a next Q hX he hv (fun _ _=>rfl) (fun i _=>by omega) hst fun ρ' w' h1 h2 h3=>hn r ρ' w' hk h.1 h1 h2 h3
def NR (ctx:Ctx) (ev:Operand->AV):Op->Bool
 | .call c=>match c.callee with
  | .value f=>match ev f with
   | .v (.one q)=>match X4 q with
    |some (g,_,_)=>(aI ctx.specs g).isNone
    |none=>match q with
     | .HA _=>true
     |_=>false
   |_=>false
  |_=>false
 | .binOp _ _ x y _=>ndB ctx (ev x) (ev y)
 |_=>false
theorem Wl (h:DO ctx o.op ev hp nm k) (hy:NR ctx ev o.op=false):DO {ctx with ys:= [],its:= []} o.op ev hp nm k:=by
 revert h hy
 cases o.op with
 |call c=>
  intro h hy
  simp only [DO,Iu] at h ⊢
  simp only [NR] at hy
  split at h
  ·exact h
  ·rename_i f hc
   rw [hc] at hy
   dsimp only at hy
   split at h
   ·rename_i q mR
    rw [mR] at hy
    dsimp only at hy ⊢
    split at h
    ·rename_i g fs cs hq
     rw [hq] at hy
     dsimp only at hy ⊢
     split at h
     ·rename_i s hs
      exact h
     ·rename_i hs
      rw [hs] at hy;cases hy
    ·rename_i hq
     rw [hq] at hy
     dsimp only at hy ⊢
     split at h
     ·exact h
     ·cases hy
     ·exact h.elim
   ·exact h.elim
  ·exact h.elim
 |binOp op t x y yt=>
  intro h hy
  simp only [NR] at hy
  simp only [DO] at h ⊢
  rw [if_neg (by rw [hy];decide)] at h
  rw [if_neg (by simp [ndB])]
  exact h
 |_=>intro h _;exact h
theorem ai9 (hT:aK P ctx.tt) {op:BinOp} {t:TypeId} {x y:Operand} {yt:TypeId} (ho:o.op= .binOp op t x y yt) (h:agJ ctx op t (ev x) (ev y) hp k):OpK P ctx.X o ev hp nm k:=by
 unfold agJ at h
 split at h
 rotate_left
 ·exact h.elim
 rename_i n hx hy
 split at h
 rotate_left
 ·exact h.elim
 rename_i u l rk i hr hi
 have key: ∀(g:Bool->Bool),(∀(e:TypeId),i.desc= .slice e-> ∀(a:Option Addr) (n1 c1:Nat) (w:World),(binOp op t (.slice a n1 c1) (.slice none 0 0)).run P w= .ok (.bool (g a.isNone)) w)->(∃e,i.desc= .slice e)->(∀b:Bool,(0<l.length->b=false)->k {val:=bG (g b),aD:= [n]})->OpK P ctx.X o ev hp nm k:=by
  intro g hrun ⟨e,hd⟩ hk ro n' aq W ρ w a next Q hX he hok hst kq
  obtain ⟨_,_,_,sub,hm⟩:=hst.at_ n _ hr
  have hb:0<l.length->(ρ n).base.isNone=false:=by
   intro hl
   have hlen:0<(aH sub 0 (ay u l)).length:=by rw [bM,bD];exact Nat.mul_pos hl u.size_pos
   obtain ⟨a',e',_⟩:=hm.1 0 _ (List.getElem?_eq_getElem hlen)
   rw [e'];rfl
  have h1:=he x (by rw [ho];simp [Op.operands])
  have h2:=he y (by rw [ho];simp [Op.operands])
  rw [hx] at h1
  rw [hy] at h2
  have hg:=cZ (P:=P) op t x y (.slice (ρ n).base (ρ n).len (ρ n).cap) (.slice none 0 0) w (by simp) (by simp)
  have Xk:=hrun e hd (ρ n).base (ρ n).len (ρ n).cap w
  have aio:(execOp a.eval o).run P w= .ok (.value (.bool (g (ρ n).base.isNone))) w:=by
   simp [execOp,ho,h1,h2,AV.ae,A0.ae,Cell.ae,hg,Xk]
  refine ⟨fun _ _=>trivial,?_⟩
  rw [Oper.semAt_eq _ _ _ (fun c e=>by rw [ho] at e;cases e),aio]
  simp only [Oper.uponIn]
  exact kq {val:=bG (g (ρ n).base.isNone),aD:= [n]} ρ w (hk _ hb) (fun p hp=>absurd hp (by simp)) (fun _ _=>rfl) (by rw [fh];exact trivial) (by rw [fh,nY];exact hst)
 split at h
 ·rename_i e hd
  exact key id (fun e hd a n1 c1 w=>by simp [binOp,lS hT hi hd]) ⟨e,hd⟩ h
 ·rename_i e hd
  exact key (fun b=> !b) (fun e hd a n1 c1 w=>by simp [binOp,lS hT hi hd]) ⟨e,hd⟩ h
 ·exact h.elim
theorem aje (hT:aK P ctx.tt) (hC:fq P ctx) (h:DO ctx o.op ev hp nm k):OpK P ctx.X o ev hp nm k:=by
 cases hy:NR ctx ev o.op with
 |false=>
  obtain ⟨r,h1,h2⟩:=DP (ctx:= {ctx with ys:= [],its:= []}) hT ⟨hC.sp,rfl,rfl⟩ (Wl h hy)
  exact .Z6 h1 h2
 |true=>
  unfold NR at hy
  split at hy
  ·rename_i c ho
   split at hy
   ·rename_i f hc
    obtain ⟨callee,args,argTypes⟩:=c
    dsimp only at hc
    subst hc
    have hd: ∀c,o.op≠ .defer c:=fun c e=>by rw [ho] at e;cases e
    have hmem: ∀x∈args.toList,x∈o.op.operands:=fun x hx=>by rw [ho];simp [Op.operands,Call.operands,Array.mem_toList_iff.1 hx]
    have Xi:f∈o.op.operands:=by rw [ho];simp [Op.operands,Call.operands]
    have hargs: ∀(a:Act) (ρ:Env),(∀x∈o.op.operands,a.eval x=(ev x).ae ρ)->args.map a.eval=((qh ev args.toList).map (AV.ae ρ)).toArray:=by
     intro a ρ he
     apply Array.ext'
     simp only [Array.toList_map,jm,List.map_map]
     exact List.map_congr_left fun x hx=>he x (hmem x hx)
    have IQ:(∀x∈o.op.operands,(ev x).ok (· <nm))-> ∀x∈qh ev args.toList,x.ok (· <nm):=by
     intro hk x hx
     rw [jm] at hx
     obtain ⟨y,hy,rfl⟩:=List.mem_map.1 hx
     exact hk y (hmem y hy)
    split at hy
    ·rename_i q mR
     rw [ho] at h
     split at hy
     ·rename_i g fs cs hq
      simp only [DO,Iu,mR,hq] at h
      obtain ⟨hqc,hqk⟩:=A7 hq
      split at h
      ·rename_i s hs
       rw [hs] at hy;cases hy
      split at h
      rotate_left
      ·exact h.elim
      rename_i Rh hg
      obtain ⟨Bn,Y7⟩:=hC.its g Rh hg
      intro ro n aq W ρ w a next Q hX he hk hst kq
      obtain ⟨sO,eV,uo⟩:=hst.pinned
      have hlen:(gY hp nm++ [aF.cw ρ nm]).length=nm+1:=by simp [bP]
      have IT: ∀m,hp m≠some .gone:=fun m e=>hst.at_ m _ e
      have hkl: ∀m,(hp m).isSome=true->m<nm:=fun m hm=>by
       obtain ⟨o,ho⟩:=Option.isSome_iff_exists.1 hm
       exact (hst.kn m o ho).1
      have hfk:=hk f Xi
      rw [mR] at hfk
      obtain ⟨k1,k2⟩:=hqk _ hfk
      have hfull: ∀x∈fs++qh ev args.toList++cs,x.ok (· <nm):=fun x hx=>by
       rcases List.mem_append.1 hx with hx|hx
       ·rcases List.mem_append.1 hx with hx|hx
        ·exact k1 x hx
        ·exact IQ hk x hx
       ·exact k2 x hx
      have tV:=Y7 [] _ _ _ (h ρ) (nW.nil P) aq W sO w hX (fun x hx=>AV.aV (fun i hi=>by rw [hlen];omega) x (hfull x hx)) (by rw [hlen];exact uo)
      refine ⟨fun _ _=>trivial,?_⟩
      have hf:=he f Xi
      rw [mR] at hf
      have hrun:(execOp a.eval o).run P w= .ok (.enter g ((fs++qh ev args.toList++cs).map (AV.ae sO)).toArray) w:=by
       simp only [execOp,ho,resolve,Sem.run_bind,hf,AV.ae,A0.ae,hqc ρ,Deferred.ofValue,Sem.run_pure,Result.andThen_ok,invoke]
       rw [hargs a ρ he,Bn]
       congr 2
       apply Array.ext'
       have e0:(fs++qh ev args.toList++cs).map (AV.ae sO)=(fs++qh ev args.toList++cs).map (AV.ae ρ):=List.map_congr_left fun x hx=>AV.bt (Kn:=(· <nm)) eV x (hfull x hx)
       rw [e0]
       simp [List.map_append,-List.map_map]
      rw [Oper.semAt_eq _ _ _ hd,hrun]
      simp only [Oper.uponIn]
      refine ⟨fun h=>by simp [fw] at h,rB ?_⟩
      refine tV.mono ?_
      rintro e w' ⟨st,ρ',v,rfl,HC,hR,jW⟩
      obtain ⟨hp1,hkk⟩:=de hR
      have hlt:=eM hp1
      have pZ: ∀m,m<nm->ρ' m=ρ m:=(jW.at_ _ _ hp1).2
      have DA:=jW.diff (v:=v) hlt IT hkl
      refine kq _ ρ' w' hkk (fun p hp=>zf hp) pZ ?_ DA
      exact AV.aV (fun i hi=>by simp only [mH,yP,List.length_drop,List.length_set];omega) v HC
     ·rename_i hq
      split at hy
      rotate_left
      ·cases hy
      rename_i m
      simp only [DO,Iu,mR,hq] at h
      split at h
      ·rename_i s hg
       have hkk:=hC.ys m s hg ctx.X _ hp nm k h
       intro ro n aq W ρ w a next Q hX he hk hst kq
       obtain ⟨l,g,tmps,assign,body,hl,hrun,agf⟩:=hkk ro (n- 1) aq W ρ w hX (IQ hk) hst
       refine ⟨fun _ _=>trivial,?_⟩
       rw [Oper.semAt_eq _ _ _ hd]
       have:(execOp a.eval o).run P w= .ok (.round l g tmps assign body) w:=by
        have hf:=he f Xi
        rw [mR] at hf
        simp only [execOp,ho,resolve,Sem.run_bind,hf,AV.ae,A0.ae,Cell.ae,hl,Deferred.ofValue,Sem.run_pure,Result.andThen_ok,invoke]
        rw [hargs a ρ he]
        simpa using hrun
       rw [this,Oper.uponIn_round]
       refine ⟨fun h=>by simp [fw] at h,agf.mono ?_⟩
       rintro e w' ⟨r,ρ',hkr,hw,rfl,pZ,HC,jW⟩
       exact kq r ρ' w' hkr hw pZ HC jW
      ·exact h.elim
    ·cases hy
   ·cases hy
  ·rename_i op t x y yt ho
   rw [ho] at h
   simp only [DO] at h
   rw [if_pos hy] at h
   exact ai9 hT ho h
  ·cases hy
end
end Go.Ev
