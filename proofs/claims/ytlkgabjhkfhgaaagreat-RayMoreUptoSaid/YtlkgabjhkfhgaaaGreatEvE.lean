/- Each operation does what 'opE' says; a call does what its contract says. -/
import Derived.Test.YtlkgabjhkfhgaaaGreatEvD6
noncomputable section
set_option linter.unusedSectionVars false
set_option linter.unusedVariables false
set_option linter.unusedSimpArgs false
namespace Go.Ev
open Go.RowKit
def vf (P:Program) (f:FuncId) (X:Addr->Value->Prop) (args:List AV) (hp:HP) (nm:Nat) (r:Rec):Prop:=
 (∀p∈r.writes,hp p.1≠none)/\ ∀ay W ρ Kn Γ w,yw ay W X->(∀x∈args,x.ok Kn)->(∀m∈r.aD,Γ m=hp m)->(∀i,i<r.fresh.length-> ¬Kn (nm+i))->St ay W ρ Kn Γ w->
  Calls P f (args.map (AV.af ρ)).toArray w fun e w'=> ∃ρ',e= .returned (r.val.af ρ')/\ (∀m,Kn m->ρ' m=ρ m)/\ r.val.ok (lK Kn nm r)/\ St ay W ρ' (lK Kn nm r) (bX r nm Γ) w'
def ak (P:Program) (f:FuncId) (s:Spec):Prop:= ∀X args hp nm k,s X args hp nm k-> ∃r,vf P f X args hp nm r/\ k r
def lM (P:Program) (f:FuncId):Prop:= ∀args w,(callFunc f args).run P w= .ok (.enter f args) w
def ah (P:Program) (specs:List (Nat×Spec)):Prop:= ∀f s,aJ specs f=some s->lM P f/\ ak P f s
theorem ah.nil (P:Program):ah P []:=fun _ _ h=>by cases h
theorem ah.cons {P:Program} {f:FuncId} {s:Spec} {l:List (Nat×Spec)} (he:lM P f) (h:ak P f s) (hl:ah P l):ah P ((f,s)::l):=by
 intro g q hg
 unfold aJ at hg
 split at hg
 ·rename_i e;subst e;cases hg;exact ⟨he,h⟩
 ·exact hl g q hg
def aav (P:Program) (n:Nat) (X:Addr->Value->Prop) (args:List AV) (hp:HP) (nm:Nat) (k:Rec->Prop):Prop:=
 ∀ro m ay W ρ w,yw ay W X->(∀x∈args,x.ok (· <nm))->St ay W ρ (· <nm) hp w->
  ∃l f tmps assign body,(ρ n).1=some l/\ (Instr.yield l (args.map (AV.af ρ)).toArray).run P w= .ok (.round l f tmps assign body) w/\
   RoundIn (fw ro) m P l f tmps assign body w fun e w'=> ∃r ρ',k r/\ (∀p∈r.writes,hp p.1≠none)/\ e= .returned (r.val.af ρ')/\ (∀m,m<nm->ρ' m=ρ m)/\ r.val.ok (lK (· <nm) nm r)/\ St ay W ρ' (lK (· <nm) nm r) (bX r nm hp) w'
def vh (P:Program) (ys:List (Nat×Spec)):Prop:= ∀n s,aJ ys n=some s-> ∀X args hp nm k,s X args hp nm k->aav P n X args hp nm k
def jq (P:Program) (X:Addr->Value->Prop) (f:FuncId) (KN:eV):Prop:= ∀ys args heap R,KN ys args heap R->vh P ys-> ∀ay W ρ w,yw ay W X->(∀x∈args,x.ok (· <heap.length))->St ay W ρ (· <heap.length) (aj heap) w->
 Calls P f (args.map (AV.af ρ)).toArray w fun e w'=> ∃st ρ' v,e= .returned (v.af ρ')/\ v.ok (· <st.heap.length)/\ R v st/\ St ay W ρ' (· <st.heap.length) (aj st.heap) w'
def aA (P:Program) (X:Addr->Value->Prop) (dR:List (Nat×eV)):Prop:= ∀f KN,aJ dR f=some KN->lM P f/\ jq P X f KN
structure qE (P:Program) (ctx:Ctx):Prop where
 sp:ah P ctx.specs
 ys:vh P ctx.ys
 dR:aA P ctx.X ctx.dR
structure FJ (P:Program) (ctx:Ctx):Prop where
 sp:ah P ctx.specs
 ys:ctx.ys= []
 dR:ctx.dR= []
theorem vh.nil (P:Program):vh P []:=fun _ _ h=>by cases h
theorem aA.nil (P:Program) (X:Addr->Value->Prop):aA P X []:=fun _ _ h=>by cases h
section
variable (P:Program) (X:Addr->Value->Prop)
def bQ (o:Oper) (ev:Operand->AV) (hp:HP) (nm:Nat) (r:Rec):Prop:=
 (∀p∈r.writes,hp p.1≠none)/\ ∀ro n ay W ρ Kn Γ w a next Q,yw ay W X->(∀x∈o.op.operands,a.eval x=(ev x).af ρ)->(∀x∈o.op.operands,(ev x).ok Kn)->(∀m∈r.aD,Γ m=hp m)->
  (∀i,i<r.fresh.length-> ¬Kn (nm+i))->St ay W ρ Kn Γ w->
  (∀ρ' w',(∀m,Kn m->ρ' m=ρ m)->r.val.ok (lK Kn nm r)->St ay W ρ' (lK Kn nm r) (bX r nm Γ) w'->next (a.put o.dst (r.val.af ρ')) w')->
  o.wpIn (fw ro) n P a w next Q
end
section
variable {P:Program} {X:Addr->Value->Prop} {hp:HP} {nm:Nat} {k:Rec->Prop} {o:Oper} {ev:Operand->AV}
theorem bQ.jE {y8:(Nat->Prop)->Prop} {f:Env->Sem Value} {r:Rec} (hs:aM P X hp nm y8 f (fun ρ=>r.val.af ρ) r)
  (hok: ∀Kn,(∀x∈o.op.operands,(ev x).ok Kn)->y8 Kn) (hd: ∀c,o.op≠ .defer c)
  (hx: ∀(a:Act) (ρ:Env),(∀x∈o.op.operands,a.eval x=(ev x).af ρ)->execOp a.eval o=(do pure (.value (<- f ρ)))):bQ P X o ev hp nm r:=by
 refine ⟨hs.1,?_⟩
 intro ro n ay W ρ Kn Γ w a next Q hX he hk ht hf hst ld
 obtain ⟨ρ',w',hrun,pP,Hf,nk⟩:=hs.2 ay W ρ Kn Γ w hX (hok Kn hk) ht hf hst
 refine ⟨fun _ _=>trivial,?_⟩
 rw [Oper.semAt_eq _ _ _ hd,hx a ρ he]
 simp only [Sem.run_bind,hrun,Result.andThen_ok,Sem.run_pure,Oper.uponIn]
 exact ld ρ' w' pP Hf nk
theorem bQ.UM {y8:(Nat->Prop)->Prop} {f:Env->Sem Unit} {r:Rec} (hs:aM P X hp nm y8 f (fun _=>()) r) (hv:r.val=qo)
  (hok: ∀Kn,(∀x∈o.op.operands,(ev x).ok Kn)->y8 Kn) (hd: ∀c,o.op≠ .defer c)
  (hx: ∀(a:Act) (ρ:Env),(∀x∈o.op.operands,a.eval x=(ev x).af ρ)->execOp a.eval o=(do f ρ;pure .skip)):bQ P X o ev hp nm r:=by
 refine ⟨hs.1,?_⟩
 intro ro n ay W ρ Kn Γ w a next Q hX he hk ht hf hst ld
 obtain ⟨ρ',w',hrun,pP,Hf,nk⟩:=hs.2 ay W ρ Kn Γ w hX (hok Kn hk) ht hf hst
 refine ⟨fun _ _=>trivial,?_⟩
 rw [Oper.semAt_eq _ _ _ hd,hx a ρ he]
 simp only [Sem.run_bind,hrun,Result.andThen_ok,Sem.run_pure,Oper.uponIn]
 have:=ld ρ' w' pP Hf nk
 rw [hv] at this;exact this
theorem bQ.same {v:AV} {tc:List Nat} (hd: ∀c,o.op≠ .defer c) (hv: ∀Kn,(∀x∈o.op.operands,(ev x).ok Kn)->v.ok Kn)
  (hx: ∀(a:Act) (ρ:Env) (Γ:HP) (ay:iT) (W w:World) (Kn:Nat->Prop),(∀x∈o.op.operands,a.eval x=(ev x).af ρ)->(∀m∈tc,Γ m=hp m)->St ay W ρ Kn Γ w->(execOp a.eval o).run P w= .ok (.value (v.af ρ)) w):
  bQ P X o ev hp nm {val:=v,aD:=tc} :=by
 refine ⟨fun p hp=>absurd hp (by simp),?_⟩
 intro ro n ay W ρ Kn Γ w a next Q hX he hk ht hf hst ld
 refine ⟨fun _ _=>trivial,?_⟩
 rw [Oper.semAt_eq _ _ _ hd,hx a ρ Γ ay W w Kn he ht hst]
 simp only [Oper.uponIn]
 exact ld ρ w (fun _ _=>rfl) (by rw [fM];exact hv Kn hk) (by rw [fM,oI];exact hst)
theorem uf {ro:Option Nat} {n:Nat} {f:FuncId} {args:Array Value} {w:World} {R:Ending->World->Prop} (h:Calls P f args w R):CallsIn (fw ro) n P f args w R:=by
 have:=(callsIn_wide (n:=n)).2 h
 exact this
theorem lB (ev:Operand->AV) (l:List Operand):pV ev l=l.map ev:=by induction l<;>simp_all [pV]
theorem JH {a:A0} {v:Value} (h:uX a=some v) (ρ:Env):a.af ρ=v:=by
 have hl: ∀(cs:List Cell) (l:List Value),uX.Cd cs=some l->cs.map (Cell.af ρ)=l:=by
  intro cs
  induction cs with
  |nil=>intro l h;simp only [uX.Cd,Option.some.injEq] at h;subst h;rfl
  |cons c r ih=>
   intro l h
   cases c<;>simp only [uX.Cd,Option.map_eq_some_iff] at h<;>try (cases h;done)
   obtain ⟨l',h1,rfl⟩:=h
   simp [Cell.af,ih l' h1]
 cases a with
 |one c=>cases c<;>simp [uX] at h;subst h;rfl
 |agg cs=>
  simp only [uX,Option.map_eq_some_iff] at h
  obtain ⟨l,h1,rfl⟩:=h
  simp [A0.af,hl cs l h1]
theorem zC (ρ:Env): ∀(l:List AV) (vs:List Value),C2 l=some vs->l.map (AV.af ρ)=vs
 | [],vs,h=>by simp only [C2,Option.some.injEq] at h;subst h;rfl
 |x::r,vs,h=>by
  simp only [C2] at h
  split at h
  ·rename_i v l h1 h2
   cases h
   cases x with
   |v a=>simp [AV.af,JH h1,zC ρ r l h2]
   |oG l=>simp [SP] at h1
   |dead=>simp [SP] at h1
  ·cases h
theorem Lw {x:AV} {q:Ref} (h:SQ x=some q) (ρ:Env):x.af ρ=q.af ρ/\ ∀Kn,x.ok Kn->q.ok Kn:=by
 unfold SQ at h
 split at h<;>simp at h<;>subst h
 ·exact ⟨rfl,fun _ h=>h⟩
 ·exact ⟨rfl,fun _ h=>h⟩
 ·exact ⟨rfl,fun _ _=>trivial⟩
 ·exact ⟨rfl,fun _ h=>h⟩
 ·exact ⟨rfl,fun _ h=>h⟩
theorem sv (ρ:Env): ∀(l:List AV) (qs:List Ref),C3 l=some qs->l.map (AV.af ρ)=qs.map (Ref.af ρ)/\ ∀Kn,(∀x∈l,x.ok Kn)-> ∀q∈qs,q.ok Kn
 | [],qs,h=>by simp only [C3,Option.some.injEq] at h;subst h;exact ⟨rfl,fun _ _ q hq=>absurd hq (by simp)⟩
 |x::r,qs,h=>by
  simp only [C3] at h
  split at h
  ·rename_i v l h1 h2
   cases h
   obtain ⟨e1,k1⟩:=Lw h1 ρ
   obtain ⟨e2,k2⟩:=sv ρ r l h2
   exact ⟨by simp [e1,e2],fun Kn hk q hq=>by
    rcases List.mem_cons.1 hq with rfl|hq
    ·exact k1 Kn (hk x (by simp))
    ·exact k2 Kn (fun y hy=>hk y (by simp [hy])) q hq⟩
  ·cases h
theorem pW (ρ:Env) (q:Ref):(vU q).af ρ=q.af ρ:=by
 cases q with
 |ext v=>exact rS v ρ
 |loc n off=>rfl
 |elem n j=>rfl
 |full n=>rfl
 |mp n=>rfl
theorem ID {Kn:Nat->Prop} {q:Ref} (h:q.ok Kn):(vU q).ok Kn:=by cases q<;>first|exact x5 _ _|exact h
theorem mm (ρ:Env) (q:Ref):(wq q).af ρ=q.af ρ:=by cases q<;>rfl
theorem Cf {Kn:Nat->Prop} {q:Ref} (h:q.ok Kn):(wq q).ok Kn:=by cases q<;>first|trivial|exact h
theorem Lf (ρ:Env) (agg:Bool) (rs:List Ref):(IU agg rs).af ρ=MD agg (rs.map (Ref.af ρ)):=by
 unfold IU MD
 cases agg with
 |true=>simp only [AV.af,A0.af,List.map_map];congr 2;exact List.map_congr_left fun q _=>mm ρ q
 |false=>match rs with
  | []=>rfl
  | [r]=>exact mm ρ r
  |_::_::_=>rfl
theorem Sf {Kn:Nat->Prop} {agg:Bool} {rs:List Ref} (h: ∀r∈rs,r.ok Kn):(IU agg rs).ok Kn:=by
 unfold IU
 cases agg with
 |true=>intro c hc;obtain ⟨r,hr,rfl⟩:=List.mem_map.1 hc;exact Cf (h r hr)
 |false=>match rs,h with
  | [],_=>intro a ha;cases ha
  | [r],h=>exact Cf (h r (by simp))
  |_::_::_,_=>intro a ha;cases ha
theorem xI {q:Cell} {g:FuncId} {fs cs:List AV} (h:P6 q=some (g,fs,cs)):
  (∀ρ:Env,q.af ρ= .func (.func g) (fs.map (AV.af ρ)).toArray (cs.map (AV.af ρ)).toArray)/\ ∀Kn,q.ok Kn->(∀x∈fs,x.ok Kn)/\ ∀x∈cs,x.ok Kn:=by
 unfold P6 at h
 split at h
 ·cases h
  rename_i first cap
  refine ⟨fun ρ=> ?_,fun Kn hk=>⟨fun x hx=> ?_,fun x hx=> ?_⟩⟩
  ·have e1:List.map (AV.af ρ) (first.map UJ)=first:=by rw [List.map_map];exact (List.map_congr_left fun v _=>rS v ρ).trans (List.map_id _)
   have e2:List.map (AV.af ρ) (cap.map vU)=cap.map (Ref.af ρ):=by rw [List.map_map];exact List.map_congr_left fun v _=>pW ρ v
   rw [e1,e2];rfl
  ·obtain ⟨v,_,rfl⟩:=List.mem_map.1 hx;exact x5 _ _
  ·obtain ⟨r,hr,rfl⟩:=List.mem_map.1 hx;exact ID (hk r hr)
 ·cases h
  refine ⟨fun ρ=> ?_,fun Kn hk=>⟨fun x hx=> ?_,fun x hx=>by cases hx⟩⟩
  ·simp only [List.map_cons,List.map_nil,Lf];rfl
  ·rw [List.mem_singleton] at hx;subst hx;exact Sf hk
 ·cases h
theorem vk {c:Cell} {r:Ref} (h:zR c=some r):(∀ρ:Env,r.af ρ=c.af ρ)/\ (∀ρ:Env,(c.af ρ).oneCell'=true)/\ ∀Kn,c.ok Kn->r.ok Kn:=by
 unfold zR at h
 split at h
 ·cases h;exact ⟨fun _=>rfl,fun _=>rfl,fun _ h=>h⟩
 ·cases h;exact ⟨fun _=>rfl,fun _=>rfl,fun _ h=>h⟩
 ·split at h
  ·rename_i hv
   cases h;exact ⟨fun _=>rfl,fun ρ=>Cell.AP (c:= .raw _) hv ρ,fun _ _=>trivial⟩
  ·cases h
 ·cases h;exact ⟨fun _=>rfl,fun _=>rfl,fun _ h=>h⟩
 ·cases h;exact ⟨fun _=>rfl,fun _=>rfl,fun _ h=>h⟩
 ·cases h
theorem tD: ∀ {cs:List Cell} {rs:List Ref},qM cs=some rs->(∀ρ:Env,rs.map (Ref.af ρ)=cs.map (Cell.af ρ))/\ ∀Kn,(∀c∈cs,c.ok Kn)-> ∀r∈rs,r.ok Kn
 | [],rs,h=>by simp only [qM,Option.some.injEq] at h;subst h;simp
 |c::l,rs,h=>by
  simp only [qM] at h
  split at h
  ·rename_i x m h1 h2
   cases h
   obtain ⟨e1,e2⟩:=tD h2
   obtain ⟨e3,_,e4⟩:=vk h1
   refine ⟨fun ρ=>by simp [e1,e3],fun Kn hk r hr=> ?_⟩
   rcases List.mem_cons.1 hr with rfl|hr
   ·exact e4 Kn (hk c (by simp))
   ·exact e2 Kn (fun c hc=>hk c (by simp [hc])) r hr
  ·cases h
theorem IV {v:AV} {agg:Bool} {rs:List Ref} (h:Lg v=some (agg,rs)):(∀ρ:Env,MD agg (rs.map (Ref.af ρ))=v.af ρ)/\ ∀Kn,v.ok Kn-> ∀r∈rs,r.ok Kn:=by
 unfold Lg at h
 split at h
 ·split at h
  ·rename_i l hl
   cases h
   obtain ⟨e1,e2⟩:=tD hl
   exact ⟨fun ρ=>by rw [e1];rfl,e2⟩
  ·cases h
 ·split at h
  ·rename_i r hr
   cases h
   obtain ⟨e1,_,e2⟩:=vk hr
   refine ⟨fun ρ=>e1 ρ,fun Kn hk r hr=> ?_⟩
   rw [List.mem_singleton] at hr;subst hr;exact e2 Kn hk
  ·cases h
 ·cases h
end
section
variable {P:Program} {ctx:Ctx} {hp:HP} {nm:Nat} {k:Rec->Prop} {o:Oper} {ev:Operand->AV}
theorem Np (hT:aO P ctx.tt) (hS:FJ P ctx) {c:Call} (ho:o.op= .call c) (h:D1 ctx c ev hp nm k): ∃r,bQ P ctx.X o ev hp nm r/\ k r:=by
 obtain ⟨callee,args,argTypes⟩:=c
 have hd: ∀c,o.op≠ .defer c:=fun c e=>by rw [ho] at e;cases e
 have hargs: ∀(a:Act) (ρ:Env),(∀x∈o.op.operands,a.eval x=(ev x).af ρ)->args.map a.eval=((pV ev args.toList).map (AV.af ρ)).toArray:=by
  intro a ρ he
  apply Array.ext'
  simp only [Array.toList_map,lB,List.map_map]
  refine List.map_congr_left fun x hx=>he x ?_
  rw [ho];simp [Op.operands,Call.operands,Array.mem_toList_iff.1 hx]
 have Ed: ∀Kn,(∀x∈o.op.operands,(ev x).ok Kn)-> ∀x∈pV ev args.toList,x.ok Kn:=by
  intro Kn hk x hx
  rw [lB] at hx
  obtain ⟨y,hy,rfl⟩:=List.mem_map.1 hx
  exact hk y (by rw [ho];simp [Op.operands,Call.operands,Array.mem_toList_iff.1 hy])
 have enter: ∀(g:FuncId) (s:Spec) (full:List AV) (f:Operand) (fnv:AV),callee= .value f->ev f=fnv->aJ ctx.specs g=some s->s ctx.X full hp nm k->
   (∀Kn,(∀x∈o.op.operands,(ev x).ok Kn)-> ∀x∈full,x.ok Kn)->
   (∀(a:Act) (ρ:Env) (w:World),(∀x∈o.op.operands,a.eval x=(ev x).af ρ)->(execOp a.eval o).run P w= .ok (.enter g (full.map (AV.af ρ)).toArray) w)-> ∃r,bQ P ctx.X o ev hp nm r/\ k r:=by
  intro g s full f fnv _ _ hg hs WO hrun
  obtain ⟨r,hr,YT⟩:=(hS.sp g s hg).2 ctx.X full hp nm k hs
  refine ⟨r,⟨hr.1,?_⟩,YT⟩
  intro ro n ay W ρ Kn Γ w a next Q hX he hk ht hf hst ld
  refine ⟨fun _ _=>trivial,?_⟩
  rw [Oper.semAt_eq _ _ _ hd,hrun a ρ w he]
  simp only [Oper.uponIn]
  refine ⟨fun h=>by simp [fw] at h,uf ?_⟩
  refine (hr.2 ay W ρ Kn Γ w hX (WO Kn hk) ht hf hst).mono ?_
  rintro e w' ⟨ρ',rfl,pP,Hf,nk⟩
  exact ld ρ' w' pP Hf nk
 unfold D1 at h
 dsimp only at h
 split at h
 ·rename_i b
  obtain ⟨r,hr,YT⟩:=FU (P:=P) (nm:=nm) hT h o.type (args.map fun| .const _=>true|_=>false)
  refine ⟨r,⟨hr.1,?_⟩,YT⟩
  intro ro n ay W ρ Kn Γ w a next Q hX he hk ht hf hst ld
  obtain ⟨ρ',w',hrun,pP,Hf,nk⟩:=hr.2 ay W ρ Kn Γ w hX (Ed Kn hk) ht hf hst
  refine ⟨fun _ _=>trivial,?_⟩
  rw [Oper.semAt_eq _ _ _ hd]
  have:(execOp a.eval o).run P w= .ok (.value (r.val.af ρ')) w':=by
   simp only [execOp,ho,resolve,Sem.run_bind,Sem.run_pure,Result.andThen_ok,invoke]
   rw [hargs a ρ he]
   exact hrun
  rw [this]
  simp only [Oper.uponIn]
  exact ld ρ' w' pP Hf nk
 ·rename_i f
  have TX:f∈o.op.operands:=by rw [ho];simp [Op.operands,Call.operands]
  split at h
  ·rename_i q nj
   split at h
   ·rename_i g fs cs hq
    obtain ⟨Y3,Y4⟩:=xI hq
    split at h
    ·rename_i s hg
     refine enter g s _ f _ rfl nj hg h ?_ ?_
     ·intro Kn hk x hx
      have WO:=hk f TX
      rw [nj] at WO
      obtain ⟨k1,k2⟩:=Y4 Kn WO
      rcases List.mem_append.1 hx with hx|hx
      ·rcases List.mem_append.1 hx with hx|hx
       ·exact k1 x hx
       ·exact Ed Kn hk x hx
      ·exact k2 x hx
     ·intro a ρ w he
      have hf:=he f TX
      rw [nj] at hf
      simp only [execOp,ho,resolve,Sem.run_bind,hf,AV.af,A0.af,Y3 ρ,Deferred.ofValue,Sem.run_pure,Result.andThen_ok,invoke]
      rw [hargs a ρ he,(hS.sp g s hg).1]
      congr 2
      apply Array.ext'
      simp [List.map_append,-List.map_map]
    ·rw [hS.dR] at h
     exact h.elim
   ·split at h
    ·rename_i g first cap hq
     split at h
     ·rename_i s hg
      refine enter g s _ f _ rfl nj hg h ?_ ?_
      ·intro Kn hk x hx
       rcases List.mem_append.1 hx with hx|hx
       ·rcases List.mem_append.1 hx with hx|hx
        ·obtain ⟨v,_,rfl⟩:=List.mem_map.1 hx;exact x5 _ _
        ·exact Ed Kn hk x hx
       ·obtain ⟨q,hq,rfl⟩:=List.mem_map.1 hx;exact x5 _ _
      ·intro a ρ w he
       have hf:=he f TX
       rw [nj] at hf
       simp only [execOp,ho,resolve,Sem.run_bind,hf,AV.af,A0.af,Cell.af,Deferred.ofValue,Sem.run_pure,Result.andThen_ok,invoke]
       rw [hargs a ρ he,(hS.sp g s hg).1]
       congr 2
       apply Array.ext'
       have e1: ∀l:List Value,List.map (AV.af ρ) (l.map UJ)=l:=fun l=>by rw [List.map_map];exact (List.map_congr_left fun v _=>rS v ρ).trans (List.map_id _)
       simp [List.map_append,-List.map_map,e1]
     ·exact h.elim
    ·rw [hS.ys] at h
     exact h.elim
    ·exact h.elim
  ·exact h.elim
 ·exact h.elim
theorem GD (hT:aO P ctx.tt) (hS:FJ P ctx) (h:Ah ctx o.op ev hp nm k): ∃r,bQ P ctx.X o ev hp nm r/\ k r:=by
 unfold Ah at h
 split at h
 ·rename_i x ho
  exact ⟨_,bQ.same (fun c e=>by rw [ho] at e;cases e) (fun Kn hk=>hk x (by rw [ho];simp [Op.operands])) fun a ρ Γ ay W w Kn he _ _=>by simp [execOp,ho,he x (by rw [ho];simp [Op.operands])],h⟩
 ·rename_i x ho
  exact ⟨_,bQ.same (fun c e=>by rw [ho] at e;cases e) (fun Kn hk=>hk x (by rw [ho];simp [Op.operands])) fun a ρ Γ ay W w Kn he _ _=>by simp [execOp,ho,he x (by rw [ho];simp [Op.operands])],h⟩
 ·rename_i c x y ho
  split at h
  ·rename_i t hc
   cases t with
   |true=>
    refine ⟨_,bQ.same (fun c e=>by rw [ho] at e;cases e) (fun Kn hk=>hk x (by rw [ho];simp [Op.operands])) fun a ρ Γ ay W w Kn he _ _=> ?_,h⟩
    have h1:=he c (by rw [ho];simp [Op.operands])
    rw [hc] at h1
    simp [execOp,ho,h1,AV.af,A0.af,Cell.af,asBool,he x (by rw [ho];simp [Op.operands])]
   |false=>
    refine ⟨_,bQ.same (fun c e=>by rw [ho] at e;cases e) (fun Kn hk=>hk y (by rw [ho];simp [Op.operands])) fun a ρ Γ ay W w Kn he _ _=> ?_,h⟩
    have h1:=he c (by rw [ho];simp [Op.operands])
    rw [hc] at h1
    simp [execOp,ho,h1,AV.af,A0.af,Cell.af,asBool,he y (by rw [ho];simp [Op.operands])]
  ·exact h.elim
 ·rename_i t ho
  split at h
  ·rename_i i hi
   exact ⟨_,bQ.jE (Nk hT hi) (fun _ _=>trivial) (fun c e=>by rw [ho] at e;cases e) fun a ρ he=>by simp [execOp,ho],h⟩
  ·exact h.elim
 ·rename_i t x ho
  split at h
  ·rename_i xs hxs
   exact ⟨_,bQ.jE (Tx hxs (ctx:=ctx)) (fun Kn hk=>hk x (by rw [ho];simp [Op.operands])) (fun c e=>by rw [ho] at e;cases e) fun a ρ he=>by simp [execOp,ho,he x (by rw [ho];simp [Op.operands])],h⟩
  ·exact h.elim
 ·rename_i t parts ho
  split at h
  ·rename_i i hi
   obtain ⟨r,h1,h2⟩:=J3 (nm:=nm) (hp:=hp) hT hi h
   refine ⟨r,bQ.jE h1 (fun Kn hk p hp=>hk p.2 ?_) (fun c e=>by rw [ho] at e;cases e) fun a ρ he=> ?_,h2⟩
   ·rw [ho];simp only [Op.operands,List.mem_toArray,List.mem_map];exact ⟨p,hp,rfl⟩
   ·have:(parts.map fun (i,x)=>(i,a.eval x))=parts.map fun (i,x)=>(i,(ev x).af ρ):=Array.map_congr_left fun p hp=>by
     show (p.1,a.eval p.2)=(p.1,(ev p.2).af ρ)
     rw [he p.2 (by rw [ho];simp only [Op.operands,List.mem_toArray,List.mem_map];exact ⟨p,Array.mem_toList_iff.2 hp,rfl⟩)]
    simp only [execOp,ho,this]
  ·exact h.elim
 ·rename_i t len parts ho
  split at h
  ·rename_i i hi
   split at h
   ·rename_i h0
    simp only [Bool.and_eq_true,List.isEmpty_iff] at h0
    obtain ⟨r,h1,h2⟩:=DF (hp:=hp) hT hi h
    refine ⟨r,bQ.jE h1 (fun _ _=>trivial) (fun c e=>by rw [ho] at e;cases e) fun a ρ he=> ?_,h2⟩
    have e1:len=0:=Nat.eq_of_beq_eq_true h0.1
    have e2:parts= #[]:=by cases parts;simp_all
    subst e1;subst e2
    simp [execOp,ho]
   obtain ⟨r,h1,h2⟩:=zH (hp:=hp) hT hi h
   refine ⟨r,bQ.jE h1 (fun Kn hk p hp=>hk p.2 ?_) (fun c e=>by rw [ho] at e;cases e) fun a ρ he=> ?_,h2⟩
   ·rw [ho];simp only [Op.operands,List.mem_toArray,List.mem_map];exact ⟨p,hp,rfl⟩
   ·have:(parts.map fun (i,x)=>(i,a.eval x))=parts.map fun (i,x)=>(i,(ev x).af ρ):=Array.map_congr_left fun p hp=>by
     show (p.1,a.eval p.2)=(p.1,(ev p.2).af ρ)
     rw [he p.2 (by rw [ho];simp only [Op.operands,List.mem_toArray,List.mem_map];exact ⟨p,Array.mem_toList_iff.2 hp,rfl⟩)]
    simp only [execOp,ho,this]
  ·exact h.elim
 ·rename_i t x ho
  split at h
  ·rename_i i hi
   obtain ⟨r,h1,h2⟩:=Oy (nm:=nm) hT hi h
   exact ⟨r,bQ.jE h1 (fun Kn hk=>hk x (by rw [ho];simp [Op.operands])) (fun c e=>by rw [ho] at e;cases e) fun a ρ he=>by simp [execOp,ho,he x (by rw [ho];simp [Op.operands])],h2⟩
  ·exact h.elim
 ·rename_i t x y ho
  split at h
  ·rename_i i hi
   obtain ⟨r,h1,h2,h3⟩:=Lt (nm:=nm) hT hi h
   exact ⟨r,bQ.UM h1 h2 (fun Kn hk=>⟨hk x (by rw [ho];simp [Op.operands]),hk y (by rw [ho];simp [Op.operands])⟩) (fun c e=>by rw [ho] at e;cases e)
    fun a ρ he=>by simp [execOp,ho,he x (by rw [ho];simp [Op.operands]),he y (by rw [ho];simp [Op.operands])],h3⟩
  ·exact h.elim
 ·rename_i x ho
  have yL:x∈o.op.operands:=by rw [ho];simp [Op.operands]
  split at h
  ·rename_i n off hx
   obtain ⟨⟨ob,lJ,dU⟩,hk⟩:=cM h
   refine ⟨_,bQ.same (fun c e=>by rw [ho] at e;cases e) (fun Kn hk=>by have:=hk x yL;rw [hx] at this;exact this) fun a ρ Γ ay W w Kn he ht hst=> ?_,hk⟩
   obtain ⟨b,hb⟩:=dU _ _ ρ w (hst.at_ n ob (by rw [ht n (by simp),lJ]))
   have h1:=he x yL
   rw [hx,lF hb] at h1
   simp [execOp,ho,h1,lF hb]
  ·rename_i n off hx
   obtain ⟨⟨ob,lJ,dU⟩,hk⟩:=cM h
   refine ⟨_,bQ.same (fun c e=>by rw [ho] at e;cases e) (fun Kn hk=>by have:=hk x yL;rw [hx] at this;exact this) fun a ρ Γ ay W w Kn he ht hst=> ?_,hk⟩
   obtain ⟨b,hb⟩:=dU _ _ ρ w (hst.at_ n ob (by rw [ht n (by simp),lJ]))
   have h1:=he x yL
   rw [hx,mz hb] at h1
   simp [execOp,ho,h1,mz hb]
  ·rename_i n j q hx
   split at h
   ·rename_i hrc
    obtain ⟨c,cs,lJ⟩:=Ey hrc
    refine ⟨_,bQ.same (fun c e=>by rw [ho] at e;cases e) (fun Kn hk=>by have:=hk x yL;rw [hx] at this;exact this) fun a ρ Γ ay W w Kn he ht hst=> ?_,h⟩
    obtain ⟨b,hb⟩:=MB (hst.at_ n (.rc (c::cs)) (by rw [ht n (by simp),lJ]))
    have h1:=he x yL
    rw [hx,gk hb] at h1
    simp [execOp,ho,h1,gk hb]
   obtain ⟨u,l,rk,lJ,hj,hk⟩:=dx h
   refine ⟨_,bQ.same (fun c e=>by rw [ho] at e;cases e) (fun Kn hk=>by have:=hk x yL;rw [hx] at this;exact this) fun a ρ Γ ay W w Kn he ht hst=> ?_,hk⟩
   obtain ⟨b,hb⟩:=(rk.2.at (hst.at_ n _ (by rw [ht n (by simp),lJ]))).2.2.2 _ hj
   have h1:=he x yL
   rw [hx,gk hb] at h1
   simp [execOp,ho,h1,gk hb]
  ·rename_i n j q hx
   obtain ⟨u,l,rk,lJ,hj,hk⟩:=dx h
   refine ⟨_,bQ.same (fun c e=>by rw [ho] at e;cases e) (fun Kn hk=>by have:=hk x yL;rw [hx] at this;exact this) fun a ρ Γ ay W w Kn he ht hst=> ?_,hk⟩
   obtain ⟨b,hb⟩:=(rk.2.at (hst.at_ n _ (by rw [ht n (by simp),lJ]))).2.2.2 _ hj
   have h1:=he x yL
   rw [hx,mL hb] at h1
   simp [execOp,ho,h1,mL hb]
  ·rename_i f first cap hx
   refine ⟨_,bQ.same (fun c e=>by rw [ho] at e;cases e) (fun Kn hk=>by have:=hk x yL;rw [hx] at this;exact this) fun a ρ Γ ay W w Kn he ht hst=> ?_,h⟩
   have h1:=he x yL
   rw [hx] at h1
   simp [execOp,ho,h1,AV.af,A0.af,Cell.af]
  ·rename_i f agg rs hx
   refine ⟨_,bQ.same (fun c e=>by rw [ho] at e;cases e) (fun Kn hk=>by have:=hk x yL;rw [hx] at this;exact this) fun a ρ Γ ay W w Kn he ht hst=> ?_,h⟩
   have h1:=he x yL
   rw [hx] at h1
   simp [execOp,ho,h1,AV.af,A0.af,Cell.af]
  ·rename_i b hx
   refine ⟨_,bQ.same (fun c e=>by rw [ho] at e;cases e) (fun Kn hk=> ?_) (fun a ρ Γ ay W w Kn he ht hst=> ?_),h⟩
   ·trivial
   have h1:=he x yL
   rw [hx] at h1
   simp [execOp,ho,h1,AV.af,A0.af,Cell.af]
  ·rename_i f first cap hx
   refine ⟨_,bQ.same (fun c e=>by rw [ho] at e;cases e) (fun Kn hk=> ?_) (fun a ρ Γ ay W w Kn he ht hst=> ?_),h⟩
   ·trivial
   have h1:=he x yL
   rw [hx] at h1
   simp [execOp,ho,h1,AV.af,A0.af,Cell.af]
  ·exact h.elim
 ·rename_i op t x y yt ho
  rw [if_neg (by simp [ndB,hS.dR])] at h
  split at h
  ·obtain ⟨r,h1,h2⟩:=Sc (nm:=nm) (hp:=hp) (P:=P) (ox:=x) (oy:=y) hT h
   refine ⟨r,bQ.jE h1 (fun _ _=>trivial) (fun c e=>by rw [ho] at e;cases e) fun a ρ he=> ?_,h2⟩
   simp [execOp,ho,he x (by rw [ho];simp [Op.operands]),he y (by rw [ho];simp [Op.operands])]
  obtain ⟨r,h1,h2⟩:=PL (nm:=nm) (hp:=hp) (P:=P) (ox:=x) (oy:=y) hT h
  refine ⟨r,bQ.jE h1 (fun _ _=>trivial) (fun c e=>by rw [ho] at e;cases e) fun a ρ he=> ?_,h2⟩
  simp [execOp,ho,he x (by rw [ho];simp [Op.operands]),he y (by rw [ho];simp [Op.operands])]
 ·rename_i u t x ho
  have yL:x∈o.op.operands:=by rw [ho];simp [Op.operands]
  split at h
  ·rename_i kk n hx
   refine ⟨_,bQ.same (fun c e=>by rw [ho] at e;cases e) (fun Kn hk=> ?_) (fun a ρ Γ ay W w Kn he ht hst=> ?_),h⟩
   ·trivial
   have h1:=he x yL
   rw [hx] at h1
   simp [execOp,ho,h1,AV.af,A0.af,Cell.af,Op.unary,Op.intArith,fT]
  ·rename_i b hx
   refine ⟨_,bQ.same (fun c e=>by rw [ho] at e;cases e) (fun Kn hk=> ?_) (fun a ρ Γ ay W w Kn he ht hst=> ?_),h⟩
   ·trivial
   have h1:=he x yL
   rw [hx] at h1
   simp [execOp,ho,h1,AV.af,A0.af,Cell.af,Op.unary,bC]
  ·exact h.elim
 ·rename_i s d x ho
  have yL:x∈o.op.operands:=by rw [ho];simp [Op.operands]
  split at h
  ·rename_i i0 i hi0 hi
   split at h
   ·rename_i kk k1 n hd hx
    refine ⟨_,bQ.same (fun c e=>by rw [ho] at e;cases e) (fun Kn hk=> ?_) (fun a ρ Γ ay W w Kn he ht hst=> ?_),h⟩
    ·trivial
    have h1:=he x yL
    rw [hx] at h1
    simp [execOp,ho,h1,AV.af,A0.af,Cell.af,convert,hT.u hi0,hT.u hi,hd,Conv.intToInt,fT]
   ·exact h.elim
  ·exact h.elim
 ·rename_i fn first cap ho
  split at h
  ·rename_i f c hf hc
   refine ⟨_,bQ.same (fun c e=>by rw [ho] at e;cases e) (fun Kn hk=> ?_) fun a ρ Γ ay W w Kn he ht hst=> ?_,h⟩
   ·refine (sv (fun _=> {}) _ _ hc).2 Kn fun x hx=> ?_
    rw [lB] at hx
    obtain ⟨y,hy,rfl⟩:=List.mem_map.1 hx
    exact hk y (by rw [ho];simp [Op.operands,Array.mem_toList_iff.1 hy])
   ·have e1:first.map a.eval=f.toArray:=by
     apply Array.ext'
     rw [<- zC ρ _ _ hf,lB]
     simp only [Array.toList_map,List.map_map]
     exact List.map_congr_left fun y hy=>he y (by rw [ho];simp [Op.operands,Array.mem_toList_iff.1 hy])
    have e2:cap.map a.eval=(c.map (Ref.af ρ)).toArray:=by
     apply Array.ext'
     rw [<- (sv ρ _ _ hc).1,lB]
     simp only [Array.toList_map,List.map_map]
     exact List.map_congr_left fun y hy=>he y (by rw [ho];simp [Op.operands,Array.mem_toList_iff.1 hy])
    simp only [execOp,ho,Instr.makeFunc,e1,e2,AV.af,A0.af,Cell.af]
    rfl
  ·split at h
   ·rename_i g r WQ hcs
    split at h
    ·rename_i agg rs hr
     obtain ⟨hrc,oa⟩:=IV hr
     have hmem: ∀y∈first.toList,y∈o.op.operands:=fun y hy=>by rw [ho];simp [Op.operands,Array.mem_toList_iff.1 hy]
     rw [lB] at WQ
     obtain ⟨y,hy1⟩: ∃y,first.toList= [y]:=by
      match hm:first.toList,WQ with
      | [y],_=>exact ⟨y,rfl⟩
     have hr1:ev y=r:=by rw [hy1] at WQ;simpa using WQ
     refine ⟨_,bQ.same (fun c e=>by rw [ho] at e;cases e) (fun Kn hk=> ?_) fun a ρ Γ ay W w Kn he ht hst=> ?_,h⟩
     ·exact oa Kn (by rw [<- hr1];exact hk y (hmem y (by rw [hy1];simp)))
     ·have e1:first.map a.eval= #[r.af ρ]:=by
       apply Array.ext'
       simp only [Array.toList_map,hy1,List.map_cons,List.map_nil]
       rw [he y (hmem y (by rw [hy1];simp)),hr1]
      have e2:cap.map a.eval= #[]:=by
       apply Array.ext'
       simp [Array.toList_map,hcs]
      simp only [execOp,ho,Instr.makeFunc,e1,e2,AV.af,A0.af,Cell.af,hrc ρ]
      rfl
    ·exact h.elim
   ·exact h.elim
 ·rename_i t x lo hh mx ho
  split at h
  ·rename_i i hi
   obtain ⟨r,h1,h2⟩:=Ll (nm:=nm) (P:=P) hT hi h
   refine ⟨r,bQ.jE h1 (fun Kn hk=>hk x (by rw [ho];simp [Op.operands])) (fun c e=>by rw [ho] at e;cases e) fun a ρ he=> ?_,h2⟩
   have e: ∀q:Option Operand,(∀y,q=some y->y∈o.op.operands)->q.map a.eval=(q.map ev).map (AV.af ρ):=by
    intro q hq;cases q with
    |none=>rfl
    |some y=>simp [he y (hq y rfl)]
   rw [execOp,ho]
   simp only
   rw [he x (by rw [ho];simp [Op.operands]),e lo (fun y hy=>by rw [ho];simp [Op.operands,hy]),e hh (fun y hy=>by rw [ho];simp [Op.operands,hy]),e mx (fun y hy=>by rw [ho];simp [Op.operands,hy])]
  ·exact h.elim
 ·rename_i t x y ho
  split at h
  ·rename_i i hi
   obtain ⟨r,h1,h2⟩:=rM (hp:=hp) hT hi h
   exact ⟨r,bQ.jE h1 (fun _ _=>trivial) (fun c e=>by rw [ho] at e;cases e) fun a ρ he=>by simp [execOp,ho,he x (by rw [ho];simp [Op.operands]),he y (by rw [ho];simp [Op.operands])],h2⟩
  ·exact h.elim
 ·rename_i t x f ho
  split at h
  ·rename_i i hi
   obtain ⟨r,h1,h2⟩:=A3 (nm:=nm) hT hi h
   exact ⟨r,bQ.jE h1 (fun Kn hk=>hk x (by rw [ho];simp [Op.operands])) (fun c e=>by rw [ho] at e;cases e) fun a ρ he=>by simp [execOp,ho,he x (by rw [ho];simp [Op.operands])],h2⟩
  ·exact h.elim
 ·rename_i t x f ho
  split at h
  ·rename_i i hi
   obtain ⟨r,h1,h2⟩:=Kg (nm:=nm) (hp:=hp) hT hi h
   exact ⟨r,bQ.jE h1 (fun Kn hk=>hk x (by rw [ho];simp [Op.operands])) (fun c e=>by rw [ho] at e;cases e) fun a ρ he=>by simp [execOp,ho,he x (by rw [ho];simp [Op.operands])],h2⟩
  ·exact h.elim
 ·rename_i t x ix ho
  split at h
  ·rename_i i hi
   obtain ⟨r,h1,h2⟩:=Bo (nm:=nm) hT hi h
   exact ⟨r,bQ.jE h1 (fun Kn hk=>hk x (by rw [ho];simp [Op.operands])) (fun c e=>by rw [ho] at e;cases e) fun a ρ he=>by simp [execOp,ho,he x (by rw [ho];simp [Op.operands]),he ix (by rw [ho];simp [Op.operands])],h2⟩
  ·exact h.elim
 ·rename_i t x ix ho
  split at h
  ·rename_i i hi
   obtain ⟨r,h1,h2⟩:=KD (nm:=nm) (hp:=hp) hT hi h
   exact ⟨r,bQ.jE h1 (fun Kn hk=>hk x (by rw [ho];simp [Op.operands])) (fun c e=>by rw [ho] at e;cases e) fun a ρ he=>by simp [execOp,ho,he x (by rw [ho];simp [Op.operands]),he ix (by rw [ho];simp [Op.operands])],h2⟩
  ·exact h.elim
 ·rename_i x i ho
  have yL:x∈o.op.operands:=by rw [ho];simp [Op.operands]
  split at h
  ·rename_i l hx
   split at h
   ·rename_i v hv
    refine ⟨_,bQ.same (fun c e=>by rw [ho] at e;cases e) (fun Kn hk=> ?_) fun a ρ Γ ay W w Kn he ht hst=> ?_,h⟩
    ·have:=hk x yL;rw [hx] at this;exact this v (List.mem_of_getElem? hv)
    ·have h1:=he x yL
     rw [hx] at h1
     simp [execOp,ho,h1,AV.af,Instr.extract,hv]
   ·exact h.elim
  ·exact h.elim
 ·rename_i c ho
  exact Np hT hS ho h
 ·exact h.elim
def Yf (P:Program) (X:Addr->Value->Prop) (o:Oper) (ev:Operand->AV) (hp:HP) (nm:Nat) (k:Rec->Prop):Prop:=
 ∀ro n ay W ρ w a next Q,yw ay W X->(∀x∈o.op.operands,a.eval x=(ev x).af ρ)->(∀x∈o.op.operands,(ev x).ok (· <nm))->St ay W ρ (· <nm) hp w->
  (∀r ρ' w',k r->(∀p∈r.writes,hp p.1≠none)->(∀m,m<nm->ρ' m=ρ m)->r.val.ok (lK (· <nm) nm r)->St ay W ρ' (lK (· <nm) nm r) (bX r nm hp) w'->next (a.put o.dst (r.val.af ρ')) w')->
  o.wpIn (fw ro) n P a w next Q
theorem Yf.Xu {X:Addr->Value->Prop} {r:Rec} (h:bQ P X o ev hp nm r) (hk:k r):Yf P X o ev hp nm k:=
 fun ro n ay W ρ w a next Q hX he hv hst hn=>h.2 ro n ay W ρ _ _ w a next Q hX he hv (fun _ _=>rfl) (fun i _=>by omega) hst fun ρ' w' h1 h2 h3=>hn r ρ' w' hk h.1 h1 h2 h3
def Ir (ctx:Ctx) (ev:Operand->AV):Op->Bool
 | .call c=>match c.callee with
  | .value f=>match ev f with
   | .v (.one q)=>match P6 q with
    |some (g,_,_)=>(aJ ctx.specs g).isNone
    |none=>match q with
     | .Hl _=>true
     |_=>false
   |_=>false
  |_=>false
 | .binOp _ _ x y _=>ndB ctx (ev x) (ev y)
 |_=>false
theorem OR (h:Ah ctx o.op ev hp nm k) (hy:Ir ctx ev o.op=false):Ah {ctx with ys:= [],dR:= []} o.op ev hp nm k:=by
 revert h hy
 cases o.op with
 |call c=>
  intro h hy
  simp only [Ah,D1] at h ⊢
  simp only [Ir] at hy
  split at h
  ·exact h
  ·rename_i f hc
   rw [hc] at hy
   dsimp only at hy
   split at h
   ·rename_i q nj
    rw [nj] at hy
    dsimp only at hy ⊢
    split at h
    ·rename_i g fs cs hq
     rw [hq] at hy
     dsimp only at hy ⊢
     split at h
     ·rename_i s hs
      exact h
     ·rename_i hs
      rw [hs] at hy;cases hy
    ·rename_i hq
     rw [hq] at hy
     dsimp only at hy ⊢
     split at h
     ·exact h
     ·cases hy
     ·exact h.elim
   ·exact h.elim
  ·exact h.elim
 |binOp op t x y yt=>
  intro h hy
  simp only [Ir] at hy
  simp only [Ah] at h ⊢
  rw [if_neg (by rw [hy];decide)] at h
  rw [if_neg (by simp [ndB])]
  exact h
 |_=>intro h _;exact h
theorem Zr (hT:aO P ctx.tt) {op:BinOp} {t:TypeId} {x y:Operand} {yt:TypeId} (ho:o.op= .binOp op t x y yt) (h:Xp ctx op t (ev x) (ev y) hp k):Yf P ctx.X o ev hp nm k:=by
 unfold Xp at h
 split at h
 rotate_left
 ·exact h.elim
 rename_i n hx hy
 split at h
 rotate_left
 ·exact h.elim
 rename_i u l rk i hr hi
 have key: ∀(g:Bool->Bool),(∀(e:TypeId),i.desc= .slice e-> ∀(a:Option Addr) (n1 c1:Nat) (w:World),(binOp op t (.slice a n1 c1) (.slice none 0 0)).run P w= .ok (.bool (g a.isNone)) w)->(∃e,i.desc= .slice e)->(∀b:Bool,(0<l.length->b=false)->k {val:=bC (g b),aD:= [n]})->Yf P ctx.X o ev hp nm k:=by
  intro g hrun ⟨e,hd⟩ hk ro n' ay W ρ w a next Q hX he hok hst ld
  obtain ⟨_,_,_,sub,hm⟩:=hst.at_ n _ hr
  have hb:0<l.length->(ρ n).base.isNone=false:=by
   intro hl
   have hlen:0<(aE sub 0 (ax u l)).length:=by rw [bM,bw];exact Nat.mul_pos hl u.size_pos
   obtain ⟨a',e',_⟩:=hm.1 0 _ (List.getElem?_eq_getElem hlen)
   rw [e'];rfl
  have h1:=he x (by rw [ho];simp [Op.operands])
  have h2:=he y (by rw [ho];simp [Op.operands])
  rw [hx] at h1
  rw [hy] at h2
  have hg:=cQ (P:=P) op t x y (.slice (ρ n).base (ρ n).len (ρ n).cap) (.slice none 0 0) w (by simp) (by simp)
  have Z8:=hrun e hd (ρ n).base (ρ n).len (ρ n).cap w
  have YM:(execOp a.eval o).run P w= .ok (.value (.bool (g (ρ n).base.isNone))) w:=by
   simp [execOp,ho,h1,h2,AV.af,A0.af,Cell.af,hg,Z8]
  refine ⟨fun _ _=>trivial,?_⟩
  rw [Oper.semAt_eq _ _ _ (fun c e=>by rw [ho] at e;cases e),YM]
  simp only [Oper.uponIn]
  exact ld {val:=bC (g (ρ n).base.isNone),aD:= [n]} ρ w (hk _ hb) (fun p hp=>absurd hp (by simp)) (fun _ _=>rfl) (by rw [fM];exact trivial) (by rw [fM,oI];exact hst)
 split at h
 ·rename_i e hd
  exact key id (fun e hd a n1 c1 w=>by simp [binOp,kQ hT hi hd]) ⟨e,hd⟩ h
 ·rename_i e hd
  exact key (fun b=> !b) (fun e hd a n1 c1 w=>by simp [binOp,kQ hT hi hd]) ⟨e,hd⟩ h
 ·exact h.elim
theorem Zx (hT:aO P ctx.tt) (hC:qE P ctx) (h:Ah ctx o.op ev hp nm k):Yf P ctx.X o ev hp nm k:=by
 cases hy:Ir ctx ev o.op with
 |false=>
  obtain ⟨r,h1,h2⟩:=GD (ctx:= {ctx with ys:= [],dR:= []}) hT ⟨hC.sp,rfl,rfl⟩ (OR h hy)
  exact .Xu h1 h2
 |true=>
  unfold Ir at hy
  split at hy
  ·rename_i c ho
   split at hy
   ·rename_i f hc
    obtain ⟨callee,args,argTypes⟩:=c
    dsimp only at hc
    subst hc
    have hd: ∀c,o.op≠ .defer c:=fun c e=>by rw [ho] at e;cases e
    have hmem: ∀x∈args.toList,x∈o.op.operands:=fun x hx=>by rw [ho];simp [Op.operands,Call.operands,Array.mem_toList_iff.1 hx]
    have TX:f∈o.op.operands:=by rw [ho];simp [Op.operands,Call.operands]
    have hargs: ∀(a:Act) (ρ:Env),(∀x∈o.op.operands,a.eval x=(ev x).af ρ)->args.map a.eval=((pV ev args.toList).map (AV.af ρ)).toArray:=by
     intro a ρ he
     apply Array.ext'
     simp only [Array.toList_map,lB,List.map_map]
     exact List.map_congr_left fun x hx=>he x (hmem x hx)
    have Ed:(∀x∈o.op.operands,(ev x).ok (· <nm))-> ∀x∈pV ev args.toList,x.ok (· <nm):=by
     intro hk x hx
     rw [lB] at hx
     obtain ⟨y,hy,rfl⟩:=List.mem_map.1 hx
     exact hk y (hmem y hy)
    split at hy
    ·rename_i q nj
     rw [ho] at h
     split at hy
     ·rename_i g fs cs hq
      simp only [Ah,D1,nj,hq] at h
      obtain ⟨Y3,Y4⟩:=xI hq
      split at h
      ·rename_i s hs
       rw [hs] at hy;cases hy
      split at h
      rotate_left
      ·exact h.elim
      rename_i KN hg
      obtain ⟨TW,QH⟩:=hC.dR g KN hg
      intro ro n ay W ρ w a next Q hX he hk hst ld
      obtain ⟨xB,gC,Kw⟩:=hst.pinned
      have hlen:(iB hp nm++ [aF.dO ρ nm]).length=nm+1:=by simp [bS]
      have Eg: ∀m,hp m≠some .gone:=fun m e=>hst.at_ m _ e
      have Z4: ∀m,(hp m).isSome=true->m<nm:=fun m hm=>by
       obtain ⟨o,ho⟩:=Option.isSome_iff_exists.1 hm
       exact (hst.kn m o ho).1
      have WO:=hk f TX
      rw [nj] at WO
      obtain ⟨k1,k2⟩:=Y4 _ WO
      have hfull: ∀x∈fs++pV ev args.toList++cs,x.ok (· <nm):=fun x hx=>by
       rcases List.mem_append.1 hx with hx|hx
       ·rcases List.mem_append.1 hx with hx|hx
        ·exact k1 x hx
        ·exact Ed hk x hx
       ·exact k2 x hx
      have Bc:=QH [] _ _ _ (h ρ) (vh.nil P) ay W xB w hX (fun x hx=>AV.aT (fun i hi=>by rw [hlen];omega) x (hfull x hx)) (by rw [hlen];exact Kw)
      refine ⟨fun _ _=>trivial,?_⟩
      have hf:=he f TX
      rw [nj] at hf
      have hrun:(execOp a.eval o).run P w= .ok (.enter g ((fs++pV ev args.toList++cs).map (AV.af xB)).toArray) w:=by
       simp only [execOp,ho,resolve,Sem.run_bind,hf,AV.af,A0.af,Y3 ρ,Deferred.ofValue,Sem.run_pure,Result.andThen_ok,invoke]
       rw [hargs a ρ he,TW]
       congr 2
       apply Array.ext'
       have e0:(fs++pV ev args.toList++cs).map (AV.af xB)=(fs++pV ev args.toList++cs).map (AV.af ρ):=List.map_congr_left fun x hx=>AV.bH (Kn:=(· <nm)) gC x (hfull x hx)
       rw [e0]
       simp [List.map_append,-List.map_map]
      rw [Oper.semAt_eq _ _ _ hd,hrun]
      simp only [Oper.uponIn]
      refine ⟨fun h=>by simp [fw] at h,uf ?_⟩
      refine Bc.mono ?_
      rintro e w' ⟨st,ρ',v,rfl,Hf,hR,nk⟩
      obtain ⟨hp1,hkk⟩:=fK hR
      have hlt:=eo hp1
      have pP: ∀m,m<nm->ρ' m=ρ m:=(nk.at_ _ _ hp1).2
      have Ee:=nk.diff (v:=v) hlt Eg Z4
      refine ld _ ρ' w' hkk (fun p hp=>vC hp) pP ?_ Ee
      exact AV.aT (fun i hi=>by simp only [lK,vo,List.length_drop,List.length_set];omega) v Hf
     ·rename_i hq
      split at hy
      rotate_left
      ·cases hy
      rename_i m
      simp only [Ah,D1,nj,hq] at h
      split at h
      ·rename_i s hg
       have hkk:=hC.ys m s hg ctx.X _ hp nm k h
       intro ro n ay W ρ w a next Q hX he hk hst ld
       obtain ⟨l,g,tmps,assign,body,hl,hrun,W4⟩:=hkk ro (n- 1) ay W ρ w hX (Ed hk) hst
       refine ⟨fun _ _=>trivial,?_⟩
       rw [Oper.semAt_eq _ _ _ hd]
       have:(execOp a.eval o).run P w= .ok (.round l g tmps assign body) w:=by
        have hf:=he f TX
        rw [nj] at hf
        simp only [execOp,ho,resolve,Sem.run_bind,hf,AV.af,A0.af,Cell.af,hl,Deferred.ofValue,Sem.run_pure,Result.andThen_ok,invoke]
        rw [hargs a ρ he]
        simpa using hrun
       rw [this,Oper.uponIn_round]
       refine ⟨fun h=>by simp [fw] at h,W4.mono ?_⟩
       rintro e w' ⟨r,ρ',YT,hw,rfl,pP,Hf,nk⟩
       exact ld r ρ' w' YT hw pP Hf nk
      ·exact h.elim
    ·cases hy
   ·cases hy
  ·rename_i op t x y yt ho
   rw [ho] at h
   simp only [Ah] at h
   rw [if_pos hy] at h
   exact Zr hT ho h
  ·cases hy
end
end Go.Ev
