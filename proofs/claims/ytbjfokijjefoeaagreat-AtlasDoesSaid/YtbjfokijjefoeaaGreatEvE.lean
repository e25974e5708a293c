/- Each operation does what 'opE' says; a call does what its contract says. -/
import Derived.Test.YtbjfokijjefoeaaGreatEvD4
import Derived.Test.YtbjfokijjefoeaaGreatEvD6
noncomputable section
set_option linter.unusedSectionVars false
set_option linter.unusedVariables false
set_option linter.unusedSimpArgs false
namespace Go.Ev
open Go.RowKit
def aaW (P:Program) (f:FuncId) (X:Addr->Value->Prop) (args:List AV) (hp:HP) (nm:Nat) (r:Rec):Prop:=
 (∀p∈r.writes,hp p.1≠none)/\ ∀ax W ρ Kn Γ w,Dy ax W X->(∀x∈args,x.ok Kn)->(∀m∈r.aC,Γ m=hp m)->(∀i,i<r.fresh.length-> ¬Kn (nm+i))->St ax W ρ Kn Γ w->
  Calls P f (args.map (AV.af ρ)).toArray w fun e w'=> ∃ρ',e= .returned (r.val.af ρ')/\ (∀m,Kn m->ρ' m=ρ m)/\ r.val.ok (jO Kn nm r)/\ St ax W ρ' (jO Kn nm r) (bC r nm Γ) w'
def ah (P:Program) (f:FuncId) (s:Spec):Prop:= ∀X args hp nm k,s X args hp nm k-> ∃r,aaW P f X args hp nm r/\ k r
def kY (P:Program) (f:FuncId):Prop:= ∀args w,(callFunc f args).run P w= .ok (.enter f args) w
def ae (P:Program) (specs:List (Nat×Spec)):Prop:= ∀f s,aG specs f=some s->kY P f/\ ah P f s
theorem ae.nil (P:Program):ae P []:=fun _ _ h=>by cases h
theorem ae.cons {P:Program} {f:FuncId} {s:Spec} {l:List (Nat×Spec)} (he:kY P f) (h:ah P f s) (hl:ae P l):ae P ((f,s)::l):=by
 intro g q hg
 unfold aG at hg
 split at hg
 ·rename_i e;subst e;cases hg;exact ⟨he,h⟩
 ·exact hl g q hg
def ahu (P:Program) (n:Nat) (X:Addr->Value->Prop) (args:List AV) (hp:HP) (nm:Nat) (k:Rec->Prop):Prop:=
 ∀ro m ax W ρ w,Dy ax W X->(∀x∈args,x.ok (· <nm))->St ax W ρ (· <nm) hp w->
  ∃l f tmps assign body,(ρ n).1=some l/\ (Instr.yield l (args.map (AV.af ρ)).toArray).run P w= .ok (.round l f tmps assign body) w/\
   RoundIn (fw ro) m P l f tmps assign body w fun e w'=> ∃r ρ',k r/\ (∀p∈r.writes,hp p.1≠none)/\ e= .returned (r.val.af ρ')/\ (∀m,m<nm->ρ' m=ρ m)/\ r.val.ok (jO (· <nm) nm r)/\ St ax W ρ' (jO (· <nm) nm r) (bC r nm hp) w'
def y9 (P:Program) (ys:List (Nat×Spec)):Prop:= ∀n s,aG ys n=some s-> ∀X args hp nm k,s X args hp nm k->ahu P n X args hp nm k
def kZ (P:Program) (X:Addr->Value->Prop) (f:FuncId) (RR:jM):Prop:= ∀ys args heap R,RR ys args heap R->y9 P ys-> ∀ax W ρ w,Dy ax W X->(∀x∈args,x.ok (· <heap.length))->St ax W ρ (· <heap.length) (aq heap) w->
 Calls P f (args.map (AV.af ρ)).toArray w fun e w'=> ∃st ρ' v,e= .returned (v.af ρ')/\ v.ok (· <st.heap.length)/\ R v st/\ St ax W ρ' (· <st.heap.length) (aq st.heap) w'
def av (P:Program) (X:Addr->Value->Prop) (dL:List (Nat×jM)):Prop:= ∀f RR,aG dL f=some RR->kY P f/\ kZ P X f RR
structure qx (P:Program) (ctx:Ctx):Prop where
 sp:ae P ctx.specs
 ys:y9 P ctx.ys
 dL:av P ctx.X ctx.dL
structure QU (P:Program) (ctx:Ctx):Prop where
 sp:ae P ctx.specs
 ys:ctx.ys= []
 dL:ctx.dL= []
theorem y9.nil (P:Program):y9 P []:=fun _ _ h=>by cases h
theorem av.nil (P:Program) (X:Addr->Value->Prop):av P X []:=fun _ _ h=>by cases h
section
variable (P:Program) (X:Addr->Value->Prop)
def bU (o:Oper) (ev:Operand->AV) (hp:HP) (nm:Nat) (r:Rec):Prop:=
 (∀p∈r.writes,hp p.1≠none)/\ ∀ro n ax W ρ Kn Γ w a next Q,Dy ax W X->(∀x∈o.op.operands,a.eval x=(ev x).af ρ)->(∀x∈o.op.operands,(ev x).ok Kn)->(∀m∈r.aC,Γ m=hp m)->
  (∀i,i<r.fresh.length-> ¬Kn (nm+i))->St ax W ρ Kn Γ w->
  (∀ρ' w',(∀m,Kn m->ρ' m=ρ m)->r.val.ok (jO Kn nm r)->St ax W ρ' (jO Kn nm r) (bC r nm Γ) w'->next (a.put o.dst (r.val.af ρ')) w')->
  o.wpIn (fw ro) n P a w next Q
end
section
variable {P:Program} {X:Addr->Value->Prop} {hp:HP} {nm:Nat} {k:Rec->Prop} {o:Oper} {ev:Operand->AV}
theorem bU.jf {D3:(Nat->Prop)->Prop} {f:Env->Sem Value} {r:Rec} (hs:aK P X hp nm D3 f (fun ρ=>r.val.af ρ) r)
  (hok: ∀Kn,(∀x∈o.op.operands,(ev x).ok Kn)->D3 Kn) (hd: ∀c,o.op≠ .defer c)
  (hx: ∀(a:Act) (ρ:Env),(∀x∈o.op.operands,a.eval x=(ev x).af ρ)->execOp a.eval o=(do pure (.value (<- f ρ)))):bU P X o ev hp nm r:=by
 refine ⟨hs.1,?_⟩
 intro ro n ax W ρ Kn Γ w a next Q hX he hk ht hf hst iN
 obtain ⟨ρ',w',hrun,oS,NZ,yg⟩:=hs.2 ax W ρ Kn Γ w hX (hok Kn hk) ht hf hst
 refine ⟨fun _ _=>trivial,?_⟩
 rw [Oper.semAt_eq _ _ _ hd,hx a ρ he]
 simp only [Sem.run_bind,hrun,Result.andThen_ok,Sem.run_pure,Oper.uponIn]
 exact iN ρ' w' oS NZ yg
theorem bU.FC {D3:(Nat->Prop)->Prop} {f:Env->Sem Unit} {r:Rec} (hs:aK P X hp nm D3 f (fun _=>()) r) (hv:r.val=aX)
  (hok: ∀Kn,(∀x∈o.op.operands,(ev x).ok Kn)->D3 Kn) (hd: ∀c,o.op≠ .defer c)
  (hx: ∀(a:Act) (ρ:Env),(∀x∈o.op.operands,a.eval x=(ev x).af ρ)->execOp a.eval o=(do f ρ;pure .skip)):bU P X o ev hp nm r:=by
 refine ⟨hs.1,?_⟩
 intro ro n ax W ρ Kn Γ w a next Q hX he hk ht hf hst iN
 obtain ⟨ρ',w',hrun,oS,NZ,yg⟩:=hs.2 ax W ρ Kn Γ w hX (hok Kn hk) ht hf hst
 refine ⟨fun _ _=>trivial,?_⟩
 rw [Oper.semAt_eq _ _ _ hd,hx a ρ he]
 simp only [Sem.run_bind,hrun,Result.andThen_ok,Sem.run_pure,Oper.uponIn]
 have:=iN ρ' w' oS NZ yg
 rw [hv] at this;exact this
theorem bU.same {v:AV} {tc:List Nat} (hd: ∀c,o.op≠ .defer c) (hv: ∀Kn,(∀x∈o.op.operands,(ev x).ok Kn)->v.ok Kn)
  (hx: ∀(a:Act) (ρ:Env) (Γ:HP) (ax:kz) (W w:World) (Kn:Nat->Prop),(∀x∈o.op.operands,a.eval x=(ev x).af ρ)->(∀m∈tc,Γ m=hp m)->St ax W ρ Kn Γ w->(execOp a.eval o).run P w= .ok (.value (v.af ρ)) w):
  bU P X o ev hp nm {val:=v,aC:=tc} :=by
 refine ⟨fun p hp=>absurd hp (by simp),?_⟩
 intro ro n ax W ρ Kn Γ w a next Q hX he hk ht hf hst iN
 refine ⟨fun _ _=>trivial,?_⟩
 rw [Oper.semAt_eq _ _ _ hd,hx a ρ Γ ax W w Kn he ht hst]
 simp only [Oper.uponIn]
 exact iN ρ w (fun _ _=>rfl) (by rw [gH];exact hv Kn hk) (by rw [gH,si];exact hst)
theorem zb {ro:Option Nat} {n:Nat} {f:FuncId} {args:Array Value} {w:World} {R:Ending->World->Prop} (h:Calls P f args w R):CallsIn (fw ro) n P f args w R:=by
 have:=(callsIn_wide (n:=n)).2 h
 exact this
theorem nX (ev:Operand->AV) (l:List Operand):tG ev l=l.map ev:=by induction l<;>simp_all [tG]
theorem QG {a:A0} {v:Value} (h:z6 a=some v) (ρ:Env):a.af ρ=v:=by
 have hl: ∀(cs:List Cell) (l:List Value),z6.Ij cs=some l->cs.map (Cell.af ρ)=l:=by
  intro cs
  induction cs with
  |nil=>intro l h;simp only [z6.Ij,Option.some.injEq] at h;subst h;rfl
  |cons c r ih=>
   intro l h
   cases c<;>simp only [z6.Ij,Option.map_eq_some_iff] at h<;>try (cases h;done)
   obtain ⟨l',h1,rfl⟩:=h
   simp [Cell.af,ih l' h1]
 cases a with
 |one c=>cases c<;>simp [z6] at h;subst h;rfl
 |agg cs=>
  simp only [z6,Option.map_eq_some_iff] at h
  obtain ⟨l,h1,rfl⟩:=h
  simp [A0.af,hl cs l h1]
theorem E2 (ρ:Env): ∀(l:List AV) (vs:List Value),Jb l=some vs->l.map (AV.af ρ)=vs
 | [],vs,h=>by simp only [Jb,Option.some.injEq] at h;subst h;rfl
 |x::r,vs,h=>by
  simp only [Jb] at h
  split at h
  ·rename_i v l h1 h2
   cases h
   cases x with
   |v a=>simp [AV.af,QG h1,E2 ρ r l h2]
   |r7 l=>simp [aaH] at h1
   |dead=>simp [aaH] at h1
  ·cases h
theorem Tw {x:AV} {q:Ref} (h:aaI x=some q) (ρ:Env):x.af ρ=q.af ρ/\ ∀Kn,x.ok Kn->q.ok Kn:=by
 unfold aaI at h
 split at h<;>simp at h<;>subst h
 ·exact ⟨rfl,fun _ h=>h⟩
 ·exact ⟨rfl,fun _ h=>h⟩
 ·exact ⟨rfl,fun _ _=>trivial⟩
 ·exact ⟨rfl,fun _ h=>h⟩
 ·exact ⟨rfl,fun _ h=>h⟩
theorem wX (ρ:Env): ∀(l:List AV) (qs:List Ref),Jc l=some qs->l.map (AV.af ρ)=qs.map (Ref.af ρ)/\ ∀Kn,(∀x∈l,x.ok Kn)-> ∀q∈qs,q.ok Kn
 | [],qs,h=>by simp only [Jc,Option.some.injEq] at h;subst h;exact ⟨rfl,fun _ _ q hq=>absurd hq (by simp)⟩
 |x::r,qs,h=>by
  simp only [Jc] at h
  split at h
  ·rename_i v l h1 h2
   cases h
   obtain ⟨e1,k1⟩:=Tw h1 ρ
   obtain ⟨e2,k2⟩:=wX ρ r l h2
   exact ⟨by simp [e1,e2],fun Kn hk q hq=>by
    rcases List.mem_cons.1 hq with rfl|hq
    ·exact k1 Kn (hk x (by simp))
    ·exact k2 Kn (fun y hy=>hk y (by simp [hy])) q hq⟩
  ·cases h
theorem tL (ρ:Env) (q:Ref):(A6 q).af ρ=q.af ρ:=by
 cases q with
 |ext v=>exact wg v ρ
 |loc n off=>rfl
 |elem n j=>rfl
 |full n=>rfl
 |mp n=>rfl
theorem O9 {Kn:Nat->Prop} {q:Ref} (h:q.ok Kn):(A6 q).ok Kn:=by cases q<;>first|exact C8 _ _|exact h
theorem pD (ρ:Env) (q:Ref):(BD q).af ρ=q.af ρ:=by cases q<;>rfl
theorem Il {Kn:Nat->Prop} {q:Ref} (h:q.ok Kn):(BD q).ok Kn:=by cases q<;>first|trivial|exact h
theorem S2 (ρ:Env) (agg:Bool) (rs:List Ref):(P3 agg rs).af ρ=Uu agg (rs.map (Ref.af ρ)):=by
 unfold P3 Uu
 cases agg with
 |true=>simp only [AV.af,A0.af,List.map_map];congr 2;exact List.map_congr_left fun q _=>pD ρ q
 |false=>match rs with
  | []=>rfl
  | [r]=>exact pD ρ r
  |_::_::_=>rfl
theorem Z3 {Kn:Nat->Prop} {agg:Bool} {rs:List Ref} (h: ∀r∈rs,r.ok Kn):(P3 agg rs).ok Kn:=by
 unfold P3
 cases agg with
 |true=>intro c hc;obtain ⟨r,hr,rfl⟩:=List.mem_map.1 hc;exact Il (h r hr)
 |false=>match rs,h with
  | [],_=>intro a ha;cases ha
  | [r],h=>exact Il (h r (by simp))
  |_::_::_,_=>intro a ha;cases ha
theorem J8 {q:Cell} {g:FuncId} {fs cs:List AV} (h:aa8 q=some (g,fs,cs)):
  (∀ρ:Env,q.af ρ= .func (.func g) (fs.map (AV.af ρ)).toArray (cs.map (AV.af ρ)).toArray)/\ ∀Kn,q.ok Kn->(∀x∈fs,x.ok Kn)/\ ∀x∈cs,x.ok Kn:=by
 unfold aa8 at h
 split at h
 ·cases h
  rename_i first cap
  refine ⟨fun ρ=> ?_,fun Kn hk=>⟨fun x hx=> ?_,fun x hx=> ?_⟩⟩
  ·have e1:List.map (AV.af ρ) (first.map ofV)=first:=by rw [List.map_map];exact (List.map_congr_left fun v _=>wg v ρ).trans (List.map_id _)
   have e2:List.map (AV.af ρ) (cap.map A6)=cap.map (Ref.af ρ):=by rw [List.map_map];exact List.map_congr_left fun v _=>tL ρ v
   rw [e1,e2];rfl
  ·obtain ⟨v,_,rfl⟩:=List.mem_map.1 hx;exact C8 _ _
  ·obtain ⟨r,hr,rfl⟩:=List.mem_map.1 hx;exact O9 (hk r hr)
 ·cases h
  refine ⟨fun ρ=> ?_,fun Kn hk=>⟨fun x hx=> ?_,fun x hx=>by cases hx⟩⟩
  ·simp only [List.map_cons,List.map_nil,S2];rfl
  ·rw [List.mem_singleton] at hx;subst hx;exact Z3 hk
 ·cases h
theorem Ai {c:Cell} {r:Ref} (h:Fo c=some r):(∀ρ:Env,r.af ρ=c.af ρ)/\ (∀ρ:Env,(c.af ρ).oneCell'=true)/\ ∀Kn,c.ok Kn->r.ok Kn:=by
 unfold Fo at h
 split at h
 ·cases h;exact ⟨fun _=>rfl,fun _=>rfl,fun _ h=>h⟩
 ·cases h;exact ⟨fun _=>rfl,fun _=>rfl,fun _ h=>h⟩
 ·split at h
  ·rename_i hv
   cases h;exact ⟨fun _=>rfl,fun ρ=>Cell.Gf (c:= .raw _) hv ρ,fun _ _=>trivial⟩
  ·cases h
 ·cases h;exact ⟨fun _=>rfl,fun _=>rfl,fun _ h=>h⟩
 ·cases h;exact ⟨fun _=>rfl,fun _=>rfl,fun _ h=>h⟩
 ·cases h
theorem yo: ∀ {cs:List Cell} {rs:List Ref},vx cs=some rs->(∀ρ:Env,rs.map (Ref.af ρ)=cs.map (Cell.af ρ))/\ ∀Kn,(∀c∈cs,c.ok Kn)-> ∀r∈rs,r.ok Kn
 | [],rs,h=>by simp only [vx,Option.some.injEq] at h;subst h;simp
 |c::l,rs,h=>by
  simp only [vx] at h
  split at h
  ·rename_i x m h1 h2
   cases h
   obtain ⟨e1,e2⟩:=yo h2
   obtain ⟨e3,_,e4⟩:=Ai h1
   refine ⟨fun ρ=>by simp [e1,e3],fun Kn hk r hr=> ?_⟩
   rcases List.mem_cons.1 hr with rfl|hr
   ·exact e4 Kn (hk c (by simp))
   ·exact e2 Kn (fun c hc=>hk c (by simp [hc])) r hr
  ·cases h
theorem P4 {v:AV} {agg:Bool} {rs:List Ref} (h:S3 v=some (agg,rs)):(∀ρ:Env,Uu agg (rs.map (Ref.af ρ))=v.af ρ)/\ ∀Kn,v.ok Kn-> ∀r∈rs,r.ok Kn:=by
 unfold S3 at h
 split at h
 ·split at h
  ·rename_i l hl
   cases h
   obtain ⟨e1,e2⟩:=yo hl
   exact ⟨fun ρ=>by rw [e1];rfl,e2⟩
  ·cases h
 ·split at h
  ·rename_i r hr
   cases h
   obtain ⟨e1,_,e2⟩:=Ai hr
   refine ⟨fun ρ=>e1 ρ,fun Kn hk r hr=> ?_⟩
   rw [List.mem_singleton] at hr;subst hr;exact e2 Kn hk
  ·cases h
 ·cases h
end
section
variable {P:Program} {ctx:Ctx} {hp:HP} {nm:Nat} {k:Rec->Prop} {o:Oper} {ev:Operand->AV}
theorem Vj (hT:aU P ctx.tt) (hS:QU P ctx) {c:Call} (ho:o.op= .call c) (h:J6 ctx c ev hp nm k): ∃r,bU P ctx.X o ev hp nm r/\ k r:=by
 obtain ⟨callee,args,argTypes⟩:=c
 have hd: ∀c,o.op≠ .defer c:=fun c e=>by rw [ho] at e;cases e
 have hargs: ∀(a:Act) (ρ:Env),(∀x∈o.op.operands,a.eval x=(ev x).af ρ)->args.map a.eval=((tG ev args.toList).map (AV.af ρ)).toArray:=by
  intro a ρ he
  apply Array.ext'
  simp only [Array.toList_map,nX,List.map_map]
  refine List.map_congr_left fun x hx=>he x ?_
  rw [ho];simp [Op.operands,Call.operands,Array.mem_toList_iff.1 hx]
 have Kp: ∀Kn,(∀x∈o.op.operands,(ev x).ok Kn)-> ∀x∈tG ev args.toList,x.ok Kn:=by
  intro Kn hk x hx
  rw [nX] at hx
  obtain ⟨y,hy,rfl⟩:=List.mem_map.1 hx
  exact hk y (by rw [ho];simp [Op.operands,Call.operands,Array.mem_toList_iff.1 hy])
 have enter: ∀(g:FuncId) (s:Spec) (full:List AV) (f:Operand) (fnv:AV),callee= .value f->ev f=fnv->aG ctx.specs g=some s->s ctx.X full hp nm k->
   (∀Kn,(∀x∈o.op.operands,(ev x).ok Kn)-> ∀x∈full,x.ok Kn)->
   (∀(a:Act) (ρ:Env) (w:World),(∀x∈o.op.operands,a.eval x=(ev x).af ρ)->(execOp a.eval o).run P w= .ok (.enter g (full.map (AV.af ρ)).toArray) w)-> ∃r,bU P ctx.X o ev hp nm r/\ k r:=by
  intro g s full f fnv _ _ hg hs hfk hrun
  obtain ⟨r,hr,hkr⟩:=(hS.sp g s hg).2 ctx.X full hp nm k hs
  refine ⟨r,⟨hr.1,?_⟩,hkr⟩
  intro ro n ax W ρ Kn Γ w a next Q hX he hk ht hf hst iN
  refine ⟨fun _ _=>trivial,?_⟩
  rw [Oper.semAt_eq _ _ _ hd,hrun a ρ w he]
  simp only [Oper.uponIn]
  refine ⟨fun h=>by simp [fw] at h,zb ?_⟩
  refine (hr.2 ax W ρ Kn Γ w hX (hfk Kn hk) ht hf hst).mono ?_
  rintro e w' ⟨ρ',rfl,oS,NZ,yg⟩
  exact iN ρ' w' oS NZ yg
 unfold J6 at h
 dsimp only at h
 split at h
 ·rename_i b
  obtain ⟨r,hr,hkr⟩:=Mw (P:=P) (nm:=nm) hT h o.type (args.map fun| .const _=>true|_=>false)
  refine ⟨r,⟨hr.1,?_⟩,hkr⟩
  intro ro n ax W ρ Kn Γ w a next Q hX he hk ht hf hst iN
  obtain ⟨ρ',w',hrun,oS,NZ,yg⟩:=hr.2 ax W ρ Kn Γ w hX (Kp Kn hk) ht hf hst
  refine ⟨fun _ _=>trivial,?_⟩
  rw [Oper.semAt_eq _ _ _ hd]
  have:(execOp a.eval o).run P w= .ok (.value (r.val.af ρ')) w':=by
   simp only [execOp,ho,resolve,Sem.run_bind,Sem.run_pure,Result.andThen_ok,invoke]
   rw [hargs a ρ he]
   exact hrun
  rw [this]
  simp only [Oper.uponIn]
  exact iN ρ' w' oS NZ yg
 ·rename_i f
  have hfm:f∈o.op.operands:=by rw [ho];simp [Op.operands,Call.operands]
  split at h
  ·rename_i q Jx
   split at h
   ·rename_i g fs cs hq
    obtain ⟨hqc,hqk⟩:=J8 hq
    split at h
    ·rename_i s hg
     refine enter g s _ f _ rfl Jx hg h ?_ ?_
     ·intro Kn hk x hx
      have hfk:=hk f hfm
      rw [Jx] at hfk
      obtain ⟨k1,k2⟩:=hqk Kn hfk
      rcases List.mem_append.1 hx with hx|hx
      ·rcases List.mem_append.1 hx with hx|hx
       ·exact k1 x hx
       ·exact Kp Kn hk x hx
      ·exact k2 x hx
     ·intro a ρ w he
      have hf:=he f hfm
      rw [Jx] at hf
      simp only [execOp,ho,resolve,Sem.run_bind,hf,AV.af,A0.af,hqc ρ,Deferred.ofValue,Sem.run_pure,Result.andThen_ok,invoke]
      rw [hargs a ρ he,(hS.sp g s hg).1]
      congr 2
      apply Array.ext'
      simp [List.map_append,-List.map_map]
    ·rw [hS.dL] at h
     exact h.elim
   ·split at h
    ·rename_i g first cap hq
     split at h
     ·rename_i s hg
      refine enter g s _ f _ rfl Jx hg h ?_ ?_
      ·intro Kn hk x hx
       rcases List.mem_append.1 hx with hx|hx
       ·rcases List.mem_append.1 hx with hx|hx
        ·obtain ⟨v,_,rfl⟩:=List.mem_map.1 hx;exact C8 _ _
        ·exact Kp Kn hk x hx
       ·obtain ⟨q,hq,rfl⟩:=List.mem_map.1 hx;exact C8 _ _
      ·intro a ρ w he
       have hf:=he f hfm
       rw [Jx] at hf
       simp only [execOp,ho,resolve,Sem.run_bind,hf,AV.af,A0.af,Cell.af,Deferred.ofValue,Sem.run_pure,Result.andThen_ok,invoke]
       rw [hargs a ρ he,(hS.sp g s hg).1]
       congr 2
       apply Array.ext'
       have e1: ∀l:List Value,List.map (AV.af ρ) (l.map ofV)=l:=fun l=>by rw [List.map_map];exact (List.map_congr_left fun v _=>wg v ρ).trans (List.map_id _)
       simp [List.map_append,-List.map_map,e1]
     ·exact h.elim
    ·rw [hS.ys] at h
     exact h.elim
    ·exact h.elim
  ·exact h.elim
 ·exact h.elim
theorem Uj (hT:aU P ctx.tt) (hS:QU P ctx) (h:R7 ctx o.op ev hp nm k): ∃r,bU P ctx.X o ev hp nm r/\ k r:=by
 unfold R7 at h
 split at h
 ·rename_i x ho
  exact ⟨_,bU.same (fun c e=>by rw [ho] at e;cases e) (fun Kn hk=>hk x (by rw [ho];simp [Op.operands])) fun a ρ Γ ax W w Kn he _ _=>by simp [execOp,ho,he x (by rw [ho];simp [Op.operands])],h⟩
 ·rename_i x ho
  exact ⟨_,bU.same (fun c e=>by rw [ho] at e;cases e) (fun Kn hk=>hk x (by rw [ho];simp [Op.operands])) fun a ρ Γ ax W w Kn he _ _=>by simp [execOp,ho,he x (by rw [ho];simp [Op.operands])],h⟩
 ·rename_i c x y ho
  split at h
  ·rename_i t hc
   cases t with
   |true=>
    refine ⟨_,bU.same (fun c e=>by rw [ho] at e;cases e) (fun Kn hk=>hk x (by rw [ho];simp [Op.operands])) fun a ρ Γ ax W w Kn he _ _=> ?_,h⟩
    have h1:=he c (by rw [ho];simp [Op.operands])
    rw [hc] at h1
    simp [execOp,ho,h1,AV.af,A0.af,Cell.af,asBool,he x (by rw [ho];simp [Op.operands])]
   |false=>
    refine ⟨_,bU.same (fun c e=>by rw [ho] at e;cases e) (fun Kn hk=>hk y (by rw [ho];simp [Op.operands])) fun a ρ Γ ax W w Kn he _ _=> ?_,h⟩
    have h1:=he c (by rw [ho];simp [Op.operands])
    rw [hc] at h1
    simp [execOp,ho,h1,AV.af,A0.af,Cell.af,asBool,he y (by rw [ho];simp [Op.operands])]
  ·exact h.elim
 ·rename_i t ho
  split at h
  ·rename_i i hi
   exact ⟨_,bU.jf (Vd hT hi) (fun _ _=>trivial) (fun c e=>by rw [ho] at e;cases e) fun a ρ he=>by simp [execOp,ho],h⟩
  ·exact h.elim
 ·rename_i t x ho
  split at h
  ·rename_i xs hxs
   exact ⟨_,bU.jf (aa6 hxs (ctx:=ctx)) (fun Kn hk=>hk x (by rw [ho];simp [Op.operands])) (fun c e=>by rw [ho] at e;cases e) fun a ρ he=>by simp [execOp,ho,he x (by rw [ho];simp [Op.operands])],h⟩
  ·exact h.elim
 ·rename_i t parts ho
  split at h
  ·rename_i i hi
   obtain ⟨r,h1,h2⟩:=Q5 (nm:=nm) (hp:=hp) hT hi h
   refine ⟨r,bU.jf h1 (fun Kn hk p hp=>hk p.2 ?_) (fun c e=>by rw [ho] at e;cases e) fun a ρ he=> ?_,h2⟩
   ·rw [ho];simp only [Op.operands,List.mem_toArray,List.mem_map];exact ⟨p,hp,rfl⟩
   ·have:(parts.map fun (i,x)=>(i,a.eval x))=parts.map fun (i,x)=>(i,(ev x).af ρ):=Array.map_congr_left fun p hp=>by
     show (p.1,a.eval p.2)=(p.1,(ev p.2).af ρ)
     rw [he p.2 (by rw [ho];simp only [Op.operands,List.mem_toArray,List.mem_map];exact ⟨p,Array.mem_toList_iff.2 hp,rfl⟩)]
    simp only [execOp,ho,this]
  ·exact h.elim
 ·rename_i t len parts ho
  split at h
  ·rename_i i hi
   split at h
   ·rename_i h0
    simp only [Bool.and_eq_true,List.isEmpty_iff] at h0
    obtain ⟨r,h1,h2⟩:=JD (hp:=hp) hT hi h
    refine ⟨r,bU.jf h1 (fun _ _=>trivial) (fun c e=>by rw [ho] at e;cases e) fun a ρ he=> ?_,h2⟩
    have e1:len=0:=Nat.eq_of_beq_eq_true h0.1
    have e2:parts= #[]:=by cases parts;simp_all
    subst e1;subst e2
    simp [execOp,ho]
   obtain ⟨r,h1,h2⟩:=E9 (hp:=hp) hT hi h
   refine ⟨r,bU.jf h1 (fun Kn hk p hp=>hk p.2 ?_) (fun c e=>by rw [ho] at e;cases e) fun a ρ he=> ?_,h2⟩
   ·rw [ho];simp only [Op.operands,List.mem_toArray,List.mem_map];exact ⟨p,hp,rfl⟩
   ·have:(parts.map fun (i,x)=>(i,a.eval x))=parts.map fun (i,x)=>(i,(ev x).af ρ):=Array.map_congr_left fun p hp=>by
     show (p.1,a.eval p.2)=(p.1,(ev p.2).af ρ)
     rw [he p.2 (by rw [ho];simp only [Op.operands,List.mem_toArray,List.mem_map];exact ⟨p,Array.mem_toList_iff.2 hp,rfl⟩)]
    simp only [execOp,ho,this]
  ·exact h.elim
 ·rename_i t x ho
  split at h
  ·rename_i i hi
   split at h
   ·obtain ⟨r,h1,h2⟩:=Ol (nm:=nm) hT hi h
    exact ⟨r,bU.jf h1 (fun Kn hk=>hk x (by rw [ho];simp [Op.operands])) (fun c e=>by rw [ho] at e;cases e) fun a ρ he=>by simp [execOp,ho,he x (by rw [ho];simp [Op.operands])],h2⟩
   obtain ⟨r,h1,h2⟩:=V9 (nm:=nm) hT hi h
   exact ⟨r,bU.jf h1 (fun Kn hk=>hk x (by rw [ho];simp [Op.operands])) (fun c e=>by rw [ho] at e;cases e) fun a ρ he=>by simp [execOp,ho,he x (by rw [ho];simp [Op.operands])],h2⟩
  ·exact h.elim
 ·rename_i t x y ho
  split at h
  ·rename_i i hi
   split at h
   ·obtain ⟨r,h1,h2,h3⟩:=MG (nm:=nm) hT hi h
    exact ⟨r,bU.FC h1 h2 (fun Kn hk=>⟨hk x (by rw [ho];simp [Op.operands]),hk y (by rw [ho];simp [Op.operands])⟩) (fun c e=>by rw [ho] at e;cases e)
     fun a ρ he=>by simp [execOp,ho,he x (by rw [ho];simp [Op.operands]),he y (by rw [ho];simp [Op.operands])],h3⟩
   obtain ⟨r,h1,h2,h3⟩:=To (nm:=nm) hT hi h
   exact ⟨r,bU.FC h1 h2 (fun Kn hk=>⟨hk x (by rw [ho];simp [Op.operands]),hk y (by rw [ho];simp [Op.operands])⟩) (fun c e=>by rw [ho] at e;cases e)
    fun a ρ he=>by simp [execOp,ho,he x (by rw [ho];simp [Op.operands]),he y (by rw [ho];simp [Op.operands])],h3⟩
  ·exact h.elim
 ·rename_i x ho
  have DO:x∈o.op.operands:=by rw [ho];simp [Op.operands]
  split at h
  ·rename_i n off hx
   obtain ⟨⟨ob,mK,lz⟩,hk⟩:=dQ h
   refine ⟨_,bU.same (fun c e=>by rw [ho] at e;cases e) (fun Kn hk=>by have:=hk x DO;rw [hx] at this;exact this) fun a ρ Γ ax W w Kn he ht hst=> ?_,hk⟩
   obtain ⟨b,hb⟩:=lz _ _ ρ w (hst.at_ n ob (by rw [ht n (by simp),mK]))
   have h1:=he x DO
   rw [hx,n6 hb] at h1
   simp [execOp,ho,h1,n6 hb]
  ·rename_i n off hx
   obtain ⟨⟨ob,mK,lz⟩,hk⟩:=dQ h
   refine ⟨_,bU.same (fun c e=>by rw [ho] at e;cases e) (fun Kn hk=>by have:=hk x DO;rw [hx] at this;exact this) fun a ρ Γ ax W w Kn he ht hst=> ?_,hk⟩
   obtain ⟨b,hb⟩:=lz _ _ ρ w (hst.at_ n ob (by rw [ht n (by simp),mK]))
   have h1:=he x DO
   rw [hx,pJ hb] at h1
   simp [execOp,ho,h1,pJ hb]
  ·rename_i n j q hx
   split at h
   ·rename_i hrc
    obtain ⟨c,cs,mK⟩:=KA hrc
    refine ⟨_,bU.same (fun c e=>by rw [ho] at e;cases e) (fun Kn hk=>by have:=hk x DO;rw [hx] at this;exact this) fun a ρ Γ ax W w Kn he ht hst=> ?_,h⟩
    obtain ⟨b,hb⟩:=Us (hst.at_ n (.rc (c::cs)) (by rw [ht n (by simp),mK]))
    have h1:=he x DO
    rw [hx,dy hb] at h1
    simp [execOp,ho,h1,dy hb]
   obtain ⟨u,l,rk,mK,hj,hk⟩:=dR h
   refine ⟨_,bU.same (fun c e=>by rw [ho] at e;cases e) (fun Kn hk=>by have:=hk x DO;rw [hx] at this;exact this) fun a ρ Γ ax W w Kn he ht hst=> ?_,hk⟩
   obtain ⟨b,hb⟩:=(rk.2.at (hst.at_ n _ (by rw [ht n (by simp),mK]))).2.2.2 _ hj
   have h1:=he x DO
   rw [hx,dy hb] at h1
   simp [execOp,ho,h1,dy hb]
  ·rename_i n j q hx
   obtain ⟨u,l,rk,mK,hj,hk⟩:=dR h
   refine ⟨_,bU.same (fun c e=>by rw [ho] at e;cases e) (fun Kn hk=>by have:=hk x DO;rw [hx] at this;exact this) fun a ρ Γ ax W w Kn he ht hst=> ?_,hk⟩
   obtain ⟨b,hb⟩:=(rk.2.at (hst.at_ n _ (by rw [ht n (by simp),mK]))).2.2.2 _ hj
   have h1:=he x DO
   rw [hx,p6 hb] at h1
   simp [execOp,ho,h1,p6 hb]
  ·rename_i f first cap hx
   refine ⟨_,bU.same (fun c e=>by rw [ho] at e;cases e) (fun Kn hk=>by have:=hk x DO;rw [hx] at this;exact this) fun a ρ Γ ax W w Kn he ht hst=> ?_,h⟩
   have h1:=he x DO
   rw [hx] at h1
   simp [execOp,ho,h1,AV.af,A0.af,Cell.af]
  ·rename_i f agg rs hx
   refine ⟨_,bU.same (fun c e=>by rw [ho] at e;cases e) (fun Kn hk=>by have:=hk x DO;rw [hx] at this;exact this) fun a ρ Γ ax W w Kn he ht hst=> ?_,h⟩
   have h1:=he x DO
   rw [hx] at h1
   simp [execOp,ho,h1,AV.af,A0.af,Cell.af]
  ·rename_i b hx
   refine ⟨_,bU.same (fun c e=>by rw [ho] at e;cases e) (fun Kn hk=> ?_) (fun a ρ Γ ax W w Kn he ht hst=> ?_),h⟩
   ·trivial
   have h1:=he x DO
   rw [hx] at h1
   simp [execOp,ho,h1,AV.af,A0.af,Cell.af]
  ·rename_i f first cap hx
   refine ⟨_,bU.same (fun c e=>by rw [ho] at e;cases e) (fun Kn hk=> ?_) (fun a ρ Γ ax W w Kn he ht hst=> ?_),h⟩
   ·trivial
   have h1:=he x DO
   rw [hx] at h1
   simp [execOp,ho,h1,AV.af,A0.af,Cell.af]
  ·exact h.elim
 ·rename_i op t x y yt ho
  rw [if_neg (by simp [ndB,hS.dL])] at h
  obtain ⟨r,h1,h2⟩:=XS (nm:=nm) (hp:=hp) (P:=P) (ox:=x) (oy:=y) hT h
  refine ⟨r,bU.jf h1 (fun _ _=>trivial) (fun c e=>by rw [ho] at e;cases e) fun a ρ he=> ?_,h2⟩
  simp [execOp,ho,he x (by rw [ho];simp [Op.operands]),he y (by rw [ho];simp [Op.operands])]
 ·rename_i u t x ho
  have DO:x∈o.op.operands:=by rw [ho];simp [Op.operands]
  split at h
  ·rename_i kk n hx
   refine ⟨_,bU.same (fun c e=>by rw [ho] at e;cases e) (fun Kn hk=> ?_) (fun a ρ Γ ax W w Kn he ht hst=> ?_),h⟩
   ·trivial
   have h1:=he x DO
   rw [hx] at h1
   simp [execOp,ho,h1,AV.af,A0.af,Cell.af,Op.unary,Op.intArith,gA]
  ·rename_i b hx
   refine ⟨_,bU.same (fun c e=>by rw [ho] at e;cases e) (fun Kn hk=> ?_) (fun a ρ Γ ax W w Kn he ht hst=> ?_),h⟩
   ·trivial
   have h1:=he x DO
   rw [hx] at h1
   simp [execOp,ho,h1,AV.af,A0.af,Cell.af,Op.unary,cl]
  ·exact h.elim
 ·rename_i s d x ho
  have DO:x∈o.op.operands:=by rw [ho];simp [Op.operands]
  split at h
  ·rename_i i0 i hi0 hi
   split at h
   ·rename_i kk k1 n hd hx
    refine ⟨_,bU.same (fun c e=>by rw [ho] at e;cases e) (fun Kn hk=> ?_) (fun a ρ Γ ax W w Kn he ht hst=> ?_),h⟩
    ·trivial
    have h1:=he x DO
    rw [hx] at h1
    simp [execOp,ho,h1,AV.af,A0.af,Cell.af,convert,hT.u hi0,hT.u hi,hd,Conv.intToInt,gA]
   ·exact h.elim
  ·exact h.elim
 ·rename_i fn first cap ho
  split at h
  ·rename_i f c hf hc
   refine ⟨_,bU.same (fun c e=>by rw [ho] at e;cases e) (fun Kn hk=> ?_) fun a ρ Γ ax W w Kn he ht hst=> ?_,h⟩
   ·refine (wX (fun _=> {}) _ _ hc).2 Kn fun x hx=> ?_
    rw [nX] at hx
    obtain ⟨y,hy,rfl⟩:=List.mem_map.1 hx
    exact hk y (by rw [ho];simp [Op.operands,Array.mem_toList_iff.1 hy])
   ·have e1:first.map a.eval=f.toArray:=by
     apply Array.ext'
     rw [<- E2 ρ _ _ hf,nX]
     simp only [Array.toList_map,List.map_map]
     exact List.map_congr_left fun y hy=>he y (by rw [ho];simp [Op.operands,Array.mem_toList_iff.1 hy])
    have e2:cap.map a.eval=(c.map (Ref.af ρ)).toArray:=by
     apply Array.ext'
     rw [<- (wX ρ _ _ hc).1,nX]
     simp only [Array.toList_map,List.map_map]
     exact List.map_congr_left fun y hy=>he y (by rw [ho];simp [Op.operands,Array.mem_toList_iff.1 hy])
    simp only [execOp,ho,Instr.makeFunc,e1,e2,AV.af,A0.af,Cell.af]
    rfl
  ·split at h
   ·rename_i g r hfs hcs
    split at h
    ·rename_i agg rs hr
     obtain ⟨hrc,rE⟩:=P4 hr
     have hmem: ∀y∈first.toList,y∈o.op.operands:=fun y hy=>by rw [ho];simp [Op.operands,Array.mem_toList_iff.1 hy]
     rw [nX] at hfs
     obtain ⟨y,hy1⟩: ∃y,first.toList= [y]:=by
      match hm:first.toList,hfs with
      | [y],_=>exact ⟨y,rfl⟩
     have hr1:ev y=r:=by rw [hy1] at hfs;simpa using hfs
     refine ⟨_,bU.same (fun c e=>by rw [ho] at e;cases e) (fun Kn hk=> ?_) fun a ρ Γ ax W w Kn he ht hst=> ?_,h⟩
     ·exact rE Kn (by rw [<- hr1];exact hk y (hmem y (by rw [hy1];simp)))
     ·have e1:first.map a.eval= #[r.af ρ]:=by
       apply Array.ext'
       simp only [Array.toList_map,hy1,List.map_cons,List.map_nil]
       rw [he y (hmem y (by rw [hy1];simp)),hr1]
      have e2:cap.map a.eval= #[]:=by
       apply Array.ext'
       simp [Array.toList_map,hcs]
      simp only [execOp,ho,Instr.makeFunc,e1,e2,AV.af,A0.af,Cell.af,hrc ρ]
      rfl
    ·exact h.elim
   ·exact h.elim
 ·rename_i t ho
  split at h
  ·rename_i i hi
   obtain ⟨r,h1,h2⟩: ∃r,aK P ctx.X hp nm (fun _=>True) (fun _=>Instr.makeMap t none) (fun ρ=>r.val.af ρ) r/\ k r:=by
    split at h
    ·exact M0 h
    ·exact MZ h
   exact ⟨r,bU.jf h1 (fun _ _=>trivial) (fun c e=>by rw [ho] at e;cases e) fun a ρ he=>by simp only [execOp,ho,Option.map_none],h2⟩
  ·exact h.elim
 ·rename_i t x ix ok ho
  split at h
  ·rename_i i hi
   obtain ⟨r,h1,h2⟩: ∃r,aK P ctx.X hp nm (fun _=>True) (fun ρ=>Instr.lookup t ((ev x).af ρ) ((ev ix).af ρ) ok) (fun ρ=>r.val.af ρ) r/\ k r:=by
    split at h
    ·exact OX hT hi h
    ·exact OW hT hi h
   exact ⟨r,bU.jf h1 (fun _ _=>trivial) (fun c e=>by rw [ho] at e;cases e) fun a ρ he=>by simp [execOp,ho,he x (by rw [ho];simp [Op.operands]),he ix (by rw [ho];simp [Op.operands])],h2⟩
  ·exact h.elim
 ·rename_i t m ix x ho
  split at h
  ·rename_i i hi
   obtain ⟨r,h1,h2,h3⟩: ∃r,aK P ctx.X hp nm (fun _=>True) (fun ρ=>Instr.mapUpdate t ((ev m).af ρ) ((ev ix).af ρ) ((ev x).af ρ)) (fun _=>()) r/\ k r/\ r.val=aX:=by
    split at h
    ·exact G9 hT hi h
    ·exact vW hT hi h
   exact ⟨r,bU.FC h1 h3 (fun _ _=>trivial) (fun c e=>by rw [ho] at e;cases e) fun a ρ he=>by simp [execOp,ho,he m (by rw [ho];simp [Op.operands]),he ix (by rw [ho];simp [Op.operands]),he x (by rw [ho];simp [Op.operands])],h2⟩
  ·exact h.elim
 ·rename_i t m ix x ho
  split at h
  ·rename_i i hi
   obtain ⟨r,h1,h2,h3⟩:=vW (nm:=nm) hT hi h
   exact ⟨r,bU.FC h1 h3 (fun _ _=>trivial) (fun c e=>by rw [ho] at e;cases e) fun a ρ he=>by simp [execOp,ho,he m (by rw [ho];simp [Op.operands]),he ix (by rw [ho];simp [Op.operands]),he x (by rw [ho];simp [Op.operands])],h2⟩
  ·exact h.elim
 ·rename_i t x lo hh mx ho
  split at h
  ·rename_i i hi
   obtain ⟨r,h1,h2⟩:=Ta (nm:=nm) (P:=P) hT hi h
   refine ⟨r,bU.jf h1 (fun Kn hk=>hk x (by rw [ho];simp [Op.operands])) (fun c e=>by rw [ho] at e;cases e) fun a ρ he=> ?_,h2⟩
   have e: ∀q:Option Operand,(∀y,q=some y->y∈o.op.operands)->q.map a.eval=(q.map ev).map (AV.af ρ):=by
    intro q hq;cases q with
    |none=>rfl
    |some y=>simp [he y (hq y rfl)]
   rw [execOp,ho]
   simp only
   rw [he x (by rw [ho];simp [Op.operands]),e lo (fun y hy=>by rw [ho];simp [Op.operands,hy]),e hh (fun y hy=>by rw [ho];simp [Op.operands,hy]),e mx (fun y hy=>by rw [ho];simp [Op.operands,hy])]
  ·exact h.elim
 ·rename_i t x y ho
  split at h
  ·rename_i i hi
   obtain ⟨r,h1,h2⟩:=vV (hp:=hp) hT hi h
   exact ⟨r,bU.jf h1 (fun _ _=>trivial) (fun c e=>by rw [ho] at e;cases e) fun a ρ he=>by simp [execOp,ho,he x (by rw [ho];simp [Op.operands]),he y (by rw [ho];simp [Op.operands])],h2⟩
  ·exact h.elim
 ·rename_i t x f ho
  split at h
  ·rename_i i hi
   obtain ⟨r,h1,h2⟩:=Gs (nm:=nm) hT hi h
   exact ⟨r,bU.jf h1 (fun Kn hk=>hk x (by rw [ho];simp [Op.operands])) (fun c e=>by rw [ho] at e;cases e) fun a ρ he=>by simp [execOp,ho,he x (by rw [ho];simp [Op.operands])],h2⟩
  ·exact h.elim
 ·rename_i t x f ho
  split at h
  ·rename_i i hi
   obtain ⟨r,h1,h2⟩:=Ri (nm:=nm) (hp:=hp) hT hi h
   exact ⟨r,bU.jf h1 (fun Kn hk=>hk x (by rw [ho];simp [Op.operands])) (fun c e=>by rw [ho] at e;cases e) fun a ρ he=>by simp [execOp,ho,he x (by rw [ho];simp [Op.operands])],h2⟩
  ·exact h.elim
 ·rename_i t x ix ho
  split at h
  ·rename_i i hi
   split at h
   ·obtain ⟨r,h1,h2⟩:=O8 (nm:=nm) hT hi h
    exact ⟨r,bU.jf h1 (fun Kn hk=>⟨hk x (by rw [ho];simp [Op.operands]),hk ix (by rw [ho];simp [Op.operands])⟩) (fun c e=>by rw [ho] at e;cases e) fun a ρ he=>by simp [execOp,ho,he x (by rw [ho];simp [Op.operands]),he ix (by rw [ho];simp [Op.operands])],h2⟩
   obtain ⟨r,h1,h2⟩:=GN (nm:=nm) hT hi h
   exact ⟨r,bU.jf h1 (fun Kn hk=>hk x (by rw [ho];simp [Op.operands])) (fun c e=>by rw [ho] at e;cases e) fun a ρ he=>by simp [execOp,ho,he x (by rw [ho];simp [Op.operands]),he ix (by rw [ho];simp [Op.operands])],h2⟩
  ·exact h.elim
 ·rename_i t x ix ho
  split at h
  ·rename_i i hi
   obtain ⟨r,h1,h2⟩:=RI (nm:=nm) (hp:=hp) hT hi h
   exact ⟨r,bU.jf h1 (fun Kn hk=>hk x (by rw [ho];simp [Op.operands])) (fun c e=>by rw [ho] at e;cases e) fun a ρ he=>by simp [execOp,ho,he x (by rw [ho];simp [Op.operands]),he ix (by rw [ho];simp [Op.operands])],h2⟩
  ·exact h.elim
 ·rename_i x i ho
  have DO:x∈o.op.operands:=by rw [ho];simp [Op.operands]
  split at h
  ·rename_i l hx
   split at h
   ·rename_i v hv
    refine ⟨_,bU.same (fun c e=>by rw [ho] at e;cases e) (fun Kn hk=> ?_) fun a ρ Γ ax W w Kn he ht hst=> ?_,h⟩
    ·have:=hk x DO;rw [hx] at this;exact this v (List.mem_of_getElem? hv)
    ·have h1:=he x DO
     rw [hx] at h1
     simp [execOp,ho,h1,AV.af,Instr.extract,hv]
   ·exact h.elim
  ·exact h.elim
 ·rename_i c ho
  exact Vj hT hS ho h
 ·rw [if_pos (by simp [hS.dL])] at h;exact h.elim
 ·rw [if_pos (by simp [hS.dL])] at h;exact h.elim
 ·rw [if_pos (by simp [hS.dL])] at h;exact h.elim
 ·exact h.elim
def OpK (P:Program) (X:Addr->Value->Prop) (o:Oper) (ev:Operand->AV) (hp:HP) (nm:Nat) (k:Rec->Prop):Prop:=
 ∀ro n ax W ρ w a next Q,Dy ax W X->(∀x∈o.op.operands,a.eval x=(ev x).af ρ)->(∀x∈o.op.operands,(ev x).ok (· <nm))->St ax W ρ (· <nm) hp w->
  (∀r ρ' w',k r->(∀p∈r.writes,hp p.1≠none)->(∀m,m<nm->ρ' m=ρ m)->r.val.ok (jO (· <nm) nm r)->St ax W ρ' (jO (· <nm) nm r) (bC r nm hp) w'->next (a.put o.dst (r.val.af ρ')) w')->
  o.wpIn (fw ro) n P a w next Q
theorem OpK.aev {X:Addr->Value->Prop} {r:Rec} (h:bU P X o ev hp nm r) (hk:k r):OpK P X o ev hp nm k:=
 fun ro n ax W ρ w a next Q hX he hv hst hn=>h.2 ro n ax W ρ _ _ w a next Q hX he hv (fun _ _=>rfl) (fun i _=>by omega) hst fun ρ' w' h1 h2 h3=>hn r ρ' w' hk h.1 h1 h2 h3
def OR (ctx:Ctx) (ev:Operand->AV):Op->Bool
 | .call c=>match c.callee with
  | .value f=>match ev f with
   | .v (.one q)=>match aa8 q with
    |some (g,_,_)=>(aG ctx.specs g).isNone
    |none=>match q with
     | .Cz _=>true
     |_=>false
   |_=>false
  |_=>false
 | .binOp _ _ x y _=>ndB ctx (ev x) (ev y)
 | .range _ _=>true
 | .next _ _=>true
 | .entry _=>true
 |_=>false
theorem Wq (h:R7 ctx o.op ev hp nm k) (hy:OR ctx ev o.op=false):R7 {ctx with ys:= [],dL:= []} o.op ev hp nm k:=by
 revert h hy
 cases o.op with
 |call c=>
  intro h hy
  simp only [R7,J6] at h ⊢
  simp only [OR] at hy
  split at h
  ·exact h
  ·rename_i f hc
   rw [hc] at hy
   dsimp only at hy
   split at h
   ·rename_i q Jx
    rw [Jx] at hy
    dsimp only at hy ⊢
    split at h
    ·rename_i g fs cs hq
     rw [hq] at hy
     dsimp only at hy ⊢
     split at h
     ·rename_i s hs
      exact h
     ·rename_i hs
      rw [hs] at hy;cases hy
    ·rename_i hq
     rw [hq] at hy
     dsimp only at hy ⊢
     split at h
     ·exact h
     ·cases hy
     ·exact h.elim
   ·exact h.elim
  ·exact h.elim
 |binOp op t x y yt=>
  intro h hy
  simp only [OR] at hy
  simp only [R7] at h ⊢
  rw [if_neg (by rw [hy];decide)] at h
  rw [if_neg (by simp [ndB])]
  exact h
 |makeMap t r=>intro h _;cases r<;>exact h
 |range t x=>intro _ hy;cases hy
 |next x b=>intro _ hy;cases hy
 |entry x=>intro _ hy;cases hy
 |_=>intro h _;exact h
theorem agG (hT:aU P ctx.tt) {op:BinOp} {t:TypeId} {x y:Operand} {yt:TypeId} (ho:o.op= .binOp op t x y yt) (h:aep ctx op t (ev x) (ev y) hp k):OpK P ctx.X o ev hp nm k:=by
 unfold aep at h
 split at h
 rotate_left
 ·exact h.elim
 rename_i n hx hy
 split at h
 rotate_left
 ·exact h.elim
 rename_i u l rk i hr hi
 have key: ∀(g:Bool->Bool),(∀(e:TypeId),i.desc= .slice e-> ∀(a:Option Addr) (n1 c1:Nat) (w:World),(binOp op t (.slice a n1 c1) (.slice none 0 0)).run P w= .ok (.bool (g a.isNone)) w)->(∃e,i.desc= .slice e)->(∀b:Bool,(0<l.length->b=false)->k {val:=cl (g b),aC:= [n]})->OpK P ctx.X o ev hp nm k:=by
  intro g hrun ⟨e,hd⟩ hk ro n' ax W ρ w a next Q hX he hok hst iN
  obtain ⟨_,_,_,sub,hm⟩:=hst.at_ n _ hr
  have hb:0<l.length->(ρ n).base.isNone=false:=by
   intro hl
   have hlen:0<(aD sub 0 (ak u l)).length:=by rw [bE,bj];exact Nat.mul_pos hl u.size_pos
   obtain ⟨a',e',_⟩:=hm.1 0 _ (List.getElem?_eq_getElem hlen)
   rw [e'];rfl
  have h1:=he x (by rw [ho];simp [Op.operands])
  have h2:=he y (by rw [ho];simp [Op.operands])
  rw [hx] at h1
  rw [hy] at h2
  have hg:=dH (P:=P) op t x y (.slice (ρ n).base (ρ n).len (ρ n).cap) (.slice none 0 0) w (by simp) (by simp)
  have hr2:=hrun e hd (ρ n).base (ρ n).len (ρ n).cap w
  have AI:(execOp a.eval o).run P w= .ok (.value (.bool (g (ρ n).base.isNone))) w:=by
   simp [execOp,ho,h1,h2,AV.af,A0.af,Cell.af,hg,hr2]
  refine ⟨fun _ _=>trivial,?_⟩
  rw [Oper.semAt_eq _ _ _ (fun c e=>by rw [ho] at e;cases e),AI]
  simp only [Oper.uponIn]
  exact iN {val:=cl (g (ρ n).base.isNone),aC:= [n]} ρ w (hk _ hb) (fun p hp=>absurd hp (by simp)) (fun _ _=>rfl) (by rw [gH];exact trivial) (by rw [gH,si];exact hst)
 split at h
 ·rename_i e hd
  exact key id (fun e hd a n1 c1 w=>by simp [binOp,nM hT hi hd]) ⟨e,hd⟩ h
 ·rename_i e hd
  exact key (fun b=> !b) (fun e hd a n1 c1 w=>by simp [binOp,nM hT hi hd]) ⟨e,hd⟩ h
 ·exact h.elim
theorem acg (hT:aU P ctx.tt) {t:TypeId} {x:Operand} (ho:o.op= .range t x) (h:SY ctx t (ev x) hp nm k):OpK P ctx.X o ev hp nm k:=by
 unfold SY at h
 split at h
 rotate_left
 ·exact h.elim
 rename_i i hi
 split at h
 rotate_left
 ·exact h.elim
 rename_i kt et n hd hx
 split at h
 rotate_left
 ·exact h.elim
 rename_i ka kT uT l c hn
 obtain ⟨iV,h⟩:=bn h
 obtain ⟨n',hc⟩:=jb iV
 intro ro n0 ax W ρ w a next Q hX he hok hst iN
 obtain ⟨b,es,dI,gb,gh,ρ',hρ,hb',yg⟩:=acB hst hn hc (Nat.lt_irrefl nm)
 have h1:=he x (by rw [ho];simp [Op.operands])
 rw [hx] at h1
 have kn:=(hst.kn n _ hn).1
 have Ry:n≠nm:=by omega
 have AI:(execOp a.eval o).run P w= .ok (.value (.pointer (some ⟨w.heap.size,0,none⟩))) (w.alloc (.mapIter (some b) dI #[] dI)):=by
  have:=run_range_map (P:=P) w t kt et b es dI (by rw [(hT t i hi).1,hd]) gh
  simp [execOp,ho,h1,AV.af,A0.af,Cell.af,gb,this]
 refine ⟨fun _ _=>trivial,?_⟩
 rw [Oper.semAt_eq _ _ _ (fun c e=>by rw [ho] at e;cases e),AI]
 simp only [Oper.uponIn]
 have:=iN _ ρ' (w.alloc (.mapIter (some b) dI #[] dI)) (h es dI) (fun p eo=>by simp only [List.mem_singleton] at eo;subst eo;rw [hn];simp) hρ (.inr (by simp)) ?_
 ·simp only [AV.af,A0.af,Cell.af,addrOf,hb',Option.map_some] at this
  exact this
 ·rw [show jO (· <nm) nm {val:=AV.v (.one (.ptr nm 0)),fresh:= [aI.xq n c es dI ka kT uT l none],writes:= [(n,.hmap es dI)],aC:= [n,c]} =yz (· <nm) nm by
   funext m;simp only [jO,yz,List.length_singleton];congr 1;apply propext;omega]
  rw [show bC {val:=AV.v (.one (.ptr nm 0)),fresh:= [aI.xq n c es dI ka kT uT l none],writes:= [(n,.hmap es dI)],aC:= [n,c]} nm hp=(fun y=>if y=nm then some (.xq n c es dI ka kT uT l none) else if y=n then some (.hmap es dI) else hp y) by
   funext m
   simp only [bC,List.length_singleton,cf]
   by_cases e1:m=nm
   ·rw [e1,if_pos (by omega),if_pos rfl];simp [live]
   ·rw [if_neg (by omega),if_neg e1]
    by_cases e2:n=m
    ·rw [if_pos e2,if_pos e2.symm];simp [live]
    ·rw [if_neg e2,if_neg (Ne.symm e2)]]
  exact yg
theorem aeo {x:Operand} (ho:o.op= .next x false) (h:Zn (ev x) hp nm k):OpK P ctx.X o ev hp nm k:=by
 unfold Zn at h
 split at h
 rotate_left
 ·exact h.elim
 rename_i r hx
 split at h
 rotate_left
 ·exact h.elim
 rename_i n c es dI ka kT uT l cur hr
 split at h
 rotate_left
 ·exact h.elim
 rename_i es' mH hn
 obtain ⟨iV,rfl,rfl,hd,hm⟩:=bn h
 obtain ⟨n',hc⟩:=jb iV
 intro ro n0 ax W ρ w a next Q hX he hok hst iN
 have h1:=he x (by rw [ho];simp [Op.operands])
 rw [hx] at h1
 have kr:=(hst.kn r _ hr).1
 have kn:=(hst.kn n _ hn).1
 have kc:=(hst.kn c _ hc).1
 obtain ⟨gk,gu,VJ,rb,since,seen,c0,hrb,hrh,hnb,hold,hsc,hsk,gr,afs⟩:=hst.at_ r _ hr
 obtain ⟨bm,hbm,YI⟩:=hst.at_ n _ hn
 rw [hbm] at hrh
 rw [show AV.af ρ (AV.v (.one (.ptr r 0)))= .pointer (some ⟨rb,0,none⟩) by simp [AV.af,A0.af,Cell.af,addrOf,hrb]] at h1
 have hrc:c≠r:=by rintro rfl;rw [hr] at hc;cases hc
 have hrn:n≠r:=by rintro rfl;rw [hr] at hn;cases hn
 have hL:(leftOf es' seen).toList=es'.toList.filter fun e=> !seen.contains e.born:=by unfold leftOf;rw [Array.toList_filter]
 rcases run_next_at (P:=P) w o.type rb bm since c0 seen es' mH hrh YI hold hsc with ⟨h0,hrun⟩|⟨e,hem,w1,hw1,hrun⟩
 ·have hl:l= []:=by
   have:es'.toList.filter (fun e=> !seen.contains e.born)= []:=List.eq_nil_of_length_eq_zero (by rw [<- hL,Array.length_toList];exact h0)
   rw [this] at gr
   exact gr.aiF
  have AI:(execOp a.eval o).run P w= .ok (.value (.tuple #[.bool false])) w:=by
   simp [execOp,ho,h1,hrun]
  refine ⟨fun _ _=>trivial,?_⟩
  rw [Oper.semAt_eq _ _ _ (fun c e=>by rw [ho] at e;cases e),AI]
  simp only [Oper.uponIn]
  exact iN _ ρ w (hd hl) (fun p hp=>absurd hp (by simp)) (fun _ _=>rfl) (fun a ha=>by simp only [List.mem_singleton] at ha;subst ha;trivial) (by rw [gH,si];exact hst)
 ·rw [hL] at hem
  obtain ⟨i,hi⟩:=List.getElem?_of_mem hem
  have hie:(es'.toList.filter fun e=> !seen.contains e.born)[i]? =some e:=hi
  obtain ⟨p,en,hp1,hen,hkey,hval,DN,hlen,hes⟩:=eL.get _ _ _ _ _ gr hie
  have hil:i<l.length:=(List.getElem?_eq_some_iff.1 hp1).1
  have hka:OT l i=p:=by unfold OT;rw [List.getD_eq_getElem?_getD,hp1];rfl
  obtain ⟨ρ',hρ,q1,q2,q3,q4,tx⟩:=aeG (nm:=nm) (n:=n) hst hc kn hen DN hlen hes gu (Nat.lt_irrefl nm) (by omega)
  have AI:(execOp a.eval o).run P w= .ok (.value (.tuple #[.bool true,e.key,e.val])) (Go.ChangeMaps.setBlock w1 rb (.mapIter (some bm) since (seen.push e.born) mH)):=by
   simp [execOp,ho,h1,hrun]
  refine ⟨fun _ _=>trivial,?_⟩
  rw [Oper.semAt_eq _ _ _ (fun c e=>by rw [ho] at e;cases e),AI]
  simp only [Oper.uponIn]
  have hmi:=hm i hil
  rw [hka] at hmi
  have hcv:(AV.r7 [.one (.raw (.bool true)),Cx ka kT p.1,.one (.full (nm+1))]).af ρ'= .tuple #[.bool true,e.key,e.val]:=by
   show Value.tuple #[.bool true,(Cx ka kT p.1).af ρ',.slice (ρ' (nm+1)).base (ρ' (nm+1)).len (ρ' (nm+1)).cap]=_
   rw [pS,q2,q3,q4,<- hkey,<- hval]
  have:=iN _ ρ' (Go.ChangeMaps.setBlock w1 rb (.mapIter (some bm) since (seen.push e.born) mH)) hmi (fun p eo=> ?_) hρ (fun a ha=> ?_) ?_
  ·rw [hcv] at this;exact this
  ·simp only [List.mem_cons,List.not_mem_nil,or_false] at eo
   rcases eo with rfl|rfl
   ·rw [hr];simp
   ·rw [hc];simp
  ·simp only [List.mem_cons,List.not_mem_nil,or_false] at ha
   rcases ha with rfl|rfl|rfl
   ·trivial
   ·exact FT _ _ _ _
   ·exact .inr (by simp)
  ·
   have oZ:St ax W ρ' (fun y=>y<nm\/ y=nm\/ y=nm+1) (fun y=>if y=nm+1 then some (.row uT p.2 1) else if y=nm then some (.set n) else if y=c then none else hp y) w1:=by
    rcases hw1 with rfl|rfl
    ·exact tx
    ·exact tx.drawn _ (Nat.le_succ _)
   have agj:r≠nm:=by omega
   have agk:r≠nm+1:=by omega
   have ags:(fun y=>if y=nm+1 then some (aI.row uT p.2 1) else if y=nm then some (.set n) else if y=c then none else hp y) r=some (.xq n c es' mH ka kT uT l cur):=by
    simp [agj,agk,Ne.symm hrc,hr]
   have gS:(ρ' r).bq=some rb:=by rw [hρ r kr];exact hrb
   have agh:w1.heap[rb]? =some (.mapIter (some bm) since seen c0):=by rcases hw1 with rfl|rfl<;>exact hrh
   have GL:=MapKept.heap_set (o':=Obj.mapIter (some bm) since (seen.push e.born) mH) agh
   have hlt:rb<w1.heap.size:=(Array.getElem?_eq_some_iff.1 agh).1
   have hown:=oZ.own r rb (by have h9:=ags;dsimp only at h9 ⊢;rw [h9];rfl) gS
   have RD:=oZ.TC (o':= .xq n nm es' mH ka kT uT (l.eraseIdx i) (some (p.1,nm+1))) (w1:=Go.ChangeMaps.setBlock w1 rb (.mapIter (some bm) since (seen.push e.born) mH)) ags gS ⟨.inl kn,.inr (.inl rfl),fun q hq=>by cases hq;exact .inr (.inr rfl)⟩ (fun _ h=>by cases h)
    ⟨oZ.fr.os,oZ.fr.tape,oZ.fr.output,by simpa [Go.ChangeMaps.setBlock] using oZ.fr.size,fun k hk hnb=>by
     have hne:k≠rb:=by
      rintro rfl
      rcases hown with h|h
      ·omega
      ·exact hnb h
     rw [<- oZ.fr.block k hk hnb]
     exact GL.2 k hne,oZ.fr.QL⟩ (fun b' hne=>GL.2 b' hne) (by simp [Go.ChangeMaps.setBlock]) fun _=>by
     have agd:(es'.toList.filter fun x=> !(seen.push e.born).contains x.born)=(es'.toList.filter fun x=> !seen.contains x.born).eraseIdx i:=by
      rw [<- Gu _ i e hie ((List.filter_sublist (l:=es'.toList)).map _|>.nodup VJ.2),List.filter_filter]
      refine List.filter_congr fun x _=> ?_
      rw [contains_push]
      cases seen.contains x.born<;>cases (x.born==e.born)<;>rfl
     refine ⟨gk,gu,VJ,rb,since,seen.push e.born,mH,gS,?_,by rw [hρ n kn];exact hnb,hold,hsk,hsk,?_,fun q hq=> ?_⟩
     ·rw [hρ n kn,hbm];exact GL.1
     ·rw [agd,q1];exact gr.erase _ _ _ _
     ·cases hq
      exact ⟨rfl,seen,e,rfl,(List.mem_filter.1 hem).1,hkey,by rw [q2,q3,q4];exact hval⟩
   rw [show jO (· <nm) nm {val:= .r7 [.one (.raw (.bool true)),Cx ka kT p.1,.one (.full (nm+1))],fresh:= [.set n,.row uT p.2 1],writes:= [(r,.xq n nm es' mH ka kT uT (l.eraseIdx i) (some (p.1,nm+1))),(c,.gone)],aC:= [r,n,c]} =(fun y=>y<nm\/ y=nm\/ y=nm+1) by
    funext y;simp only [jO,List.length_cons,List.length_nil];apply propext;omega]
   rw [show bC {val:= .r7 [.one (.raw (.bool true)),Cx ka kT p.1,.one (.full (nm+1))],fresh:= [.set n,.row uT p.2 1],writes:= [(r,.xq n nm es' mH ka kT uT (l.eraseIdx i) (some (p.1,nm+1))),(c,.gone)],aC:= [r,n,c]} nm hp=
     bH (fun y=>if y=nm+1 then some (aI.row uT p.2 1) else if y=nm then some (.set n) else if y=c then none else hp y) r (.xq n nm es' mH ka kT uT (l.eraseIdx i) (some (p.1,nm+1))) by
    funext y
    simp only [bC,cf,List.length_cons,List.length_nil,bH]
    by_cases y0:y=nm
    ·rw [y0,if_pos (by omega),if_neg (Ne.symm agj)];simp [live]
    by_cases y1:y=nm+1
    ·rw [y1,if_pos (by omega),if_neg (Ne.symm agk)];simp [live]
    rw [if_neg (by omega)]
    by_cases y2:y=c
    ·rw [y2]
     have c0:c≠nm:=by omega
     have c1:c≠nm+1:=by omega
     simp [live,hrc,Ne.symm hrc,c0,c1]
    by_cases y3:y=r
    ·rw [y3];simp [live,hrc,Ne.symm hrc]
    simp [y0,y1,y2,y3,Ne.symm y2,Ne.symm y3]]
   exact RD
theorem abh {x:Operand} (ho:o.op= .entry x) (h:Rf (ev x) hp k):OpK P ctx.X o ev hp nm k:=by
 unfold Rf at h
 split at h
 rotate_left
 ·exact h.elim
 rename_i r hx
 split at h
 rotate_left
 ·exact h.elim
 rename_i n c es dI ka kT uT l a0 m hr
 split at h
 rotate_left
 ·exact h.elim
 rename_i es' mH t0 l0 rk0 hn hm
 obtain ⟨rfl,rfl,h⟩:=h
 intro ro n0 ax W ρ w a next Q hX he hok hst iN
 have h1:=he x (by rw [ho];simp [Op.operands])
 rw [hx] at h1
 obtain ⟨gk,gu,VJ,rb,since,seen,c0,hrb,hrh,hnb,hold,hsc,hsk,gr,afs⟩:=hst.at_ r _ hr
 obtain ⟨bm,hbm,YI⟩:=hst.at_ n _ hn
 rw [hbm] at hrh
 obtain ⟨rfl,seen',e,rfl,hem,hkey,hval⟩:=afs _ rfl
 rw [show AV.af ρ (AV.v (.one (.ptr r 0)))= .pointer (some ⟨rb,0,none⟩) by simp [AV.af,A0.af,Cell.af,addrOf,hrb]] at h1
 have hrun:=run_entry_at (P:=P) w rb bm since seen' es' c0 e hrh YI hem VJ.2
 have AI:(execOp a.eval o).run P w= .ok (.value (.tuple #[e.key,e.val])) w:=by
  simp [execOp,ho,h1,hrun]
 refine ⟨fun _ _=>trivial,?_⟩
 rw [Oper.semAt_eq _ _ _ (fun c e=>by rw [ho] at e;cases e),AI]
 simp only [Oper.uponIn]
 have hcv:(AV.r7 [Cx ka kT a0,.one (.full m)]).af ρ= .tuple #[e.key,e.val]:=by
  show Value.tuple #[(Cx ka kT a0).af ρ,.slice (ρ m).base (ρ m).len (ρ m).cap]=_
  rw [pS,hkey,hval]
 have:=iN _ ρ w h (fun p hp=>absurd hp (by simp)) (fun _ _=>rfl) (fun q hq=>by
  simp only [List.mem_cons,List.not_mem_nil,or_false] at hq
  rcases hq with rfl|rfl
  ·exact FT _ _ _ _
  ·exact .inl (hst.kn m _ hm).1) (by rw [gH,si];exact hst)
 rw [hcv] at this;exact this
theorem agK (hT:aU P ctx.tt) (hC:qx P ctx) (h:R7 ctx o.op ev hp nm k):OpK P ctx.X o ev hp nm k:=by
 cases hy:OR ctx ev o.op with
 |false=>
  obtain ⟨r,h1,h2⟩:=Uj (ctx:= {ctx with ys:= [],dL:= []}) hT ⟨hC.sp,rfl,rfl⟩ (Wq h hy)
  exact .aev h1 h2
 |true=>
  unfold OR at hy
  split at hy
  ·rename_i c ho
   split at hy
   ·rename_i f hc
    obtain ⟨callee,args,argTypes⟩:=c
    dsimp only at hc
    subst hc
    have hd: ∀c,o.op≠ .defer c:=fun c e=>by rw [ho] at e;cases e
    have hmem: ∀x∈args.toList,x∈o.op.operands:=fun x hx=>by rw [ho];simp [Op.operands,Call.operands,Array.mem_toList_iff.1 hx]
    have hfm:f∈o.op.operands:=by rw [ho];simp [Op.operands,Call.operands]
    have hargs: ∀(a:Act) (ρ:Env),(∀x∈o.op.operands,a.eval x=(ev x).af ρ)->args.map a.eval=((tG ev args.toList).map (AV.af ρ)).toArray:=by
     intro a ρ he
     apply Array.ext'
     simp only [Array.toList_map,nX,List.map_map]
     exact List.map_congr_left fun x hx=>he x (hmem x hx)
    have Kp:(∀x∈o.op.operands,(ev x).ok (· <nm))-> ∀x∈tG ev args.toList,x.ok (· <nm):=by
     intro hk x hx
     rw [nX] at hx
     obtain ⟨y,hy,rfl⟩:=List.mem_map.1 hx
     exact hk y (hmem y hy)
    split at hy
    ·rename_i q Jx
     rw [ho] at h
     split at hy
     ·rename_i g fs cs hq
      simp only [R7,J6,Jx,hq] at h
      obtain ⟨hqc,hqk⟩:=J8 hq
      split at h
      ·rename_i s hs
       rw [hs] at hy;cases hy
      split at h
      rotate_left
      ·exact h.elim
      rename_i RR hg
      obtain ⟨adQ,YE⟩:=hC.dL g RR hg
      intro ro n ax W ρ w a next Q hX he hk hst iN
      obtain ⟨Jn,jG,RD⟩:=hst.pinned
      have hlen:(lA hp nm++ [aI.gU ρ nm]).length=nm+1:=by simp [b8]
      have Kq: ∀m,hp m≠some .gone:=fun m e=>hst.at_ m _ e
      have hkl: ∀m,(hp m).isSome=true->m<nm:=fun m hm=>by
       obtain ⟨o,ho⟩:=Option.isSome_iff_exists.1 hm
       exact (hst.kn m o ho).1
      have hfk:=hk f hfm
      rw [Jx] at hfk
      obtain ⟨k1,k2⟩:=hqk _ hfk
      have hfull: ∀x∈fs++tG ev args.toList++cs,x.ok (· <nm):=fun x hx=>by
       rcases List.mem_append.1 hx with hx|hx
       ·rcases List.mem_append.1 hx with hx|hx
        ·exact k1 x hx
        ·exact Kp hk x hx
       ·exact k2 x hx
      have TQ:=YE [] _ _ _ (h ρ) (y9.nil P) ax W Jn w hX (fun x hx=>AV.bg (fun i hi=>by rw [hlen];omega) x (hfull x hx)) (by rw [hlen];exact RD)
      refine ⟨fun _ _=>trivial,?_⟩
      have hf:=he f hfm
      rw [Jx] at hf
      have hrun:(execOp a.eval o).run P w= .ok (.enter g ((fs++tG ev args.toList++cs).map (AV.af Jn)).toArray) w:=by
       simp only [execOp,ho,resolve,Sem.run_bind,hf,AV.af,A0.af,hqc ρ,Deferred.ofValue,Sem.run_pure,Result.andThen_ok,invoke]
       rw [hargs a ρ he,adQ]
       congr 2
       apply Array.ext'
       have e0:(fs++tG ev args.toList++cs).map (AV.af Jn)=(fs++tG ev args.toList++cs).map (AV.af ρ):=List.map_congr_left fun x hx=>AV.cg (Kn:=(· <nm)) jG x (hfull x hx)
       rw [e0]
       simp [List.map_append,-List.map_map]
      rw [Oper.semAt_eq _ _ _ hd,hrun]
      simp only [Oper.uponIn]
      refine ⟨fun h=>by simp [fw] at h,zb ?_⟩
      refine TQ.mono ?_
      rintro e w' ⟨st,ρ',v,rfl,NZ,hR,yg⟩
      obtain ⟨hp1,hkk⟩:=mL hR
      have hlt:=iC hp1
      have oS: ∀m,m<nm->ρ' m=ρ m:=(yg.at_ _ _ hp1).2
      have hd2:=yg.diff (v:=v) hlt Kq hkl
      refine iN _ ρ' w' hkk (fun p hp=>AJ hp) oS ?_ hd2
      exact AV.bg (fun i hi=>by simp only [jO,An,List.length_drop,List.length_set];omega) v NZ
     ·rename_i hq
      split at hy
      rotate_left
      ·cases hy
      rename_i m
      simp only [R7,J6,Jx,hq] at h
      split at h
      ·rename_i s hg
       have hkk:=hC.ys m s hg ctx.X _ hp nm k h
       intro ro n ax W ρ w a next Q hX he hk hst iN
       obtain ⟨l,g,tmps,assign,body,hl,hrun,ad9⟩:=hkk ro (n- 1) ax W ρ w hX (Kp hk) hst
       refine ⟨fun _ _=>trivial,?_⟩
       rw [Oper.semAt_eq _ _ _ hd]
       have:(execOp a.eval o).run P w= .ok (.round l g tmps assign body) w:=by
        have hf:=he f hfm
        rw [Jx] at hf
        simp only [execOp,ho,resolve,Sem.run_bind,hf,AV.af,A0.af,Cell.af,hl,Deferred.ofValue,Sem.run_pure,Result.andThen_ok,invoke]
        rw [hargs a ρ he]
        simpa using hrun
       rw [this,Oper.uponIn_round]
       refine ⟨fun h=>by simp [fw] at h,ad9.mono ?_⟩
       rintro e w' ⟨r,ρ',hkr,hw,rfl,oS,NZ,yg⟩
       exact iN r ρ' w' hkr hw oS NZ yg
      ·exact h.elim
    ·cases hy
   ·cases hy
  ·rename_i op t x y yt ho
   rw [ho] at h
   simp only [R7] at h
   rw [if_pos hy] at h
   exact agG hT ho h
  ·rename_i t x ho
   rw [ho] at h
   simp only [R7] at h
   split at h
   ·exact h.elim
   ·exact acg hT ho h
  ·rename_i x b ho
   rw [ho] at h
   cases b with
   |true=>exact h.elim
   |false=>
    simp only [R7] at h
    split at h
    ·exact h.elim
    ·exact aeo ho h
  ·rename_i x ho
   rw [ho] at h
   simp only [R7] at h
   split at h
   ·exact h.elim
   ·exact abh ho h
  ·cases hy
end
end Go.Ev
