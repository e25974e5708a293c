/- Each operation does what 'opE' says; a call does what its contract says. -/
import Derived.Test.YtojielnkfeoccaaGreatEvE0
import Derived.Test.YtojielnkfeoccaaGreatEvD6
noncomputable section
set_option linter.unusedSectionVars false
set_option linter.unusedVariables false
set_option linter.unusedSimpArgs false
namespace Go.Ev
open Go.RowKit
def Vn (P:Program) (f:FuncId) (X:Addr->Value->Prop) (args:List AV) (hp:HP) (nm:Nat) (r:Rec):Prop:=
 (∀p∈r.writes,hp p.1≠none)/\ ∀ax W ρ Kn Γ w,Ac ax W X->(∀x∈args,x.ok Kn)->(∀m∈r.aB,Γ m=hp m)->(∀i,i<r.fresh.length-> ¬Kn (nm+i))->St ax W ρ Kn Γ w->
  Calls P f (args.map (AV.ae ρ)).toArray w fun e w'=> ∃ρ',e= .returned (r.val.ae ρ')/\ (∀m,Kn m->ρ' m=ρ m)/\ r.val.ok (iK Kn nm r)/\ St ax W ρ' (iK Kn nm r) (cq r nm Γ) w'
def ak (P:Program) (f:FuncId) (s:Spec):Prop:= ∀X args hp nm k,s X args hp nm k-> ∃r,Vn P f X args hp nm r/\ k r
def Enters (P:Program) (f:FuncId):Prop:= ∀args w,(callFunc f args).run P w= .ok (.enter f args) w
def af (P:Program) (specs:List (Nat×Spec)):Prop:= ∀f s,aG specs f=some s->Enters P f/\ ak P f s
theorem af.nil (P:Program):af P []:=fun _ _ h=>by cases h
theorem af.cons {P:Program} {f:FuncId} {s:Spec} {l:List (Nat×Spec)} (he:Enters P f) (h:ak P f s) (hl:af P l):af P ((f,s)::l):=by
 intro g q hg
 unfold aG at hg
 split at hg
 ·rename_i e;subst e;cases hg;exact ⟨he,h⟩
 ·exact hl g q hg
def acy (P:Program) (n:Nat) (X:Addr->Value->Prop) (args:List AV) (hp:HP) (nm:Nat) (k:Rec->Prop):Prop:=
 ∀ro m ax W ρ w,Ac ax W X->(∀x∈args,x.ok (· <nm))->St ax W ρ (· <nm) hp w->
  ∃l f tmps assign body,(ρ n).1=some l/\ (Instr.yield l (args.map (AV.ae ρ)).toArray).run P w= .ok (.round l f tmps assign body) w/\
   RoundIn (fw ro) m P l f tmps assign body w fun e w'=> ∃r ρ',k r/\ (∀p∈r.writes,hp p.1≠none)/\ e= .returned (r.val.ae ρ')/\ (∀m,m<nm->ρ' m=ρ m)/\ r.val.ok (iK (· <nm) nm r)/\ St ax W ρ' (iK (· <nm) nm r) (cq r nm hp) w'
def rh (P:Program) (ys:List (Nat×Spec)):Prop:= ∀n s,aG ys n=some s-> ∀X args hp nm k,s X args hp nm k->acy P n X args hp nm k
def dB (P:Program) (X:Addr->Value->Prop) (f:FuncId) (MC:iu):Prop:= ∀ys args heap R,MC ys args heap R->rh P ys-> ∀ax W ρ w,Ac ax W X->(∀x∈args,x.ok (· <heap.length))->St ax W ρ (· <heap.length) (av heap) w->
 Calls P f (args.map (AV.ae ρ)).toArray w fun e w'=> ∃st ρ' v,e= .returned (v.ae ρ')/\ v.ok (· <st.heap.length)/\ R v st/\ St ax W ρ' (· <st.heap.length) (av st.heap) w'
def aA (P:Program) (X:Addr->Value->Prop) (its:List (Nat×iu)):Prop:= ∀f MC,aG its f=some MC->Enters P f/\ dB P X f MC
structure nW (P:Program) (ctx:Ctx):Prop where
 sp:af P ctx.specs
 ys:rh P ctx.ys
 its:aA P ctx.X ctx.its
structure G2 (P:Program) (ctx:Ctx):Prop where
 sp:af P ctx.specs
 ys:ctx.ys= []
 its:ctx.its= []
theorem rh.nil (P:Program):rh P []:=fun _ _ h=>by cases h
theorem aA.nil (P:Program) (X:Addr->Value->Prop):aA P X []:=fun _ _ h=>by cases h
section
variable (P:Program) (X:Addr->Value->Prop)
def bL (o:Oper) (ev:Operand->AV) (hp:HP) (nm:Nat) (r:Rec):Prop:=
 (∀p∈r.writes,hp p.1≠none)/\ ∀ro n ax W ρ Kn Γ w a next Q,Ac ax W X->(∀x∈o.op.operands,a.eval x=(ev x).ae ρ)->(∀x∈o.op.operands,(ev x).ok Kn)->(∀m∈r.aB,Γ m=hp m)->
  (∀i,i<r.fresh.length-> ¬Kn (nm+i))->St ax W ρ Kn Γ w->
  (∀ρ' w',(∀m,Kn m->ρ' m=ρ m)->r.val.ok (iK Kn nm r)->St ax W ρ' (iK Kn nm r) (cq r nm Γ) w'->next (a.put o.dst (r.val.ae ρ')) w')->
  o.wpIn (fw ro) n P a w next Q
end
section
variable {P:Program} {X:Addr->Value->Prop} {hp:HP} {nm:Nat} {k:Rec->Prop} {o:Oper} {ev:Operand->AV}
theorem bL.gA {AF:(Nat->Prop)->Prop} {f:Env->Sem Value} {r:Rec} (hs:aJ P X hp nm AF f (fun ρ=>r.val.ae ρ) r)
  (hok: ∀Kn,(∀x∈o.op.operands,(ev x).ok Kn)->AF Kn) (hd: ∀c,o.op≠ .defer c)
  (hx: ∀(a:Act) (ρ:Env),(∀x∈o.op.operands,a.eval x=(ev x).ae ρ)->execOp a.eval o=(do pure (.value (<- f ρ)))):bL P X o ev hp nm r:=by
 refine ⟨hs.1,?_⟩
 intro ro n ax W ρ Kn Γ w a next Q hX he hk ht hf hst gZ
 obtain ⟨ρ',w',hrun,l5,IU,nn⟩:=hs.2 ax W ρ Kn Γ w hX (hok Kn hk) ht hf hst
 refine ⟨fun _ _=>trivial,?_⟩
 rw [Oper.semAt_eq _ _ _ hd,hx a ρ he]
 simp only [Sem.run_bind,hrun,Result.andThen_ok,Sem.run_pure,Oper.uponIn]
 exact gZ ρ' w' l5 IU nn
theorem bL.xF {AF:(Nat->Prop)->Prop} {f:Env->Sem Unit} {r:Rec} (hs:aJ P X hp nm AF f (fun _=>()) r) (hv:r.val=aT)
  (hok: ∀Kn,(∀x∈o.op.operands,(ev x).ok Kn)->AF Kn) (hd: ∀c,o.op≠ .defer c)
  (hx: ∀(a:Act) (ρ:Env),(∀x∈o.op.operands,a.eval x=(ev x).ae ρ)->execOp a.eval o=(do f ρ;pure .skip)):bL P X o ev hp nm r:=by
 refine ⟨hs.1,?_⟩
 intro ro n ax W ρ Kn Γ w a next Q hX he hk ht hf hst gZ
 obtain ⟨ρ',w',hrun,l5,IU,nn⟩:=hs.2 ax W ρ Kn Γ w hX (hok Kn hk) ht hf hst
 refine ⟨fun _ _=>trivial,?_⟩
 rw [Oper.semAt_eq _ _ _ hd,hx a ρ he]
 simp only [Sem.run_bind,hrun,Result.andThen_ok,Sem.run_pure,Oper.uponIn]
 have:=gZ ρ' w' l5 IU nn
 rw [hv] at this;exact this
theorem bL.same {v:AV} {tc:List Nat} (hd: ∀c,o.op≠ .defer c) (hv: ∀Kn,(∀x∈o.op.operands,(ev x).ok Kn)->v.ok Kn)
  (hx: ∀(a:Act) (ρ:Env) (Γ:HP) (ax:jh) (W w:World) (Kn:Nat->Prop),(∀x∈o.op.operands,a.eval x=(ev x).ae ρ)->(∀m∈tc,Γ m=hp m)->St ax W ρ Kn Γ w->(execOp a.eval o).run P w= .ok (.value (v.ae ρ)) w):
  bL P X o ev hp nm {val:=v,aB:=tc} :=by
 refine ⟨fun p hp=>absurd hp (by simp),?_⟩
 intro ro n ax W ρ Kn Γ w a next Q hX he hk ht hf hst gZ
 refine ⟨fun _ _=>trivial,?_⟩
 rw [Oper.semAt_eq _ _ _ hd,hx a ρ Γ ax W w Kn he ht hst]
 simp only [Oper.uponIn]
 exact gZ ρ w (fun _ _=>rfl) (by rw [fe];exact hv Kn hk) (by rw [fe,mU];exact hst)
theorem uS {ro:Option Nat} {n:Nat} {f:FuncId} {args:Array Value} {w:World} {R:Ending->World->Prop} (h:Calls P f args w R):CallsIn (fw ro) n P f args w R:=by
 have:=(callsIn_wide (n:=n)).2 h
 exact this
theorem lT (ev:Operand->AV) (l:List Operand):qz ev l=l.map ev:=by induction l<;>simp_all [qz]
theorem K8 {a:A0} {v:Value} (h:vP a=some v) (ρ:Env):a.ae ρ=v:=by
 have hl: ∀(cs:List Cell) (l:List Value),vP.DB cs=some l->cs.map (Cell.ae ρ)=l:=by
  intro cs
  induction cs with
  |nil=>intro l h;simp only [vP.DB,Option.some.injEq] at h;subst h;rfl
  |cons c r ih=>
   intro l h
   cases c<;>simp only [vP.DB,Option.map_eq_some_iff] at h<;>try (cases h;done)
   obtain ⟨l',h1,rfl⟩:=h
   simp [Cell.ae,ih l' h1]
 cases a with
 |one c=>cases c<;>simp [vP] at h;subst h;rfl
 |agg cs=>
  simp only [vP,Option.map_eq_some_iff] at h
  obtain ⟨l,h1,rfl⟩:=h
  simp [A0.ae,hl cs l h1]
theorem A4 (ρ:Env): ∀(l:List AV) (vs:List Value),Ef l=some vs->l.map (AV.ae ρ)=vs
 | [],vs,h=>by simp only [Ef,Option.some.injEq] at h;subst h;rfl
 |x::r,vs,h=>by
  simp only [Ef] at h
  split at h
  ·rename_i v l h1 h2
   cases h
   cases x with
   |v a=>simp [AV.ae,K8 h1,A4 ρ r l h2]
   |lZ l=>simp [UU] at h1
   |dead=>simp [UU] at h1
  ·cases h
theorem NA {x:AV} {q:Ref} (h:UW x=some q) (ρ:Env):x.ae ρ=q.ae ρ/\ ∀Kn,x.ok Kn->q.ok Kn:=by
 unfold UW at h
 split at h<;>simp at h<;>subst h
 ·exact ⟨rfl,fun _ h=>h⟩
 ·exact ⟨rfl,fun _ h=>h⟩
 ·exact ⟨rfl,fun _ _=>trivial⟩
 ·exact ⟨rfl,fun _ h=>h⟩
 ·exact ⟨rfl,fun _ h=>h⟩
theorem s5 (ρ:Env): ∀(l:List AV) (qs:List Ref),Eg l=some qs->l.map (AV.ae ρ)=qs.map (Ref.ae ρ)/\ ∀Kn,(∀x∈l,x.ok Kn)-> ∀q∈qs,q.ok Kn
 | [],qs,h=>by simp only [Eg,Option.some.injEq] at h;subst h;exact ⟨rfl,fun _ _ q hq=>absurd hq (by simp)⟩
 |x::r,qs,h=>by
  simp only [Eg] at h
  split at h
  ·rename_i v l h1 h2
   cases h
   obtain ⟨e1,k1⟩:=NA h1 ρ
   obtain ⟨e2,k2⟩:=s5 ρ r l h2
   exact ⟨by simp [e1,e2],fun Kn hk q hq=>by
    rcases List.mem_cons.1 hq with rfl|hq
    ·exact k1 Kn (hk x (by simp))
    ·exact k2 Kn (fun y hy=>hk y (by simp [hy])) q hq⟩
  ·cases h
theorem vq (ρ:Env) (q:Ref):(xE q).ae ρ=q.ae ρ:=by
 cases q with
 |ext v=>exact sI v ρ
 |loc n off=>rfl
 |elem n j=>rfl
 |full n=>rfl
 |mp n=>rfl
theorem Kk {Kn:Nat->Prop} {q:Ref} (h:q.ok Kn):(xE q).ok Kn:=by cases q<;>first|exact zy _ _|exact h
theorem qI (ρ:Env) (q:Ref):(xL q).ae ρ=q.ae ρ:=by cases q<;>rfl
theorem DD {Kn:Nat->Prop} {q:Ref} (h:q.ok Kn):(xL q).ok Kn:=by cases q<;>first|trivial|exact h
theorem M5 (ρ:Env) (agg:Bool) (rs:List Ref):(Ks agg rs).ae ρ=OH agg (rs.map (Ref.ae ρ)):=by
 unfold Ks OH
 cases agg with
 |true=>simp only [AV.ae,A0.ae,List.map_map];congr 2;exact List.map_congr_left fun q _=>qI ρ q
 |false=>match rs with
  | []=>rfl
  | [r]=>exact qI ρ r
  |_::_::_=>rfl
theorem Uh {Kn:Nat->Prop} {agg:Bool} {rs:List Ref} (h: ∀r∈rs,r.ok Kn):(Ks agg rs).ok Kn:=by
 unfold Ks
 cases agg with
 |true=>intro c hc;obtain ⟨r,hr,rfl⟩:=List.mem_map.1 hc;exact DD (h r hr)
 |false=>match rs,h with
  | [],_=>intro a ha;cases ha
  | [r],h=>exact DD (h r (by simp))
  |_::_::_,_=>intro a ha;cases ha
theorem E7 {q:Cell} {g:FuncId} {fs cs:List AV} (h:VG q=some (g,fs,cs)):
  (∀ρ:Env,q.ae ρ= .func (.func g) (fs.map (AV.ae ρ)).toArray (cs.map (AV.ae ρ)).toArray)/\ ∀Kn,q.ok Kn->(∀x∈fs,x.ok Kn)/\ ∀x∈cs,x.ok Kn:=by
 unfold VG at h
 split at h
 ·cases h
  rename_i first cap
  refine ⟨fun ρ=> ?_,fun Kn hk=>⟨fun x hx=> ?_,fun x hx=> ?_⟩⟩
  ·have e1:List.map (AV.ae ρ) (first.map Ws)=first:=by rw [List.map_map];exact (List.map_congr_left fun v _=>sI v ρ).trans (List.map_id _)
   have e2:List.map (AV.ae ρ) (cap.map xE)=cap.map (Ref.ae ρ):=by rw [List.map_map];exact List.map_congr_left fun v _=>vq ρ v
   rw [e1,e2];rfl
  ·obtain ⟨v,_,rfl⟩:=List.mem_map.1 hx;exact zy _ _
  ·obtain ⟨r,hr,rfl⟩:=List.mem_map.1 hx;exact Kk (hk r hr)
 ·cases h
  refine ⟨fun ρ=> ?_,fun Kn hk=>⟨fun x hx=> ?_,fun x hx=>by cases hx⟩⟩
  ·simp only [List.map_cons,List.map_nil,M5];rfl
  ·rw [List.mem_singleton] at hx;subst hx;exact Uh hk
 ·cases h
theorem wo {c:Cell} {r:Ref} (h:BL c=some r):(∀ρ:Env,r.ae ρ=c.ae ρ)/\ (∀ρ:Env,(c.ae ρ).oneCell'=true)/\ ∀Kn,c.ok Kn->r.ok Kn:=by
 unfold BL at h
 split at h
 ·cases h;exact ⟨fun _=>rfl,fun _=>rfl,fun _ h=>h⟩
 ·cases h;exact ⟨fun _=>rfl,fun _=>rfl,fun _ h=>h⟩
 ·split at h
  ·rename_i hv
   cases h;exact ⟨fun _=>rfl,fun ρ=>Cell.Cv (c:= .raw _) hv ρ,fun _ _=>trivial⟩
  ·cases h
 ·cases h;exact ⟨fun _=>rfl,fun _=>rfl,fun _ h=>h⟩
 ·cases h;exact ⟨fun _=>rfl,fun _=>rfl,fun _ h=>h⟩
 ·cases h
theorem uf: ∀ {cs:List Cell} {rs:List Ref},rN cs=some rs->(∀ρ:Env,rs.map (Ref.ae ρ)=cs.map (Cell.ae ρ))/\ ∀Kn,(∀c∈cs,c.ok Kn)-> ∀r∈rs,r.ok Kn
 | [],rs,h=>by simp only [rN,Option.some.injEq] at h;subst h;simp
 |c::l,rs,h=>by
  simp only [rN] at h
  split at h
  ·rename_i x m h1 h2
   cases h
   obtain ⟨e1,e2⟩:=uf h2
   obtain ⟨e3,_,e4⟩:=wo h1
   refine ⟨fun ρ=>by simp [e1,e3],fun Kn hk r hr=> ?_⟩
   rcases List.mem_cons.1 hr with rfl|hr
   ·exact e4 Kn (hk c (by simp))
   ·exact e2 Kn (fun c hc=>hk c (by simp [hc])) r hr
  ·cases h
theorem Kt {v:AV} {agg:Bool} {rs:List Ref} (h:M6 v=some (agg,rs)):(∀ρ:Env,OH agg (rs.map (Ref.ae ρ))=v.ae ρ)/\ ∀Kn,v.ok Kn-> ∀r∈rs,r.ok Kn:=by
 unfold M6 at h
 split at h
 ·split at h
  ·rename_i l hl
   cases h
   obtain ⟨e1,e2⟩:=uf hl
   exact ⟨fun ρ=>by rw [e1];rfl,e2⟩
  ·cases h
 ·split at h
  ·rename_i r hr
   cases h
   obtain ⟨e1,_,e2⟩:=wo hr
   refine ⟨fun ρ=>e1 ρ,fun Kn hk r hr=> ?_⟩
   rw [List.mem_singleton] at hr;subst hr;exact e2 Kn hk
  ·cases h
 ·cases h
end
section
variable {P:Program} {ctx:Ctx} {hp:HP} {nm:Nat} {k:Rec->Prop} {o:Oper} {ev:Operand->AV}
theorem Px (hT:aX P ctx.tt) (hS:G2 P ctx) {c:Call} (ho:o.op= .call c) (h:E5 ctx c ev hp nm k): ∃r,bL P ctx.X o ev hp nm r/\ k r:=by
 obtain ⟨callee,args,argTypes⟩:=c
 have hd: ∀c,o.op≠ .defer c:=fun c e=>by rw [ho] at e;cases e
 have hargs: ∀(a:Act) (ρ:Env),(∀x∈o.op.operands,a.eval x=(ev x).ae ρ)->args.map a.eval=((qz ev args.toList).map (AV.ae ρ)).toArray:=by
  intro a ρ he
  apply Array.ext'
  simp only [Array.toList_map,lT,List.map_map]
  refine List.map_congr_left fun x hx=>he x ?_
  rw [ho];simp [Op.operands,Call.operands,Array.mem_toList_iff.1 hx]
 have Fq: ∀Kn,(∀x∈o.op.operands,(ev x).ok Kn)-> ∀x∈qz ev args.toList,x.ok Kn:=by
  intro Kn hk x hx
  rw [lT] at hx
  obtain ⟨y,hy,rfl⟩:=List.mem_map.1 hx
  exact hk y (by rw [ho];simp [Op.operands,Call.operands,Array.mem_toList_iff.1 hy])
 have enter: ∀(g:FuncId) (s:Spec) (full:List AV) (f:Operand) (fnv:AV),callee= .value f->ev f=fnv->aG ctx.specs g=some s->s ctx.X full hp nm k->
   (∀Kn,(∀x∈o.op.operands,(ev x).ok Kn)-> ∀x∈full,x.ok Kn)->
   (∀(a:Act) (ρ:Env) (w:World),(∀x∈o.op.operands,a.eval x=(ev x).ae ρ)->(execOp a.eval o).run P w= .ok (.enter g (full.map (AV.ae ρ)).toArray) w)-> ∃r,bL P ctx.X o ev hp nm r/\ k r:=by
  intro g s full f fnv _ _ hg hs Vb hrun
  obtain ⟨r,hr,hkr⟩:=(hS.sp g s hg).2 ctx.X full hp nm k hs
  refine ⟨r,⟨hr.1,?_⟩,hkr⟩
  intro ro n ax W ρ Kn Γ w a next Q hX he hk ht hf hst gZ
  refine ⟨fun _ _=>trivial,?_⟩
  rw [Oper.semAt_eq _ _ _ hd,hrun a ρ w he]
  simp only [Oper.uponIn]
  refine ⟨fun h=>by simp [fw] at h,uS ?_⟩
  refine (hr.2 ax W ρ Kn Γ w hX (Vb Kn hk) ht hf hst).mono ?_
  rintro e w' ⟨ρ',rfl,l5,IU,nn⟩
  exact gZ ρ' w' l5 IU nn
 unfold E5 at h
 dsimp only at h
 split at h
 ·rename_i b
  obtain ⟨r,hr,hkr⟩:=Hf (P:=P) (nm:=nm) hT h o.type (args.map fun| .const _=>true|_=>false)
  refine ⟨r,⟨hr.1,?_⟩,hkr⟩
  intro ro n ax W ρ Kn Γ w a next Q hX he hk ht hf hst gZ
  obtain ⟨ρ',w',hrun,l5,IU,nn⟩:=hr.2 ax W ρ Kn Γ w hX (Fq Kn hk) ht hf hst
  refine ⟨fun _ _=>trivial,?_⟩
  rw [Oper.semAt_eq _ _ _ hd]
  have:(execOp a.eval o).run P w= .ok (.value (r.val.ae ρ')) w':=by
   simp only [execOp,ho,resolve,Sem.run_bind,Sem.run_pure,Result.andThen_ok,invoke]
   rw [hargs a ρ he]
   exact hrun
  rw [this]
  simp only [Oper.uponIn]
  exact gZ ρ' w' l5 IU nn
 ·rename_i f
  have V3:f∈o.op.operands:=by rw [ho];simp [Op.operands,Call.operands]
  split at h
  ·rename_i q nk
   split at h
   ·rename_i g fs cs hq
    obtain ⟨hqc,hqk⟩:=E7 hq
    split at h
    ·rename_i s hg
     refine enter g s _ f _ rfl nk hg h ?_ ?_
     ·intro Kn hk x hx
      have Vb:=hk f V3
      rw [nk] at Vb
      obtain ⟨k1,k2⟩:=hqk Kn Vb
      rcases List.mem_append.1 hx with hx|hx
      ·rcases List.mem_append.1 hx with hx|hx
       ·exact k1 x hx
       ·exact Fq Kn hk x hx
      ·exact k2 x hx
     ·intro a ρ w he
      have hf:=he f V3
      rw [nk] at hf
      simp only [execOp,ho,resolve,Sem.run_bind,hf,AV.ae,A0.ae,hqc ρ,Deferred.ofValue,Sem.run_pure,Result.andThen_ok,invoke]
      rw [hargs a ρ he,(hS.sp g s hg).1]
      congr 2
      apply Array.ext'
      simp [List.map_append,-List.map_map]
    ·rw [hS.its] at h
     exact h.elim
   ·split at h
    ·rename_i g first cap hq
     split at h
     ·rename_i s hg
      refine enter g s _ f _ rfl nk hg h ?_ ?_
      ·intro Kn hk x hx
       rcases List.mem_append.1 hx with hx|hx
       ·rcases List.mem_append.1 hx with hx|hx
        ·obtain ⟨v,_,rfl⟩:=List.mem_map.1 hx;exact zy _ _
        ·exact Fq Kn hk x hx
       ·obtain ⟨q,hq,rfl⟩:=List.mem_map.1 hx;exact zy _ _
      ·intro a ρ w he
       have hf:=he f V3
       rw [nk] at hf
       simp only [execOp,ho,resolve,Sem.run_bind,hf,AV.ae,A0.ae,Cell.ae,Deferred.ofValue,Sem.run_pure,Result.andThen_ok,invoke]
       rw [hargs a ρ he,(hS.sp g s hg).1]
       congr 2
       apply Array.ext'
       have e1: ∀l:List Value,List.map (AV.ae ρ) (l.map Ws)=l:=fun l=>by rw [List.map_map];exact (List.map_congr_left fun v _=>sI v ρ).trans (List.map_id _)
       simp [List.map_append,-List.map_map,e1]
     ·exact h.elim
    ·rw [hS.ys] at h
     exact h.elim
    ·exact h.elim
  ·exact h.elim
 ·exact h.elim
theorem Ih (hT:aX P ctx.tt) (hS:G2 P ctx) (h:zz ctx o.op ev hp nm k): ∃r,bL P ctx.X o ev hp nm r/\ k r:=by
 unfold zz at h
 split at h
 ·rename_i x ho
  exact ⟨_,bL.same (fun c e=>by rw [ho] at e;cases e) (fun Kn hk=>hk x (by rw [ho];simp [Op.operands])) fun a ρ Γ ax W w Kn he _ _=>by simp [execOp,ho,he x (by rw [ho];simp [Op.operands])],h⟩
 ·rename_i x ho
  exact ⟨_,bL.same (fun c e=>by rw [ho] at e;cases e) (fun Kn hk=>hk x (by rw [ho];simp [Op.operands])) fun a ρ Γ ax W w Kn he _ _=>by simp [execOp,ho,he x (by rw [ho];simp [Op.operands])],h⟩
 ·rename_i c x y ho
  split at h
  ·rename_i t hc
   cases t with
   |true=>
    refine ⟨_,bL.same (fun c e=>by rw [ho] at e;cases e) (fun Kn hk=>hk x (by rw [ho];simp [Op.operands])) fun a ρ Γ ax W w Kn he _ _=> ?_,h⟩
    have h1:=he c (by rw [ho];simp [Op.operands])
    rw [hc] at h1
    simp [execOp,ho,h1,AV.ae,A0.ae,Cell.ae,asBool,he x (by rw [ho];simp [Op.operands])]
   |false=>
    refine ⟨_,bL.same (fun c e=>by rw [ho] at e;cases e) (fun Kn hk=>hk y (by rw [ho];simp [Op.operands])) fun a ρ Γ ax W w Kn he _ _=> ?_,h⟩
    have h1:=he c (by rw [ho];simp [Op.operands])
    rw [hc] at h1
    simp [execOp,ho,h1,AV.ae,A0.ae,Cell.ae,asBool,he y (by rw [ho];simp [Op.operands])]
  ·exact h.elim
 ·rename_i t ho
  split at h
  ·rename_i i hi
   exact ⟨_,bL.gA (Pn hT hi) (fun _ _=>trivial) (fun c e=>by rw [ho] at e;cases e) fun a ρ he=>by simp [execOp,ho],h⟩
  ·exact h.elim
 ·rename_i t x ho
  split at h
  ·rename_i xs hxs
   exact ⟨_,bL.gA (VD hxs (ctx:=ctx)) (fun Kn hk=>hk x (by rw [ho];simp [Op.operands])) (fun c e=>by rw [ho] at e;cases e) fun a ρ he=>by simp [execOp,ho,he x (by rw [ho];simp [Op.operands])],h⟩
  ·exact h.elim
 ·rename_i t parts ho
  split at h
  ·rename_i i hi
   obtain ⟨r,h1,h2⟩:=LA (nm:=nm) (hp:=hp) hT hi h
   refine ⟨r,bL.gA h1 (fun Kn hk p hp=>hk p.2 ?_) (fun c e=>by rw [ho] at e;cases e) fun a ρ he=> ?_,h2⟩
   ·rw [ho];simp only [Op.operands,List.mem_toArray,List.mem_map];exact ⟨p,hp,rfl⟩
   ·have:(parts.map fun (i,x)=>(i,a.eval x))=parts.map fun (i,x)=>(i,(ev x).ae ρ):=Array.map_congr_left fun p hp=>by
     show (p.1,a.eval p.2)=(p.1,(ev p.2).ae ρ)
     rw [he p.2 (by rw [ho];simp only [Op.operands,List.mem_toArray,List.mem_map];exact ⟨p,Array.mem_toList_iff.2 hp,rfl⟩)]
    simp only [execOp,ho,this]
  ·exact h.elim
 ·rename_i t len parts ho
  split at h
  ·rename_i i hi
   split at h
   ·rename_i h0
    simp only [Bool.and_eq_true,List.isEmpty_iff] at h0
    obtain ⟨r,h1,h2⟩:=EH (hp:=hp) hT hi h
    refine ⟨r,bL.gA h1 (fun _ _=>trivial) (fun c e=>by rw [ho] at e;cases e) fun a ρ he=> ?_,h2⟩
    have e1:len=0:=Nat.eq_of_beq_eq_true h0.1
    have e2:parts= #[]:=by cases parts;simp_all
    subst e1;subst e2
    simp [execOp,ho]
   obtain ⟨r,h1,h2⟩:=Bd (hp:=hp) hT hi h
   refine ⟨r,bL.gA h1 (fun Kn hk p hp=>hk p.2 ?_) (fun c e=>by rw [ho] at e;cases e) fun a ρ he=> ?_,h2⟩
   ·rw [ho];simp only [Op.operands,List.mem_toArray,List.mem_map];exact ⟨p,hp,rfl⟩
   ·have:(parts.map fun (i,x)=>(i,a.eval x))=parts.map fun (i,x)=>(i,(ev x).ae ρ):=Array.map_congr_left fun p hp=>by
     show (p.1,a.eval p.2)=(p.1,(ev p.2).ae ρ)
     rw [he p.2 (by rw [ho];simp only [Op.operands,List.mem_toArray,List.mem_map];exact ⟨p,Array.mem_toList_iff.2 hp,rfl⟩)]
    simp only [execOp,ho,this]
  ·exact h.elim
 ·rename_i t x ho
  split at h
  ·rename_i i hi
   split at h
   ·obtain ⟨r,h1,h2⟩:=Jq (nm:=nm) hT hi h
    exact ⟨r,bL.gA h1 (fun Kn hk=>hk x (by rw [ho];simp [Op.operands])) (fun c e=>by rw [ho] at e;cases e) fun a ρ he=>by simp [execOp,ho,he x (by rw [ho];simp [Op.operands])],h2⟩
   obtain ⟨r,h1,h2⟩:=QA (nm:=nm) hT hi h
   exact ⟨r,bL.gA h1 (fun Kn hk=>hk x (by rw [ho];simp [Op.operands])) (fun c e=>by rw [ho] at e;cases e) fun a ρ he=>by simp [execOp,ho,he x (by rw [ho];simp [Op.operands])],h2⟩
  ·exact h.elim
 ·rename_i t x y ho
  split at h
  ·rename_i i hi
   split at h
   ·obtain ⟨r,h1,h2,h3⟩:=Hv (nm:=nm) hT hi h
    exact ⟨r,bL.xF h1 h2 (fun Kn hk=>⟨hk x (by rw [ho];simp [Op.operands]),hk y (by rw [ho];simp [Op.operands])⟩) (fun c e=>by rw [ho] at e;cases e)
     fun a ρ he=>by simp [execOp,ho,he x (by rw [ho];simp [Op.operands]),he y (by rw [ho];simp [Op.operands])],h3⟩
   obtain ⟨r,h1,h2,h3⟩:=Nw (nm:=nm) hT hi h
   exact ⟨r,bL.xF h1 h2 (fun Kn hk=>⟨hk x (by rw [ho];simp [Op.operands]),hk y (by rw [ho];simp [Op.operands])⟩) (fun c e=>by rw [ho] at e;cases e)
    fun a ρ he=>by simp [execOp,ho,he x (by rw [ho];simp [Op.operands]),he y (by rw [ho];simp [Op.operands])],h3⟩
  ·exact h.elim
 ·rename_i x ho
  have As:x∈o.op.operands:=by rw [ho];simp [Op.operands]
  split at h
  ·rename_i n off hx
   obtain ⟨⟨ob,mw,hblk⟩,hk⟩:=dx h
   refine ⟨_,bL.same (fun c e=>by rw [ho] at e;cases e) (fun Kn hk=>by have:=hk x As;rw [hx] at this;exact this) fun a ρ Γ ax W w Kn he ht hst=> ?_,hk⟩
   obtain ⟨b,hb⟩:=hblk _ _ ρ w (hst.at_ n ob (by rw [ht n (by simp),mw]))
   have h1:=he x As
   rw [hx,lV hb] at h1
   simp [execOp,ho,h1,lV hb]
  ·rename_i n off hx
   obtain ⟨⟨ob,mw,hblk⟩,hk⟩:=dx h
   refine ⟨_,bL.same (fun c e=>by rw [ho] at e;cases e) (fun Kn hk=>by have:=hk x As;rw [hx] at this;exact this) fun a ρ Γ ax W w Kn he ht hst=> ?_,hk⟩
   obtain ⟨b,hb⟩:=hblk _ _ ρ w (hst.at_ n ob (by rw [ht n (by simp),mw]))
   have h1:=he x As
   rw [hx,mJ hb] at h1
   simp [execOp,ho,h1,mJ hb]
  ·rename_i n j q hx
   split at h
   ·rename_i hrc
    obtain ⟨c,cs,mw⟩:=FA hrc
    refine ⟨_,bL.same (fun c e=>by rw [ho] at e;cases e) (fun Kn hk=>by have:=hk x As;rw [hx] at this;exact this) fun a ρ Γ ax W w Kn he ht hst=> ?_,h⟩
    obtain ⟨b,hb⟩:=OE (hst.at_ n (.rc (c::cs)) (by rw [ht n (by simp),mw]))
    have h1:=he x As
    rw [hx,dJ hb] at h1
    simp [execOp,ho,h1,dJ hb]
   obtain ⟨u,l,rk,mw,hj,hk⟩:=eD h
   refine ⟨_,bL.same (fun c e=>by rw [ho] at e;cases e) (fun Kn hk=>by have:=hk x As;rw [hx] at this;exact this) fun a ρ Γ ax W w Kn he ht hst=> ?_,hk⟩
   obtain ⟨b,hb⟩:=(rk.2.at (hst.at_ n _ (by rw [ht n (by simp),mw]))).2.2.2 _ hj
   have h1:=he x As
   rw [hx,dJ hb] at h1
   simp [execOp,ho,h1,dJ hb]
  ·rename_i n j q hx
   obtain ⟨u,l,rk,mw,hj,hk⟩:=eD h
   refine ⟨_,bL.same (fun c e=>by rw [ho] at e;cases e) (fun Kn hk=>by have:=hk x As;rw [hx] at this;exact this) fun a ρ Γ ax W w Kn he ht hst=> ?_,hk⟩
   obtain ⟨b,hb⟩:=(rk.2.at (hst.at_ n _ (by rw [ht n (by simp),mw]))).2.2.2 _ hj
   have h1:=he x As
   rw [hx,mZ hb] at h1
   simp [execOp,ho,h1,mZ hb]
  ·rename_i f first cap hx
   refine ⟨_,bL.same (fun c e=>by rw [ho] at e;cases e) (fun Kn hk=>by have:=hk x As;rw [hx] at this;exact this) fun a ρ Γ ax W w Kn he ht hst=> ?_,h⟩
   have h1:=he x As
   rw [hx] at h1
   simp [execOp,ho,h1,AV.ae,A0.ae,Cell.ae]
  ·rename_i f agg rs hx
   refine ⟨_,bL.same (fun c e=>by rw [ho] at e;cases e) (fun Kn hk=>by have:=hk x As;rw [hx] at this;exact this) fun a ρ Γ ax W w Kn he ht hst=> ?_,h⟩
   have h1:=he x As
   rw [hx] at h1
   simp [execOp,ho,h1,AV.ae,A0.ae,Cell.ae]
  ·rename_i b hx
   refine ⟨_,bL.same (fun c e=>by rw [ho] at e;cases e) (fun Kn hk=> ?_) (fun a ρ Γ ax W w Kn he ht hst=> ?_),h⟩
   ·trivial
   have h1:=he x As
   rw [hx] at h1
   simp [execOp,ho,h1,AV.ae,A0.ae,Cell.ae]
  ·rename_i f first cap hx
   refine ⟨_,bL.same (fun c e=>by rw [ho] at e;cases e) (fun Kn hk=> ?_) (fun a ρ Γ ax W w Kn he ht hst=> ?_),h⟩
   ·trivial
   have h1:=he x As
   rw [hx] at h1
   simp [execOp,ho,h1,AV.ae,A0.ae,Cell.ae]
  ·exact h.elim
 ·rename_i op t x y yt ho
  rw [if_neg (by simp [ndB,hS.its])] at h
  split at h
  ·obtain ⟨r,h1,h2⟩:=Ue (nm:=nm) (hp:=hp) (P:=P) (ox:=x) (oy:=y) hT h
   refine ⟨r,bL.gA h1 (fun _ _=>trivial) (fun c e=>by rw [ho] at e;cases e) fun a ρ he=> ?_,h2⟩
   simp [execOp,ho,he x (by rw [ho];simp [Op.operands]),he y (by rw [ho];simp [Op.operands])]
  obtain ⟨r,h1,h2⟩:=RJ (nm:=nm) (hp:=hp) (P:=P) (ox:=x) (oy:=y) hT h
  refine ⟨r,bL.gA h1 (fun _ _=>trivial) (fun c e=>by rw [ho] at e;cases e) fun a ρ he=> ?_,h2⟩
  simp [execOp,ho,he x (by rw [ho];simp [Op.operands]),he y (by rw [ho];simp [Op.operands])]
 ·rename_i u t x ho
  have As:x∈o.op.operands:=by rw [ho];simp [Op.operands]
  split at h
  ·rename_i kk n hx
   refine ⟨_,bL.same (fun c e=>by rw [ho] at e;cases e) (fun Kn hk=> ?_) (fun a ρ Γ ax W w Kn he ht hst=> ?_),h⟩
   ·trivial
   have h1:=he x As
   rw [hx] at h1
   simp [execOp,ho,h1,AV.ae,A0.ae,Cell.ae,Op.unary,Op.intArith,eu]
  ·rename_i b hx
   refine ⟨_,bL.same (fun c e=>by rw [ho] at e;cases e) (fun Kn hk=> ?_) (fun a ρ Γ ax W w Kn he ht hst=> ?_),h⟩
   ·trivial
   have h1:=he x As
   rw [hx] at h1
   simp [execOp,ho,h1,AV.ae,A0.ae,Cell.ae,Op.unary,bH]
  ·exact h.elim
 ·rename_i s d x ho
  have As:x∈o.op.operands:=by rw [ho];simp [Op.operands]
  split at h
  ·rename_i i0 i hi0 hi
   split at h
   ·rename_i kk k1 n hd hx
    refine ⟨_,bL.same (fun c e=>by rw [ho] at e;cases e) (fun Kn hk=> ?_) (fun a ρ Γ ax W w Kn he ht hst=> ?_),h⟩
    ·trivial
    have h1:=he x As
    rw [hx] at h1
    simp [execOp,ho,h1,AV.ae,A0.ae,Cell.ae,convert,hT.u hi0,hT.u hi,hd,Conv.intToInt,eu]
   ·exact h.elim
  ·exact h.elim
 ·rename_i fn first cap ho
  split at h
  ·rename_i f c hf hc
   refine ⟨_,bL.same (fun c e=>by rw [ho] at e;cases e) (fun Kn hk=> ?_) fun a ρ Γ ax W w Kn he ht hst=> ?_,h⟩
   ·refine (s5 (fun _=> {}) _ _ hc).2 Kn fun x hx=> ?_
    rw [lT] at hx
    obtain ⟨y,hy,rfl⟩:=List.mem_map.1 hx
    exact hk y (by rw [ho];simp [Op.operands,Array.mem_toList_iff.1 hy])
   ·have e1:first.map a.eval=f.toArray:=by
     apply Array.ext'
     rw [<- A4 ρ _ _ hf,lT]
     simp only [Array.toList_map,List.map_map]
     exact List.map_congr_left fun y hy=>he y (by rw [ho];simp [Op.operands,Array.mem_toList_iff.1 hy])
    have e2:cap.map a.eval=(c.map (Ref.ae ρ)).toArray:=by
     apply Array.ext'
     rw [<- (s5 ρ _ _ hc).1,lT]
     simp only [Array.toList_map,List.map_map]
     exact List.map_congr_left fun y hy=>he y (by rw [ho];simp [Op.operands,Array.mem_toList_iff.1 hy])
    simp only [execOp,ho,Instr.makeFunc,e1,e2,AV.ae,A0.ae,Cell.ae]
    rfl
  ·split at h
   ·rename_i g r SP hcs
    split at h
    ·rename_i agg rs hr
     obtain ⟨hrc,o7⟩:=Kt hr
     have hmem: ∀y∈first.toList,y∈o.op.operands:=fun y hy=>by rw [ho];simp [Op.operands,Array.mem_toList_iff.1 hy]
     rw [lT] at SP
     obtain ⟨y,hy1⟩: ∃y,first.toList= [y]:=by
      match hm:first.toList,SP with
      | [y],_=>exact ⟨y,rfl⟩
     have hr1:ev y=r:=by rw [hy1] at SP;simpa using SP
     refine ⟨_,bL.same (fun c e=>by rw [ho] at e;cases e) (fun Kn hk=> ?_) fun a ρ Γ ax W w Kn he ht hst=> ?_,h⟩
     ·exact o7 Kn (by rw [<- hr1];exact hk y (hmem y (by rw [hy1];simp)))
     ·have e1:first.map a.eval= #[r.ae ρ]:=by
       apply Array.ext'
       simp only [Array.toList_map,hy1,List.map_cons,List.map_nil]
       rw [he y (hmem y (by rw [hy1];simp)),hr1]
      have e2:cap.map a.eval= #[]:=by
       apply Array.ext'
       simp [Array.toList_map,hcs]
      simp only [execOp,ho,Instr.makeFunc,e1,e2,AV.ae,A0.ae,Cell.ae,hrc ρ]
      rfl
    ·exact h.elim
   ·exact h.elim
 ·rename_i t ho
  split at h
  ·rename_i i hi
   obtain ⟨r,h1,h2⟩: ∃r,aJ P ctx.X hp nm (fun _=>True) (fun _=>Instr.makeMap t none) (fun ρ=>r.val.ae ρ) r/\ k r:=by
    split at h
    ·exact HW h
    ·exact HV h
   exact ⟨r,bL.gA h1 (fun _ _=>trivial) (fun c e=>by rw [ho] at e;cases e) fun a ρ he=>by simp only [execOp,ho,Option.map_none],h2⟩
  ·exact h.elim
 ·rename_i t x ix ok ho
  split at h
  ·rename_i i hi
   obtain ⟨r,h1,h2⟩: ∃r,aJ P ctx.X hp nm (fun _=>True) (fun ρ=>Instr.lookup t ((ev x).ae ρ) ((ev ix).ae ρ) ok) (fun ρ=>r.val.ae ρ) r/\ k r:=by
    split at h
    ·exact J5 hT hi h
    ·exact J4 hT hi h
   exact ⟨r,bL.gA h1 (fun _ _=>trivial) (fun c e=>by rw [ho] at e;cases e) fun a ρ he=>by simp [execOp,ho,he x (by rw [ho];simp [Op.operands]),he ix (by rw [ho];simp [Op.operands])],h2⟩
  ·exact h.elim
 ·rename_i t m ix x ho
  split at h
  ·rename_i i hi
   obtain ⟨r,h1,h2,h3⟩: ∃r,aJ P ctx.X hp nm (fun _=>True) (fun ρ=>Instr.mapUpdate t ((ev m).ae ρ) ((ev ix).ae ρ) ((ev x).ae ρ)) (fun _=>()) r/\ k r/\ r.val=aT:=by
    split at h
    ·exact Dk hT hi h
    ·exact sw hT hi h
   exact ⟨r,bL.xF h1 h3 (fun _ _=>trivial) (fun c e=>by rw [ho] at e;cases e) fun a ρ he=>by simp [execOp,ho,he m (by rw [ho];simp [Op.operands]),he ix (by rw [ho];simp [Op.operands]),he x (by rw [ho];simp [Op.operands])],h2⟩
  ·exact h.elim
 ·rename_i t m ix ho
  split at h
  ·rename_i i hi
   obtain ⟨r,h1,h2⟩:=EI hT hi h
   exact ⟨r,bL.gA h1 (fun _ _=>trivial) (fun c e=>by rw [ho] at e;cases e) fun a ρ he=>by simp [execOp,ho,he m (by rw [ho];simp [Op.operands]),he ix (by rw [ho];simp [Op.operands])],h2⟩
  ·exact h.elim
 ·rename_i t m s x ho
  obtain ⟨r,h1,h2,h3⟩:=Be (P:=P) (ctx:=ctx) (nm:=nm) (t:=t) h
  exact ⟨r,bL.xF h1 h3 (fun _ _=>trivial) (fun c e=>by rw [ho] at e;cases e) fun a ρ he=>by simp [execOp,ho,he m (by rw [ho];simp [Op.operands]),he s (by rw [ho];simp [Op.operands]),he x (by rw [ho];simp [Op.operands])],h2⟩
 ·rename_i t m ix x ho
  split at h
  ·rename_i i hi
   obtain ⟨r,h1,h2,h3⟩:=sw (nm:=nm) hT hi h
   exact ⟨r,bL.xF h1 h3 (fun _ _=>trivial) (fun c e=>by rw [ho] at e;cases e) fun a ρ he=>by simp [execOp,ho,he m (by rw [ho];simp [Op.operands]),he ix (by rw [ho];simp [Op.operands]),he x (by rw [ho];simp [Op.operands])],h2⟩
  ·exact h.elim
 ·rename_i t x lo hh mx ho
  split at h
  ·rename_i i hi
   obtain ⟨r,h1,h2⟩:=Nl (nm:=nm) (P:=P) hT hi h
   refine ⟨r,bL.gA h1 (fun Kn hk=>hk x (by rw [ho];simp [Op.operands])) (fun c e=>by rw [ho] at e;cases e) fun a ρ he=> ?_,h2⟩
   have e: ∀q:Option Operand,(∀y,q=some y->y∈o.op.operands)->q.map a.eval=(q.map ev).map (AV.ae ρ):=by
    intro q hq;cases q with
    |none=>rfl
    |some y=>simp [he y (hq y rfl)]
   rw [execOp,ho]
   simp only
   rw [he x (by rw [ho];simp [Op.operands]),e lo (fun y hy=>by rw [ho];simp [Op.operands,hy]),e hh (fun y hy=>by rw [ho];simp [Op.operands,hy]),e mx (fun y hy=>by rw [ho];simp [Op.operands,hy])]
  ·exact h.elim
 ·rename_i t x y ho
  split at h
  ·rename_i i hi
   obtain ⟨r,h1,h2⟩:=sv (hp:=hp) hT hi h
   exact ⟨r,bL.gA h1 (fun _ _=>trivial) (fun c e=>by rw [ho] at e;cases e) fun a ρ he=>by simp [execOp,ho,he x (by rw [ho];simp [Op.operands]),he y (by rw [ho];simp [Op.operands])],h2⟩
  ·exact h.elim
 ·rename_i t x f ho
  split at h
  ·rename_i i hi
   obtain ⟨r,h1,h2⟩:=CP (nm:=nm) hT hi h
   exact ⟨r,bL.gA h1 (fun Kn hk=>hk x (by rw [ho];simp [Op.operands])) (fun c e=>by rw [ho] at e;cases e) fun a ρ he=>by simp [execOp,ho,he x (by rw [ho];simp [Op.operands])],h2⟩
  ·exact h.elim
 ·rename_i t x f ho
  split at h
  ·rename_i i hi
   obtain ⟨r,h1,h2⟩:=L1 (nm:=nm) (hp:=hp) hT hi h
   exact ⟨r,bL.gA h1 (fun Kn hk=>hk x (by rw [ho];simp [Op.operands])) (fun c e=>by rw [ho] at e;cases e) fun a ρ he=>by simp [execOp,ho,he x (by rw [ho];simp [Op.operands])],h2⟩
  ·exact h.elim
 ·rename_i t x ix ho
  split at h
  ·rename_i i hi
   split at h
   ·obtain ⟨r,h1,h2⟩:=Kj (nm:=nm) hT hi h
    exact ⟨r,bL.gA h1 (fun Kn hk=>⟨hk x (by rw [ho];simp [Op.operands]),hk ix (by rw [ho];simp [Op.operands])⟩) (fun c e=>by rw [ho] at e;cases e) fun a ρ he=>by simp [execOp,ho,he x (by rw [ho];simp [Op.operands]),he ix (by rw [ho];simp [Op.operands])],h2⟩
   obtain ⟨r,h1,h2⟩:=CZ (nm:=nm) hT hi h
   exact ⟨r,bL.gA h1 (fun Kn hk=>hk x (by rw [ho];simp [Op.operands])) (fun c e=>by rw [ho] at e;cases e) fun a ρ he=>by simp [execOp,ho,he x (by rw [ho];simp [Op.operands]),he ix (by rw [ho];simp [Op.operands])],h2⟩
  ·exact h.elim
 ·rename_i t x ix ho
  split at h
  ·rename_i i hi
   obtain ⟨r,h1,h2⟩:=Mn (nm:=nm) (hp:=hp) hT hi h
   exact ⟨r,bL.gA h1 (fun Kn hk=>hk x (by rw [ho];simp [Op.operands])) (fun c e=>by rw [ho] at e;cases e) fun a ρ he=>by simp [execOp,ho,he x (by rw [ho];simp [Op.operands]),he ix (by rw [ho];simp [Op.operands])],h2⟩
  ·exact h.elim
 ·rename_i x i ho
  have As:x∈o.op.operands:=by rw [ho];simp [Op.operands]
  split at h
  ·rename_i l hx
   split at h
   ·rename_i v hv
    refine ⟨_,bL.same (fun c e=>by rw [ho] at e;cases e) (fun Kn hk=> ?_) fun a ρ Γ ax W w Kn he ht hst=> ?_,h⟩
    ·have:=hk x As;rw [hx] at this;exact this v (List.mem_of_getElem? hv)
    ·have h1:=he x As
     rw [hx] at h1
     simp [execOp,ho,h1,AV.ae,Instr.extract,hv]
   ·exact h.elim
  ·exact h.elim
 ·rename_i c ho
  exact Px hT hS ho h
 ·rw [if_pos (by simp [hS.its])] at h;exact h.elim
 ·rw [if_pos (by simp [hS.its])] at h;exact h.elim
 ·rw [if_pos (by simp [hS.its])] at h;exact h.elim
 ·exact h.elim
def Xd (P:Program) (X:Addr->Value->Prop) (o:Oper) (ev:Operand->AV) (hp:HP) (nm:Nat) (k:Rec->Prop):Prop:=
 ∀ro n ax W ρ w a next Q,Ac ax W X->(∀x∈o.op.operands,a.eval x=(ev x).ae ρ)->(∀x∈o.op.operands,(ev x).ok (· <nm))->St ax W ρ (· <nm) hp w->
  (∀r ρ' w',k r->(∀p∈r.writes,hp p.1≠none)->(∀m,m<nm->ρ' m=ρ m)->r.val.ok (iK (· <nm) nm r)->St ax W ρ' (iK (· <nm) nm r) (cq r nm hp) w'->next (a.put o.dst (r.val.ae ρ')) w')->
  o.wpIn (fw ro) n P a w next Q
theorem Xd.Za {X:Addr->Value->Prop} {r:Rec} (h:bL P X o ev hp nm r) (hk:k r):Xd P X o ev hp nm k:=
 fun ro n ax W ρ w a next Q hX he hv hst hn=>h.2 ro n ax W ρ _ _ w a next Q hX he hv (fun _ _=>rfl) (fun i _=>by omega) hst fun ρ' w' h1 h2 h3=>hn r ρ' w' hk h.1 h1 h2 h3
def JX (ctx:Ctx) (ev:Operand->AV):Op->Bool
 | .call c=>match c.callee with
  | .value f=>match ev f with
   | .v (.one q)=>match VG q with
    |some (g,_,_)=>(aG ctx.specs g).isNone
    |none=>match q with
     | .nU _=>true
     |_=>false
   |_=>false
  |_=>false
 | .binOp _ _ x y _=>ndB ctx (ev x) (ev y)
 | .range _ _=>true
 | .next _ _=>true
 | .entry _=>true
 |_=>false
theorem QS (h:zz ctx o.op ev hp nm k) (hy:JX ctx ev o.op=false):zz {ctx with ys:= [],its:= []} o.op ev hp nm k:=by
 revert h hy
 cases o.op with
 |call c=>
  intro h hy
  simp only [zz,E5] at h ⊢
  simp only [JX] at hy
  split at h
  ·exact h
  ·rename_i f hc
   rw [hc] at hy
   dsimp only at hy
   split at h
   ·rename_i q nk
    rw [nk] at hy
    dsimp only at hy ⊢
    split at h
    ·rename_i g fs cs hq
     rw [hq] at hy
     dsimp only at hy ⊢
     split at h
     ·rename_i s hs
      exact h
     ·rename_i hs
      rw [hs] at hy;cases hy
    ·rename_i hq
     rw [hq] at hy
     dsimp only at hy ⊢
     split at h
     ·exact h
     ·cases hy
     ·exact h.elim
   ·exact h.elim
  ·exact h.elim
 |binOp op t x y yt=>
  intro h hy
  simp only [JX] at hy
  simp only [zz] at h ⊢
  rw [if_neg (by rw [hy];decide)] at h
  rw [if_neg (by simp [ndB])]
  exact h
 |makeMap t r=>intro h _;cases r<;>exact h
 |range t x=>intro _ hy;cases hy
 |next x b=>intro _ hy;cases hy
 |entry x=>intro _ hy;cases hy
 |_=>intro h _;exact h
theorem abw (hT:aX P ctx.tt) {op:BinOp} {t:TypeId} {x y:Operand} {yt:TypeId} (ho:o.op= .binOp op t x y yt) (h:Y3 ctx op t (ev x) (ev y) hp k):Xd P ctx.X o ev hp nm k:=by
 unfold Y3 at h
 split at h
 rotate_left
 ·exact h.elim
 rename_i n hx hy
 split at h
 rotate_left
 ·exact h.elim
 rename_i u l rk i hr hi
 have key: ∀(g:Bool->Bool),(∀(e:TypeId),i.desc= .slice e-> ∀(a:Option Addr) (n1 c1:Nat) (w:World),(binOp op t (.slice a n1 c1) (.slice none 0 0)).run P w= .ok (.bool (g a.isNone)) w)->(∃e,i.desc= .slice e)->(∀b:Bool,(0<l.length->b=false)->k {val:=bH (g b),aB:= [n]})->Xd P ctx.X o ev hp nm k:=by
  intro g hrun ⟨e,hd⟩ hk ro n' ax W ρ w a next Q hX he hok hst gZ
  obtain ⟨_,_,_,sub,hm⟩:=hst.at_ n _ hr
  have hb:0<l.length->(ρ n).base.isNone=false:=by
   intro hl
   have hlen:0<(aF sub 0 (ai u l)).length:=by rw [bI,bk];exact Nat.mul_pos hl u.size_pos
   obtain ⟨a',e',_⟩:=hm.1 0 _ (List.getElem?_eq_getElem hlen)
   rw [e'];rfl
  have h1:=he x (by rw [ho];simp [Op.operands])
  have h2:=he y (by rw [ho];simp [Op.operands])
  rw [hx] at h1
  rw [hy] at h2
  have hg:=dz (P:=P) op t x y (.slice (ρ n).base (ρ n).len (ρ n).cap) (.slice none 0 0) w (by simp) (by simp)
  have hr2:=hrun e hd (ρ n).base (ρ n).len (ρ n).cap w
  have wY:(execOp a.eval o).run P w= .ok (.value (.bool (g (ρ n).base.isNone))) w:=by
   simp [execOp,ho,h1,h2,AV.ae,A0.ae,Cell.ae,hg,hr2]
  refine ⟨fun _ _=>trivial,?_⟩
  rw [Oper.semAt_eq _ _ _ (fun c e=>by rw [ho] at e;cases e),wY]
  simp only [Oper.uponIn]
  exact gZ {val:=bH (g (ρ n).base.isNone),aB:= [n]} ρ w (hk _ hb) (fun p hp=>absurd hp (by simp)) (fun _ _=>rfl) (by rw [fe];exact trivial) (by rw [fe,mU];exact hst)
 split at h
 ·rename_i e hd
  exact key id (fun e hd a n1 c1 w=>by simp [binOp,lE hT hi hd]) ⟨e,hd⟩ h
 ·rename_i e hd
  exact key (fun b=> !b) (fun e hd a n1 c1 w=>by simp [binOp,lE hT hi hd]) ⟨e,hd⟩ h
 ·exact h.elim
theorem WJ (hT:aX P ctx.tt) {t:TypeId} {x:Operand} (ho:o.op= .range t x) (h:M0 ctx t (ev x) hp nm k):Xd P ctx.X o ev hp nm k:=by
 unfold M0 at h
 split at h
 rotate_left
 ·exact h.elim
 rename_i i hi
 split at h
 rotate_left
 ·exact h.elim
 rename_i kt et n hd hx
 split at h
 rotate_left
 ·exact h.elim
 rename_i ka kT uT l c hn
 obtain ⟨gw,h⟩:=br h
 obtain ⟨n',hc⟩:=iJ gw
 intro ro n0 ax W ρ w a next Q hX he hok hst gZ
 obtain ⟨b,es,ck,gb,gh,ρ',hρ,hb',nn⟩:=WX hst hn hc (Nat.lt_irrefl nm)
 have h1:=he x (by rw [ho];simp [Op.operands])
 rw [hx] at h1
 have kn:=(hst.kn n _ hn).1
 have Md:n≠nm:=by omega
 have wY:(execOp a.eval o).run P w= .ok (.value (.pointer (some ⟨w.heap.size,0,none⟩))) (w.alloc (.mapIter (some b) ck #[] ck)):=by
  have:=run_range_map (P:=P) w t kt et b es ck (by rw [(hT t i hi).1,hd]) gh
  simp [execOp,ho,h1,AV.ae,A0.ae,Cell.ae,gb,this]
 refine ⟨fun _ _=>trivial,?_⟩
 rw [Oper.semAt_eq _ _ _ (fun c e=>by rw [ho] at e;cases e),wY]
 simp only [Oper.uponIn]
 have:=gZ _ ρ' (w.alloc (.mapIter (some b) ck #[] ck)) (h es ck) (fun p gN=>by simp only [List.mem_singleton] at gN;subst gN;rw [hn];simp) hρ (.inr (by simp)) ?_
 ·simp only [AV.ae,A0.ae,Cell.ae,addrOf,hb',Option.map_some] at this
  exact this
 ·rw [show iK (· <nm) nm {val:=AV.v (.one (.ptr nm 0)),fresh:= [aQ.rj n c es ck ka kT uT l none],writes:= [(n,.hmap es ck)],aB:= [n,c]} =rq (· <nm) nm by
   funext m;simp only [iK,rq,List.length_singleton];congr 1;apply propext;omega]
  rw [show cq {val:=AV.v (.one (.ptr nm 0)),fresh:= [aQ.rj n c es ck ka kT uT l none],writes:= [(n,.hmap es ck)],aB:= [n,c]} nm hp=(fun y=>if y=nm then some (.rj n c es ck ka kT uT l none) else if y=n then some (.hmap es ck) else hp y) by
   funext m
   simp only [cq,List.length_singleton,ct]
   by_cases e1:m=nm
   ·rw [e1,if_pos (by omega),if_pos rfl];simp [live]
   ·rw [if_neg (by omega),if_neg e1]
    by_cases e2:n=m
    ·rw [if_pos e2,if_pos e2.symm];simp [live]
    ·rw [if_neg e2,if_neg (Ne.symm e2)]]
  exact nn
theorem Y2 {x:Operand} (ho:o.op= .next x false) (h:TU (ev x) hp nm k):Xd P ctx.X o ev hp nm k:=by
 unfold TU at h
 split at h
 rotate_left
 ·exact h.elim
 rename_i r hx
 split at h
 rotate_left
 ·exact h.elim
 rename_i n c es ck ka kT uT l cur hr
 split at h
 rotate_left
 ·exact h.elim
 rename_i es' iy hn
 obtain ⟨gw,rfl,rfl,hd,hm⟩:=br h
 obtain ⟨n',hc⟩:=iJ gw
 intro ro n0 ax W ρ w a next Q hX he hok hst gZ
 have h1:=he x (by rw [ho];simp [Op.operands])
 rw [hx] at h1
 have kr:=(hst.kn r _ hr).1
 have kn:=(hst.kn n _ hn).1
 have kc:=(hst.kn c _ hc).1
 obtain ⟨gk,gu,Ql,rb,since,seen,c0,hrb,ZH,hnb,hold,hsc,hsk,gr,aai⟩:=hst.at_ r _ hr
 obtain ⟨bm,U9,SU⟩:=hst.at_ n _ hn
 rw [U9] at ZH
 rw [show AV.ae ρ (AV.v (.one (.ptr r 0)))= .pointer (some ⟨rb,0,none⟩) by simp [AV.ae,A0.ae,Cell.ae,addrOf,hrb]] at h1
 have hrc:c≠r:=by rintro rfl;rw [hr] at hc;cases hc
 have hrn:n≠r:=by rintro rfl;rw [hr] at hn;cases hn
 have hL:(leftOf es' seen).toList=es'.toList.filter fun e=> !seen.contains e.born:=by unfold leftOf;rw [Array.toList_filter]
 rcases run_next_at (P:=P) w o.type rb bm since c0 seen es' iy ZH SU hold hsc with ⟨h0,hrun⟩|⟨e,hem,w1,hw1,hrun⟩
 ·have hl:l= []:=by
   have:es'.toList.filter (fun e=> !seen.contains e.born)= []:=List.eq_nil_of_length_eq_zero (by rw [<- hL,Array.length_toList];exact h0)
   rw [this] at gr
   exact gr.adU
  have wY:(execOp a.eval o).run P w= .ok (.value (.tuple #[.bool false])) w:=by
   simp [execOp,ho,h1,hrun]
  refine ⟨fun _ _=>trivial,?_⟩
  rw [Oper.semAt_eq _ _ _ (fun c e=>by rw [ho] at e;cases e),wY]
  simp only [Oper.uponIn]
  exact gZ _ ρ w (hd hl) (fun p hp=>absurd hp (by simp)) (fun _ _=>rfl) (fun a ha=>by simp only [List.mem_singleton] at ha;subst ha;trivial) (by rw [fe,mU];exact hst)
 ·rw [hL] at hem
  obtain ⟨i,hi⟩:=List.getElem?_of_mem hem
  have hie:(es'.toList.filter fun e=> !seen.contains e.born)[i]? =some e:=hi
  obtain ⟨p,en,hp1,hen,hkey,hval,pL,hlen,V2⟩:=ff.get _ _ _ _ _ gr hie
  have Ys:i<l.length:=(List.getElem?_eq_some_iff.1 hp1).1
  have hka:lQ l i=p:=by unfold lQ;rw [List.getD_eq_getElem?_getD,hp1];rfl
  obtain ⟨ρ',hρ,q1,q2,q3,q4,sn⟩:=Zm (nm:=nm) (n:=n) hst hc kn hen pL hlen V2 gu (Nat.lt_irrefl nm) (by omega)
  have wY:(execOp a.eval o).run P w= .ok (.value (.tuple #[.bool true,e.key,e.val])) (Go.ChangeMaps.setBlock w1 rb (.mapIter (some bm) since (seen.push e.born) iy)):=by
   simp [execOp,ho,h1,hrun]
  refine ⟨fun _ _=>trivial,?_⟩
  rw [Oper.semAt_eq _ _ _ (fun c e=>by rw [ho] at e;cases e),wY]
  simp only [Oper.uponIn]
  have hmi:=hm i Ys
  rw [hka] at hmi
  have Xn:(AV.lZ [.one (.raw (.bool true)),nR ka kT p.1,.one (.full (nm+1))]).ae ρ'= .tuple #[.bool true,e.key,e.val]:=by
   show Value.tuple #[.bool true,(nR ka kT p.1).ae ρ',.slice (ρ' (nm+1)).base (ρ' (nm+1)).len (ρ' (nm+1)).cap]=_
   rw [kV,q2,q3,q4,<- hkey,<- hval]
  have:=gZ _ ρ' (Go.ChangeMaps.setBlock w1 rb (.mapIter (some bm) since (seen.push e.born) iy)) hmi (fun p gN=> ?_) hρ (fun a ha=> ?_) ?_
  ·rw [Xn] at this;exact this
  ·simp only [List.mem_cons,List.not_mem_nil,or_false] at gN
   rcases gN with rfl|rfl
   ·rw [hr];simp
   ·rw [hc];simp
  ·simp only [List.mem_cons,List.not_mem_nil,or_false] at ha
   rcases ha with rfl|rfl|rfl
   ·trivial
   ·exact yN _ _ _ _
   ·exact .inr (by simp)
  ·
   have o8:St ax W ρ' (fun y=>y<nm\/ y=nm\/ y=nm+1) (fun y=>if y=nm+1 then some (.row uT p.2 1) else if y=nm then some (.set n) else if y=c then none else hp y) w1:=by
    rcases hw1 with rfl|rfl
    ·exact sn
    ·exact sn.drawn _ (Nat.le_succ _)
   have aaW:r≠nm:=by omega
   have aaX:r≠nm+1:=by omega
   have aa6:(fun y=>if y=nm+1 then some (aQ.row uT p.2 1) else if y=nm then some (.set n) else if y=c then none else hp y) r=some (.rj n c es' iy ka kT uT l cur):=by
    simp [aaW,aaX,Ne.symm hrc,hr]
   have ik:(ρ' r).blk=some rb:=by rw [hρ r kr];exact hrb
   have aaU:w1.heap[rb]? =some (.mapIter (some bm) since seen c0):=by rcases hw1 with rfl|rfl<;>exact ZH
   have CY:=MapKept.heap_set (o':=Obj.mapIter (some bm) since (seen.push e.born) iy) aaU
   have hlt:rb<w1.heap.size:=(Array.getElem?_eq_some_iff.1 aaU).1
   have hown:=o8.own r rb (by have h9:=aa6;dsimp only at h9 ⊢;rw [h9];rfl) ik
   have Mf:=o8.Aa (o':= .rj n nm es' iy ka kT uT (l.eraseIdx i) (some (p.1,nm+1))) (w1:=Go.ChangeMaps.setBlock w1 rb (.mapIter (some bm) since (seen.push e.born) iy)) aa6 ik ⟨.inl kn,.inr (.inl rfl),fun q hq=>by cases hq;exact .inr (.inr rfl)⟩ (fun _ h=>by cases h)
    ⟨o8.fr.os,o8.fr.tape,o8.fr.output,by simpa [Go.ChangeMaps.setBlock] using o8.fr.size,fun k hk hnb=>by
     have hne:k≠rb:=by
      rintro rfl
      rcases hown with h|h
      ·omega
      ·exact hnb h
     rw [<- o8.fr.block k hk hnb]
     exact CY.2 k hne,o8.fr.Ez⟩ (fun b' hne=>CY.2 b' hne) (by simp [Go.ChangeMaps.setBlock]) fun _=>by
     have aaR:(es'.toList.filter fun x=> !(seen.push e.born).contains x.born)=(es'.toList.filter fun x=> !seen.contains x.born).eraseIdx i:=by
      rw [<- CR _ i e hie ((List.filter_sublist (l:=es'.toList)).map _|>.nodup Ql.2),List.filter_filter]
      refine List.filter_congr fun x _=> ?_
      rw [contains_push]
      cases seen.contains x.born<;>cases (x.born==e.born)<;>rfl
     refine ⟨gk,gu,Ql,rb,since,seen.push e.born,iy,ik,?_,by rw [hρ n kn];exact hnb,hold,hsk,hsk,?_,fun q hq=> ?_⟩
     ·rw [hρ n kn,U9];exact CY.1
     ·rw [aaR,q1];exact gr.erase _ _ _ _
     ·cases hq
      exact ⟨rfl,seen,e,rfl,(List.mem_filter.1 hem).1,hkey,by rw [q2,q3,q4];exact hval⟩
   rw [show iK (· <nm) nm {val:= .lZ [.one (.raw (.bool true)),nR ka kT p.1,.one (.full (nm+1))],fresh:= [.set n,.row uT p.2 1],writes:= [(r,.rj n nm es' iy ka kT uT (l.eraseIdx i) (some (p.1,nm+1))),(c,.gone)],aB:= [r,n,c]} =(fun y=>y<nm\/ y=nm\/ y=nm+1) by
    funext y;simp only [iK,List.length_cons,List.length_nil];apply propext;omega]
   rw [show cq {val:= .lZ [.one (.raw (.bool true)),nR ka kT p.1,.one (.full (nm+1))],fresh:= [.set n,.row uT p.2 1],writes:= [(r,.rj n nm es' iy ka kT uT (l.eraseIdx i) (some (p.1,nm+1))),(c,.gone)],aB:= [r,n,c]} nm hp=
     bK (fun y=>if y=nm+1 then some (aQ.row uT p.2 1) else if y=nm then some (.set n) else if y=c then none else hp y) r (.rj n nm es' iy ka kT uT (l.eraseIdx i) (some (p.1,nm+1))) by
    funext y
    simp only [cq,ct,List.length_cons,List.length_nil,bK]
    by_cases y0:y=nm
    ·rw [y0,if_pos (by omega),if_neg (Ne.symm aaW)];simp [live]
    by_cases y1:y=nm+1
    ·rw [y1,if_pos (by omega),if_neg (Ne.symm aaX)];simp [live]
    rw [if_neg (by omega)]
    by_cases y2:y=c
    ·rw [y2]
     have c0:c≠nm:=by omega
     have c1:c≠nm+1:=by omega
     simp [live,hrc,Ne.symm hrc,c0,c1]
    by_cases y3:y=r
    ·rw [y3];simp [live,hrc,Ne.symm hrc]
    simp [y0,y1,y2,y3,Ne.symm y2,Ne.symm y3]]
   exact Mf
theorem VO {x:Operand} (ho:o.op= .entry x) (h:LV (ev x) hp k):Xd P ctx.X o ev hp nm k:=by
 unfold LV at h
 split at h
 rotate_left
 ·exact h.elim
 rename_i r hx
 split at h
 rotate_left
 ·exact h.elim
 rename_i n c es ck ka kT uT l a0 m hr
 split at h
 rotate_left
 ·exact h.elim
 rename_i es' iy t0 l0 rk0 hn hm
 obtain ⟨rfl,rfl,h⟩:=h
 intro ro n0 ax W ρ w a next Q hX he hok hst gZ
 have h1:=he x (by rw [ho];simp [Op.operands])
 rw [hx] at h1
 obtain ⟨gk,gu,Ql,rb,since,seen,c0,hrb,ZH,hnb,hold,hsc,hsk,gr,aai⟩:=hst.at_ r _ hr
 obtain ⟨bm,U9,SU⟩:=hst.at_ n _ hn
 rw [U9] at ZH
 obtain ⟨rfl,seen',e,rfl,hem,hkey,hval⟩:=aai _ rfl
 rw [show AV.ae ρ (AV.v (.one (.ptr r 0)))= .pointer (some ⟨rb,0,none⟩) by simp [AV.ae,A0.ae,Cell.ae,addrOf,hrb]] at h1
 have hrun:=run_entry_at (P:=P) w rb bm since seen' es' c0 e ZH SU hem Ql.2
 have wY:(execOp a.eval o).run P w= .ok (.value (.tuple #[e.key,e.val])) w:=by
  simp [execOp,ho,h1,hrun]
 refine ⟨fun _ _=>trivial,?_⟩
 rw [Oper.semAt_eq _ _ _ (fun c e=>by rw [ho] at e;cases e),wY]
 simp only [Oper.uponIn]
 have Xn:(AV.lZ [nR ka kT a0,.one (.full m)]).ae ρ= .tuple #[e.key,e.val]:=by
  show Value.tuple #[(nR ka kT a0).ae ρ,.slice (ρ m).base (ρ m).len (ρ m).cap]=_
  rw [kV,hkey,hval]
 have:=gZ _ ρ w h (fun p hp=>absurd hp (by simp)) (fun _ _=>rfl) (fun q hq=>by
  simp only [List.mem_cons,List.not_mem_nil,or_false] at hq
  rcases hq with rfl|rfl
  ·exact yN _ _ _ _
  ·exact .inl (hst.kn m _ hm).1) (by rw [fe,mU];exact hst)
 rw [Xn] at this;exact this
theorem abA (hT:aX P ctx.tt) (hC:nW P ctx) (h:zz ctx o.op ev hp nm k):Xd P ctx.X o ev hp nm k:=by
 cases hy:JX ctx ev o.op with
 |false=>
  obtain ⟨r,h1,h2⟩:=Ih (ctx:= {ctx with ys:= [],its:= []}) hT ⟨hC.sp,rfl,rfl⟩ (QS h hy)
  exact .Za h1 h2
 |true=>
  unfold JX at hy
  split at hy
  ·rename_i c ho
   split at hy
   ·rename_i f hc
    obtain ⟨callee,args,argTypes⟩:=c
    dsimp only at hc
    subst hc
    have hd: ∀c,o.op≠ .defer c:=fun c e=>by rw [ho] at e;cases e
    have hmem: ∀x∈args.toList,x∈o.op.operands:=fun x hx=>by rw [ho];simp [Op.operands,Call.operands,Array.mem_toList_iff.1 hx]
    have V3:f∈o.op.operands:=by rw [ho];simp [Op.operands,Call.operands]
    have hargs: ∀(a:Act) (ρ:Env),(∀x∈o.op.operands,a.eval x=(ev x).ae ρ)->args.map a.eval=((qz ev args.toList).map (AV.ae ρ)).toArray:=by
     intro a ρ he
     apply Array.ext'
     simp only [Array.toList_map,lT,List.map_map]
     exact List.map_congr_left fun x hx=>he x (hmem x hx)
    have Fq:(∀x∈o.op.operands,(ev x).ok (· <nm))-> ∀x∈qz ev args.toList,x.ok (· <nm):=by
     intro hk x hx
     rw [lT] at hx
     obtain ⟨y,hy,rfl⟩:=List.mem_map.1 hx
     exact hk y (hmem y hy)
    split at hy
    ·rename_i q nk
     rw [ho] at h
     split at hy
     ·rename_i g fs cs hq
      simp only [zz,E5,nk,hq] at h
      obtain ⟨hqc,hqk⟩:=E7 hq
      split at h
      ·rename_i s hs
       rw [hs] at hy;cases hy
      split at h
      rotate_left
      ·exact h.elim
      rename_i MC hg
      obtain ⟨Yn,SS⟩:=hC.its g MC hg
      intro ro n ax W ρ w a next Q hX he hk hst gZ
      obtain ⟨Er,iX,Mf⟩:=hst.pinned
      have hlen:(dM hp nm++ [aQ.eJ ρ nm]).length=nm+1:=by simp [bg]
      have Ar: ∀m,hp m≠some .gone:=fun m e=>hst.at_ m _ e
      have hkl: ∀m,(hp m).isSome=true->m<nm:=fun m hm=>by
       obtain ⟨o,ho⟩:=Option.isSome_iff_exists.1 hm
       exact (hst.kn m o ho).1
      have Vb:=hk f V3
      rw [nk] at Vb
      obtain ⟨k1,k2⟩:=hqk _ Vb
      have hfull: ∀x∈fs++qz ev args.toList++cs,x.ok (· <nm):=fun x hx=>by
       rcases List.mem_append.1 hx with hx|hx
       ·rcases List.mem_append.1 hx with hx|hx
        ·exact k1 x hx
        ·exact Fq hk x hx
       ·exact k2 x hx
      have CW:=SS [] _ _ _ (h ρ) (rh.nil P) ax W Er w hX (fun x hx=>AV.bC (fun i hi=>by rw [hlen];omega) x (hfull x hx)) (by rw [hlen];exact Mf)
      refine ⟨fun _ _=>trivial,?_⟩
      have hf:=he f V3
      rw [nk] at hf
      have hrun:(execOp a.eval o).run P w= .ok (.enter g ((fs++qz ev args.toList++cs).map (AV.ae Er)).toArray) w:=by
       simp only [execOp,ho,resolve,Sem.run_bind,hf,AV.ae,A0.ae,hqc ρ,Deferred.ofValue,Sem.run_pure,Result.andThen_ok,invoke]
       rw [hargs a ρ he,Yn]
       congr 2
       apply Array.ext'
       have e0:(fs++qz ev args.toList++cs).map (AV.ae Er)=(fs++qz ev args.toList++cs).map (AV.ae ρ):=List.map_congr_left fun x hx=>AV.bX (Kn:=(· <nm)) iX x (hfull x hx)
       rw [e0]
       simp [List.map_append,-List.map_map]
      rw [Oper.semAt_eq _ _ _ hd,hrun]
      simp only [Oper.uponIn]
      refine ⟨fun h=>by simp [fw] at h,uS ?_⟩
      refine CW.mono ?_
      rintro e w' ⟨st,ρ',v,rfl,IU,hR,nn⟩
      obtain ⟨hp1,hkk⟩:=nA hR
      have hlt:=fV hp1
      have l5: ∀m,m<nm->ρ' m=ρ m:=(nn.at_ _ _ hp1).2
      have hd2:=nn.diff (v:=v) hlt Ar hkl
      refine gZ _ ρ' w' hkk (fun p hp=>w4 hp) l5 ?_ hd2
      exact AV.bC (fun i hi=>by simp only [iK,wC,List.length_drop,List.length_set];omega) v IU
     ·rename_i hq
      split at hy
      rotate_left
      ·cases hy
      rename_i m
      simp only [zz,E5,nk,hq] at h
      split at h
      ·rename_i s hg
       have hkk:=hC.ys m s hg ctx.X _ hp nm k h
       intro ro n ax W ρ w a next Q hX he hk hst gZ
       obtain ⟨l,g,tmps,assign,body,hl,hrun,YF⟩:=hkk ro (n- 1) ax W ρ w hX (Fq hk) hst
       refine ⟨fun _ _=>trivial,?_⟩
       rw [Oper.semAt_eq _ _ _ hd]
       have:(execOp a.eval o).run P w= .ok (.round l g tmps assign body) w:=by
        have hf:=he f V3
        rw [nk] at hf
        simp only [execOp,ho,resolve,Sem.run_bind,hf,AV.ae,A0.ae,Cell.ae,hl,Deferred.ofValue,Sem.run_pure,Result.andThen_ok,invoke]
        rw [hargs a ρ he]
        simpa using hrun
       rw [this,Oper.uponIn_round]
       refine ⟨fun h=>by simp [fw] at h,YF.mono ?_⟩
       rintro e w' ⟨r,ρ',hkr,hw,rfl,l5,IU,nn⟩
       exact gZ r ρ' w' hkr hw l5 IU nn
      ·exact h.elim
    ·cases hy
   ·cases hy
  ·rename_i op t x y yt ho
   rw [ho] at h
   simp only [zz] at h
   rw [if_pos hy] at h
   exact abw hT ho h
  ·rename_i t x ho
   rw [ho] at h
   simp only [zz] at h
   split at h
   ·exact h.elim
   ·exact WJ hT ho h
  ·rename_i x b ho
   rw [ho] at h
   cases b with
   |true=>exact h.elim
   |false=>
    simp only [zz] at h
    split at h
    ·exact h.elim
    ·exact Y2 ho h
  ·rename_i x ho
   rw [ho] at h
   simp only [zz] at h
   split at h
   ·exact h.elim
   ·exact VO ho h
  ·cases hy
end
end Go.Ev
