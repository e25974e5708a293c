/- Functions, out of the condition 'fnE'. -/
import Derived.Test.YtbjfokijjefoeaaGreatEvH
noncomputable section
set_option linter.unusedSectionVars false
set_option linter.unusedVariables false
set_option linter.unusedSimpArgs false
namespace Go.Ev
open Go.RowKit
section
variable {P:Program} {ctx:Ctx} {ax:kz} {W:World} {df:List Deferred}
theorem Xv (hT:aU P ctx.tt) (hC:qx P ctx) (hm:P.follows .mixedOrders=true) {ro:Option Nat} {n:Nat} (c:Code) (hX:Dy ax W ctx.X) (ad6:ro=none\/ mN c=true) (vR:s5 P ctx c) (N:Nat) (st:AS) (K:Exit->AS->Prop) (h:z7 ctx c N st K):
  ∀ρ a w,FU ax W st ρ a w->(Code.loop c).wpIn (fw ro) n P (Post ax W K) a w:=by
 intro ρ a w br b k cs hro hb hroom
 have key: ∀N st ρ a w,z7 ctx c N st K->FU ax W st ρ a w-> ∃e a' w',Post ax W K e a' w'/\ ArrivesIn (Machine.fenced P (fw ro)) P (lone (b.atR a (.code c:: .inLoop c::k)) cs w) b k cs e a' w':=by
  intro N
  induction N with
  |zero=>intro st ρ a w h;exact h.elim
  |succ N ih=>
   intro st ρ a w h br
   obtain ⟨e,a1,w1,⟨rZ,bu,hk,iP⟩,nV⟩:=qB hT hC hm c vR ax W ro n hX ad6 st _ h ρ a w br b (.inLoop c::k) cs hro hb hroom
   cases e with
   |normal=>
    obtain ⟨e2,a2,w2,hq2,OC⟩:=ih rZ bu a1 w1 hk iP
    exact ⟨e2,a2,w2,hq2,.of_steps (StepsIn.trans nV (.one (fenced_calm hb hroom rfl) stepR_inLoop)) OC⟩
   |exit id=>exact ⟨_,a1,w1,⟨rZ,bu,hk,iP⟩,.pass (x:= .inLoop c) rfl (fun _ _=> .inl (by simp)) nV⟩
   |goto l=>exact ⟨_,a1,w1,⟨rZ,bu,hk,iP⟩,.pass (x:= .inLoop c) rfl (fun _ _=> .inl (by simp)) nV⟩
   |ret=>exact ⟨_,a1,w1,⟨rZ,bu,hk,iP⟩,.pass (x:= .inLoop c) rfl (fun _ _=> .inl (by simp)) nV⟩
   |panic ch=>exact ⟨_,a1,w1,⟨rZ,bu,hk,iP⟩,.pass (x:= .inLoop c) rfl (fun _ _=> .inl (by simp)) nV⟩
   |outgrown=>exact ⟨_,a1,w1,⟨rZ,bu,hk,iP⟩,.pass (x:= .inLoop c) rfl (fun _ _=> .inl (by simp)) nV⟩
 obtain ⟨e,a',w',hq,nV⟩:=key N st ρ a w h br
 exact ⟨e,a',w',hq,.of_steps (.one (fenced_calm hb hroom rfl) stepR_loop) nV⟩
def uu (tmps:Array Value):ResultVar->Sem Value
 | .tmp t=>pure (tmps.getD t undef)
 | .cell a t=>do loadVar t (<- asAddr (tmps.getD a undef))
theorem P9 (hT:aU P ctx.tt) {st:AS} {ρ:Env} {a:Act} {w:World} (br:qv ax W df st ρ a w) {q:ResultVar} {v:A0} (h:NK ctx st q=some v):
  (uu a.tmps q).run P w= .ok (v.af ρ) w/\ v.ok (· <st.heap.length):=by
 cases q with
 |tmp t=>
  simp only [NK] at h
  split at h
  ·rename_i x hx
   cases h
   have h1:=br.tmps t (by rw [hx];simp)
   have h2:=br.kn t
   rw [hx] at h1 h2
   exact ⟨by simp only [uu,Sem.run_pure];rw [h1];rfl,h2⟩
  ·cases h
 |cell t ty=>
  simp only [NK] at h
  split at h
  ·rename_i n off i hx hi
   split at h
   ·rename_i cs e he
    have h1:=br.tmps t (by rw [hx];simp)
    rw [hx] at h1
    obtain ⟨b,hb,hh⟩:=br.st.at_ n _ he
    rw [n6 hb] at h1
    have hok:=(br.st.kn n _ he).2
    have hld:=l9 (P:=P) (rest:= []) (off:=off) hT hi (by simpa using hh)
    split at h
    ·rename_i ha
     split at h
     ·rename_i hl
      cases h
      refine ⟨?_,fun c hc=>hok c (List.mem_of_mem_drop (List.mem_of_mem_take hc))⟩
      have:=hld.1 ha (by simpa using hl)
      simp only [uu,h1,asAddr,Sem.run_bind,Sem.run_pure,Result.andThen_ok,this,A0.af,dS]
     ·cases h
    ·rename_i ha
     split at h
     ·rename_i c hc
      cases h
      refine ⟨?_,hok c (List.mem_of_getElem? hc)⟩
      have:=hld.2 (by simpa using ha) (c.af ρ) (by simp [hc])
      simp only [uu,h1,asAddr,Sem.run_bind,Sem.run_pure,Result.andThen_ok,this,A0.af]
     ·cases h
   ·cases h
  ·cases h
theorem qZ (hT:aU P ctx.tt) {st:AS} {ρ:Env} {a:Act} {w:World} (br:qv ax W df st ρ a w): ∀(qs:List ResultVar) (vs:List A0),Dk ctx st qs=some vs->
  (qs.mapM (uu a.tmps)).run P w= .ok (vs.map (A0.af ρ)) w/\ ∀v∈vs,v.ok (· <st.heap.length)
 | [],vs,h=>by simp only [Dk,Option.some.injEq] at h;subst h;simp
 |q::r,vs,h=>by
  simp only [Dk] at h
  split at h
  ·rename_i v l h1 h2
   cases h
   obtain ⟨e1,k1⟩:=P9 hT br h1
   obtain ⟨e2,k2⟩:=qZ hT br r l h2
   refine ⟨by simp [e1,e2],fun x hx=> ?_⟩
   rcases List.mem_cons.1 hx with rfl|hx
   ·exact k1
   ·exact k2 x hx
  ·cases h
theorem Xf (hT:aU P ctx.tt) {st:AS} {ρ:Env} {a:Act} {w:World} (br:qv ax W df st ρ a w) {fn:Func} {R:AV->AS->Prop} (h:Xe ctx fn st R):
  ∃v,(results fn a.tmps).run P w= .ok (v.af ρ) w/\ v.ok (· <st.heap.length)/\ R v st:=by
 unfold Xe at h
 have hrun: ∀vs,Dk ctx st fn.results.toList=some vs->(results fn a.tmps).run P w= .ok (if h:(vs.map (A0.af ρ)).toArray.size=1 then (vs.map (A0.af ρ)).toArray[0] else .tuple (vs.map (A0.af ρ)).toArray) w:=by
  intro vs hvs
  obtain ⟨e,_⟩:=qZ hT br _ _ hvs
  have:(fn.results.mapM (uu a.tmps)).run P w= .ok (vs.map (A0.af ρ)).toArray w:=by
   rw [Array.mapM_eq_mapM_toList]
   simp only [Sem.run_map,e,Result.andThen_ok]
  have e2:results fn a.tmps=(do
    let vs<- fn.results.mapM (uu a.tmps)
    pure (if h:vs.size=1 then vs[0] else .tuple vs):Sem Value):=by
   unfold results
   congr 2
  rw [e2]
  simp only [Sem.run_bind,this,Result.andThen_ok,Sem.run_pure]
 split at h
 ·rename_i v hv
  refine ⟨.v v,?_,(qZ hT br _ _ hv).2 v (by simp),h⟩
  rw [hrun _ hv];rfl
 ·rename_i l hl hne
  refine ⟨.r7 l,?_,(qZ hT br _ _ hne).2,h⟩
  rw [hrun _ hne]
  have: ¬l.length=1:=by
   intro h1
   match l,h1 with
   | [x],_=>exact hl x rfl
  rw [dif_neg (by simpa using this)];rfl
 ·exact h.elim
theorem Tl (ρ:Env) (args:List AV) (m t:Nat):(((args.map (AV.af ρ)).toArray++Array.replicate (m- (args.map (AV.af ρ)).toArray.size) undef).getD t undef)=(dM (args++List.replicate (m- args.length) aX) t).af ρ:=by
 rw [A4]
 simp only [Array.getD_eq_getD_getElem?,List.getD,Array.getElem?_append,List.size_toArray,List.length_map,List.getElem?_toArray,List.getElem?_map,List.getElem?_append,Array.getElem?_replicate,List.getElem?_replicate]
 by_cases h:t<args.length
 ·simp [h]
 ·simp only [h,if_false]
  split<;>rfl
theorem AU (hT:aU P ctx.tt) {fn:Func} {R:AV->AS->Prop} {st:AS} {ρ:Env} {tm:Array Value} (h:Xe ctx fn st R): ∀(ds df:List Nat) (w:World),df.Nodup->(∀D∈df,W.heap.size<=D/\ w.heap[D]? =some (.deferred (some [])))->
  qv ax W (ds.map qL) st ρ {tmps:=tm,defers:=ds.map qL} w->
  LeavesInM (fw none) 0 P fn tm (fun e w'=> ∃v,e= .returned (v.af ρ)/\ v.ok (· <st.heap.length)/\ R v st/\ St ax W ρ (· <st.heap.length) (aq st.heap) w') (df.map qL) .returning w
 |ds,[],w,_,_,br=>by
  obtain ⟨v,hr,hok,hR⟩:=Xf hT br h
  exact ⟨_,hr,v,rfl,hok,hR,br.st⟩
 |ds,D::df,w,hn,hd,br=>by
  have hD:=hd D (by simp)
  rw [List.nodup_cons] at hn
  refine ⟨by simp,.inl ⟨D,_,rfl,run_takeDeferred hD.2,AU hT h ds df _ hn.2 (fun D' hD'=> ?_) ?_⟩⟩
  ·have:=hd D' (by simp [hD'])
   exact ⟨this.1,by rw [World.putObj_heap_other (by rintro rfl;exact hn.1 hD')];exact this.2⟩
  ·refine ⟨br.tmps,br.size,br.defers,br.kn,br.st.put (.inl hD.1) (fun hc=> ?_) fun m p hp=> ?_⟩
   ·obtain ⟨cs,e,f,h2⟩:=hc
    rw [hD.2] at h2;cases h2
   have hk:=br.st.kn m p hp
   exact ⟨fun h1=>absurd hD.2 (Ho (br.st.at_ m p hp) h1 _),fun _=>hp,by simp [hp],hk.1,hk.2⟩
theorem oX (hT:aU P ctx.tt) (hC:qx P ctx) (hX:Dy ax W ctx.X) (hm:P.follows .mixedOrders=true) {f:FuncId} {fn:Func} (hf:P.funcs[f]? =some fn) (vR: ∀c,fn.body=some c->s5 P ctx c) {args:List AV} {heap:List aI} {R:AV->AS->Prop}
  (h:ML ctx fn args heap R) {ρ:Env} {w:World} (hargs: ∀x∈args,x.ok (· <heap.length)) (hst:St ax W ρ (· <heap.length) (aq heap) w):
  Calls P f (args.map (AV.af ρ)).toArray w fun e w'=> ∃st ρ' v,e= .returned (v.af ρ')/\ v.ok (· <st.heap.length)/\ R v st/\ St ax W ρ' (· <st.heap.length) (aq st.heap) w':=by
 unfold ML at h
 split at h
 ·rename_i c hb
  refine callsIn_wide.1 (callsIn_of_wp_marks (F:=fw none) (n:=0) hf hb trivial ?_ rfl)
  have br:FU ax W ⟨args++List.replicate (fn.ntmps- args.length) aX,heap⟩ ρ {tmps:=(args.map (AV.af ρ)).toArray++Array.replicate (fn.ntmps- (args.map (AV.af ρ)).toArray.size) undef,defers:= []} w:=by
   refine ⟨[],List.nodup_nil,fun D hD=>absurd hD (by simp),fun t _=>Tl ρ args fn.ntmps t,by simp,rfl,fun t=> ?_,hst⟩
   dsimp only
   rw [A4,List.getD,List.getElem?_append]
   split
   ·rename_i hl
    rw [List.getElem?_eq_getElem hl]
    exact hargs _ (List.getElem_mem hl)
   ·rw [List.getElem?_replicate];split<;>exact w4 _
  have key: ∀st ρ' a' w',Xe ctx fn st R->FU ax W st ρ' a' w'->LeavesInM (fw none) 0 P fn a'.tmps (fun e w'=> ∃st ρ' v,e= .returned (v.af ρ')/\ v.ok (· <st.heap.length)/\ R v st/\ St ax W ρ' (· <st.heap.length) (aq st.heap) w') a'.defers .returning w':=by
   rintro st ρ' a' w' hk ⟨ds,mC⟩
   have hdf:=mC.pK.defers
   have oD:qv ax W (ds.map qL) st ρ' {tmps:=a'.tmps,defers:=ds.map qL} w':=⟨mC.pK.tmps,mC.pK.size,rfl,mC.pK.kn,mC.pK.st⟩
   have:=AU (P:=P) (tm:=a'.tmps) hT hk ds ds w' mC.nd mC.dd oD
   rw [hdf]
   have mono: ∀(l:List Nat) (w:World),LeavesInM (fw none) 0 P fn a'.tmps (fun e w'=> ∃v,e= .returned (v.af ρ')/\ v.ok (· <st.heap.length)/\ R v st/\ St ax W ρ' (· <st.heap.length) (aq st.heap) w') (l.map qL) .returning w->
     LeavesInM (fw none) 0 P fn a'.tmps (fun e w'=> ∃st ρ' v,e= .returned (v.af ρ')/\ v.ok (· <st.heap.length)/\ R v st/\ St ax W ρ' (· <st.heap.length) (aq st.heap) w') (l.map qL) .returning w:=by
    intro l
    induction l with
    |nil=>rintro w ⟨u,hr,v,h1,h2,h3,h4⟩;exact ⟨u,hr,st,ρ',v,h1,h2,h3,h4⟩
    |cons D l ih=>
     rintro w ⟨h1,h2⟩
     refine ⟨h1,?_⟩
     rcases h2 with ⟨r,w2,h3,h4,h5⟩|⟨_,fv,cap,f,args,h3,_⟩
     ·exact .inl ⟨r,w2,h3,h4,ih w2 h5⟩
     ·simp [qL] at h3
   exact mono ds w' this
  refine wpIn_mono (qB hT hC hm c (vR c hb) ax W none 0 hX (.inl rfl) _ _ h ρ _ w br) ?_
  rintro e a' w' ⟨st,ρ',hk,mC⟩
  cases e with
  |normal=>exact key st ρ' a' w' hk mC
  |ret=>exact key st ρ' a' w' hk mC
  |_=>exact hk.elim
 ·exact h.elim
end
theorem Fr.Nc {ax:kz} {W w:World} (h:Fr KS W w):Fr ax W w:=⟨h.os,h.tape,h.output,h.size,fun k hk _=>h.block k hk id,h.QL⟩
theorem St.called {ax:kz} {W w w':World} {ρ:Env} {Kn:Nat->Prop} {Γ:HP} (h:St ax W ρ Kn Γ w) (hf:Fr KS w w'):St ax W ρ Kn Γ w':=
 h.world (h.fr.trans hf.Nc) fun b hb=>hf.block b hb id
end Go.Ev
namespace Go.Ev
open Go.RowKit
inductive qw
 |one (t:Ty)
 |agg (t:Ty)
 |ptr (t:Ty)
 |pair (a b:qw)
 |mB (f:FuncId) (p:qw)
 |mv (f:FuncId) (agg:Bool) (t:Ty)
 |none
@[reducible] def qw.ty:qw->Ty
 | .one t=>t
 | .agg t=>t
 | .ptr t=>t
 | .pair a b=> .prod a.ty b.ty
 | .mB _ p=>p.ty
 | .mv _ _ t=>t
 | .none=> .bool
def qw.cap:qw->Bool
 | .ptr _=>true
 | .pair a b=>a.cap&&b.cap
 | .none=>true
 |_=>false
def P5:A0->Ref
 | .one (.bD n j _)=> .elem n j
 |_=> .ext undef
def Z4 (c:Cell):Ref:=match c with
 | .raw v=> .ext v
 | .full n=> .full n
 |_=> .ext undef
def cx (rk:Nat):Nat->List ck->List Cell×List aI
 |_,[]=>([],[])
 |nm,.flat v::r=>match cx rk nm r with|(cs,os)=>(.raw v::cs,os)
 |nm,.sl u l::r=>match cx rk (nm+1) r with|(cs,os)=>(.full nm::cs,.row u l rk::os)
def so (agg:Bool) (cs:List Cell):A0:=match agg with
 |false=>(match cs with| [c]=> .one c|cs=> .agg cs)
 |true=> .agg cs
def aT (rk:Nat):Nat->(p:qw)->p.ty.T->List A0×List aI
 |nm,.one t,x=>match cx rk nm (t.aJ x) with|(cs,os)=>([so false cs],os)
 |nm,.agg t,x=>match cx rk nm (t.aJ x) with|(cs,os)=>([so true cs],os)
 |nm,.ptr t,x=>([.one (.bD nm 0 0)],[.row t [x] 0])
 |nm,.pair a b,x=>match aT rk nm a x.1 with
  |(as,os)=>match aT rk (nm+os.length) b x.2 with
   |(bs,os')=>(as++bs,os++os')
 |nm,.mB f p,x=>match aT rk nm p x with
  |(as,os)=>([.one (.mB (.func f) [] (as.map P5))],os)
 |nm,.mv f agg t,x=>match cx rk nm (t.aJ x) with|(cs,os)=>([.one (.mv f agg (cs.map Z4))],os)
 |_,.none,_=>([],[])
def oB (hp:HP):(p:qw)->List AV->Option (p.ty.T×List AV×List Nat×Bool)
 | .one t,l=>match l with
  | .v (.one c)::r=>match b7 hp t [c] with
   |some (x,[],tc)=>some (x,r,tc,true)
   |_=>none
  |_=>none
 | .agg t,l=>match l with
  | .v (.agg cs)::r=>match b7 hp t cs with
   |some (x,[],tc)=>some (x,r,tc,true)
   |_=>none
  |_=>none
 | .ptr t,l=>match l with
  | .v (.one (.ptr n off))::r=>match hp n with
   |some (.cells cs _)=>match b7 hp t ((cs.drop off).take t.size) with
    |some (x,[],tc)=>if t.shallow then some (x,r,n::tc,true) else none
    |_=>none
   |_=>none
  | .v (.one (.bD n j 0))::r=>match hp n with
   |some (.row u l _)=>match kG u t l with
    |some l'=>some (gd t l' j,r,[n],decide (j<l'.length))
    |none=>none
   |_=>none
  |_=>none
 | .pair a b,l=>match oB hp a l with
  |some (x,r,tc,f)=>match oB hp b r with
   |some (y,r',zZ,f')=>some ((x,y),r',tc++zZ,f&&f')
   |none=>none
  |none=>none
 | .mB f p,l=>match l with
  | .v (.one (.mB (.func g) [] cap))::r=>if g=f then (match oB hp p (cap.map A6) with
   |some (x,[],tc,b)=>some (x,r,tc,p.cap&&b)
   |_=>none) else none
  |_=>none
 | .mv f agg t,l=>match l with
  | .v (.one (.mv g adv rs))::r=>if g=f/\ adv=agg then (match b7 hp t (rs.map BD) with
   |some (x,[],tc)=>some (x,r,tc,true)
   |_=>none) else none
  |_=>none
 | .none,l=>some (false,l,[],true)
def jJ:List A0->AV
 | [a]=> .v a
 |l=> .r7 l
def lK:AV->Option (List A0)
 | .v a=>some [a]
 | .r7 l=>match l with
  | [_]=>none
  |l=>some l
 | .dead=>none
def JE (hp:HP):Ty->List Cell->Option (List Src×List Cell)
 | .prod a b,cs=>match JE hp a cs with
  |some (ss,r)=>match JE hp b r with
   |some (ss',r')=>some (ss++ss',r')
   |none=>none
  |none=>none
 | .sl u,cs=>match cs with
  | .raw (.slice none 0 0)::r=>some ([.nil],r)
  | .full n::r=>match hp n with
   |some (.row _ _ rk)=>if rk=2 then some ([.same n],r) else none
   |_=>none
  | .sl n 0 len c::r=>if c=len then (match hp n with
   |some (.cells cs _)=>if u.flat&&(decide (cs.length=len*u.size)&&Nat.ble len 1099511627776) then some ([.cells n len],r) else none
   |_=>none) else none
  |_=>none
 |_,cs=>match cs with
  |_::r=>some ([],r)
  | []=>none
def Fa (hp:HP):(p:qw)->List A0->Option (p.ty.T×List A0×List Src)
 | .one t,l=>match l with
  | .one c::r=>match b7 hp t [c] with
   |some (y,[],_)=>match JE hp t [c] with
    |some (ss,_)=>some (y,r,ss)
    |none=>none
   |_=>none
  |_=>none
 | .agg t,l=>match l with
  | .agg cs::r=>match b7 hp t cs with
   |some (y,[],_)=>match JE hp t cs with
    |some (ss,_)=>some (y,r,ss)
    |none=>none
   |_=>none
  |_=>none
 | .ptr _,_=>none
 | .mB _ _,_=>none
 | .mv _ _ _,_=>none
 | .pair a b,l=>match Fa hp a l with
  |some (x,r,ss)=>match Fa hp b r with
   |some (y,r',ss')=>some ((x,y),r',ss++ss')
   |none=>none
  |none=>none
 | .none,l=>some (false,l,[])
def S5 (r:qw) (Q:r.ty.T->Prop) (v:AV) (st:AS):Prop:=match lK v with
 |some l=>match Fa (aq st.heap) r l with
  |some (y,[],ss)=>if kB (ss.filterMap Dq) then Q y else False
  |_=>False
 |none=>False
def gB (p:qw) (x:p.ty.T):List AV:=(aT 0 0 p x).1.map .v
def gC (p:qw) (x:p.ty.T):List aI:=(aT 0 0 p x).2
structure cC where
 p:qw
 r:qw
 pre:p.ty.T->Prop
 f:p.ty.T->r.ty.T
def aj (s:cC):Spec:=fun _ args hp nm k=>match oB hp s.p args with
 |some (x,[],tc,b)=>ob b (s.pre x/\ ∀y,y=s.f x->k {val:=jJ (aT 2 nm s.r y).1,fresh:=(aT 2 nm s.r y).2,aC:=tc})
 |_=>False
def xp (w:World):aI->Loc->Prop
 | .row u l rk,x=>rk=0/\ (x.bq=none/\ x.bW= [])/\ x.len=l.length/\ x.es=u.size/\ l.length<=x.cap/\ mE w (QO w) x.base u l
 |_,_=>False
theorem kA {w:World} : ∀(cs:List ck) (vals:List Value) (nm:Nat),bK (E8 w (QO w)) cs vals->
  ∃xs,bK (xp w) (cx 0 nm cs).2 xs/\ ∀bu:Env,(∀i x,xs[i]? =some x->bu (nm+i)=x)->(cx 0 nm cs).1.map (Cell.af bu)=vals
 | [],[],nm,_=>⟨[],trivial,fun _ _=>rfl⟩
 | [],_::_,_,h=>h.elim
 |_::_,[],_,h=>h.elim
 | .flat v::r,v'::vr,nm,h=>by
  obtain ⟨xs,h1,h2⟩:=kA r vr nm h.2
  refine ⟨xs,h1,fun bu hr=> ?_⟩
  have:=h2 bu hr
  have hv:v'=v:=h.1
  simp only [cx,List.map_cons,this,hv];rfl
 | .sl u l::r,v'::vr,nm,h=>by
  obtain ⟨xs,h1,h2⟩:=kA r vr (nm+1) h.2
  obtain ⟨a,c,hv,hc,hr⟩:=h.1
  refine ⟨{bq:=none,base:=a,len:=l.length,cap:=c,es:=u.size} ::xs,⟨⟨rfl,⟨rfl,rfl⟩,rfl,rfl,hc,hr⟩,h1⟩,fun bu hr=> ?_⟩
  have:=h2 bu fun i x hi=>by
   have:=hr (i+1) x (by simpa using hi)
   rwa [show nm+(i+1)=nm+1+i by omega] at this
  have h0:=hr 0 _ rfl
  rw [Nat.add_zero] at h0
  simp only [cx,List.map_cons,this,hv,Cell.af,h0]
theorem add_zero' (a:Addr):a.add 0=a:=by unfold Addr.add;split<;>simp_all
theorem Lm {rk nm:Nat} {ρ:Env} : ∀(p:qw),p.cap=true-> ∀ {x:p.ty.T},((aT rk nm p x).1.map P5).map (Ref.af ρ)=(aT rk nm p x).1.map (A0.af ρ):=by
 intro p
 induction p generalizing nm with
 |ptr t=>intro _ x;rfl
 |none=>intro _ x;rfl
 |pair a b JA JB=>
  intro h x
  simp only [qw.cap,Bool.and_eq_true] at h
  simp only [aT,List.map_append]
  rw [JA h.1,JB h.2]
 |one t=>intro h;cases h
 |agg t=>intro h;cases h
 |mB f p _=>intro h;cases h
 |mv f agg t=>intro h;cases h
theorem xU (rk:Nat) (ρ:Env): ∀(cs:List ck) (nm:Nat),((cx rk nm cs).1.map Z4).map (Ref.af ρ)=(cx rk nm cs).1.map (Cell.af ρ)
 | [],_=>rfl
 | .flat v::r,nm=>by simp only [cx,List.map_cons,xU rk ρ r nm];rfl
 | .sl u l::r,nm=>by simp only [cx,List.map_cons,xU rk ρ r (nm+1)];rfl
theorem sk {hp:HP} : ∀(p:qw) (args:List AV) (x:p.ty.T) (r:List AV) (tc:List Nat),oB hp p args=some (x,r,tc,true)->
  ∃as,args=as++r/\ ∀ax W ρ Kn Γ w,(∀m∈tc,Γ m=hp m)->St ax W ρ Kn Γ w-> ∀nm,∃xs,bK (xp w) (aT 0 nm p x).2 xs/\
   ∀bu:Env,(∀i x,xs[i]? =some x->bu (nm+i)=x)->as.map (AV.af ρ)=(aT 0 nm p x).1.map (A0.af bu)
 | .one t,args,x,r,tc,h=>by
  simp only [oB] at h
  split at h<;>try (cases h;done)
  rename_i c r'
  split at h<;>try (cases h;done)
  rename_i y zZ hd
  cases h
  obtain ⟨ys,e,hl,hs⟩:=kH hp t _ _ _ _ hd
  rw [List.append_nil] at e
  subst e
  refine ⟨[_],rfl,fun ax W ρ Kn Γ w ht hst nm=> ?_⟩
  obtain ⟨xs,h1,h2⟩:=kA _ _ nm (hs ax W ρ Kn Γ w ht hst)
  refine ⟨xs,h1,fun bu hr=> ?_⟩
  have:=h2 bu hr
  simp only [aT,List.map_cons,List.map_nil]
  simp only [List.map_cons,List.map_nil] at this
  obtain ⟨c',Ro,e⟩: ∃c',(cx 0 nm (t.aJ x)).1= [c']/\ c'.af bu=c.af ρ:=by
   match hm:(cx 0 nm (t.aJ x)).1,this with
   | [c'],h=>simp only [List.map_cons,List.map_nil,List.cons.injEq,and_true] at h;exact ⟨c',rfl,h⟩
   | [],h=>simp at h
   |_::_::_,h=>simp at h
  rw [Ro]
  simp only [so,AV.af,A0.af,e]
 | .agg t,args,x,r,tc,h=>by
  simp only [oB] at h
  split at h<;>try (cases h;done)
  rename_i cs r'
  split at h<;>try (cases h;done)
  rename_i y zZ hd
  cases h
  obtain ⟨ys,e,hl,hs⟩:=kH hp t _ _ _ _ hd
  rw [List.append_nil] at e
  subst e
  refine ⟨[_],rfl,fun ax W ρ Kn Γ w ht hst nm=> ?_⟩
  obtain ⟨xs,h1,h2⟩:=kA _ _ nm (hs ax W ρ Kn Γ w ht hst)
  refine ⟨xs,h1,fun bu hr=> ?_⟩
  have:=h2 bu hr
  simp only [aT,so,List.map_cons,List.map_nil,AV.af,A0.af,this]
 | .ptr t,args,x,r,tc,h=>by
  simp only [oB] at h
  split at h
  ·rename_i n off r'
   split at h<;>try (cases h;done)
   rename_i cs e he
   split at h<;>try (cases h;done)
   rename_i y zZ hd
   split at h<;>try (cases h;done)
   rename_i hsh
   cases h
   obtain ⟨ys,e1,hl,hs⟩:=kH hp t _ _ _ _ hd
   rw [List.append_nil] at e1
   refine ⟨[_],rfl,fun ax W ρ Kn Γ w ht hst nm=> ?_⟩
   have hall:=wY t x _ hsh (hs ax W ρ Kn Γ w (fun m hm=>ht m (by simp [hm])) hst)
   obtain ⟨b,hb,hh⟩:=hst.at_ n _ (by rw [ht n (by simp),he])
   refine ⟨[{bq:=none,base:=addrOf ρ n off,len:=1,cap:=1,es:=t.size}],⟨⟨rfl,⟨rfl,rfl⟩,rfl,rfl,by simp,ys.map (Cell.af ρ),?_,fun i v hv=> ?_⟩,trivial⟩,fun bu hr=> ?_⟩
   ·simpa [ak] using hall
   ·refine ⟨⟨b,off,none⟩,by simp [addrOf,hb],?_,?_⟩
    ·rw [Mq,bF (by simpa using hh)]
     rw [<- e1,List.map_take,List.map_drop,List.getElem?_take] at hv
     split at hv
     ·rwa [List.getElem?_drop] at hv
     ·cases hv
    ·exact ⟨_,_,_,hh⟩
   ·have h0:=hr 0 _ rfl
    rw [Nat.add_zero] at h0
    simp only [aT,List.map_cons,List.map_nil,AV.af,A0.af,Cell.af,h0]
    cases addrOf ρ n off<;>simp [add_zero']
  ·rename_i n j r'
   split at h<;>try (cases h;done)
   rename_i u l rk he
   split at h<;>try (cases h;done)
   rename_i l' hl'
   simp only [Option.some.injEq,Prod.mk.injEq,decide_eq_true_eq] at h
   obtain ⟨rfl,rfl,rfl,hj⟩:=h
   obtain ⟨e,e2⟩:=cP hl'
   subst e
   dsimp only at e2
   subst e2
   refine ⟨[_],rfl,fun ax W ρ Kn Γ w ht hst nm=> ?_⟩
   have cj:Γ n=some (.row u l rk):=by rw [ht n (by simp),he]
   have hra:=hst.rowAt cj
   have hes:(ρ n).es=u.size:=(hst.at_ n _ cj).2.1
   have hp:=hra.part (a':=(ρ n).base.map (·.add (j*u.size))) j (some 1) fun _=>rfl
   have yy:n5 l j (some 1)= [gd u l j]:=by
    simp only [n5,gd,List.getD_eq_getElem?_getD,List.getElem?_eq_getElem hj,Option.getD_some]
    rw [List.drop_eq_getElem_cons hj];rfl
   rw [yy] at hp
   refine ⟨[{bq:=none,base:=(ρ n).base.map (·.add (j*u.size)),len:=1,cap:=1,es:=u.size}],⟨⟨rfl,⟨rfl,rfl⟩,rfl,rfl,by simp,hp⟩,trivial⟩,fun bu hr=> ?_⟩
   have h0:=hr 0 _ rfl
   rw [Nat.add_zero] at h0
   simp only [aT,List.map_cons,List.map_nil,AV.af,A0.af,Cell.af,h0,hes]
   cases (ρ n).base<;>simp [add_zero']
  ·cases h
 | .mB f p,args,x,r,tc,h=>by
  simp only [oB] at h
  split at h<;>try (cases h;done)
  rename_i g cap r'
  split at h<;>try (cases h;done)
  rename_i hg
  split at h<;>try (cases h;done)
  rename_i x1 QF b1 h1
  simp only [Option.some.injEq,Prod.mk.injEq,Bool.and_eq_true] at h
  obtain ⟨rfl,rfl,rfl,hc,rfl⟩:=h
  subst hg
  obtain ⟨as,e1,k1⟩:=sk p _ _ _ _ h1
  rw [List.append_nil] at e1
  refine ⟨[_],rfl,fun ax W ρ Kn Γ w ht hst nm=> ?_⟩
  obtain ⟨xs,g1,g2⟩:=k1 ax W ρ Kn Γ w ht hst nm
  refine ⟨xs,g1,fun bu hr=> ?_⟩
  have h2:=g2 bu hr
  have e2:cap.map (Ref.af ρ)=((aT 0 nm p x1).1.map P5).map (Ref.af bu):=by
   rw [Lm p hc,<- h2,<- e1,List.map_map]
   exact List.map_congr_left fun q _=>(tL ρ q).symm
  simp only [aT,List.map_cons,List.map_nil,AV.af,A0.af,Cell.af,e2]
 | .mv f agg t,args,x,r,tc,h=>by
  simp only [oB] at h
  split at h<;>try (cases h;done)
  rename_i g adv rs r'
  split at h<;>try (cases h;done)
  rename_i hg
  split at h<;>try (cases h;done)
  rename_i y zZ hd
  cases h
  obtain ⟨rfl,rfl⟩:=hg
  obtain ⟨ys,e,hl,hs⟩:=kH hp t _ _ _ _ hd
  rw [List.append_nil] at e
  refine ⟨[_],rfl,fun ax W ρ Kn Γ w ht hst nm=> ?_⟩
  obtain ⟨xs,h1,h2⟩:=kA _ _ nm (hs ax W ρ Kn Γ w ht hst)
  refine ⟨xs,h1,fun bu hr=> ?_⟩
  have h3:=h2 bu hr
  have e2:rs.map (Ref.af ρ)=((cx 0 nm (t.aJ x)).1.map Z4).map (Ref.af bu):=by
   rw [xU,h3,<- e,List.map_map]
   exact List.map_congr_left fun q _=>(pD ρ q).symm
  simp only [aT,List.map_cons,List.map_nil,AV.af,A0.af,Cell.af,e2]
 | .pair a b,args,x,r,tc,h=>by
  simp only [oB] at h
  split at h<;>try (cases h;done)
  rename_i x1 r1 QF f1 h1
  split at h<;>try (cases h;done)
  rename_i x2 r2 XH f2 h2
  simp only [Option.some.injEq,Prod.mk.injEq,Bool.and_eq_true] at h
  obtain ⟨rfl,rfl,rfl,rfl,rfl⟩:=h
  obtain ⟨as,e1,k1⟩:=sk a _ _ _ _ h1
  obtain ⟨bs,e2,k2⟩:=sk b _ _ _ _ h2
  refine ⟨as++bs,by rw [e1,e2];simp,fun ax W ρ Kn Γ w ht hst nm=> ?_⟩
  obtain ⟨xs,g1,g2⟩:=k1 ax W ρ Kn Γ w (fun m hm=>ht m (by simp [hm])) hst nm
  obtain ⟨ys,g3,g4⟩:=k2 ax W ρ Kn Γ w (fun m hm=>ht m (by simp [hm])) hst (nm+(aT 0 nm a x1).2.length)
  refine ⟨xs++ys,g1.append g3,fun bu hr=> ?_⟩
  have hl:=g1.length
  simp only [aT,List.map_append]
  rw [g2 bu fun i x hi=>hr i x (by rw [List.getElem?_append_left (List.getElem?_eq_some_iff.1 hi).1];exact hi),g4 bu fun i x hi=>by
   have:=hr (xs.length+i) x (by rw [List.getElem?_append_right (by omega)];simpa using hi)
   rwa [<- hl,<- Nat.add_assoc] at this]
 | .none,args,x,r,tc,h=>by
  simp only [oB,Option.some.injEq,Prod.mk.injEq,and_true] at h
  obtain ⟨rfl,rfl,rfl⟩:=h
  exact ⟨[],rfl,fun ax W ρ Kn Γ w ht hst nm=>⟨[],trivial,fun _ _=>rfl⟩⟩
where Mq {b off m:Nat} :(⟨b,off,none⟩:Addr).add m=⟨b,off+m,none⟩:=by unfold Addr.add;split<;>simp_all
theorem nU {w:World} {o:aI} {x:Loc} (h:xp w o x): ∃u,∃l:List u.T,o= .row u l 0:=by
 cases o<;>first|exact h.elim|(obtain ⟨rfl,_⟩:=h;exact ⟨_,_,rfl⟩)
theorem St.begin {w:World} {os:List aI} {xs:List Loc} (h:bK (xp w) os xs):St KS w (fun n=>xs.getD n {}) (· <os.length) (aq os) w:=by
 have qJ: ∀n o,aq os n=some o->os[n]? =some o:=fun n o ho=>by
  unfold aq at ho
  split at ho
  ·cases ho
  ·exact ho
 have hx: ∀n o,aq os n=some o->xp w o (xs.getD n {}):=fun n o ho=>by
  obtain ⟨x,h1,h2⟩:=h.get n o (qJ n o ho)
  simpa [h1] using h2
 have lz: ∀n,(aq os n).isSome=true->(xs.getD n {}).bq=Option.none/\ (xs.getD n {}).bW= []:=fun n hn=>by
  obtain ⟨o,ho⟩:=Option.isSome_iff_exists.1 hn
  have:=hx n o ho
  obtain ⟨u,l,rfl⟩:=nU this
  exact this.2.1
 refine ⟨Fr.refl _ _,fun n o ho=> ?_,fun n o ho=> ?_,fun n m b hn hm hb=> ?_,fun n b hn hb=> ?_,fun b ⟨m,S,h1,_⟩=> ?_,fun n o ho=> .inr (lz n (by rw [ho];rfl)).2⟩
 rotate_right
 ·obtain ⟨u,l,e⟩:=nU (hx m _ h1)
  cases e
 ·have hg:=hx n o ho
  obtain ⟨u,l,rfl⟩:=nU hg
  obtain ⟨_,h1,h2,h3,h4,vals,h5,h6⟩:=hg
  obtain ⟨e1,e2⟩:=mY h5
  have hfz: ∀b,bA w b->gW (fun n=>xs.getD n {}) (aq os) w b:=fun b hb=>⟨hb,by
   rintro (⟨m,g1,g2⟩|⟨m,S,g1,_⟩)
   ·exact we (lz m g1) g2
   ·obtain ⟨u,l,e⟩:=nU (hx m _ g1)
    cases e⟩
  refine ⟨h2,h3,h4,u9 vals,fun i v hv=> ?_,fun q u' l' hq=> ?_,fun _=>h1.1,fun h=>absurd rfl h⟩
  ·rw [e1] at hv
   obtain ⟨a,g1,g2,g3⟩:=h6 i v hv
   exact ⟨a,g1,g2,fun _=>hfz _ g3⟩
  ·exact (e2 q u' l' hq).weak fun b hb=>⟨hfz b hb,fun h=>by cases h⟩
 ·obtain ⟨u,l,rfl⟩:=nU (hx n o ho)
  exact ⟨(List.getElem?_eq_some_iff.1 (qJ n _ ho)).1,trivial⟩
 ·exact (we (lz n hn) hb).elim
 ·exact (we (lz n hn) hb).elim
end Go.Ev
namespace Go.Ev
open Go.RowKit
theorem vG (rk:Nat): ∀(a b:List ck) (nm:Nat),cx rk nm (a++b)=((cx rk nm a).1++(cx rk (nm+(cx rk nm a).2.length) b).1,(cx rk nm a).2++(cx rk (nm+(cx rk nm a).2.length) b).2)
 | [],b,nm=>by simp [cx]
 | .flat v::r,b,nm=>by
  have:=vG rk r b nm
  simp only [List.cons_append,cx,this]
 | .sl u l::r,b,nm=>by
  have:=vG rk r b (nm+1)
  simp only [List.cons_append,cx,this,List.length_cons,show nm+((cx rk (nm+1) r).2.length+1)=nm+1+(cx rk (nm+1) r).2.length by omega]
theorem BF {π:List Src} : ∀(a b:List Cell) (x y:List Cell),iO π a=some x->iO π b=some y->iO π (a++b)=some (x++y)
 | [],b,x,y,h1,h2=>by simp only [iO,Option.some.injEq] at h1;subst h1;exact h2
 |c::r,b,x,y,h1,h2=>by
  simp only [iO] at h1
  split at h1
  ·rename_i q m e1 e2
   cases h1
   have:=BF r b m y e2 h2
   simp only [List.cons_append,iO,e1,this]
  ·cases h1
theorem A8 {h:List aI} : ∀(t:Ty) (cs:List Cell) (y:t.T) (r r':List Cell) (tc:List Nat) (ss:List Src),b7 (aq h) t cs=some (y,r,tc)->JE (aq h) t cs=some (ss,r')->
  ∃ys,cs=ys++r/\ r'=r/\ ys.length=t.size/\ ∀(π:List Src) (nm:Nat),(∀i s,ss[i]? =some s->π[nm+i]? =some s)->
   iO π (cx 2 nm (t.aJ y)).1=some ys/\ bK (C7 π h) ss (cx 2 nm (t.aJ y)).2
 | .int k,cs,y,r,r',tc,ss,hd,ho=>by
  simp only [b7] at hd
  split at hd<;>try (cases hd;done)
  split at hd<;>try (cases hd;done)
  rename_i e
  cases hd;subst e
  simp only [JE,Option.some.injEq,Prod.mk.injEq] at ho
  obtain ⟨rfl,rfl⟩:=ho
  exact ⟨[_],rfl,rfl,rfl,fun π nm _=>⟨rfl,trivial⟩⟩
 | .bool,cs,y,r,r',tc,ss,hd,ho=>by
  simp only [b7] at hd
  split at hd<;>try (cases hd;done)
  cases hd
  simp only [JE,Option.some.injEq,Prod.mk.injEq] at ho
  obtain ⟨rfl,rfl⟩:=ho
  exact ⟨[_],rfl,rfl,rfl,fun π nm _=>⟨rfl,trivial⟩⟩
 | .str,cs,y,r,r',tc,ss,hd,ho=>by
  simp only [b7] at hd
  split at hd<;>try (cases hd;done)
  cases hd
  simp only [JE,Option.some.injEq,Prod.mk.injEq] at ho
  obtain ⟨rfl,rfl⟩:=ho
  exact ⟨[_],rfl,rfl,rfl,fun π nm _=>⟨rfl,trivial⟩⟩
 | .prod a b,cs,y,r,r',tc,ss,hd,ho=>by
  simp only [b7] at hd
  split at hd<;>try (cases hd;done)
  rename_i x1 r1 QF h1
  split at hd<;>try (cases hd;done)
  rename_i x2 r2 XH h2
  cases hd
  simp only [JE] at ho
  split at ho<;>try (cases ho;done)
  rename_i ss1 q1 o1
  split at ho<;>try (cases ho;done)
  rename_i ss2 q2 o2
  cases ho
  obtain ⟨ys,e1,e2,e3,e4⟩:=A8 a _ _ _ _ _ _ h1 o1
  subst e2
  obtain ⟨zs,f1,f2,f3,f4⟩:=A8 b _ _ _ _ _ _ h2 o2
  subst f2
  refine ⟨ys++zs,by rw [e1,f1];simp,rfl,by simp [e3,f3,Ty.size],fun π nm RG=> ?_⟩
  obtain ⟨g1,g2⟩:=e4 π nm fun i s hi=>RG i s (by rw [List.getElem?_append_left (List.getElem?_eq_some_iff.1 hi).1];exact hi)
  have hl:=g2.length
  obtain ⟨g3,g4⟩:=f4 π (nm+(cx 2 nm (a.aJ x1)).2.length) fun i s hi=>by
   have:=RG (ss1.length+i) s (by rw [List.getElem?_append_right (by omega)];simpa using hi)
   rwa [hl,<- Nat.add_assoc] at this
  rw [show (Ty.prod a b).aJ (x1,x2)=a.aJ x1++b.aJ x2 from rfl,vG]
  exact ⟨BF _ _ _ _ g1 g3,g2.append g4⟩
 | .sl u,cs,y,r,r',tc,ss,hd,ho=>by
  simp only [JE] at ho
  split at ho
  ·cases ho
   simp only [b7,Option.some.injEq,Prod.mk.injEq] at hd
   obtain ⟨rfl,rfl,rfl⟩:=hd
   refine ⟨[_],rfl,rfl,rfl,fun π nm RG=> ?_⟩
   have h0:=RG 0 _ rfl
   rw [Nat.add_zero] at h0
   refine ⟨?_,⟨⟨u,2,rfl,by decide⟩,trivial⟩⟩
   simp only [Ty.aJ,cx,iO,jU,h0]
  ·rename_i n r1
   split at ho<;>try (cases ho;done)
   rename_i t l rk hn
   split at ho<;>try (cases ho;done)
   rename_i rE
   cases ho;subst rE
   simp only [b7,hn] at hd
   split at hd<;>try (cases hd;done)
   rename_i l' hl'
   cases hd
   obtain ⟨e,e2⟩:=cP hl'
   subst e
   dsimp only at e2
   subst e2
   refine ⟨[_],rfl,rfl,rfl,fun π nm RG=> ?_⟩
   have h0:=RG 0 _ rfl
   rw [Nat.add_zero] at h0
   refine ⟨?_,⟨⟨_,hn,rfl⟩,trivial⟩⟩
   simp only [Ty.aJ,cx,iO,jU,h0]
  ·rename_i n len c r1
   split at ho<;>try (cases ho;done)
   rename_i hc
   split at ho<;>try (cases ho;done)
   rename_i cs' e hn
   split at ho<;>try (cases ho;done)
   rename_i hf
   simp only [Bool.and_eq_true,decide_eq_true_eq] at hf
   cases ho;subst hc
   simp only [b7,ju hf.1,hn,Nat.le_refl,decide_true,Bool.and_self,if_true,List.drop_zero] at hd
   split at hd<;>try (cases hd;done)
   rename_i l QF hN
   cases hd
   obtain ⟨g1,_⟩:=CN (eo:=fun _=>none) hf.1 _ _ _ _ hN
   refine ⟨[_],rfl,rfl,rfl,fun π nm RG=> ?_⟩
   have h0:=RG 0 _ rfl
   rw [Nat.add_zero] at h0
   refine ⟨?_,⟨⟨u,y,cs',e,2,rfl,.inl rfl,hn,hf.1,g1,hf.2⟩,trivial⟩⟩
   simp only [Ty.aJ,cx,iO,jU,h0]
  ·cases ho
theorem BE {π:List Src} : ∀(a b:List A0) (x y:List A0),iq π a=some x->iq π b=some y->iq π (a++b)=some (x++y)
 | [],b,x,y,h1,h2=>by simp only [iq,Option.some.injEq] at h1;subst h1;exact h2
 |c::r,b,x,y,h1,h2=>by
  simp only [iq] at h1
  split at h1
  ·rename_i q m e1 e2
   cases h1
   have:=BE r b m y e2 h2
   simp only [List.cons_append,iq,e1,this]
  ·cases h1
theorem xd {h:List aI} : ∀(p:qw) (l:List A0) (y:p.ty.T) (r:List A0) (ss:List Src),Fa (aq h) p l=some (y,r,ss)->
  ∃ys,l=ys++r/\ ∀(π:List Src) (nm:Nat),(∀i s,ss[i]? =some s->π[nm+i]? =some s)->iq π (aT 2 nm p y).1=some ys/\ bK (C7 π h) ss (aT 2 nm p y).2
 | .one t,l,y,r,ss,hd=>by
  simp only [Fa] at hd
  split at hd<;>try (cases hd;done)
  rename_i c r1
  split at hd<;>try (cases hd;done)
  rename_i x tc h1
  split at hd<;>try (cases hd;done)
  rename_i ss1 q h2
  cases hd
  obtain ⟨ys,e1,e2,e3,e4⟩:=A8 t _ _ _ _ _ _ h1 h2
  rw [List.append_nil] at e1
  subst e1
  refine ⟨[_],rfl,fun π nm RG=> ?_⟩
  obtain ⟨g1,g2⟩:=e4 π nm RG
  refine ⟨?_,g2⟩
  simp only [aT]
  match hm:(cx 2 nm (t.aJ y)).1,g1 with
  | [],g1=>simp [iO] at g1
  | [c'],g1=>
   simp only [iO] at g1
   split at g1
   ·rename_i q' m' k1 k2
    simp only [Option.some.injEq,List.cons.injEq] at g1
    obtain ⟨rfl,rfl⟩:=g1
    simp only [so,iq,JP,k1]
   ·cases g1
  |_::_::_,g1=>
   simp only [iO] at g1
   split at g1
   ·rename_i k1 k2
    split at k2
    ·cases k2;simp at g1
    ·cases k2
   ·cases g1
 | .agg t,l,y,r,ss,hd=>by
  simp only [Fa] at hd
  split at hd<;>try (cases hd;done)
  rename_i c r1
  split at hd<;>try (cases hd;done)
  rename_i x tc h1
  split at hd<;>try (cases hd;done)
  rename_i ss1 q h2
  cases hd
  obtain ⟨ys,e1,e2,e3,e4⟩:=A8 t _ _ _ _ _ _ h1 h2
  rw [List.append_nil] at e1
  subst e1
  refine ⟨[_],rfl,fun π nm RG=> ?_⟩
  obtain ⟨g1,g2⟩:=e4 π nm RG
  refine ⟨?_,g2⟩
  simp only [aT,so,iq,JP,g1]
 | .ptr t,l,y,r,ss,hd=>by simp [Fa] at hd
 | .mB f p,l,y,r,ss,hd=>by simp [Fa] at hd
 | .mv f agg t,l,y,r,ss,hd=>by simp [Fa] at hd
 | .pair a b,l,y,r,ss,hd=>by
  simp only [Fa] at hd
  split at hd<;>try (cases hd;done)
  rename_i x1 r1 ss1 h1
  split at hd<;>try (cases hd;done)
  rename_i x2 r2 ss2 h2
  cases hd
  obtain ⟨ys,e1,e4⟩:=xd a _ _ _ _ h1
  obtain ⟨zs,f1,f4⟩:=xd b _ _ _ _ h2
  refine ⟨ys++zs,by rw [e1,f1];simp,fun π nm RG=> ?_⟩
  obtain ⟨g1,g2⟩:=e4 π nm fun i s hi=>RG i s (by rw [List.getElem?_append_left (List.getElem?_eq_some_iff.1 hi).1];exact hi)
  have hl:=g2.length
  obtain ⟨g3,g4⟩:=f4 π (nm+(aT 2 nm a x1).2.length) fun i s hi=>by
   have:=RG (ss1.length+i) s (by rw [List.getElem?_append_right (by omega)];simpa using hi)
   rwa [hl,<- Nat.add_assoc] at this
  exact ⟨BE _ _ _ _ g1 g3,g2.append g4⟩
 | .none,l,y,r,ss,hd=>by
  simp only [Fa,Option.some.injEq,Prod.mk.injEq] at hd
  obtain ⟨rfl,rfl,rfl⟩:=hd
  exact ⟨[],rfl,fun π nm _=>⟨rfl,trivial⟩⟩
theorem abT {π:List Src} {h:List aI} {s:Src} {o:aI} (hr:C7 π h s o):o≠ .gone:=by
 rintro rfl
 cases s with
 |same m=>obtain ⟨p,_,h2⟩:=hr;cases h2
 |nil=>obtain ⟨_,_,h2,_⟩:=hr;cases h2
 |mt m off=>obtain ⟨_,_,_,h2,_⟩:=hr;cases h2
 |any m=>obtain ⟨_,_,_,h2,_⟩:=hr;cases h2
 |cells m len=>obtain ⟨_,_,_,_,_,h2,_⟩:=hr;cases h2
theorem GI {π:List Src} {h:List aI} : ∀(ss:List Src) (os:List aI),bK (C7 π h) ss os->uW π h ss os/\ wW ss os=ss.filterMap Dq
 | [],[],_=>⟨trivial,rfl⟩
 | [],_::_,h=>h.elim
 |_::_,[],h=>h.elim
 |s::r,o::l,h=>by
  obtain ⟨h1,h2⟩:=GI r l h.2
  have hg:=abT h.1
  cases o<;>first|exact absurd rfl hg|(refine ⟨⟨h.1,h1⟩,?_⟩;simp only [wW,List.filterMap_cons,h2];cases Dq s<;>rfl)
theorem Xg {r:qw} {Q:r.ty.T->Prop} {v:AV} {st:AS} (h:S5 r Q v st): ∃y,Q y/\ vn ⟨[v],st.heap⟩ ⟨[jJ (aT 2 0 r y).1],(aT 2 0 r y).2⟩:=by
 unfold S5 at h
 split at h
 ·rename_i l hl
  split at h
  ·rename_i y ss hd
   split at h
   ·rename_i hn
    refine ⟨y,h,ss,?_⟩
    obtain ⟨ys,e,hs⟩:=xd r _ _ _ _ hd
    rw [List.append_nil] at e
    subst e
    obtain ⟨h1,h2⟩:=hs ss 0 fun i s hi=>by rwa [Nat.zero_add]
    obtain ⟨h3,h4⟩:=GI _ _ h2
    refine ⟨?_,h3,by rw [h4];exact hn⟩
    have key:uy ss (jJ (aT 2 0 r y).1)=some v:=by
     cases v with
     |v a=>
      simp only [lK,Option.some.injEq] at hl
      subst hl
      match hm:(aT 2 0 r y).1,h1 with
      | [],h1=>simp [iq] at h1
      | [c],h1=>
       simp only [iq] at h1
       split at h1
       ·rename_i q m k1 k2
        simp only [Option.some.injEq,List.cons.injEq] at h1
        obtain ⟨rfl,_⟩:=h1
        simp only [jJ,uy,k1]
       ·cases h1
      |_::_::_,h1=>
       simp only [iq] at h1
       split at h1
       ·rename_i k1 k2
        split at k2
        ·cases k2;simp at h1
        ·cases k2
       ·cases h1
     |r7 l'=>
      simp only [lK] at hl
      split at hl
      ·cases hl
      ·rename_i hne
       cases hl
       match hm:(aT 2 0 r y).1,h1 with
       | [],h1=>simp only [jJ,uy,h1]
       | [c],h1=>
        simp only [iq] at h1
        split at h1
        ·rename_i q m k1 k2
         cases k2
         cases h1
         exact absurd rfl (hne q)
        ·cases h1
       |_::_::_,h1=>simp only [jJ,uy,h1]
     |dead=>simp [lK] at hl
    dsimp only
    revert key
    generalize jJ (aT 2 0 r y).1=u
    intro key
    cases u with
    |v a=>exact ⟨key,trivial⟩
    |r7 l=>exact ⟨key,trivial⟩
    |dead=>simp [uy] at key
   ·exact h.elim
  ·exact h.elim
 ·exact h.elim
end Go.Ev
