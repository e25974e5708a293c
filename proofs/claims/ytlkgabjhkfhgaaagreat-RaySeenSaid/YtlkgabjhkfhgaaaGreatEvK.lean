/- Functions, out of the condition 'fnE'. -/
import Derived.Test.YtlkgabjhkfhgaaaGreatEvH
noncomputable section
set_option linter.unusedSectionVars false
set_option linter.unusedVariables false
set_option linter.unusedSimpArgs false
namespace Go.Ev
open Go.RowKit
section
variable {P:Program} {ctx:Ctx} {ay:iT} {W:World} {df:List Deferred}
theorem Pp (hT:aO P ctx.tt) (hC:qE P ctx) (hm:P.follows .mixedOrders=true) {ro:Option Nat} {n:Nat} (c:Code) (hX:yw ay W ctx.X) (W0:ro=none\/ ko c=true) (xD:pg P ctx c) (N:Nat) (st:AS) (K:Exit->AS->Prop) (h:ym ctx c N st K):
  ∀ρ a w,At ay W st ρ a w->(Code.loop c).wpIn (fw ro) n P (Post ay W K) a w:=by
 intro ρ a w bB b k cs hro hb hroom
 have key: ∀N st ρ a w,ym ctx c N st K->At ay W st ρ a w-> ∃e a' w',Post ay W K e a' w'/\ ArrivesIn (Machine.fenced P (fw ro)) P (lone (b.atR a (.code c:: .inLoop c::k)) cs w) b k cs e a' w':=by
  intro N
  induction N with
  |zero=>intro st ρ a w h;exact h.elim
  |succ N ih=>
   intro st ρ a w h bB
   obtain ⟨e,a1,w1,⟨u9,bh,hk,gG⟩,k9⟩:=qP hT hC hm c xD ay W ro n hX W0 st _ h ρ a w bB b (.inLoop c::k) cs hro hb hroom
   cases e with
   |normal=>
    obtain ⟨e2,a2,w2,V0,Ic⟩:=ih u9 bh a1 w1 hk gG
    exact ⟨e2,a2,w2,V0,.of_steps (StepsIn.trans k9 (.one (fenced_calm hb hroom rfl) stepR_inLoop)) Ic⟩
   |exit id=>exact ⟨_,a1,w1,⟨u9,bh,hk,gG⟩,.pass (x:= .inLoop c) rfl (fun _ _=> .inl (by simp)) k9⟩
   |goto l=>exact ⟨_,a1,w1,⟨u9,bh,hk,gG⟩,.pass (x:= .inLoop c) rfl (fun _ _=> .inl (by simp)) k9⟩
   |ret=>exact ⟨_,a1,w1,⟨u9,bh,hk,gG⟩,.pass (x:= .inLoop c) rfl (fun _ _=> .inl (by simp)) k9⟩
   |panic ch=>exact ⟨_,a1,w1,⟨u9,bh,hk,gG⟩,.pass (x:= .inLoop c) rfl (fun _ _=> .inl (by simp)) k9⟩
   |outgrown=>exact ⟨_,a1,w1,⟨u9,bh,hk,gG⟩,.pass (x:= .inLoop c) rfl (fun _ _=> .inl (by simp)) k9⟩
 obtain ⟨e,a',w',hq,k9⟩:=key N st ρ a w h bB
 exact ⟨e,a',w',hq,.of_steps (.one (fenced_calm hb hroom rfl) stepR_loop) k9⟩
def p9 (tmps:Array Value):ResultVar->Sem Value
 | .tmp t=>pure (tmps.getD t undef)
 | .cell a t=>do loadVar t (<- asAddr (tmps.getD a undef))
theorem I0 (hT:aO P ctx.tt) {st:AS} {ρ:Env} {a:Act} {w:World} (bB:mG ay W df st ρ a w) {q:ResultVar} {v:A0} (h:GI ctx st q=some v):
  (p9 a.tmps q).run P w= .ok (v.af ρ) w/\ v.ok (· <st.heap.length):=by
 cases q with
 |tmp t=>
  simp only [GI] at h
  split at h
  ·rename_i x hx
   cases h
   have h1:=bB.tmps t (by rw [hx];simp)
   have h2:=bB.kn t
   rw [hx] at h1 h2
   exact ⟨by simp only [p9,Sem.run_pure];rw [h1];rfl,h2⟩
  ·cases h
 |cell t ty=>
  simp only [GI] at h
  split at h
  ·rename_i n off i hx hi
   split at h
   ·rename_i cs e he
    have h1:=bB.tmps t (by rw [hx];simp)
    rw [hx] at h1
    obtain ⟨b,hb,hh⟩:=bB.st.at_ n _ he
    rw [lF hb] at h1
    have hok:=(bB.st.kn n _ he).2
    have hld:=jL (P:=P) (rest:= []) (off:=off) hT hi (by simpa using hh)
    split at h
    ·rename_i ha
     split at h
     ·rename_i hl
      cases h
      refine ⟨?_,fun c hc=>hok c (List.mem_of_mem_drop (List.mem_of_mem_take hc))⟩
      have:=hld.1 ha (by simpa using hl)
      simp only [p9,h1,asAddr,Sem.run_bind,Sem.run_pure,Result.andThen_ok,this,A0.af,gh]
     ·cases h
    ·rename_i ha
     split at h
     ·rename_i c hc
      cases h
      refine ⟨?_,hok c (List.mem_of_getElem? hc)⟩
      have:=hld.2 (by simpa using ha) (c.af ρ) (by simp [hc])
      simp only [p9,h1,asAddr,Sem.run_bind,Sem.run_pure,Result.andThen_ok,this,A0.af]
     ·cases h
   ·cases h
  ·cases h
theorem nR (hT:aO P ctx.tt) {st:AS} {ρ:Env} {a:Act} {w:World} (bB:mG ay W df st ρ a w): ∀(qs:List ResultVar) (vs:List A0),x9 ctx st qs=some vs->
  (qs.mapM (p9 a.tmps)).run P w= .ok (vs.map (A0.af ρ)) w/\ ∀v∈vs,v.ok (· <st.heap.length)
 | [],vs,h=>by simp only [x9,Option.some.injEq] at h;subst h;simp
 |q::r,vs,h=>by
  simp only [x9] at h
  split at h
  ·rename_i v l h1 h2
   cases h
   obtain ⟨e1,k1⟩:=I0 hT bB h1
   obtain ⟨e2,k2⟩:=nR hT bB r l h2
   refine ⟨by simp [e1,e2],fun x hx=> ?_⟩
   rcases List.mem_cons.1 hx with rfl|hx
   ·exact k1
   ·exact k2 x hx
  ·cases h
theorem O2 (hT:aO P ctx.tt) {st:AS} {ρ:Env} {a:Act} {w:World} (bB:mG ay W df st ρ a w) {fn:Func} {R:AV->AS->Prop} (h:O1 ctx fn st R):
  ∃v,(results fn a.tmps).run P w= .ok (v.af ρ) w/\ v.ok (· <st.heap.length)/\ R v st:=by
 unfold O1 at h
 have hrun: ∀vs,x9 ctx st fn.results.toList=some vs->(results fn a.tmps).run P w= .ok (if h:(vs.map (A0.af ρ)).toArray.size=1 then (vs.map (A0.af ρ)).toArray[0] else .tuple (vs.map (A0.af ρ)).toArray) w:=by
  intro vs hvs
  obtain ⟨e,_⟩:=nR hT bB _ _ hvs
  have:(fn.results.mapM (p9 a.tmps)).run P w= .ok (vs.map (A0.af ρ)).toArray w:=by
   rw [Array.mapM_eq_mapM_toList]
   simp only [Sem.run_map,e,Result.andThen_ok]
  have e2:results fn a.tmps=(do
    let vs<- fn.results.mapM (p9 a.tmps)
    pure (if h:vs.size=1 then vs[0] else .tuple vs):Sem Value):=by
   unfold results
   congr 2
  rw [e2]
  simp only [Sem.run_bind,this,Result.andThen_ok,Sem.run_pure]
 split at h
 ·rename_i v hv
  refine ⟨.v v,?_,(nR hT bB _ _ hv).2 v (by simp),h⟩
  rw [hrun _ hv];rfl
 ·rename_i l hl hne
  refine ⟨.oG l,?_,(nR hT bB _ _ hne).2,h⟩
  rw [hrun _ hne]
  have: ¬l.length=1:=by
   intro h1
   match l,h1 with
   | [x],_=>exact hl x rfl
  rw [dif_neg (by simpa using this)];rfl
 ·exact h.elim
theorem Lq (ρ:Env) (args:List AV) (m t:Nat):(((args.map (AV.af ρ)).toArray++Array.replicate (m- (args.map (AV.af ρ)).toArray.size) undef).getD t undef)=(dD (args++List.replicate (m- args.length) qo) t).af ρ:=by
 rw [vT]
 simp only [Array.getD_eq_getD_getElem?,List.getD,Array.getElem?_append,List.size_toArray,List.length_map,List.getElem?_toArray,List.getElem?_map,List.getElem?_append,Array.getElem?_replicate,List.getElem?_replicate]
 by_cases h:t<args.length
 ·simp [h]
 ·simp only [h,if_false]
  split<;>rfl
theorem vK (hT:aO P ctx.tt) {fn:Func} {R:AV->AS->Prop} {st:AS} {ρ:Env} {tm:Array Value} (h:O1 ctx fn st R): ∀(ds df:List Nat) (w:World),df.Nodup->(∀D∈df,W.heap.size<=D/\ w.heap[D]? =some (.deferred (some [])))->
  mG ay W (ds.map nM) st ρ {tmps:=tm,defers:=ds.map nM} w->
  LeavesInM (fw none) 0 P fn tm (fun e w'=> ∃v,e= .returned (v.af ρ)/\ v.ok (· <st.heap.length)/\ R v st/\ St ay W ρ (· <st.heap.length) (aj st.heap) w') (df.map nM) .returning w
 |ds,[],w,_,_,bB=>by
  obtain ⟨v,hr,hok,hR⟩:=O2 hT bB h
  exact ⟨_,hr,v,rfl,hok,hR,bB.st⟩
 |ds,D::df,w,hn,hd,bB=>by
  have hD:=hd D (by simp)
  rw [List.nodup_cons] at hn
  refine ⟨by simp,.inl ⟨D,_,rfl,run_takeDeferred hD.2,vK hT h ds df _ hn.2 (fun D' hD'=> ?_) ?_⟩⟩
  ·have:=hd D' (by simp [hD'])
   exact ⟨this.1,by rw [World.putObj_heap_other (by rintro rfl;exact hn.1 hD')];exact this.2⟩
  ·refine ⟨bB.tmps,bB.size,bB.defers,bB.kn,bB.st.put (.inl hD.1) (fun hc=> ?_) fun m p hp=> ?_⟩
   ·obtain ⟨cs,e,f,h2⟩:=hc
    rw [hD.2] at h2;cases h2
   have hk:=bB.st.kn m p hp
   exact ⟨fun h1=>absurd hD.2 (BQ (bB.st.at_ m p hp) h1 _),fun _=>hp,by simp [hp],hk.1,hk.2⟩
theorem ij (hT:aO P ctx.tt) (hC:qE P ctx) (hX:yw ay W ctx.X) (hm:P.follows .mixedOrders=true) {f:FuncId} {fn:Func} (hf:P.funcs[f]? =some fn) (xD: ∀c,fn.body=some c->pg P ctx c) {args:List AV} {heap:List aF} {R:AV->AS->Prop}
  (h:H6 ctx fn args heap R) {ρ:Env} {w:World} (hargs: ∀x∈args,x.ok (· <heap.length)) (hst:St ay W ρ (· <heap.length) (aj heap) w):
  Calls P f (args.map (AV.af ρ)).toArray w fun e w'=> ∃st ρ' v,e= .returned (v.af ρ')/\ v.ok (· <st.heap.length)/\ R v st/\ St ay W ρ' (· <st.heap.length) (aj st.heap) w':=by
 unfold H6 at h
 split at h
 ·rename_i c hb
  refine callsIn_wide.1 (callsIn_of_wp_marks (F:=fw none) (n:=0) hf hb trivial ?_ rfl)
  have bB:At ay W ⟨args++List.replicate (fn.ntmps- args.length) qo,heap⟩ ρ {tmps:=(args.map (AV.af ρ)).toArray++Array.replicate (fn.ntmps- (args.map (AV.af ρ)).toArray.size) undef,defers:= []} w:=by
   refine ⟨[],List.nodup_nil,fun D hD=>absurd hD (by simp),fun t _=>Lq ρ args fn.ntmps t,by simp,rfl,fun t=> ?_,hst⟩
   dsimp only
   rw [vT,List.getD,List.getElem?_append]
   split
   ·rename_i hl
    rw [List.getElem?_eq_getElem hl]
    exact hargs _ (List.getElem_mem hl)
   ·rw [List.getElem?_replicate];split<;>exact uY _
  have key: ∀st ρ' a' w',O1 ctx fn st R->At ay W st ρ' a' w'->LeavesInM (fw none) 0 P fn a'.tmps (fun e w'=> ∃st ρ' v,e= .returned (v.af ρ')/\ v.ok (· <st.heap.length)/\ R v st/\ St ay W ρ' (· <st.heap.length) (aj st.heap) w') a'.defers .returning w':=by
   rintro st ρ' a' w' hk ⟨ds,jT⟩
   have hdf:=jT.mA.defers
   have pQ:mG ay W (ds.map nM) st ρ' {tmps:=a'.tmps,defers:=ds.map nM} w':=⟨jT.mA.tmps,jT.mA.size,rfl,jT.mA.kn,jT.mA.st⟩
   have:=vK (P:=P) (tm:=a'.tmps) hT hk ds ds w' jT.nd jT.dd pQ
   rw [hdf]
   have mono: ∀(l:List Nat) (w:World),LeavesInM (fw none) 0 P fn a'.tmps (fun e w'=> ∃v,e= .returned (v.af ρ')/\ v.ok (· <st.heap.length)/\ R v st/\ St ay W ρ' (· <st.heap.length) (aj st.heap) w') (l.map nM) .returning w->
     LeavesInM (fw none) 0 P fn a'.tmps (fun e w'=> ∃st ρ' v,e= .returned (v.af ρ')/\ v.ok (· <st.heap.length)/\ R v st/\ St ay W ρ' (· <st.heap.length) (aj st.heap) w') (l.map nM) .returning w:=by
    intro l
    induction l with
    |nil=>rintro w ⟨u,hr,v,h1,h2,h3,h4⟩;exact ⟨u,hr,st,ρ',v,h1,h2,h3,h4⟩
    |cons D l ih=>
     rintro w ⟨h1,h2⟩
     refine ⟨h1,?_⟩
     rcases h2 with ⟨r,w2,h3,h4,h5⟩|⟨_,fv,cap,f,args,h3,_⟩
     ·exact .inl ⟨r,w2,h3,h4,ih w2 h5⟩
     ·simp [nM] at h3
   exact mono ds w' this
  refine wpIn_mono (qP hT hC hm c (xD c hb) ay W none 0 hX (.inl rfl) _ _ h ρ _ w bB) ?_
  rintro e a' w' ⟨st,ρ',hk,jT⟩
  cases e with
  |normal=>exact key st ρ' a' w' hk jT
  |ret=>exact key st ρ' a' w' hk jT
  |_=>exact hk.elim
 ·exact h.elim
end
theorem Fr.Mu {ay:iT} {W w:World} (h:Fr K2 W w):Fr ay W w:=⟨h.os,h.tape,h.output,h.size,fun k hk _=>h.block k hk id,h.HR⟩
theorem St.called {ay:iT} {W w w':World} {ρ:Env} {Kn:Nat->Prop} {Γ:HP} (h:St ay W ρ Kn Γ w) (hf:Fr K2 w w'):St ay W ρ Kn Γ w':=
 h.world (h.fr.trans hf.Mu) fun b hb=>hf.block b hb id
end Go.Ev
namespace Go.Ev
open Go.RowKit
inductive nn
 |one (t:Ty)
 |agg (t:Ty)
 |ptr (t:Ty)
 |pair (a b:nn)
 |jS (f:FuncId) (p:nn)
 |mv (f:FuncId) (agg:Bool) (t:Ty)
 |none
@[reducible] def nn.ty:nn->Ty
 | .one t=>t
 | .agg t=>t
 | .ptr t=>t
 | .pair a b=> .prod a.ty b.ty
 | .jS _ p=>p.ty
 | .mv _ _ t=>t
 | .none=> .bool
def nn.cap:nn->Bool
 | .ptr _=>true
 | .pair a b=>a.cap&&b.cap
 | .none=>true
 |_=>false
def IW:A0->Ref
 | .one (.cN n j _)=> .elem n j
 |_=> .ext undef
def Sg (c:Cell):Ref:=match c with
 | .raw v=> .ext v
 | .full n=> .full n
 |_=> .ext undef
def cq (rk:Nat):Nat->List cl->List Cell×List aF
 |_,[]=>([],[])
 |nm,.flat v::r=>match cq rk nm r with|(cs,os)=>(.raw v::cs,os)
 |nm,.sl u l::r=>match cq rk (nm+1) r with|(cs,os)=>(.full nm::cs,.row u l rk::os)
def qB (agg:Bool) (cs:List Cell):A0:=match agg with
 |false=>(match cs with| [c]=> .one c|cs=> .agg cs)
 |true=> .agg cs
def aW (rk:Nat):Nat->(p:nn)->p.ty.T->List A0×List aF
 |nm,.one t,x=>match cq rk nm (t.aQ x) with|(cs,os)=>([qB false cs],os)
 |nm,.agg t,x=>match cq rk nm (t.aQ x) with|(cs,os)=>([qB true cs],os)
 |nm,.ptr t,x=>([.one (.cN nm 0 0)],[.row t [x] 0])
 |nm,.pair a b,x=>match aW rk nm a x.1 with
  |(as,os)=>match aW rk (nm+os.length) b x.2 with
   |(bs,os')=>(as++bs,os++os')
 |nm,.jS f p,x=>match aW rk nm p x with
  |(as,os)=>([.one (.jS (.func f) [] (as.map IW))],os)
 |nm,.mv f agg t,x=>match cq rk nm (t.aQ x) with|(cs,os)=>([.one (.mv f agg (cs.map Sg))],os)
 |_,.none,_=>([],[])
def iG (hp:HP):(p:nn)->List AV->Option (p.ty.T×List AV×List Nat×Bool)
 | .one t,l=>match l with
  | .v (.one c)::r=>match ck hp t [c] with
   |some (x,[],tc)=>some (x,r,tc,true)
   |_=>none
  |_=>none
 | .agg t,l=>match l with
  | .v (.agg cs)::r=>match ck hp t cs with
   |some (x,[],tc)=>some (x,r,tc,true)
   |_=>none
  |_=>none
 | .ptr t,l=>match l with
  | .v (.one (.ptr n off))::r=>match hp n with
   |some (.cells cs _)=>match ck hp t ((cs.drop off).take t.size) with
    |some (x,[],tc)=>if t.shallow then some (x,r,n::tc,true) else none
    |_=>none
   |_=>none
  | .v (.one (.cN n j 0))::r=>match hp n with
   |some (.row u l _)=>match iy u t l with
    |some l'=>some (gd t l' j,r,[n],decide (j<l'.length))
    |none=>none
   |_=>none
  |_=>none
 | .pair a b,l=>match iG hp a l with
  |some (x,r,tc,f)=>match iG hp b r with
   |some (y,r',uW,f')=>some ((x,y),r',tc++uW,f&&f')
   |none=>none
  |none=>none
 | .jS f p,l=>match l with
  | .v (.one (.jS (.func g) [] cap))::r=>if g=f then (match iG hp p (cap.map vU) with
   |some (x,[],tc,b)=>some (x,r,tc,p.cap&&b)
   |_=>none) else none
  |_=>none
 | .mv f agg t,l=>match l with
  | .v (.one (.mv g Wh rs))::r=>if g=f/\ Wh=agg then (match ck hp t (rs.map wq) with
   |some (x,[],tc)=>some (x,r,tc,true)
   |_=>none) else none
  |_=>none
 | .none,l=>some (false,l,[],true)
def jo:List A0->AV
 | [a]=> .v a
 |l=> .oG l
def jJ:AV->Option (List A0)
 | .v a=>some [a]
 | .oG l=>match l with
  | [_]=>none
  |l=>some l
 | .dead=>none
def DH (hp:HP):Ty->List Cell->Option (List Src×List Cell)
 | .prod a b,cs=>match DH hp a cs with
  |some (ss,r)=>match DH hp b r with
   |some (ss',r')=>some (ss++ss',r')
   |none=>none
  |none=>none
 | .sl u,cs=>match cs with
  | .raw (.slice none 0 0)::r=>some ([.nil],r)
  | .full n::r=>match hp n with
   |some (.row _ _ rk)=>if rk=2 then some ([.same n],r) else none
   |_=>none
  | .sl n 0 len c::r=>if c=len then (match hp n with
   |some (.cells cs _)=>if u.flat&&(decide (cs.length=len*u.size)&&Nat.ble len 1099511627776) then some ([.cells n len],r) else none
   |_=>none) else none
  |_=>none
 |_,cs=>match cs with
  |_::r=>some ([],r)
  | []=>none
def zJ (hp:HP):(p:nn)->List A0->Option (p.ty.T×List A0×List Src)
 | .one t,l=>match l with
  | .one c::r=>match ck hp t [c] with
   |some (y,[],_)=>match DH hp t [c] with
    |some (ss,_)=>some (y,r,ss)
    |none=>none
   |_=>none
  |_=>none
 | .agg t,l=>match l with
  | .agg cs::r=>match ck hp t cs with
   |some (y,[],_)=>match DH hp t cs with
    |some (ss,_)=>some (y,r,ss)
    |none=>none
   |_=>none
  |_=>none
 | .ptr _,_=>none
 | .jS _ _,_=>none
 | .mv _ _ _,_=>none
 | .pair a b,l=>match zJ hp a l with
  |some (x,r,ss)=>match zJ hp b r with
   |some (y,r',ss')=>some ((x,y),r',ss++ss')
   |none=>none
  |none=>none
 | .none,l=>some (false,l,[])
def Vi (r:nn) (Q:r.ty.T->Prop) (v:AV) (st:AS):Prop:=match jJ v with
 |some l=>match zJ (aj st.heap) r l with
  |some (y,[],ss)=>if gW (ss.filterMap yj) then Q y else False
  |_=>False
 |none=>False
def kW (p:nn) (x:p.ty.T):List AV:=(aW 0 0 p x).1.map .v
def jx (p:nn) (x:p.ty.T):List aF:=(aW 0 0 p x).2
structure dS where
 p:nn
 r:nn
 pre:p.ty.T->Prop
 f:p.ty.T->r.ty.T
def av (s:dS):Spec:=fun _ args hp nm k=>match iG hp s.p args with
 |some (x,[],tc,b)=>ob b (s.pre x/\ ∀y,y=s.f x->k {val:=jo (aW 2 nm s.r y).1,fresh:=(aW 2 nm s.r y).2,aD:=tc})
 |_=>False
def pO (w:World):aF->Loc->Prop
 | .row u l rk,x=>rk=0/\ (x.bW=none/\ x.ik= [])/\ x.len=l.length/\ x.es=u.size/\ l.length<=x.cap/\ jU w (KA w) x.base u l
 |_,_=>False
theorem iX {w:World} : ∀(cs:List cl) (vals:List Value) (nm:Nat),bK (Ay w (KA w)) cs vals->
  ∃xs,bK (pO w) (cq 0 nm cs).2 xs/\ ∀bh:Env,(∀i x,xs[i]? =some x->bh (nm+i)=x)->(cq 0 nm cs).1.map (Cell.af bh)=vals
 | [],[],nm,_=>⟨[],trivial,fun _ _=>rfl⟩
 | [],_::_,_,h=>h.elim
 |_::_,[],_,h=>h.elim
 | .flat v::r,v'::vr,nm,h=>by
  obtain ⟨xs,h1,h2⟩:=iX r vr nm h.2
  refine ⟨xs,h1,fun bh hr=> ?_⟩
  have:=h2 bh hr
  have hv:v'=v:=h.1
  simp only [cq,List.map_cons,this,hv];rfl
 | .sl u l::r,v'::vr,nm,h=>by
  obtain ⟨xs,h1,h2⟩:=iX r vr (nm+1) h.2
  obtain ⟨a,c,hv,hc,hr⟩:=h.1
  refine ⟨{bW:=none,base:=a,len:=l.length,cap:=c,es:=u.size} ::xs,⟨⟨rfl,⟨rfl,rfl⟩,rfl,rfl,hc,hr⟩,h1⟩,fun bh hr=> ?_⟩
  have:=h2 bh fun i x hi=>by
   have:=hr (i+1) x (by simpa using hi)
   rwa [show nm+(i+1)=nm+1+i by omega] at this
  have h0:=hr 0 _ rfl
  rw [Nat.add_zero] at h0
  simp only [cq,List.map_cons,this,hv,Cell.af,h0]
theorem add_zero' (a:Addr):a.add 0=a:=by unfold Addr.add;split<;>simp_all
theorem EW {rk nm:Nat} {ρ:Env} : ∀(p:nn),p.cap=true-> ∀ {x:p.ty.T},((aW rk nm p x).1.map IW).map (Ref.af ρ)=(aW rk nm p x).1.map (A0.af ρ):=by
 intro p
 induction p generalizing nm with
 |ptr t=>intro _ x;rfl
 |none=>intro _ x;rfl
 |pair a b Gj Gk=>
  intro h x
  simp only [nn.cap,Bool.and_eq_true] at h
  simp only [aW,List.map_append]
  rw [Gj h.1,Gk h.2]
 |one t=>intro h;cases h
 |agg t=>intro h;cases h
 |jS f p _=>intro h;cases h
 |mv f agg t=>intro h;cases h
theorem tg (rk:Nat) (ρ:Env): ∀(cs:List cl) (nm:Nat),((cq rk nm cs).1.map Sg).map (Ref.af ρ)=(cq rk nm cs).1.map (Cell.af ρ)
 | [],_=>rfl
 | .flat v::r,nm=>by simp only [cq,List.map_cons,tg rk ρ r nm];rfl
 | .sl u l::r,nm=>by simp only [cq,List.map_cons,tg rk ρ r (nm+1)];rfl
theorem sI {hp:HP} : ∀(p:nn) (args:List AV) (x:p.ty.T) (r:List AV) (tc:List Nat),iG hp p args=some (x,r,tc,true)->
  ∃as,args=as++r/\ ∀ay W ρ Kn Γ w,(∀m∈tc,Γ m=hp m)->St ay W ρ Kn Γ w-> ∀nm,∃xs,bK (pO w) (aW 0 nm p x).2 xs/\
   ∀bh:Env,(∀i x,xs[i]? =some x->bh (nm+i)=x)->as.map (AV.af ρ)=(aW 0 nm p x).1.map (A0.af bh)
 | .one t,args,x,r,tc,h=>by
  simp only [iG] at h
  split at h<;>try (cases h;done)
  rename_i c r'
  split at h<;>try (cases h;done)
  rename_i y uW hd
  cases h
  obtain ⟨ys,e,hl,hs⟩:=j7 hp t _ _ _ _ hd
  rw [List.append_nil] at e
  subst e
  refine ⟨[_],rfl,fun ay W ρ Kn Γ w ht hst nm=> ?_⟩
  obtain ⟨xs,h1,h2⟩:=iX _ _ nm (hs ay W ρ Kn Γ w ht hst)
  refine ⟨xs,h1,fun bh hr=> ?_⟩
  have:=h2 bh hr
  simp only [aW,List.map_cons,List.map_nil]
  simp only [List.map_cons,List.map_nil] at this
  obtain ⟨c',Ig,e⟩: ∃c',(cq 0 nm (t.aQ x)).1= [c']/\ c'.af bh=c.af ρ:=by
   match hm:(cq 0 nm (t.aQ x)).1,this with
   | [c'],h=>simp only [List.map_cons,List.map_nil,List.cons.injEq,and_true] at h;exact ⟨c',rfl,h⟩
   | [],h=>simp at h
   |_::_::_,h=>simp at h
  rw [Ig]
  simp only [qB,AV.af,A0.af,e]
 | .agg t,args,x,r,tc,h=>by
  simp only [iG] at h
  split at h<;>try (cases h;done)
  rename_i cs r'
  split at h<;>try (cases h;done)
  rename_i y uW hd
  cases h
  obtain ⟨ys,e,hl,hs⟩:=j7 hp t _ _ _ _ hd
  rw [List.append_nil] at e
  subst e
  refine ⟨[_],rfl,fun ay W ρ Kn Γ w ht hst nm=> ?_⟩
  obtain ⟨xs,h1,h2⟩:=iX _ _ nm (hs ay W ρ Kn Γ w ht hst)
  refine ⟨xs,h1,fun bh hr=> ?_⟩
  have:=h2 bh hr
  simp only [aW,qB,List.map_cons,List.map_nil,AV.af,A0.af,this]
 | .ptr t,args,x,r,tc,h=>by
  simp only [iG] at h
  split at h
  ·rename_i n off r'
   split at h<;>try (cases h;done)
   rename_i cs e he
   split at h<;>try (cases h;done)
   rename_i y uW hd
   split at h<;>try (cases h;done)
   rename_i hsh
   cases h
   obtain ⟨ys,e1,hl,hs⟩:=j7 hp t _ _ _ _ hd
   rw [List.append_nil] at e1
   refine ⟨[_],rfl,fun ay W ρ Kn Γ w ht hst nm=> ?_⟩
   have hall:=sx t x _ hsh (hs ay W ρ Kn Γ w (fun m hm=>ht m (by simp [hm])) hst)
   obtain ⟨b,hb,hh⟩:=hst.at_ n _ (by rw [ht n (by simp),he])
   refine ⟨[{bW:=none,base:=addrOf ρ n off,len:=1,cap:=1,es:=t.size}],⟨⟨rfl,⟨rfl,rfl⟩,rfl,rfl,by simp,ys.map (Cell.af ρ),?_,fun i v hv=> ?_⟩,trivial⟩,fun bh hr=> ?_⟩
   ·simpa [ax] using hall
   ·refine ⟨⟨b,off,none⟩,by simp [addrOf,hb],?_,?_⟩
    ·rw [FK,bL (by simpa using hh)]
     rw [<- e1,List.map_take,List.map_drop,List.getElem?_take] at hv
     split at hv
     ·rwa [List.getElem?_drop] at hv
     ·cases hv
    ·exact ⟨_,_,_,hh⟩
   ·have h0:=hr 0 _ rfl
    rw [Nat.add_zero] at h0
    simp only [aW,List.map_cons,List.map_nil,AV.af,A0.af,Cell.af,h0]
    cases addrOf ρ n off<;>simp [add_zero']
  ·rename_i n j r'
   split at h<;>try (cases h;done)
   rename_i u l rk he
   split at h<;>try (cases h;done)
   rename_i l' hl'
   simp only [Option.some.injEq,Prod.mk.injEq,decide_eq_true_eq] at h
   obtain ⟨rfl,rfl,rfl,hj⟩:=h
   obtain ⟨e,e2⟩:=cn hl'
   subst e
   dsimp only at e2
   subst e2
   refine ⟨[_],rfl,fun ay W ρ Kn Γ w ht hst nm=> ?_⟩
   have bN:Γ n=some (.row u l rk):=by rw [ht n (by simp),he]
   have Y5:=hst.rowAt bN
   have hes:(ρ n).es=u.size:=(hst.at_ n _ bN).2.1
   have hp:=Y5.part (a':=(ρ n).base.map (·.add (j*u.size))) j (some 1) fun _=>rfl
   have u7:lD l j (some 1)= [gd u l j]:=by
    simp only [lD,gd,List.getD_eq_getElem?_getD,List.getElem?_eq_getElem hj,Option.getD_some]
    rw [List.drop_eq_getElem_cons hj];rfl
   rw [u7] at hp
   refine ⟨[{bW:=none,base:=(ρ n).base.map (·.add (j*u.size)),len:=1,cap:=1,es:=u.size}],⟨⟨rfl,⟨rfl,rfl⟩,rfl,rfl,by simp,hp⟩,trivial⟩,fun bh hr=> ?_⟩
   have h0:=hr 0 _ rfl
   rw [Nat.add_zero] at h0
   simp only [aW,List.map_cons,List.map_nil,AV.af,A0.af,Cell.af,h0,hes]
   cases (ρ n).base<;>simp [add_zero']
  ·cases h
 | .jS f p,args,x,r,tc,h=>by
  simp only [iG] at h
  split at h<;>try (cases h;done)
  rename_i g cap r'
  split at h<;>try (cases h;done)
  rename_i hg
  split at h<;>try (cases h;done)
  rename_i x1 Al b1 h1
  simp only [Option.some.injEq,Prod.mk.injEq,Bool.and_eq_true] at h
  obtain ⟨rfl,rfl,rfl,hc,rfl⟩:=h
  subst hg
  obtain ⟨as,e1,k1⟩:=sI p _ _ _ _ h1
  rw [List.append_nil] at e1
  refine ⟨[_],rfl,fun ay W ρ Kn Γ w ht hst nm=> ?_⟩
  obtain ⟨xs,g1,g2⟩:=k1 ay W ρ Kn Γ w ht hst nm
  refine ⟨xs,g1,fun bh hr=> ?_⟩
  have h2:=g2 bh hr
  have e2:cap.map (Ref.af ρ)=((aW 0 nm p x1).1.map IW).map (Ref.af bh):=by
   rw [EW p hc,<- h2,<- e1,List.map_map]
   exact List.map_congr_left fun q _=>(pW ρ q).symm
  simp only [aW,List.map_cons,List.map_nil,AV.af,A0.af,Cell.af,e2]
 | .mv f agg t,args,x,r,tc,h=>by
  simp only [iG] at h
  split at h<;>try (cases h;done)
  rename_i g Wh rs r'
  split at h<;>try (cases h;done)
  rename_i hg
  split at h<;>try (cases h;done)
  rename_i y uW hd
  cases h
  obtain ⟨rfl,rfl⟩:=hg
  obtain ⟨ys,e,hl,hs⟩:=j7 hp t _ _ _ _ hd
  rw [List.append_nil] at e
  refine ⟨[_],rfl,fun ay W ρ Kn Γ w ht hst nm=> ?_⟩
  obtain ⟨xs,h1,h2⟩:=iX _ _ nm (hs ay W ρ Kn Γ w ht hst)
  refine ⟨xs,h1,fun bh hr=> ?_⟩
  have h3:=h2 bh hr
  have e2:rs.map (Ref.af ρ)=((cq 0 nm (t.aQ x)).1.map Sg).map (Ref.af bh):=by
   rw [tg,h3,<- e,List.map_map]
   exact List.map_congr_left fun q _=>(mm ρ q).symm
  simp only [aW,List.map_cons,List.map_nil,AV.af,A0.af,Cell.af,e2]
 | .pair a b,args,x,r,tc,h=>by
  simp only [iG] at h
  split at h<;>try (cases h;done)
  rename_i x1 r1 Al f1 h1
  split at h<;>try (cases h;done)
  rename_i x2 r2 FE f2 h2
  simp only [Option.some.injEq,Prod.mk.injEq,Bool.and_eq_true] at h
  obtain ⟨rfl,rfl,rfl,rfl,rfl⟩:=h
  obtain ⟨as,e1,k1⟩:=sI a _ _ _ _ h1
  obtain ⟨bs,e2,k2⟩:=sI b _ _ _ _ h2
  refine ⟨as++bs,by rw [e1,e2];simp,fun ay W ρ Kn Γ w ht hst nm=> ?_⟩
  obtain ⟨xs,g1,g2⟩:=k1 ay W ρ Kn Γ w (fun m hm=>ht m (by simp [hm])) hst nm
  obtain ⟨ys,g3,g4⟩:=k2 ay W ρ Kn Γ w (fun m hm=>ht m (by simp [hm])) hst (nm+(aW 0 nm a x1).2.length)
  refine ⟨xs++ys,g1.append g3,fun bh hr=> ?_⟩
  have hl:=g1.length
  simp only [aW,List.map_append]
  rw [g2 bh fun i x hi=>hr i x (by rw [List.getElem?_append_left (List.getElem?_eq_some_iff.1 hi).1];exact hi),g4 bh fun i x hi=>by
   have:=hr (xs.length+i) x (by rw [List.getElem?_append_right (by omega)];simpa using hi)
   rwa [<- hl,<- Nat.add_assoc] at this]
 | .none,args,x,r,tc,h=>by
  simp only [iG,Option.some.injEq,Prod.mk.injEq,and_true] at h
  obtain ⟨rfl,rfl,rfl⟩:=h
  exact ⟨[],rfl,fun ay W ρ Kn Γ w ht hst nm=>⟨[],trivial,fun _ _=>rfl⟩⟩
where FK {b off m:Nat} :(⟨b,off,none⟩:Addr).add m=⟨b,off+m,none⟩:=by unfold Addr.add;split<;>simp_all
theorem kZ {w:World} {o:aF} {x:Loc} (h:pO w o x): ∃u,∃l:List u.T,o= .row u l 0:=by
 cases o<;>first|exact h.elim|(obtain ⟨rfl,_⟩:=h;exact ⟨_,_,rfl⟩)
theorem St.begin {w:World} {os:List aF} {xs:List Loc} (h:bK (pO w) os xs):St K2 w (fun n=>xs.getD n {}) (· <os.length) (aj os) w:=by
 have nI: ∀n o,aj os n=some o->os[n]? =some o:=fun n o ho=>by
  unfold aj at ho
  split at ho
  ·cases ho
  ·exact ho
 have hx: ∀n o,aj os n=some o->pO w o (xs.getD n {}):=fun n o ho=>by
  obtain ⟨x,h1,h2⟩:=h.get n o (nI n o ho)
  simpa [h1] using h2
 have dU: ∀n,(aj os n).isSome=true->(xs.getD n {}).bW=Option.none/\ (xs.getD n {}).ik= []:=fun n hn=>by
  obtain ⟨o,ho⟩:=Option.isSome_iff_exists.1 hn
  have:=hx n o ho
  obtain ⟨u,l,rfl⟩:=kZ this
  exact this.2.1
 refine ⟨Fr.refl _ _,fun n o ho=> ?_,fun n o ho=> ?_,fun n m b hn hm hb=> ?_,fun n b hn hb=> ?_,fun b ⟨m,S,h1,_⟩=> ?_,fun n o ho=> .inr (dU n (by rw [ho];rfl)).2⟩
 rotate_right
 ·obtain ⟨u,l,e⟩:=kZ (hx m _ h1)
  cases e
 ·have hg:=hx n o ho
  obtain ⟨u,l,rfl⟩:=kZ hg
  obtain ⟨_,h1,h2,h3,h4,vals,h5,h6⟩:=hg
  obtain ⟨e1,e2⟩:=ja h5
  have hfz: ∀b,aZ w b->dQ (fun n=>xs.getD n {}) (aj os) w b:=fun b hb=>⟨hb,by
   rintro (⟨m,g1,g2⟩|⟨m,S,g1,_⟩)
   ·exact mS (dU m g1) g2
   ·obtain ⟨u,l,e⟩:=kZ (hx m _ g1)
    cases e⟩
  refine ⟨h2,h3,h4,o8 vals,fun i v hv=> ?_,fun q u' l' hq=> ?_,fun _=>h1.1,fun h=>absurd rfl h⟩
  ·rw [e1] at hv
   obtain ⟨a,g1,g2,g3⟩:=h6 i v hv
   exact ⟨a,g1,g2,fun _=>hfz _ g3⟩
  ·exact (e2 q u' l' hq).weak fun b hb=>⟨hfz b hb,fun h=>by cases h⟩
 ·obtain ⟨u,l,rfl⟩:=kZ (hx n o ho)
  exact ⟨(List.getElem?_eq_some_iff.1 (nI n _ ho)).1,trivial⟩
 ·exact (mS (dU n hn) hb).elim
 ·exact (mS (dU n hn) hb).elim
end Go.Ev
namespace Go.Ev
open Go.RowKit
theorem qW (rk:Nat): ∀(a b:List cl) (nm:Nat),cq rk nm (a++b)=((cq rk nm a).1++(cq rk (nm+(cq rk nm a).2.length) b).1,(cq rk nm a).2++(cq rk (nm+(cq rk nm a).2.length) b).2)
 | [],b,nm=>by simp [cq]
 | .flat v::r,b,nm=>by
  have:=qW rk r b nm
  simp only [List.cons_append,cq,this]
 | .sl u l::r,b,nm=>by
  have:=qW rk r b (nm+1)
  simp only [List.cons_append,cq,this,List.length_cons,show nm+((cq rk (nm+1) r).2.length+1)=nm+1+(cq rk (nm+1) r).2.length by omega]
theorem wv {π:List Src} : ∀(a b:List Cell) (x y:List Cell),gF π a=some x->gF π b=some y->gF π (a++b)=some (x++y)
 | [],b,x,y,h1,h2=>by simp only [gF,Option.some.injEq] at h1;subst h1;exact h2
 |c::r,b,x,y,h1,h2=>by
  simp only [gF] at h1
  split at h1
  ·rename_i q m e1 e2
   cases h1
   have:=wv r b m y e2 h2
   simp only [List.cons_append,gF,e1,this]
  ·cases h1
theorem vV {h:List aF} : ∀(t:Ty) (cs:List Cell) (y:t.T) (r r':List Cell) (tc:List Nat) (ss:List Src),ck (aj h) t cs=some (y,r,tc)->DH (aj h) t cs=some (ss,r')->
  ∃ys,cs=ys++r/\ r'=r/\ ys.length=t.size/\ ∀(π:List Src) (nm:Nat),(∀i s,ss[i]? =some s->π[nm+i]? =some s)->
   gF π (cq 2 nm (t.aQ y)).1=some ys/\ bK (BS π h) ss (cq 2 nm (t.aQ y)).2
 | .int k,cs,y,r,r',tc,ss,hd,ho=>by
  simp only [ck] at hd
  split at hd<;>try (cases hd;done)
  split at hd<;>try (cases hd;done)
  rename_i e
  cases hd;subst e
  simp only [DH,Option.some.injEq,Prod.mk.injEq] at ho
  obtain ⟨rfl,rfl⟩:=ho
  exact ⟨[_],rfl,rfl,rfl,fun π nm _=>⟨rfl,trivial⟩⟩
 | .bool,cs,y,r,r',tc,ss,hd,ho=>by
  simp only [ck] at hd
  split at hd<;>try (cases hd;done)
  cases hd
  simp only [DH,Option.some.injEq,Prod.mk.injEq] at ho
  obtain ⟨rfl,rfl⟩:=ho
  exact ⟨[_],rfl,rfl,rfl,fun π nm _=>⟨rfl,trivial⟩⟩
 | .str,cs,y,r,r',tc,ss,hd,ho=>by
  simp only [ck] at hd
  split at hd<;>try (cases hd;done)
  cases hd
  simp only [DH,Option.some.injEq,Prod.mk.injEq] at ho
  obtain ⟨rfl,rfl⟩:=ho
  exact ⟨[_],rfl,rfl,rfl,fun π nm _=>⟨rfl,trivial⟩⟩
 | .prod a b,cs,y,r,r',tc,ss,hd,ho=>by
  simp only [ck] at hd
  split at hd<;>try (cases hd;done)
  rename_i x1 r1 Al h1
  split at hd<;>try (cases hd;done)
  rename_i x2 r2 FE h2
  cases hd
  simp only [DH] at ho
  split at ho<;>try (cases ho;done)
  rename_i ss1 q1 o1
  split at ho<;>try (cases ho;done)
  rename_i ss2 q2 o2
  cases ho
  obtain ⟨ys,e1,e2,e3,e4⟩:=vV a _ _ _ _ _ _ h1 o1
  subst e2
  obtain ⟨zs,f1,f2,f3,f4⟩:=vV b _ _ _ _ _ _ h2 o2
  subst f2
  refine ⟨ys++zs,by rw [e1,f1];simp,rfl,by simp [e3,f3,Ty.size],fun π nm Kz=> ?_⟩
  obtain ⟨g1,g2⟩:=e4 π nm fun i s hi=>Kz i s (by rw [List.getElem?_append_left (List.getElem?_eq_some_iff.1 hi).1];exact hi)
  have hl:=g2.length
  obtain ⟨g3,g4⟩:=f4 π (nm+(cq 2 nm (a.aQ x1)).2.length) fun i s hi=>by
   have:=Kz (ss1.length+i) s (by rw [List.getElem?_append_right (by omega)];simpa using hi)
   rwa [hl,<- Nat.add_assoc] at this
  rw [show (Ty.prod a b).aQ (x1,x2)=a.aQ x1++b.aQ x2 from rfl,qW]
  exact ⟨wv _ _ _ _ g1 g3,g2.append g4⟩
 | .sl u,cs,y,r,r',tc,ss,hd,ho=>by
  simp only [DH] at ho
  split at ho
  ·cases ho
   simp only [ck,Option.some.injEq,Prod.mk.injEq] at hd
   obtain ⟨rfl,rfl,rfl⟩:=hd
   refine ⟨[_],rfl,rfl,rfl,fun π nm Kz=> ?_⟩
   have h0:=Kz 0 _ rfl
   rw [Nat.add_zero] at h0
   refine ⟨?_,⟨⟨u,2,rfl,by decide⟩,trivial⟩⟩
   simp only [Ty.aQ,cq,gF,iM,h0]
  ·rename_i n r1
   split at ho<;>try (cases ho;done)
   rename_i t l rk hn
   split at ho<;>try (cases ho;done)
   rename_i oa
   cases ho;subst oa
   simp only [ck,hn] at hd
   split at hd<;>try (cases hd;done)
   rename_i l' hl'
   cases hd
   obtain ⟨e,e2⟩:=cn hl'
   subst e
   dsimp only at e2
   subst e2
   refine ⟨[_],rfl,rfl,rfl,fun π nm Kz=> ?_⟩
   have h0:=Kz 0 _ rfl
   rw [Nat.add_zero] at h0
   refine ⟨?_,⟨⟨_,hn,rfl⟩,trivial⟩⟩
   simp only [Ty.aQ,cq,gF,iM,h0]
  ·rename_i n len c r1
   split at ho<;>try (cases ho;done)
   rename_i hc
   split at ho<;>try (cases ho;done)
   rename_i cs' e hn
   split at ho<;>try (cases ho;done)
   rename_i hf
   simp only [Bool.and_eq_true,decide_eq_true_eq] at hf
   cases ho;subst hc
   simp only [ck,ju hf.1,hn,Nat.le_refl,decide_true,Bool.and_self,if_true,List.drop_zero] at hd
   split at hd<;>try (cases hd;done)
   rename_i l Al hN
   cases hd
   obtain ⟨g1,_⟩:=D5 (fA:=fun _=>none) hf.1 _ _ _ _ hN
   refine ⟨[_],rfl,rfl,rfl,fun π nm Kz=> ?_⟩
   have h0:=Kz 0 _ rfl
   rw [Nat.add_zero] at h0
   refine ⟨?_,⟨⟨u,y,cs',e,2,rfl,.inl rfl,hn,hf.1,g1,hf.2⟩,trivial⟩⟩
   simp only [Ty.aQ,cq,gF,iM,h0]
  ·cases ho
theorem wu {π:List Src} : ∀(a b:List A0) (x y:List A0),fX π a=some x->fX π b=some y->fX π (a++b)=some (x++y)
 | [],b,x,y,h1,h2=>by simp only [fX,Option.some.injEq] at h1;subst h1;exact h2
 |c::r,b,x,y,h1,h2=>by
  simp only [fX] at h1
  split at h1
  ·rename_i q m e1 e2
   cases h1
   have:=wu r b m y e2 h2
   simp only [List.cons_append,fX,e1,this]
  ·cases h1
theorem sJ {h:List aF} : ∀(p:nn) (l:List A0) (y:p.ty.T) (r:List A0) (ss:List Src),zJ (aj h) p l=some (y,r,ss)->
  ∃ys,l=ys++r/\ ∀(π:List Src) (nm:Nat),(∀i s,ss[i]? =some s->π[nm+i]? =some s)->fX π (aW 2 nm p y).1=some ys/\ bK (BS π h) ss (aW 2 nm p y).2
 | .one t,l,y,r,ss,hd=>by
  simp only [zJ] at hd
  split at hd<;>try (cases hd;done)
  rename_i c r1
  split at hd<;>try (cases hd;done)
  rename_i x tc h1
  split at hd<;>try (cases hd;done)
  rename_i ss1 q h2
  cases hd
  obtain ⟨ys,e1,e2,e3,e4⟩:=vV t _ _ _ _ _ _ h1 h2
  rw [List.append_nil] at e1
  subst e1
  refine ⟨[_],rfl,fun π nm Kz=> ?_⟩
  obtain ⟨g1,g2⟩:=e4 π nm Kz
  refine ⟨?_,g2⟩
  simp only [aW]
  match hm:(cq 2 nm (t.aQ y)).1,g1 with
  | [],g1=>simp [gF] at g1
  | [c'],g1=>
   simp only [gF] at g1
   split at g1
   ·rename_i q' m' k1 k2
    simp only [Option.some.injEq,List.cons.injEq] at g1
    obtain ⟨rfl,rfl⟩:=g1
    simp only [qB,fX,DK,k1]
   ·cases g1
  |_::_::_,g1=>
   simp only [gF] at g1
   split at g1
   ·rename_i k1 k2
    split at k2
    ·cases k2;simp at g1
    ·cases k2
   ·cases g1
 | .agg t,l,y,r,ss,hd=>by
  simp only [zJ] at hd
  split at hd<;>try (cases hd;done)
  rename_i c r1
  split at hd<;>try (cases hd;done)
  rename_i x tc h1
  split at hd<;>try (cases hd;done)
  rename_i ss1 q h2
  cases hd
  obtain ⟨ys,e1,e2,e3,e4⟩:=vV t _ _ _ _ _ _ h1 h2
  rw [List.append_nil] at e1
  subst e1
  refine ⟨[_],rfl,fun π nm Kz=> ?_⟩
  obtain ⟨g1,g2⟩:=e4 π nm Kz
  refine ⟨?_,g2⟩
  simp only [aW,qB,fX,DK,g1]
 | .ptr t,l,y,r,ss,hd=>by simp [zJ] at hd
 | .jS f p,l,y,r,ss,hd=>by simp [zJ] at hd
 | .mv f agg t,l,y,r,ss,hd=>by simp [zJ] at hd
 | .pair a b,l,y,r,ss,hd=>by
  simp only [zJ] at hd
  split at hd<;>try (cases hd;done)
  rename_i x1 r1 ss1 h1
  split at hd<;>try (cases hd;done)
  rename_i x2 r2 ss2 h2
  cases hd
  obtain ⟨ys,e1,e4⟩:=sJ a _ _ _ _ h1
  obtain ⟨zs,f1,f4⟩:=sJ b _ _ _ _ h2
  refine ⟨ys++zs,by rw [e1,f1];simp,fun π nm Kz=> ?_⟩
  obtain ⟨g1,g2⟩:=e4 π nm fun i s hi=>Kz i s (by rw [List.getElem?_append_left (List.getElem?_eq_some_iff.1 hi).1];exact hi)
  have hl:=g2.length
  obtain ⟨g3,g4⟩:=f4 π (nm+(aW 2 nm a x1).2.length) fun i s hi=>by
   have:=Kz (ss1.length+i) s (by rw [List.getElem?_append_right (by omega)];simpa using hi)
   rwa [hl,<- Nat.add_assoc] at this
  exact ⟨wu _ _ _ _ g1 g3,g2.append g4⟩
 | .none,l,y,r,ss,hd=>by
  simp only [zJ,Option.some.injEq,Prod.mk.injEq] at hd
  obtain ⟨rfl,rfl,rfl⟩:=hd
  exact ⟨[],rfl,fun π nm _=>⟨rfl,trivial⟩⟩
theorem UI {π:List Src} {h:List aF} {s:Src} {o:aF} (hr:BS π h s o):o≠ .gone:=by
 rintro rfl
 cases s with
 |same m=>obtain ⟨p,_,h2⟩:=hr;cases h2
 |nil=>obtain ⟨_,_,h2,_⟩:=hr;cases h2
 |mt m off=>obtain ⟨_,_,_,h2,_⟩:=hr;cases h2
 |any m=>obtain ⟨_,_,_,h2,_⟩:=hr;cases h2
 |cells m len=>obtain ⟨_,_,_,_,_,h2,_⟩:=hr;cases h2
theorem Bj {π:List Src} {h:List aF} : ∀(ss:List Src) (os:List aF),bK (BS π h) ss os->ry π h ss os/\ tw ss os=ss.filterMap yj
 | [],[],_=>⟨trivial,rfl⟩
 | [],_::_,h=>h.elim
 |_::_,[],h=>h.elim
 |s::r,o::l,h=>by
  obtain ⟨h1,h2⟩:=Bj r l h.2
  have hg:=UI h.1
  cases o<;>first|exact absurd rfl hg|(refine ⟨⟨h.1,h1⟩,?_⟩;simp only [tw,List.filterMap_cons,h2];cases yj s<;>rfl)
theorem O4 {r:nn} {Q:r.ty.T->Prop} {v:AV} {st:AS} (h:Vi r Q v st): ∃y,Q y/\ Dn ⟨[v],st.heap⟩ ⟨[jo (aW 2 0 r y).1],(aW 2 0 r y).2⟩:=by
 unfold Vi at h
 split at h
 ·rename_i l hl
  split at h
  ·rename_i y ss hd
   split at h
   ·rename_i hn
    refine ⟨y,h,ss,?_⟩
    obtain ⟨ys,e,hs⟩:=sJ r _ _ _ _ hd
    rw [List.append_nil] at e
    subst e
    obtain ⟨h1,h2⟩:=hs ss 0 fun i s hi=>by rwa [Nat.zero_add]
    obtain ⟨h3,h4⟩:=Bj _ _ h2
    refine ⟨?_,h3,by rw [h4];exact hn⟩
    have key:qb ss (jo (aW 2 0 r y).1)=some v:=by
     cases v with
     |v a=>
      simp only [jJ,Option.some.injEq] at hl
      subst hl
      match hm:(aW 2 0 r y).1,h1 with
      | [],h1=>simp [fX] at h1
      | [c],h1=>
       simp only [fX] at h1
       split at h1
       ·rename_i q m k1 k2
        simp only [Option.some.injEq,List.cons.injEq] at h1
        obtain ⟨rfl,_⟩:=h1
        simp only [jo,qb,k1]
       ·cases h1
      |_::_::_,h1=>
       simp only [fX] at h1
       split at h1
       ·rename_i k1 k2
        split at k2
        ·cases k2;simp at h1
        ·cases k2
       ·cases h1
     |oG l'=>
      simp only [jJ] at hl
      split at hl
      ·cases hl
      ·rename_i hne
       cases hl
       match hm:(aW 2 0 r y).1,h1 with
       | [],h1=>simp only [jo,qb,h1]
       | [c],h1=>
        simp only [fX] at h1
        split at h1
        ·rename_i q m k1 k2
         cases k2
         cases h1
         exact absurd rfl (hne q)
        ·cases h1
       |_::_::_,h1=>simp only [jo,qb,h1]
     |dead=>simp [jJ] at hl
    dsimp only
    revert key
    generalize jo (aW 2 0 r y).1=u
    intro key
    cases u with
    |v a=>exact ⟨key,trivial⟩
    |oG l=>exact ⟨key,trivial⟩
    |dead=>simp [qb] at key
   ·exact h.elim
  ·exact h.elim
 ·exact h.elim
end Go.Ev
