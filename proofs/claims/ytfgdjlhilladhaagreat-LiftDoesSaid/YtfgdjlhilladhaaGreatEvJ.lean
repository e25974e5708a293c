/- Functions, out of the condition 'fnE'. -/
import Derived.Test.YtfgdjlhilladhaaGreatEvH
noncomputable section
set_option linter.unusedSectionVars false
set_option linter.unusedVariables false
set_option linter.unusedSimpArgs false
namespace Go.Ev
open Go.RowKit
section
variable {P:Program} {ctx:Ctx} {aC:mY} {W:World} {df:List Deferred}
theorem acC (hT:aW P ctx.tt) (hC:rz P ctx) (hm:P.follows .mixedOrders=true) {ro:Option Nat} {n:Nat} (c:Code) (hX:GU aC W ctx.X) (ajw:ro=none\/ nc c=true) (AB:uJ P ctx c) (N:Nat) (st:AS) (K:Exit->AS->Prop) (h:Cu ctx c N st K):
  ∀ρ a w,JF aC W st ρ a w->(Code.loop c).wpIn (fw ro) n P (Post aC W K) a w:=by
 intro ρ a w bE b k cs hro hb hroom
 have key: ∀N st ρ a w,Cu ctx c N st K->JF aC W st ρ a w-> ∃e a' w',Post aC W K e a' w'/\ ArrivesIn (Machine.fenced P (fw ro)) P (lone (b.atR a (.code c:: .inLoop c::k)) cs w) b k cs e a' w':=by
  intro N
  induction N with
  |zero=>intro st ρ a w h;exact h.elim
  |succ N ih=>
   intro st ρ a w h bE
   obtain ⟨e,a1,w1,⟨Cs,cn,hk,jo⟩,oG⟩:=rC hT hC hm c AB aC W ro n hX ajw st _ h ρ a w bE b (.inLoop c::k) cs hro hb hroom
   cases e with
   |normal=>
    obtain ⟨e2,a2,w2,hq2,To⟩:=ih Cs cn a1 w1 hk jo
    exact ⟨e2,a2,w2,hq2,.of_steps (StepsIn.trans oG (.one (fenced_calm hb hroom rfl) stepR_inLoop)) To⟩
   |exit id=>exact ⟨_,a1,w1,⟨Cs,cn,hk,jo⟩,.pass (x:= .inLoop c) rfl (fun _ _=> .inl (by simp)) oG⟩
   |goto l=>exact ⟨_,a1,w1,⟨Cs,cn,hk,jo⟩,.pass (x:= .inLoop c) rfl (fun _ _=> .inl (by simp)) oG⟩
   |ret=>exact ⟨_,a1,w1,⟨Cs,cn,hk,jo⟩,.pass (x:= .inLoop c) rfl (fun _ _=> .inl (by simp)) oG⟩
   |panic ch=>exact ⟨_,a1,w1,⟨Cs,cn,hk,jo⟩,.pass (x:= .inLoop c) rfl (fun _ _=> .inl (by simp)) oG⟩
   |outgrown=>exact ⟨_,a1,w1,⟨Cs,cn,hk,jo⟩,.pass (x:= .inLoop c) rfl (fun _ _=> .inl (by simp)) oG⟩
 obtain ⟨e,a',w',hq,oG⟩:=key N st ρ a w h bE
 exact ⟨e,a',w',hq,.of_steps (.one (fenced_calm hb hroom rfl) stepR_loop) oG⟩
def vQ (tmps:Array Value):ResultVar->Sem Value
 | .tmp t=>pure (tmps.getD t undef)
 | .cell a t=>do loadVar t (<- asAddr (tmps.getD a undef))
theorem U0 (hT:aW P ctx.tt) {st:AS} {ρ:Env} {a:Act} {w:World} (bE:ry aC W df st ρ a w) {q:ResultVar} {v:A0} (h:Sr ctx st q=some v):
  (vQ a.tmps q).run P w= .ok (v.af ρ) w/\ v.ok (· <st.heap.length):=by
 cases q with
 |tmp t=>
  simp only [Sr] at h
  split at h
  ·rename_i x hx
   cases h
   have h1:=bE.tmps t (by rw [hx];simp)
   have h2:=bE.kn t
   rw [hx] at h1 h2
   exact ⟨by simp only [vQ,Sem.run_pure];rw [h1];rfl,h2⟩
  ·cases h
 |cell t ty=>
  simp only [Sr] at h
  split at h
  ·rename_i n off i hx hi
   split at h
   ·rename_i cs e he
    have h1:=bE.tmps t (by rw [hx];simp)
    rw [hx] at h1
    obtain ⟨b,hb,hh⟩:=bE.st.at_ n _ he
    rw [oN hb] at h1
    have hok:=(bE.st.kn n _ he).2
    have hld:=mI (P:=P) (rest:= []) (off:=off) hT hi (by simpa using hh)
    split at h
    ·rename_i ha
     split at h
     ·rename_i hl
      cases h
      refine ⟨?_,fun c hc=>hok c (List.mem_of_mem_drop (List.mem_of_mem_take hc))⟩
      have:=hld.1 ha (by simpa using hl)
      simp only [vQ,h1,asAddr,Sem.run_bind,Sem.run_pure,Result.andThen_ok,this,A0.af,eG]
     ·cases h
    ·rename_i ha
     split at h
     ·rename_i c hc
      cases h
      refine ⟨?_,hok c (List.mem_of_getElem? hc)⟩
      have:=hld.2 (by simpa using ha) (c.af ρ) (by simp [hc])
      simp only [vQ,h1,asAddr,Sem.run_bind,Sem.run_pure,Result.andThen_ok,this,A0.af]
     ·cases h
   ·cases h
  ·cases h
theorem sB (hT:aW P ctx.tt) {st:AS} {ρ:Env} {a:Act} {w:World} (bE:ry aC W df st ρ a w): ∀(qs:List ResultVar) (vs:List A0),Gv ctx st qs=some vs->
  (qs.mapM (vQ a.tmps)).run P w= .ok (vs.map (A0.af ρ)) w/\ ∀v∈vs,v.ok (· <st.heap.length)
 | [],vs,h=>by simp only [Gv,Option.some.injEq] at h;subst h;simp
 |q::r,vs,h=>by
  simp only [Gv] at h
  split at h
  ·rename_i v l h1 h2
   cases h
   obtain ⟨e1,k1⟩:=U0 hT bE h1
   obtain ⟨e2,k2⟩:=sB hT bE r l h2
   refine ⟨by simp [e1,e2],fun x hx=> ?_⟩
   rcases List.mem_cons.1 hx with rfl|hx
   ·exact k1
   ·exact k2 x hx
  ·cases h
theorem ach (hT:aW P ctx.tt) {st:AS} {ρ:Env} {a:Act} {w:World} (bE:ry aC W df st ρ a w) {fn:Func} {R:AV->AS->Prop} (h:acg ctx fn st R):
  ∃v,(results fn a.tmps).run P w= .ok (v.af ρ) w/\ v.ok (· <st.heap.length)/\ R v st:=by
 unfold acg at h
 have hrun: ∀vs,Gv ctx st fn.results.toList=some vs->(results fn a.tmps).run P w= .ok (if h:(vs.map (A0.af ρ)).toArray.size=1 then (vs.map (A0.af ρ)).toArray[0] else .tuple (vs.map (A0.af ρ)).toArray) w:=by
  intro vs hvs
  obtain ⟨e,_⟩:=sB hT bE _ _ hvs
  have:(fn.results.mapM (vQ a.tmps)).run P w= .ok (vs.map (A0.af ρ)).toArray w:=by
   rw [Array.mapM_eq_mapM_toList]
   simp only [Sem.run_map,e,Result.andThen_ok]
  have e2:results fn a.tmps=(do
    let vs<- fn.results.mapM (vQ a.tmps)
    pure (if h:vs.size=1 then vs[0] else .tuple vs):Sem Value):=by
   unfold results
   congr 2
  rw [e2]
  simp only [Sem.run_bind,this,Result.andThen_ok,Sem.run_pure]
 split at h
 ·rename_i v hv
  refine ⟨.v v,?_,(sB hT bE _ _ hv).2 v (by simp),h⟩
  rw [hrun _ hv];rfl
 ·rename_i l hl hne
  refine ⟨.AH l,?_,(sB hT bE _ _ hne).2,h⟩
  rw [hrun _ hne]
  have: ¬l.length=1:=by
   intro h1
   match l,h1 with
   | [x],_=>exact hl x rfl
  rw [dif_neg (by simpa using this)];rfl
 ·exact h.elim
theorem Yi (ρ:Env) (args:List AV) (m t:Nat):(((args.map (AV.af ρ)).toArray++Array.replicate (m- (args.map (AV.af ρ)).toArray.size) undef).getD t undef)=(dG (args++List.replicate (m- args.length) aH) t).af ρ:=by
 rw [Dw]
 simp only [Array.getD_eq_getD_getElem?,List.getD,Array.getElem?_append,List.size_toArray,List.length_map,List.getElem?_toArray,List.getElem?_map,List.getElem?_append,Array.getElem?_replicate,List.getElem?_replicate]
 by_cases h:t<args.length
 ·simp [h]
 ·simp only [h,if_false]
  split<;>rfl
theorem Di (hT:aW P ctx.tt) {fn:Func} {R:AV->AS->Prop} {st:AS} {ρ:Env} {tm:Array Value} (h:acg ctx fn st R): ∀(ds df:List Nat) (w:World),df.Nodup->(∀D∈df,W.heap.size<=D/\ w.heap[D]? =some (.deferred (some [])))->
  ry aC W (ds.map rW) st ρ {tmps:=tm,defers:=ds.map rW} w->
  LeavesInM (fw none) 0 P fn tm (fun e w'=> ∃v,e= .returned (v.af ρ)/\ v.ok (· <st.heap.length)/\ R v st/\ St aC W ρ (· <st.heap.length) (aA st.heap) w') (df.map rW) .returning w
 |ds,[],w,_,_,bE=>by
  obtain ⟨v,hr,hok,hR⟩:=ach hT bE h
  exact ⟨_,hr,v,rfl,hok,hR,bE.st⟩
 |ds,D::df,w,hn,hd,bE=>by
  have hD:=hd D (by simp)
  rw [List.nodup_cons] at hn
  refine ⟨by simp,.inl ⟨D,_,rfl,run_takeDeferred hD.2,Di hT h ds df _ hn.2 (fun D' hD'=> ?_) ?_⟩⟩
  ·have:=hd D' (by simp [hD'])
   exact ⟨this.1,by rw [World.putObj_heap_other (by rintro rfl;exact hn.1 hD')];exact this.2⟩
  ·refine ⟨bE.tmps,bE.size,bE.defers,bE.kn,bE.st.put (.inl hD.1) (fun hc=> ?_) fun m p hp=> ?_⟩
   ·obtain ⟨cs,e,f,h2⟩:=hc
    rw [hD.2] at h2;cases h2
   have hk:=bE.st.kn m p hp
   exact ⟨fun h1=>absurd hD.2 (KU (bE.st.at_ m p hp) h1 _),fun _=>hp,by simp [hp],hk.1,hk.2⟩
theorem uM (hT:aW P ctx.tt) (hC:rz P ctx) (hX:GU aC W ctx.X) (hm:P.follows .mixedOrders=true) {f:FuncId} {fn:Func} (hf:P.funcs[f]? =some fn) (AB: ∀c,fn.body=some c->uJ P ctx c) {args:List AV} {heap:List aX} {R:AV->AS->Prop}
  (h:Na ctx fn args heap R) {ρ:Env} {w:World} (hargs: ∀x∈args,x.ok (· <heap.length)) (hst:St aC W ρ (· <heap.length) (aA heap) w):
  Calls P f (args.map (AV.af ρ)).toArray w fun e w'=> ∃st ρ' v,e= .returned (v.af ρ')/\ v.ok (· <st.heap.length)/\ R v st/\ St aC W ρ' (· <st.heap.length) (aA st.heap) w':=by
 unfold Na at h
 split at h
 ·rename_i c hb
  refine callsIn_wide.1 (callsIn_of_wp_marks (F:=fw none) (n:=0) hf hb trivial ?_ rfl)
  have bE:JF aC W ⟨args++List.replicate (fn.ntmps- args.length) aH,heap⟩ ρ {tmps:=(args.map (AV.af ρ)).toArray++Array.replicate (fn.ntmps- (args.map (AV.af ρ)).toArray.size) undef,defers:= []} w:=by
   refine ⟨[],List.nodup_nil,fun D hD=>absurd hD (by simp),fun t _=>Yi ρ args fn.ntmps t,by simp,rfl,fun t=> ?_,hst⟩
   dsimp only
   rw [Dw,List.getD,List.getElem?_append]
   split
   ·rename_i hl
    rw [List.getElem?_eq_getElem hl]
    exact hargs _ (List.getElem_mem hl)
   ·rw [List.getElem?_replicate];split<;>exact MO _
  have key: ∀st ρ' a' w',acg ctx fn st R->JF aC W st ρ' a' w'->LeavesInM (fw none) 0 P fn a'.tmps (fun e w'=> ∃st ρ' v,e= .returned (v.af ρ')/\ v.ok (· <st.heap.length)/\ R v st/\ St aC W ρ' (· <st.heap.length) (aA st.heap) w') a'.defers .returning w':=by
   rintro st ρ' a' w' hk ⟨ds,mV⟩
   have hdf:=mV.qi.defers
   have C3:ry aC W (ds.map rW) st ρ' {tmps:=a'.tmps,defers:=ds.map rW} w':=⟨mV.qi.tmps,mV.qi.size,rfl,mV.qi.kn,mV.qi.st⟩
   have:=Di (P:=P) (tm:=a'.tmps) hT hk ds ds w' mV.nd mV.dd C3
   rw [hdf]
   have mono: ∀(l:List Nat) (w:World),LeavesInM (fw none) 0 P fn a'.tmps (fun e w'=> ∃v,e= .returned (v.af ρ')/\ v.ok (· <st.heap.length)/\ R v st/\ St aC W ρ' (· <st.heap.length) (aA st.heap) w') (l.map rW) .returning w->
     LeavesInM (fw none) 0 P fn a'.tmps (fun e w'=> ∃st ρ' v,e= .returned (v.af ρ')/\ v.ok (· <st.heap.length)/\ R v st/\ St aC W ρ' (· <st.heap.length) (aA st.heap) w') (l.map rW) .returning w:=by
    intro l
    induction l with
    |nil=>rintro w ⟨u,hr,v,h1,h2,h3,h4⟩;exact ⟨u,hr,st,ρ',v,h1,h2,h3,h4⟩
    |cons D l ih=>
     rintro w ⟨h1,h2⟩
     refine ⟨h1,?_⟩
     rcases h2 with ⟨r,w2,h3,h4,h5⟩|⟨_,fv,cap,f,args,h3,_⟩
     ·exact .inl ⟨r,w2,h3,h4,ih w2 h5⟩
     ·simp [rW] at h3
   exact mono ds w' this
  refine wpIn_mono (rC hT hC hm c (AB c hb) aC W none 0 hX (.inl rfl) _ _ h ρ _ w bE) ?_
  rintro e a' w' ⟨st,ρ',hk,mV⟩
  cases e with
  |normal=>exact key st ρ' a' w' hk mV
  |ret=>exact key st ρ' a' w' hk mV
  |_=>exact hk.elim
 ·exact h.elim
end
theorem Fr.Ze {aC:mY} {W w:World} (h:Fr W3 W w):Fr aC W w:=⟨h.os,h.tape,h.output,h.size,fun k hk _=>h.block k hk id⟩
theorem St.called {aC:mY} {W w w':World} {ρ:Env} {Kn:Nat->Prop} {Γ:HP} (h:St aC W ρ Kn Γ w) (hf:Fr W3 w w'):St aC W ρ Kn Γ w':=
 h.world (h.fr.trans hf.Ze) fun b hb=>hf.block b hb id
end Go.Ev
namespace Go.Ev
open Go.RowKit
inductive wI
 |one (t:Ty)
 |agg (t:Ty)
 |ptr (t:Ty)
 |pair (a b:wI)
 |ik (f:FuncId) (p:wI)
 |mv (f:FuncId) (agg:Bool) (t:Ty)
 |none
@[reducible] def wI.ty:wI->Ty
 | .one t=>t
 | .agg t=>t
 | .ptr t=>t
 | .pair a b=> .prod a.ty b.ty
 | .ik _ p=>p.ty
 | .mv _ _ t=>t
 | .none=> .bool
def wI.cap:wI->Bool
 | .ptr _=>true
 | .pair a b=>a.cap&&b.cap
 | .none=>true
 |_=>false
def UX:A0->Ref
 | .one (.br n j _)=> .elem n j
 |_=> .ext undef
def afs (c:Cell):Ref:=match c with
 | .raw v=> .ext v
 | .full n=> .full n
 |_=> .ext undef
def cO (rk:Nat):Nat->List cD->List Cell×List aX
 |_,[]=>([],[])
 |nm,.flat v::r=>match cO rk nm r with|(cs,os)=>(.raw v::cs,os)
 |nm,.sl u l::r=>match cO rk (nm+1) r with|(cs,os)=>(.full nm::cs,.row u l rk::os)
def wZ (agg:Bool) (cs:List Cell):A0:=match agg with
 |false=>(match cs with| [c]=> .one c|cs=> .agg cs)
 |true=> .agg cs
def bz (rk:Nat):Nat->(p:wI)->p.ty.T->List A0×List aX
 |nm,.one t,x=>match cO rk nm (t.aM x) with|(cs,os)=>([wZ false cs],os)
 |nm,.agg t,x=>match cO rk nm (t.aM x) with|(cs,os)=>([wZ true cs],os)
 |nm,.ptr t,x=>([.one (.br nm 0 0)],[.row t [x] 0])
 |nm,.pair a b,x=>match bz rk nm a x.1 with
  |(as,os)=>match bz rk (nm+os.length) b x.2 with
   |(bs,os')=>(as++bs,os++os')
 |nm,.ik f p,x=>match bz rk nm p x with
  |(as,os)=>([.one (.ik (.func f) [] (as.map UX))],os)
 |nm,.mv f agg t,x=>match cO rk nm (t.aM x) with|(cs,os)=>([.one (.mv f agg (cs.map afs))],os)
 |_,.none,_=>([],[])
def ru (hp:HP):(p:wI)->List AV->Option (p.ty.T×List AV×List Nat×Bool)
 | .one t,l=>match l with
  | .v (.one c)::r=>match cN hp t [c] with
   |some (x,[],tc)=>some (x,r,tc,true)
   |_=>none
  |_=>none
 | .agg t,l=>match l with
  | .v (.agg cs)::r=>match cN hp t cs with
   |some (x,[],tc)=>some (x,r,tc,true)
   |_=>none
  |_=>none
 | .ptr t,l=>match l with
  | .v (.one (.ptr n off))::r=>match hp n with
   |some (.cells cs _)=>match cN hp t ((cs.drop off).take t.size) with
    |some (x,[],tc)=>if t.shallow then some (x,r,n::tc,true) else none
    |_=>none
   |_=>none
  | .v (.one (.br n j 0))::r=>match hp n with
   |some (.row u l _)=>match qw u t l with
    |some l'=>some (gd t l' j,r,[n],decide (j<l'.length))
    |none=>none
   |_=>none
  |_=>none
 | .pair a b,l=>match ru hp a l with
  |some (x,r,tc,f)=>match ru hp b r with
   |some (y,r',GM,f')=>some ((x,y),r',tc++GM,f&&f')
   |none=>none
  |none=>none
 | .ik f p,l=>match l with
  | .v (.one (.ik (.func g) [] cap))::r=>if g=f then (match ru hp p (cap.map Dy) with
   |some (x,[],tc,b)=>some (x,r,tc,p.cap&&b)
   |_=>none) else none
  |_=>none
 | .mv f agg t,l=>match l with
  | .v (.one (.mv g aiX rs))::r=>if g=f/\ aiX=agg then (match cN hp t (rs.map Em) with
   |some (x,[],tc)=>some (x,r,tc,true)
   |_=>none) else none
  |_=>none
 | .none,l=>some (false,l,[],true)
def vS:List A0->AV
 | [a]=> .v a
 |l=> .AH l
def vn:AV->Option (List A0)
 | .v a=>some [a]
 | .AH l=>match l with
  | [_]=>none
  |l=>some l
 | .dead=>none
def Nm (hp:HP):Ty->List Cell->Option (List Src×List Cell)
 | .prod a b,cs=>match Nm hp a cs with
  |some (ss,r)=>match Nm hp b r with
   |some (ss',r')=>some (ss++ss',r')
   |none=>none
  |none=>none
 | .sl u,cs=>match cs with
  | .raw (.slice none 0 0)::r=>some ([.nil],r)
  | .full n::r=>match hp n with
   |some (.row _ _ rk)=>if rk=2 then some ([.same n],r) else none
   |_=>none
  | .sl n 0 len c::r=>if c=len then (match hp n with
   |some (.cells cs _)=>if u.flat&&(decide (cs.length=len*u.size)&&Nat.ble len 1099511627776) then some ([.cells n len],r) else none
   |_=>none) else none
  |_=>none
 |_,cs=>match cs with
  |_::r=>some ([],r)
  | []=>none
def JZ (hp:HP):(p:wI)->List A0->Option (p.ty.T×List A0×List Src)
 | .one t,l=>match l with
  | .one c::r=>match cN hp t [c] with
   |some (y,[],_)=>match Nm hp t [c] with
    |some (ss,_)=>some (y,r,ss)
    |none=>none
   |_=>none
  |_=>none
 | .agg t,l=>match l with
  | .agg cs::r=>match cN hp t cs with
   |some (y,[],_)=>match Nm hp t cs with
    |some (ss,_)=>some (y,r,ss)
    |none=>none
   |_=>none
  |_=>none
 | .ptr _,_=>none
 | .ik _ _,_=>none
 | .mv _ _ _,_=>none
 | .pair a b,l=>match JZ hp a l with
  |some (x,r,ss)=>match JZ hp b r with
   |some (y,r',ss')=>some ((x,y),r',ss++ss')
   |none=>none
  |none=>none
 | .none,l=>some (false,l,[])
def Ss (r:wI) (Q:r.ty.T->Prop) (v:AV) (st:AS):Prop:=match vn v with
 |some l=>match JZ (aA st.heap) r l with
  |some (y,[],ss)=>if xV (ss.filterMap NT) then Q y else False
  |_=>False
 |none=>False
def ij (p:wI) (x:p.ty.T):List AV:=(bz 0 0 p x).1.map .v
def iq (p:wI) (x:p.ty.T):List aX:=(bz 0 0 p x).2
structure bB where
 p:wI
 r:wI
 pre:p.ty.T->Prop
 f:p.ty.T->r.ty.T
def ak (s:bB):Spec:=fun _ args hp nm k=>match ru hp s.p args with
 |some (x,[],tc,b)=>ob b (s.pre x/\ ∀y,y=s.f x->k {val:=vS (bz 2 nm s.r y).1,fresh:=(bz 2 nm s.r y).2,aO:=tc})
 |_=>False
def zC (w:World):aX->Loc->Prop
 | .row u l rk,x=>rk=0/\ (x.bR=none/\ x.BR= [])/\ x.len=l.length/\ x.es=u.size/\ l.length<=x.cap/\ oA w (VQ w) x.base u l
 |_,_=>False
theorem kV {w:World} : ∀(cs:List cD) (vals:List Value) (nm:Nat),bN (IK w (VQ w)) cs vals->
  ∃xs,bN (zC w) (cO 0 nm cs).2 xs/\ ∀cn:Env,(∀i x,xs[i]? =some x->cn (nm+i)=x)->(cO 0 nm cs).1.map (Cell.af cn)=vals
 | [],[],nm,_=>⟨[],trivial,fun _ _=>rfl⟩
 | [],_::_,_,h=>h.elim
 |_::_,[],_,h=>h.elim
 | .flat v::r,v'::vr,nm,h=>by
  obtain ⟨xs,h1,h2⟩:=kV r vr nm h.2
  refine ⟨xs,h1,fun cn hr=> ?_⟩
  have:=h2 cn hr
  have hv:v'=v:=h.1
  simp only [cO,List.map_cons,this,hv];rfl
 | .sl u l::r,v'::vr,nm,h=>by
  obtain ⟨xs,h1,h2⟩:=kV r vr (nm+1) h.2
  obtain ⟨a,c,hv,hc,hr⟩:=h.1
  refine ⟨{bR:=none,base:=a,len:=l.length,cap:=c,es:=u.size} ::xs,⟨⟨rfl,⟨rfl,rfl⟩,rfl,rfl,hc,hr⟩,h1⟩,fun cn hr=> ?_⟩
  have:=h2 cn fun i x hi=>by
   have:=hr (i+1) x (by simpa using hi)
   rwa [show nm+(i+1)=nm+1+i by omega] at this
  have h0:=hr 0 _ rfl
  rw [Nat.add_zero] at h0
  simp only [cO,List.map_cons,this,hv,Cell.af,h0]
theorem add_zero' (a:Addr):a.add 0=a:=by unfold Addr.add;split<;>simp_all
theorem Pm {rk nm:Nat} {ρ:Env} : ∀(p:wI),p.cap=true-> ∀ {x:p.ty.T},((bz rk nm p x).1.map UX).map (Ref.af ρ)=(bz rk nm p x).1.map (A0.af ρ):=by
 intro p
 induction p generalizing nm with
 |ptr t=>intro _ x;rfl
 |none=>intro _ x;rfl
 |pair a b iha ihb=>
  intro h x
  simp only [wI.cap,Bool.and_eq_true] at h
  simp only [bz,List.map_append]
  rw [iha h.1,ihb h.2]
 |one t=>intro h;cases h
 |agg t=>intro h;cases h
 |ik f p _=>intro h;cases h
 |mv f agg t=>intro h;cases h
theorem Ap (rk:Nat) (ρ:Env): ∀(cs:List cD) (nm:Nat),((cO rk nm cs).1.map afs).map (Ref.af ρ)=(cO rk nm cs).1.map (Cell.af ρ)
 | [],_=>rfl
 | .flat v::r,nm=>by simp only [cO,List.map_cons,Ap rk ρ r nm];rfl
 | .sl u l::r,nm=>by simp only [cO,List.map_cons,Ap rk ρ r (nm+1)];rfl
theorem zq {hp:HP} : ∀(p:wI) (args:List AV) (x:p.ty.T) (r:List AV) (tc:List Nat),ru hp p args=some (x,r,tc,true)->
  ∃as,args=as++r/\ ∀aC W ρ Kn Γ w,(∀m∈tc,Γ m=hp m)->St aC W ρ Kn Γ w-> ∀nm,∃xs,bN (zC w) (bz 0 nm p x).2 xs/\
   ∀cn:Env,(∀i x,xs[i]? =some x->cn (nm+i)=x)->as.map (AV.af ρ)=(bz 0 nm p x).1.map (A0.af cn)
 | .one t,args,x,r,tc,h=>by
  simp only [ru] at h
  split at h<;>try (cases h;done)
  rename_i c r'
  split at h<;>try (cases h;done)
  rename_i y GM hd
  cases h
  obtain ⟨ys,e,hl,hs⟩:=lq hp t _ _ _ _ hd
  rw [List.append_nil] at e
  subst e
  refine ⟨[_],rfl,fun aC W ρ Kn Γ w ht hst nm=> ?_⟩
  obtain ⟨xs,h1,h2⟩:=kV _ _ nm (hs aC W ρ Kn Γ w ht hst)
  refine ⟨xs,h1,fun cn hr=> ?_⟩
  have:=h2 cn hr
  simp only [bz,List.map_cons,List.map_nil]
  simp only [List.map_cons,List.map_nil] at this
  obtain ⟨c',Wo,e⟩: ∃c',(cO 0 nm (t.aM x)).1= [c']/\ c'.af cn=c.af ρ:=by
   match hm:(cO 0 nm (t.aM x)).1,this with
   | [c'],h=>simp only [List.map_cons,List.map_nil,List.cons.injEq,and_true] at h;exact ⟨c',rfl,h⟩
   | [],h=>simp at h
   |_::_::_,h=>simp at h
  rw [Wo]
  simp only [wZ,AV.af,A0.af,e]
 | .agg t,args,x,r,tc,h=>by
  simp only [ru] at h
  split at h<;>try (cases h;done)
  rename_i cs r'
  split at h<;>try (cases h;done)
  rename_i y GM hd
  cases h
  obtain ⟨ys,e,hl,hs⟩:=lq hp t _ _ _ _ hd
  rw [List.append_nil] at e
  subst e
  refine ⟨[_],rfl,fun aC W ρ Kn Γ w ht hst nm=> ?_⟩
  obtain ⟨xs,h1,h2⟩:=kV _ _ nm (hs aC W ρ Kn Γ w ht hst)
  refine ⟨xs,h1,fun cn hr=> ?_⟩
  have:=h2 cn hr
  simp only [bz,wZ,List.map_cons,List.map_nil,AV.af,A0.af,this]
 | .ptr t,args,x,r,tc,h=>by
  simp only [ru] at h
  split at h
  ·rename_i n off r'
   split at h<;>try (cases h;done)
   rename_i cs e he
   split at h<;>try (cases h;done)
   rename_i y GM hd
   split at h<;>try (cases h;done)
   rename_i hsh
   cases h
   obtain ⟨ys,e1,hl,hs⟩:=lq hp t _ _ _ _ hd
   rw [List.append_nil] at e1
   refine ⟨[_],rfl,fun aC W ρ Kn Γ w ht hst nm=> ?_⟩
   have pA:=za t x _ hsh (hs aC W ρ Kn Γ w (fun m hm=>ht m (by simp [hm])) hst)
   obtain ⟨b,hb,hh⟩:=hst.at_ n _ (by rw [ht n (by simp),he])
   refine ⟨[{bR:=none,base:=addrOf ρ n off,len:=1,cap:=1,es:=t.size}],⟨⟨rfl,⟨rfl,rfl⟩,rfl,rfl,by simp,ys.map (Cell.af ρ),?_,fun i v hv=> ?_⟩,trivial⟩,fun cn hr=> ?_⟩
   ·simpa [aD] using pA
   ·refine ⟨⟨b,off,none⟩,by simp [addrOf,hb],?_,?_⟩
    ·rw [QI,cg (by simpa using hh)]
     rw [<- e1,List.map_take,List.map_drop,List.getElem?_take] at hv
     split at hv
     ·rwa [List.getElem?_drop] at hv
     ·cases hv
    ·exact ⟨_,_,_,hh⟩
   ·have h0:=hr 0 _ rfl
    rw [Nat.add_zero] at h0
    simp only [bz,List.map_cons,List.map_nil,AV.af,A0.af,Cell.af,h0]
    cases addrOf ρ n off<;>simp [add_zero']
  ·rename_i n j r'
   split at h<;>try (cases h;done)
   rename_i u l rk he
   split at h<;>try (cases h;done)
   rename_i l' hl'
   simp only [Option.some.injEq,Prod.mk.injEq,decide_eq_true_eq] at h
   obtain ⟨rfl,rfl,rfl,hj⟩:=h
   obtain ⟨e,e2⟩:=fJ hl'
   subst e
   dsimp only at e2
   subst e2
   refine ⟨[_],rfl,fun aC W ρ Kn Γ w ht hst nm=> ?_⟩
   have dw:Γ n=some (.row u l rk):=by rw [ht n (by simp),he]
   have hra:=hst.rowAt dw
   have hes:(ρ n).es=u.size:=(hst.at_ n _ dw).2.1
   have hp:=hra.part (a':=(ρ n).base.map (·.add (j*u.size))) j (some 1) fun _=>rfl
   have FD:oM l j (some 1)= [gd u l j]:=by
    simp only [oM,gd,List.getD_eq_getElem?_getD,List.getElem?_eq_getElem hj,Option.getD_some]
    rw [List.drop_eq_getElem_cons hj];rfl
   rw [FD] at hp
   refine ⟨[{bR:=none,base:=(ρ n).base.map (·.add (j*u.size)),len:=1,cap:=1,es:=u.size}],⟨⟨rfl,⟨rfl,rfl⟩,rfl,rfl,by simp,hp⟩,trivial⟩,fun cn hr=> ?_⟩
   have h0:=hr 0 _ rfl
   rw [Nat.add_zero] at h0
   simp only [bz,List.map_cons,List.map_nil,AV.af,A0.af,Cell.af,h0,hes]
   cases (ρ n).base<;>simp [add_zero']
  ·cases h
 | .ik f p,args,x,r,tc,h=>by
  simp only [ru] at h
  split at h<;>try (cases h;done)
  rename_i g cap r'
  split at h<;>try (cases h;done)
  rename_i hg
  split at h<;>try (cases h;done)
  rename_i x1 Z0 b1 h1
  simp only [Option.some.injEq,Prod.mk.injEq,Bool.and_eq_true] at h
  obtain ⟨rfl,rfl,rfl,hc,rfl⟩:=h
  subst hg
  obtain ⟨as,e1,k1⟩:=zq p _ _ _ _ h1
  rw [List.append_nil] at e1
  refine ⟨[_],rfl,fun aC W ρ Kn Γ w ht hst nm=> ?_⟩
  obtain ⟨xs,g1,g2⟩:=k1 aC W ρ Kn Γ w ht hst nm
  refine ⟨xs,g1,fun cn hr=> ?_⟩
  have h2:=g2 cn hr
  have e2:cap.map (Ref.af ρ)=((bz 0 nm p x1).1.map UX).map (Ref.af cn):=by
   rw [Pm p hc,<- h2,<- e1,List.map_map]
   exact List.map_congr_left fun q _=>(vm ρ q).symm
  simp only [bz,List.map_cons,List.map_nil,AV.af,A0.af,Cell.af,e2]
 | .mv f agg t,args,x,r,tc,h=>by
  simp only [ru] at h
  split at h<;>try (cases h;done)
  rename_i g aiX rs r'
  split at h<;>try (cases h;done)
  rename_i hg
  split at h<;>try (cases h;done)
  rename_i y GM hd
  cases h
  obtain ⟨rfl,rfl⟩:=hg
  obtain ⟨ys,e,hl,hs⟩:=lq hp t _ _ _ _ hd
  rw [List.append_nil] at e
  refine ⟨[_],rfl,fun aC W ρ Kn Γ w ht hst nm=> ?_⟩
  obtain ⟨xs,h1,h2⟩:=kV _ _ nm (hs aC W ρ Kn Γ w ht hst)
  refine ⟨xs,h1,fun cn hr=> ?_⟩
  have h3:=h2 cn hr
  have e2:rs.map (Ref.af ρ)=((cO 0 nm (t.aM x)).1.map afs).map (Ref.af cn):=by
   rw [Ap,h3,<- e,List.map_map]
   exact List.map_congr_left fun q _=>(qc ρ q).symm
  simp only [bz,List.map_cons,List.map_nil,AV.af,A0.af,Cell.af,e2]
 | .pair a b,args,x,r,tc,h=>by
  simp only [ru] at h
  split at h<;>try (cases h;done)
  rename_i x1 r1 Z0 f1 h1
  split at h<;>try (cases h;done)
  rename_i x2 r2 tc2 f2 h2
  simp only [Option.some.injEq,Prod.mk.injEq,Bool.and_eq_true] at h
  obtain ⟨rfl,rfl,rfl,rfl,rfl⟩:=h
  obtain ⟨as,e1,k1⟩:=zq a _ _ _ _ h1
  obtain ⟨bs,e2,k2⟩:=zq b _ _ _ _ h2
  refine ⟨as++bs,by rw [e1,e2];simp,fun aC W ρ Kn Γ w ht hst nm=> ?_⟩
  obtain ⟨xs,g1,g2⟩:=k1 aC W ρ Kn Γ w (fun m hm=>ht m (by simp [hm])) hst nm
  obtain ⟨ys,g3,g4⟩:=k2 aC W ρ Kn Γ w (fun m hm=>ht m (by simp [hm])) hst (nm+(bz 0 nm a x1).2.length)
  refine ⟨xs++ys,g1.append g3,fun cn hr=> ?_⟩
  have hl:=g1.length
  simp only [bz,List.map_append]
  rw [g2 cn fun i x hi=>hr i x (by rw [List.getElem?_append_left (List.getElem?_eq_some_iff.1 hi).1];exact hi),g4 cn fun i x hi=>by
   have:=hr (xs.length+i) x (by rw [List.getElem?_append_right (by omega)];simpa using hi)
   rwa [<- hl,<- Nat.add_assoc] at this]
 | .none,args,x,r,tc,h=>by
  simp only [ru,Option.some.injEq,Prod.mk.injEq,and_true] at h
  obtain ⟨rfl,rfl,rfl⟩:=h
  exact ⟨[],rfl,fun aC W ρ Kn Γ w ht hst nm=>⟨[],trivial,fun _ _=>rfl⟩⟩
where QI {b off m:Nat} :(⟨b,off,none⟩:Addr).add m=⟨b,off+m,none⟩:=by unfold Addr.add;split<;>simp_all
theorem oF {w:World} {o:aX} {x:Loc} (h:zC w o x): ∃u,∃l:List u.T,o= .row u l 0:=by
 cases o<;>first|exact h.elim|(obtain ⟨rfl,_⟩:=h;exact ⟨_,_,rfl⟩)
theorem St.begin {w:World} {os:List aX} {xs:List Loc} (h:bN (zC w) os xs):St W3 w (fun n=>xs.getD n {}) (· <os.length) (aA os) w:=by
 have rL: ∀n o,aA os n=some o->os[n]? =some o:=fun n o ho=>by
  unfold aA at ho
  split at ho
  ·cases ho
  ·exact ho
 have hx: ∀n o,aA os n=some o->zC w o (xs.getD n {}):=fun n o ho=>by
  obtain ⟨x,h1,h2⟩:=h.get n o (rL n o ho)
  simpa [h1] using h2
 have pQ: ∀n,(aA os n).isSome=true->(xs.getD n {}).bR=Option.none/\ (xs.getD n {}).BR= []:=fun n hn=>by
  obtain ⟨o,ho⟩:=Option.isSome_iff_exists.1 hn
  have:=hx n o ho
  obtain ⟨u,l,rfl⟩:=oF this
  exact this.2.1
 refine ⟨Fr.refl _ _,fun n o ho=> ?_,fun n o ho=> ?_,fun n m b hn hm hb=> ?_,fun n b hn hb=> ?_,fun b ⟨m,S,h1,_⟩=> ?_,fun n o ho=> .inr (pQ n (by rw [ho];rfl)).2⟩
 rotate_right
 ·obtain ⟨u,l,e⟩:=oF (hx m _ h1)
  cases e
 ·have hg:=hx n o ho
  obtain ⟨u,l,rfl⟩:=oF hg
  obtain ⟨_,h1,h2,h3,h4,vals,h5,h6⟩:=hg
  obtain ⟨e1,e2⟩:=q8 h5
  have hfz: ∀b,bS w b->lV (fun n=>xs.getD n {}) (aA os) w b:=fun b hb=>⟨hb,by
   rintro (⟨m,g1,g2⟩|⟨m,S,g1,_⟩)
   ·exact Hs (pQ m g1) g2
   ·obtain ⟨u,l,e⟩:=oF (hx m _ g1)
    cases e⟩
  refine ⟨h2,h3,h4,yY vals,fun i v hv=> ?_,fun q u' l' hq=> ?_,fun _=>h1.1,fun h=>absurd rfl h⟩
  ·rw [e1] at hv
   obtain ⟨a,g1,g2,g3⟩:=h6 i v hv
   exact ⟨a,g1,g2,fun _=>hfz _ g3⟩
  ·exact (e2 q u' l' hq).weak fun b hb=>⟨hfz b hb,fun h=>by cases h⟩
 ·obtain ⟨u,l,rfl⟩:=oF (hx n o ho)
  exact ⟨(List.getElem?_eq_some_iff.1 (rL n _ ho)).1,trivial⟩
 ·exact (Hs (pQ n hn) hb).elim
 ·exact (Hs (pQ n hn) hb).elim
end Go.Ev
