/- Functions, out of the condition 'fnE'. -/
import Derived.Test.YtaipcbdilkcdbaaEvH
noncomputable section
set_option linter.unusedSectionVars false
set_option linter.unusedVariables false
set_option linter.unusedSimpArgs false
namespace Go.Ev
open Go.RowKit
section
variable {P:Program} {ctx:Ctx} {ax:iV} {W:World} {df:List Deferred}
theorem Nn (hT:br P ctx.tt) (hC:oT P ctx) (hm:P.follows .mixedOrders=true) {ro:Option Nat} {n:Nat} (c:Code) (hX:yf ax W ctx.X) (Uj:ro=none\/ kJ c=true) (tF:pP P ctx c) (N:Nat) (st:AS) (K:Exit->AS->Prop) (h:x7 ctx c N st K):
  ∀ρ a w,Ac ax W st ρ a w->(Code.loop c).wpIn (fw ro) n P (Post ax W K) a w:=by
 intro ρ a w bz b k cs hro hb hroom
 have key: ∀N st ρ a w,x7 ctx c N st K->Ac ax W st ρ a w-> ∃e a' w',Post ax W K e a' w'/\ ArrivesIn (Machine.fenced P (fw ro)) P (lone (b.atR a (.code c:: .inLoop c::k)) cs w) b k cs e a' w':=by
  intro N
  induction N with
  |zero=>intro st ρ a w h;exact h.elim
  |succ N ih=>
   intro st ρ a w h bz
   obtain ⟨e,a1,w1,⟨pO,aY,hk,gN⟩,lI⟩:=nM hT hC hm c tF ax W ro n hX Uj st _ h ρ a w bz b (.inLoop c::k) cs hro hb hroom
   cases e with
   |normal=>
    obtain ⟨e2,a2,w2,QN,Gk⟩:=ih pO aY a1 w1 hk gN
    exact ⟨e2,a2,w2,QN,.of_steps (StepsIn.trans lI (.one (fenced_calm hb hroom rfl) stepR_inLoop)) Gk⟩
   |exit id=>exact ⟨_,a1,w1,⟨pO,aY,hk,gN⟩,.pass (x:= .inLoop c) rfl (fun _ _=> .inl (by simp)) lI⟩
   |goto l=>exact ⟨_,a1,w1,⟨pO,aY,hk,gN⟩,.pass (x:= .inLoop c) rfl (fun _ _=> .inl (by simp)) lI⟩
   |ret=>exact ⟨_,a1,w1,⟨pO,aY,hk,gN⟩,.pass (x:= .inLoop c) rfl (fun _ _=> .inl (by simp)) lI⟩
   |panic ch=>exact ⟨_,a1,w1,⟨pO,aY,hk,gN⟩,.pass (x:= .inLoop c) rfl (fun _ _=> .inl (by simp)) lI⟩
   |outgrown=>exact ⟨_,a1,w1,⟨pO,aY,hk,gN⟩,.pass (x:= .inLoop c) rfl (fun _ _=> .inl (by simp)) lI⟩
 obtain ⟨e,a',w',hq,lI⟩:=key N st ρ a w h bz
 exact ⟨e,a',w',hq,.of_steps (.one (fenced_calm hb hroom rfl) stepR_loop) lI⟩
def qj (tmps:Array Value):ResultVar->Sem Value
 | .tmp t=>pure (tmps.getD t undef)
 | .cell a t=>do loadVar t (<- asAddr (tmps.getD a undef))
theorem Hu (hT:br P ctx.tt) {st:AS} {ρ:Env} {a:Act} {w:World} (bz:nD ax W df st ρ a w) {q:ResultVar} {v:A0} (h:Fx ctx st q=some v):
  (qj a.tmps q).run P w= .ok (v.af ρ) w/\ v.ok (· <st.heap.length):=by
 cases q with
 |tmp t=>
  simp only [Fx] at h
  split at h
  ·rename_i x hx
   cases h
   have h1:=bz.tmps t (by rw [hx];simp)
   have h2:=bz.kn t
   rw [hx] at h1 h2
   exact ⟨by simp only [qj,Sem.run_pure];rw [h1];rfl,h2⟩
  ·cases h
 |cell t ty=>
  simp only [Fx] at h
  split at h
  ·rename_i n off i hx hi
   split at h
   ·rename_i cs e he
    have h1:=bz.tmps t (by rw [hx];simp)
    rw [hx] at h1
    obtain ⟨b,hb,hh⟩:=bz.st.at_ n _ he
    rw [lQ hb] at h1
    have hok:=(bz.st.kn n _ he).2
    have Z6:=jY (P:=P) (rest:= []) (off:=off) hT hi (by simpa using hh)
    split at h
    ·rename_i ha
     split at h
     ·rename_i hl
      cases h
      refine ⟨?_,fun c hc=>hok c (List.mem_of_mem_drop (List.mem_of_mem_take hc))⟩
      have:=Z6.1 ha (by simpa using hl)
      simp only [qj,h1,asAddr,Sem.run_bind,Sem.run_pure,Result.andThen_ok,this,A0.af,dQ]
     ·cases h
    ·rename_i ha
     split at h
     ·rename_i c hc
      cases h
      refine ⟨?_,hok c (List.mem_of_getElem? hc)⟩
      have:=Z6.2 (by simpa using ha) (c.af ρ) (by simp [hc])
      simp only [qj,h1,asAddr,Sem.run_bind,Sem.run_pure,Result.andThen_ok,this,A0.af]
     ·cases h
   ·cases h
  ·cases h
theorem oo (hT:br P ctx.tt) {st:AS} {ρ:Env} {a:Act} {w:World} (bz:nD ax W df st ρ a w): ∀(qs:List ResultVar) (vs:List A0),xX ctx st qs=some vs->
  (qs.mapM (qj a.tmps)).run P w= .ok (vs.map (A0.af ρ)) w/\ ∀v∈vs,v.ok (· <st.heap.length)
 | [],vs,h=>by simp only [xX,Option.some.injEq] at h;subst h;simp
 |q::r,vs,h=>by
  simp only [xX] at h
  split at h
  ·rename_i v l h1 h2
   cases h
   obtain ⟨e1,k1⟩:=Hu hT bz h1
   obtain ⟨e2,k2⟩:=oo hT bz r l h2
   refine ⟨by simp [e1,e2],fun x hx=> ?_⟩
   rcases List.mem_cons.1 hx with rfl|hx
   ·exact k1
   ·exact k2 x hx
  ·cases h
theorem MY (hT:br P ctx.tt) {st:AS} {ρ:Env} {a:Act} {w:World} (bz:nD ax W df st ρ a w) {fn:Func} {R:AV->AS->Prop} (h:MX ctx fn st R):
  ∃v,(results fn a.tmps).run P w= .ok (v.af ρ) w/\ v.ok (· <st.heap.length)/\ R v st:=by
 unfold MX at h
 have hrun: ∀vs,xX ctx st fn.results.toList=some vs->(results fn a.tmps).run P w= .ok (if h:(vs.map (A0.af ρ)).toArray.size=1 then (vs.map (A0.af ρ)).toArray[0] else .tuple (vs.map (A0.af ρ)).toArray) w:=by
  intro vs hvs
  obtain ⟨e,_⟩:=oo hT bz _ _ hvs
  have:(fn.results.mapM (qj a.tmps)).run P w= .ok (vs.map (A0.af ρ)).toArray w:=by
   rw [Array.mapM_eq_mapM_toList]
   simp only [Sem.run_map,e,Result.andThen_ok]
  have e2:results fn a.tmps=(do
    let vs<- fn.results.mapM (qj a.tmps)
    pure (if h:vs.size=1 then vs[0] else .tuple vs):Sem Value):=by
   unfold results
   congr 2
  rw [e2]
  simp only [Sem.run_bind,this,Result.andThen_ok,Sem.run_pure]
 split at h
 ·rename_i v hv
  refine ⟨.v v,?_,(oo hT bz _ _ hv).2 v (by simp),h⟩
  rw [hrun _ hv];rfl
 ·rename_i l hl hne
  refine ⟨.oP l,?_,(oo hT bz _ _ hne).2,h⟩
  rw [hrun _ hne]
  have: ¬l.length=1:=by
   intro h1
   match l,h1 with
   | [x],_=>exact hl x rfl
  rw [dif_neg (by simpa using this)];rfl
 ·exact h.elim
theorem JV (ρ:Env) (args:List AV) (m t:Nat):(((args.map (AV.af ρ)).toArray++Array.replicate (m- (args.map (AV.af ρ)).toArray.size) undef).getD t undef)=(dK (args++List.replicate (m- args.length) aW) t).af ρ:=by
 rw [vV]
 simp only [Array.getD_eq_getD_getElem?,List.getD,Array.getElem?_append,List.size_toArray,List.length_map,List.getElem?_toArray,List.getElem?_map,List.getElem?_append,Array.getElem?_replicate,List.getElem?_replicate]
 by_cases h:t<args.length
 ·simp [h]
 ·simp only [h,if_false]
  split<;>rfl
theorem vL (hT:br P ctx.tt) {fn:Func} {R:AV->AS->Prop} {st:AS} {ρ:Env} {tm:Array Value} (h:MX ctx fn st R): ∀(ds df:List Nat) (w:World),df.Nodup->(∀D∈df,W.heap.size<=D/\ w.heap[D]? =some (.deferred (some [])))->
  nD ax W (ds.map nW) st ρ {tmps:=tm,defers:=ds.map nW} w->
  LeavesInM (fw none) 0 P fn tm (fun e w'=> ∃v,e= .returned (v.af ρ)/\ v.ok (· <st.heap.length)/\ R v st/\ St ax W ρ (· <st.heap.length) (aj st.heap) w') (df.map nW) .returning w
 |ds,[],w,_,_,bz=>by
  obtain ⟨v,hr,hok,hR⟩:=MY hT bz h
  exact ⟨_,hr,v,rfl,hok,hR,bz.st⟩
 |ds,D::df,w,hn,hd,bz=>by
  have hD:=hd D (by simp)
  rw [List.nodup_cons] at hn
  refine ⟨by simp,.inl ⟨D,_,rfl,run_takeDeferred hD.2,vL hT h ds df _ hn.2 (fun D' ZL=> ?_) ?_⟩⟩
  ·have:=hd D' (by simp [ZL])
   exact ⟨this.1,by rw [World.putObj_heap_other (by rintro rfl;exact hn.1 ZL)];exact this.2⟩
  ·refine ⟨bz.tmps,bz.size,bz.defers,bz.kn,bz.st.put (.inl hD.1) (fun hc=> ?_) fun m p hp=> ?_⟩
   ·obtain ⟨cs,e,f,h2⟩:=hc
    rw [hD.2] at h2;cases h2
   have hk:=bz.st.kn m p hp
   exact ⟨fun h1=>absurd hD.2 (Bt (bz.st.at_ m p hp) h1 _),fun _=>hp,by simp [hp],hk.1,hk.2⟩
theorem iC (hT:br P ctx.tt) (hC:oT P ctx) (hX:yf ax W ctx.X) (hm:P.follows .mixedOrders=true) {f:FuncId} {fn:Func} (hf:P.funcs[f]? =some fn) (tF: ∀c,fn.body=some c->pP P ctx c) {args:List AV} {heap:List aG} {R:AV->AS->Prop}
  (h:ET ctx fn args heap R) {ρ:Env} {w:World} (hargs: ∀x∈args,x.ok (· <heap.length)) (hst:St ax W ρ (· <heap.length) (aj heap) w):
  Calls P f (args.map (AV.af ρ)).toArray w fun e w'=> ∃st ρ' v,e= .returned (v.af ρ')/\ v.ok (· <st.heap.length)/\ R v st/\ St ax W ρ' (· <st.heap.length) (aj st.heap) w':=by
 unfold ET at h
 split at h
 ·rename_i c hb
  refine callsIn_wide.1 (callsIn_of_wp_marks (F:=fw none) (n:=0) hf hb trivial ?_ rfl)
  have bz:Ac ax W ⟨args++List.replicate (fn.ntmps- args.length) aW,heap⟩ ρ {tmps:=(args.map (AV.af ρ)).toArray++Array.replicate (fn.ntmps- (args.map (AV.af ρ)).toArray.size) undef,defers:= []} w:=by
   refine ⟨[],List.nodup_nil,fun D hD=>absurd hD (by simp),fun t _=>JV ρ args fn.ntmps t,by simp,rfl,fun t=> ?_,hst⟩
   dsimp only
   rw [vV,List.getD,List.getElem?_append]
   split
   ·rename_i hl
    rw [List.getElem?_eq_getElem hl]
    exact hargs _ (List.getElem_mem hl)
   ·rw [List.getElem?_replicate];split<;>exact qD _
  have key: ∀st ρ' a' w',MX ctx fn st R->Ac ax W st ρ' a' w'->LeavesInM (fw none) 0 P fn a'.tmps (fun e w'=> ∃st ρ' v,e= .returned (v.af ρ')/\ v.ok (· <st.heap.length)/\ R v st/\ St ax W ρ' (· <st.heap.length) (aj st.heap) w') a'.defers .returning w':=by
   rintro st ρ' a' w' hk ⟨ds,j9⟩
   have hdf:=j9.mH.defers
   have lX:nD ax W (ds.map nW) st ρ' {tmps:=a'.tmps,defers:=ds.map nW} w':=⟨j9.mH.tmps,j9.mH.size,rfl,j9.mH.kn,j9.mH.st⟩
   have:=vL (P:=P) (tm:=a'.tmps) hT hk ds ds w' j9.nd j9.dd lX
   rw [hdf]
   have mono: ∀(l:List Nat) (w:World),LeavesInM (fw none) 0 P fn a'.tmps (fun e w'=> ∃v,e= .returned (v.af ρ')/\ v.ok (· <st.heap.length)/\ R v st/\ St ax W ρ' (· <st.heap.length) (aj st.heap) w') (l.map nW) .returning w->
     LeavesInM (fw none) 0 P fn a'.tmps (fun e w'=> ∃st ρ' v,e= .returned (v.af ρ')/\ v.ok (· <st.heap.length)/\ R v st/\ St ax W ρ' (· <st.heap.length) (aj st.heap) w') (l.map nW) .returning w:=by
    intro l
    induction l with
    |nil=>rintro w ⟨u,hr,v,h1,h2,h3,h4⟩;exact ⟨u,hr,st,ρ',v,h1,h2,h3,h4⟩
    |cons D l ih=>
     rintro w ⟨h1,h2⟩
     refine ⟨h1,?_⟩
     rcases h2 with ⟨r,w2,h3,h4,h5⟩|⟨_,fv,cap,f,args,h3,_⟩
     ·exact .inl ⟨r,w2,h3,h4,ih w2 h5⟩
     ·simp [nW] at h3
   exact mono ds w' this
  refine wpIn_mono (nM hT hC hm c (tF c hb) ax W none 0 hX (.inl rfl) _ _ h ρ _ w bz) ?_
  rintro e a' w' ⟨st,ρ',hk,j9⟩
  cases e with
  |normal=>exact key st ρ' a' w' hk j9
  |ret=>exact key st ρ' a' w' hk j9
  |_=>exact hk.elim
 ·exact h.elim
end
theorem Fr.Fp {ax:iV} {W w:World} (h:Fr zC W w):Fr ax W w:=⟨h.os,h.tape,h.output,h.size,fun k hk _=>h.block k hk id,h.FJ⟩
theorem St.called {ax:iV} {W w w':World} {ρ:Env} {Kn:Nat->Prop} {Γ:HP} (h:St ax W ρ Kn Γ w) (hf:Fr zC w w'):St ax W ρ Kn Γ w':=
 h.world (h.fr.trans hf.Fp) fun b hb=>hf.block b hb id
end Go.Ev
namespace Go.Ev
open Go.RowKit
inductive mF
 |one (t:Ty)
 |agg (t:Ty)
 |ptr (t:Ty)
 |pair (a b:mF)
 |kq (f:FuncId) (p:mF)
 |mv (f:FuncId) (agg:Bool) (t:Ty)
 |none
@[reducible] def mF.ty:mF->Ty
 | .one t=>t
 | .agg t=>t
 | .ptr t=>t
 | .pair a b=> .prod a.ty b.ty
 | .kq _ p=>p.ty
 | .mv _ _ t=>t
 | .none=> .bool
def mF.cap:mF->Bool
 | .ptr _=>true
 | .pair a b=>a.cap&&b.cap
 | .none=>true
 |_=>false
def Hq:A0->Ref
 | .one (.cx n j _)=> .elem n j
 |_=> .ext undef
def P6 (c:Cell):Ref:=match c with
 | .raw v=> .ext v
 | .full n=> .full n
 |_=> .ext undef
def cl (rk:Nat):Nat->List cn->List Cell×List aG
 |_,[]=>([],[])
 |nm,.flat v::r=>match cl rk nm r with|(cs,os)=>(.raw v::cs,os)
 |nm,.sl u l::r=>match cl rk (nm+1) r with|(cs,os)=>(.full nm::cs,.row u l rk::os)
def nH (agg:Bool) (cs:List Cell):A0:=match agg with
 |false=>(match cs with| [c]=> .one c|cs=> .agg cs)
 |true=> .agg cs
def aT (rk:Nat):Nat->(p:mF)->p.ty.T->List A0×List aG
 |nm,.one t,x=>match cl rk nm (t.aI x) with|(cs,os)=>([nH false cs],os)
 |nm,.agg t,x=>match cl rk nm (t.aI x) with|(cs,os)=>([nH true cs],os)
 |nm,.ptr t,x=>([.one (.cx nm 0 0)],[.row t [x] 0])
 |nm,.pair a b,x=>match aT rk nm a x.1 with
  |(as,os)=>match aT rk (nm+os.length) b x.2 with
   |(bs,os')=>(as++bs,os++os')
 |nm,.kq f p,x=>match aT rk nm p x with
  |(as,os)=>([.one (.kq (.func f) [] (as.map Hq))],os)
 |nm,.mv f agg t,x=>match cl rk nm (t.aI x) with|(cs,os)=>([.one (.mv f agg (cs.map P6))],os)
 |_,.none,_=>([],[])
def jA (hp:HP):(p:mF)->List AV->Option (p.ty.T×List AV×List Nat×Bool)
 | .one t,l=>match l with
  | .v (.one c)::r=>match b8 hp t [c] with
   |some (x,[],tc)=>some (x,r,tc,true)
   |_=>none
  |_=>none
 | .agg t,l=>match l with
  | .v (.agg cs)::r=>match b8 hp t cs with
   |some (x,[],tc)=>some (x,r,tc,true)
   |_=>none
  |_=>none
 | .ptr t,l=>match l with
  | .v (.one (.ptr n off))::r=>match hp n with
   |some (.cells cs _)=>match b8 hp t ((cs.drop off).take t.size) with
    |some (x,[],tc)=>if t.shallow then some (x,r,n::tc,true) else none
    |_=>none
   |_=>none
  | .v (.one (.cx n j 0))::r=>match hp n with
   |some (.row u l _)=>match iM u t l with
    |some l'=>some (gd t l' j,r,[n],decide (j<l'.length))
    |none=>none
   |_=>none
  |_=>none
 | .pair a b,l=>match jA hp a l with
  |some (x,r,tc,f)=>match jA hp b r with
   |some (y,r',uS,f')=>some ((x,y),r',tc++uS,f&&f')
   |none=>none
  |none=>none
 | .kq f p,l=>match l with
  | .v (.one (.kq (.func g) [] cap))::r=>if g=f then (match jA hp p (cap.map vW) with
   |some (x,[],tc,b)=>some (x,r,tc,p.cap&&b)
   |_=>none) else none
  |_=>none
 | .mv f agg t,l=>match l with
  | .v (.one (.mv g To rs))::r=>if g=f/\ To=agg then (match b8 hp t (rs.map wv) with
   |some (x,[],tc)=>some (x,r,tc,true)
   |_=>none) else none
  |_=>none
 | .none,l=>some (false,l,[],true)
def iq:List A0->AV
 | [a]=> .v a
 |l=> .oP l
def jn:AV->Option (List A0)
 | .v a=>some [a]
 | .oP l=>match l with
  | [_]=>none
  |l=>some l
 | .dead=>none
def CQ (hp:HP):Ty->List Cell->Option (List Src×List Cell)
 | .prod a b,cs=>match CQ hp a cs with
  |some (ss,r)=>match CQ hp b r with
   |some (ss',r')=>some (ss++ss',r')
   |none=>none
  |none=>none
 | .sl u,cs=>match cs with
  | .raw (.slice none 0 0)::r=>some ([.nil],r)
  | .full n::r=>match hp n with
   |some (.row _ _ rk)=>if rk=2 then some ([.same n],r) else none
   |_=>none
  | .sl n 0 len c::r=>if c=len then (match hp n with
   |some (.cells cs _)=>if u.flat&&(decide (cs.length=len*u.size)&&Nat.ble len 1099511627776) then some ([.cells n len],r) else none
   |_=>none) else none
  |_=>none
 |_,cs=>match cs with
  |_::r=>some ([],r)
  | []=>none
def zu (hp:HP):(p:mF)->List A0->Option (p.ty.T×List A0×List Src)
 | .one t,l=>match l with
  | .one c::r=>match b8 hp t [c] with
   |some (y,[],_)=>match CQ hp t [c] with
    |some (ss,_)=>some (y,r,ss)
    |none=>none
   |_=>none
  |_=>none
 | .agg t,l=>match l with
  | .agg cs::r=>match b8 hp t cs with
   |some (y,[],_)=>match CQ hp t cs with
    |some (ss,_)=>some (y,r,ss)
    |none=>none
   |_=>none
  |_=>none
 | .ptr _,_=>none
 | .kq _ _,_=>none
 | .mv _ _ _,_=>none
 | .pair a b,l=>match zu hp a l with
  |some (x,r,ss)=>match zu hp b r with
   |some (y,r',ss')=>some ((x,y),r',ss++ss')
   |none=>none
  |none=>none
 | .none,l=>some (false,l,[])
def JN (r:mF) (Q:r.ty.T->Prop) (v:AV) (st:AS):Prop:=match jn v with
 |some l=>match zu (aj st.heap) r l with
  |some (y,[],ss)=>if iT (ss.filterMap x6) then Q y else False
  |_=>False
 |none=>False
def fH (p:mF) (x:p.ty.T):List AV:=(aT 0 0 p x).1.map .v
def fW (p:mF) (x:p.ty.T):List aG:=(aT 0 0 p x).2
structure jh where
 p:mF
 r:mF
 pre:p.ty.T->Prop
 f:p.ty.T->r.ty.T
def aH (s:jh):Spec:=fun _ args hp nm k=>match jA hp s.p args with
 |some (x,[],tc,b)=>ob b (s.pre x/\ ∀y,y=s.f x->k {val:=iq (aT 2 nm s.r y).1,fresh:=(aT 2 nm s.r y).2,az:=tc})
 |_=>False
def sI (w:World):aG->Loc->Prop
 | .row u l rk,x=>rk=0/\ (x.bt=none/\ x.bT= [])/\ x.len=l.length/\ x.es=u.size/\ l.length<=x.cap/\ ke w (Il w) x.base u l
 |_,_=>False
theorem jl {w:World} : ∀(cs:List cn) (vals:List Value) (nm:Nat),bK (zn w (Il w)) cs vals->
  ∃xs,bK (sI w) (cl 0 nm cs).2 xs/\ ∀aY:Env,(∀i x,xs[i]? =some x->aY (nm+i)=x)->(cl 0 nm cs).1.map (Cell.af aY)=vals
 | [],[],nm,_=>⟨[],trivial,fun _ _=>rfl⟩
 | [],_::_,_,h=>h.elim
 |_::_,[],_,h=>h.elim
 | .flat v::r,v'::vr,nm,h=>by
  obtain ⟨xs,h1,h2⟩:=jl r vr nm h.2
  refine ⟨xs,h1,fun aY hr=> ?_⟩
  have:=h2 aY hr
  have hv:v'=v:=h.1
  simp only [cl,List.map_cons,this,hv];rfl
 | .sl u l::r,v'::vr,nm,h=>by
  obtain ⟨xs,h1,h2⟩:=jl r vr (nm+1) h.2
  obtain ⟨a,c,hv,hc,hr⟩:=h.1
  refine ⟨{bt:=none,base:=a,len:=l.length,cap:=c,es:=u.size} ::xs,⟨⟨rfl,⟨rfl,rfl⟩,rfl,rfl,hc,hr⟩,h1⟩,fun aY hr=> ?_⟩
  have:=h2 aY fun i x hi=>by
   have:=hr (i+1) x (by simpa using hi)
   rwa [show nm+(i+1)=nm+1+i by omega] at this
  have h0:=hr 0 _ rfl
  rw [Nat.add_zero] at h0
  simp only [cl,List.map_cons,this,hv,Cell.af,h0]
theorem add_zero' (a:Addr):a.add 0=a:=by unfold Addr.add;split<;>simp_all
theorem DR {rk nm:Nat} {ρ:Env} : ∀(p:mF),p.cap=true-> ∀ {x:p.ty.T},((aT rk nm p x).1.map Hq).map (Ref.af ρ)=(aT rk nm p x).1.map (A0.af ρ):=by
 intro p
 induction p generalizing nm with
 |ptr t=>intro _ x;rfl
 |none=>intro _ x;rfl
 |pair a b CM CN=>
  intro h x
  simp only [mF.cap,Bool.and_eq_true] at h
  simp only [aT,List.map_append]
  rw [CM h.1,CN h.2]
 |one t=>intro h;cases h
 |agg t=>intro h;cases h
 |kq f p _=>intro h;cases h
 |mv f agg t=>intro h;cases h
theorem sX (rk:Nat) (ρ:Env): ∀(cs:List cn) (nm:Nat),((cl rk nm cs).1.map P6).map (Ref.af ρ)=(cl rk nm cs).1.map (Cell.af ρ)
 | [],_=>rfl
 | .flat v::r,nm=>by simp only [cl,List.map_cons,sX rk ρ r nm];rfl
 | .sl u l::r,nm=>by simp only [cl,List.map_cons,sX rk ρ r (nm+1)];rfl
theorem mI {hp:HP} : ∀(p:mF) (args:List AV) (x:p.ty.T) (r:List AV) (tc:List Nat),jA hp p args=some (x,r,tc,true)->
  ∃as,args=as++r/\ ∀ax W ρ Kn Γ w,(∀m∈tc,Γ m=hp m)->St ax W ρ Kn Γ w-> ∀nm,∃xs,bK (sI w) (aT 0 nm p x).2 xs/\
   ∀aY:Env,(∀i x,xs[i]? =some x->aY (nm+i)=x)->as.map (AV.af ρ)=(aT 0 nm p x).1.map (A0.af aY)
 | .one t,args,x,r,tc,h=>by
  simp only [jA] at h
  split at h<;>try (cases h;done)
  rename_i c r'
  split at h<;>try (cases h;done)
  rename_i y uS hd
  cases h
  obtain ⟨ys,e,hl,hs⟩:=js hp t _ _ _ _ hd
  rw [List.append_nil] at e
  subst e
  refine ⟨[_],rfl,fun ax W ρ Kn Γ w ht hst nm=> ?_⟩
  obtain ⟨xs,h1,h2⟩:=jl _ _ nm (hs ax W ρ Kn Γ w ht hst)
  refine ⟨xs,h1,fun aY hr=> ?_⟩
  have:=h2 aY hr
  simp only [aT,List.map_cons,List.map_nil]
  simp only [List.map_cons,List.map_nil] at this
  obtain ⟨c',IP,e⟩: ∃c',(cl 0 nm (t.aI x)).1= [c']/\ c'.af aY=c.af ρ:=by
   match hm:(cl 0 nm (t.aI x)).1,this with
   | [c'],h=>simp only [List.map_cons,List.map_nil,List.cons.injEq,and_true] at h;exact ⟨c',rfl,h⟩
   | [],h=>simp at h
   |_::_::_,h=>simp at h
  rw [IP]
  simp only [nH,AV.af,A0.af,e]
 | .agg t,args,x,r,tc,h=>by
  simp only [jA] at h
  split at h<;>try (cases h;done)
  rename_i cs r'
  split at h<;>try (cases h;done)
  rename_i y uS hd
  cases h
  obtain ⟨ys,e,hl,hs⟩:=js hp t _ _ _ _ hd
  rw [List.append_nil] at e
  subst e
  refine ⟨[_],rfl,fun ax W ρ Kn Γ w ht hst nm=> ?_⟩
  obtain ⟨xs,h1,h2⟩:=jl _ _ nm (hs ax W ρ Kn Γ w ht hst)
  refine ⟨xs,h1,fun aY hr=> ?_⟩
  have:=h2 aY hr
  simp only [aT,nH,List.map_cons,List.map_nil,AV.af,A0.af,this]
 | .ptr t,args,x,r,tc,h=>by
  simp only [jA] at h
  split at h
  ·rename_i n off r'
   split at h<;>try (cases h;done)
   rename_i cs e he
   split at h<;>try (cases h;done)
   rename_i y uS hd
   split at h<;>try (cases h;done)
   rename_i hsh
   cases h
   obtain ⟨ys,e1,hl,hs⟩:=js hp t _ _ _ _ hd
   rw [List.append_nil] at e1
   refine ⟨[_],rfl,fun ax W ρ Kn Γ w ht hst nm=> ?_⟩
   have hall:=sq t x _ hsh (hs ax W ρ Kn Γ w (fun m hm=>ht m (by simp [hm])) hst)
   obtain ⟨b,hb,hh⟩:=hst.at_ n _ (by rw [ht n (by simp),he])
   refine ⟨[{bt:=none,base:=addrOf ρ n off,len:=1,cap:=1,es:=t.size}],⟨⟨rfl,⟨rfl,rfl⟩,rfl,rfl,by simp,ys.map (Cell.af ρ),?_,fun i v hv=> ?_⟩,trivial⟩,fun aY hr=> ?_⟩
   ·simpa [ak] using hall
   ·refine ⟨⟨b,off,none⟩,by simp [addrOf,hb],?_,?_⟩
    ·rw [EB,bL (by simpa using hh)]
     rw [<- e1,List.map_take,List.map_drop,List.getElem?_take] at hv
     split at hv
     ·rwa [List.getElem?_drop] at hv
     ·cases hv
    ·exact ⟨_,_,_,hh⟩
   ·have h0:=hr 0 _ rfl
    rw [Nat.add_zero] at h0
    simp only [aT,List.map_cons,List.map_nil,AV.af,A0.af,Cell.af,h0]
    cases addrOf ρ n off<;>simp [add_zero']
  ·rename_i n j r'
   split at h<;>try (cases h;done)
   rename_i u l rk he
   split at h<;>try (cases h;done)
   rename_i l' hl'
   simp only [Option.some.injEq,Prod.mk.injEq,decide_eq_true_eq] at h
   obtain ⟨rfl,rfl,rfl,hj⟩:=h
   obtain ⟨e,e2⟩:=cK hl'
   subst e
   dsimp only at e2
   subst e2
   refine ⟨[_],rfl,fun ax W ρ Kn Γ w ht hst nm=> ?_⟩
   have bV:Γ n=some (.row u l rk):=by rw [ht n (by simp),he]
   have Wx:=hst.rowAt bV
   have Rt:(ρ n).es=u.size:=(hst.at_ n _ bV).2.1
   have hp:=Wx.part (a':=(ρ n).base.map (·.add (j*u.size))) j (some 1) fun _=>rfl
   have rJ:lO l j (some 1)= [gd u l j]:=by
    simp only [lO,gd,List.getD_eq_getElem?_getD,List.getElem?_eq_getElem hj,Option.getD_some]
    rw [List.drop_eq_getElem_cons hj];rfl
   rw [rJ] at hp
   refine ⟨[{bt:=none,base:=(ρ n).base.map (·.add (j*u.size)),len:=1,cap:=1,es:=u.size}],⟨⟨rfl,⟨rfl,rfl⟩,rfl,rfl,by simp,hp⟩,trivial⟩,fun aY hr=> ?_⟩
   have h0:=hr 0 _ rfl
   rw [Nat.add_zero] at h0
   simp only [aT,List.map_cons,List.map_nil,AV.af,A0.af,Cell.af,h0,Rt]
   cases (ρ n).base<;>simp [add_zero']
  ·cases h
 | .kq f p,args,x,r,tc,h=>by
  simp only [jA] at h
  split at h<;>try (cases h;done)
  rename_i g cap r'
  split at h<;>try (cases h;done)
  rename_i hg
  split at h<;>try (cases h;done)
  rename_i x1 Aa b1 h1
  simp only [Option.some.injEq,Prod.mk.injEq,Bool.and_eq_true] at h
  obtain ⟨rfl,rfl,rfl,hc,rfl⟩:=h
  subst hg
  obtain ⟨as,e1,k1⟩:=mI p _ _ _ _ h1
  rw [List.append_nil] at e1
  refine ⟨[_],rfl,fun ax W ρ Kn Γ w ht hst nm=> ?_⟩
  obtain ⟨xs,g1,g2⟩:=k1 ax W ρ Kn Γ w ht hst nm
  refine ⟨xs,g1,fun aY hr=> ?_⟩
  have h2:=g2 aY hr
  have e2:cap.map (Ref.af ρ)=((aT 0 nm p x1).1.map Hq).map (Ref.af aY):=by
   rw [DR p hc,<- h2,<- e1,List.map_map]
   exact List.map_congr_left fun q _=>(qe ρ q).symm
  simp only [aT,List.map_cons,List.map_nil,AV.af,A0.af,Cell.af,e2]
 | .mv f agg t,args,x,r,tc,h=>by
  simp only [jA] at h
  split at h<;>try (cases h;done)
  rename_i g To rs r'
  split at h<;>try (cases h;done)
  rename_i hg
  split at h<;>try (cases h;done)
  rename_i y uS hd
  cases h
  obtain ⟨rfl,rfl⟩:=hg
  obtain ⟨ys,e,hl,hs⟩:=js hp t _ _ _ _ hd
  rw [List.append_nil] at e
  refine ⟨[_],rfl,fun ax W ρ Kn Γ w ht hst nm=> ?_⟩
  obtain ⟨xs,h1,h2⟩:=jl _ _ nm (hs ax W ρ Kn Γ w ht hst)
  refine ⟨xs,h1,fun aY hr=> ?_⟩
  have h3:=h2 aY hr
  have e2:rs.map (Ref.af ρ)=((cl 0 nm (t.aI x)).1.map P6).map (Ref.af aY):=by
   rw [sX,h3,<- e,List.map_map]
   exact List.map_congr_left fun q _=>(mB ρ q).symm
  simp only [aT,List.map_cons,List.map_nil,AV.af,A0.af,Cell.af,e2]
 | .pair a b,args,x,r,tc,h=>by
  simp only [jA] at h
  split at h<;>try (cases h;done)
  rename_i x1 r1 Aa f1 h1
  split at h<;>try (cases h;done)
  rename_i x2 r2 Ew f2 h2
  simp only [Option.some.injEq,Prod.mk.injEq,Bool.and_eq_true] at h
  obtain ⟨rfl,rfl,rfl,rfl,rfl⟩:=h
  obtain ⟨as,e1,k1⟩:=mI a _ _ _ _ h1
  obtain ⟨bs,e2,k2⟩:=mI b _ _ _ _ h2
  refine ⟨as++bs,by rw [e1,e2];simp,fun ax W ρ Kn Γ w ht hst nm=> ?_⟩
  obtain ⟨xs,g1,g2⟩:=k1 ax W ρ Kn Γ w (fun m hm=>ht m (by simp [hm])) hst nm
  obtain ⟨ys,g3,g4⟩:=k2 ax W ρ Kn Γ w (fun m hm=>ht m (by simp [hm])) hst (nm+(aT 0 nm a x1).2.length)
  refine ⟨xs++ys,g1.append g3,fun aY hr=> ?_⟩
  have hl:=g1.length
  simp only [aT,List.map_append]
  rw [g2 aY fun i x hi=>hr i x (by rw [List.getElem?_append_left (List.getElem?_eq_some_iff.1 hi).1];exact hi),g4 aY fun i x hi=>by
   have:=hr (xs.length+i) x (by rw [List.getElem?_append_right (by omega)];simpa using hi)
   rwa [<- hl,<- Nat.add_assoc] at this]
 | .none,args,x,r,tc,h=>by
  simp only [jA,Option.some.injEq,Prod.mk.injEq,and_true] at h
  obtain ⟨rfl,rfl,rfl⟩:=h
  exact ⟨[],rfl,fun ax W ρ Kn Γ w ht hst nm=>⟨[],trivial,fun _ _=>rfl⟩⟩
where EB {b off m:Nat} :(⟨b,off,none⟩:Addr).add m=⟨b,off+m,none⟩:=by unfold Addr.add;split<;>simp_all
theorem lG {w:World} {o:aG} {x:Loc} (h:sI w o x): ∃u,∃l:List u.T,o= .row u l 0:=by
 cases o<;>first|exact h.elim|(obtain ⟨rfl,_⟩:=h;exact ⟨_,_,rfl⟩)
theorem St.begin {w:World} {os:List aG} {xs:List Loc} (h:bK (sI w) os xs):St zC w (fun n=>xs.getD n {}) (· <os.length) (aj os) w:=by
 have nU: ∀n o,aj os n=some o->os[n]? =some o:=fun n o ho=>by
  unfold aj at ho
  split at ho
  ·cases ho
  ·exact ho
 have hx: ∀n o,aj os n=some o->sI w o (xs.getD n {}):=fun n o ho=>by
  obtain ⟨x,h1,h2⟩:=h.get n o (nU n o ho)
  simpa [h1] using h2
 have gO: ∀n,(aj os n).isSome=true->(xs.getD n {}).bt=Option.none/\ (xs.getD n {}).bT= []:=fun n hn=>by
  obtain ⟨o,ho⟩:=Option.isSome_iff_exists.1 hn
  have:=hx n o ho
  obtain ⟨u,l,rfl⟩:=lG this
  exact this.2.1
 refine ⟨Fr.refl _ _,fun n o ho=> ?_,fun n o ho=> ?_,fun n m b hn hm hb=> ?_,fun n b hn hb=> ?_,fun b ⟨m,S,h1,_⟩=> ?_,fun n o ho=> .inr (gO n (by rw [ho];rfl)).2⟩
 rotate_right
 ·obtain ⟨u,l,e⟩:=lG (hx m _ h1)
  cases e
 ·have hg:=hx n o ho
  obtain ⟨u,l,rfl⟩:=lG hg
  obtain ⟨_,h1,h2,h3,h4,vals,h5,h6⟩:=hg
  obtain ⟨e1,e2⟩:=jo h5
  have hfz: ∀b,bg w b->eo (fun n=>xs.getD n {}) (aj os) w b:=fun b hb=>⟨hb,by
   rintro (⟨m,g1,g2⟩|⟨m,S,g1,_⟩)
   ·exact nZ (gO m g1) g2
   ·obtain ⟨u,l,e⟩:=lG (hx m _ g1)
    cases e⟩
  refine ⟨h2,h3,h4,pM vals,fun i v hv=> ?_,fun q u' l' hq=> ?_,fun _=>h1.1,fun h=>absurd rfl h⟩
  ·rw [e1] at hv
   obtain ⟨a,g1,g2,g3⟩:=h6 i v hv
   exact ⟨a,g1,g2,fun _=>hfz _ g3⟩
  ·exact (e2 q u' l' hq).weak fun b hb=>⟨hfz b hb,fun h=>by cases h⟩
 ·obtain ⟨u,l,rfl⟩:=lG (hx n o ho)
  exact ⟨(List.getElem?_eq_some_iff.1 (nU n _ ho)).1,trivial⟩
 ·exact (nZ (gO n hn) hb).elim
 ·exact (nZ (gO n hn) hb).elim
end Go.Ev
