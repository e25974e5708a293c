/- Functions, out of the condition 'fnE'. -/
import Derived.Test.YtojielnkfeoccaaGreatEvH
noncomputable section
set_option linter.unusedSectionVars false
set_option linter.unusedVariables false
set_option linter.unusedSimpArgs false
namespace Go.Ev
open Go.RowKit
section
variable {P:Program} {ctx:Ctx} {ax:jh} {W:World} {df:List Deferred}
theorem Ri (hT:aX P ctx.tt) (hC:nW P ctx) (hm:P.follows .mixedOrders=true) {ro:Option Nat} {n:Nat} (c:Code) (hX:Ac ax W ctx.X) (YC:ro=none\/ kM c=true) (sj:qb P ctx c) (N:Nat) (st:AS) (K:Exit->AS->Prop) (h:vS ctx c N st K):
  ∀ρ a w,Cc ax W st ρ a w->(Code.loop c).wpIn (fw ro) n P (Post ax W K) a w:=by
 intro ρ a w bD b k cs hro hb hroom
 have key: ∀N st ρ a w,vS ctx c N st K->Cc ax W st ρ a w-> ∃e a' w',Post ax W K e a' w'/\ ArrivesIn (Machine.fenced P (fw ro)) P (lone (b.atR a (.code c:: .inLoop c::k)) cs w) b k cs e a' w':=by
  intro N
  induction N with
  |zero=>intro st ρ a w h;exact h.elim
  |succ N ih=>
   intro st ρ a w h bD
   obtain ⟨e,a1,w1,⟨st1,cJ,hk,ij⟩,lP⟩:=oh hT hC hm c sj ax W ro n hX YC st _ h ρ a w bD b (.inLoop c::k) cs hro hb hroom
   cases e with
   |normal=>
    obtain ⟨e2,a2,w2,Rr,JJ⟩:=ih st1 cJ a1 w1 hk ij
    exact ⟨e2,a2,w2,Rr,.of_steps (StepsIn.trans lP (.one (fenced_calm hb hroom rfl) stepR_inLoop)) JJ⟩
   |exit id=>exact ⟨_,a1,w1,⟨st1,cJ,hk,ij⟩,.pass (x:= .inLoop c) rfl (fun _ _=> .inl (by simp)) lP⟩
   |goto l=>exact ⟨_,a1,w1,⟨st1,cJ,hk,ij⟩,.pass (x:= .inLoop c) rfl (fun _ _=> .inl (by simp)) lP⟩
   |ret=>exact ⟨_,a1,w1,⟨st1,cJ,hk,ij⟩,.pass (x:= .inLoop c) rfl (fun _ _=> .inl (by simp)) lP⟩
   |panic ch=>exact ⟨_,a1,w1,⟨st1,cJ,hk,ij⟩,.pass (x:= .inLoop c) rfl (fun _ _=> .inl (by simp)) lP⟩
   |outgrown=>exact ⟨_,a1,w1,⟨st1,cJ,hk,ij⟩,.pass (x:= .inLoop c) rfl (fun _ _=> .inl (by simp)) lP⟩
 obtain ⟨e,a',w',hq,lP⟩:=key N st ρ a w h bD
 exact ⟨e,a',w',hq,.of_steps (.one (fenced_calm hb hroom rfl) stepR_loop) lP⟩
def qH (tmps:Array Value):ResultVar->Sem Value
 | .tmp t=>pure (tmps.getD t undef)
 | .cell a t=>do loadVar t (<- asAddr (tmps.getD a undef))
theorem Ky (hT:aX P ctx.tt) {st:AS} {ρ:Env} {a:Act} {w:World} (bD:nT ax W df st ρ a w) {q:ResultVar} {v:A0} (h:Is ctx st q=some v):
  (qH a.tmps q).run P w= .ok (v.ae ρ) w/\ v.ok (· <st.heap.length):=by
 cases q with
 |tmp t=>
  simp only [Is] at h
  split at h
  ·rename_i x hx
   cases h
   have h1:=bD.tmps t (by rw [hx];simp)
   have h2:=bD.kn t
   rw [hx] at h1 h2
   exact ⟨by simp only [qH,Sem.run_pure];rw [h1];rfl,h2⟩
  ·cases h
 |cell t ty=>
  simp only [Is] at h
  split at h
  ·rename_i n off i hx hi
   split at h
   ·rename_i cs e he
    have h1:=bD.tmps t (by rw [hx];simp)
    rw [hx] at h1
    obtain ⟨b,hb,hh⟩:=bD.st.at_ n _ he
    rw [lV hb] at h1
    have hok:=(bD.st.kn n _ he).2
    have hld:=kg (P:=P) (rest:= []) (off:=off) hT hi (by simpa using hh)
    split at h
    ·rename_i ha
     split at h
     ·rename_i hl
      cases h
      refine ⟨?_,fun c hc=>hok c (List.mem_of_mem_drop (List.mem_of_mem_take hc))⟩
      have:=hld.1 ha (by simpa using hl)
      simp only [qH,h1,asAddr,Sem.run_bind,Sem.run_pure,Result.andThen_ok,this,A0.ae,eE]
     ·cases h
    ·rename_i ha
     split at h
     ·rename_i c hc
      cases h
      refine ⟨?_,hok c (List.mem_of_getElem? hc)⟩
      have:=hld.2 (by simpa using ha) (c.ae ρ) (by simp [hc])
      simp only [qH,h1,asAddr,Sem.run_bind,Sem.run_pure,Result.andThen_ok,this,A0.ae]
     ·cases h
   ·cases h
  ·cases h
theorem oK (hT:aX P ctx.tt) {st:AS} {ρ:Env} {a:Act} {w:World} (bD:nT ax W df st ρ a w): ∀(qs:List ResultVar) (vs:List A0),zH ctx st qs=some vs->
  (qs.mapM (qH a.tmps)).run P w= .ok (vs.map (A0.ae ρ)) w/\ ∀v∈vs,v.ok (· <st.heap.length)
 | [],vs,h=>by simp only [zH,Option.some.injEq] at h;subst h;simp
 |q::r,vs,h=>by
  simp only [zH] at h
  split at h
  ·rename_i v l h1 h2
   cases h
   obtain ⟨e1,k1⟩:=Ky hT bD h1
   obtain ⟨e2,k2⟩:=oK hT bD r l h2
   refine ⟨by simp [e1,e2],fun x hx=> ?_⟩
   rcases List.mem_cons.1 hx with rfl|hx
   ·exact k1
   ·exact k2 x hx
  ·cases h
theorem Q0 (hT:aX P ctx.tt) {st:AS} {ρ:Env} {a:Act} {w:World} (bD:nT ax W df st ρ a w) {fn:Func} {R:AV->AS->Prop} (h:EM ctx fn st R):
  ∃v,(results fn a.tmps).run P w= .ok (v.ae ρ) w/\ v.ok (· <st.heap.length)/\ R v st:=by
 unfold EM at h
 have hrun: ∀vs,zH ctx st fn.results.toList=some vs->(results fn a.tmps).run P w= .ok (if h:(vs.map (A0.ae ρ)).toArray.size=1 then (vs.map (A0.ae ρ)).toArray[0] else .tuple (vs.map (A0.ae ρ)).toArray) w:=by
  intro vs hvs
  obtain ⟨e,_⟩:=oK hT bD _ _ hvs
  have:(fn.results.mapM (qH a.tmps)).run P w= .ok (vs.map (A0.ae ρ)).toArray w:=by
   rw [Array.mapM_eq_mapM_toList]
   simp only [Sem.run_map,e,Result.andThen_ok]
  have e2:results fn a.tmps=(do
    let vs<- fn.results.mapM (qH a.tmps)
    pure (if h:vs.size=1 then vs[0] else .tuple vs):Sem Value):=by
   unfold results
   congr 2
  rw [e2]
  simp only [Sem.run_bind,this,Result.andThen_ok,Sem.run_pure]
 split at h
 ·rename_i v hv
  refine ⟨.v v,?_,(oK hT bD _ _ hv).2 v (by simp),h⟩
  rw [hrun _ hv];rfl
 ·rename_i l hl hne
  refine ⟨.lZ l,?_,(oK hT bD _ _ hne).2,h⟩
  rw [hrun _ hne]
  have: ¬l.length=1:=by
   intro h1
   match l,h1 with
   | [x],_=>exact hl x rfl
  rw [dif_neg (by simpa using this)];rfl
 ·exact h.elim
theorem Nt (ρ:Env) (args:List AV) (m t:Nat):(((args.map (AV.ae ρ)).toArray++Array.replicate (m- (args.map (AV.ae ρ)).toArray.size) undef).getD t undef)=(dP (args++List.replicate (m- args.length) aT) t).ae ρ:=by
 rw [xD]
 simp only [Array.getD_eq_getD_getElem?,List.getD,Array.getElem?_append,List.size_toArray,List.length_map,List.getElem?_toArray,List.getElem?_map,List.getElem?_append,Array.getElem?_replicate,List.getElem?_replicate]
 by_cases h:t<args.length
 ·simp [h]
 ·simp only [h,if_false]
  split<;>rfl
theorem xg (hT:aX P ctx.tt) {fn:Func} {R:AV->AS->Prop} {st:AS} {ρ:Env} {tm:Array Value} (h:EM ctx fn st R): ∀(ds df:List Nat) (w:World),df.Nodup->(∀D∈df,W.heap.size<=D/\ w.heap[D]? =some (.deferred (some [])))->
  nT ax W (ds.map oG) st ρ {tmps:=tm,defers:=ds.map oG} w->
  LeavesInM (fw none) 0 P fn tm (fun e w'=> ∃v,e= .returned (v.ae ρ)/\ v.ok (· <st.heap.length)/\ R v st/\ St ax W ρ (· <st.heap.length) (av st.heap) w') (df.map oG) .returning w
 |ds,[],w,_,_,bD=>by
  obtain ⟨v,hr,hok,hR⟩:=Q0 hT bD h
  exact ⟨_,hr,v,rfl,hok,hR,bD.st⟩
 |ds,D::df,w,hn,hd,bD=>by
  have hD:=hd D (by simp)
  rw [List.nodup_cons] at hn
  refine ⟨by simp,.inl ⟨D,_,rfl,run_takeDeferred hD.2,xg hT h ds df _ hn.2 (fun D' hD'=> ?_) ?_⟩⟩
  ·have:=hd D' (by simp [hD'])
   exact ⟨this.1,by rw [World.putObj_heap_other (by rintro rfl;exact hn.1 hD')];exact this.2⟩
  ·refine ⟨bD.tmps,bD.size,bD.defers,bD.kn,bD.st.put (.inl hD.1) (fun hc=> ?_) fun m p hp=> ?_⟩
   ·obtain ⟨cs,e,f,h2⟩:=hc
    rw [hD.2] at h2;cases h2
   have hk:=bD.st.kn m p hp
   exact ⟨fun h1=>absurd hD.2 (Du (bD.st.at_ m p hp) h1 _),fun _=>hp,by simp [hp],hk.1,hk.2⟩
theorem mm (hT:aX P ctx.tt) (hC:nW P ctx) (hX:Ac ax W ctx.X) (hm:P.follows .mixedOrders=true) {f:FuncId} {fn:Func} (hf:P.funcs[f]? =some fn) (sj: ∀c,fn.body=some c->qb P ctx c) {args:List AV} {heap:List aQ} {R:AV->AS->Prop}
  (h:N1 ctx fn args heap R) {ρ:Env} {w:World} (hargs: ∀x∈args,x.ok (· <heap.length)) (hst:St ax W ρ (· <heap.length) (av heap) w):
  Calls P f (args.map (AV.ae ρ)).toArray w fun e w'=> ∃st ρ' v,e= .returned (v.ae ρ')/\ v.ok (· <st.heap.length)/\ R v st/\ St ax W ρ' (· <st.heap.length) (av st.heap) w':=by
 unfold N1 at h
 split at h
 ·rename_i c hb
  refine callsIn_wide.1 (callsIn_of_wp_marks (F:=fw none) (n:=0) hf hb trivial ?_ rfl)
  have bD:Cc ax W ⟨args++List.replicate (fn.ntmps- args.length) aT,heap⟩ ρ {tmps:=(args.map (AV.ae ρ)).toArray++Array.replicate (fn.ntmps- (args.map (AV.ae ρ)).toArray.size) undef,defers:= []} w:=by
   refine ⟨[],List.nodup_nil,fun D hD=>absurd hD (by simp),fun t _=>Nt ρ args fn.ntmps t,by simp,rfl,fun t=> ?_,hst⟩
   dsimp only
   rw [xD,List.getD,List.getElem?_append]
   split
   ·rename_i hl
    rw [List.getElem?_eq_getElem hl]
    exact hargs _ (List.getElem_mem hl)
   ·rw [List.getElem?_replicate];split<;>exact nQ _
  have key: ∀st ρ' a' w',EM ctx fn st R->Cc ax W st ρ' a' w'->LeavesInM (fw none) 0 P fn a'.tmps (fun e w'=> ∃st ρ' v,e= .returned (v.ae ρ')/\ v.ok (· <st.heap.length)/\ R v st/\ St ax W ρ' (· <st.heap.length) (av st.heap) w') a'.defers .returning w':=by
   rintro st ρ' a' w' hk ⟨ds,kD⟩
   have hdf:=kD.mK.defers
   have nV:nT ax W (ds.map oG) st ρ' {tmps:=a'.tmps,defers:=ds.map oG} w':=⟨kD.mK.tmps,kD.mK.size,rfl,kD.mK.kn,kD.mK.st⟩
   have:=xg (P:=P) (tm:=a'.tmps) hT hk ds ds w' kD.nd kD.dd nV
   rw [hdf]
   have mono: ∀(l:List Nat) (w:World),LeavesInM (fw none) 0 P fn a'.tmps (fun e w'=> ∃v,e= .returned (v.ae ρ')/\ v.ok (· <st.heap.length)/\ R v st/\ St ax W ρ' (· <st.heap.length) (av st.heap) w') (l.map oG) .returning w->
     LeavesInM (fw none) 0 P fn a'.tmps (fun e w'=> ∃st ρ' v,e= .returned (v.ae ρ')/\ v.ok (· <st.heap.length)/\ R v st/\ St ax W ρ' (· <st.heap.length) (av st.heap) w') (l.map oG) .returning w:=by
    intro l
    induction l with
    |nil=>rintro w ⟨u,hr,v,h1,h2,h3,h4⟩;exact ⟨u,hr,st,ρ',v,h1,h2,h3,h4⟩
    |cons D l ih=>
     rintro w ⟨h1,h2⟩
     refine ⟨h1,?_⟩
     rcases h2 with ⟨r,w2,h3,h4,h5⟩|⟨_,fv,cap,f,args,h3,_⟩
     ·exact .inl ⟨r,w2,h3,h4,ih w2 h5⟩
     ·simp [oG] at h3
   exact mono ds w' this
  refine wpIn_mono (oh hT hC hm c (sj c hb) ax W none 0 hX (.inl rfl) _ _ h ρ _ w bD) ?_
  rintro e a' w' ⟨st,ρ',hk,kD⟩
  cases e with
  |normal=>exact key st ρ' a' w' hk kD
  |ret=>exact key st ρ' a' w' hk kD
  |_=>exact hk.elim
 ·exact h.elim
end
theorem Fr.Oy {ax:jh} {W w:World} (h:Fr Kg W w):Fr ax W w:=⟨h.os,h.tape,h.output,h.size,fun k hk _=>h.block k hk id,h.Ez⟩
end Go.Ev
