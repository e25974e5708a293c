/- Functions, out of the condition 'fnE'. -/
import Derived.Test.YtngdehlpoomaiaaGreatEvH
noncomputable section
set_option linter.unusedSectionVars false
set_option linter.unusedVariables false
set_option linter.unusedSimpArgs false
namespace Go.Ev
open Go.RowKit
section
variable {P:Program} {ctx:Ctx} {au:eW} {W:World} {df:List Deferred}
theorem XH (hT:cP P ctx.tt) (hC:eB P ctx) (hm:P.follows .mixedOrders=true) {ro:Option Nat} {n:Nat} (c:Code) (hX:rD au W ctx.X) (ahl:(ro=none/\ au.bd= [])\/ lA c=true) (mJ:qG P ctx c) (N:Nat) (st:AS) (K:Exit->AS->Prop) (h:Cj ctx c N st K):
  ∀ρ a w,Et au W st ρ a w->(Code.loop c).wpIn (fw ro) n P (Post au W K) a w:=by
 intro ρ a w aO b k cs hro hb hroom
 have key: ∀N st ρ a w,Cj ctx c N st K->Et au W st ρ a w-> ∃e a' w',Post au W K e a' w'/\ ArrivesIn (Machine.fenced P (fw ro)) P (lone (b.atR a (.code c:: .inLoop c::k)) cs w) b k cs e a' w':=by
  intro N
  induction N with
  |zero=>intro st ρ a w h;exact h.elim
  |succ N ih=>
   intro st ρ a w h aO
   obtain ⟨e,a1,w1,⟨kI,aQ,hk,cy⟩,hO⟩:=pB hT hC hm c mJ au W ro n hX ahl st _ h ρ a w aO b (.inLoop c::k) cs hro hb hroom
   cases e with
   |normal=>
    obtain ⟨e2,a2,w2,hq2,Fz⟩:=ih kI aQ a1 w1 hk cy
    exact ⟨e2,a2,w2,hq2,.of_steps (StepsIn.trans hO (.one (fenced_calm hb hroom rfl) stepR_inLoop)) Fz⟩
   |exit id=>exact ⟨_,a1,w1,⟨kI,aQ,hk,cy⟩,.pass (x:= .inLoop c) rfl (fun _ _=> .inl (by simp)) hO⟩
   |goto l=>exact ⟨_,a1,w1,⟨kI,aQ,hk,cy⟩,.pass (x:= .inLoop c) rfl (fun _ _=> .inl (by simp)) hO⟩
   |ret=>exact ⟨_,a1,w1,⟨kI,aQ,hk,cy⟩,.pass (x:= .inLoop c) rfl (fun _ _=> .inl (by simp)) hO⟩
   |panic ch=>exact ⟨_,a1,w1,⟨kI,aQ,hk,cy⟩,.pass (x:= .inLoop c) rfl (fun _ _=> .inl (by simp)) hO⟩
   |outgrown=>exact ⟨_,a1,w1,⟨kI,aQ,hk,cy⟩,.pass (x:= .inLoop c) rfl (fun _ _=> .inl (by simp)) hO⟩
 obtain ⟨e,a',w',hq,hO⟩:=key N st ρ a w h aO
 exact ⟨e,a',w',hq,.of_steps (.one (fenced_calm hb hroom rfl) stepR_loop) hO⟩
def sH (tmps:Array Value):ResultVar->Sem Value
 | .tmp t=>pure (tmps.getD t undef)
 | .cell a t=>do loadVar t (<- asAddr (tmps.getD a undef))
theorem Pu (hT:cP P ctx.tt) {st:AS} {ρ:Env} {a:Act} {w:World} (aO:kJ au W df st ρ a w) {q:ResultVar} {v:A0} (h:MJ ctx st q=some v):
  (sH a.tmps q).run P w= .ok (v.ae ρ) w/\ v.ok (· <st.heap.length):=by
 cases q with
 |tmp t=>
  simp only [MJ] at h
  split at h
  ·rename_i x hx
   cases h
   have h1:=aO.tmps t (by rw [hx];simp)
   have h2:=aO.kn t
   rw [hx] at h1 h2
   exact ⟨by simp only [sH,Sem.run_pure];rw [h1];rfl,h2⟩
  ·cases h
 |cell t ty=>
  simp only [MJ] at h
  split at h
  ·rename_i n off i hx hi
   split at h
   ·rename_i cs e he
    have h1:=aO.tmps t (by rw [hx];simp)
    rw [hx] at h1
    obtain ⟨b,hb,hh⟩:=aO.st.at_ n _ he
    rw [mA hb] at h1
    have hok:=(aO.st.kn n _ he).2
    have hld:=kp (P:=P) (rest:= []) (off:=off) hT hi (by simpa using hh)
    split at h
    ·rename_i ha
     split at h
     ·rename_i hl
      cases h
      refine ⟨?_,fun c hc=>hok c (List.mem_of_mem_drop (List.mem_of_mem_take hc))⟩
      have:=hld.1 ha (by simpa using hl)
      simp only [sH,h1,asAddr,Sem.run_bind,Sem.run_pure,Result.andThen_ok,this,A0.ae,gF]
     ·cases h
    ·rename_i ha
     split at h
     ·rename_i c hc
      cases h
      refine ⟨?_,hok c (List.mem_of_getElem? hc)⟩
      have:=hld.2 (by simpa using ha) (c.ae ρ) (by simp [hc])
      simp only [sH,h1,asAddr,Sem.run_bind,Sem.run_pure,Result.andThen_ok,this,A0.ae]
     ·cases h
   ·cases h
  ·cases h
theorem qa (hT:cP P ctx.tt) {st:AS} {ρ:Env} {a:Act} {w:World} (aO:kJ au W df st ρ a w): ∀(qs:List ResultVar) (vs:List A0),B5 ctx st qs=some vs->
  (qs.mapM (sH a.tmps)).run P w= .ok (vs.map (A0.ae ρ)) w/\ ∀v∈vs,v.ok (· <st.heap.length)
 | [],vs,h=>by simp only [B5,Option.some.injEq] at h;subst h;simp
 |q::r,vs,h=>by
  simp only [B5] at h
  split at h
  ·rename_i v l h1 h2
   cases h
   obtain ⟨e1,k1⟩:=Pu hT aO h1
   obtain ⟨e2,k2⟩:=qa hT aO r l h2
   refine ⟨by simp [e1,e2],fun x hx=> ?_⟩
   rcases List.mem_cons.1 hx with rfl|hx
   ·exact k1
   ·exact k2 x hx
  ·cases h
theorem wO (hT:cP P ctx.tt) {st:AS} {ρ:Env} {a:Act} {w:World} (aO:kJ au W df st ρ a w) {fn:Func} {R:AV->AS->Prop} (h:oK ctx fn st R):
  ∃v,(results fn a.tmps).run P w= .ok (v.ae ρ) w/\ v.ok (· <st.heap.length)/\ R v st:=by
 unfold oK at h
 have hrun: ∀vs,B5 ctx st fn.results.toList=some vs->(results fn a.tmps).run P w= .ok (if h:(vs.map (A0.ae ρ)).toArray.size=1 then (vs.map (A0.ae ρ)).toArray[0] else .tuple (vs.map (A0.ae ρ)).toArray) w:=by
  intro vs hvs
  obtain ⟨e,_⟩:=qa hT aO _ _ hvs
  have:(fn.results.mapM (sH a.tmps)).run P w= .ok (vs.map (A0.ae ρ)).toArray w:=by
   rw [Array.mapM_eq_mapM_toList]
   simp only [Sem.run_map,e,Result.andThen_ok]
  have e2:results fn a.tmps=(do
    let vs<- fn.results.mapM (sH a.tmps)
    pure (if h:vs.size=1 then vs[0] else .tuple vs):Sem Value):=by
   unfold results
   congr 2
  rw [e2]
  simp only [Sem.run_bind,this,Result.andThen_ok,Sem.run_pure]
 split at h
 ·rename_i v hv
  refine ⟨.v v,?_,(qa hT aO _ _ hv).2 v (by simp),h⟩
  rw [hrun _ hv];rfl
 ·rename_i l hl hne
  refine ⟨.nC l,?_,(qa hT aO _ _ hne).2,h⟩
  rw [hrun _ hne]
  have: ¬l.length=1:=by
   intro h1
   match l,h1 with
   | [x],_=>exact hl x rfl
  rw [dif_neg (by simpa using this)];rfl
 ·exact h.elim
theorem HB (ρ:Env) (args:List AV) (m t:Nat):(((args.map (AV.ae ρ)).toArray++Array.replicate (m- (args.map (AV.ae ρ)).toArray.size) undef).getD t undef)=(bP (args++List.replicate (m- args.length) bU) t).ae ρ:=by
 rw [pW]
 simp only [Array.getD_eq_getD_getElem?,List.getD,Array.getElem?_append,List.size_toArray,List.length_map,List.getElem?_toArray,List.getElem?_map,List.getElem?_append,Array.getElem?_replicate,List.getElem?_replicate]
 by_cases h:t<args.length
 ·simp [h]
 ·simp only [h,if_false]
  split<;>rfl
theorem zL (hT:cP P ctx.tt) {fn:Func} {R:AV->AS->Prop} {st:AS} {ρ:Env} {tm:Array Value} (h:oK ctx fn st R): ∀(ds df:List Nat) (w:World),df.Nodup->(∀D∈df,W.heap.size<=D/\ w.heap[D]? =some (.deferred (some [])))->
  kJ au W (ds.map pV) st ρ {tmps:=tm,defers:=ds.map pV} w->
  LeavesInM (fw none) 0 P fn tm (fun e w'=> ∃v,e= .returned (v.ae ρ)/\ v.ok (· <st.heap.length)/\ R v st/\ St au W ρ (· <st.heap.length) (aj st.heap) w') (df.map pV) .returning w
 |ds,[],w,_,_,aO=>by
  obtain ⟨v,hr,hok,hR⟩:=wO hT aO h
  exact ⟨_,hr,v,rfl,hok,hR,aO.st⟩
 |ds,D::df,w,hn,hd,aO=>by
  have hD:=hd D (by simp)
  rw [List.nodup_cons] at hn
  refine ⟨by simp,.inl ⟨D,_,rfl,run_takeDeferred hD.2,zL hT h ds df _ hn.2 (fun D' hD'=> ?_) ?_⟩⟩
  ·have:=hd D' (by simp [hD'])
   exact ⟨this.1,by rw [World.putObj_heap_other (by rintro rfl;exact hn.1 hD')];exact this.2⟩
  ·refine ⟨aO.tmps,aO.size,aO.defers,aO.kn,aO.st.put (.inl hD.1) (fun hc=> ?_) fun m p hp=> ?_⟩
   ·obtain ⟨cs,e,f,h2⟩:=hc
    rw [hD.2] at h2;cases h2
   have hk:=aO.st.kn m p hp
   exact ⟨fun h1=>absurd hD.2 (Gd (aO.st.at_ m p hp) h1 _),fun _=>hp,by simp [hp],hk.1,hk.2⟩
theorem Im (hT:cP P ctx.tt) (hC:eB P ctx) (hX:rD au W ctx.X) (hm:P.follows .mixedOrders=true) {f:FuncId} {fn:Func} (hf:P.funcs[f]? =some fn) (mJ: ∀c,fn.body=some c->qG P ctx c) {args:List AV} {heap:List aG} {R:AV->AS->Prop}
  (h:Ie ctx fn args heap R) {ρ:Env} {w:World} (hargs: ∀x∈args,x.ok (· <heap.length)) (hst:St au W ρ (· <heap.length) (aj heap) w) (hbd:au.bd= []):
  Calls P f (args.map (AV.ae ρ)).toArray w fun e w'=> ∃st ρ' v,e= .returned (v.ae ρ')/\ v.ok (· <st.heap.length)/\ R v st/\ St au W ρ' (· <st.heap.length) (aj st.heap) w':=by
 unfold Ie at h
 split at h
 ·rename_i c hb
  refine callsIn_wide.1 (callsIn_of_wp_marks (F:=fw none) (n:=0) hf hb trivial ?_ rfl)
  have aO:Et au W ⟨args++List.replicate (fn.ntmps- args.length) bU,heap⟩ ρ {tmps:=(args.map (AV.ae ρ)).toArray++Array.replicate (fn.ntmps- (args.map (AV.ae ρ)).toArray.size) undef,defers:= []} w:=by
   refine ⟨[],List.nodup_nil,fun D hD=>absurd hD (by simp),fun t _=>HB ρ args fn.ntmps t,by simp,by rw [hbd];rfl,fun t=> ?_,hst⟩
   dsimp only
   rw [pW,List.getD,List.getElem?_append]
   split
   ·rename_i hl
    rw [List.getElem?_eq_getElem hl]
    exact hargs _ (List.getElem_mem hl)
   ·rw [List.getElem?_replicate];split<;>exact s7 _
  have key: ∀st ρ' a' w',oK ctx fn st R->Et au W st ρ' a' w'->LeavesInM (fw none) 0 P fn a'.tmps (fun e w'=> ∃st ρ' v,e= .returned (v.ae ρ')/\ v.ok (· <st.heap.length)/\ R v st/\ St au W ρ' (· <st.heap.length) (aj st.heap) w') a'.defers .returning w':=by
   rintro st ρ' a' w' hk ⟨ds,cW⟩
   have hdf:=cW.bz.defers
   rw [hbd,List.append_nil] at hdf
   have eI:kJ au W (ds.map pV) st ρ' {tmps:=a'.tmps,defers:=ds.map pV} w':=⟨cW.bz.tmps,cW.bz.size,rfl,cW.bz.kn,cW.bz.st⟩
   have:=zL (P:=P) (tm:=a'.tmps) hT hk ds ds w' cW.nd cW.dd eI
   rw [hdf]
   have mono: ∀(l:List Nat) (w:World),LeavesInM (fw none) 0 P fn a'.tmps (fun e w'=> ∃v,e= .returned (v.ae ρ')/\ v.ok (· <st.heap.length)/\ R v st/\ St au W ρ' (· <st.heap.length) (aj st.heap) w') (l.map pV) .returning w->
     LeavesInM (fw none) 0 P fn a'.tmps (fun e w'=> ∃st ρ' v,e= .returned (v.ae ρ')/\ v.ok (· <st.heap.length)/\ R v st/\ St au W ρ' (· <st.heap.length) (aj st.heap) w') (l.map pV) .returning w:=by
    intro l
    induction l with
    |nil=>rintro w ⟨u,hr,v,h1,h2,h3,h4⟩;exact ⟨u,hr,st,ρ',v,h1,h2,h3,h4⟩
    |cons D l ih=>
     rintro w ⟨h1,h2⟩
     refine ⟨h1,?_⟩
     rcases h2 with ⟨r,w2,h3,h4,h5⟩|⟨_,fv,cap,f,args,h3,_⟩
     ·exact .inl ⟨r,w2,h3,h4,ih w2 h5⟩
     ·simp [pV] at h3
   exact mono ds w' this
  refine wpIn_mono (pB hT hC hm c (mJ c hb) au W none 0 hX (.inl ⟨rfl,hbd⟩) _ _ h ρ _ w aO) ?_
  rintro e a' w' ⟨st,ρ',hk,cW⟩
  cases e with
  |normal=>exact key st ρ' a' w' hk cW
  |ret=>exact key st ρ' a' w' hk cW
  |_=>exact hk.elim
 ·exact h.elim
theorem iO (hT:cP P ctx.tt) (hC:eB P ctx) (hX:rD au W ctx.X) (hm:P.follows .mixedOrders=true) {f:FuncId} {fn:Func} (hf:P.funcs[f]? =some fn) (mJ: ∀c,fn.body=some c->qG P ctx c) {args:List AV} {heap:List aG} {R:AV->AS->Prop}
  (h:Ie ctx fn args heap R) {ρ:Env} {w:World} (hargs: ∀x∈args,x.ok (· <heap.length)) (hst:St au W ρ (· <heap.length) (aj heap) w):
  Calls P f (args.map (AV.ae ρ)).toArray w fun e w'=> ∃st ρ' v,e= .returned (v.ae ρ')/\ v.ok (· <st.heap.length)/\ R v st/\ St au W ρ' (· <st.heap.length) (aj st.heap) w':=by
 refine (Im (au:=au.z) hT hC hX.z hm hf mJ h hargs hst.z rfl).mono ?_
 rintro e w' ⟨st,ρ',v,h1,h2,h3,h4⟩
 exact ⟨st,ρ',v,h1,h2,h3,h4.unz⟩
end
theorem Fr.Up {au:eW} {W w:World} (h:Fr xw W w):Fr au W w:=⟨h.os,h.tape,h.output,h.size,fun k hk _=>h.block k hk id,h.Ji⟩
theorem St.called {au:eW} {W w w':World} {ρ:Env} {Kn:Nat->Prop} {Γ:HP} (h:St au W ρ Kn Γ w) (hf:Fr xw w w'):St au W ρ Kn Γ w':=
 h.world (h.fr.trans hf.Up) fun b hb=>hf.block b hb id
end Go.Ev
