/- Code and functions, out of the condition 'codeE'. -/
import Derived.Test.YtngdehlpoomaiaaGreatEvM
noncomputable section
set_option linter.unusedSectionVars false
set_option linter.unusedVariables false
set_option linter.unusedSimpArgs false
namespace Go.Ev
open Go.RowKit
section
variable {P:Program} {ctx:Ctx} {av:fG} {W:World}
def Snd (P:Program) (ctx:Ctx) (c:Code):Prop:= ∀av W ro n,uR av W ctx.X->((ro=none/\ av.bd= [])\/ mZ c=true)-> ∀st K,cJ ctx c st K-> ∀ρ a w,Ki av W st ρ a w->c.wpIn (fw ro) n P (Post av W K) a w
theorem St.acw {av:fG} {W:World} {ρ:Env} {h:List aD} {w:World} {n l:Nat} {r:Loop} {s:LoopState} {j:Option Code} (hst:St av W ρ (· <h.length) (ai h) w) (hn:ai h n=some (.loop r s j)) (hl:(ρ n).blk=some l)
  (s':LoopState) (j':Option Code):St av W ρ (· <h.length) (ai (h.set n (.loop r s' j'))) (w.putObj l (.loop {r with state:=s',pending:=j'})):=by
 have hlt:=e7 hn
 have hw:l<w.heap.size:=L2 (hst.at_ n _ hn) hl
 have hown:=hst.own n l (by simp [hn]) hl
 refine hst.put hown (fun hc=> ?_) fun m p hp=> ?_
 ·obtain ⟨b,hb,hh⟩:=hst.at_ n _ hn
  rw [hl] at hb;cases hb
  obtain ⟨cs,e,f,h2⟩:=hc
  rw [hh] at h2;cases h2
 rw [bz,List.getElem?_set] at hp
 by_cases e:n=m
 ·subst e
  rw [if_pos rfl,if_pos hlt] at hp
  cases hp
  exact ⟨fun _ _ _=>⟨l,hl,World.putObj_heap_same hw⟩,fun h=>absurd hl h,by simp [hn],hlt,trivial⟩
 ·rw [if_neg e,←bz] at hp
  have hk:=hst.kn m p hp
  exact ⟨fun h1=>absurd (hst.inj n m l (by simp [hn]) (by simp [hp]) hl h1) e,fun _=>hp,by simp [hp],hk.1,hk.2⟩
theorem St.ai6 {av:fG} {W:World} {ρ:Env} {h:List aD} {w:World} {n l:Nat} {r:Loop} {s:LoopState} {j:Option Code} (hst:St av W ρ (· <h.length) (ai h) w) (hn:ai h n=some (.loop r s j)) (hl:(ρ n).blk=some l) (o:Obj):
  St av W ρ (· <(h.set n .gone).length) (ai (h.set n .gone)) (w.putObj l o):=by
 have hlt:=e7 hn
 have hown:=hst.own n l (by simp [hn]) hl
 rw [List.length_set]
 refine hst.put hown (fun hc=> ?_) fun m p hp=> ?_
 ·obtain ⟨b,hb,hh⟩:=hst.at_ n _ hn
  rw [hl] at hb;cases hb
  obtain ⟨cs,e,f,h2⟩:=hc
  rw [hh] at h2;cases h2
 rw [bz,List.getElem?_set] at hp
 by_cases e:n=m
 ·subst e
  rw [if_pos rfl,if_pos hlt] at hp
  cases hp
 ·rw [if_neg e,←bz] at hp
  have hk:=hst.kn m p hp
  exact ⟨fun h1=>absurd (hst.inj n m l (by simp [hn]) (by simp [hp]) hl h1) e,fun _=>hp,by simp [hp],hk.1,hk.2⟩
theorem AF {h:List aD} {n:Nat} {o:aD} :(h.set n o).length=h.length:=List.length_set
theorem ajV {assign body:Code} (ha:Snd P ctx assign) (hb:Snd P ctx body) (hra:mZ assign=true) (hrb:mZ body=true) {ps:Array Tmp} {BI:List AV} {n0 l:Nat} {jZ:Env} {r:Loop} (hl:(jZ n0).blk=some l)
  (hr:r.state= .ready/\ r.pending=none/\ r.params=ps/\ r.assign=assign/\ r.body=body) (hts:r.tmps.size=BI.length) (htm: ∀t,bY BI t≠ .dead->r.tmps.getD t undef=(bY BI t).ae jZ) (htk: ∀t,(bY BI t).ok (· <n0)):
  o9 P [(n0,anY ctx.X n0 BI r jZ ps (cJ ctx assign) (cJ ctx body))]:=by
 intro n s hs X args hp nm k h
 unfold aL at hs
 split at hs
 rotate_left
 ·cases hs
 rename_i en
 subst en
 cases hs
 unfold anY at h
 obtain ⟨hXX,h⟩:=h
 subst hXX
 split at h
 rotate_left
 ·exact h.elim
 rename_i hsz
 obtain ⟨hp1,h⟩:=dy h
 obtain ⟨hp0,h⟩:=LI h
 intro ro m av W ρ w hX hargs hst
 have AO:=hst.at_ _ _ hp1
 have arP: ∀i,i<n0+1->ρ i=jZ i:=AO.2
 have hln:(ρ n0).blk=some l:=by rw [arP n0 (by omega)];exact hl
 obtain ⟨l',hl',Jo⟩:=hst.at_ _ _ hp0
 rw [hln] at hl';cases hl'
 have hre:({r with state:= .ready,pending:=none} :Loop)=r:=by cases r;simp only at hr;obtain ⟨rfl,rfl,_⟩:=hr;rfl
 rw [hre] at Jo
 have hn0:n0+1<nm:=(hst.kn _ _ hp1).1
 have Ps: ∀m,hp m≠some .gone:=fun m e=>hst.at_ m _ e
 have hkl: ∀m,(hp m).isSome=true->m<nm:=fun m hm=>by
  obtain ⟨o,ho⟩:=Option.isSome_iff_exists.1 hm
  exact (hst.kn m o ho).1
 refine ⟨l,r.fn,(r.params.zip (args.map (AV.ae ρ)).toArray).foldl (fun tmps (x:Tmp×Value)=>tmps.setIfInBounds x.1 x.2) r.tmps,assign,body,hln,?_,?_⟩
 ·have:=run_yield (P:=P) (args:=(args.map (AV.ae ρ)).toArray) Jo (by simp [hr.2.2.1,hsz])
  rw [this,hr.2.2.2.1,hr.2.2.2.2]
 let Hs:=iZ hp nm++ [aD.cg ρ nm]
 let wI:=bA ρ nm {}
 have h3l:Hs.length=nm+1:=by simp [Hs,bP]
 have ff: ∀m,m<nm->wI m=ρ m:=fun m hm=>by simp only [wI,bA];rw [if_neg (by omega)]
 have JN: ∀m o,ai Hs m=some o->(m<nm/\ hp m=some o)\/ (m=nm/\ o= .cg ρ nm):=by
  intro m o ho
  rw [bz] at ho
  rcases Nat.lt_or_ge m nm with h1|h1
  ·rw [List.getElem?_append_left (by rw [bP];exact h1),HH h1 (Ps m)] at ho
   exact .inl ⟨h1,ho⟩
  ·have:m<Hs.length:=e7 (by rw [bz];exact ho)
   have:m=nm:=by omega
   subst this
   rw [List.getElem?_append_right (by rw [bP];exact Nat.le_refl _),bP] at ho
   simp only [Nat.sub_self,List.getElem?_cons_zero,live,Option.some.injEq] at ho
   exact .inr ⟨rfl,ho.symm⟩
 have apA: ∀b,dV ρ hp w b->dV wI (ai Hs) w b/\ w.heap[b]? =w.heap[b]? :=fun b hb=>by
  refine ⟨⟨hb.1,?_⟩,rfl⟩
  rintro (⟨m,h1,h2⟩|⟨m,S,h1,h2⟩)
  ·obtain ⟨o,ho⟩:=Option.isSome_iff_exists.1 h1
   rcases JN m o ho with ⟨h3,h4⟩|⟨rfl,rfl⟩
   ·rw [ff m h3] at h2
    exact hb.2 (.inl ⟨m,by simp [h4],h2⟩)
   ·simp [wI,bA] at h2
  ·rcases JN m _ h1 with ⟨h3,h4⟩|⟨rfl,e⟩
   ·exact hb.2 (.inr ⟨m,S,h4,h2⟩)
   ·cases e
 have xX:St av W wI (· <Hs.length) (ai Hs) w:=by
  refine ⟨hst.fr,fun m o ho=> ?_,fun m o ho=> ?_,fun m m' b hm hm' gy dR=> ?_,fun m b hm hb=> ?_,fun b ⟨m,S,h1,h2⟩=> ?_,fun m o ho=> ?_⟩
  rotate_right
  ·rcases JN m o ho with ⟨h1,h2⟩|⟨rfl,rfl⟩
   ·rw [ff m h1];exact hst.wK m o h2
   ·exact .inr (by simp [wI,bA])
  rotate_right
  ·rcases JN m _ h1 with ⟨_,h4⟩|⟨_,e⟩
   ·obtain ⟨h5,h6⟩:=hst.ru b ⟨m,S,h4,h2⟩
    refine ⟨h5,fun ⟨n,h7,h8⟩=> ?_⟩
    obtain ⟨o,ho⟩:=Option.isSome_iff_exists.1 h7
    rcases JN n o ho with ⟨h9,h10⟩|⟨rfl,rfl⟩
    ·rw [ff n h9] at h8
     exact h6 ⟨n,by simp [h10],h8⟩
    ·simp [wI,bA] at h8
   ·cases e
  ·rcases JN m o ho with ⟨h1,h2⟩|⟨rfl,rfl⟩
   ·have hk:=hst.kn m o h2
    exact cx (Kn:=(· <nm)) (hst.at_ m o h2) ff h1 hk.2 apA (fun _ _ h=>h) fun _ _=>rfl
   ·exact ⟨by simp [wI,bA],ff⟩
  ·rcases JN m o ho with ⟨h1,h2⟩|⟨rfl,rfl⟩
   ·exact ⟨by rw [h3l];omega,aD.aT (fun i hi=>by rw [h3l];omega) o (hst.kn m o h2).2⟩
   ·exact ⟨by rw [h3l];omega,fun i hi=>by rw [h3l];omega⟩
  ·obtain ⟨o,ho⟩:=Option.isSome_iff_exists.1 hm
   obtain ⟨o',FN⟩:=Option.isSome_iff_exists.1 hm'
   rcases JN m o ho with ⟨h1,h2⟩|⟨rfl,rfl⟩
   ·rcases JN m' o' FN with ⟨h3,h4⟩|⟨rfl,rfl⟩
    ·rw [ff m h1] at gy;rw [ff m' h3] at dR
     exact hst.dU m m' b (by simp [h2]) (by simp [h4]) gy dR
    ·simp [wI,bA] at dR
   ·simp [wI,bA] at gy
  ·obtain ⟨o,ho⟩:=Option.isSome_iff_exists.1 hm
   rcases JN m o ho with ⟨h1,h2⟩|⟨rfl,rfl⟩
   ·rw [ff m h1] at hb
    exact hst.lC m b (by simp [h2]) hb
   ·simp [wI,bA] at hb
 have au9: ∀t,bY BI t≠ .dead->r.tmps.getD t undef=(bY BI t).ae wI:=fun t ht=>by
  rw [htm t ht]
  refine (AV.bu (Kn:=(· <n0)) (fun i hi=> ?_) _ (htk t)).symm
  rw [ff i (by omega),arP i (by omega)]
 have ah1:args.map (AV.ae ρ)=args.map (AV.ae wI):=List.map_congr_left fun x hx=>(AV.bu (Kn:=(· <nm)) ff x (hargs x hx)).symm
 obtain ⟨hs1,hs2⟩:=ME wI ps.toList BI args r.tmps hts au9
 have aus:Ki av.z W ⟨El BI ps.toList args,Hs⟩ wI {tmps:=(r.params.zip (args.map (AV.ae ρ)).toArray).foldl (fun tmps (x:Tmp×Value)=>tmps.setIfInBounds x.1 x.2) r.tmps,defers:= []} w:=by
  refine ⟨[],List.nodup_nil,fun D hD=>absurd hD (by simp),⟨fun t ht=> ?_,?_,rfl,fun t=> ?_,xX.z⟩⟩
  ·dsimp only
   rw [hr.2.2.1,ah1,Pj]
   exact hs2 t ht
  ·dsimp only
   rw [hr.2.2.1,ah1,Pj,Em]
   exact hs1
  ·refine Xl _ _ _ (fun t=>AV.aT (fun i hi=> ?_) _ (htk t)) (fun v hv=>AV.aT (fun i hi=> ?_) _ (hargs v hv)) t<;>(dsimp only;rw [h3l];omega)
 refine roundIn_of_wpIn trivial ?_
 refine wpIn_mono (ha av.z W (some l) m hX.z (.inr hra) _ _ (h ρ) wI _ w aus) ?_
 rintro e a1 w1 ⟨mE,ρ',hk1,cN⟩
 cases e<;>try exact hk1.elim
 obtain ⟨hq1,hk1⟩:=dy hk1
 obtain ⟨hq0,hk1⟩:=LI hk1
 obtain ⟨ds1,cN⟩:=cN
 have auq: ∀i,i<nm->ρ' i=ρ i:=(cN.aX.st.at_ _ _ hq1).2
 have hl1:(ρ' n0).blk=some l:=by rw [auq n0 (by omega)];exact hln
 obtain ⟨l1,ar7,aon⟩:=cN.aX.st.at_ _ _ hq0
 rw [hl1] at ar7;cases ar7
 refine ⟨_,run_beginRound aon rfl,?_⟩
 have amG:=cN.aX.st.acw hq0 hl1 .busy none
 have hD: ∀D∈ds1,D≠l:=by
  rintro D hD rfl
  have:=(cN.dd D hD).2
  rw [aon] at this;cases this
 have aut:Ki av.z W ⟨mE.tmps,mE.heap.set n0 (.loop r .busy none)⟩ ρ' a1 (w1.putObj l (.loop {r with state:= .busy,pending:=none})):=by
  refine ⟨ds1,cN.nd,fun D hd=>⟨(cN.dd D hd).1,?_⟩,⟨cN.aX.tmps,cN.aX.size,cN.aX.defers,fun t=> ?_,?_⟩⟩
  ·rw [World.putObj_heap_other (hD D hd)];exact (cN.dd D hd).2
  ·dsimp only;rw [AF];exact cN.aX.kn t
  ·dsimp only;rw [AF];exact amG
 refine wpIn_mono (hb av.z W (some l) m hX.z (.inr hrb) _ _ hk1 ρ' _ _ aut) ?_
 rintro e a2 w2 ⟨tC,ρ4,hk2,ds2,fc⟩
 have fin: ∀jump:Option Code,yH hp nm n0 r ρ tC.heap jump k-> ∃v w',(Instr.endRound l jump).run P w2= .ok v w'/\ ∃r ρ',k r/\ (∀p∈r.writes,hp p.1≠none)/\ Ending.returned v= .returned (r.val.ae ρ')/\ (∀m,m<nm->ρ' m=ρ m)/\ r.val.ok (oI (· <nm) nm r)/\ St av W ρ' (oI (· <nm) nm r) (bV r nm hp) w':=by
  intro jump hk
  unfold yH at hk
  obtain ⟨hb0,hk⟩:=VW hk
  obtain ⟨gy,hk⟩:=dy hk
  have arO: ∀i,i<nm->ρ4 i=ρ i:=(fc.aX.st.at_ _ _ gy).2
  have Lw:(ρ4 n0).blk=some l:=by rw [arO n0 (by omega)];exact hln
  obtain ⟨l2,ar8,asl⟩:=fc.aX.st.at_ _ _ hb0
  rw [Lw] at ar8;cases ar8
  refine ⟨_,_,run_endRound jump asl,_,ρ4,hk,fun p hp=>Dn hp,rfl,arO,trivial,?_⟩
  have hlen:=e7 gy
  have aso:=fc.aX.st.acw hb0 Lw (if jump.isNone then .ready else .done) jump
  obtain ⟨e1,e2⟩:=KD (hp:=hp) (nm:=nm) (v:=bG jump.isNone) (h:=tC.heap.set n0 (S2 r jump)) (by rw [AF];exact hlen)
  unfold aob
  rw [e2,AF]
  have e3:S2 r jump= .loop r (if jump.isNone then .ready else .done) jump:=by cases jump<;>rfl
  rw [e3] at e1 ⊢
  refine (St.unz aso).less fun i o ho=> ?_
  have:=e1 i o ho (Ps i) hkl
  exact ⟨this,aso.kn i o this⟩
 cases e with
 |normal=>exact fin none hk2
 |ret=>exact fin (some .ret) hk2
 |exit id=>exact fin (some (.exit id)) hk2
 |_=>exact hk2.elim
theorem rG (hT:di P ctx.tt) (hC:e8 P ctx) (hm:P.follows .mixedOrders=true): ∀(c:Code),tD P ctx c->Snd P ctx c:=by
 intro c
 induction c with
 |skip=>intro _ av W ro n hX _ st K h ρ a w aQ;exact wpIn_skip ⟨st,ρ,h,aQ⟩
 |region id ops draw=>
  intro _ av W ro n hX _ st K h ρ a w ⟨ds,aQ⟩
  have hX':=hX.v5 aQ.aX.st
  cases draw with
  |false=>
   have h:oM ctx ops ops.toList [] st [] fun st' _=>K .normal st':=h
   exact wpIn_region_list (kM hT hC hX' ops ops.toList [] st [] _ h (fun st' _ ρ' a' w' hk dr=>⟨st',ρ',hk,ds,aQ.back dr⟩) ρ a w aQ.base)
  |true=>
   refine wpIn_mono (abU hT hC.sp hm hX' ro n id ops st (K .normal) h ρ a w aQ.base) ?_
   rintro e a' w' ⟨st',ρ',⟨rfl,hk⟩,dr⟩
   exact ⟨st',ρ',hk,ds,aQ.back dr⟩
 |seq x y ihx ihy=>
  intro oL av W ro n hX hro st K h ρ a w aQ
  have apN:(ro=none/\ av.bd= [])\/ mZ x=true:=hro.imp id fun h=>by simp only [mZ,Bool.and_eq_true] at h;exact h.1
  have apO:(ro=none/\ av.bd= [])\/ mZ y=true:=hro.imp id fun h=>by simp only [mZ,Bool.and_eq_true] at h;exact h.2
  refine wpIn_seq (wpIn_mono (ihx oL.1 av W ro n hX apN st _ h ρ a w aQ) ?_)
  rintro e a' w' ⟨st',ρ',hk,dr⟩
  cases e with
  |normal=>exact ihy oL.2 av W ro n hX apO st' K hk ρ' a' w' dr
  |_=>exact ⟨st',ρ',hk,dr⟩
 |cond c x y ihx ihy=>
  intro oL av W ro n hX hro st K h ρ a w aQ
  have apN:(ro=none/\ av.bd= [])\/ mZ x=true:=hro.imp id fun h=>by simp only [mZ,Bool.and_eq_true] at h;exact h.1
  have apO:(ro=none/\ av.bd= [])\/ mZ y=true:=hro.imp id fun h=>by simp only [mZ,Bool.and_eq_true] at h;exact h.2
  unfold cJ at h
  split at h
  ·rename_i t hc
   have:=aQ.eval c (by rw [hc];simp)
   rw [hc] at this
   exact wpIn_cond_split this (fun ht=>ihx oL.1 av W ro n hX apN st K (by subst ht;exact h) ρ a w aQ) (fun ht=>ihy oL.2 av W ro n hX apO st K (by subst ht;exact h) ρ a w aQ)
  ·exact h.elim
 |block id c ih=>
  intro oL av W ro n hX hro st K h ρ a w aQ
  unfold cJ at h
  unfold tD at oL
  split at h
  ·rename_i sp hsp
   rw [hsp] at oL
   exact oL av W ro n hX hro st K h ρ a w aQ
  ·rename_i hsp
   rw [hsp] at oL
   exact xg (ih oL av W ro n hX hro st _ h ρ a w aQ)
 |loop c ih=>
  intro oL av W ro n hX apM st K h ρ a w aQ
  obtain ⟨I,⟨m,stw,hw0,h0⟩,hr⟩:=h
  intro b k cs hro hb hroom
  have key: ∀m a w,(∃st ρ,I m st/\ Ki av W st ρ a w)-> ∃e a' w',Post av W K e a' w'/\ ArrivesIn (Machine.fenced P (fw ro)) P (lone (b.atR a (.code c:: .inLoop c::k)) cs w) b k cs e a' w':=by
   intro m
   induction m using Nat.strongRecOn with
   |_ m ihm=>
    rintro a w ⟨st,ρ,hI,aQ⟩
    obtain ⟨e,a1,w1,⟨mE,aR,hk,cN⟩,jh⟩:=ih oL av W ro n hX apM st _ (hr m st hI) ρ a w aQ b (.inLoop c::k) cs hro hb hroom
    cases e with
    |normal=>
     obtain ⟨m',st',hm,hw,hI'⟩:=hk
     obtain ⟨jZ,fc⟩:=cN.weak hw
     obtain ⟨e2,a2,w2,hq2,Lk⟩:=ihm m' hm a1 w1 ⟨st',jZ,hI',fc⟩
     exact ⟨e2,a2,w2,hq2,.of_steps (StepsIn.trans jh (.one (fenced_calm hb hroom rfl) stepR_inLoop)) Lk⟩
    |exit id=>exact ⟨_,a1,w1,⟨mE,aR,hk,cN⟩,.pass (x:= .inLoop c) rfl (fun _ _=> .inl (by simp)) jh⟩
    |goto l=>exact ⟨_,a1,w1,⟨mE,aR,hk,cN⟩,.pass (x:= .inLoop c) rfl (fun _ _=> .inl (by simp)) jh⟩
    |ret=>exact ⟨_,a1,w1,⟨mE,aR,hk,cN⟩,.pass (x:= .inLoop c) rfl (fun _ _=> .inl (by simp)) jh⟩
    |panic ch=>exact ⟨_,a1,w1,⟨mE,aR,hk,cN⟩,.pass (x:= .inLoop c) rfl (fun _ _=> .inl (by simp)) jh⟩
    |outgrown=>exact ⟨_,a1,w1,⟨mE,aR,hk,cN⟩,.pass (x:= .inLoop c) rfl (fun _ _=> .inl (by simp)) jh⟩
  obtain ⟨aW,Ji⟩:=aQ.weak hw0
  obtain ⟨e,a',w',hq,jh⟩:=key m a w ⟨stw,aW,h0,Ji⟩
  exact ⟨e,a',w',hq,.of_steps (.one (fenced_calm hb hroom rfl) stepR_loop) jh⟩
 |exit id=>intro _ av W ro n hX _ st K h ρ a w aQ;exact wpIn_exit ⟨st,ρ,h,aQ⟩
 |ret=>intro _ av W ro n hX _ st K h ρ a w aQ;exact wpIn_ret ⟨st,ρ,h,aQ⟩
 |rangeFunc g ps assign body SV SW=>
  intro oL av W ro n hX hro st K h ρ a w ⟨ds,aQ⟩
  obtain ⟨hro,hbd⟩:=hro.resolve_right (by simp [mZ])
  subst hro
  unfold cJ at h
  split at h
  rotate_left
  ·exact h.elim
  rename_i hrf
  simp only [Bool.and_eq_true] at hrf
  split at h
  rotate_left
  ·exact h.elim
  rename_i f cap hg
  split at h
  rotate_left
  ·exact h.elim
  rename_i ZK ail
  obtain ⟨B5,ail⟩:=hC.its f ZK ail
  have ny:=aQ.aX.eval g (by rw [hg];simp)
  rw [hg] at ny
  have hgk:=aQ.aX.Sr g
  rw [hg] at hgk
  obtain ⟨N,hN⟩: ∃N,N=st.heap.length:=⟨_,rfl⟩
  refine wpIn_rangeFunc fun fn _=> ?_
  obtain ⟨r,VP⟩: ∃r:Loop,r= {state:= .ready,pending:=none,fn:=fn,tmps:=a.tmps,params:=ps,assign:=assign,body:=body,defers:=w.heap.size} :=⟨_,rfl⟩
  obtain ⟨W1,hW1⟩: ∃W1,W1=(w.alloc (.deferred (some []))).alloc (.loop r):=⟨_,rfl⟩
  have hD1:W1.heap[w.heap.size]? =some (.deferred (some [])):=by
   rw [hW1];exact (Below.heap_alloc _ _ _ (by simp)).trans (World.alloc_heap_new w _)
  have hL1:W1.heap[w.heap.size+1]? =some (.loop r):=by
   rw [hW1];have:=World.alloc_heap_new (w.alloc (.deferred (some []))) (.loop r);rwa [World.size_alloc] at this
  have Pv: ∀b,b<w.heap.size->W1.heap[b]? =w.heap[b]? :=fun b hb=>by
   rw [hW1];exact (Below.heap_alloc _ _ _ (by simp;omega)).trans (Below.heap_alloc _ _ _ hb)
  have hS1:W1.heap.size=w.heap.size+2:=by rw [hW1];simp
  let jZ:Env:=fun m=>if m=N then {blk:=some (w.heap.size+1)} else if m=N+1 then {} else ρ m
  let A3:=st.heap++ [aD.loop r .ready none,.cg jZ (N+1)]
  have Lw:A3.length=N+2:=by simp [A3,hN]
  have xV: ∀m,m<N->jZ m=ρ m:=fun m hm=>by simp only [jZ];rw [if_neg (by omega),if_neg (by omega)]
  have Jm:jZ N= {blk:=some (w.heap.size+1)} :=by simp [jZ]
  have hp2:jZ (N+1)= {} :=by simp [jZ]
  have rS: ∀m o,ai A3 m=some o->(m<N/\ ai st.heap m=some o)\/ (m=N/\ o= .loop r .ready none)\/ (m=N+1/\ o= .cg jZ (N+1)):=by
   intro m o ho
   have hlt:=e7 ho
   rw [bz] at ho
   rcases Nat.lt_or_ge m N with h1|h1
   ·rw [List.getElem?_append_left (by omega),←bz] at ho
    exact .inl ⟨h1,ho⟩
   ·rw [List.getElem?_append_right (by omega),←hN] at ho
    have:m=N\/ m=N+1:=by omega
    rcases this with rfl|rfl
    ·simp only [Nat.sub_self,List.getElem?_cons_zero,live,Option.some.injEq] at ho
     exact .inr (.inl ⟨rfl,ho.symm⟩)
    ·simp only [show N+1- N=1 by omega,List.getElem?_cons_succ,List.getElem?_cons_zero,live,Option.some.injEq] at ho
     exact .inr (.inr ⟨rfl,ho.symm⟩)
  have auE:Fr av W W1:=by
   rw [hW1];exact (aQ.aX.st.fr.alloc _).alloc _
  have apF: ∀m o b,ai st.heap m=some o->(ρ m).has b->b<w.heap.size:=fun m o b ho hb=>aQ.aX.st.lt m b (by rw [ho];rfl) hb
  have Gi:St av W jZ (· <A3.length) (ai A3) W1:=by
   have hre:({r with state:= .ready,pending:=none} :Loop)=r:=by rw [VP]
   have VJ: ∀b,dV ρ (ai st.heap) w b->dV jZ (ai A3) W1 b/\ W1.heap[b]? =w.heap[b]? :=fun b hb=>by
    refine ⟨⟨hb.1.same (Pv b hb.1.lt),?_⟩,Pv b hb.1.lt⟩
    rintro (⟨m,h1,h2⟩|⟨m,S,h1,h2⟩)
    ·obtain ⟨o,ho⟩:=Option.isSome_iff_exists.1 h1
     rcases rS m o ho with ⟨h3,h4⟩|⟨rfl,rfl⟩|⟨rfl,rfl⟩
     ·rw [xV m h3] at h2
      exact hb.2 (.inl ⟨m,by simp [h4],h2⟩)
     ·rw [Jm] at h2;cases j6.1 h2
      have:=hb.1.lt;omega
     ·rw [hp2] at h2;cases j6.1 h2
    ·rcases rS m _ h1 with ⟨h3,h4⟩|⟨rfl,e⟩|⟨rfl,e⟩
     ·exact hb.2 (.inr ⟨m,S,h4,h2⟩)
     ·cases e
     ·cases e
   refine ⟨auE,fun m o ho=> ?_,fun m o ho=> ?_,fun m m' b hm hm' gy dR=> ?_,fun m b hm hb=> ?_,fun b ⟨m,S,h1,h2⟩=> ?_,fun m o ho=> ?_⟩
   rotate_right
   ·rcases rS m o ho with ⟨h1,h2⟩|⟨rfl,rfl⟩|⟨rfl,rfl⟩
    ·rw [xV m h1];exact aQ.aX.st.wK m o h2
    ·exact .inr (by rw [Jm])
    ·exact .inr (by rw [hp2])
   rotate_right
   ·rcases rS m _ h1 with ⟨_,h4⟩|⟨_,e⟩|⟨_,e⟩
    ·obtain ⟨h5,h6⟩:=aQ.aX.st.ru b ⟨m,S,h4,h2⟩
     refine ⟨by rw [hS1];omega,fun ⟨n,h7,h8⟩=> ?_⟩
     obtain ⟨o,ho⟩:=Option.isSome_iff_exists.1 h7
     rcases rS n o ho with ⟨h9,h10⟩|⟨rfl,rfl⟩|⟨rfl,rfl⟩
     ·rw [xV n h9] at h8
      exact h6 ⟨n,by simp [h10],h8⟩
     ·rw [Jm] at h8;cases j6.1 h8;omega
     ·rw [hp2] at h8;cases j6.1 h8
    ·cases e
    ·cases e
   ·rcases rS m o ho with ⟨h1,h2⟩|⟨rfl,rfl⟩|⟨rfl,rfl⟩
    ·have hk:=aQ.aX.st.kn m o h2
     exact cx (Kn:=(· <st.heap.length)) (aQ.aX.st.at_ m o h2) (fun i hi=>xV i (by omega)) (by omega) hk.2 VJ (fun _ _ h=>h) fun b hb=>Pv b (apF m o b h2 hb)
    ·exact ⟨w.heap.size+1,by rw [Jm],by rw [hre];exact hL1⟩
    ·exact ⟨by rw [hp2],fun _ _=>rfl⟩
   ·rcases rS m o ho with ⟨h1,h2⟩|⟨rfl,rfl⟩|⟨rfl,rfl⟩
    ·exact ⟨by omega,aD.aT (fun i hi=>by omega) o (aQ.aX.st.kn m o h2).2⟩
    ·exact ⟨by omega,trivial⟩
    ·exact ⟨by omega,fun i hi=>by omega⟩
   ·obtain ⟨o,ho⟩:=Option.isSome_iff_exists.1 hm
    obtain ⟨o',FN⟩:=Option.isSome_iff_exists.1 hm'
    rcases rS m o ho with ⟨h1,h2⟩|⟨rfl,rfl⟩|⟨rfl,rfl⟩
    ·rw [xV m h1] at gy
     have hlt:=apF m o b h2 gy
     rcases rS m' o' FN with ⟨h3,h4⟩|⟨rfl,rfl⟩|⟨rfl,rfl⟩
     ·rw [xV m' h3] at dR
      exact aQ.aX.st.dU m m' b (by simp [h2]) (by simp [h4]) gy dR
     ·rw [Jm] at dR;cases j6.1 dR;omega
     ·rw [hp2] at dR;cases j6.1 dR
    ·rw [Jm] at gy;cases j6.1 gy
     rcases rS m' o' FN with ⟨h3,h4⟩|⟨rfl,rfl⟩|⟨rfl,rfl⟩
     ·rw [xV m' h3] at dR
      have:=apF m' o' _ h4 dR;omega
     ·rfl
     ·rw [hp2] at dR;cases j6.1 dR
    ·rw [hp2] at gy;cases j6.1 gy
   ·obtain ⟨o,ho⟩:=Option.isSome_iff_exists.1 hm
    rcases rS m o ho with ⟨h1,h2⟩|⟨rfl,rfl⟩|⟨rfl,rfl⟩
    ·rw [xV m h1] at hb
     exact aQ.aX.st.lC m b (by simp [h2]) hb
    ·rw [Jm] at hb;cases j6.1 hb
     have:=aQ.aX.st.fr.size
     exact .inl (by omega)
    ·rw [hp2] at hb;cases j6.1 hb
  have xX:=Gi.v5 (N:=A3.length) fun m o ho=>⟨e7 ho,(Gi.kn m o ho).2⟩
  have hX3:=hX.v5 Gi
  have hys:=ajV (P:=P) (ctx:=ctx) (SV oL.1) (SW oL.2) hrf.1 hrf.2 (ps:=ps) (BI:=st.tmps) (n0:=N) (l:=w.heap.size+1) (jZ:=jZ) (r:=r) (by rw [Jm]) (by rw [VP];exact ⟨rfl,rfl,rfl,rfl,rfl⟩)
   (by rw [VP];exact aQ.aX.size) (fun t ht=>by
    rw [VP]
    show a.tmps.getD t undef=_
    rw [aQ.aX.tmps t ht]
    exact (AV.bu (Kn:=(· <st.heap.length)) (fun i hi=>xV i (by omega)) _ (aQ.aX.kn t)).symm) (fun t=>by have:=aQ.aX.kn t;rwa [<- hN] at this)
  have hcap: ∀x∈cap.map DN,x.ok (· <st.heap.length):=fun x hx=>by
   obtain ⟨q,hq,rfl⟩:=List.mem_map.1 hx
   exact Wk (hgk q hq)
  have xL:=ail _ _ _ _ (h r jZ) (by rw [<- hN];exact hys) (lb av W jZ (ai A3) W1) W1 jZ W1 hX3 (by
    intro x hx
    rcases List.mem_cons.1 hx with rfl|hx
    ·show st.heap.length<_
     simp
    ·exact AV.aT (fun i hi=>by simp;omega) x (hcap x hx)) (by
    have:st.heap++ [aD.loop r .ready none,.cg jZ (st.heap.length+1)]=A3:=by simp only [A3,hN]
    rw [this];exact xX)
  refine ⟨w.heap.size+1,[rY w.heap.size],W1,{target:= .fn (.func f) (cap.map (Ref.ae ρ)).toArray,args:= #[.func (.yield (w.heap.size+1)) #[] #[]]},W1,f,#[.func (.yield (w.heap.size+1)) #[] #[]]++(cap.map (Ref.ae ρ)).toArray,W1,?_,?_,fun _ _=>trivial,?_,fun h=>by simp [fw] at h,uV ?_⟩
  ·have:=run_enterLoop_outer (P:=P) (w:=w) fn a.tmps ps assign body
   rw [hW1,VP];exact this
  ·simp only [resolve,ny,AV.ae,A0.ae,Cell.ae]
   simp [go_sem]
  ·simp only [invoke,Sem.run_bind,Sem.run_pure,Result.andThen_ok]
   have:=B5 (#[.func (.yield (w.heap.size+1)) #[] #[]]++(cap.map (Ref.ae ρ)).toArray) W1
   simpa using this
  have apq:(((AV.v (.one (.N8 st.heap.length))::cap.map DN).map (AV.ae jZ)).toArray:Array Value)= #[.func (.yield (w.heap.size+1)) #[] #[]]++(cap.map (Ref.ae ρ)).toArray:=by
   apply Array.ext'
   simp only [List.map_cons,List.map_map,AV.ae,A0.ae,Cell.ae,<- hN,Jm,Array.toList_append,List.cons_append,List.nil_append,List.cons.injEq,true_and]
   refine List.map_congr_left fun q hq=> ?_
   show (DN q).ae jZ=q.ae ρ
   rw [vw]
   exact Ref.bu (Kn:=(· <st.heap.length)) (fun i hi=>xV i (by omega)) q (hgk q hq)
  rw [apq] at xL
  refine xL.mono ?_
  rintro e w' ⟨tC,ρ',v,rfl,_,hR,amH⟩
  unfold acv at hR
  obtain ⟨hpe,hR⟩:=dy hR
  rw [<- hN] at hpe hR
  have sP: ∀i,i<N+1->ρ' i=jZ i:=(amH.at_ _ _ hpe).2
  have hlN:(ρ' N).blk=some (w.heap.size+1):=by rw [sP N (by omega),Jm]
  have awb:=e7 hpe
  have behind: ∀(r':Loop) (s:LoopState) (j:Option Code),ai tC.heap N=some (.loop r' s j)->s≠ .busy->
    (Instr.endLoop (w.heap.size+1)).run P w'= .ok j (w'.putObj (w.heap.size+1) (.loop {r' with state:= .exhausted,pending:=j}))/\
    Ki av W ⟨st.tmps,(tC.heap.set N .gone).set (N+1) .gone⟩ ρ' {a with defers:= [rY w.heap.size]++a.defers} (w'.putObj (w.heap.size+1) (.loop {r' with state:= .exhausted,pending:=j})):=by
   intro r' s j hj hs
   obtain ⟨l,hl,Jo⟩:=amH.at_ _ _ hj
   rw [hlN] at hl;cases hl
   refine ⟨run_endLoop Jo hs,w.heap.size::ds,?_,?_,?_⟩
   ·refine List.nodup_cons.2 ⟨fun hm=> ?_,aQ.nd⟩
    have:=(Array.getElem?_eq_some_iff.1 (aQ.dd _ hm).2).1
    omega
   ·intro D hD
    have hDW:W.heap.size<=D/\ W1.heap[D]? =some (.deferred (some [])):=by
     rcases List.mem_cons.1 hD with rfl|hD
     ·exact ⟨aQ.aX.st.fr.size,hD1⟩
     ·have h1:=aQ.dd D hD
      exact ⟨h1.1,by rw [Pv D (Array.getElem?_eq_some_iff.1 h1.2).1];exact h1.2⟩
    refine ⟨hDW.1,?_⟩
    have hne:D≠w.heap.size+1:=by
     rintro rfl
     have:=hDW.2;rw [hL1] at this;cases this
    rw [World.putObj_heap_other hne,amH.fr.block D (Array.getElem?_eq_some_iff.1 hDW.2).1 (acp Gi hDW.2)]
    exact hDW.2
   ·have au7:=((Gi.akz amH).ai6 hj hlN (.loop {r' with state:= .exhausted,pending:=j})).ahn (N+1)
    refine ⟨fun t ht=> ?_,aQ.aX.size,?_,fun t=> ?_,au7⟩
    ·have h1:=aQ.aX.tmps t ht
     rw [show ({a with defers:= [rY w.heap.size]++a.defers} :Act).tmps=a.tmps from rfl,h1]
     exact (AV.bu (Kn:=(· <st.heap.length)) (fun i hi=>by rw [sP i (by omega),xV i (by omega)]) _ (aQ.aX.kn t)).symm
    ·simp [aQ.aX.defers]
    ·refine AV.aT (fun i hi=> ?_) _ (aQ.aX.kn t)
     rw [AF,AF];omega
  split at hR
  ·rename_i r' hj
   obtain ⟨h1,h2⟩:=behind _ _ _ hj (by simp)
   exact ⟨_,_,h1,_,ρ',hR,h2⟩
  ·rename_i r' hj
   obtain ⟨h1,h2⟩:=behind _ _ _ hj (by simp)
   exact ⟨_,_,h1,wpIn_ret ⟨_,ρ',hR,h2⟩⟩
  ·rename_i r' id hj
   obtain ⟨h1,h2⟩:=behind _ _ _ hj (by simp)
   exact ⟨_,_,h1,wpIn_exit ⟨_,ρ',hR,h2⟩⟩
  ·exact hR.elim
 |scope=>intro _ av W ro n hX _ st K h;exact h.elim
 |label=>intro _ av W ro n hX _ st K h;exact h.elim
 |goto=>intro _ av W ro n hX _ st K h;exact h.elim
 |refuse=>intro _ av W ro n hX _ st K h;exact h.elim
end
end Go.Ev
namespace Go.Ev
open Go.RowKit
section
variable {P:Program} {ctx:Ctx} {av:fG} {W:World} {df:List Deferred}
theorem af8 (hT:di P ctx.tt) (hC:e8 P ctx) (hm:P.follows .mixedOrders=true) {ro:Option Nat} {n:Nat} (c:Code) (hX:uR av W ctx.X) (apM:(ro=none/\ av.bd= [])\/ mZ c=true) (oL:tD P ctx c) (N:Nat) (st:AS) (K:Exit->AS->Prop) (h:G3 ctx c N st K):
  ∀ρ a w,Ki av W st ρ a w->(Code.loop c).wpIn (fw ro) n P (Post av W K) a w:=by
 intro ρ a w aQ b k cs hro hb hroom
 have key: ∀N st ρ a w,G3 ctx c N st K->Ki av W st ρ a w-> ∃e a' w',Post av W K e a' w'/\ ArrivesIn (Machine.fenced P (fw ro)) P (lone (b.atR a (.code c:: .inLoop c::k)) cs w) b k cs e a' w':=by
  intro N
  induction N with
  |zero=>intro st ρ a w h;exact h.elim
  |succ N ih=>
   intro st ρ a w h aQ
   obtain ⟨e,a1,w1,⟨mE,aR,hk,cN⟩,jh⟩:=rG hT hC hm c oL av W ro n hX apM st _ h ρ a w aQ b (.inLoop c::k) cs hro hb hroom
   cases e with
   |normal=>
    obtain ⟨e2,a2,w2,hq2,Lk⟩:=ih mE aR a1 w1 hk cN
    exact ⟨e2,a2,w2,hq2,.of_steps (StepsIn.trans jh (.one (fenced_calm hb hroom rfl) stepR_inLoop)) Lk⟩
   |exit id=>exact ⟨_,a1,w1,⟨mE,aR,hk,cN⟩,.pass (x:= .inLoop c) rfl (fun _ _=> .inl (by simp)) jh⟩
   |goto l=>exact ⟨_,a1,w1,⟨mE,aR,hk,cN⟩,.pass (x:= .inLoop c) rfl (fun _ _=> .inl (by simp)) jh⟩
   |ret=>exact ⟨_,a1,w1,⟨mE,aR,hk,cN⟩,.pass (x:= .inLoop c) rfl (fun _ _=> .inl (by simp)) jh⟩
   |panic ch=>exact ⟨_,a1,w1,⟨mE,aR,hk,cN⟩,.pass (x:= .inLoop c) rfl (fun _ _=> .inl (by simp)) jh⟩
   |outgrown=>exact ⟨_,a1,w1,⟨mE,aR,hk,cN⟩,.pass (x:= .inLoop c) rfl (fun _ _=> .inl (by simp)) jh⟩
 obtain ⟨e,a',w',hq,jh⟩:=key N st ρ a w h aQ
 exact ⟨e,a',w',hq,.of_steps (.one (fenced_calm hb hroom rfl) stepR_loop) jh⟩
def vZ (tmps:Array Value):ResultVar->Sem Value
 | .tmp t=>pure (tmps.getD t undef)
 | .cell a t=>do loadVar t (<- asAddr (tmps.getD a undef))
theorem Xi (hT:di P ctx.tt) {st:AS} {ρ:Env} {a:Act} {w:World} (aQ:mF av W df st ρ a w) {q:ResultVar} {v:A0} (h:T6 ctx st q=some v):
  (vZ a.tmps q).run P w= .ok (v.ae ρ) w/\ v.ok (· <st.heap.length):=by
 cases q with
 |tmp t=>
  simp only [T6] at h
  split at h
  ·rename_i x hx
   cases h
   have h1:=aQ.tmps t (by rw [hx];simp)
   have h2:=aQ.kn t
   rw [hx] at h1 h2
   exact ⟨by simp only [vZ,Sem.run_pure];rw [h1];rfl,h2⟩
  ·cases h
 |cell t ty=>
  simp only [T6] at h
  split at h
  ·rename_i n off i hx hi
   split at h
   ·rename_i cs e he
    have h1:=aQ.tmps t (by rw [hx];simp)
    rw [hx] at h1
    obtain ⟨b,hb,hh⟩:=aQ.st.at_ n _ he
    rw [ow hb] at h1
    have hok:=(aQ.st.kn n _ he).2
    have hld:=mc (P:=P) (rest:= []) (off:=off) hT hi (by simpa using hh)
    split at h
    ·rename_i ha
     split at h
     ·rename_i hl
      cases h
      refine ⟨?_,fun c hc=>hok c (List.mem_of_mem_drop (List.mem_of_mem_take hc))⟩
      have:=hld.1 ha (by simpa using hl)
      simp only [vZ,h1,asAddr,Sem.run_bind,Sem.run_pure,Result.andThen_ok,this,A0.ae,iP]
     ·cases h
    ·rename_i ha
     split at h
     ·rename_i c hc
      cases h
      refine ⟨?_,hok c (List.mem_of_getElem? hc)⟩
      have:=hld.2 (by simpa using ha) (c.ae ρ) (by simp [hc])
      simp only [vZ,h1,asAddr,Sem.run_bind,Sem.run_pure,Result.andThen_ok,this,A0.ae]
     ·cases h
   ·cases h
  ·cases h
theorem sD (hT:di P ctx.tt) {st:AS} {ρ:Env} {a:Act} {w:World} (aQ:mF av W df st ρ a w): ∀(qs:List ResultVar) (vs:List A0),GL ctx st qs=some vs->
  (qs.mapM (vZ a.tmps)).run P w= .ok (vs.map (A0.ae ρ)) w/\ ∀v∈vs,v.ok (· <st.heap.length)
 | [],vs,h=>by simp only [GL,Option.some.injEq] at h;subst h;simp
 |q::r,vs,h=>by
  simp only [GL] at h
  split at h
  ·rename_i v l h1 h2
   cases h
   obtain ⟨e1,k1⟩:=Xi hT aQ h1
   obtain ⟨e2,k2⟩:=sD hT aQ r l h2
   refine ⟨by simp [e1,e2],fun x hx=> ?_⟩
   rcases List.mem_cons.1 hx with rfl|hx
   ·exact k1
   ·exact k2 x hx
  ·cases h
theorem AA (hT:di P ctx.tt) {st:AS} {ρ:Env} {a:Act} {w:World} (aQ:mF av W df st ρ a w) {fn:Func} {R:AV->AS->Prop} (h:qX ctx fn st R):
  ∃v,(results fn a.tmps).run P w= .ok (v.ae ρ) w/\ v.ok (· <st.heap.length)/\ R v st:=by
 unfold qX at h
 have hrun: ∀vs,GL ctx st fn.results.toList=some vs->(results fn a.tmps).run P w= .ok (if h:(vs.map (A0.ae ρ)).toArray.size=1 then (vs.map (A0.ae ρ)).toArray[0] else .tuple (vs.map (A0.ae ρ)).toArray) w:=by
  intro vs hvs
  obtain ⟨e,_⟩:=sD hT aQ _ _ hvs
  have:(fn.results.mapM (vZ a.tmps)).run P w= .ok (vs.map (A0.ae ρ)).toArray w:=by
   rw [Array.mapM_eq_mapM_toList]
   simp only [Sem.run_map,e,Result.andThen_ok]
  have e2:results fn a.tmps=(do
    let vs<- fn.results.mapM (vZ a.tmps)
    pure (if h:vs.size=1 then vs[0] else .tuple vs):Sem Value):=by
   unfold results
   congr 2
  rw [e2]
  simp only [Sem.run_bind,this,Result.andThen_ok,Sem.run_pure]
 split at h
 ·rename_i v hv
  refine ⟨.v v,?_,(sD hT aQ _ _ hv).2 v (by simp),h⟩
  rw [hrun _ hv];rfl
 ·rename_i l hl hne
  refine ⟨.pT l,?_,(sD hT aQ _ _ hne).2,h⟩
  rw [hrun _ hne]
  have: ¬l.length=1:=by
   intro h1
   match l,h1 with
   | [x],_=>exact hl x rfl
  rw [dif_neg (by simpa using this)];rfl
 ·exact h.elim
theorem ND (ρ:Env) (args:List AV) (m t:Nat):(((args.map (AV.ae ρ)).toArray++Array.replicate (m- (args.map (AV.ae ρ)).toArray.size) undef).getD t undef)=(bY (args++List.replicate (m- args.length) ck) t).ae ρ:=by
 rw [rZ]
 simp only [Array.getD_eq_getD_getElem?,List.getD,Array.getElem?_append,List.size_toArray,List.length_map,List.getElem?_toArray,List.getElem?_map,List.getElem?_append,Array.getElem?_replicate,List.getElem?_replicate]
 by_cases h:t<args.length
 ·simp [h]
 ·simp only [h,if_false]
  split<;>rfl
theorem DA (hT:di P ctx.tt) {fn:Func} {R:AV->AS->Prop} {st:AS} {ρ:Env} {tm:Array Value} (h:qX ctx fn st R): ∀(ds df:List Nat) (w:World),df.Nodup->(∀D∈df,W.heap.size<=D/\ w.heap[D]? =some (.deferred (some [])))->
  mF av W (ds.map rY) st ρ {tmps:=tm,defers:=ds.map rY} w->
  LeavesInM (fw none) 0 P fn tm (fun e w'=> ∃v,e= .returned (v.ae ρ)/\ v.ok (· <st.heap.length)/\ R v st/\ St av W ρ (· <st.heap.length) (ai st.heap) w') (df.map rY) .returning w
 |ds,[],w,_,_,aQ=>by
  obtain ⟨v,hr,hok,hR⟩:=AA hT aQ h
  exact ⟨_,hr,v,rfl,hok,hR,aQ.st⟩
 |ds,D::df,w,hn,hd,aQ=>by
  have hD:=hd D (by simp)
  rw [List.nodup_cons] at hn
  refine ⟨by simp,.inl ⟨D,_,rfl,run_takeDeferred hD.2,DA hT h ds df _ hn.2 (fun D' hD'=> ?_) ?_⟩⟩
  ·have:=hd D' (by simp [hD'])
   exact ⟨this.1,by rw [World.putObj_heap_other (by rintro rfl;exact hn.1 hD')];exact this.2⟩
  ·refine ⟨aQ.tmps,aQ.size,aQ.defers,aQ.kn,aQ.st.put (.inl hD.1) (fun hc=> ?_) fun m p hp=> ?_⟩
   ·obtain ⟨cs,e,f,h2⟩:=hc
    rw [hD.2] at h2;cases h2
   have hk:=aQ.st.kn m p hp
   exact ⟨fun h1=>absurd hD.2 (L1 (aQ.st.at_ m p hp) h1 _),fun _=>hp,by simp [hp],hk.1,hk.2⟩
theorem Oe (hT:di P ctx.tt) (hC:e8 P ctx) (hX:uR av W ctx.X) (hm:P.follows .mixedOrders=true) {f:FuncId} {fn:Func} (hf:P.funcs[f]? =some fn) (oL: ∀c,fn.body=some c->tD P ctx c) {args:List AV} {heap:List aD} {R:AV->AS->Prop}
  (h:JD ctx fn args heap R) {ρ:Env} {w:World} (hargs: ∀x∈args,x.ok (· <heap.length)) (hst:St av W ρ (· <heap.length) (ai heap) w) (hbd:av.bd= []):
  Calls P f (args.map (AV.ae ρ)).toArray w fun e w'=> ∃st ρ' v,e= .returned (v.ae ρ')/\ v.ok (· <st.heap.length)/\ R v st/\ St av W ρ' (· <st.heap.length) (ai st.heap) w':=by
 unfold JD at h
 split at h
 ·rename_i c hb
  refine callsIn_wide.1 (callsIn_of_wp_marks (F:=fw none) (n:=0) hf hb trivial ?_ rfl)
  have aQ:Ki av W ⟨args++List.replicate (fn.ntmps- args.length) ck,heap⟩ ρ {tmps:=(args.map (AV.ae ρ)).toArray++Array.replicate (fn.ntmps- (args.map (AV.ae ρ)).toArray.size) undef,defers:= []} w:=by
   refine ⟨[],List.nodup_nil,fun D hD=>absurd hD (by simp),fun t _=>ND ρ args fn.ntmps t,by simp,by rw [hbd];rfl,fun t=> ?_,hst⟩
   dsimp only
   rw [rZ,List.getD,List.getElem?_append]
   split
   ·rename_i hl
    rw [List.getElem?_eq_getElem hl]
    exact hargs _ (List.getElem_mem hl)
   ·rw [List.getElem?_replicate];split<;>exact wF _
  have key: ∀st ρ' a' w',qX ctx fn st R->Ki av W st ρ' a' w'->LeavesInM (fw none) 0 P fn a'.tmps (fun e w'=> ∃st ρ' v,e= .returned (v.ae ρ')/\ v.ok (· <st.heap.length)/\ R v st/\ St av W ρ' (· <st.heap.length) (ai st.heap) w') a'.defers .returning w':=by
   rintro st ρ' a' w' hk ⟨ds,dr⟩
   have hdf:=dr.aX.defers
   rw [hbd,List.append_nil] at hdf
   have fc:mF av W (ds.map rY) st ρ' {tmps:=a'.tmps,defers:=ds.map rY} w':=⟨dr.aX.tmps,dr.aX.size,rfl,dr.aX.kn,dr.aX.st⟩
   have:=DA (P:=P) (tm:=a'.tmps) hT hk ds ds w' dr.nd dr.dd fc
   rw [hdf]
   have mono: ∀(l:List Nat) (w:World),LeavesInM (fw none) 0 P fn a'.tmps (fun e w'=> ∃v,e= .returned (v.ae ρ')/\ v.ok (· <st.heap.length)/\ R v st/\ St av W ρ' (· <st.heap.length) (ai st.heap) w') (l.map rY) .returning w->
     LeavesInM (fw none) 0 P fn a'.tmps (fun e w'=> ∃st ρ' v,e= .returned (v.ae ρ')/\ v.ok (· <st.heap.length)/\ R v st/\ St av W ρ' (· <st.heap.length) (ai st.heap) w') (l.map rY) .returning w:=by
    intro l
    induction l with
    |nil=>rintro w ⟨u,hr,v,h1,h2,h3,h4⟩;exact ⟨u,hr,st,ρ',v,h1,h2,h3,h4⟩
    |cons D l ih=>
     rintro w ⟨h1,h2⟩
     refine ⟨h1,?_⟩
     rcases h2 with ⟨r,w2,h3,h4,h5⟩|⟨_,fv,cap,f,args,h3,_⟩
     ·exact .inl ⟨r,w2,h3,h4,ih w2 h5⟩
     ·simp [rY] at h3
   exact mono ds w' this
  refine wpIn_mono (rG hT hC hm c (oL c hb) av W none 0 hX (.inl ⟨rfl,hbd⟩) _ _ h ρ _ w aQ) ?_
  rintro e a' w' ⟨st,ρ',hk,dr⟩
  cases e with
  |normal=>exact key st ρ' a' w' hk dr
  |ret=>exact key st ρ' a' w' hk dr
  |_=>exact hk.elim
 ·exact h.elim
theorem jN (hT:di P ctx.tt) (hC:e8 P ctx) (hX:uR av W ctx.X) (hm:P.follows .mixedOrders=true) {f:FuncId} {fn:Func} (hf:P.funcs[f]? =some fn) (oL: ∀c,fn.body=some c->tD P ctx c) {args:List AV} {heap:List aD} {R:AV->AS->Prop}
  (h:JD ctx fn args heap R) {ρ:Env} {w:World} (hargs: ∀x∈args,x.ok (· <heap.length)) (hst:St av W ρ (· <heap.length) (ai heap) w):
  Calls P f (args.map (AV.ae ρ)).toArray w fun e w'=> ∃st ρ' v,e= .returned (v.ae ρ')/\ v.ok (· <st.heap.length)/\ R v st/\ St av W ρ' (· <st.heap.length) (ai st.heap) w':=by
 refine (Oe (av:=av.z) hT hC hX.z hm hf oL h hargs hst.z rfl).mono ?_
 rintro e w' ⟨st,ρ',v,h1,h2,h3,h4⟩
 exact ⟨st,ρ',v,h1,h2,h3,h4.unz⟩
end
theorem Fr.acG {av:fG} {W w:World} (h:Fr A6 W w):Fr av W w:=⟨h.os,h.tape,h.output,h.size,fun k hk _=>h.block k hk id,h.Pd⟩
theorem St.called {av:fG} {W w w':World} {ρ:Env} {Kn:Nat->Prop} {Γ:HP} (h:St av W ρ Kn Γ w) (hf:Fr A6 w w'):St av W ρ Kn Γ w':=
 h.world (h.fr.trans hf.acG) fun b hb=>hf.block b hb id
end Go.Ev
