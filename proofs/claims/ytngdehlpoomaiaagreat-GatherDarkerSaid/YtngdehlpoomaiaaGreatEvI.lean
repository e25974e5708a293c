/- Code and functions, out of the condition 'codeE'. -/
import Derived.Test.YtngdehlpoomaiaaGreatEvM
noncomputable section
set_option linter.unusedSectionVars false
set_option linter.unusedVariables false
set_option linter.unusedSimpArgs false
namespace Go.Ev
open Go.RowKit
section
variable {P:Program} {ctx:Ctx} {aq:e8} {W:World}
def Snd (P:Program) (ctx:Ctx) (c:Code):Prop:= ∀aq W ro n,ru aq W ctx.X->((ro=none/\ aq.bd= [])\/ lz c=true)-> ∀st K,cJ ctx c st K-> ∀ρ a w,D6 aq W st ρ a w->c.wpIn (fw ro) n P (Post aq W K) a w
theorem St.Tl {aq:e8} {W:World} {ρ:Env} {h:List aF} {w:World} {n l:Nat} {r:Loop} {s:LoopState} {j:Option Code} (hst:St aq W ρ (· <h.length) (ai h) w) (hn:ai h n=some (.loop r s j)) (hl:(ρ n).blk=some l)
  (s':LoopState) (j':Option Code):St aq W ρ (· <h.length) (ai (h.set n (.loop r s' j'))) (w.putObj l (.loop {r with state:=s',pending:=j'})):=by
 have hlt:=eM hn
 have hw:l<w.heap.size:=FI (hst.at_ n _ hn) hl
 have hown:=hst.own n l (by simp [hn]) hl
 refine hst.put hown (fun hc=> ?_) fun m p hp=> ?_
 ·obtain ⟨b,hb,hh⟩:=hst.at_ n _ hn
  rw [hl] at hb;cases hb
  obtain ⟨cs,e,f,h2⟩:=hc
  rw [hh] at h2;cases h2
 rw [bu,List.getElem?_set] at hp
 by_cases e:n=m
 ·subst e
  rw [if_pos rfl,if_pos hlt] at hp
  cases hp
  exact ⟨fun _ _ _=>⟨l,hl,World.putObj_heap_same hw⟩,fun h=>absurd hl h,by simp [hn],hlt,trivial⟩
 ·rw [if_neg e,←bu] at hp
  have hk:=hst.kn m p hp
  exact ⟨fun h1=>absurd (hst.inj n m l (by simp [hn]) (by simp [hp]) hl h1) e,fun _=>hp,by simp [hp],hk.1,hk.2⟩
theorem St.ZP {aq:e8} {W:World} {ρ:Env} {h:List aF} {w:World} {n l:Nat} {r:Loop} {s:LoopState} {j:Option Code} (hst:St aq W ρ (· <h.length) (ai h) w) (hn:ai h n=some (.loop r s j)) (hl:(ρ n).blk=some l) (o:Obj):
  St aq W ρ (· <(h.set n .gone).length) (ai (h.set n .gone)) (w.putObj l o):=by
 have hlt:=eM hn
 have hown:=hst.own n l (by simp [hn]) hl
 rw [List.length_set]
 refine hst.put hown (fun hc=> ?_) fun m p hp=> ?_
 ·obtain ⟨b,hb,hh⟩:=hst.at_ n _ hn
  rw [hl] at hb;cases hb
  obtain ⟨cs,e,f,h2⟩:=hc
  rw [hh] at h2;cases h2
 rw [bu,List.getElem?_set] at hp
 by_cases e:n=m
 ·subst e
  rw [if_pos rfl,if_pos hlt] at hp
  cases hp
 ·rw [if_neg e,←bu] at hp
  have hk:=hst.kn m p hp
  exact ⟨fun h1=>absurd (hst.inj n m l (by simp [hn]) (by simp [hp]) hl h1) e,fun _=>hp,by simp [hp],hk.1,hk.2⟩
theorem wB {h:List aF} {n:Nat} {o:aF} :(h.set n o).length=h.length:=List.length_set
theorem aas {assign body:Code} (ha:Snd P ctx assign) (hb:Snd P ctx body) (hra:lz assign=true) (hrb:lz body=true) {ps:Array Tmp} {xx:List AV} {n0 l:Nat} {jb:Env} {r:Loop} (hl:(jb n0).blk=some l)
  (hr:r.state= .ready/\ r.pending=none/\ r.params=ps/\ r.assign=assign/\ r.body=body) (hts:r.tmps.size=xx.length) (htm: ∀t,cz xx t≠ .dead->r.tmps.getD t undef=(cz xx t).ae jb) (htk: ∀t,(cz xx t).ok (· <n0)):
  nW P [(n0,aeo ctx.X n0 xx r jb ps (cJ ctx assign) (cJ ctx body))]:=by
 intro n s hs X args hp nm k h
 unfold aI at hs
 split at hs
 rotate_left
 ·cases hs
 rename_i en
 subst en
 cases hs
 unfold aeo at h
 obtain ⟨hXX,h⟩:=h
 subst hXX
 split at h
 rotate_left
 ·exact h.elim
 rename_i hsz
 obtain ⟨hp1,h⟩:=de h
 obtain ⟨hp0,h⟩:=Fs h
 intro ro m aq W ρ w hX hargs hst
 have wJ:=hst.at_ _ _ hp1
 have aif: ∀i,i<n0+1->ρ i=jb i:=wJ.2
 have hln:(ρ n0).blk=some l:=by rw [aif n0 (by omega)];exact hl
 obtain ⟨l',hl',Di⟩:=hst.at_ _ _ hp0
 rw [hln] at hl';cases hl'
 have hre:({r with state:= .ready,pending:=none} :Loop)=r:=by cases r;simp only at hr;obtain ⟨rfl,rfl,_⟩:=hr;rfl
 rw [hre] at Di
 have hn0:n0+1<nm:=(hst.kn _ _ hp1).1
 have IT: ∀m,hp m≠some .gone:=fun m e=>hst.at_ m _ e
 have hkl: ∀m,(hp m).isSome=true->m<nm:=fun m hm=>by
  obtain ⟨o,ho⟩:=Option.isSome_iff_exists.1 hm
  exact (hst.kn m o ho).1
 refine ⟨l,r.fn,(r.params.zip (args.map (AV.ae ρ)).toArray).foldl (fun tmps (x:Tmp×Value)=>tmps.setIfInBounds x.1 x.2) r.tmps,assign,body,hln,?_,?_⟩
 ·have:=run_yield (P:=P) (args:=(args.map (AV.ae ρ)).toArray) Di (by simp [hr.2.2.1,hsz])
  rw [this,hr.2.2.2.1,hr.2.2.2.2]
 let Cd:=gY hp nm++ [aF.cw ρ nm]
 let sO:=bw ρ nm {}
 have h3l:Cd.length=nm+1:=by simp [Cd,bP]
 have eV: ∀m,m<nm->sO m=ρ m:=fun m hm=>by simp only [sO,bw];rw [if_neg (by omega)]
 have DE: ∀m o,ai Cd m=some o->(m<nm/\ hp m=some o)\/ (m=nm/\ o= .cw ρ nm):=by
  intro m o ho
  rw [bu] at ho
  rcases Nat.lt_or_ge m nm with h1|h1
  ·rw [List.getElem?_append_left (by rw [bP];exact h1),Cu h1 (IT m)] at ho
   exact .inl ⟨h1,ho⟩
  ·have:m<Cd.length:=eM (by rw [bu];exact ho)
   have:m=nm:=by omega
   subst this
   rw [List.getElem?_append_right (by rw [bP];exact Nat.le_refl _),bP] at ho
   simp only [Nat.sub_self,List.getElem?_cons_zero,live,Option.some.injEq] at ho
   exact .inr ⟨rfl,ho.symm⟩
 have af2: ∀b,dM ρ hp w b->dM sO (ai Cd) w b/\ w.heap[b]? =w.heap[b]? :=fun b hb=>by
  refine ⟨⟨hb.1,?_⟩,rfl⟩
  rintro (⟨m,h1,h2⟩|⟨m,S,h1,h2⟩)
  ·obtain ⟨o,ho⟩:=Option.isSome_iff_exists.1 h1
   rcases DE m o ho with ⟨h3,h4⟩|⟨rfl,rfl⟩
   ·rw [eV m h3] at h2
    exact hb.2 (.inl ⟨m,by simp [h4],h2⟩)
   ·simp [sO,bw] at h2
  ·rcases DE m _ h1 with ⟨h3,h4⟩|⟨rfl,e⟩
   ·exact hb.2 (.inr ⟨m,S,h4,h2⟩)
   ·cases e
 have uo:St aq W sO (· <Cd.length) (ai Cd) w:=by
  refine ⟨hst.fr,fun m o ho=> ?_,fun m o ho=> ?_,fun m m' b hm hm' fK dI=> ?_,fun m b hm hb=> ?_,fun b ⟨m,S,h1,h2⟩=> ?_,fun m o ho=> ?_⟩
  rotate_right
  ·rcases DE m o ho with ⟨h1,h2⟩|⟨rfl,rfl⟩
   ·rw [eV m h1];exact hst.sR m o h2
   ·exact .inr (by simp [sO,bw])
  rotate_right
  ·rcases DE m _ h1 with ⟨_,h4⟩|⟨_,e⟩
   ·obtain ⟨h5,h6⟩:=hst.oK b ⟨m,S,h4,h2⟩
    refine ⟨h5,fun ⟨n,h7,h8⟩=> ?_⟩
    obtain ⟨o,ho⟩:=Option.isSome_iff_exists.1 h7
    rcases DE n o ho with ⟨h9,h10⟩|⟨rfl,rfl⟩
    ·rw [eV n h9] at h8
     exact h6 ⟨n,by simp [h10],h8⟩
    ·simp [sO,bw] at h8
   ·cases e
  ·rcases DE m o ho with ⟨h1,h2⟩|⟨rfl,rfl⟩
   ·have hk:=hst.kn m o h2
    exact cq (Kn:=(· <nm)) (hst.at_ m o h2) eV h1 hk.2 af2 (fun _ _ h=>h) fun _ _=>rfl
   ·exact ⟨by simp [sO,bw],eV⟩
  ·rcases DE m o ho with ⟨h1,h2⟩|⟨rfl,rfl⟩
   ·exact ⟨by rw [h3l];omega,aF.aV (fun i hi=>by rw [h3l];omega) o (hst.kn m o h2).2⟩
   ·exact ⟨by rw [h3l];omega,fun i hi=>by rw [h3l];omega⟩
  ·obtain ⟨o,ho⟩:=Option.isSome_iff_exists.1 hm
   obtain ⟨o',AZ⟩:=Option.isSome_iff_exists.1 hm'
   rcases DE m o ho with ⟨h1,h2⟩|⟨rfl,rfl⟩
   ·rcases DE m' o' AZ with ⟨h3,h4⟩|⟨rfl,rfl⟩
    ·rw [eV m h1] at fK;rw [eV m' h3] at dI
     exact hst.dK m m' b (by simp [h2]) (by simp [h4]) fK dI
    ·simp [sO,bw] at dI
   ·simp [sO,bw] at fK
  ·obtain ⟨o,ho⟩:=Option.isSome_iff_exists.1 hm
   rcases DE m o ho with ⟨h1,h2⟩|⟨rfl,rfl⟩
   ·rw [eV m h1] at hb
    exact hst.jX m b (by simp [h2]) hb
   ·simp [sO,bw] at hb
 have alo: ∀t,cz xx t≠ .dead->r.tmps.getD t undef=(cz xx t).ae sO:=fun t ht=>by
  rw [htm t ht]
  refine (AV.bt (Kn:=(· <n0)) (fun i hi=> ?_) _ (htk t)).symm
  rw [eV i (by omega),aif i (by omega)]
 have YP:args.map (AV.ae ρ)=args.map (AV.ae sO):=List.map_congr_left fun x hx=>(AV.bt (Kn:=(· <nm)) eV x (hargs x hx)).symm
 obtain ⟨hs1,hs2⟩:=F7 sO ps.toList xx args r.tmps hts alo
 have akG:D6 aq.z W ⟨zX xx ps.toList args,Cd⟩ sO {tmps:=(r.params.zip (args.map (AV.ae ρ)).toArray).foldl (fun tmps (x:Tmp×Value)=>tmps.setIfInBounds x.1 x.2) r.tmps,defers:= []} w:=by
  refine ⟨[],List.nodup_nil,fun D hD=>absurd hD (by simp),⟨fun t ht=> ?_,?_,rfl,fun t=> ?_,uo.z⟩⟩
  ·dsimp only
   rw [hr.2.2.1,YP,IJ]
   exact hs2 t ht
  ·dsimp only
   rw [hr.2.2.1,YP,IJ,zY]
   exact hs1
  ·refine OG _ _ _ (fun t=>AV.aV (fun i hi=> ?_) _ (htk t)) (fun v hv=>AV.aV (fun i hi=> ?_) _ (hargs v hv)) t<;>(dsimp only;rw [h3l];omega)
 refine roundIn_of_wpIn trivial ?_
 refine wpIn_mono (ha aq.z W (some l) m hX.z (.inr hra) _ _ (h ρ) sO _ w akG) ?_
 rintro e a1 w1 ⟨lC,ρ',Xj,di⟩
 cases e<;>try exact Xj.elim
 obtain ⟨hq1,Xj⟩:=de Xj
 obtain ⟨VA,Xj⟩:=Fs Xj
 obtain ⟨ds1,di⟩:=di
 have akE: ∀i,i<nm->ρ' i=ρ i:=(di.bz.st.at_ _ _ hq1).2
 have hl1:(ρ' n0).blk=some l:=by rw [akE n0 (by omega)];exact hln
 obtain ⟨l1,aiu,aeN⟩:=di.bz.st.at_ _ _ VA
 rw [hl1] at aiu;cases aiu
 refine ⟨_,run_beginRound aeN rfl,?_⟩
 have ac6:=di.bz.st.Tl VA hl1 .busy none
 have hD: ∀D∈ds1,D≠l:=by
  rintro D hD rfl
  have:=(di.dd D hD).2
  rw [aeN] at this;cases this
 have akH:D6 aq.z W ⟨lC.tmps,lC.heap.set n0 (.loop r .busy none)⟩ ρ' a1 (w1.putObj l (.loop {r with state:= .busy,pending:=none})):=by
  refine ⟨ds1,di.nd,fun D hd=>⟨(di.dd D hd).1,?_⟩,⟨di.bz.tmps,di.bz.size,di.bz.defers,fun t=> ?_,?_⟩⟩
  ·rw [World.putObj_heap_other (hD D hd)];exact (di.dd D hd).2
  ·dsimp only;rw [wB];exact di.bz.kn t
  ·dsimp only;rw [wB];exact ac6
 refine wpIn_mono (hb aq.z W (some l) m hX.z (.inr hrb) _ _ Xj ρ' _ _ akH) ?_
 rintro e a2 w2 ⟨qx,ρ4,hk2,ds2,fF⟩
 have fin: ∀jump:Option Code,uO hp nm n0 r ρ qx.heap jump k-> ∃v w',(Instr.endRound l jump).run P w2= .ok v w'/\ ∃r ρ',k r/\ (∀p∈r.writes,hp p.1≠none)/\ Ending.returned v= .returned (r.val.ae ρ')/\ (∀m,m<nm->ρ' m=ρ m)/\ r.val.ok (mH (· <nm) nm r)/\ St aq W ρ' (mH (· <nm) nm r) (bU r nm hp) w':=by
  intro jump hk
  unfold uO at hk
  obtain ⟨hb0,hk⟩:=NL hk
  obtain ⟨fK,hk⟩:=de hk
  have aie: ∀i,i<nm->ρ4 i=ρ i:=(fF.bz.st.at_ _ _ fK).2
  have Dh:(ρ4 n0).blk=some l:=by rw [aie n0 (by omega)];exact hln
  obtain ⟨l2,aiv,aiH⟩:=fF.bz.st.at_ _ _ hb0
  rw [Dh] at aiv;cases aiv
  refine ⟨_,_,run_endRound jump aiH,_,ρ4,hk,fun p hp=>zf hp,rfl,aie,trivial,?_⟩
  have hlen:=eM fK
  have aiJ:=fF.bz.st.Tl hb0 Dh (if jump.isNone then .ready else .done) jump
  obtain ⟨e1,e2⟩:=El (hp:=hp) (nm:=nm) (v:=bG jump.isNone) (h:=qx.heap.set n0 (LG r jump)) (by rw [wB];exact hlen)
  unfold aeB
  rw [e2,wB]
  have e3:LG r jump= .loop r (if jump.isNone then .ready else .done) jump:=by cases jump<;>rfl
  rw [e3] at e1 ⊢
  refine (St.unz aiJ).less fun i o ho=> ?_
  have:=e1 i o ho (IT i) hkl
  exact ⟨this,aiJ.kn i o this⟩
 cases e with
 |normal=>exact fin none hk2
 |ret=>exact fin (some .ret) hk2
 |exit id=>exact fin (some (.exit id)) hk2
 |_=>exact hk2.elim
theorem oT (hT:aK P ctx.tt) (hC:fq P ctx) (hm:P.follows .mixedOrders=true): ∀(c:Code),qy P ctx c->Snd P ctx c:=by
 intro c
 induction c with
 |skip=>intro _ aq W ro n hX _ st K h ρ a w aR;exact wpIn_skip ⟨st,ρ,h,aR⟩
 |region id ops draw=>
  intro _ aq W ro n hX _ st K h ρ a w ⟨ds,aR⟩
  have hX':=hX.uN aR.bz.st
  cases draw with
  |false=>
   have h:nj ctx ops ops.toList [] st [] fun st' _=>K .normal st':=h
   exact wpIn_region_list (jD hT hC hX' ops ops.toList [] st [] _ h (fun st' _ ρ' a' w' hk c9=>⟨st',ρ',hk,ds,aR.back c9⟩) ρ a w aR.base)
  |true=>
   refine wpIn_mono (SR hT hC.sp hm hX' ro n id ops st (K .normal) h ρ a w aR.base) ?_
   rintro e a' w' ⟨st',ρ',⟨rfl,hk⟩,c9⟩
   exact ⟨st',ρ',hk,ds,aR.back c9⟩
 |seq x y ihx ihy=>
  intro mL aq W ro n hX hro st K h ρ a w aR
  have agd:(ro=none/\ aq.bd= [])\/ lz x=true:=hro.imp id fun h=>by simp only [lz,Bool.and_eq_true] at h;exact h.1
  have age:(ro=none/\ aq.bd= [])\/ lz y=true:=hro.imp id fun h=>by simp only [lz,Bool.and_eq_true] at h;exact h.2
  refine wpIn_seq (wpIn_mono (ihx mL.1 aq W ro n hX agd st _ h ρ a w aR) ?_)
  rintro e a' w' ⟨st',ρ',hk,c9⟩
  cases e with
  |normal=>exact ihy mL.2 aq W ro n hX age st' K hk ρ' a' w' c9
  |_=>exact ⟨st',ρ',hk,c9⟩
 |cond c x y ihx ihy=>
  intro mL aq W ro n hX hro st K h ρ a w aR
  have agd:(ro=none/\ aq.bd= [])\/ lz x=true:=hro.imp id fun h=>by simp only [lz,Bool.and_eq_true] at h;exact h.1
  have age:(ro=none/\ aq.bd= [])\/ lz y=true:=hro.imp id fun h=>by simp only [lz,Bool.and_eq_true] at h;exact h.2
  unfold cJ at h
  split at h
  ·rename_i t hc
   have:=aR.eval c (by rw [hc];simp)
   rw [hc] at this
   exact wpIn_cond_split this (fun ht=>ihx mL.1 aq W ro n hX agd st K (by subst ht;exact h) ρ a w aR) (fun ht=>ihy mL.2 aq W ro n hX age st K (by subst ht;exact h) ρ a w aR)
  ·exact h.elim
 |block id c ih=>
  intro mL aq W ro n hX hro st K h ρ a w aR
  unfold cJ at h
  unfold qy at mL
  split at h
  ·rename_i sp hsp
   rw [hsp] at mL
   exact mL aq W ro n hX hro st K h ρ a w aR
  ·rename_i hsp
   rw [hsp] at mL
   exact th (ih mL aq W ro n hX hro st _ h ρ a w aR)
 |loop c ih=>
  intro mL aq W ro n hX agc st K h ρ a w aR
  obtain ⟨I,⟨m,stw,hw0,h0⟩,hr⟩:=h
  intro b k cs hro hb hroom
  have key: ∀m a w,(∃st ρ,I m st/\ D6 aq W st ρ a w)-> ∃e a' w',Post aq W K e a' w'/\ ArrivesIn (Machine.fenced P (fw ro)) P (lone (b.atR a (.code c:: .inLoop c::k)) cs w) b k cs e a' w':=by
   intro m
   induction m using Nat.strongRecOn with
   |_ m ihm=>
    rintro a w ⟨st,ρ,hI,aR⟩
    obtain ⟨e,a1,w1,⟨lC,aX,hk,di⟩,ia⟩:=ih mL aq W ro n hX agc st _ (hr m st hI) ρ a w aR b (.inLoop c::k) cs hro hb hroom
    cases e with
    |normal=>
     obtain ⟨m',st',hm,hw,hI'⟩:=hk
     obtain ⟨jb,fF⟩:=di.weak hw
     obtain ⟨e2,a2,w2,hq2,E1⟩:=ihm m' hm a1 w1 ⟨st',jb,hI',fF⟩
     exact ⟨e2,a2,w2,hq2,.of_steps (StepsIn.trans ia (.one (fenced_calm hb hroom rfl) stepR_inLoop)) E1⟩
    |exit id=>exact ⟨_,a1,w1,⟨lC,aX,hk,di⟩,.pass (x:= .inLoop c) rfl (fun _ _=> .inl (by simp)) ia⟩
    |goto l=>exact ⟨_,a1,w1,⟨lC,aX,hk,di⟩,.pass (x:= .inLoop c) rfl (fun _ _=> .inl (by simp)) ia⟩
    |ret=>exact ⟨_,a1,w1,⟨lC,aX,hk,di⟩,.pass (x:= .inLoop c) rfl (fun _ _=> .inl (by simp)) ia⟩
    |panic ch=>exact ⟨_,a1,w1,⟨lC,aX,hk,di⟩,.pass (x:= .inLoop c) rfl (fun _ _=> .inl (by simp)) ia⟩
    |outgrown=>exact ⟨_,a1,w1,⟨lC,aX,hk,di⟩,.pass (x:= .inLoop c) rfl (fun _ _=> .inl (by simp)) ia⟩
  obtain ⟨aZ,Df⟩:=aR.weak hw0
  obtain ⟨e,a',w',hq,ia⟩:=key m a w ⟨stw,aZ,h0,Df⟩
  exact ⟨e,a',w',hq,.of_steps (.one (fenced_calm hb hroom rfl) stepR_loop) ia⟩
 |exit id=>intro _ aq W ro n hX _ st K h ρ a w aR;exact wpIn_exit ⟨st,ρ,h,aR⟩
 |ret=>intro _ aq W ro n hX _ st K h ρ a w aR;exact wpIn_ret ⟨st,ρ,h,aR⟩
 |rangeFunc g ps assign body LA LB=>
  intro mL aq W ro n hX hro st K h ρ a w ⟨ds,aR⟩
  obtain ⟨hro,hbd⟩:=hro.resolve_right (by simp [lz])
  subst hro
  unfold cJ at h
  split at h
  rotate_left
  ·exact h.elim
  rename_i hrf
  simp only [Bool.and_eq_true] at hrf
  split at h
  rotate_left
  ·exact h.elim
  rename_i f cap hg
  split at h
  rotate_left
  ·exact h.elim
  rename_i Rh Y7
  obtain ⟨Bn,Y7⟩:=hC.its f Rh Y7
  have mR:=aR.bz.eval g (by rw [hg];simp)
  rw [hg] at mR
  have hgk:=aR.bz.Lc g
  rw [hg] at hgk
  obtain ⟨N,hN⟩: ∃N,N=st.heap.length:=⟨_,rfl⟩
  refine wpIn_rangeFunc fun fn _=> ?_
  obtain ⟨r,NH⟩: ∃r:Loop,r= {state:= .ready,pending:=none,fn:=fn,tmps:=a.tmps,params:=ps,assign:=assign,body:=body,defers:=w.heap.size} :=⟨_,rfl⟩
  obtain ⟨W1,hW1⟩: ∃W1,W1=(w.alloc (.deferred (some []))).alloc (.loop r):=⟨_,rfl⟩
  have hD1:W1.heap[w.heap.size]? =some (.deferred (some [])):=by
   rw [hW1];exact (Below.heap_alloc _ _ _ (by simp)).trans (World.alloc_heap_new w _)
  have hL1:W1.heap[w.heap.size+1]? =some (.loop r):=by
   rw [hW1];have:=World.alloc_heap_new (w.alloc (.deferred (some []))) (.loop r);rwa [World.size_alloc] at this
  have IW: ∀b,b<w.heap.size->W1.heap[b]? =w.heap[b]? :=fun b hb=>by
   rw [hW1];exact (Below.heap_alloc _ _ _ (by simp;omega)).trans (Below.heap_alloc _ _ _ hb)
  have hS1:W1.heap.size=w.heap.size+2:=by rw [hW1];simp
  let jb:Env:=fun m=>if m=N then {blk:=some (w.heap.size+1)} else if m=N+1 then {} else ρ m
  let wY:=st.heap++ [aF.loop r .ready none,.cw jb (N+1)]
  have Dh:wY.length=N+2:=by simp [wY,hN]
  have um: ∀m,m<N->jb m=ρ m:=fun m hm=>by simp only [jb];rw [if_neg (by omega),if_neg (by omega)]
  have QN:jb N= {blk:=some (w.heap.size+1)} :=by simp [jb]
  have hp2:jb (N+1)= {} :=by simp [jb]
  have pD: ∀m o,ai wY m=some o->(m<N/\ ai st.heap m=some o)\/ (m=N/\ o= .loop r .ready none)\/ (m=N+1/\ o= .cw jb (N+1)):=by
   intro m o ho
   have hlt:=eM ho
   rw [bu] at ho
   rcases Nat.lt_or_ge m N with h1|h1
   ·rw [List.getElem?_append_left (by omega),←bu] at ho
    exact .inl ⟨h1,ho⟩
   ·rw [List.getElem?_append_right (by omega),←hN] at ho
    have:m=N\/ m=N+1:=by omega
    rcases this with rfl|rfl
    ·simp only [Nat.sub_self,List.getElem?_cons_zero,live,Option.some.injEq] at ho
     exact .inr (.inl ⟨rfl,ho.symm⟩)
    ·simp only [show N+1- N=1 by omega,List.getElem?_cons_succ,List.getElem?_cons_zero,live,Option.some.injEq] at ho
     exact .inr (.inr ⟨rfl,ho.symm⟩)
  have akQ:Fr aq W W1:=by
   rw [hW1];exact (aR.bz.st.fr.alloc _).alloc _
  have af7: ∀m o b,ai st.heap m=some o->(ρ m).has b->b<w.heap.size:=fun m o b ho hb=>aR.bz.st.lt m b (by rw [ho];rfl) hb
  have Bp:St aq W jb (· <wY.length) (ai wY) W1:=by
   have hre:({r with state:= .ready,pending:=none} :Loop)=r:=by rw [NH]
   have Nw: ∀b,dM ρ (ai st.heap) w b->dM jb (ai wY) W1 b/\ W1.heap[b]? =w.heap[b]? :=fun b hb=>by
    refine ⟨⟨hb.1.same (IW b hb.1.lt),?_⟩,IW b hb.1.lt⟩
    rintro (⟨m,h1,h2⟩|⟨m,S,h1,h2⟩)
    ·obtain ⟨o,ho⟩:=Option.isSome_iff_exists.1 h1
     rcases pD m o ho with ⟨h3,h4⟩|⟨rfl,rfl⟩|⟨rfl,rfl⟩
     ·rw [um m h3] at h2
      exact hb.2 (.inl ⟨m,by simp [h4],h2⟩)
     ·rw [QN] at h2;cases jd.1 h2
      have:=hb.1.lt;omega
     ·rw [hp2] at h2;cases jd.1 h2
    ·rcases pD m _ h1 with ⟨h3,h4⟩|⟨rfl,e⟩|⟨rfl,e⟩
     ·exact hb.2 (.inr ⟨m,S,h4,h2⟩)
     ·cases e
     ·cases e
   refine ⟨akQ,fun m o ho=> ?_,fun m o ho=> ?_,fun m m' b hm hm' fK dI=> ?_,fun m b hm hb=> ?_,fun b ⟨m,S,h1,h2⟩=> ?_,fun m o ho=> ?_⟩
   rotate_right
   ·rcases pD m o ho with ⟨h1,h2⟩|⟨rfl,rfl⟩|⟨rfl,rfl⟩
    ·rw [um m h1];exact aR.bz.st.sR m o h2
    ·exact .inr (by rw [QN])
    ·exact .inr (by rw [hp2])
   rotate_right
   ·rcases pD m _ h1 with ⟨_,h4⟩|⟨_,e⟩|⟨_,e⟩
    ·obtain ⟨h5,h6⟩:=aR.bz.st.oK b ⟨m,S,h4,h2⟩
     refine ⟨by rw [hS1];omega,fun ⟨n,h7,h8⟩=> ?_⟩
     obtain ⟨o,ho⟩:=Option.isSome_iff_exists.1 h7
     rcases pD n o ho with ⟨h9,h10⟩|⟨rfl,rfl⟩|⟨rfl,rfl⟩
     ·rw [um n h9] at h8
      exact h6 ⟨n,by simp [h10],h8⟩
     ·rw [QN] at h8;cases jd.1 h8;omega
     ·rw [hp2] at h8;cases jd.1 h8
    ·cases e
    ·cases e
   ·rcases pD m o ho with ⟨h1,h2⟩|⟨rfl,rfl⟩|⟨rfl,rfl⟩
    ·have hk:=aR.bz.st.kn m o h2
     exact cq (Kn:=(· <st.heap.length)) (aR.bz.st.at_ m o h2) (fun i hi=>um i (by omega)) (by omega) hk.2 Nw (fun _ _ h=>h) fun b hb=>IW b (af7 m o b h2 hb)
    ·exact ⟨w.heap.size+1,by rw [QN],by rw [hre];exact hL1⟩
    ·exact ⟨by rw [hp2],fun _ _=>rfl⟩
   ·rcases pD m o ho with ⟨h1,h2⟩|⟨rfl,rfl⟩|⟨rfl,rfl⟩
    ·exact ⟨by omega,aF.aV (fun i hi=>by omega) o (aR.bz.st.kn m o h2).2⟩
    ·exact ⟨by omega,trivial⟩
    ·exact ⟨by omega,fun i hi=>by omega⟩
   ·obtain ⟨o,ho⟩:=Option.isSome_iff_exists.1 hm
    obtain ⟨o',AZ⟩:=Option.isSome_iff_exists.1 hm'
    rcases pD m o ho with ⟨h1,h2⟩|⟨rfl,rfl⟩|⟨rfl,rfl⟩
    ·rw [um m h1] at fK
     have hlt:=af7 m o b h2 fK
     rcases pD m' o' AZ with ⟨h3,h4⟩|⟨rfl,rfl⟩|⟨rfl,rfl⟩
     ·rw [um m' h3] at dI
      exact aR.bz.st.dK m m' b (by simp [h2]) (by simp [h4]) fK dI
     ·rw [QN] at dI;cases jd.1 dI;omega
     ·rw [hp2] at dI;cases jd.1 dI
    ·rw [QN] at fK;cases jd.1 fK
     rcases pD m' o' AZ with ⟨h3,h4⟩|⟨rfl,rfl⟩|⟨rfl,rfl⟩
     ·rw [um m' h3] at dI
      have:=af7 m' o' _ h4 dI;omega
     ·rfl
     ·rw [hp2] at dI;cases jd.1 dI
    ·rw [hp2] at fK;cases jd.1 fK
   ·obtain ⟨o,ho⟩:=Option.isSome_iff_exists.1 hm
    rcases pD m o ho with ⟨h1,h2⟩|⟨rfl,rfl⟩|⟨rfl,rfl⟩
    ·rw [um m h1] at hb
     exact aR.bz.st.jX m b (by simp [h2]) hb
    ·rw [QN] at hb;cases jd.1 hb
     have:=aR.bz.st.fr.size
     exact .inl (by omega)
    ·rw [hp2] at hb;cases jd.1 hb
  have uo:=Bp.uN (N:=wY.length) fun m o ho=>⟨eM ho,(Bp.kn m o ho).2⟩
  have hX3:=hX.uN Bp
  have hys:=aas (P:=P) (ctx:=ctx) (LA mL.1) (LB mL.2) hrf.1 hrf.2 (ps:=ps) (xx:=st.tmps) (n0:=N) (l:=w.heap.size+1) (jb:=jb) (r:=r) (by rw [QN]) (by rw [NH];exact ⟨rfl,rfl,rfl,rfl,rfl⟩)
   (by rw [NH];exact aR.bz.size) (fun t ht=>by
    rw [NH]
    show a.tmps.getD t undef=_
    rw [aR.bz.tmps t ht]
    exact (AV.bt (Kn:=(· <st.heap.length)) (fun i hi=>um i (by omega)) _ (aR.bz.kn t)).symm) (fun t=>by have:=aR.bz.kn t;rwa [<- hN] at this)
  have hcap: ∀x∈cap.map zH,x.ok (· <st.heap.length):=fun x hx=>by
   obtain ⟨q,hq,rfl⟩:=List.mem_map.1 hx
   exact Od (hgk q hq)
  have tV:=Y7 _ _ _ _ (h r jb) (by rw [<- hN];exact hys) (lb aq W jb (ai wY) W1) W1 jb W1 hX3 (by
    intro x hx
    rcases List.mem_cons.1 hx with rfl|hx
    ·show st.heap.length<_
     simp
    ·exact AV.aV (fun i hi=>by simp;omega) x (hcap x hx)) (by
    have:st.heap++ [aF.loop r .ready none,.cw jb (st.heap.length+1)]=wY:=by simp only [wY,hN]
    rw [this];exact uo)
  refine ⟨w.heap.size+1,[pJ w.heap.size],W1,{target:= .fn (.func f) (cap.map (Ref.ae ρ)).toArray,args:= #[.func (.yield (w.heap.size+1)) #[] #[]]},W1,f,#[.func (.yield (w.heap.size+1)) #[] #[]]++(cap.map (Ref.ae ρ)).toArray,W1,?_,?_,fun _ _=>trivial,?_,fun h=>by simp [fw] at h,rB ?_⟩
  ·have:=run_enterLoop_outer (P:=P) (w:=w) fn a.tmps ps assign body
   rw [hW1,NH];exact this
  ·simp only [resolve,mR,AV.ae,A0.ae,Cell.ae]
   simp [go_sem]
  ·simp only [invoke,Sem.run_bind,Sem.run_pure,Result.andThen_ok]
   have:=Bn (#[.func (.yield (w.heap.size+1)) #[] #[]]++(cap.map (Ref.ae ρ)).toArray) W1
   simpa using this
  have afS:(((AV.v (.one (.HA st.heap.length))::cap.map zH).map (AV.ae jb)).toArray:Array Value)= #[.func (.yield (w.heap.size+1)) #[] #[]]++(cap.map (Ref.ae ρ)).toArray:=by
   apply Array.ext'
   simp only [List.map_cons,List.map_map,AV.ae,A0.ae,Cell.ae,<- hN,QN,Array.toList_append,List.cons_append,List.nil_append,List.cons.injEq,true_and]
   refine List.map_congr_left fun q hq=> ?_
   show (zH q).ae jb=q.ae ρ
   rw [sg]
   exact Ref.bt (Kn:=(· <st.heap.length)) (fun i hi=>um i (by omega)) q (hgk q hq)
  rw [afS] at tV
  refine tV.mono ?_
  rintro e w' ⟨qx,ρ',v,rfl,_,hR,ac7⟩
  unfold Tk at hR
  obtain ⟨hpe,hR⟩:=de hR
  rw [<- hN] at hpe hR
  have pZ: ∀i,i<N+1->ρ' i=jb i:=(ac7.at_ _ _ hpe).2
  have hlN:(ρ' N).blk=some (w.heap.size+1):=by rw [pZ N (by omega),QN]
  have amt:=eM hpe
  have behind: ∀(r':Loop) (s:LoopState) (j:Option Code),ai qx.heap N=some (.loop r' s j)->s≠ .busy->
    (Instr.endLoop (w.heap.size+1)).run P w'= .ok j (w'.putObj (w.heap.size+1) (.loop {r' with state:= .exhausted,pending:=j}))/\
    D6 aq W ⟨st.tmps,(qx.heap.set N .gone).set (N+1) .gone⟩ ρ' {a with defers:= [pJ w.heap.size]++a.defers} (w'.putObj (w.heap.size+1) (.loop {r' with state:= .exhausted,pending:=j})):=by
   intro r' s j hj hs
   obtain ⟨l,hl,Di⟩:=ac7.at_ _ _ hj
   rw [hlN] at hl;cases hl
   refine ⟨run_endLoop Di hs,w.heap.size::ds,?_,?_,?_⟩
   ·refine List.nodup_cons.2 ⟨fun hm=> ?_,aR.nd⟩
    have:=(Array.getElem?_eq_some_iff.1 (aR.dd _ hm).2).1
    omega
   ·intro D hD
    have hDW:W.heap.size<=D/\ W1.heap[D]? =some (.deferred (some [])):=by
     rcases List.mem_cons.1 hD with rfl|hD
     ·exact ⟨aR.bz.st.fr.size,hD1⟩
     ·have h1:=aR.dd D hD
      exact ⟨h1.1,by rw [IW D (Array.getElem?_eq_some_iff.1 h1.2).1];exact h1.2⟩
    refine ⟨hDW.1,?_⟩
    have hne:D≠w.heap.size+1:=by
     rintro rfl
     have:=hDW.2;rw [hL1] at this;cases this
    rw [World.putObj_heap_other hne,ac7.fr.block D (Array.getElem?_eq_some_iff.1 hDW.2).1 (Te Bp hDW.2)]
    exact hDW.2
   ·have alm:=((Bp.aa3 ac7).ZP hj hlN (.loop {r' with state:= .exhausted,pending:=j})).Yh (N+1)
    refine ⟨fun t ht=> ?_,aR.bz.size,?_,fun t=> ?_,alm⟩
    ·have h1:=aR.bz.tmps t ht
     rw [show ({a with defers:= [pJ w.heap.size]++a.defers} :Act).tmps=a.tmps from rfl,h1]
     exact (AV.bt (Kn:=(· <st.heap.length)) (fun i hi=>by rw [pZ i (by omega),um i (by omega)]) _ (aR.bz.kn t)).symm
    ·simp [aR.bz.defers]
    ·refine AV.aV (fun i hi=> ?_) _ (aR.bz.kn t)
     rw [wB,wB];omega
  split at hR
  ·rename_i r' hj
   obtain ⟨h1,h2⟩:=behind _ _ _ hj (by simp)
   exact ⟨_,_,h1,_,ρ',hR,h2⟩
  ·rename_i r' hj
   obtain ⟨h1,h2⟩:=behind _ _ _ hj (by simp)
   exact ⟨_,_,h1,wpIn_ret ⟨_,ρ',hR,h2⟩⟩
  ·rename_i r' id hj
   obtain ⟨h1,h2⟩:=behind _ _ _ hj (by simp)
   exact ⟨_,_,h1,wpIn_exit ⟨_,ρ',hR,h2⟩⟩
  ·exact hR.elim
 |scope=>intro _ aq W ro n hX _ st K h;exact h.elim
 |label=>intro _ aq W ro n hX _ st K h;exact h.elim
 |goto=>intro _ aq W ro n hX _ st K h;exact h.elim
 |refuse=>intro _ aq W ro n hX _ st K h;exact h.elim
end
end Go.Ev
namespace Go.Ev
open Go.RowKit
section
variable {P:Program} {ctx:Ctx} {aq:e8} {W:World} {df:List Deferred}
theorem WW (hT:aK P ctx.tt) (hC:fq P ctx) (hm:P.follows .mixedOrders=true) {ro:Option Nat} {n:Nat} (c:Code) (hX:ru aq W ctx.X) (agc:(ro=none/\ aq.bd= [])\/ lz c=true) (mL:qy P ctx c) (N:Nat) (st:AS) (K:Exit->AS->Prop) (h:BW ctx c N st K):
  ∀ρ a w,D6 aq W st ρ a w->(Code.loop c).wpIn (fw ro) n P (Post aq W K) a w:=by
 intro ρ a w aR b k cs hro hb hroom
 have key: ∀N st ρ a w,BW ctx c N st K->D6 aq W st ρ a w-> ∃e a' w',Post aq W K e a' w'/\ ArrivesIn (Machine.fenced P (fw ro)) P (lone (b.atR a (.code c:: .inLoop c::k)) cs w) b k cs e a' w':=by
  intro N
  induction N with
  |zero=>intro st ρ a w h;exact h.elim
  |succ N ih=>
   intro st ρ a w h aR
   obtain ⟨e,a1,w1,⟨lC,aX,hk,di⟩,ia⟩:=oT hT hC hm c mL aq W ro n hX agc st _ h ρ a w aR b (.inLoop c::k) cs hro hb hroom
   cases e with
   |normal=>
    obtain ⟨e2,a2,w2,hq2,E1⟩:=ih lC aX a1 w1 hk di
    exact ⟨e2,a2,w2,hq2,.of_steps (StepsIn.trans ia (.one (fenced_calm hb hroom rfl) stepR_inLoop)) E1⟩
   |exit id=>exact ⟨_,a1,w1,⟨lC,aX,hk,di⟩,.pass (x:= .inLoop c) rfl (fun _ _=> .inl (by simp)) ia⟩
   |goto l=>exact ⟨_,a1,w1,⟨lC,aX,hk,di⟩,.pass (x:= .inLoop c) rfl (fun _ _=> .inl (by simp)) ia⟩
   |ret=>exact ⟨_,a1,w1,⟨lC,aX,hk,di⟩,.pass (x:= .inLoop c) rfl (fun _ _=> .inl (by simp)) ia⟩
   |panic ch=>exact ⟨_,a1,w1,⟨lC,aX,hk,di⟩,.pass (x:= .inLoop c) rfl (fun _ _=> .inl (by simp)) ia⟩
   |outgrown=>exact ⟨_,a1,w1,⟨lC,aX,hk,di⟩,.pass (x:= .inLoop c) rfl (fun _ _=> .inl (by simp)) ia⟩
 obtain ⟨e,a',w',hq,ia⟩:=key N st ρ a w h aR
 exact ⟨e,a',w',hq,.of_steps (.one (fenced_calm hb hroom rfl) stepR_loop) ia⟩
def sr (tmps:Array Value):ResultVar->Sem Value
 | .tmp t=>pure (tmps.getD t undef)
 | .cell a t=>do loadVar t (<- asAddr (tmps.getD a undef))
theorem OB (hT:aK P ctx.tt) {st:AS} {ρ:Env} {a:Act} {w:World} (aR:lV aq W df st ρ a w) {q:ResultVar} {v:A0} (h:L5 ctx st q=some v):
  (sr a.tmps q).run P w= .ok (v.ae ρ) w/\ v.ok (· <st.heap.length):=by
 cases q with
 |tmp t=>
  simp only [L5] at h
  split at h
  ·rename_i x hx
   cases h
   have h1:=aR.tmps t (by rw [hx];simp)
   have h2:=aR.kn t
   rw [hx] at h1 h2
   exact ⟨by simp only [sr,Sem.run_pure];rw [h1];rfl,h2⟩
  ·cases h
 |cell t ty=>
  simp only [L5] at h
  split at h
  ·rename_i n off i hx hi
   split at h
   ·rename_i cs e he
    have h1:=aR.tmps t (by rw [hx];simp)
    rw [hx] at h1
    obtain ⟨b,hb,hh⟩:=aR.st.at_ n _ he
    rw [mA hb] at h1
    have hok:=(aR.st.kn n _ he).2
    have hld:=kH (P:=P) (rest:= []) (off:=off) hT hi (by simpa using hh)
    split at h
    ·rename_i ha
     split at h
     ·rename_i hl
      cases h
      refine ⟨?_,fun c hc=>hok c (List.mem_of_mem_drop (List.mem_of_mem_take hc))⟩
      have:=hld.1 ha (by simpa using hl)
      simp only [sr,h1,asAddr,Sem.run_bind,Sem.run_pure,Result.andThen_ok,this,A0.ae,gK]
     ·cases h
    ·rename_i ha
     split at h
     ·rename_i c hc
      cases h
      refine ⟨?_,hok c (List.mem_of_getElem? hc)⟩
      have:=hld.2 (by simpa using ha) (c.ae ρ) (by simp [hc])
      simp only [sr,h1,asAddr,Sem.run_bind,Sem.run_pure,Result.andThen_ok,this,A0.ae]
     ·cases h
   ·cases h
  ·cases h
theorem pM (hT:aK P ctx.tt) {st:AS} {ρ:Env} {a:Act} {w:World} (aR:lV aq W df st ρ a w): ∀(qs:List ResultVar) (vs:List A0),BI ctx st qs=some vs->
  (qs.mapM (sr a.tmps)).run P w= .ok (vs.map (A0.ae ρ)) w/\ ∀v∈vs,v.ok (· <st.heap.length)
 | [],vs,h=>by simp only [BI,Option.some.injEq] at h;subst h;simp
 |q::r,vs,h=>by
  simp only [BI] at h
  split at h
  ·rename_i v l h1 h2
   cases h
   obtain ⟨e1,k1⟩:=OB hT aR h1
   obtain ⟨e2,k2⟩:=pM hT aR r l h2
   refine ⟨by simp [e1,e2],fun x hx=> ?_⟩
   rcases List.mem_cons.1 hx with rfl|hx
   ·exact k1
   ·exact k2 x hx
  ·cases h
theorem wv (hT:aK P ctx.tt) {st:AS} {ρ:Env} {a:Act} {w:World} (aR:lV aq W df st ρ a w) {fn:Func} {R:AV->AS->Prop} (h:qj ctx fn st R):
  ∃v,(results fn a.tmps).run P w= .ok (v.ae ρ) w/\ v.ok (· <st.heap.length)/\ R v st:=by
 unfold qj at h
 have hrun: ∀vs,BI ctx st fn.results.toList=some vs->(results fn a.tmps).run P w= .ok (if h:(vs.map (A0.ae ρ)).toArray.size=1 then (vs.map (A0.ae ρ)).toArray[0] else .tuple (vs.map (A0.ae ρ)).toArray) w:=by
  intro vs hvs
  obtain ⟨e,_⟩:=pM hT aR _ _ hvs
  have:(fn.results.mapM (sr a.tmps)).run P w= .ok (vs.map (A0.ae ρ)).toArray w:=by
   rw [Array.mapM_eq_mapM_toList]
   simp only [Sem.run_map,e,Result.andThen_ok]
  have e2:results fn a.tmps=(do
    let vs<- fn.results.mapM (sr a.tmps)
    pure (if h:vs.size=1 then vs[0] else .tuple vs):Sem Value):=by
   unfold results
   congr 2
  rw [e2]
  simp only [Sem.run_bind,this,Result.andThen_ok,Sem.run_pure]
 split at h
 ·rename_i v hv
  refine ⟨.v v,?_,(pM hT aR _ _ hv).2 v (by simp),h⟩
  rw [hrun _ hv];rfl
 ·rename_i l hl hne
  refine ⟨.nC l,?_,(pM hT aR _ _ hne).2,h⟩
  rw [hrun _ hne]
  have: ¬l.length=1:=by
   intro h1
   match l,h1 with
   | [x],_=>exact hl x rfl
  rw [dif_neg (by simpa using this)];rfl
 ·exact h.elim
theorem GV (ρ:Env) (args:List AV) (m t:Nat):(((args.map (AV.ae ρ)).toArray++Array.replicate (m- (args.map (AV.ae ρ)).toArray.size) undef).getD t undef)=(cz (args++List.replicate (m- args.length) ck) t).ae ρ:=by
 rw [r9]
 simp only [Array.getD_eq_getD_getElem?,List.getD,Array.getElem?_append,List.size_toArray,List.length_map,List.getElem?_toArray,List.getElem?_map,List.getElem?_append,Array.getElem?_replicate,List.getElem?_replicate]
 by_cases h:t<args.length
 ·simp [h]
 ·simp only [h,if_false]
  split<;>rfl
theorem zv (hT:aK P ctx.tt) {fn:Func} {R:AV->AS->Prop} {st:AS} {ρ:Env} {tm:Array Value} (h:qj ctx fn st R): ∀(ds df:List Nat) (w:World),df.Nodup->(∀D∈df,W.heap.size<=D/\ w.heap[D]? =some (.deferred (some [])))->
  lV aq W (ds.map pJ) st ρ {tmps:=tm,defers:=ds.map pJ} w->
  LeavesInM (fw none) 0 P fn tm (fun e w'=> ∃v,e= .returned (v.ae ρ)/\ v.ok (· <st.heap.length)/\ R v st/\ St aq W ρ (· <st.heap.length) (ai st.heap) w') (df.map pJ) .returning w
 |ds,[],w,_,_,aR=>by
  obtain ⟨v,hr,hok,hR⟩:=wv hT aR h
  exact ⟨_,hr,v,rfl,hok,hR,aR.st⟩
 |ds,D::df,w,hn,hd,aR=>by
  have hD:=hd D (by simp)
  rw [List.nodup_cons] at hn
  refine ⟨by simp,.inl ⟨D,_,rfl,run_takeDeferred hD.2,zv hT h ds df _ hn.2 (fun D' hD'=> ?_) ?_⟩⟩
  ·have:=hd D' (by simp [hD'])
   exact ⟨this.1,by rw [World.putObj_heap_other (by rintro rfl;exact hn.1 hD')];exact this.2⟩
  ·refine ⟨aR.tmps,aR.size,aR.defers,aR.kn,aR.st.put (.inl hD.1) (fun hc=> ?_) fun m p hp=> ?_⟩
   ·obtain ⟨cs,e,f,h2⟩:=hc
    rw [hD.2] at h2;cases h2
   have hk:=aR.st.kn m p hp
   exact ⟨fun h1=>absurd hD.2 (FH (aR.st.at_ m p hp) h1 _),fun _=>hp,by simp [hp],hk.1,hk.2⟩
theorem HG (hT:aK P ctx.tt) (hC:fq P ctx) (hX:ru aq W ctx.X) (hm:P.follows .mixedOrders=true) {f:FuncId} {fn:Func} (hf:P.funcs[f]? =some fn) (mL: ∀c,fn.body=some c->qy P ctx c) {args:List AV} {heap:List aF} {R:AV->AS->Prop}
  (h:HB ctx fn args heap R) {ρ:Env} {w:World} (hargs: ∀x∈args,x.ok (· <heap.length)) (hst:St aq W ρ (· <heap.length) (ai heap) w) (hbd:aq.bd= []):
  Calls P f (args.map (AV.ae ρ)).toArray w fun e w'=> ∃st ρ' v,e= .returned (v.ae ρ')/\ v.ok (· <st.heap.length)/\ R v st/\ St aq W ρ' (· <st.heap.length) (ai st.heap) w':=by
 unfold HB at h
 split at h
 ·rename_i c hb
  refine callsIn_wide.1 (callsIn_of_wp_marks (F:=fw none) (n:=0) hf hb trivial ?_ rfl)
  have aR:D6 aq W ⟨args++List.replicate (fn.ntmps- args.length) ck,heap⟩ ρ {tmps:=(args.map (AV.ae ρ)).toArray++Array.replicate (fn.ntmps- (args.map (AV.ae ρ)).toArray.size) undef,defers:= []} w:=by
   refine ⟨[],List.nodup_nil,fun D hD=>absurd hD (by simp),fun t _=>GV ρ args fn.ntmps t,by simp,by rw [hbd];rfl,fun t=> ?_,hst⟩
   dsimp only
   rw [r9,List.getD,List.getElem?_append]
   split
   ·rename_i hl
    rw [List.getElem?_eq_getElem hl]
    exact hargs _ (List.getElem_mem hl)
   ·rw [List.getElem?_replicate];split<;>exact sM _
  have key: ∀st ρ' a' w',qj ctx fn st R->D6 aq W st ρ' a' w'->LeavesInM (fw none) 0 P fn a'.tmps (fun e w'=> ∃st ρ' v,e= .returned (v.ae ρ')/\ v.ok (· <st.heap.length)/\ R v st/\ St aq W ρ' (· <st.heap.length) (ai st.heap) w') a'.defers .returning w':=by
   rintro st ρ' a' w' hk ⟨ds,c9⟩
   have hdf:=c9.bz.defers
   rw [hbd,List.append_nil] at hdf
   have fF:lV aq W (ds.map pJ) st ρ' {tmps:=a'.tmps,defers:=ds.map pJ} w':=⟨c9.bz.tmps,c9.bz.size,rfl,c9.bz.kn,c9.bz.st⟩
   have:=zv (P:=P) (tm:=a'.tmps) hT hk ds ds w' c9.nd c9.dd fF
   rw [hdf]
   have mono: ∀(l:List Nat) (w:World),LeavesInM (fw none) 0 P fn a'.tmps (fun e w'=> ∃v,e= .returned (v.ae ρ')/\ v.ok (· <st.heap.length)/\ R v st/\ St aq W ρ' (· <st.heap.length) (ai st.heap) w') (l.map pJ) .returning w->
     LeavesInM (fw none) 0 P fn a'.tmps (fun e w'=> ∃st ρ' v,e= .returned (v.ae ρ')/\ v.ok (· <st.heap.length)/\ R v st/\ St aq W ρ' (· <st.heap.length) (ai st.heap) w') (l.map pJ) .returning w:=by
    intro l
    induction l with
    |nil=>rintro w ⟨u,hr,v,h1,h2,h3,h4⟩;exact ⟨u,hr,st,ρ',v,h1,h2,h3,h4⟩
    |cons D l ih=>
     rintro w ⟨h1,h2⟩
     refine ⟨h1,?_⟩
     rcases h2 with ⟨r,w2,h3,h4,h5⟩|⟨_,fv,cap,f,args,h3,_⟩
     ·exact .inl ⟨r,w2,h3,h4,ih w2 h5⟩
     ·simp [pJ] at h3
   exact mono ds w' this
  refine wpIn_mono (oT hT hC hm c (mL c hb) aq W none 0 hX (.inl ⟨rfl,hbd⟩) _ _ h ρ _ w aR) ?_
  rintro e a' w' ⟨st,ρ',hk,c9⟩
  cases e with
  |normal=>exact key st ρ' a' w' hk c9
  |ret=>exact key st ρ' a' w' hk c9
  |_=>exact hk.elim
 ·exact h.elim
theorem iS (hT:aK P ctx.tt) (hC:fq P ctx) (hX:ru aq W ctx.X) (hm:P.follows .mixedOrders=true) {f:FuncId} {fn:Func} (hf:P.funcs[f]? =some fn) (mL: ∀c,fn.body=some c->qy P ctx c) {args:List AV} {heap:List aF} {R:AV->AS->Prop}
  (h:HB ctx fn args heap R) {ρ:Env} {w:World} (hargs: ∀x∈args,x.ok (· <heap.length)) (hst:St aq W ρ (· <heap.length) (ai heap) w):
  Calls P f (args.map (AV.ae ρ)).toArray w fun e w'=> ∃st ρ' v,e= .returned (v.ae ρ')/\ v.ok (· <st.heap.length)/\ R v st/\ St aq W ρ' (· <st.heap.length) (ai st.heap) w':=by
 refine (HG (aq:=aq.z) hT hC hX.z hm hf mL h hargs hst.z rfl).mono ?_
 rintro e w' ⟨st,ρ',v,h1,h2,h3,h4⟩
 exact ⟨st,ρ',v,h1,h2,h3,h4.unz⟩
end
theorem Fr.Tx {aq:e8} {W w:World} (h:Fr yB W w):Fr aq W w:=⟨h.os,h.tape,h.output,h.size,fun k hk _=>h.block k hk id,h.IC⟩
theorem St.called {aq:e8} {W w w':World} {ρ:Env} {Kn:Nat->Prop} {Γ:HP} (h:St aq W ρ Kn Γ w) (hf:Fr yB w w'):St aq W ρ Kn Γ w':=
 h.world (h.fr.trans hf.Tx) fun b hb=>hf.block b hb id
end Go.Ev
