/- Code and functions, out of the condition 'codeE'. -/
import Derived.Test.YtngdehlpoomaiaaGreatEvM
noncomputable section
set_option linter.unusedSectionVars false
set_option linter.unusedVariables false
set_option linter.unusedSimpArgs false
namespace Go.Ev
open Go.RowKit
section
variable {P:Program} {ctx:Ctx} {au:eW} {W:World}
def Snd (P:Program) (ctx:Ctx) (c:Code):Prop:= ∀au W ro n,rD au W ctx.X->((ro=none/\ au.bd= [])\/ lA c=true)-> ∀st K,cz ctx c st K-> ∀ρ a w,Et au W st ρ a w->c.wpIn (fw ro) n P (Post au W K) a w
theorem St.Ug {au:eW} {W:World} {ρ:Env} {h:List aG} {w:World} {n l:Nat} {r:Loop} {s:LoopState} {j:Option Code} (hst:St au W ρ (· <h.length) (aj h) w) (hn:aj h n=some (.loop r s j)) (hl:(ρ n).blk=some l)
  (s':LoopState) (j':Option Code):St au W ρ (· <h.length) (aj (h.set n (.loop r s' j'))) (w.putObj l (.loop {r with state:=s',pending:=j'})):=by
 have hlt:=eu hn
 have hw:l<w.heap.size:=Ge (hst.at_ n _ hn) hl
 have hown:=hst.own n l (by simp [hn]) hl
 refine hst.put hown (fun hc=> ?_) fun m p hp=> ?_
 ·obtain ⟨b,hb,hh⟩:=hst.at_ n _ hn
  rw [hl] at hb;cases hb
  obtain ⟨cs,e,f,h2⟩:=hc
  rw [hh] at h2;cases h2
 rw [br,List.getElem?_set] at hp
 by_cases e:n=m
 ·subst e
  rw [if_pos rfl,if_pos hlt] at hp
  cases hp
  exact ⟨fun _ _ _=>⟨l,hl,World.putObj_heap_same hw⟩,fun h=>absurd hl h,by simp [hn],hlt,trivial⟩
 ·rw [if_neg e,←br] at hp
  have hk:=hst.kn m p hp
  exact ⟨fun h1=>absurd (hst.inj n m l (by simp [hn]) (by simp [hp]) hl h1) e,fun _=>hp,by simp [hp],hk.1,hk.2⟩
theorem St.aaE {au:eW} {W:World} {ρ:Env} {h:List aG} {w:World} {n l:Nat} {r:Loop} {s:LoopState} {j:Option Code} (hst:St au W ρ (· <h.length) (aj h) w) (hn:aj h n=some (.loop r s j)) (hl:(ρ n).blk=some l) (o:Obj):
  St au W ρ (· <(h.set n .gone).length) (aj (h.set n .gone)) (w.putObj l o):=by
 have hlt:=eu hn
 have hown:=hst.own n l (by simp [hn]) hl
 rw [List.length_set]
 refine hst.put hown (fun hc=> ?_) fun m p hp=> ?_
 ·obtain ⟨b,hb,hh⟩:=hst.at_ n _ hn
  rw [hl] at hb;cases hb
  obtain ⟨cs,e,f,h2⟩:=hc
  rw [hh] at h2;cases h2
 rw [br,List.getElem?_set] at hp
 by_cases e:n=m
 ·subst e
  rw [if_pos rfl,if_pos hlt] at hp
  cases hp
 ·rw [if_neg e,←br] at hp
  have hk:=hst.kn m p hp
  exact ⟨fun h1=>absurd (hst.inj n m l (by simp [hn]) (by simp [hp]) hl h1) e,fun _=>hp,by simp [hp],hk.1,hk.2⟩
theorem wR {h:List aG} {n:Nat} {o:aG} :(h.set n o).length=h.length:=List.length_set
theorem abn {assign body:Code} (ha:Snd P ctx assign) (hb:Snd P ctx body) (hra:lA assign=true) (hrb:lA body=true) {ps:Array Tmp} {xN:List AV} {n0 l:Nat} {iY:Env} {r:Loop} (hl:(iY n0).blk=some l)
  (hr:r.state= .ready/\ r.pending=none/\ r.params=ps/\ r.assign=assign/\ r.body=body) (hts:r.tmps.size=xN.length) (htm: ∀t,bP xN t≠ .dead->r.tmps.getD t undef=(bP xN t).ae iY) (htk: ∀t,(bP xN t).ok (· <n0)):
  mU P [(n0,afy ctx.X n0 xN r iY ps (cz ctx assign) (cz ctx body))]:=by
 intro n s hs X args hp nm k h
 unfold aJ at hs
 split at hs
 rotate_left
 ·cases hs
 rename_i en
 subst en
 cases hs
 unfold afy at h
 obtain ⟨hXX,h⟩:=h
 subst hXX
 split at h
 rotate_left
 ·exact h.elim
 rename_i hsz
 obtain ⟨hp1,h⟩:=cZ h
 obtain ⟨hp0,h⟩:=FW h
 intro ro m au W ρ w hX hargs hst
 have wZ:=hst.at_ _ _ hp1
 have ajm: ∀i,i<n0+1->ρ i=iY i:=wZ.2
 have hln:(ρ n0).blk=some l:=by rw [ajm n0 (by omega)];exact hl
 obtain ⟨l',hl',DE⟩:=hst.at_ _ _ hp0
 rw [hln] at hl';cases hl'
 have hre:({r with state:= .ready,pending:=none} :Loop)=r:=by cases r;simp only at hr;obtain ⟨rfl,rfl,_⟩:=hr;rfl
 rw [hre] at DE
 have hn0:n0+1<nm:=(hst.kn _ _ hp1).1
 have Js: ∀m,hp m≠some .gone:=fun m e=>hst.at_ m _ e
 have hkl: ∀m,(hp m).isSome=true->m<nm:=fun m hm=>by
  obtain ⟨o,ho⟩:=Option.isSome_iff_exists.1 hm
  exact (hst.kn m o ho).1
 refine ⟨l,r.fn,(r.params.zip (args.map (AV.ae ρ)).toArray).foldl (fun tmps (x:Tmp×Value)=>tmps.setIfInBounds x.1 x.2) r.tmps,assign,body,hln,?_,?_⟩
 ·have:=run_yield (P:=P) (args:=(args.map (AV.ae ρ)).toArray) DE (by simp [hr.2.2.1,hsz])
  rw [this,hr.2.2.2.1,hr.2.2.2.2]
 let Cz:=gQ hp nm++ [aG.bT ρ nm]
 let ta:=bu ρ nm {}
 have h3l:Cz.length=nm+1:=by simp [Cz,bK]
 have eK: ∀m,m<nm->ta m=ρ m:=fun m hm=>by simp only [ta,bu];rw [if_neg (by omega)]
 have D3: ∀m o,aj Cz m=some o->(m<nm/\ hp m=some o)\/ (m=nm/\ o= .bT ρ nm):=by
  intro m o ho
  rw [br] at ho
  rcases Nat.lt_or_ge m nm with h1|h1
  ·rw [List.getElem?_append_left (by rw [bK];exact h1),CP h1 (Js m)] at ho
   exact .inl ⟨h1,ho⟩
  ·have:m<Cz.length:=eu (by rw [br];exact ho)
   have:m=nm:=by omega
   subst this
   rw [List.getElem?_append_right (by rw [bK];exact Nat.le_refl _),bK] at ho
   simp only [Nat.sub_self,List.getElem?_cons_zero,live,Option.some.injEq] at ho
   exact .inr ⟨rfl,ho.symm⟩
 have ag9: ∀b,dA ρ hp w b->dA ta (aj Cz) w b/\ w.heap[b]? =w.heap[b]? :=fun b hb=>by
  refine ⟨⟨hb.1,?_⟩,rfl⟩
  rintro (⟨m,h1,h2⟩|⟨m,S,h1,h2⟩)
  ·obtain ⟨o,ho⟩:=Option.isSome_iff_exists.1 h1
   rcases D3 m o ho with ⟨h3,h4⟩|⟨rfl,rfl⟩
   ·rw [eK m h3] at h2
    exact hb.2 (.inl ⟨m,by simp [h4],h2⟩)
   ·simp [ta,bu] at h2
  ·rcases D3 m _ h1 with ⟨h3,h4⟩|⟨rfl,e⟩
   ·exact hb.2 (.inr ⟨m,S,h4,h2⟩)
   ·cases e
 have uK:St au W ta (· <Cz.length) (aj Cz) w:=by
  refine ⟨hst.fr,fun m o ho=> ?_,fun m o ho=> ?_,fun m m' b hm hm' fC dI=> ?_,fun m b hm hb=> ?_,fun b ⟨m,S,h1,h2⟩=> ?_,fun m o ho=> ?_⟩
  rotate_right
  ·rcases D3 m o ho with ⟨h1,h2⟩|⟨rfl,rfl⟩
   ·rw [eK m h1];exact hst.tg m o h2
   ·exact .inr (by simp [ta,bu])
  rotate_right
  ·rcases D3 m _ h1 with ⟨_,h4⟩|⟨_,e⟩
   ·obtain ⟨h5,h6⟩:=hst.oX b ⟨m,S,h4,h2⟩
    refine ⟨h5,fun ⟨n,h7,h8⟩=> ?_⟩
    obtain ⟨o,ho⟩:=Option.isSome_iff_exists.1 h7
    rcases D3 n o ho with ⟨h9,h10⟩|⟨rfl,rfl⟩
    ·rw [eK n h9] at h8
     exact h6 ⟨n,by simp [h10],h8⟩
    ·simp [ta,bu] at h8
   ·cases e
  ·rcases D3 m o ho with ⟨h1,h2⟩|⟨rfl,rfl⟩
   ·have hk:=hst.kn m o h2
    exact ck (Kn:=(· <nm)) (hst.at_ m o h2) eK h1 hk.2 ag9 (fun _ _ h=>h) fun _ _=>rfl
   ·exact ⟨by simp [ta,bu],eK⟩
  ·rcases D3 m o ho with ⟨h1,h2⟩|⟨rfl,rfl⟩
   ·exact ⟨by rw [h3l];omega,aG.aR (fun i hi=>by rw [h3l];omega) o (hst.kn m o h2).2⟩
   ·exact ⟨by rw [h3l];omega,fun i hi=>by rw [h3l];omega⟩
  ·obtain ⟨o,ho⟩:=Option.isSome_iff_exists.1 hm
   obtain ⟨o',Bk⟩:=Option.isSome_iff_exists.1 hm'
   rcases D3 m o ho with ⟨h1,h2⟩|⟨rfl,rfl⟩
   ·rcases D3 m' o' Bk with ⟨h3,h4⟩|⟨rfl,rfl⟩
    ·rw [eK m h1] at fC;rw [eK m' h3] at dI
     exact hst.dz m m' b (by simp [h2]) (by simp [h4]) fC dI
    ·simp [ta,bu] at dI
   ·simp [ta,bu] at fC
  ·obtain ⟨o,ho⟩:=Option.isSome_iff_exists.1 hm
   rcases D3 m o ho with ⟨h1,h2⟩|⟨rfl,rfl⟩
   ·rw [eK m h1] at hb
    exact hst.jP m b (by simp [h2]) hb
   ·simp [ta,bu] at hb
 have amA: ∀t,bP xN t≠ .dead->r.tmps.getD t undef=(bP xN t).ae ta:=fun t ht=>by
  rw [htm t ht]
  refine (AV.bq (Kn:=(· <n0)) (fun i hi=> ?_) _ (htk t)).symm
  rw [eK i (by omega),ajm i (by omega)]
 have Zz:args.map (AV.ae ρ)=args.map (AV.ae ta):=List.map_congr_left fun x hx=>(AV.bq (Kn:=(· <nm)) eK x (hargs x hx)).symm
 obtain ⟨hs1,hs2⟩:=GD ta ps.toList xN args r.tmps hts amA
 have alS:Et au.z W ⟨Ai xN ps.toList args,Cz⟩ ta {tmps:=(r.params.zip (args.map (AV.ae ρ)).toArray).foldl (fun tmps (x:Tmp×Value)=>tmps.setIfInBounds x.1 x.2) r.tmps,defers:= []} w:=by
  refine ⟨[],List.nodup_nil,fun D hD=>absurd hD (by simp),⟨fun t ht=> ?_,?_,rfl,fun t=> ?_,uK.z⟩⟩
  ·dsimp only
   rw [hr.2.2.1,Zz,Jn]
   exact hs2 t ht
  ·dsimp only
   rw [hr.2.2.1,Zz,Jn,Aj]
   exact hs1
  ·refine Px _ _ _ (fun t=>AV.aR (fun i hi=> ?_) _ (htk t)) (fun v hv=>AV.aR (fun i hi=> ?_) _ (hargs v hv)) t<;>(dsimp only;rw [h3l];omega)
 refine roundIn_of_wpIn trivial ?_
 refine wpIn_mono (ha au.z W (some l) m hX.z (.inr hra) _ _ (h ρ) ta _ w alS) ?_
 rintro e a1 w1 ⟨kI,ρ',X4,cy⟩
 cases e<;>try exact X4.elim
 obtain ⟨hq1,X4⟩:=cZ X4
 obtain ⟨Wo,X4⟩:=FW X4
 obtain ⟨ds1,cy⟩:=cy
 have alQ: ∀i,i<nm->ρ' i=ρ i:=(cy.bz.st.at_ _ _ hq1).2
 have hl1:(ρ' n0).blk=some l:=by rw [alQ n0 (by omega)];exact hln
 obtain ⟨l1,ajD,afW⟩:=cy.bz.st.at_ _ _ Wo
 rw [hl1] at ajD;cases ajD
 refine ⟨_,run_beginRound afW rfl,?_⟩
 have aej:=cy.bz.st.Ug Wo hl1 .busy none
 have hD: ∀D∈ds1,D≠l:=by
  rintro D hD rfl
  have:=(cy.dd D hD).2
  rw [afW] at this;cases this
 have alT:Et au.z W ⟨kI.tmps,kI.heap.set n0 (.loop r .busy none)⟩ ρ' a1 (w1.putObj l (.loop {r with state:= .busy,pending:=none})):=by
  refine ⟨ds1,cy.nd,fun D hd=>⟨(cy.dd D hd).1,?_⟩,⟨cy.bz.tmps,cy.bz.size,cy.bz.defers,fun t=> ?_,?_⟩⟩
  ·rw [World.putObj_heap_other (hD D hd)];exact (cy.dd D hd).2
  ·dsimp only;rw [wR];exact cy.bz.kn t
  ·dsimp only;rw [wR];exact aej
 refine wpIn_mono (hb au.z W (some l) m hX.z (.inr hrb) _ _ X4 ρ' _ _ alT) ?_
 rintro e a2 w2 ⟨qF,ρ4,ZU,ds2,eI⟩
 have fin: ∀jump:Option Code,vf hp nm n0 r ρ qF.heap jump k-> ∃v w',(Instr.endRound l jump).run P w2= .ok v w'/\ ∃r ρ',k r/\ (∀p∈r.writes,hp p.1≠none)/\ Ending.returned v= .returned (r.val.ae ρ')/\ (∀m,m<nm->ρ' m=ρ m)/\ r.val.ok (mG (· <nm) nm r)/\ St au W ρ' (mG (· <nm) nm r) (bO r nm hp) w':=by
  intro jump hk
  unfold vf at hk
  obtain ⟨hb0,hk⟩:=OG hk
  obtain ⟨fC,hk⟩:=cZ hk
  have ajl: ∀i,i<nm->ρ4 i=ρ i:=(eI.bz.st.at_ _ _ fC).2
  have Nd:(ρ4 n0).blk=some l:=by rw [ajl n0 (by omega)];exact hln
  obtain ⟨l2,ajE,ajP⟩:=eI.bz.st.at_ _ _ hb0
  rw [Nd] at ajE;cases ajE
  refine ⟨_,_,run_endRound jump ajP,_,ρ4,hk,fun p hp=>zy hp,rfl,ajl,trivial,?_⟩
  have hlen:=eu fC
  have ajR:=eI.bz.st.Ug hb0 Nd (if jump.isNone then .ready else .done) jump
  obtain ⟨e1,e2⟩:=EN (hp:=hp) (nm:=nm) (v:=bD jump.isNone) (h:=qF.heap.set n0 (Mk r jump)) (by rw [wR];exact hlen)
  unfold afJ
  rw [e2,wR]
  have e3:Mk r jump= .loop r (if jump.isNone then .ready else .done) jump:=by cases jump<;>rfl
  rw [e3] at e1 ⊢
  refine (St.unz ajR).less fun i o ho=> ?_
  have:=e1 i o ho (Js i) hkl
  exact ⟨this,ajR.kn i o this⟩
 cases e with
 |normal=>exact fin none ZU
 |ret=>exact fin (some .ret) ZU
 |exit id=>exact fin (some (.exit id)) ZU
 |_=>exact ZU.elim
theorem pB (hT:cP P ctx.tt) (hC:eB P ctx) (hm:P.follows .mixedOrders=true): ∀(c:Code),qG P ctx c->Snd P ctx c:=by
 intro c
 induction c with
 |skip=>intro _ au W ro n hX _ st K h ρ a w aO;exact wpIn_skip ⟨st,ρ,h,aO⟩
 |region id ops draw=>
  intro _ au W ro n hX _ st K h ρ a w ⟨ds,aO⟩
  have hX':=hX.sI aO.bz.st
  cases draw with
  |false=>
   have h:mL ctx ops ops.toList [] st [] fun st' _=>K .normal st':=h
   exact wpIn_region_list (jx hT hC hX' ops ops.toList [] st [] _ h (fun st' _ ρ' a' w' hk cW=>⟨st',ρ',hk,ds,aO.back cW⟩) ρ a w aO.base)
  |true=>
   refine wpIn_mono (TE hT hC.sp hm hX' ro n id ops st (K .normal) h ρ a w aO.base) ?_
   rintro e a' w' ⟨st',ρ',⟨rfl,hk⟩,cW⟩
   exact ⟨st',ρ',hk,ds,aO.back cW⟩
 |seq x y ihx ihy=>
  intro mJ au W ro n hX hro st K h ρ a w aO
  have ahm:(ro=none/\ au.bd= [])\/ lA x=true:=hro.imp id fun h=>by simp only [lA,Bool.and_eq_true] at h;exact h.1
  have ahn:(ro=none/\ au.bd= [])\/ lA y=true:=hro.imp id fun h=>by simp only [lA,Bool.and_eq_true] at h;exact h.2
  refine wpIn_seq (wpIn_mono (ihx mJ.1 au W ro n hX ahm st _ h ρ a w aO) ?_)
  rintro e a' w' ⟨st',ρ',hk,cW⟩
  cases e with
  |normal=>exact ihy mJ.2 au W ro n hX ahn st' K hk ρ' a' w' cW
  |_=>exact ⟨st',ρ',hk,cW⟩
 |cond c x y ihx ihy=>
  intro mJ au W ro n hX hro st K h ρ a w aO
  have ahm:(ro=none/\ au.bd= [])\/ lA x=true:=hro.imp id fun h=>by simp only [lA,Bool.and_eq_true] at h;exact h.1
  have ahn:(ro=none/\ au.bd= [])\/ lA y=true:=hro.imp id fun h=>by simp only [lA,Bool.and_eq_true] at h;exact h.2
  unfold cz at h
  split at h
  ·rename_i t hc
   have:=aO.eval c (by rw [hc];simp)
   rw [hc] at this
   exact wpIn_cond_split this (fun ht=>ihx mJ.1 au W ro n hX ahm st K (by subst ht;exact h) ρ a w aO) (fun ht=>ihy mJ.2 au W ro n hX ahn st K (by subst ht;exact h) ρ a w aO)
  ·exact h.elim
 |block id c ih=>
  intro mJ au W ro n hX hro st K h ρ a w aO
  unfold cz at h
  unfold qG at mJ
  split at h
  ·rename_i sp hsp
   rw [hsp] at mJ
   exact mJ au W ro n hX hro st K h ρ a w aO
  ·rename_i hsp
   rw [hsp] at mJ
   exact tM (ih mJ au W ro n hX hro st _ h ρ a w aO)
 |loop c ih=>
  intro mJ au W ro n hX ahl st K h ρ a w aO
  obtain ⟨I,⟨m,stw,hw0,h0⟩,hr⟩:=h
  intro b k cs hro hb hroom
  have key: ∀m a w,(∃st ρ,I m st/\ Et au W st ρ a w)-> ∃e a' w',Post au W K e a' w'/\ ArrivesIn (Machine.fenced P (fw ro)) P (lone (b.atR a (.code c:: .inLoop c::k)) cs w) b k cs e a' w':=by
   intro m
   induction m using Nat.strongRecOn with
   |_ m ihm=>
    rintro a w ⟨st,ρ,hI,aO⟩
    obtain ⟨e,a1,w1,⟨kI,aQ,hk,cy⟩,hO⟩:=ih mJ au W ro n hX ahl st _ (hr m st hI) ρ a w aO b (.inLoop c::k) cs hro hb hroom
    cases e with
    |normal=>
     obtain ⟨m',st',hm,hw,hI'⟩:=hk
     obtain ⟨iY,eI⟩:=cy.weak hw
     obtain ⟨e2,a2,w2,hq2,Fz⟩:=ihm m' hm a1 w1 ⟨st',iY,hI',eI⟩
     exact ⟨e2,a2,w2,hq2,.of_steps (StepsIn.trans hO (.one (fenced_calm hb hroom rfl) stepR_inLoop)) Fz⟩
    |exit id=>exact ⟨_,a1,w1,⟨kI,aQ,hk,cy⟩,.pass (x:= .inLoop c) rfl (fun _ _=> .inl (by simp)) hO⟩
    |goto l=>exact ⟨_,a1,w1,⟨kI,aQ,hk,cy⟩,.pass (x:= .inLoop c) rfl (fun _ _=> .inl (by simp)) hO⟩
    |ret=>exact ⟨_,a1,w1,⟨kI,aQ,hk,cy⟩,.pass (x:= .inLoop c) rfl (fun _ _=> .inl (by simp)) hO⟩
    |panic ch=>exact ⟨_,a1,w1,⟨kI,aQ,hk,cy⟩,.pass (x:= .inLoop c) rfl (fun _ _=> .inl (by simp)) hO⟩
    |outgrown=>exact ⟨_,a1,w1,⟨kI,aQ,hk,cy⟩,.pass (x:= .inLoop c) rfl (fun _ _=> .inl (by simp)) hO⟩
  obtain ⟨aV,DA⟩:=aO.weak hw0
  obtain ⟨e,a',w',hq,hO⟩:=key m a w ⟨stw,aV,h0,DA⟩
  exact ⟨e,a',w',hq,.of_steps (.one (fenced_calm hb hroom rfl) stepR_loop) hO⟩
 |exit id=>intro _ au W ro n hX _ st K h ρ a w aO;exact wpIn_exit ⟨st,ρ,h,aO⟩
 |ret=>intro _ au W ro n hX _ st K h ρ a w aO;exact wpIn_ret ⟨st,ρ,h,aO⟩
 |rangeFunc g ps assign body Mf Mg=>
  intro mJ au W ro n hX hro st K h ρ a w ⟨ds,aO⟩
  obtain ⟨hro,hbd⟩:=hro.resolve_right (by simp [lA])
  subst hro
  unfold cz at h
  split at h
  rotate_left
  ·exact h.elim
  rename_i hrf
  simp only [Bool.and_eq_true] at hrf
  split at h
  rotate_left
  ·exact h.elim
  rename_i f cap hg
  split at h
  rotate_left
  ·exact h.elim
  rename_i R6 ZR
  obtain ⟨x8,ZR⟩:=hC.its f R6 ZR
  have lO:=aO.bz.eval g (by rw [hg];simp)
  rw [hg] at lO
  have hgk:=aO.bz.LV g
  rw [hg] at hgk
  obtain ⟨N,hN⟩: ∃N,N=st.heap.length:=⟨_,rfl⟩
  refine wpIn_rangeFunc fun fn _=> ?_
  obtain ⟨r,OB⟩: ∃r:Loop,r= {state:= .ready,pending:=none,fn:=fn,tmps:=a.tmps,params:=ps,assign:=assign,body:=body,defers:=w.heap.size} :=⟨_,rfl⟩
  obtain ⟨W1,hW1⟩: ∃W1,W1=(w.alloc (.deferred (some []))).alloc (.loop r):=⟨_,rfl⟩
  have hD1:W1.heap[w.heap.size]? =some (.deferred (some [])):=by
   rw [hW1];exact (Below.heap_alloc _ _ _ (by simp)).trans (World.alloc_heap_new w _)
  have hL1:W1.heap[w.heap.size+1]? =some (.loop r):=by
   rw [hW1];have:=World.alloc_heap_new (w.alloc (.deferred (some []))) (.loop r);rwa [World.size_alloc] at this
  have Jv: ∀b,b<w.heap.size->W1.heap[b]? =w.heap[b]? :=fun b hb=>by
   rw [hW1];exact (Below.heap_alloc _ _ _ (by simp;omega)).trans (Below.heap_alloc _ _ _ hb)
  have hS1:W1.heap.size=w.heap.size+2:=by rw [hW1];simp
  let iY:Env:=fun m=>if m=N then {blk:=some (w.heap.size+1)} else if m=N+1 then {} else ρ m
  let xn:=st.heap++ [aG.loop r .ready none,.bT iY (N+1)]
  have Nd:xn.length=N+2:=by simp [xn,hN]
  have uI: ∀m,m<N->iY m=ρ m:=fun m hm=>by simp only [iY];rw [if_neg (by omega),if_neg (by omega)]
  have RH:iY N= {blk:=some (w.heap.size+1)} :=by simp [iY]
  have hp2:iY (N+1)= {} :=by simp [iY]
  have pQ: ∀m o,aj xn m=some o->(m<N/\ aj st.heap m=some o)\/ (m=N/\ o= .loop r .ready none)\/ (m=N+1/\ o= .bT iY (N+1)):=by
   intro m o ho
   have hlt:=eu ho
   rw [br] at ho
   rcases Nat.lt_or_ge m N with h1|h1
   ·rw [List.getElem?_append_left (by omega),←br] at ho
    exact .inl ⟨h1,ho⟩
   ·rw [List.getElem?_append_right (by omega),←hN] at ho
    have:m=N\/ m=N+1:=by omega
    rcases this with rfl|rfl
    ·simp only [Nat.sub_self,List.getElem?_cons_zero,live,Option.some.injEq] at ho
     exact .inr (.inl ⟨rfl,ho.symm⟩)
    ·simp only [show N+1- N=1 by omega,List.getElem?_cons_succ,List.getElem?_cons_zero,live,Option.some.injEq] at ho
     exact .inr (.inr ⟨rfl,ho.symm⟩)
  have al2:Fr au W W1:=by
   rw [hW1];exact (aO.bz.st.fr.alloc _).alloc _
  have ahe: ∀m o b,aj st.heap m=some o->(ρ m).has b->b<w.heap.size:=fun m o b ho hb=>aO.bz.st.lt m b (by rw [ho];rfl) hb
  have BO:St au W iY (· <xn.length) (aj xn) W1:=by
   have hre:({r with state:= .ready,pending:=none} :Loop)=r:=by rw [OB]
   have Ov: ∀b,dA ρ (aj st.heap) w b->dA iY (aj xn) W1 b/\ W1.heap[b]? =w.heap[b]? :=fun b hb=>by
    refine ⟨⟨hb.1.same (Jv b hb.1.lt),?_⟩,Jv b hb.1.lt⟩
    rintro (⟨m,h1,h2⟩|⟨m,S,h1,h2⟩)
    ·obtain ⟨o,ho⟩:=Option.isSome_iff_exists.1 h1
     rcases pQ m o ho with ⟨h3,h4⟩|⟨rfl,rfl⟩|⟨rfl,rfl⟩
     ·rw [uI m h3] at h2
      exact hb.2 (.inl ⟨m,by simp [h4],h2⟩)
     ·rw [RH] at h2;cases iZ.1 h2
      have:=hb.1.lt;omega
     ·rw [hp2] at h2;cases iZ.1 h2
    ·rcases pQ m _ h1 with ⟨h3,h4⟩|⟨rfl,e⟩|⟨rfl,e⟩
     ·exact hb.2 (.inr ⟨m,S,h4,h2⟩)
     ·cases e
     ·cases e
   refine ⟨al2,fun m o ho=> ?_,fun m o ho=> ?_,fun m m' b hm hm' fC dI=> ?_,fun m b hm hb=> ?_,fun b ⟨m,S,h1,h2⟩=> ?_,fun m o ho=> ?_⟩
   rotate_right
   ·rcases pQ m o ho with ⟨h1,h2⟩|⟨rfl,rfl⟩|⟨rfl,rfl⟩
    ·rw [uI m h1];exact aO.bz.st.tg m o h2
    ·exact .inr (by rw [RH])
    ·exact .inr (by rw [hp2])
   rotate_right
   ·rcases pQ m _ h1 with ⟨_,h4⟩|⟨_,e⟩|⟨_,e⟩
    ·obtain ⟨h5,h6⟩:=aO.bz.st.oX b ⟨m,S,h4,h2⟩
     refine ⟨by rw [hS1];omega,fun ⟨n,h7,h8⟩=> ?_⟩
     obtain ⟨o,ho⟩:=Option.isSome_iff_exists.1 h7
     rcases pQ n o ho with ⟨h9,h10⟩|⟨rfl,rfl⟩|⟨rfl,rfl⟩
     ·rw [uI n h9] at h8
      exact h6 ⟨n,by simp [h10],h8⟩
     ·rw [RH] at h8;cases iZ.1 h8;omega
     ·rw [hp2] at h8;cases iZ.1 h8
    ·cases e
    ·cases e
   ·rcases pQ m o ho with ⟨h1,h2⟩|⟨rfl,rfl⟩|⟨rfl,rfl⟩
    ·have hk:=aO.bz.st.kn m o h2
     exact ck (Kn:=(· <st.heap.length)) (aO.bz.st.at_ m o h2) (fun i hi=>uI i (by omega)) (by omega) hk.2 Ov (fun _ _ h=>h) fun b hb=>Jv b (ahe m o b h2 hb)
    ·exact ⟨w.heap.size+1,by rw [RH],by rw [hre];exact hL1⟩
    ·exact ⟨by rw [hp2],fun _ _=>rfl⟩
   ·rcases pQ m o ho with ⟨h1,h2⟩|⟨rfl,rfl⟩|⟨rfl,rfl⟩
    ·exact ⟨by omega,aG.aR (fun i hi=>by omega) o (aO.bz.st.kn m o h2).2⟩
    ·exact ⟨by omega,trivial⟩
    ·exact ⟨by omega,fun i hi=>by omega⟩
   ·obtain ⟨o,ho⟩:=Option.isSome_iff_exists.1 hm
    obtain ⟨o',Bk⟩:=Option.isSome_iff_exists.1 hm'
    rcases pQ m o ho with ⟨h1,h2⟩|⟨rfl,rfl⟩|⟨rfl,rfl⟩
    ·rw [uI m h1] at fC
     have hlt:=ahe m o b h2 fC
     rcases pQ m' o' Bk with ⟨h3,h4⟩|⟨rfl,rfl⟩|⟨rfl,rfl⟩
     ·rw [uI m' h3] at dI
      exact aO.bz.st.dz m m' b (by simp [h2]) (by simp [h4]) fC dI
     ·rw [RH] at dI;cases iZ.1 dI;omega
     ·rw [hp2] at dI;cases iZ.1 dI
    ·rw [RH] at fC;cases iZ.1 fC
     rcases pQ m' o' Bk with ⟨h3,h4⟩|⟨rfl,rfl⟩|⟨rfl,rfl⟩
     ·rw [uI m' h3] at dI
      have:=ahe m' o' _ h4 dI;omega
     ·rfl
     ·rw [hp2] at dI;cases iZ.1 dI
    ·rw [hp2] at fC;cases iZ.1 fC
   ·obtain ⟨o,ho⟩:=Option.isSome_iff_exists.1 hm
    rcases pQ m o ho with ⟨h1,h2⟩|⟨rfl,rfl⟩|⟨rfl,rfl⟩
    ·rw [uI m h1] at hb
     exact aO.bz.st.jP m b (by simp [h2]) hb
    ·rw [RH] at hb;cases iZ.1 hb
     have:=aO.bz.st.fr.size
     exact .inl (by omega)
    ·rw [hp2] at hb;cases iZ.1 hb
  have uK:=BO.sI (N:=xn.length) fun m o ho=>⟨eu ho,(BO.kn m o ho).2⟩
  have hX3:=hX.sI BO
  have hys:=abn (P:=P) (ctx:=ctx) (Mf mJ.1) (Mg mJ.2) hrf.1 hrf.2 (ps:=ps) (xN:=st.tmps) (n0:=N) (l:=w.heap.size+1) (iY:=iY) (r:=r) (by rw [RH]) (by rw [OB];exact ⟨rfl,rfl,rfl,rfl,rfl⟩)
   (by rw [OB];exact aO.bz.size) (fun t ht=>by
    rw [OB]
    show a.tmps.getD t undef=_
    rw [aO.bz.tmps t ht]
    exact (AV.bq (Kn:=(· <st.heap.length)) (fun i hi=>uI i (by omega)) _ (aO.bz.kn t)).symm) (fun t=>by have:=aO.bz.kn t;rwa [<- hN] at this)
  have hcap: ∀x∈cap.map zY,x.ok (· <st.heap.length):=fun x hx=>by
   obtain ⟨q,hq,rfl⟩:=List.mem_map.1 hx
   exact O7 (hgk q hq)
  have uw:=ZR _ _ _ _ (h r iY) (by rw [<- hN];exact hys) (lb au W iY (aj xn) W1) W1 iY W1 hX3 (by
    intro x hx
    rcases List.mem_cons.1 hx with rfl|hx
    ·show st.heap.length<_
     simp
    ·exact AV.aR (fun i hi=>by simp;omega) x (hcap x hx)) (by
    have:st.heap++ [aG.loop r .ready none,.bT iY (st.heap.length+1)]=xn:=by simp only [xn,hN]
    rw [this];exact uK)
  refine ⟨w.heap.size+1,[pV w.heap.size],W1,{target:= .fn (.func f) (cap.map (Ref.ae ρ)).toArray,args:= #[.func (.yield (w.heap.size+1)) #[] #[]]},W1,f,#[.func (.yield (w.heap.size+1)) #[] #[]]++(cap.map (Ref.ae ρ)).toArray,W1,?_,?_,fun _ _=>trivial,?_,fun h=>by simp [fw] at h,rI ?_⟩
  ·have:=run_enterLoop_outer (P:=P) (w:=w) fn a.tmps ps assign body
   rw [hW1,OB];exact this
  ·simp only [resolve,lO,AV.ae,A0.ae,Cell.ae]
   simp [go_sem]
  ·simp only [invoke,Sem.run_bind,Sem.run_pure,Result.andThen_ok]
   have:=x8 (#[.func (.yield (w.heap.size+1)) #[] #[]]++(cap.map (Ref.ae ρ)).toArray) W1
   simpa using this
  have ag0:(((AV.v (.one (.Ic st.heap.length))::cap.map zY).map (AV.ae iY)).toArray:Array Value)= #[.func (.yield (w.heap.size+1)) #[] #[]]++(cap.map (Ref.ae ρ)).toArray:=by
   apply Array.ext'
   simp only [List.map_cons,List.map_map,AV.ae,A0.ae,Cell.ae,<- hN,RH,Array.toList_append,List.cons_append,List.nil_append,List.cons.injEq,true_and]
   refine List.map_congr_left fun q hq=> ?_
   show (zY q).ae iY=q.ae ρ
   rw [sr]
   exact Ref.bq (Kn:=(· <st.heap.length)) (fun i hi=>uI i (by omega)) q (hgk q hq)
  rw [ag0] at uw
  refine uw.mono ?_
  rintro e w' ⟨qF,ρ',v,rfl,_,hR,aek⟩
  unfold Uf at hR
  obtain ⟨hpe,hR⟩:=cZ hR
  rw [<- hN] at hpe hR
  have ql: ∀i,i<N+1->ρ' i=iY i:=(aek.at_ _ _ hpe).2
  have hlN:(ρ' N).blk=some (w.heap.size+1):=by rw [ql N (by omega),RH]
  have anE:=eu hpe
  have behind: ∀(r':Loop) (s:LoopState) (j:Option Code),aj qF.heap N=some (.loop r' s j)->s≠ .busy->
    (Instr.endLoop (w.heap.size+1)).run P w'= .ok j (w'.putObj (w.heap.size+1) (.loop {r' with state:= .exhausted,pending:=j}))/\
    Et au W ⟨st.tmps,(qF.heap.set N .gone).set (N+1) .gone⟩ ρ' {a with defers:= [pV w.heap.size]++a.defers} (w'.putObj (w.heap.size+1) (.loop {r' with state:= .exhausted,pending:=j})):=by
   intro r' s j hj hs
   obtain ⟨l,hl,DE⟩:=aek.at_ _ _ hj
   rw [hlN] at hl;cases hl
   refine ⟨run_endLoop DE hs,w.heap.size::ds,?_,?_,?_⟩
   ·refine List.nodup_cons.2 ⟨fun hm=> ?_,aO.nd⟩
    have:=(Array.getElem?_eq_some_iff.1 (aO.dd _ hm).2).1
    omega
   ·intro D hD
    have hDW:W.heap.size<=D/\ W1.heap[D]? =some (.deferred (some [])):=by
     rcases List.mem_cons.1 hD with rfl|hD
     ·exact ⟨aO.bz.st.fr.size,hD1⟩
     ·have h1:=aO.dd D hD
      exact ⟨h1.1,by rw [Jv D (Array.getElem?_eq_some_iff.1 h1.2).1];exact h1.2⟩
    refine ⟨hDW.1,?_⟩
    have hne:D≠w.heap.size+1:=by
     rintro rfl
     have:=hDW.2;rw [hL1] at this;cases this
    rw [World.putObj_heap_other hne,aek.fr.block D (Array.getElem?_eq_some_iff.1 hDW.2).1 (Ua BO hDW.2)]
    exact hDW.2
   ·have amy:=((BO.abZ aek).aaE hj hlN (.loop {r' with state:= .exhausted,pending:=j})).YZ (N+1)
    refine ⟨fun t ht=> ?_,aO.bz.size,?_,fun t=> ?_,amy⟩
    ·have h1:=aO.bz.tmps t ht
     rw [show ({a with defers:= [pV w.heap.size]++a.defers} :Act).tmps=a.tmps from rfl,h1]
     exact (AV.bq (Kn:=(· <st.heap.length)) (fun i hi=>by rw [ql i (by omega),uI i (by omega)]) _ (aO.bz.kn t)).symm
    ·simp [aO.bz.defers]
    ·refine AV.aR (fun i hi=> ?_) _ (aO.bz.kn t)
     rw [wR,wR];omega
  split at hR
  ·rename_i r' hj
   obtain ⟨h1,h2⟩:=behind _ _ _ hj (by simp)
   exact ⟨_,_,h1,_,ρ',hR,h2⟩
  ·rename_i r' hj
   obtain ⟨h1,h2⟩:=behind _ _ _ hj (by simp)
   exact ⟨_,_,h1,wpIn_ret ⟨_,ρ',hR,h2⟩⟩
  ·rename_i r' id hj
   obtain ⟨h1,h2⟩:=behind _ _ _ hj (by simp)
   exact ⟨_,_,h1,wpIn_exit ⟨_,ρ',hR,h2⟩⟩
  ·exact hR.elim
 |scope=>intro _ au W ro n hX _ st K h;exact h.elim
 |label=>intro _ au W ro n hX _ st K h;exact h.elim
 |goto=>intro _ au W ro n hX _ st K h;exact h.elim
 |refuse=>intro _ au W ro n hX _ st K h;exact h.elim
end
end Go.Ev
