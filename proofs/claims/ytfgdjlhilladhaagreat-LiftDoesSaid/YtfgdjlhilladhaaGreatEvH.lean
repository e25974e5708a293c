/- Code and functions, out of the condition 'codeE'. -/
import Derived.Test.YtfgdjlhilladhaaGreatEvM
noncomputable section
set_option linter.unusedSectionVars false
set_option linter.unusedVariables false
set_option linter.unusedSimpArgs false
namespace Go.Ev
open Go.RowKit
section
variable {P:Program} {ctx:Ctx} {aC:mY} {W:World}
def Snd (P:Program) (ctx:Ctx) (c:Code):Prop:= ∀aC W ro n,GU aC W ctx.X->(ro=none\/ nc c=true)-> ∀st K,cy ctx c st K-> ∀ρ a w,JF aC W st ρ a w->c.wpIn (fw ro) n P (Post aC W K) a w
theorem St.Y4 {aC:mY} {W:World} {ρ:Env} {h:List aX} {w:World} {n l:Nat} {r:Loop} {s:LoopState} {j:Option Code} (hst:St aC W ρ (· <h.length) (aA h) w) (hn:aA h n=some (.loop r s j)) (hl:(ρ n).bR=some l)
  (s':LoopState) (j':Option Code):St aC W ρ (· <h.length) (aA (h.set n (.loop r s' j'))) (w.putObj l (.loop {r with state:=s',pending:=j'})):=by
 have hlt:=iX hn
 have hw:l<w.heap.size:=KV (hst.at_ n _ hn) hl
 have hown:=hst.own n l (by simp [hn]) hl
 refine hst.put hown (fun hc=> ?_) fun m p hp=> ?_
 ·obtain ⟨b,hb,hh⟩:=hst.at_ n _ hn
  rw [hl] at hb;cases hb
  obtain ⟨cs,e,f,h2⟩:=hc
  rw [hh] at h2;cases h2
 rw [bY,List.getElem?_set] at hp
 by_cases e:n=m
 ·subst e
  rw [if_pos rfl,if_pos hlt] at hp
  cases hp
  exact ⟨fun _ _ _=>⟨l,hl,World.putObj_heap_same hw⟩,fun h=>absurd hl h,by simp [hn],hlt,trivial⟩
 ·rw [if_neg e,←bY] at hp
  have hk:=hst.kn m p hp
  exact ⟨fun h1=>absurd (hst.inj n m l (by simp [hn]) (by simp [hp]) hl h1) e,fun _=>hp,by simp [hp],hk.1,hk.2⟩
theorem St.aem {aC:mY} {W:World} {ρ:Env} {h:List aX} {w:World} {n l:Nat} {r:Loop} {s:LoopState} {j:Option Code} (hst:St aC W ρ (· <h.length) (aA h) w) (hn:aA h n=some (.loop r s j)) (hl:(ρ n).bR=some l) (o:Obj):
  St aC W ρ (· <(h.set n .gone).length) (aA (h.set n .gone)) (w.putObj l o):=by
 have hlt:=iX hn
 have hown:=hst.own n l (by simp [hn]) hl
 rw [List.length_set]
 refine hst.put hown (fun hc=> ?_) fun m p hp=> ?_
 ·obtain ⟨b,hb,hh⟩:=hst.at_ n _ hn
  rw [hl] at hb;cases hb
  obtain ⟨cs,e,f,h2⟩:=hc
  rw [hh] at h2;cases h2
 rw [bY,List.getElem?_set] at hp
 by_cases e:n=m
 ·subst e
  rw [if_pos rfl,if_pos hlt] at hp
  cases hp
 ·rw [if_neg e,←bY] at hp
  have hk:=hst.kn m p hp
  exact ⟨fun h1=>absurd (hst.inj n m l (by simp [hn]) (by simp [hp]) hl h1) e,fun _=>hp,by simp [hp],hk.1,hk.2⟩
theorem Aq {h:List aX} {n:Nat} {o:aX} :(h.set n o).length=h.length:=List.length_set
theorem afz {assign body:Code} (ha:Snd P ctx assign) (hb:Snd P ctx body) (hra:nc assign=true) (hrb:nc body=true) {ps:Array Tmp} {BA:List AV} {n0 l:Nat} {zh:Env} {r:Loop} (hl:(zh n0).bR=some l)
  (hr:r.state= .ready/\ r.pending=none/\ r.params=ps/\ r.assign=assign/\ r.body=body) (hts:r.tmps.size=BA.length) (htm: ∀t,dG BA t≠ .dead->r.tmps.getD t undef=(dG BA t).af zh) (htk: ∀t,(dG BA t).ok (· <n0)):
  xe P [(n0,aiq ctx.X n0 BA r zh ps (cy ctx assign) (cy ctx body))]:=by
 intro n s hs X args hp nm k h
 unfold aJ at hs
 split at hs
 rotate_left
 ·cases hs
 rename_i en
 subst en
 cases hs
 unfold aiq at h
 obtain ⟨hXX,h⟩:=h
 subst hXX
 split at h
 rotate_left
 ·exact h.elim
 rename_i hsz
 obtain ⟨hp1,h⟩:=qD h
 obtain ⟨hp0,h⟩:=KD h
 intro ro m aC W ρ w hX hargs hst
 have ang:=hst.at_ _ _ hp1
 have ak8: ∀i,i<n0+1->ρ i=zh i:=ang.2
 have hln:(ρ n0).bR=some l:=by rw [ak8 n0 (by omega)];exact hl
 obtain ⟨l',hl',ahd⟩:=hst.at_ _ _ hp0
 rw [hln] at hl';cases hl'
 have hre:({r with state:= .ready,pending:=none} :Loop)=r:=by cases r;simp only at hr;obtain ⟨rfl,rfl,_⟩:=hr;rfl
 rw [hre] at ahd
 have hn0:n0+1<nm:=(hst.kn _ _ hp1).1
 have Oo: ∀m,hp m≠some .gone:=fun m e=>hst.at_ m _ e
 have hkl: ∀m,(hp m).isSome=true->m<nm:=fun m hm=>by
  obtain ⟨o,ho⟩:=Option.isSome_iff_exists.1 hm
  exact (hst.kn m o ho).1
 refine ⟨l,r.fn,(r.params.zip (args.map (AV.af ρ)).toArray).foldl (fun tmps (x:Tmp×Value)=>tmps.setIfInBounds x.1 x.2) r.tmps,assign,body,hln,?_,?_⟩
 ·have:=run_yield (P:=P) (args:=(args.map (AV.af ρ)).toArray) ahd (by simp [hr.2.2.1,hsz])
  rw [this,hr.2.2.2.1,hr.2.2.2.2]
 let G4:=lY hp nm++ [aX.ji ρ nm]
 let MZ:=b9 ρ nm {}
 have h3l:G4.length=nm+1:=by simp [G4,bW]
 have j9: ∀m,m<nm->MZ m=ρ m:=fun m hm=>by simp only [MZ,b9];rw [if_neg (by omega)]
 have Nf: ∀m o,aA G4 m=some o->(m<nm/\ hp m=some o)\/ (m=nm/\ o= .ji ρ nm):=by
  intro m o ho
  rw [bY] at ho
  rcases Nat.lt_or_ge m nm with h1|h1
  ·rw [List.getElem?_append_left (by rw [bW];exact h1),Hj h1 (Oo m)] at ho
   exact .inl ⟨h1,ho⟩
  ·have:m<G4.length:=iX (by rw [bY];exact ho)
   have:m=nm:=by omega
   subst this
   rw [List.getElem?_append_right (by rw [bW];exact Nat.le_refl _),bW] at ho
   simp only [Nat.sub_self,List.getElem?_cons_zero,live,Option.some.injEq] at ho
   exact .inr ⟨rfl,ho.symm⟩
 have ajt: ∀b,lV ρ hp w b->lV MZ (aA G4) w b/\ w.heap[b]? =w.heap[b]? :=fun b hb=>by
  refine ⟨⟨hb.1,?_⟩,rfl⟩
  rintro (⟨m,h1,h2⟩|⟨m,S,h1,h2⟩)
  ·obtain ⟨o,ho⟩:=Option.isSome_iff_exists.1 h1
   rcases Nf m o ho with ⟨h3,h4⟩|⟨rfl,rfl⟩
   ·rw [j9 m h3] at h2
    exact hb.2 (.inl ⟨m,by simp [h4],h2⟩)
   ·simp [MZ,b9] at h2
  ·rcases Nf m _ h1 with ⟨h3,h4⟩|⟨rfl,e⟩
   ·exact hb.2 (.inr ⟨m,S,h4,h2⟩)
   ·cases e
 have adU:St aC W MZ (· <G4.length) (aA G4) w:=by
  refine ⟨hst.fr,fun m o ho=> ?_,fun m o ho=> ?_,fun m m' b hm hm' lX kH=> ?_,fun m b hm hb=> ?_,fun b ⟨m,S,h1,h2⟩=> ?_,fun m o ho=> ?_⟩
  rotate_right
  ·rcases Nf m o ho with ⟨h1,h2⟩|⟨rfl,rfl⟩
   ·rw [j9 m h1];exact hst.Nl m o h2
   ·exact .inr (by simp [MZ,b9])
  rotate_right
  ·rcases Nf m _ h1 with ⟨_,h4⟩|⟨_,e⟩
   ·obtain ⟨h5,h6⟩:=hst.F5 b ⟨m,S,h4,h2⟩
    refine ⟨h5,fun ⟨n,h7,h8⟩=> ?_⟩
    obtain ⟨o,ho⟩:=Option.isSome_iff_exists.1 h7
    rcases Nf n o ho with ⟨h9,h10⟩|⟨rfl,rfl⟩
    ·rw [j9 n h9] at h8
     exact h6 ⟨n,by simp [h10],h8⟩
    ·simp [MZ,b9] at h8
   ·cases e
  ·rcases Nf m o ho with ⟨h1,h2⟩|⟨rfl,rfl⟩
   ·have hk:=hst.kn m o h2
    exact dj (Kn:=(· <nm)) (hst.at_ m o h2) j9 h1 hk.2 ajt (fun _ _ h=>h) fun _ _=>rfl
   ·exact ⟨by simp [MZ,b9],j9⟩
  ·rcases Nf m o ho with ⟨h1,h2⟩|⟨rfl,rfl⟩
   ·exact ⟨by rw [h3l];omega,aX.bG (fun i hi=>by rw [h3l];omega) o (hst.kn m o h2).2⟩
   ·exact ⟨by rw [h3l];omega,fun i hi=>by rw [h3l];omega⟩
  ·obtain ⟨o,ho⟩:=Option.isSome_iff_exists.1 hm
   obtain ⟨o',Cx⟩:=Option.isSome_iff_exists.1 hm'
   rcases Nf m o ho with ⟨h1,h2⟩|⟨rfl,rfl⟩
   ·rcases Nf m' o' Cx with ⟨h3,h4⟩|⟨rfl,rfl⟩
    ·rw [j9 m h1] at lX;rw [j9 m' h3] at kH
     exact hst.qC m m' b (by simp [h2]) (by simp [h4]) lX kH
    ·simp [MZ,b9] at kH
   ·simp [MZ,b9] at lX
  ·obtain ⟨o,ho⟩:=Option.isSome_iff_exists.1 hm
   rcases Nf m o ho with ⟨h1,h2⟩|⟨rfl,rfl⟩
   ·rw [j9 m h1] at hb
    exact hst.yb m b (by simp [h2]) hb
   ·simp [MZ,b9] at hb
 have anu: ∀t,dG BA t≠ .dead->r.tmps.getD t undef=(dG BA t).af MZ:=fun t ht=>by
  rw [htm t ht]
  refine (AV.bZ (Kn:=(· <n0)) (fun i hi=> ?_) _ (htk t)).symm
  rw [j9 i (by omega),ak8 i (by omega)]
 have adI:args.map (AV.af ρ)=args.map (AV.af MZ):=List.map_congr_left fun x hx=>(AV.bZ (Kn:=(· <nm)) j9 x (hargs x hx)).symm
 obtain ⟨hs1,hs2⟩:=LR MZ ps.toList BA args r.tmps hts anu
 have amS:JF aC W ⟨Et BA ps.toList args,G4⟩ MZ {tmps:=(r.params.zip (args.map (AV.af ρ)).toArray).foldl (fun tmps (x:Tmp×Value)=>tmps.setIfInBounds x.1 x.2) r.tmps,defers:= []} w:=by
  refine ⟨[],List.nodup_nil,fun D hD=>absurd hD (by simp),⟨fun t ht=> ?_,?_,rfl,fun t=> ?_,adU⟩⟩
  ·dsimp only
   rw [hr.2.2.1,adI,Ok]
   exact hs2 t ht
  ·dsimp only
   rw [hr.2.2.1,adI,Ok,Eu]
   exact hs1
  ·refine U4 _ _ _ (fun t=>AV.bG (fun i hi=> ?_) _ (htk t)) (fun v hv=>AV.bG (fun i hi=> ?_) _ (hargs v hv)) t<;>(dsimp only;rw [h3l];omega)
 refine roundIn_of_wpIn trivial ?_
 refine wpIn_mono (ha aC W (some l) m hX (.inr hra) _ _ (h ρ) MZ _ w amS) ?_
 rintro e a1 w1 ⟨Cs,ρ',hk1,jo⟩
 cases e<;>try exact hk1.elim
 obtain ⟨hq1,hk1⟩:=qD hk1
 obtain ⟨hq0,hk1⟩:=KD hk1
 obtain ⟨ds1,jo⟩:=jo
 have amQ: ∀i,i<nm->ρ' i=ρ i:=(jo.qi.st.at_ _ _ hq1).2
 have hl1:(ρ' n0).bR=some l:=by rw [amQ n0 (by omega)];exact hln
 obtain ⟨l1,alp,aiG⟩:=jo.qi.st.at_ _ _ hq0
 rw [hl1] at alp;cases alp
 refine ⟨_,run_beginRound aiG rfl,?_⟩
 have anr:=jo.qi.st.Y4 hq0 hl1 .busy none
 have hD: ∀D∈ds1,D≠l:=by
  rintro D hD rfl
  have:=(jo.dd D hD).2
  rw [aiG] at this;cases this
 have amT:JF aC W ⟨Cs.tmps,Cs.heap.set n0 (.loop r .busy none)⟩ ρ' a1 (w1.putObj l (.loop {r with state:= .busy,pending:=none})):=by
  refine ⟨ds1,jo.nd,fun D hd=>⟨(jo.dd D hd).1,?_⟩,⟨jo.qi.tmps,jo.qi.size,jo.qi.defers,fun t=> ?_,?_⟩⟩
  ·rw [World.putObj_heap_other (hD D hd)];exact (jo.dd D hd).2
  ·dsimp only;rw [Aq];exact jo.qi.kn t
  ·dsimp only;rw [Aq];exact anr
 refine wpIn_mono (hb aC W (some l) m hX (.inr hrb) _ _ hk1 ρ' _ _ amT) ?_
 rintro e a2 w2 ⟨IA,ρ4,hk2,ds2,C3⟩
 have fin: ∀jump:Option Code,yC hp nm n0 r ρ IA.heap jump k-> ∃v w',(Instr.endRound l jump).run P w2= .ok v w'/\ ∃r ρ',k r/\ (∀p∈r.writes,hp p.1≠none)/\ Ending.returned v= .returned (r.val.af ρ')/\ (∀m,m<nm->ρ' m=ρ m)/\ r.val.ok (tP (· <nm) nm r)/\ St aC W ρ' (tP (· <nm) nm r) (dO r nm hp) w':=by
  intro jump hk
  unfold yC at hk
  obtain ⟨hb0,hk⟩:=TB hk
  obtain ⟨lX,hk⟩:=qD hk
  have ak7: ∀i,i<nm->ρ4 i=ρ i:=(C3.qi.st.at_ _ _ lX).2
  have FC:(ρ4 n0).bR=some l:=by rw [ak7 n0 (by omega)];exact hln
  obtain ⟨l2,alq,alB⟩:=C3.qi.st.at_ _ _ hb0
  rw [FC] at alq;cases alq
  refine ⟨_,_,run_endRound jump alB,_,ρ4,hk,fun p hp=>C4 hp,rfl,ak7,trivial,?_⟩
  have hlen:=iX lX
  have alF:=C3.qi.st.Y4 hb0 FC (if jump.isNone then .ready else .done) jump
  obtain ⟨e1,e2⟩:=JL (hp:=hp) (nm:=nm) (v:=cf jump.isNone) (h:=IA.heap.set n0 (Rn r jump)) (by rw [Aq];exact hlen)
  unfold aix
  rw [e2,Aq]
  have e3:Rn r jump= .loop r (if jump.isNone then .ready else .done) jump:=by cases jump<;>rfl
  rw [e3] at e1 ⊢
  refine alF.less fun i o ho=> ?_
  have:=e1 i o ho (Oo i) hkl
  exact ⟨this,alF.kn i o this⟩
 cases e with
 |normal=>exact fin none hk2
 |ret=>exact fin (some .ret) hk2
 |exit id=>exact fin (some (.exit id)) hk2
 |_=>exact hk2.elim
theorem rC (hT:aW P ctx.tt) (hC:rz P ctx) (hm:P.follows .mixedOrders=true): ∀(c:Code),uJ P ctx c->Snd P ctx c:=by
 intro c
 induction c with
 |skip=>intro _ aC W ro n hX _ st K h ρ a w bE;exact wpIn_skip ⟨st,ρ,h,bE⟩
 |region id ops draw=>
  intro _ aC W ro n hX _ st K h ρ a w ⟨ds,bE⟩
  have hX':=hX.LC bE.qi.st
  cases draw with
  |false=>
   have h:qH ctx ops ops.toList [] st [] fun st' _=>K .normal st':=h
   exact wpIn_region_list (ng hT hC hX' ops ops.toList [] st [] _ h (fun st' _ ρ' a' w' hk mV=>⟨st',ρ',hk,ds,bE.back mV⟩) ρ a w bE.base)
  |true=>
   refine wpIn_mono (agS hT hC.sp hm hX' ro n id ops st (K .normal) h ρ a w bE.base) ?_
   rintro e a' w' ⟨st',ρ',⟨rfl,hk⟩,mV⟩
   exact ⟨st',ρ',hk,ds,bE.back mV⟩
 |seq x y ihx ihy=>
  intro AB aC W ro n hX hro st K h ρ a w bE
  have ajx:ro=none\/ nc x=true:=hro.imp id fun h=>by simp only [nc,Bool.and_eq_true] at h;exact h.1
  have ajy:ro=none\/ nc y=true:=hro.imp id fun h=>by simp only [nc,Bool.and_eq_true] at h;exact h.2
  refine wpIn_seq (wpIn_mono (ihx AB.1 aC W ro n hX ajx st _ h ρ a w bE) ?_)
  rintro e a' w' ⟨st',ρ',hk,mV⟩
  cases e with
  |normal=>exact ihy AB.2 aC W ro n hX ajy st' K hk ρ' a' w' mV
  |_=>exact ⟨st',ρ',hk,mV⟩
 |cond c x y ihx ihy=>
  intro AB aC W ro n hX hro st K h ρ a w bE
  have ajx:ro=none\/ nc x=true:=hro.imp id fun h=>by simp only [nc,Bool.and_eq_true] at h;exact h.1
  have ajy:ro=none\/ nc y=true:=hro.imp id fun h=>by simp only [nc,Bool.and_eq_true] at h;exact h.2
  unfold cy at h
  split at h
  ·rename_i t hc
   have:=bE.eval c (by rw [hc];simp)
   rw [hc] at this
   exact wpIn_cond_split this (fun ht=>ihx AB.1 aC W ro n hX ajx st K (by subst ht;exact h) ρ a w bE) (fun ht=>ihy AB.2 aC W ro n hX ajy st K (by subst ht;exact h) ρ a w bE)
  ·exact h.elim
 |block id c ih=>
  intro AB aC W ro n hX hro st K h ρ a w bE
  unfold cy at h
  unfold uJ at AB
  split at h
  ·rename_i sp hsp
   rw [hsp] at AB
   exact AB aC W ro n hX hro st K h ρ a w bE
  ·rename_i hsp
   rw [hsp] at AB
   exact JQ (ih AB aC W ro n hX hro st _ h ρ a w bE)
 |loop c ih=>
  intro AB aC W ro n hX ajw st K h ρ a w bE
  obtain ⟨I,⟨m,stw,hw0,h0⟩,hr⟩:=h
  intro b k cs hro hb hroom
  have key: ∀m a w,(∃st ρ,I m st/\ JF aC W st ρ a w)-> ∃e a' w',Post aC W K e a' w'/\ ArrivesIn (Machine.fenced P (fw ro)) P (lone (b.atR a (.code c:: .inLoop c::k)) cs w) b k cs e a' w':=by
   intro m
   induction m using Nat.strongRecOn with
   |_ m ihm=>
    rintro a w ⟨st,ρ,hI,bE⟩
    obtain ⟨e,a1,w1,⟨Cs,cn,hk,jo⟩,oG⟩:=ih AB aC W ro n hX ajw st _ (hr m st hI) ρ a w bE b (.inLoop c::k) cs hro hb hroom
    cases e with
    |normal=>
     obtain ⟨m',st',hm,hw,hI'⟩:=hk
     obtain ⟨zh,C3⟩:=jo.weak hw
     obtain ⟨e2,a2,w2,hq2,To⟩:=ihm m' hm a1 w1 ⟨st',zh,hI',C3⟩
     exact ⟨e2,a2,w2,hq2,.of_steps (StepsIn.trans oG (.one (fenced_calm hb hroom rfl) stepR_inLoop)) To⟩
    |exit id=>exact ⟨_,a1,w1,⟨Cs,cn,hk,jo⟩,.pass (x:= .inLoop c) rfl (fun _ _=> .inl (by simp)) oG⟩
    |goto l=>exact ⟨_,a1,w1,⟨Cs,cn,hk,jo⟩,.pass (x:= .inLoop c) rfl (fun _ _=> .inl (by simp)) oG⟩
    |ret=>exact ⟨_,a1,w1,⟨Cs,cn,hk,jo⟩,.pass (x:= .inLoop c) rfl (fun _ _=> .inl (by simp)) oG⟩
    |panic ch=>exact ⟨_,a1,w1,⟨Cs,cn,hk,jo⟩,.pass (x:= .inLoop c) rfl (fun _ _=> .inl (by simp)) oG⟩
    |outgrown=>exact ⟨_,a1,w1,⟨Cs,cn,hk,jo⟩,.pass (x:= .inLoop c) rfl (fun _ _=> .inl (by simp)) oG⟩
  obtain ⟨tG,Wn⟩:=bE.weak hw0
  obtain ⟨e,a',w',hq,oG⟩:=key m a w ⟨stw,tG,h0,Wn⟩
  exact ⟨e,a',w',hq,.of_steps (.one (fenced_calm hb hroom rfl) stepR_loop) oG⟩
 |exit id=>intro _ aC W ro n hX _ st K h ρ a w bE;exact wpIn_exit ⟨st,ρ,h,bE⟩
 |ret=>intro _ aC W ro n hX _ st K h ρ a w bE;exact wpIn_ret ⟨st,ρ,h,bE⟩
 |rangeFunc g ps assign body iha ihb=>
  intro AB aC W ro n hX hro st K h ρ a w ⟨ds,bE⟩
  have hro:ro=none:=hro.resolve_right (by simp [nc])
  subst hro
  unfold cy at h
  split at h
  rotate_left
  ·exact h.elim
  rename_i hrf
  simp only [Bool.and_eq_true] at hrf
  split at h
  rotate_left
  ·exact h.elim
  rename_i f cap hg
  split at h
  rotate_left
  ·exact h.elim
  rename_i WL adP
  obtain ⟨ajp,adP⟩:=hC.its f WL adP
  have Rh:=bE.qi.eval g (by rw [hg];simp)
  rw [hg] at Rh
  have hgk:=bE.qi.adn g
  rw [hg] at hgk
  obtain ⟨N,hN⟩: ∃N,N=st.heap.length:=⟨_,rfl⟩
  refine wpIn_rangeFunc fun fn _=> ?_
  obtain ⟨r,hrr⟩: ∃r:Loop,r= {state:= .ready,pending:=none,fn:=fn,tmps:=a.tmps,params:=ps,assign:=assign,body:=body,defers:=w.heap.size} :=⟨_,rfl⟩
  obtain ⟨W1,hW1⟩: ∃W1,W1=(w.alloc (.deferred (some []))).alloc (.loop r):=⟨_,rfl⟩
  have hD1:W1.heap[w.heap.size]? =some (.deferred (some [])):=by
   rw [hW1];exact (Below.heap_alloc _ _ _ (by simp)).trans (World.alloc_heap_new w _)
  have hL1:W1.heap[w.heap.size+1]? =some (.loop r):=by
   rw [hW1];have:=World.alloc_heap_new (w.alloc (.deferred (some []))) (.loop r);rwa [World.size_alloc] at this
  have YT: ∀b,b<w.heap.size->W1.heap[b]? =w.heap[b]? :=fun b hb=>by
   rw [hW1];exact (Below.heap_alloc _ _ _ (by simp;omega)).trans (Below.heap_alloc _ _ _ hb)
  have hS1:W1.heap.size=w.heap.size+2:=by rw [hW1];simp
  let zh:Env:=fun m=>if m=N then {bR:=some (w.heap.size+1)} else if m=N+1 then {} else ρ m
  let AQ:=st.heap++ [aX.loop r .ready none,.ji zh (N+1)]
  have FC:AQ.length=N+2:=by simp [AQ,hN]
  have xJ: ∀m,m<N->zh m=ρ m:=fun m hm=>by simp only [zh];rw [if_neg (by omega),if_neg (by omega)]
  have hn2:zh N= {bR:=some (w.heap.size+1)} :=by simp [zh]
  have hp2:zh (N+1)= {} :=by simp [zh]
  have rL: ∀m o,aA AQ m=some o->(m<N/\ aA st.heap m=some o)\/ (m=N/\ o= .loop r .ready none)\/ (m=N+1/\ o= .ji zh (N+1)):=by
   intro m o ho
   have hlt:=iX ho
   rw [bY] at ho
   rcases Nat.lt_or_ge m N with h1|h1
   ·rw [List.getElem?_append_left (by omega),←bY] at ho
    exact .inl ⟨h1,ho⟩
   ·rw [List.getElem?_append_right (by omega),←hN] at ho
    have:m=N\/ m=N+1:=by omega
    rcases this with rfl|rfl
    ·simp only [Nat.sub_self,List.getElem?_cons_zero,live,Option.some.injEq] at ho
     exact .inr (.inl ⟨rfl,ho.symm⟩)
    ·simp only [show N+1- N=1 by omega,List.getElem?_cons_succ,List.getElem?_cons_zero,live,Option.some.injEq] at ho
     exact .inr (.inr ⟨rfl,ho.symm⟩)
  have am0:Fr aC W W1:=by
   rw [hW1];exact (bE.qi.st.fr.alloc _).alloc _
  have aju: ∀m o b,aA st.heap m=some o->(ρ m).has b->b<w.heap.size:=fun m o b ho hb=>bE.qi.st.lt m b (by rw [ho];rfl) hb
  have Nh:St aC W zh (· <AQ.length) (aA AQ) W1:=by
   have hre:({r with state:= .ready,pending:=none} :Loop)=r:=by rw [hrr]
   have Tq: ∀b,lV ρ (aA st.heap) w b->lV zh (aA AQ) W1 b/\ W1.heap[b]? =w.heap[b]? :=fun b hb=>by
    refine ⟨⟨hb.1.same (YT b hb.1.lt),?_⟩,YT b hb.1.lt⟩
    rintro (⟨m,h1,h2⟩|⟨m,S,h1,h2⟩)
    ·obtain ⟨o,ho⟩:=Option.isSome_iff_exists.1 h1
     rcases rL m o ho with ⟨h3,h4⟩|⟨rfl,rfl⟩|⟨rfl,rfl⟩
     ·rw [xJ m h3] at h2
      exact hb.2 (.inl ⟨m,by simp [h4],h2⟩)
     ·rw [hn2] at h2;cases lW.1 h2
      have:=hb.1.lt;omega
     ·rw [hp2] at h2;cases lW.1 h2
    ·rcases rL m _ h1 with ⟨h3,h4⟩|⟨rfl,e⟩|⟨rfl,e⟩
     ·exact hb.2 (.inr ⟨m,S,h4,h2⟩)
     ·cases e
     ·cases e
   refine ⟨am0,fun m o ho=> ?_,fun m o ho=> ?_,fun m m' b hm hm' lX kH=> ?_,fun m b hm hb=> ?_,fun b ⟨m,S,h1,h2⟩=> ?_,fun m o ho=> ?_⟩
   rotate_right
   ·rcases rL m o ho with ⟨h1,h2⟩|⟨rfl,rfl⟩|⟨rfl,rfl⟩
    ·rw [xJ m h1];exact bE.qi.st.Nl m o h2
    ·exact .inr (by rw [hn2])
    ·exact .inr (by rw [hp2])
   rotate_right
   ·rcases rL m _ h1 with ⟨_,h4⟩|⟨_,e⟩|⟨_,e⟩
    ·obtain ⟨h5,h6⟩:=bE.qi.st.F5 b ⟨m,S,h4,h2⟩
     refine ⟨by rw [hS1];omega,fun ⟨n,h7,h8⟩=> ?_⟩
     obtain ⟨o,ho⟩:=Option.isSome_iff_exists.1 h7
     rcases rL n o ho with ⟨h9,h10⟩|⟨rfl,rfl⟩|⟨rfl,rfl⟩
     ·rw [xJ n h9] at h8
      exact h6 ⟨n,by simp [h10],h8⟩
     ·rw [hn2] at h8;cases lW.1 h8;omega
     ·rw [hp2] at h8;cases lW.1 h8
    ·cases e
    ·cases e
   ·rcases rL m o ho with ⟨h1,h2⟩|⟨rfl,rfl⟩|⟨rfl,rfl⟩
    ·have hk:=bE.qi.st.kn m o h2
     exact dj (Kn:=(· <st.heap.length)) (bE.qi.st.at_ m o h2) (fun i hi=>xJ i (by omega)) (by omega) hk.2 Tq (fun _ _ h=>h) fun b hb=>YT b (aju m o b h2 hb)
    ·exact ⟨w.heap.size+1,by rw [hn2],by rw [hre];exact hL1⟩
    ·exact ⟨by rw [hp2],fun _ _=>rfl⟩
   ·rcases rL m o ho with ⟨h1,h2⟩|⟨rfl,rfl⟩|⟨rfl,rfl⟩
    ·exact ⟨by omega,aX.bG (fun i hi=>by omega) o (bE.qi.st.kn m o h2).2⟩
    ·exact ⟨by omega,trivial⟩
    ·exact ⟨by omega,fun i hi=>by omega⟩
   ·obtain ⟨o,ho⟩:=Option.isSome_iff_exists.1 hm
    obtain ⟨o',Cx⟩:=Option.isSome_iff_exists.1 hm'
    rcases rL m o ho with ⟨h1,h2⟩|⟨rfl,rfl⟩|⟨rfl,rfl⟩
    ·rw [xJ m h1] at lX
     have hlt:=aju m o b h2 lX
     rcases rL m' o' Cx with ⟨h3,h4⟩|⟨rfl,rfl⟩|⟨rfl,rfl⟩
     ·rw [xJ m' h3] at kH
      exact bE.qi.st.qC m m' b (by simp [h2]) (by simp [h4]) lX kH
     ·rw [hn2] at kH;cases lW.1 kH;omega
     ·rw [hp2] at kH;cases lW.1 kH
    ·rw [hn2] at lX;cases lW.1 lX
     rcases rL m' o' Cx with ⟨h3,h4⟩|⟨rfl,rfl⟩|⟨rfl,rfl⟩
     ·rw [xJ m' h3] at kH
      have:=aju m' o' _ h4 kH;omega
     ·rfl
     ·rw [hp2] at kH;cases lW.1 kH
    ·rw [hp2] at lX;cases lW.1 lX
   ·obtain ⟨o,ho⟩:=Option.isSome_iff_exists.1 hm
    rcases rL m o ho with ⟨h1,h2⟩|⟨rfl,rfl⟩|⟨rfl,rfl⟩
    ·rw [xJ m h1] at hb
     exact bE.qi.st.yb m b (by simp [h2]) hb
    ·rw [hn2] at hb;cases lW.1 hb
     have:=bE.qi.st.fr.size
     exact .inl (by omega)
    ·rw [hp2] at hb;cases lW.1 hb
  have adU:=Nh.LC (N:=AQ.length) fun m o ho=>⟨iX ho,(Nh.kn m o ho).2⟩
  have hX3:=hX.LC Nh
  have hys:=afz (P:=P) (ctx:=ctx) (iha AB.1) (ihb AB.2) hrf.1 hrf.2 (ps:=ps) (BA:=st.tmps) (n0:=N) (l:=w.heap.size+1) (zh:=zh) (r:=r) (by rw [hn2]) (by rw [hrr];exact ⟨rfl,rfl,rfl,rfl,rfl⟩)
   (by rw [hrr];exact bE.qi.size) (fun t ht=>by
    rw [hrr]
    show a.tmps.getD t undef=_
    rw [bE.qi.tmps t ht]
    exact (AV.bZ (Kn:=(· <st.heap.length)) (fun i hi=>xJ i (by omega)) _ (bE.qi.kn t)).symm) (fun t=>by have:=bE.qi.kn t;rwa [<- hN] at this)
  have hcap: ∀x∈cap.map Dy,x.ok (· <st.heap.length):=fun x hx=>by
   obtain ⟨q,hq,rfl⟩:=List.mem_map.1 hx
   exact T8 (hgk q hq)
  have YR:=adP _ _ _ _ (h r zh) (by rw [<- hN];exact hys) (lb aC W zh (aA AQ) W1) W1 zh W1 hX3 (by
    intro x hx
    rcases List.mem_cons.1 hx with rfl|hx
    ·show st.heap.length<_
     simp
    ·exact AV.bG (fun i hi=>by simp;omega) x (hcap x hx)) (by
    have:st.heap++ [aX.loop r .ready none,.ji zh (st.heap.length+1)]=AQ:=by simp only [AQ,hN]
    rw [this];exact adU)
  refine ⟨w.heap.size+1,[rW w.heap.size],W1,{target:= .fn (.func f) (cap.map (Ref.af ρ)).toArray,args:= #[.func (.yield (w.heap.size+1)) #[] #[]]},W1,f,#[.func (.yield (w.heap.size+1)) #[] #[]]++(cap.map (Ref.af ρ)).toArray,W1,?_,?_,fun _ _=>trivial,?_,fun h=>by simp [fw] at h,BJ ?_⟩
  ·have:=run_enterLoop_outer (P:=P) (w:=w) fn a.tmps ps assign body
   rw [hW1,hrr];exact this
  ·simp only [resolve,Rh,AV.af,A0.af,Cell.af]
   simp [go_sem]
  ·simp only [invoke,Sem.run_bind,Sem.run_pure,Result.andThen_ok]
   have:=ajp (#[.func (.yield (w.heap.size+1)) #[] #[]]++(cap.map (Ref.af ρ)).toArray) W1
   simpa using this
  have ajk:(((AV.v (.one (.sJ st.heap.length))::cap.map Dy).map (AV.af zh)).toArray:Array Value)= #[.func (.yield (w.heap.size+1)) #[] #[]]++(cap.map (Ref.af ρ)).toArray:=by
   apply Array.ext'
   simp only [List.map_cons,List.map_map,AV.af,A0.af,Cell.af,<- hN,hn2,Array.toList_append,List.cons_append,List.nil_append,List.cons.injEq,true_and]
   refine List.map_congr_left fun q hq=> ?_
   show (Dy q).af zh=q.af ρ
   rw [vm]
   exact Ref.bZ (Kn:=(· <st.heap.length)) (fun i hi=>xJ i (by omega)) q (hgk q hq)
  rw [ajk] at YR
  refine YR.mono ?_
  rintro e w' ⟨IA,ρ',v,rfl,_,hR,ahe⟩
  unfold Y3 at hR
  obtain ⟨hpe,hR⟩:=qD hR
  rw [<- hN] at hpe hR
  have uI: ∀i,i<N+1->ρ' i=zh i:=(ahe.at_ _ _ hpe).2
  have hlN:(ρ' N).bR=some (w.heap.size+1):=by rw [uI N (by omega),hn2]
  have aot:=iX hpe
  have behind: ∀(r':Loop) (s:LoopState) (j:Option Code),aA IA.heap N=some (.loop r' s j)->s≠ .busy->
    (Instr.endLoop (w.heap.size+1)).run P w'= .ok j (w'.putObj (w.heap.size+1) (.loop {r' with state:= .exhausted,pending:=j}))/\
    JF aC W ⟨st.tmps,(IA.heap.set N .gone).set (N+1) .gone⟩ ρ' {a with defers:= [rW w.heap.size]++a.defers} (w'.putObj (w.heap.size+1) (.loop {r' with state:= .exhausted,pending:=j})):=by
   intro r' s j hj hs
   obtain ⟨l,hl,ahd⟩:=ahe.at_ _ _ hj
   rw [hlN] at hl;cases hl
   refine ⟨run_endLoop ahd hs,w.heap.size::ds,?_,?_,?_⟩
   ·refine List.nodup_cons.2 ⟨fun hm=> ?_,bE.nd⟩
    have:=(Array.getElem?_eq_some_iff.1 (bE.dd _ hm).2).1
    omega
   ·intro D hD
    have hDW:W.heap.size<=D/\ W1.heap[D]? =some (.deferred (some [])):=by
     rcases List.mem_cons.1 hD with rfl|hD
     ·exact ⟨bE.qi.st.fr.size,hD1⟩
     ·have h1:=bE.dd D hD
      exact ⟨h1.1,by rw [YT D (Array.getElem?_eq_some_iff.1 h1.2).1];exact h1.2⟩
    refine ⟨hDW.1,?_⟩
    have hne:D≠w.heap.size+1:=by
     rintro rfl
     have:=hDW.2;rw [hL1] at this;cases this
    rw [World.putObj_heap_other hne,ahe.fr.block D (Array.getElem?_eq_some_iff.1 hDW.2).1 (Y1 Nh hDW.2)]
    exact hDW.2
   ·have ans:=((Nh.agb ahe).aem hj hlN (.loop {r' with state:= .exhausted,pending:=j})).akO (N+1)
    refine ⟨fun t ht=> ?_,bE.qi.size,?_,fun t=> ?_,ans⟩
    ·have h1:=bE.qi.tmps t ht
     rw [show ({a with defers:= [rW w.heap.size]++a.defers} :Act).tmps=a.tmps from rfl,h1]
     exact (AV.bZ (Kn:=(· <st.heap.length)) (fun i hi=>by rw [uI i (by omega),xJ i (by omega)]) _ (bE.qi.kn t)).symm
    ·simp [bE.qi.defers]
    ·refine AV.bG (fun i hi=> ?_) _ (bE.qi.kn t)
     rw [Aq,Aq];omega
  split at hR
  ·rename_i r' hj
   obtain ⟨h1,h2⟩:=behind _ _ _ hj (by simp)
   exact ⟨_,_,h1,_,ρ',hR,h2⟩
  ·rename_i r' hj
   obtain ⟨h1,h2⟩:=behind _ _ _ hj (by simp)
   exact ⟨_,_,h1,wpIn_ret ⟨_,ρ',hR,h2⟩⟩
  ·rename_i r' id hj
   obtain ⟨h1,h2⟩:=behind _ _ _ hj (by simp)
   exact ⟨_,_,h1,wpIn_exit ⟨_,ρ',hR,h2⟩⟩
  ·exact hR.elim
 |scope=>intro _ aC W ro n hX _ st K h;exact h.elim
 |label=>intro _ aC W ro n hX _ st K h;exact h.elim
 |goto=>intro _ aC W ro n hX _ st K h;exact h.elim
 |refuse=>intro _ aC W ro n hX _ st K h;exact h.elim
end
end Go.Ev
