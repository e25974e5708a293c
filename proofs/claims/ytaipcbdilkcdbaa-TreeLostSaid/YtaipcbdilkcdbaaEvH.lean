/- Code and functions, out of the condition 'codeE'. -/
import Derived.Test.YtaipcbdilkcdbaaEvM
noncomputable section
set_option linter.unusedSectionVars false
set_option linter.unusedVariables false
set_option linter.unusedSimpArgs false
namespace Go.Ev
open Go.RowKit
section
variable {P:Program} {ctx:Ctx} {ax:iV} {W:World}
def XW (P:Program) (ctx:Ctx) (c:Code):Prop:= ∀ax W ro n,yf ax W ctx.X->(ro=none\/ kJ c=true)-> ∀st K,dY ctx c st K-> ∀ρ a w,Ac ax W st ρ a w->c.wpIn (fw ro) n P (Post ax W K) a w
theorem St.KF {ax:iV} {W:World} {ρ:Env} {h:List aG} {w:World} {n l:Nat} {r:Loop} {s:LoopState} {j:Option Code} (hst:St ax W ρ (· <h.length) (aj h) w) (hn:aj h n=some (.loop r s j)) (hl:(ρ n).bt=some l)
  (s':LoopState) (j':Option Code):St ax W ρ (· <h.length) (aj (h.set n (.loop r s' j'))) (w.putObj l (.loop {r with state:=s',pending:=j'})):=by
 have hlt:=gw hn
 have hw:l<w.heap.size:=Bu (hst.at_ n _ hn) hl
 have hown:=hst.own n l (by simp [hn]) hl
 refine hst.put hown (fun hc=> ?_) fun m p hp=> ?_
 ·obtain ⟨b,hb,hh⟩:=hst.at_ n _ hn
  rw [hl] at hb;cases hb
  obtain ⟨cs,e,f,h2⟩:=hc
  rw [hh] at h2;cases h2
 rw [bX,List.getElem?_set] at hp
 by_cases e:n=m
 ·subst e
  rw [if_pos rfl,if_pos hlt] at hp
  cases hp
  exact ⟨fun _ _ _=>⟨l,hl,World.putObj_heap_same hw⟩,fun h=>absurd hl h,by simp [hn],hlt,trivial⟩
 ·rw [if_neg e,←bX] at hp
  have hk:=hst.kn m p hp
  exact ⟨fun h1=>absurd (hst.inj n m l (by simp [hn]) (by simp [hp]) hl h1) e,fun _=>hp,by simp [hp],hk.1,hk.2⟩
theorem St.Pc {ax:iV} {W:World} {ρ:Env} {h:List aG} {w:World} {n l:Nat} {r:Loop} {s:LoopState} {j:Option Code} (hst:St ax W ρ (· <h.length) (aj h) w) (hn:aj h n=some (.loop r s j)) (hl:(ρ n).bt=some l) (o:Obj):
  St ax W ρ (· <(h.set n .gone).length) (aj (h.set n .gone)) (w.putObj l o):=by
 have hlt:=gw hn
 have hown:=hst.own n l (by simp [hn]) hl
 rw [List.length_set]
 refine hst.put hown (fun hc=> ?_) fun m p hp=> ?_
 ·obtain ⟨b,hb,hh⟩:=hst.at_ n _ hn
  rw [hl] at hb;cases hb
  obtain ⟨cs,e,f,h2⟩:=hc
  rw [hh] at h2;cases h2
 rw [bX,List.getElem?_set] at hp
 by_cases e:n=m
 ·subst e
  rw [if_pos rfl,if_pos hlt] at hp
  cases hp
 ·rw [if_neg e,←bX] at hp
  have hk:=hst.kn m p hp
  exact ⟨fun h1=>absurd (hst.inj n m l (by simp [hn]) (by simp [hp]) hl h1) e,fun _=>hp,by simp [hp],hk.1,hk.2⟩
theorem sZ {h:List aG} {n:Nat} {o:aG} :(h.set n o).length=h.length:=List.length_set
theorem Qb {assign body:Code} (ha:XW P ctx assign) (hb:XW P ctx body) (Wx:kJ assign=true) (hrb:kJ body=true) {ps:Array Tmp} {tU:List AV} {n0 l:Nat} {mc:Env} {r:Loop} (hl:(mc n0).bt=some l)
  (hr:r.state= .ready/\ r.pending=none/\ r.params=ps/\ r.assign=assign/\ r.body=body) (hts:r.tmps.size=tU.length) (XK: ∀t,dK tU t≠ .dead->r.tmps.getD t undef=(dK tU t).af mc) (htk: ∀t,(dK tU t).ok (· <n0)):
  s9 P [(n0,SL ctx.X n0 tU r mc ps (dY ctx assign) (dY ctx body))]:=by
 intro n s hs X args hp nm k h
 unfold aF at hs
 split at hs
 rotate_left
 ·cases hs
 rename_i en
 subst en
 cases hs
 unfold SL at h
 obtain ⟨hXX,h⟩:=h
 subst hXX
 split at h
 rotate_left
 ·exact h.elim
 rename_i hsz
 obtain ⟨hp1,h⟩:=jm h
 obtain ⟨OH,h⟩:=Bd h
 intro ro m ax W ρ w hX hargs hst
 have E3:=hst.at_ _ _ hp1
 have V0: ∀i,i<n0+1->ρ i=mc i:=E3.2
 have XG:(ρ n0).bt=some l:=by rw [V0 n0 (by omega)];exact hl
 obtain ⟨l',hl',CK⟩:=hst.at_ _ _ OH
 rw [XG] at hl';cases hl'
 have YZ:({r with state:= .ready,pending:=none} :Loop)=r:=by cases r;simp only at hr;obtain ⟨rfl,rfl,_⟩:=hr;rfl
 rw [YZ] at CK
 have QM:n0+1<nm:=(hst.kn _ _ hp1).1
 have Df: ∀m,hp m≠some .gone:=fun m e=>hst.at_ m _ e
 have Wi: ∀m,(hp m).isSome=true->m<nm:=fun m hm=>by
  obtain ⟨o,ho⟩:=Option.isSome_iff_exists.1 hm
  exact (hst.kn m o ho).1
 refine ⟨l,r.fn,(r.params.zip (args.map (AV.af ρ)).toArray).foldl (fun tmps (x:Tmp×Value)=>tmps.setIfInBounds x.1 x.2) r.tmps,assign,body,XG,?_,?_⟩
 ·have:=run_yield (P:=P) (args:=(args.map (AV.af ρ)).toArray) CK (by simp [hr.2.2.1,hsz])
  rw [this,hr.2.2.2.1,hr.2.2.2.2]
 let yq:=jJ hp nm++ [aG.de ρ nm]
 let Cw:=aV ρ nm {}
 have Vi:yq.length=nm+1:=by simp [yq,cq]
 have iP: ∀m,m<nm->Cw m=ρ m:=fun m hm=>by simp only [Cw,aV];rw [if_neg (by omega)]
 have xM: ∀m o,aj yq m=some o->(m<nm/\ hp m=some o)\/ (m=nm/\ o= .de ρ nm):=by
  intro m o ho
  rw [bX] at ho
  rcases Nat.lt_or_ge m nm with h1|h1
  ·rw [List.getElem?_append_left (by rw [cq];exact h1),yL h1 (Df m)] at ho
   exact .inl ⟨h1,ho⟩
  ·have:m<yq.length:=gw (by rw [bX];exact ho)
   have:m=nm:=by omega
   subst this
   rw [List.getElem?_append_right (by rw [cq];exact Nat.le_refl _),cq] at ho
   simp only [Nat.sub_self,List.getElem?_cons_zero,live,Option.some.injEq] at ho
   exact .inr ⟨rfl,ho.symm⟩
 have T7: ∀b,eo ρ hp w b->eo Cw (aj yq) w b/\ w.heap[b]? =w.heap[b]? :=fun b hb=>by
  refine ⟨⟨hb.1,?_⟩,rfl⟩
  rintro (⟨m,h1,h2⟩|⟨m,S,h1,h2⟩)
  ·obtain ⟨o,ho⟩:=Option.isSome_iff_exists.1 h1
   rcases xM m o ho with ⟨h3,h4⟩|⟨rfl,rfl⟩
   ·rw [iP m h3] at h2
    exact hb.2 (.inl ⟨m,by simp [h4],h2⟩)
   ·simp [Cw,aV] at h2
  ·rcases xM m _ h1 with ⟨h3,h4⟩|⟨rfl,e⟩
   ·exact hb.2 (.inr ⟨m,S,h4,h2⟩)
   ·cases e
 have I5:St ax W Cw (· <yq.length) (aj yq) w:=by
  refine ⟨hst.fr,fun m o ho=> ?_,fun m o ho=> ?_,fun m m' b hm hm' fg fV=> ?_,fun m b hm hb=> ?_,fun b ⟨m,S,h1,h2⟩=> ?_,fun m o ho=> ?_⟩
  rotate_right
  ·rcases xM m o ho with ⟨h1,h2⟩|⟨rfl,rfl⟩
   ·rw [iP m h1];exact hst.qI m o h2
   ·exact .inr (by simp [Cw,aV])
  rotate_right
  ·rcases xM m _ h1 with ⟨_,h4⟩|⟨_,e⟩
   ·obtain ⟨h5,h6⟩:=hst.rH b ⟨m,S,h4,h2⟩
    refine ⟨h5,fun ⟨n,h7,h8⟩=> ?_⟩
    obtain ⟨o,ho⟩:=Option.isSome_iff_exists.1 h7
    rcases xM n o ho with ⟨h9,Mc⟩|⟨rfl,rfl⟩
    ·rw [iP n h9] at h8
     exact h6 ⟨n,by simp [Mc],h8⟩
    ·simp [Cw,aV] at h8
   ·cases e
  ·rcases xM m o ho with ⟨h1,h2⟩|⟨rfl,rfl⟩
   ·have hk:=hst.kn m o h2
    exact ct (Kn:=(· <nm)) (hst.at_ m o h2) iP h1 hk.2 T7 (fun _ _ h=>h) fun _ _=>rfl
   ·exact ⟨by simp [Cw,aV],iP⟩
  ·rcases xM m o ho with ⟨h1,h2⟩|⟨rfl,rfl⟩
   ·exact ⟨by rw [Vi];omega,aG.aZ (fun i hi=>by rw [Vi];omega) o (hst.kn m o h2).2⟩
   ·exact ⟨by rw [Vi];omega,fun i hi=>by rw [Vi];omega⟩
  ·obtain ⟨o,ho⟩:=Option.isSome_iff_exists.1 hm
   obtain ⟨o',tG⟩:=Option.isSome_iff_exists.1 hm'
   rcases xM m o ho with ⟨h1,h2⟩|⟨rfl,rfl⟩
   ·rcases xM m' o' tG with ⟨h3,h4⟩|⟨rfl,rfl⟩
    ·rw [iP m h1] at fg;rw [iP m' h3] at fV
     exact hst.cW m m' b (by simp [h2]) (by simp [h4]) fg fV
    ·simp [Cw,aV] at fV
   ·simp [Cw,aV] at fg
  ·obtain ⟨o,ho⟩:=Option.isSome_iff_exists.1 hm
   rcases xM m o ho with ⟨h1,h2⟩|⟨rfl,rfl⟩
   ·rw [iP m h1] at hb
    exact hst.jR m b (by simp [h2]) hb
   ·simp [Cw,aV] at hb
 have Y9: ∀t,dK tU t≠ .dead->r.tmps.getD t undef=(dK tU t).af Cw:=fun t ht=>by
  rw [XK t ht]
  refine (AV.bZ (Kn:=(· <n0)) (fun i hi=> ?_) _ (htk t)).symm
  rw [iP i (by omega),V0 i (by omega)]
 have Oj:args.map (AV.af ρ)=args.map (AV.af Cw):=List.map_congr_left fun x hx=>(AV.bZ (Kn:=(· <nm)) iP x (hargs x hx)).symm
 obtain ⟨hs1,hs2⟩:=BZ Cw ps.toList tU args r.tmps hts Y9
 have Yr:Ac ax W ⟨wF tU ps.toList args,yq⟩ Cw {tmps:=(r.params.zip (args.map (AV.af ρ)).toArray).foldl (fun tmps (x:Tmp×Value)=>tmps.setIfInBounds x.1 x.2) r.tmps,defers:= []} w:=by
  refine ⟨[],List.nodup_nil,fun D hD=>absurd hD (by simp),⟨fun t ht=> ?_,?_,rfl,fun t=> ?_,I5⟩⟩
  ·dsimp only
   rw [hr.2.2.1,Oj,Dd]
   exact hs2 t ht
  ·dsimp only
   rw [hr.2.2.1,Oj,Dd,wG]
   exact hs1
  ·refine Hy _ _ _ (fun t=>AV.aZ (fun i hi=> ?_) _ (htk t)) (fun v hv=>AV.aZ (fun i hi=> ?_) _ (hargs v hv)) t<;>(dsimp only;rw [Vi];omega)
 refine roundIn_of_wpIn trivial ?_
 refine wpIn_mono (ha ax W (some l) m hX (.inr Wx) _ _ (h ρ) Cw _ w Yr) ?_
 rintro e a1 w1 ⟨pO,ρ',QK,gN⟩
 cases e<;>try exact QK.elim
 obtain ⟨hq1,QK⟩:=jm QK
 obtain ⟨Nv,QK⟩:=Bd QK
 obtain ⟨ZD,gN⟩:=gN
 have Yq: ∀i,i<nm->ρ' i=ρ i:=(gN.mH.st.at_ _ _ hq1).2
 have QL:(ρ' n0).bt=some l:=by rw [Yq n0 (by omega)];exact XG
 obtain ⟨l1,Wk,S6⟩:=gN.mH.st.at_ _ _ Nv
 rw [QL] at Wk;cases Wk
 refine ⟨_,run_beginRound S6 rfl,?_⟩
 have Y5:=gN.mH.st.KF Nv QL .busy none
 have hD: ∀D∈ZD,D≠l:=by
  rintro D hD rfl
  have:=(gN.dd D hD).2
  rw [S6] at this;cases this
 have Ys:Ac ax W ⟨pO.tmps,pO.heap.set n0 (.loop r .busy none)⟩ ρ' a1 (w1.putObj l (.loop {r with state:= .busy,pending:=none})):=by
  refine ⟨ZD,gN.nd,fun D hd=>⟨(gN.dd D hd).1,?_⟩,⟨gN.mH.tmps,gN.mH.size,gN.mH.defers,fun t=> ?_,?_⟩⟩
  ·rw [World.putObj_heap_other (hD D hd)];exact (gN.dd D hd).2
  ·dsimp only;rw [sZ];exact gN.mH.kn t
  ·dsimp only;rw [sZ];exact Y5
 refine wpIn_mono (hb ax W (some l) m hX (.inr hrb) _ _ QK ρ' _ _ Ys) ?_
 rintro e a2 w2 ⟨xn,ZA,S2,ds2,lX⟩
 have fin: ∀jump:Option Code,rW hp nm n0 r ρ xn.heap jump k-> ∃v w',(Instr.endRound l jump).run P w2= .ok v w'/\ ∃r ρ',k r/\ (∀p∈r.writes,hp p.1≠none)/\ Ending.returned v= .returned (r.val.af ρ')/\ (∀m,m<nm->ρ' m=ρ m)/\ r.val.ok (iQ (· <nm) nm r)/\ St ax W ρ' (iQ (· <nm) nm r) (bB r nm hp) w':=by
  intro jump hk
  unfold rW at hk
  obtain ⟨hb0,hk⟩:=Gy hk
  obtain ⟨fg,hk⟩:=jm hk
  have VZ: ∀i,i<nm->ZA i=ρ i:=(lX.mH.st.at_ _ _ fg).2
  have yw:(ZA n0).bt=some l:=by rw [VZ n0 (by omega)];exact XG
  obtain ⟨l2,Wl,Wy⟩:=lX.mH.st.at_ _ _ hb0
  rw [yw] at Wl;cases Wl
  refine ⟨_,_,run_endRound jump Wy,_,ZA,hk,fun p hp=>vC hp,rfl,VZ,trivial,?_⟩
  have hlen:=gw fg
  have WE:=lX.mH.st.KF hb0 yw (if jump.isNone then .ready else .done) jump
  obtain ⟨e1,e2⟩:=Ai (hp:=hp) (nm:=nm) (v:=cw jump.isNone) (h:=xn.heap.set n0 (E8 r jump)) (by rw [sZ];exact hlen)
  unfold SV
  rw [e2,sZ]
  have e3:E8 r jump= .loop r (if jump.isNone then .ready else .done) jump:=by cases jump<;>rfl
  rw [e3] at e1 ⊢
  refine WE.less fun i o ho=> ?_
  have:=e1 i o ho (Df i) Wi
  exact ⟨this,WE.kn i o this⟩
 cases e with
 |normal=>exact fin none S2
 |ret=>exact fin (some .ret) S2
 |exit id=>exact fin (some (.exit id)) S2
 |_=>exact S2.elim
theorem nM (hT:br P ctx.tt) (hC:oT P ctx) (hm:P.follows .mixedOrders=true): ∀(c:Code),pP P ctx c->XW P ctx c:=by
 intro c
 induction c with
 |skip=>intro _ ax W ro n hX _ st K h ρ a w bz;exact wpIn_skip ⟨st,ρ,h,bz⟩
 |region id ops draw=>
  intro _ ax W ro n hX _ st K h ρ a w ⟨ds,bz⟩
  have ZS:=hX.BP bz.mH.st
  cases draw with
  |false=>
   have h:mZ ctx ops ops.toList [] st [] fun st' _=>K .normal st':=h
   exact wpIn_region_list (kK hT hC ZS ops ops.toList [] st [] _ h (fun st' _ ρ' a' w' hk j9=>⟨st',ρ',hk,ds,bz.back j9⟩) ρ a w bz.base)
  |true=>
   refine wpIn_mono (Rg hT hC.sp hm ZS ro n id ops st (K .normal) h ρ a w bz.base) ?_
   rintro e a' w' ⟨st',ρ',⟨rfl,hk⟩,j9⟩
   exact ⟨st',ρ',hk,ds,bz.back j9⟩
 |seq x y Zl Zm=>
  intro tF ax W ro n hX hro st K h ρ a w bz
  have Uk:ro=none\/ kJ x=true:=hro.imp id fun h=>by simp only [kJ,Bool.and_eq_true] at h;exact h.1
  have Ul:ro=none\/ kJ y=true:=hro.imp id fun h=>by simp only [kJ,Bool.and_eq_true] at h;exact h.2
  refine wpIn_seq (wpIn_mono (Zl tF.1 ax W ro n hX Uk st _ h ρ a w bz) ?_)
  rintro e a' w' ⟨st',ρ',hk,j9⟩
  cases e with
  |normal=>exact Zm tF.2 ax W ro n hX Ul st' K hk ρ' a' w' j9
  |_=>exact ⟨st',ρ',hk,j9⟩
 |cond c x y Zl Zm=>
  intro tF ax W ro n hX hro st K h ρ a w bz
  have Uk:ro=none\/ kJ x=true:=hro.imp id fun h=>by simp only [kJ,Bool.and_eq_true] at h;exact h.1
  have Ul:ro=none\/ kJ y=true:=hro.imp id fun h=>by simp only [kJ,Bool.and_eq_true] at h;exact h.2
  unfold dY at h
  split at h
  ·rename_i t hc
   have:=bz.eval c (by rw [hc];simp)
   rw [hc] at this
   exact wpIn_cond_split this (fun ht=>Zl tF.1 ax W ro n hX Uk st K (by subst ht;exact h) ρ a w bz) (fun ht=>Zm tF.2 ax W ro n hX Ul st K (by subst ht;exact h) ρ a w bz)
  ·exact h.elim
 |block id c ih=>
  intro tF ax W ro n hX hro st K h ρ a w bz
  unfold dY at h
  unfold pP at tF
  split at h
  ·rename_i sp hsp
   rw [hsp] at tF
   exact tF ax W ro n hX hro st K h ρ a w bz
  ·rename_i hsp
   rw [hsp] at tF
   exact Ao (ih tF ax W ro n hX hro st _ h ρ a w bz)
 |loop c ih=>
  intro tF ax W ro n hX Uj st K h ρ a w bz
  obtain ⟨I,⟨m,Xl,Zc,h0⟩,hr⟩:=h
  intro b k cs hro hb hroom
  have key: ∀m a w,(∃st ρ,I m st/\ Ac ax W st ρ a w)-> ∃e a' w',Post ax W K e a' w'/\ ArrivesIn (Machine.fenced P (fw ro)) P (lone (b.atR a (.code c:: .inLoop c::k)) cs w) b k cs e a' w':=by
   intro m
   induction m using Nat.strongRecOn with
   |_ m Zi=>
    rintro a w ⟨st,ρ,hI,bz⟩
    obtain ⟨e,a1,w1,⟨pO,aY,hk,gN⟩,lI⟩:=ih tF ax W ro n hX Uj st _ (hr m st hI) ρ a w bz b (.inLoop c::k) cs hro hb hroom
    cases e with
    |normal=>
     obtain ⟨m',st',hm,hw,VV⟩:=hk
     obtain ⟨mc,lX⟩:=gN.weak hw
     obtain ⟨e2,a2,w2,QN,Gk⟩:=Zi m' hm a1 w1 ⟨st',mc,VV,lX⟩
     exact ⟨e2,a2,w2,QN,.of_steps (StepsIn.trans lI (.one (fenced_calm hb hroom rfl) stepR_inLoop)) Gk⟩
    |exit id=>exact ⟨_,a1,w1,⟨pO,aY,hk,gN⟩,.pass (x:= .inLoop c) rfl (fun _ _=> .inl (by simp)) lI⟩
    |goto l=>exact ⟨_,a1,w1,⟨pO,aY,hk,gN⟩,.pass (x:= .inLoop c) rfl (fun _ _=> .inl (by simp)) lI⟩
    |ret=>exact ⟨_,a1,w1,⟨pO,aY,hk,gN⟩,.pass (x:= .inLoop c) rfl (fun _ _=> .inl (by simp)) lI⟩
    |panic ch=>exact ⟨_,a1,w1,⟨pO,aY,hk,gN⟩,.pass (x:= .inLoop c) rfl (fun _ _=> .inl (by simp)) lI⟩
    |outgrown=>exact ⟨_,a1,w1,⟨pO,aY,hk,gN⟩,.pass (x:= .inLoop c) rfl (fun _ _=> .inl (by simp)) lI⟩
  obtain ⟨dH,IN⟩:=bz.weak Zc
  obtain ⟨e,a',w',hq,lI⟩:=key m a w ⟨Xl,dH,h0,IN⟩
  exact ⟨e,a',w',hq,.of_steps (.one (fenced_calm hb hroom rfl) stepR_loop) lI⟩
 |exit id=>intro _ ax W ro n hX _ st K h ρ a w bz;exact wpIn_exit ⟨st,ρ,h,bz⟩
 |ret=>intro _ ax W ro n hX _ st K h ρ a w bz;exact wpIn_ret ⟨st,ρ,h,bz⟩
 |rangeFunc g ps assign body CM CN=>
  intro tF ax W ro n hX hro st K h ρ a w ⟨ds,bz⟩
  have hro:ro=none:=hro.resolve_right (by simp [kJ])
  subst hro
  unfold dY at h
  split at h
  rotate_left
  ·exact h.elim
  rename_i hrf
  simp only [Bool.and_eq_true] at hrf
  split at h
  rotate_left
  ·exact h.elim
  rename_i f cap hg
  split at h
  rotate_left
  ·exact h.elim
  rename_i Jm OB
  obtain ⟨TX,OB⟩:=hC.dc f Jm OB
  have CJ:=bz.mH.eval g (by rw [hg];simp)
  rw [hg] at CJ
  have YF:=bz.mH.N6 g
  rw [hg] at YF
  obtain ⟨N,hN⟩: ∃N,N=st.heap.length:=⟨_,rfl⟩
  refine wpIn_rangeFunc fun fn _=> ?_
  obtain ⟨r,Ry⟩: ∃r:Loop,r= {state:= .ready,pending:=none,fn:=fn,tmps:=a.tmps,params:=ps,assign:=assign,body:=body,defers:=w.heap.size} :=⟨_,rfl⟩
  obtain ⟨W1,Vm⟩: ∃W1,W1=(w.alloc (.deferred (some []))).alloc (.loop r):=⟨_,rfl⟩
  have hD1:W1.heap[w.heap.size]? =some (.deferred (some [])):=by
   rw [Vm];exact (Below.heap_alloc _ _ _ (by simp)).trans (World.alloc_heap_new w _)
  have ZN:W1.heap[w.heap.size+1]? =some (.loop r):=by
   rw [Vm];have:=World.alloc_heap_new (w.alloc (.deferred (some []))) (.loop r);rwa [World.size_alloc] at this
  have Ks: ∀b,b<w.heap.size->W1.heap[b]? =w.heap[b]? :=fun b hb=>by
   rw [Vm];exact (Below.heap_alloc _ _ _ (by simp;omega)).trans (Below.heap_alloc _ _ _ hb)
  have hS1:W1.heap.size=w.heap.size+2:=by rw [Vm];simp
  let mc:Env:=fun m=>if m=N then {bt:=some (w.heap.size+1)} else if m=N+1 then {} else ρ m
  let tE:=st.heap++ [aG.loop r .ready none,.de mc (N+1)]
  have yw:tE.length=N+2:=by simp [tE,hN]
  have rI: ∀m,m<N->mc m=ρ m:=fun m hm=>by simp only [mc];rw [if_neg (by omega),if_neg (by omega)]
  have Kr:mc N= {bt:=some (w.heap.size+1)} :=by simp [mc]
  have hp2:mc (N+1)= {} :=by simp [mc]
  have nU: ∀m o,aj tE m=some o->(m<N/\ aj st.heap m=some o)\/ (m=N/\ o= .loop r .ready none)\/ (m=N+1/\ o= .de mc (N+1)):=by
   intro m o ho
   have hlt:=gw ho
   rw [bX] at ho
   rcases Nat.lt_or_ge m N with h1|h1
   ·rw [List.getElem?_append_left (by omega),←bX] at ho
    exact .inl ⟨h1,ho⟩
   ·rw [List.getElem?_append_right (by omega),←hN] at ho
    have:m=N\/ m=N+1:=by omega
    rcases this with rfl|rfl
    ·simp only [Nat.sub_self,List.getElem?_cons_zero,live,Option.some.injEq] at ho
     exact .inr (.inl ⟨rfl,ho.symm⟩)
    ·simp only [show N+1- N=1 by omega,List.getElem?_cons_succ,List.getElem?_cons_zero,live,Option.some.injEq] at ho
     exact .inr (.inr ⟨rfl,ho.symm⟩)
  have YD:Fr ax W W1:=by
   rw [Vm];exact (bz.mH.st.fr.alloc _).alloc _
  have Ue: ∀m o b,aj st.heap m=some o->(ρ m).has b->b<w.heap.size:=fun m o b ho hb=>bz.mH.st.lt m b (by rw [ho];rfl) hb
  have my:St ax W mc (· <tE.length) (aj tE) W1:=by
   have YZ:({r with state:= .ready,pending:=none} :Loop)=r:=by rw [Ry]
   have Gq: ∀b,eo ρ (aj st.heap) w b->eo mc (aj tE) W1 b/\ W1.heap[b]? =w.heap[b]? :=fun b hb=>by
    refine ⟨⟨hb.1.same (Ks b hb.1.lt),?_⟩,Ks b hb.1.lt⟩
    rintro (⟨m,h1,h2⟩|⟨m,S,h1,h2⟩)
    ·obtain ⟨o,ho⟩:=Option.isSome_iff_exists.1 h1
     rcases nU m o ho with ⟨h3,h4⟩|⟨rfl,rfl⟩|⟨rfl,rfl⟩
     ·rw [rI m h3] at h2
      exact hb.2 (.inl ⟨m,by simp [h4],h2⟩)
     ·rw [Kr] at h2;cases gU.1 h2
      have:=hb.1.lt;omega
     ·rw [hp2] at h2;cases gU.1 h2
    ·rcases nU m _ h1 with ⟨h3,h4⟩|⟨rfl,e⟩|⟨rfl,e⟩
     ·exact hb.2 (.inr ⟨m,S,h4,h2⟩)
     ·cases e
     ·cases e
   refine ⟨YD,fun m o ho=> ?_,fun m o ho=> ?_,fun m m' b hm hm' fg fV=> ?_,fun m b hm hb=> ?_,fun b ⟨m,S,h1,h2⟩=> ?_,fun m o ho=> ?_⟩
   rotate_right
   ·rcases nU m o ho with ⟨h1,h2⟩|⟨rfl,rfl⟩|⟨rfl,rfl⟩
    ·rw [rI m h1];exact bz.mH.st.qI m o h2
    ·exact .inr (by rw [Kr])
    ·exact .inr (by rw [hp2])
   rotate_right
   ·rcases nU m _ h1 with ⟨_,h4⟩|⟨_,e⟩|⟨_,e⟩
    ·obtain ⟨h5,h6⟩:=bz.mH.st.rH b ⟨m,S,h4,h2⟩
     refine ⟨by rw [hS1];omega,fun ⟨n,h7,h8⟩=> ?_⟩
     obtain ⟨o,ho⟩:=Option.isSome_iff_exists.1 h7
     rcases nU n o ho with ⟨h9,Mc⟩|⟨rfl,rfl⟩|⟨rfl,rfl⟩
     ·rw [rI n h9] at h8
      exact h6 ⟨n,by simp [Mc],h8⟩
     ·rw [Kr] at h8;cases gU.1 h8;omega
     ·rw [hp2] at h8;cases gU.1 h8
    ·cases e
    ·cases e
   ·rcases nU m o ho with ⟨h1,h2⟩|⟨rfl,rfl⟩|⟨rfl,rfl⟩
    ·have hk:=bz.mH.st.kn m o h2
     exact ct (Kn:=(· <st.heap.length)) (bz.mH.st.at_ m o h2) (fun i hi=>rI i (by omega)) (by omega) hk.2 Gq (fun _ _ h=>h) fun b hb=>Ks b (Ue m o b h2 hb)
    ·exact ⟨w.heap.size+1,by rw [Kr],by rw [YZ];exact ZN⟩
    ·exact ⟨by rw [hp2],fun _ _=>rfl⟩
   ·rcases nU m o ho with ⟨h1,h2⟩|⟨rfl,rfl⟩|⟨rfl,rfl⟩
    ·exact ⟨by omega,aG.aZ (fun i hi=>by omega) o (bz.mH.st.kn m o h2).2⟩
    ·exact ⟨by omega,trivial⟩
    ·exact ⟨by omega,fun i hi=>by omega⟩
   ·obtain ⟨o,ho⟩:=Option.isSome_iff_exists.1 hm
    obtain ⟨o',tG⟩:=Option.isSome_iff_exists.1 hm'
    rcases nU m o ho with ⟨h1,h2⟩|⟨rfl,rfl⟩|⟨rfl,rfl⟩
    ·rw [rI m h1] at fg
     have hlt:=Ue m o b h2 fg
     rcases nU m' o' tG with ⟨h3,h4⟩|⟨rfl,rfl⟩|⟨rfl,rfl⟩
     ·rw [rI m' h3] at fV
      exact bz.mH.st.cW m m' b (by simp [h2]) (by simp [h4]) fg fV
     ·rw [Kr] at fV;cases gU.1 fV;omega
     ·rw [hp2] at fV;cases gU.1 fV
    ·rw [Kr] at fg;cases gU.1 fg
     rcases nU m' o' tG with ⟨h3,h4⟩|⟨rfl,rfl⟩|⟨rfl,rfl⟩
     ·rw [rI m' h3] at fV
      have:=Ue m' o' _ h4 fV;omega
     ·rfl
     ·rw [hp2] at fV;cases gU.1 fV
    ·rw [hp2] at fg;cases gU.1 fg
   ·obtain ⟨o,ho⟩:=Option.isSome_iff_exists.1 hm
    rcases nU m o ho with ⟨h1,h2⟩|⟨rfl,rfl⟩|⟨rfl,rfl⟩
    ·rw [rI m h1] at hb
     exact bz.mH.st.jR m b (by simp [h2]) hb
    ·rw [Kr] at hb;cases gU.1 hb
     have:=bz.mH.st.fr.size
     exact .inl (by omega)
    ·rw [hp2] at hb;cases gU.1 hb
  have I5:=my.BP (N:=tE.length) fun m o ho=>⟨gw ho,(my.kn m o ho).2⟩
  have hX3:=hX.BP my
  have hys:=Qb (P:=P) (ctx:=ctx) (CM tF.1) (CN tF.2) hrf.1 hrf.2 (ps:=ps) (tU:=st.tmps) (n0:=N) (l:=w.heap.size+1) (mc:=mc) (r:=r) (by rw [Kr]) (by rw [Ry];exact ⟨rfl,rfl,rfl,rfl,rfl⟩)
   (by rw [Ry];exact bz.mH.size) (fun t ht=>by
    rw [Ry]
    show a.tmps.getD t undef=_
    rw [bz.mH.tmps t ht]
    exact (AV.bZ (Kn:=(· <st.heap.length)) (fun i hi=>rI i (by omega)) _ (bz.mH.kn t)).symm) (fun t=>by have:=bz.mH.kn t;rwa [<- hN] at this)
  have hcap: ∀x∈cap.map vW,x.ok (· <st.heap.length):=fun x hx=>by
   obtain ⟨q,hq,rfl⟩:=List.mem_map.1 hx
   exact G5 (YF q hq)
  have Kl:=OB _ _ _ _ (h r mc) (by rw [<- hN];exact hys) (lb ax W mc (aj tE) W1) W1 mc W1 hX3 (by
    intro x hx
    rcases List.mem_cons.1 hx with rfl|hx
    ·show st.heap.length<_
     simp
    ·exact AV.aZ (fun i hi=>by simp;omega) x (hcap x hx)) (by
    have:st.heap++ [aG.loop r .ready none,.de mc (st.heap.length+1)]=tE:=by simp only [tE,hN]
    rw [this];exact I5)
  refine ⟨w.heap.size+1,[nW w.heap.size],W1,{target:= .fn (.func f) (cap.map (Ref.af ρ)).toArray,args:= #[.func (.yield (w.heap.size+1)) #[] #[]]},W1,f,#[.func (.yield (w.heap.size+1)) #[] #[]]++(cap.map (Ref.af ρ)).toArray,W1,?_,?_,fun _ _=>trivial,?_,fun h=>by simp [fw] at h,tZ ?_⟩
  ·have:=run_enterLoop_outer (P:=P) (w:=w) fn a.tmps ps assign body
   rw [Vm,Ry];exact this
  ·simp only [resolve,CJ,AV.af,A0.af,Cell.af]
   simp [go_sem]
  ·simp only [invoke,Sem.run_bind,Sem.run_pure,Result.andThen_ok]
   have:=TX (#[.func (.yield (w.heap.size+1)) #[] #[]]++(cap.map (Ref.af ρ)).toArray) W1
   simpa using this
  have TQ:(((AV.v (.one (.zJ st.heap.length))::cap.map vW).map (AV.af mc)).toArray:Array Value)= #[.func (.yield (w.heap.size+1)) #[] #[]]++(cap.map (Ref.af ρ)).toArray:=by
   apply Array.ext'
   simp only [List.map_cons,List.map_map,AV.af,A0.af,Cell.af,<- hN,Kr,Array.toList_append,List.cons_append,List.nil_append,List.cons.injEq,true_and]
   refine List.map_congr_left fun q hq=> ?_
   show (vW q).af mc=q.af ρ
   rw [qe]
   exact Ref.bZ (Kn:=(· <st.heap.length)) (fun i hi=>rI i (by omega)) q (YF q hq)
  rw [TQ] at Kl
  refine Kl.mono ?_
  rintro e w' ⟨xn,ρ',v,rfl,_,hR,Rz⟩
  unfold KE at hR
  obtain ⟨hpe,hR⟩:=jm hR
  rw [<- hN] at hpe hR
  have mo: ∀i,i<N+1->ρ' i=mc i:=(Rz.at_ _ _ hpe).2
  have Z5:(ρ' N).bt=some (w.heap.size+1):=by rw [mo N (by omega),Kr]
  have Z7:=gw hpe
  have behind: ∀(r':Loop) (s:LoopState) (j:Option Code),aj xn.heap N=some (.loop r' s j)->s≠ .busy->
    (Instr.endLoop (w.heap.size+1)).run P w'= .ok j (w'.putObj (w.heap.size+1) (.loop {r' with state:= .exhausted,pending:=j}))/\
    Ac ax W ⟨st.tmps,(xn.heap.set N .gone).set (N+1) .gone⟩ ρ' {a with defers:= [nW w.heap.size]++a.defers} (w'.putObj (w.heap.size+1) (.loop {r' with state:= .exhausted,pending:=j})):=by
   intro r' s j hj hs
   obtain ⟨l,hl,CK⟩:=Rz.at_ _ _ hj
   rw [Z5] at hl;cases hl
   refine ⟨run_endLoop CK hs,w.heap.size::ds,?_,?_,?_⟩
   ·refine List.nodup_cons.2 ⟨fun hm=> ?_,bz.nd⟩
    have:=(Array.getElem?_eq_some_iff.1 (bz.dd _ hm).2).1
    omega
   ·intro D hD
    have VU:W.heap.size<=D/\ W1.heap[D]? =some (.deferred (some [])):=by
     rcases List.mem_cons.1 hD with rfl|hD
     ·exact ⟨bz.mH.st.fr.size,hD1⟩
     ·have h1:=bz.dd D hD
      exact ⟨h1.1,by rw [Ks D (Array.getElem?_eq_some_iff.1 h1.2).1];exact h1.2⟩
    refine ⟨VU.1,?_⟩
    have hne:D≠w.heap.size+1:=by
     rintro rfl
     have:=VU.2;rw [ZN] at this;cases this
    rw [World.putObj_heap_other hne,Rz.fr.block D (Array.getElem?_eq_some_iff.1 VU.2).1 (Kz my VU.2)]
    exact VU.2
   ·have Y6:=((my.QA Rz).Pc hj Z5 (.loop {r' with state:= .exhausted,pending:=j})).VK (N+1)
    refine ⟨fun t ht=> ?_,bz.mH.size,?_,fun t=> ?_,Y6⟩
    ·have h1:=bz.mH.tmps t ht
     rw [show ({a with defers:= [nW w.heap.size]++a.defers} :Act).tmps=a.tmps from rfl,h1]
     exact (AV.bZ (Kn:=(· <st.heap.length)) (fun i hi=>by rw [mo i (by omega),rI i (by omega)]) _ (bz.mH.kn t)).symm
    ·simp [bz.mH.defers]
    ·refine AV.aZ (fun i hi=> ?_) _ (bz.mH.kn t)
     rw [sZ,sZ];omega
  split at hR
  ·rename_i r' hj
   obtain ⟨h1,h2⟩:=behind _ _ _ hj (by simp)
   exact ⟨_,_,h1,_,ρ',hR,h2⟩
  ·rename_i r' hj
   obtain ⟨h1,h2⟩:=behind _ _ _ hj (by simp)
   exact ⟨_,_,h1,wpIn_ret ⟨_,ρ',hR,h2⟩⟩
  ·rename_i r' id hj
   obtain ⟨h1,h2⟩:=behind _ _ _ hj (by simp)
   exact ⟨_,_,h1,wpIn_exit ⟨_,ρ',hR,h2⟩⟩
  ·exact hR.elim
 |scope=>intro _ ax W ro n hX _ st K h;exact h.elim
 |label=>intro _ ax W ro n hX _ st K h;exact h.elim
 |goto=>intro _ ax W ro n hX _ st K h;exact h.elim
 |refuse=>intro _ ax W ro n hX _ st K h;exact h.elim
end
end Go.Ev
