/- Code and functions, out of the condition 'codeE'. -/
import Derived.Test.YtojielnkfeoccaaGreatEvM
noncomputable section
set_option linter.unusedSectionVars false
set_option linter.unusedVariables false
set_option linter.unusedSimpArgs false
namespace Go.Ev
open Go.RowKit
section
variable {P:Program} {ctx:Ctx} {ax:jh} {W:World}
def Snd (P:Program) (ctx:Ctx) (c:Code):Prop:= ∀ax W ro n,Ac ax W ctx.X->(ro=none\/ kM c=true)-> ∀st K,cK ctx c st K-> ∀ρ a w,Cc ax W st ρ a w->c.wpIn (fw ro) n P (Post ax W K) a w
theorem St.Oi {ax:jh} {W:World} {ρ:Env} {h:List aQ} {w:World} {n l:Nat} {r:Loop} {s:LoopState} {j:Option Code} (hst:St ax W ρ (· <h.length) (av h) w) (hn:av h n=some (.loop r s j)) (hl:(ρ n).blk=some l)
  (s':LoopState) (j':Option Code):St ax W ρ (· <h.length) (av (h.set n (.loop r s' j'))) (w.putObj l (.loop {r with state:=s',pending:=j'})):=by
 have hlt:=fV hn
 have hw:l<w.heap.size:=Dv (hst.at_ n _ hn) hl
 have hown:=hst.own n l (by simp [hn]) hl
 refine hst.put hown (fun hc=> ?_) fun m p hp=> ?_
 ·obtain ⟨b,hb,hh⟩:=hst.at_ n _ hn
  rw [hl] at hb;cases hb
  obtain ⟨cs,e,f,h2⟩:=hc
  rw [hh] at h2;cases h2
 rw [bP,List.getElem?_set] at hp
 by_cases e:n=m
 ·subst e
  rw [if_pos rfl,if_pos hlt] at hp
  cases hp
  exact ⟨fun _ _ _=>⟨l,hl,World.putObj_heap_same hw⟩,fun h=>absurd hl h,by simp [hn],hlt,trivial⟩
 ·rw [if_neg e,←bP] at hp
  have hk:=hst.kn m p hp
  exact ⟨fun h1=>absurd (hst.inj n m l (by simp [hn]) (by simp [hp]) hl h1) e,fun _=>hp,by simp [hp],hk.1,hk.2⟩
theorem St.Tw {ax:jh} {W:World} {ρ:Env} {h:List aQ} {w:World} {n l:Nat} {r:Loop} {s:LoopState} {j:Option Code} (hst:St ax W ρ (· <h.length) (av h) w) (hn:av h n=some (.loop r s j)) (hl:(ρ n).blk=some l) (o:Obj):
  St ax W ρ (· <(h.set n .gone).length) (av (h.set n .gone)) (w.putObj l o):=by
 have hlt:=fV hn
 have hown:=hst.own n l (by simp [hn]) hl
 rw [List.length_set]
 refine hst.put hown (fun hc=> ?_) fun m p hp=> ?_
 ·obtain ⟨b,hb,hh⟩:=hst.at_ n _ hn
  rw [hl] at hb;cases hb
  obtain ⟨cs,e,f,h2⟩:=hc
  rw [hh] at h2;cases h2
 rw [bP,List.getElem?_set] at hp
 by_cases e:n=m
 ·subst e
  rw [if_pos rfl,if_pos hlt] at hp
  cases hp
 ·rw [if_neg e,←bP] at hp
  have hk:=hst.kn m p hp
  exact ⟨fun h1=>absurd (hst.inj n m l (by simp [hn]) (by simp [hp]) hl h1) e,fun _=>hp,by simp [hp],hk.1,hk.2⟩
theorem tT {h:List aQ} {n:Nat} {o:aQ} :(h.set n o).length=h.length:=List.length_set
theorem Un {assign body:Code} (ha:Snd P ctx assign) (hb:Snd P ctx body) (hra:kM assign=true) (hrb:kM body=true) {ps:Array Tmp} {uM:List AV} {n0 l:Nat} {rA:Env} {r:Loop} (hl:(rA n0).blk=some l)
  (hr:r.state= .ready/\ r.pending=none/\ r.params=ps/\ r.assign=assign/\ r.body=body) (hts:r.tmps.size=uM.length) (htm: ∀t,dP uM t≠ .dead->r.tmps.getD t undef=(dP uM t).ae rA) (htk: ∀t,(dP uM t).ok (· <n0)):
  rh P [(n0,W9 ctx.X n0 uM r rA ps (cK ctx assign) (cK ctx body))]:=by
 intro n s hs X args hp nm k h
 unfold aG at hs
 split at hs
 rotate_left
 ·cases hs
 rename_i en
 subst en
 cases hs
 unfold W9 at h
 obtain ⟨hXX,h⟩:=h
 subst hXX
 split at h
 rotate_left
 ·exact h.elim
 rename_i hsz
 obtain ⟨hp1,h⟩:=nA h
 obtain ⟨SV,h⟩:=Db h
 intro ro m ax W ρ w hX hargs hst
 have YA:=hst.at_ _ _ hp1
 have aau: ∀i,i<n0+1->ρ i=rA i:=YA.2
 have hln:(ρ n0).blk=some l:=by rw [aau n0 (by omega)];exact hl
 obtain ⟨l',hl',V9⟩:=hst.at_ _ _ SV
 rw [hln] at hl';cases hl'
 have hre:({r with state:= .ready,pending:=none} :Loop)=r:=by cases r;simp only at hr;obtain ⟨rfl,rfl,_⟩:=hr;rfl
 rw [hre] at V9
 have Mb:n0+1<nm:=(hst.kn _ _ hp1).1
 have Ar: ∀m,hp m≠some .gone:=fun m e=>hst.at_ m _ e
 have hkl: ∀m,(hp m).isSome=true->m<nm:=fun m hm=>by
  obtain ⟨o,ho⟩:=Option.isSome_iff_exists.1 hm
  exact (hst.kn m o ho).1
 refine ⟨l,r.fn,(r.params.zip (args.map (AV.ae ρ)).toArray).foldl (fun tmps (x:Tmp×Value)=>tmps.setIfInBounds x.1 x.2) r.tmps,assign,body,hln,?_,?_⟩
 ·have:=run_yield (P:=P) (args:=(args.map (AV.ae ρ)).toArray) V9 (by simp [hr.2.2.1,hsz])
  rw [this,hr.2.2.2.1,hr.2.2.2.2]
 let Aq:=dM hp nm++ [aQ.eJ ρ nm]
 let Er:=aZ ρ nm {}
 have Zz:Aq.length=nm+1:=by simp [Aq,bg]
 have iX: ∀m,m<nm->Er m=ρ m:=fun m hm=>by simp only [Er,aZ];rw [if_neg (by omega)]
 have BT: ∀m o,av Aq m=some o->(m<nm/\ hp m=some o)\/ (m=nm/\ o= .eJ ρ nm):=by
  intro m o ho
  rw [bP] at ho
  rcases Nat.lt_or_ge m nm with h1|h1
  ·rw [List.getElem?_append_left (by rw [bg];exact h1),oE h1 (Ar m)] at ho
   exact .inl ⟨h1,ho⟩
  ·have:m<Aq.length:=fV (by rw [bP];exact ho)
   have:m=nm:=by omega
   subst this
   rw [List.getElem?_append_right (by rw [bg];exact Nat.le_refl _),bg] at ho
   simp only [Nat.sub_self,List.getElem?_cons_zero,live,Option.some.injEq] at ho
   exact .inr ⟨rfl,ho.symm⟩
 have Yp: ∀b,gW ρ hp w b->gW Er (av Aq) w b/\ w.heap[b]? =w.heap[b]? :=fun b hb=>by
  refine ⟨⟨hb.1,?_⟩,rfl⟩
  rintro (⟨m,h1,h2⟩|⟨m,S,h1,h2⟩)
  ·obtain ⟨o,ho⟩:=Option.isSome_iff_exists.1 h1
   rcases BT m o ho with ⟨h3,h4⟩|⟨rfl,rfl⟩
   ·rw [iX m h3] at h2
    exact hb.2 (.inl ⟨m,by simp [h4],h2⟩)
   ·simp [Er,aZ] at h2
  ·rcases BT m _ h1 with ⟨h3,h4⟩|⟨rfl,e⟩
   ·exact hb.2 (.inr ⟨m,S,h4,h2⟩)
   ·cases e
 have Mf:St ax W Er (· <Aq.length) (av Aq) w:=by
  refine ⟨hst.fr,fun m o ho=> ?_,fun m o ho=> ?_,fun m m' b hm hm' ik iW=> ?_,fun m b hm hb=> ?_,fun b ⟨m,S,h1,h2⟩=> ?_,fun m o ho=> ?_⟩
  rotate_right
  ·rcases BT m o ho with ⟨h1,h2⟩|⟨rfl,rfl⟩
   ·rw [iX m h1];exact hst.vX m o h2
   ·exact .inr (by simp [Er,aZ])
  rotate_right
  ·rcases BT m _ h1 with ⟨_,h4⟩|⟨_,e⟩
   ·obtain ⟨h5,h6⟩:=hst.wZ b ⟨m,S,h4,h2⟩
    refine ⟨h5,fun ⟨n,h7,h8⟩=> ?_⟩
    obtain ⟨o,ho⟩:=Option.isSome_iff_exists.1 h7
    rcases BT n o ho with ⟨h9,Qm⟩|⟨rfl,rfl⟩
    ·rw [iX n h9] at h8
     exact h6 ⟨n,by simp [Qm],h8⟩
    ·simp [Er,aZ] at h8
   ·cases e
  ·rcases BT m o ho with ⟨h1,h2⟩|⟨rfl,rfl⟩
   ·have hk:=hst.kn m o h2
    exact cr (Kn:=(· <nm)) (hst.at_ m o h2) iX h1 hk.2 Yp (fun _ _ h=>h) fun _ _=>rfl
   ·exact ⟨by simp [Er,aZ],iX⟩
  ·rcases BT m o ho with ⟨h1,h2⟩|⟨rfl,rfl⟩
   ·exact ⟨by rw [Zz];omega,aQ.bC (fun i hi=>by rw [Zz];omega) o (hst.kn m o h2).2⟩
   ·exact ⟨by rw [Zz];omega,fun i hi=>by rw [Zz];omega⟩
  ·obtain ⟨o,ho⟩:=Option.isSome_iff_exists.1 hm
   obtain ⟨o',tY⟩:=Option.isSome_iff_exists.1 hm'
   rcases BT m o ho with ⟨h1,h2⟩|⟨rfl,rfl⟩
   ·rcases BT m' o' tY with ⟨h3,h4⟩|⟨rfl,rfl⟩
    ·rw [iX m h1] at ik;rw [iX m' h3] at iW
     exact hst.eS m m' b (by simp [h2]) (by simp [h4]) ik iW
    ·simp [Er,aZ] at iW
   ·simp [Er,aZ] at ik
  ·obtain ⟨o,ho⟩:=Option.isSome_iff_exists.1 hm
   rcases BT m o ho with ⟨h1,h2⟩|⟨rfl,rfl⟩
   ·rw [iX m h1] at hb
    exact hst.mA m b (by simp [h2]) hb
   ·simp [Er,aZ] at hb
 have adE: ∀t,dP uM t≠ .dead->r.tmps.getD t undef=(dP uM t).ae Er:=fun t ht=>by
  rw [htm t ht]
  refine (AV.bX (Kn:=(· <n0)) (fun i hi=> ?_) _ (htk t)).symm
  rw [iX i (by omega),aau i (by omega)]
 have SG:args.map (AV.ae ρ)=args.map (AV.ae Er):=List.map_congr_left fun x hx=>(AV.bX (Kn:=(· <nm)) iX x (hargs x hx)).symm
 obtain ⟨hs1,hs2⟩:=DP Er ps.toList uM args r.tmps hts adE
 have acT:Cc ax W ⟨xV uM ps.toList args,Aq⟩ Er {tmps:=(r.params.zip (args.map (AV.ae ρ)).toArray).foldl (fun tmps (x:Tmp×Value)=>tmps.setIfInBounds x.1 x.2) r.tmps,defers:= []} w:=by
  refine ⟨[],List.nodup_nil,fun D hD=>absurd hD (by simp),⟨fun t ht=> ?_,?_,rfl,fun t=> ?_,Mf⟩⟩
  ·dsimp only
   rw [hr.2.2.1,SG,Fo]
   exact hs2 t ht
  ·dsimp only
   rw [hr.2.2.1,SG,Fo,xW]
   exact hs1
  ·refine KD _ _ _ (fun t=>AV.bC (fun i hi=> ?_) _ (htk t)) (fun v hv=>AV.bC (fun i hi=> ?_) _ (hargs v hv)) t<;>(dsimp only;rw [Zz];omega)
 refine roundIn_of_wpIn trivial ?_
 refine wpIn_mono (ha ax W (some l) m hX (.inr hra) _ _ (h ρ) Er _ w acT) ?_
 rintro e a1 w1 ⟨st1,ρ',Vg,ij⟩
 cases e<;>try exact Vg.elim
 obtain ⟨hq1,Vg⟩:=nA Vg
 obtain ⟨hq0,Vg⟩:=Db Vg
 obtain ⟨ds1,ij⟩:=ij
 have acS: ∀i,i<nm->ρ' i=ρ i:=(ij.mK.st.at_ _ _ hq1).2
 have hl1:(ρ' n0).blk=some l:=by rw [acS n0 (by omega)];exact hln
 obtain ⟨l1,aaK,Xu⟩:=ij.mK.st.at_ _ _ hq0
 rw [hl1] at aaK;cases aaK
 refine ⟨_,run_beginRound Xu rfl,?_⟩
 have ady:=ij.mK.st.Oi hq0 hl1 .busy none
 have hD: ∀D∈ds1,D≠l:=by
  rintro D hD rfl
  have:=(ij.dd D hD).2
  rw [Xu] at this;cases this
 have acU:Cc ax W ⟨st1.tmps,st1.heap.set n0 (.loop r .busy none)⟩ ρ' a1 (w1.putObj l (.loop {r with state:= .busy,pending:=none})):=by
  refine ⟨ds1,ij.nd,fun D hd=>⟨(ij.dd D hd).1,?_⟩,⟨ij.mK.tmps,ij.mK.size,ij.mK.defers,fun t=> ?_,?_⟩⟩
  ·rw [World.putObj_heap_other (hD D hd)];exact (ij.dd D hd).2
  ·dsimp only;rw [tT];exact ij.mK.kn t
  ·dsimp only;rw [tT];exact ady
 refine wpIn_mono (hb ax W (some l) m hX (.inr hrb) _ _ Vg ρ' _ _ acU) ?_
 rintro e a2 w2 ⟨st2,ρ4,ZE,ds2,nV⟩
 have fin: ∀jump:Option Code,sM hp nm n0 r ρ st2.heap jump k-> ∃v w',(Instr.endRound l jump).run P w2= .ok v w'/\ ∃r ρ',k r/\ (∀p∈r.writes,hp p.1≠none)/\ Ending.returned v= .returned (r.val.ae ρ')/\ (∀m,m<nm->ρ' m=ρ m)/\ r.val.ok (iK (· <nm) nm r)/\ St ax W ρ' (iK (· <nm) nm r) (cq r nm hp) w':=by
  intro jump hk
  unfold sM at hk
  obtain ⟨hb0,hk⟩:=JU hk
  obtain ⟨ik,hk⟩:=nA hk
  have aat: ∀i,i<nm->ρ4 i=ρ i:=(nV.mK.st.at_ _ _ ik).2
  have zo:(ρ4 n0).blk=some l:=by rw [aat n0 (by omega)];exact hln
  obtain ⟨l2,aaL,aaT⟩:=nV.mK.st.at_ _ _ hb0
  rw [zo] at aaL;cases aaL
  refine ⟨_,_,run_endRound jump aaT,_,ρ4,hk,fun p hp=>w4 hp,rfl,aat,trivial,?_⟩
  have hlen:=fV ik
  have aaZ:=nV.mK.st.Oi hb0 zo (if jump.isNone then .ready else .done) jump
  obtain ⟨e1,e2⟩:=Ck (hp:=hp) (nm:=nm) (v:=bH jump.isNone) (h:=st2.heap.set n0 (HL r jump)) (by rw [tT];exact hlen)
  unfold Xk
  rw [e2,tT]
  have e3:HL r jump= .loop r (if jump.isNone then .ready else .done) jump:=by cases jump<;>rfl
  rw [e3] at e1 ⊢
  refine aaZ.less fun i o ho=> ?_
  have:=e1 i o ho (Ar i) hkl
  exact ⟨this,aaZ.kn i o this⟩
 cases e with
 |normal=>exact fin none ZE
 |ret=>exact fin (some .ret) ZE
 |exit id=>exact fin (some (.exit id)) ZE
 |_=>exact ZE.elim
theorem oh (hT:aX P ctx.tt) (hC:nW P ctx) (hm:P.follows .mixedOrders=true): ∀(c:Code),qb P ctx c->Snd P ctx c:=by
 intro c
 induction c with
 |skip=>intro _ ax W ro n hX _ st K h ρ a w bD;exact wpIn_skip ⟨st,ρ,h,bD⟩
 |region id ops draw=>
  intro _ ax W ro n hX _ st K h ρ a w ⟨ds,bD⟩
  have hX':=hX.DC bD.mK.st
  cases draw with
  |false=>
   have h:nE ctx ops ops.toList [] st [] fun st' _=>K .normal st':=h
   exact wpIn_region_list (kO hT hC hX' ops ops.toList [] st [] _ h (fun st' _ ρ' a' w' hk kD=>⟨st',ρ',hk,ds,bD.back kD⟩) ρ a w bD.base)
  |true=>
   refine wpIn_mono (VI hT hC.sp hm hX' ro n id ops st (K .normal) h ρ a w bD.base) ?_
   rintro e a' w' ⟨st',ρ',⟨rfl,hk⟩,kD⟩
   exact ⟨st',ρ',hk,ds,bD.back kD⟩
 |seq x y ihx ihy=>
  intro sj ax W ro n hX hro st K h ρ a w bD
  have YD:ro=none\/ kM x=true:=hro.imp id fun h=>by simp only [kM,Bool.and_eq_true] at h;exact h.1
  have YE:ro=none\/ kM y=true:=hro.imp id fun h=>by simp only [kM,Bool.and_eq_true] at h;exact h.2
  refine wpIn_seq (wpIn_mono (ihx sj.1 ax W ro n hX YD st _ h ρ a w bD) ?_)
  rintro e a' w' ⟨st',ρ',hk,kD⟩
  cases e with
  |normal=>exact ihy sj.2 ax W ro n hX YE st' K hk ρ' a' w' kD
  |_=>exact ⟨st',ρ',hk,kD⟩
 |cond c x y ihx ihy=>
  intro sj ax W ro n hX hro st K h ρ a w bD
  have YD:ro=none\/ kM x=true:=hro.imp id fun h=>by simp only [kM,Bool.and_eq_true] at h;exact h.1
  have YE:ro=none\/ kM y=true:=hro.imp id fun h=>by simp only [kM,Bool.and_eq_true] at h;exact h.2
  unfold cK at h
  split at h
  ·rename_i t hc
   have:=bD.eval c (by rw [hc];simp)
   rw [hc] at this
   exact wpIn_cond_split this (fun ht=>ihx sj.1 ax W ro n hX YD st K (by subst ht;exact h) ρ a w bD) (fun ht=>ihy sj.2 ax W ro n hX YE st K (by subst ht;exact h) ρ a w bD)
  ·exact h.elim
 |block id c ih=>
  intro sj ax W ro n hX hro st K h ρ a w bD
  unfold cK at h
  unfold qb at sj
  split at h
  ·rename_i sp hsp
   rw [hsp] at sj
   exact sj ax W ro n hX hro st K h ρ a w bD
  ·rename_i hsp
   rw [hsp] at sj
   exact Cs (ih sj ax W ro n hX hro st _ h ρ a w bD)
 |loop c ih=>
  intro sj ax W ro n hX YC st K h ρ a w bD
  obtain ⟨I,⟨m,stw,hw0,h0⟩,hr⟩:=h
  intro b k cs hro hb hroom
  have key: ∀m a w,(∃st ρ,I m st/\ Cc ax W st ρ a w)-> ∃e a' w',Post ax W K e a' w'/\ ArrivesIn (Machine.fenced P (fw ro)) P (lone (b.atR a (.code c:: .inLoop c::k)) cs w) b k cs e a' w':=by
   intro m
   induction m using Nat.strongRecOn with
   |_ m ihm=>
    rintro a w ⟨st,ρ,hI,bD⟩
    obtain ⟨e,a1,w1,⟨st1,cJ,hk,ij⟩,lP⟩:=ih sj ax W ro n hX YC st _ (hr m st hI) ρ a w bD b (.inLoop c::k) cs hro hb hroom
    cases e with
    |normal=>
     obtain ⟨m',st',hm,hw,hI'⟩:=hk
     obtain ⟨rA,nV⟩:=ij.weak hw
     obtain ⟨e2,a2,w2,Rr,JJ⟩:=ihm m' hm a1 w1 ⟨st',rA,hI',nV⟩
     exact ⟨e2,a2,w2,Rr,.of_steps (StepsIn.trans lP (.one (fenced_calm hb hroom rfl) stepR_inLoop)) JJ⟩
    |exit id=>exact ⟨_,a1,w1,⟨st1,cJ,hk,ij⟩,.pass (x:= .inLoop c) rfl (fun _ _=> .inl (by simp)) lP⟩
    |goto l=>exact ⟨_,a1,w1,⟨st1,cJ,hk,ij⟩,.pass (x:= .inLoop c) rfl (fun _ _=> .inl (by simp)) lP⟩
    |ret=>exact ⟨_,a1,w1,⟨st1,cJ,hk,ij⟩,.pass (x:= .inLoop c) rfl (fun _ _=> .inl (by simp)) lP⟩
    |panic ch=>exact ⟨_,a1,w1,⟨st1,cJ,hk,ij⟩,.pass (x:= .inLoop c) rfl (fun _ _=> .inl (by simp)) lP⟩
    |outgrown=>exact ⟨_,a1,w1,⟨st1,cJ,hk,ij⟩,.pass (x:= .inLoop c) rfl (fun _ _=> .inl (by simp)) lP⟩
  obtain ⟨mI,L6⟩:=bD.weak hw0
  obtain ⟨e,a',w',hq,lP⟩:=key m a w ⟨stw,mI,h0,L6⟩
  exact ⟨e,a',w',hq,.of_steps (.one (fenced_calm hb hroom rfl) stepR_loop) lP⟩
 |exit id=>intro _ ax W ro n hX _ st K h ρ a w bD;exact wpIn_exit ⟨st,ρ,h,bD⟩
 |ret=>intro _ ax W ro n hX _ st K h ρ a w bD;exact wpIn_ret ⟨st,ρ,h,bD⟩
 |rangeFunc g ps assign body iha ihb=>
  intro sj ax W ro n hX hro st K h ρ a w ⟨ds,bD⟩
  have hro:ro=none:=hro.resolve_right (by simp [kM])
  subst hro
  unfold cK at h
  split at h
  rotate_left
  ·exact h.elim
  rename_i hrf
  simp only [Bool.and_eq_true] at hrf
  split at h
  rotate_left
  ·exact h.elim
  rename_i f cap hg
  split at h
  rotate_left
  ·exact h.elim
  rename_i MC SS
  obtain ⟨Yn,SS⟩:=hC.its f MC SS
  have nk:=bD.mK.eval g (by rw [hg];simp)
  rw [hg] at nk
  have hgk:=bD.mK.Sk g
  rw [hg] at hgk
  obtain ⟨N,hN⟩: ∃N,N=st.heap.length:=⟨_,rfl⟩
  refine wpIn_rangeFunc fun fn _=> ?_
  obtain ⟨r,hrr⟩: ∃r:Loop,r= {state:= .ready,pending:=none,fn:=fn,tmps:=a.tmps,params:=ps,assign:=assign,body:=body,defers:=w.heap.size} :=⟨_,rfl⟩
  obtain ⟨W1,ZD⟩: ∃W1,W1=(w.alloc (.deferred (some []))).alloc (.loop r):=⟨_,rfl⟩
  have hD1:W1.heap[w.heap.size]? =some (.deferred (some [])):=by
   rw [ZD];exact (Below.heap_alloc _ _ _ (by simp)).trans (World.alloc_heap_new w _)
  have hL1:W1.heap[w.heap.size+1]? =some (.loop r):=by
   rw [ZD];have:=World.alloc_heap_new (w.alloc (.deferred (some []))) (.loop r);rwa [World.size_alloc] at this
  have N4: ∀b,b<w.heap.size->W1.heap[b]? =w.heap[b]? :=fun b hb=>by
   rw [ZD];exact (Below.heap_alloc _ _ _ (by simp;omega)).trans (Below.heap_alloc _ _ _ hb)
  have hS1:W1.heap.size=w.heap.size+2:=by rw [ZD];simp
  let rA:Env:=fun m=>if m=N then {blk:=some (w.heap.size+1)} else if m=N+1 then {} else ρ m
  let uo:=st.heap++ [aQ.loop r .ready none,.eJ rA (N+1)]
  have zo:uo.length=N+2:=by simp [uo,hN]
  have sk: ∀m,m<N->rA m=ρ m:=fun m hm=>by simp only [rA];rw [if_neg (by omega),if_neg (by omega)]
  have Mc:rA N= {blk:=some (w.heap.size+1)} :=by simp [rA]
  have hp2:rA (N+1)= {} :=by simp [rA]
  have mg: ∀m o,av uo m=some o->(m<N/\ av st.heap m=some o)\/ (m=N/\ o= .loop r .ready none)\/ (m=N+1/\ o= .eJ rA (N+1)):=by
   intro m o ho
   have hlt:=fV ho
   rw [bP] at ho
   rcases Nat.lt_or_ge m N with h1|h1
   ·rw [List.getElem?_append_left (by omega),←bP] at ho
    exact .inl ⟨h1,ho⟩
   ·rw [List.getElem?_append_right (by omega),←hN] at ho
    have:m=N\/ m=N+1:=by omega
    rcases this with rfl|rfl
    ·simp only [Nat.sub_self,List.getElem?_cons_zero,live,Option.some.injEq] at ho
     exact .inr (.inl ⟨rfl,ho.symm⟩)
    ·simp only [show N+1- N=1 by omega,List.getElem?_cons_succ,List.getElem?_cons_zero,live,Option.some.injEq] at ho
     exact .inr (.inr ⟨rfl,ho.symm⟩)
  have ac5:Fr ax W W1:=by
   rw [ZD];exact (bD.mK.st.fr.alloc _).alloc _
  have Yv: ∀m o b,av st.heap m=some o->(ρ m).has b->b<w.heap.size:=fun m o b ho hb=>bD.mK.st.lt m b (by rw [ho];rfl) hb
  have o8:St ax W rA (· <uo.length) (av uo) W1:=by
   have hre:({r with state:= .ready,pending:=none} :Loop)=r:=by rw [hrr]
   have SR: ∀b,gW ρ (av st.heap) w b->gW rA (av uo) W1 b/\ W1.heap[b]? =w.heap[b]? :=fun b hb=>by
    refine ⟨⟨hb.1.same (N4 b hb.1.lt),?_⟩,N4 b hb.1.lt⟩
    rintro (⟨m,h1,h2⟩|⟨m,S,h1,h2⟩)
    ·obtain ⟨o,ho⟩:=Option.isSome_iff_exists.1 h1
     rcases mg m o ho with ⟨h3,h4⟩|⟨rfl,rfl⟩|⟨rfl,rfl⟩
     ·rw [sk m h3] at h2
      exact hb.2 (.inl ⟨m,by simp [h4],h2⟩)
     ·rw [Mc] at h2;cases iC.1 h2
      have:=hb.1.lt;omega
     ·rw [hp2] at h2;cases iC.1 h2
    ·rcases mg m _ h1 with ⟨h3,h4⟩|⟨rfl,e⟩|⟨rfl,e⟩
     ·exact hb.2 (.inr ⟨m,S,h4,h2⟩)
     ·cases e
     ·cases e
   refine ⟨ac5,fun m o ho=> ?_,fun m o ho=> ?_,fun m m' b hm hm' ik iW=> ?_,fun m b hm hb=> ?_,fun b ⟨m,S,h1,h2⟩=> ?_,fun m o ho=> ?_⟩
   rotate_right
   ·rcases mg m o ho with ⟨h1,h2⟩|⟨rfl,rfl⟩|⟨rfl,rfl⟩
    ·rw [sk m h1];exact bD.mK.st.vX m o h2
    ·exact .inr (by rw [Mc])
    ·exact .inr (by rw [hp2])
   rotate_right
   ·rcases mg m _ h1 with ⟨_,h4⟩|⟨_,e⟩|⟨_,e⟩
    ·obtain ⟨h5,h6⟩:=bD.mK.st.wZ b ⟨m,S,h4,h2⟩
     refine ⟨by rw [hS1];omega,fun ⟨n,h7,h8⟩=> ?_⟩
     obtain ⟨o,ho⟩:=Option.isSome_iff_exists.1 h7
     rcases mg n o ho with ⟨h9,Qm⟩|⟨rfl,rfl⟩|⟨rfl,rfl⟩
     ·rw [sk n h9] at h8
      exact h6 ⟨n,by simp [Qm],h8⟩
     ·rw [Mc] at h8;cases iC.1 h8;omega
     ·rw [hp2] at h8;cases iC.1 h8
    ·cases e
    ·cases e
   ·rcases mg m o ho with ⟨h1,h2⟩|⟨rfl,rfl⟩|⟨rfl,rfl⟩
    ·have hk:=bD.mK.st.kn m o h2
     exact cr (Kn:=(· <st.heap.length)) (bD.mK.st.at_ m o h2) (fun i hi=>sk i (by omega)) (by omega) hk.2 SR (fun _ _ h=>h) fun b hb=>N4 b (Yv m o b h2 hb)
    ·exact ⟨w.heap.size+1,by rw [Mc],by rw [hre];exact hL1⟩
    ·exact ⟨by rw [hp2],fun _ _=>rfl⟩
   ·rcases mg m o ho with ⟨h1,h2⟩|⟨rfl,rfl⟩|⟨rfl,rfl⟩
    ·exact ⟨by omega,aQ.bC (fun i hi=>by omega) o (bD.mK.st.kn m o h2).2⟩
    ·exact ⟨by omega,trivial⟩
    ·exact ⟨by omega,fun i hi=>by omega⟩
   ·obtain ⟨o,ho⟩:=Option.isSome_iff_exists.1 hm
    obtain ⟨o',tY⟩:=Option.isSome_iff_exists.1 hm'
    rcases mg m o ho with ⟨h1,h2⟩|⟨rfl,rfl⟩|⟨rfl,rfl⟩
    ·rw [sk m h1] at ik
     have hlt:=Yv m o b h2 ik
     rcases mg m' o' tY with ⟨h3,h4⟩|⟨rfl,rfl⟩|⟨rfl,rfl⟩
     ·rw [sk m' h3] at iW
      exact bD.mK.st.eS m m' b (by simp [h2]) (by simp [h4]) ik iW
     ·rw [Mc] at iW;cases iC.1 iW;omega
     ·rw [hp2] at iW;cases iC.1 iW
    ·rw [Mc] at ik;cases iC.1 ik
     rcases mg m' o' tY with ⟨h3,h4⟩|⟨rfl,rfl⟩|⟨rfl,rfl⟩
     ·rw [sk m' h3] at iW
      have:=Yv m' o' _ h4 iW;omega
     ·rfl
     ·rw [hp2] at iW;cases iC.1 iW
    ·rw [hp2] at ik;cases iC.1 ik
   ·obtain ⟨o,ho⟩:=Option.isSome_iff_exists.1 hm
    rcases mg m o ho with ⟨h1,h2⟩|⟨rfl,rfl⟩|⟨rfl,rfl⟩
    ·rw [sk m h1] at hb
     exact bD.mK.st.mA m b (by simp [h2]) hb
    ·rw [Mc] at hb;cases iC.1 hb
     have:=bD.mK.st.fr.size
     exact .inl (by omega)
    ·rw [hp2] at hb;cases iC.1 hb
  have Mf:=o8.DC (N:=uo.length) fun m o ho=>⟨fV ho,(o8.kn m o ho).2⟩
  have hX3:=hX.DC o8
  have hys:=Un (P:=P) (ctx:=ctx) (iha sj.1) (ihb sj.2) hrf.1 hrf.2 (ps:=ps) (uM:=st.tmps) (n0:=N) (l:=w.heap.size+1) (rA:=rA) (r:=r) (by rw [Mc]) (by rw [hrr];exact ⟨rfl,rfl,rfl,rfl,rfl⟩)
   (by rw [hrr];exact bD.mK.size) (fun t ht=>by
    rw [hrr]
    show a.tmps.getD t undef=_
    rw [bD.mK.tmps t ht]
    exact (AV.bX (Kn:=(· <st.heap.length)) (fun i hi=>sk i (by omega)) _ (bD.mK.kn t)).symm) (fun t=>by have:=bD.mK.kn t;rwa [<- hN] at this)
  have hcap: ∀x∈cap.map xE,x.ok (· <st.heap.length):=fun x hx=>by
   obtain ⟨q,hq,rfl⟩:=List.mem_map.1 hx
   exact Kk (hgk q hq)
  have CW:=SS _ _ _ _ (h r rA) (by rw [<- hN];exact hys) (lb ax W rA (av uo) W1) W1 rA W1 hX3 (by
    intro x hx
    rcases List.mem_cons.1 hx with rfl|hx
    ·show st.heap.length<_
     simp
    ·exact AV.bC (fun i hi=>by simp;omega) x (hcap x hx)) (by
    have:st.heap++ [aQ.loop r .ready none,.eJ rA (st.heap.length+1)]=uo:=by simp only [uo,hN]
    rw [this];exact Mf)
  refine ⟨w.heap.size+1,[oG w.heap.size],W1,{target:= .fn (.func f) (cap.map (Ref.ae ρ)).toArray,args:= #[.func (.yield (w.heap.size+1)) #[] #[]]},W1,f,#[.func (.yield (w.heap.size+1)) #[] #[]]++(cap.map (Ref.ae ρ)).toArray,W1,?_,?_,fun _ _=>trivial,?_,fun h=>by simp [fw] at h,uS ?_⟩
  ·have:=run_enterLoop_outer (P:=P) (w:=w) fn a.tmps ps assign body
   rw [ZD,hrr];exact this
  ·simp only [resolve,nk,AV.ae,A0.ae,Cell.ae]
   simp [go_sem]
  ·simp only [invoke,Sem.run_bind,Sem.run_pure,Result.andThen_ok]
   have:=Yn (#[.func (.yield (w.heap.size+1)) #[] #[]]++(cap.map (Ref.ae ρ)).toArray) W1
   simpa using this
  have Yj:(((AV.v (.one (.nU st.heap.length))::cap.map xE).map (AV.ae rA)).toArray:Array Value)= #[.func (.yield (w.heap.size+1)) #[] #[]]++(cap.map (Ref.ae ρ)).toArray:=by
   apply Array.ext'
   simp only [List.map_cons,List.map_map,AV.ae,A0.ae,Cell.ae,<- hN,Mc,Array.toList_append,List.cons_append,List.nil_append,List.cons.injEq,true_and]
   refine List.map_congr_left fun q hq=> ?_
   show (xE q).ae rA=q.ae ρ
   rw [vq]
   exact Ref.bX (Kn:=(· <st.heap.length)) (fun i hi=>sk i (by omega)) q (hgk q hq)
  rw [Yj] at CW
  refine CW.mono ?_
  rintro e w' ⟨st2,ρ',v,rfl,_,hR,JN⟩
  unfold Oh at hR
  obtain ⟨hpe,hR⟩:=nA hR
  rw [<- hN] at hpe hR
  have l5: ∀i,i<N+1->ρ' i=rA i:=(JN.at_ _ _ hpe).2
  have hlN:(ρ' N).blk=some (w.heap.size+1):=by rw [l5 N (by omega),Mc]
  have aeD:=fV hpe
  have behind: ∀(r':Loop) (s:LoopState) (j:Option Code),av st2.heap N=some (.loop r' s j)->s≠ .busy->
    (Instr.endLoop (w.heap.size+1)).run P w'= .ok j (w'.putObj (w.heap.size+1) (.loop {r' with state:= .exhausted,pending:=j}))/\
    Cc ax W ⟨st.tmps,(st2.heap.set N .gone).set (N+1) .gone⟩ ρ' {a with defers:= [oG w.heap.size]++a.defers} (w'.putObj (w.heap.size+1) (.loop {r' with state:= .exhausted,pending:=j})):=by
   intro r' s j hj hs
   obtain ⟨l,hl,V9⟩:=JN.at_ _ _ hj
   rw [hlN] at hl;cases hl
   refine ⟨run_endLoop V9 hs,w.heap.size::ds,?_,?_,?_⟩
   ·refine List.nodup_cons.2 ⟨fun hm=> ?_,bD.nd⟩
    have:=(Array.getElem?_eq_some_iff.1 (bD.dd _ hm).2).1
    omega
   ·intro D hD
    have hDW:W.heap.size<=D/\ W1.heap[D]? =some (.deferred (some [])):=by
     rcases List.mem_cons.1 hD with rfl|hD
     ·exact ⟨bD.mK.st.fr.size,hD1⟩
     ·have h1:=bD.dd D hD
      exact ⟨h1.1,by rw [N4 D (Array.getElem?_eq_some_iff.1 h1.2).1];exact h1.2⟩
    refine ⟨hDW.1,?_⟩
    have hne:D≠w.heap.size+1:=by
     rintro rfl
     have:=hDW.2;rw [hL1] at this;cases this
    rw [World.putObj_heap_other hne,JN.fr.block D (Array.getElem?_eq_some_iff.1 hDW.2).1 (Od o8 hDW.2)]
    exact hDW.2
   ·have adz:=((o8.UX JN).Tw hj hlN (.loop {r' with state:= .exhausted,pending:=j})).ZW (N+1)
    refine ⟨fun t ht=> ?_,bD.mK.size,?_,fun t=> ?_,adz⟩
    ·have h1:=bD.mK.tmps t ht
     rw [show ({a with defers:= [oG w.heap.size]++a.defers} :Act).tmps=a.tmps from rfl,h1]
     exact (AV.bX (Kn:=(· <st.heap.length)) (fun i hi=>by rw [l5 i (by omega),sk i (by omega)]) _ (bD.mK.kn t)).symm
    ·simp [bD.mK.defers]
    ·refine AV.bC (fun i hi=> ?_) _ (bD.mK.kn t)
     rw [tT,tT];omega
  split at hR
  ·rename_i r' hj
   obtain ⟨h1,h2⟩:=behind _ _ _ hj (by simp)
   exact ⟨_,_,h1,_,ρ',hR,h2⟩
  ·rename_i r' hj
   obtain ⟨h1,h2⟩:=behind _ _ _ hj (by simp)
   exact ⟨_,_,h1,wpIn_ret ⟨_,ρ',hR,h2⟩⟩
  ·rename_i r' id hj
   obtain ⟨h1,h2⟩:=behind _ _ _ hj (by simp)
   exact ⟨_,_,h1,wpIn_exit ⟨_,ρ',hR,h2⟩⟩
  ·exact hR.elim
 |scope=>intro _ ax W ro n hX _ st K h;exact h.elim
 |label=>intro _ ax W ro n hX _ st K h;exact h.elim
 |goto=>intro _ ax W ro n hX _ st K h;exact h.elim
 |refuse=>intro _ ax W ro n hX _ st K h;exact h.elim
end
end Go.Ev
