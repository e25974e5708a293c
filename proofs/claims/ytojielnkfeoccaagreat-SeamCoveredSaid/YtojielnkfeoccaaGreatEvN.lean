/- A call that is walked where it is called, leaves all as it was, and hands back plain values: a contract. -/
import Derived.Test.YtojielnkfeoccaaGreatEvR
noncomputable section
set_option linter.unusedSectionVars false
set_option linter.unusedVariables false
set_option linter.unusedSimpArgs false
namespace Go.Ev
open Go.RowKit
def ltR (n:Nat):Ref->Bool
 | .ext _=>true
 | .loc m _=>Nat.blt m n
 | .elem m _=>Nat.blt m n
 | .full m=>Nat.blt m n
 | .mp m=>Nat.blt m n
def ltC (n:Nat):Cell->Bool
 | .raw _=>true
 | .ptr m _=>Nat.blt m n
 | .kC m _=>Nat.blt m n
 | .sl m _ _ _=>Nat.blt m n
 | .full m=>Nat.blt m n
 | .bA m _ _=>Nat.blt m n
 | .fq m _ _=>Nat.blt m n
 | .eN _ _ cap=>cap.all (ltR n)
 | .nU m=>Nat.blt m n
 | .mp m=>Nat.blt m n
 | .mv _ _ rs=>rs.all (ltR n)
 | .GR m=>Nat.blt m n
def ltA (n:Nat):A0->Bool
 | .one c=>ltC n c
 | .agg cs=>cs.all (ltC n)
def ltV (n:Nat):AV->Bool
 | .v a=>ltA n a
 | .lZ l=>l.all (ltA n)
 | .dead=>true
def ltO (n:Nat):aQ->Bool
 | .cells cs _=>cs.all (ltC n)
 | .row _ _ _=>true
 | .alias m _ _=>Nat.blt m n
 | .gone=>true
 | .loop _ _ _=>true
 | .eJ _ m=>Nat.ble m n
 | .ga _=>true
 | .map _ _ _ _ _=>true
 | .rc cs=>cs.all (ltC n)
 |_=>false
theorem jT {m n:Nat} (h:Nat.blt m n=true):m<n:=Nat.le_of_ble_eq_true h
theorem TB {n:Nat} : ∀ {r:Ref},ltR n r=true->r.ok (· <n)
 | .ext _,_=>trivial
 | .loc _ _,h=>jT h
 | .elem _ _,h=>jT h
 | .full _,h=>jT h
 | .mp _,h=>jT h
theorem HU {n:Nat} : ∀ {c:Cell},ltC n c=true->c.ok (· <n)
 | .raw _,_=>trivial
 | .ptr _ _,h=>jT h
 | .kC _ _,h=>jT h
 | .sl _ _ _ _,h=>jT h
 | .full _,h=>jT h
 | .bA _ _ _,h=>jT h
 | .fq _ _ _,h=>jT h
 | .eN _ _ _,h=>fun r hr=>TB (List.all_eq_true.1 h r hr)
 | .nU _,h=>jT h
 | .mp _,h=>jT h
 | .mv _ _ _,h=>fun r hr=>TB (List.all_eq_true.1 h r hr)
 | .GR _,h=>jT h
theorem TA {n:Nat} : ∀ {a:A0},ltA n a=true->a.ok (· <n)
 | .one _,h=>HU h
 | .agg _,h=>fun c hc=>HU (List.all_eq_true.1 h c hc)
theorem YW {n:Nat} : ∀ {v:AV},ltV n v=true->v.ok (· <n)
 | .v _,h=>TA h
 | .lZ _,h=>fun a ha=>TA (List.all_eq_true.1 h a ha)
 | .dead,_=>trivial
theorem YV {n:Nat} : ∀ {o:aQ},ltO n o=true->o.ok (· <n)
 | .cells _ _,h=>fun c hc=>HU (List.all_eq_true.1 h c hc)
 | .row _ _ _,_=>trivial
 | .alias _ _ _,h=>jT h
 | .gone,_=>trivial
 | .loop _ _ _,_=>trivial
 | .eJ _ _,h=>fun m hm=>Nat.lt_of_lt_of_le hm (Nat.le_of_ble_eq_true h)
 | .ga _,_=>trivial
 | .map _ _ _ _ _,_=>trivial
 | .rc _,h=>fun c hc=>HU (List.all_eq_true.1 h c hc)
def abi:aQ->Bool
 | .cells _ _=>true
 | .row _ _ _=>true
 | .alias _ _ _=>true
 | .map _ _ _ _ _=>true
 | .rc _=>true
 |_=>false
def jD (hp:HP):HP:=fun m=>match hp m with
 |some o=>match abi o with
  |true=>some o
  |false=>none
 |none=>none
theorem qx {hp:HP} {m:Nat} {o:aQ} (h:jD hp m=some o):hp m=some o:=by
 unfold jD at h
 split at h
 ·split at h
  ·cases h;assumption
  ·cases h
 ·cases h
theorem su {hp hq:HP} {m:Nat} (h:hp m=hq m):jD hp m=jD hq m:=by unfold jD;rw [h]
def Ld (tt:List (Nat×TI)) (specs:List (Nat×Spec)) (lp:List (Nat×bE)) (fn:Func) (r:nX):Spec:=fun _ args hp nm k=>
 ob (args.all (ltV nm)&&(dM (jD hp) nm).all (ltO nm)) (∃y:r.ty.T,(∀(e:Env) (S:Nat->Prop),N1 ⟨tt,specs,cT,lp,[],[]⟩ fn args (dM (jD hp) nm++ [.eJ e nm,.ga S]) fun v st=>dM (jD hp) nm++ [.eJ e nm,.ga S]=st.heap.take (nm+2)/\ vB r (fun z=>z=y) v st)/\
  k {val:=pq (bV 2 0 r y).1,aB:=List.range nm})
section
variable {ax:jh} {W:World} {ρ:Env} {Kn:Nat->Prop} {Γ:HP} {w:World} {hp:HP} {nm:Nat}
def U5 (Γ:HP) (nm m:Nat):Prop:=m<nm/\ (jD Γ m).isSome=true
def JL (ρ:Env) (Γ:HP) (nm:Nat) (b:Nat):Prop:=HI Γ b\/ ∃m,¬U5 Γ nm m/\ (Γ m).isSome=true/\ (ρ m).has b
def RN (ax:jh) (W:World) (ρ:Env) (Γ:HP) (nm:Nat):jh:= {wr:=fun b=> ∃m,U5 Γ nm m/\ (Γ m).isSome=true/\ (ρ m).has b,nw:=B7 ax W}
def Bf (ρ:Env) (nm:Nat):Env:=fun i=>if i<nm then ρ i else {}
theorem abl {S:Nat->Prop} (hg: ∀m,hp m≠some .gone) {m:Nat} {o:aQ} (ho:av (dM hp nm++ [.eJ ρ nm,.ga S]) m=some o):(m<nm/\ hp m=some o)\/ (m=nm/\ o= .eJ ρ nm)\/ (m=nm+1/\ o= .ga S):=by
 have hlt:=fV ho
 rw [bP] at ho
 rcases Nat.lt_or_ge m nm with h1|h1
 ·rw [List.getElem?_append_left (by rw [bg];exact h1),oE h1 (hg m)] at ho
  exact .inl ⟨h1,ho⟩
 ·rw [List.length_append,bg] at hlt
  rw [List.getElem?_append_right (by rw [bg];exact h1),bg] at ho
  have:m=nm\/ m=nm+1:=by simp at hlt;omega
  rcases this with rfl|rfl
  ·simp only [Nat.sub_self,List.getElem?_cons_zero,live,Option.some.injEq] at ho
   exact .inr (.inl ⟨rfl,ho.symm⟩)
  ·rw [show nm+1- nm=1 by omega] at ho
   simp only [List.getElem?_cons_succ,List.getElem?_cons_zero,live,Option.some.injEq] at ho
   exact .inr (.inr ⟨rfl,ho.symm⟩)
theorem St.only (h:St ax W ρ Kn Γ w) (cm: ∀m,m<nm->Γ m=hp m) (hok: ∀m o,m<nm->jD hp m=some o->o.ok (· <nm)):
  St (RN ax W ρ Γ nm) w (Bf ρ nm) (· <nm+2) (av (dM (fun m=>if m<nm then jD hp m else Option.none) nm++ [.eJ ρ nm,.ga (JL ρ Γ nm)])) w:=by
 obtain ⟨hq,hhq⟩: ∃hq:HP,hq=fun m=>if m<nm then jD hp m else Option.none:=⟨_,rfl⟩
 rw [<- hhq]
 have Vi: ∀m o,hq m=some o->m<nm/\ Γ m=some o/\ U5 Γ nm m/\ jD hp m=some o:=fun m o ho=>by
  rw [hhq] at ho
  dsimp only at ho
  split at ho
  ·rename_i hm
   exact ⟨hm,by rw [cm m hm];exact qx ho,⟨hm,by rw [su (cm m hm),ho];rfl⟩,ho⟩
  ·cases ho
 have Ar: ∀m,hq m≠some .gone:=fun m e=>h.at_ m .gone (Vi m _ e).2.1
 have hold: ∀m,m<nm->Bf ρ nm m=ρ m:=fun m hm=>by simp only [Bf];rw [if_pos hm]
 have hnone: ∀m,nm<=m->Bf ρ nm m= {} :=fun m hm=>by simp only [Bf];rw [if_neg (by omega)]
 obtain ⟨H,hH⟩: ∃H,H=dM hq nm++ [aQ.eJ ρ nm,.ga (JL ρ Γ nm)]:=⟨_,rfl⟩
 rw [<- hH]
 have hl: ∀m o,av H m=some o->(m<nm/\ hq m=some o)\/ (m=nm/\ o= .eJ ρ nm)\/ (m=nm+1/\ o= .ga (JL ρ Γ nm)):=fun m o ho=>abl Ar (by rw [<- hH];exact ho)
 have hblk: ∀m b,(av H m).isSome=true->(Bf ρ nm m).has b->U5 Γ nm m/\ (Γ m).isSome=true/\ (ρ m).has b:=fun m b hm hb=>by
  obtain ⟨o,ho⟩:=Option.isSome_iff_exists.1 hm
  rcases hl m o ho with ⟨h1,h2⟩|⟨rfl,rfl⟩|⟨rfl,rfl⟩
  ·rw [hold m h1] at hb
   exact ⟨(Vi m o h2).2.2.1,by rw [(Vi m o h2).2.1];rfl,hb⟩
  ·rw [hnone _ (Nat.le_refl _)] at hb;simp at hb
  ·rw [hnone _ (by omega)] at hb;simp at hb
 have hfz: ∀b,gW ρ Γ w b->gW (Bf ρ nm) (av H) w b/\ w.heap[b]? =w.heap[b]? :=fun b hb=>by
  refine ⟨⟨hb.1,?_⟩,rfl⟩
  rintro (⟨m,h1,h2⟩|⟨m,S,h1,h2⟩)
  ·obtain ⟨_,h3,h4⟩:=hblk m b h1 h2
   exact hb.2 (.inl ⟨m,h3,h4⟩)
  ·rcases hl m _ h1 with ⟨h3,h4⟩|⟨_,e⟩|⟨_,e⟩
   ·exact hb.2 (.inr ⟨m,S,(Vi m _ h4).2.1,h2⟩)
   ·cases e
   ·cases e
    rcases h2 with h2|⟨m',_,h3,h4⟩
    ·exact hb.2 (.inr h2)
    ·exact hb.2 (.inl ⟨m',h3,h4⟩)
 refine ⟨Fr.refl _ _,fun m o ho=> ?_,fun m o ho=> ?_,fun m m' b hm hm' hb hb'=> ?_,fun m b hm hb=> ?_,fun b ⟨m,S,h1,h2⟩=> ?_,fun m o ho=> ?_⟩
 ·rcases hl m o ho with ⟨h1,h2⟩|⟨rfl,rfl⟩|⟨rfl,rfl⟩
  ·obtain ⟨_,h3,_,h4⟩:=Vi m o h2
   exact cr (Kn:=(· <nm)) (h.at_ m o h3) hold h1 (hok m o h1 h4) hfz (fun _ _ h=> .inr (.inr h)) fun _ _=>rfl
  ·exact ⟨by rw [hnone _ (Nat.le_refl _)],hold⟩
  ·show (Bf ρ nm (nm+1)).blk=Option.none
   rw [hnone _ (by omega)]
 ·rcases hl m o ho with ⟨h1,h2⟩|⟨rfl,rfl⟩|⟨rfl,rfl⟩
  ·exact ⟨by omega,aQ.bC (fun i (hi:i<nm)=>by omega) o (hok m o h1 (Vi m o h2).2.2.2)⟩
  ·exact ⟨by omega,fun i hi=>by omega⟩
  ·exact ⟨by omega,trivial⟩
 ·obtain ⟨_,h1,h2⟩:=hblk m b hm hb
  obtain ⟨_,h3,h4⟩:=hblk m' b hm' hb'
  exact h.eS m m' b h1 h3 h2 h4
 ·obtain ⟨h0,h1,h2⟩:=hblk m b hm hb
  exact .inr ⟨m,h0,h1,h2⟩
 ·have key:(b<w.heap.size∧ ¬Vp ρ Γ b)∨(∃m',¬U5 Γ nm m'∧(Γ m').isSome=true∧(ρ m').has b):=by
   rcases hl m _ h1 with ⟨h3,h4⟩|⟨_,e⟩|⟨_,e⟩
   ·exact .inl (h.wZ b ⟨m,S,(Vi m _ h4).2.1,h2⟩)
   ·cases e
   ·cases e
    rcases h2 with h2|h2
    ·exact .inl (h.wZ b h2)
    ·exact .inr h2
  rcases key with ⟨k1,k2⟩|⟨m',k1,k2,k3⟩
  ·refine ⟨k1,fun ⟨n,h5,h6⟩=> ?_⟩
   obtain ⟨_,h7,h8⟩:=hblk n b h5 h6
   exact k2 ⟨n,h7,h8⟩
  ·refine ⟨h.lt m' b k2 k3,fun ⟨n,h5,h6⟩=> ?_⟩
   obtain ⟨h9,h7,h8⟩:=hblk n b h5 h6
   have:=h.eS n m' b h7 k2 h8 k3
   exact k1 (this▸h9)
 ·rcases hl m o ho with ⟨h1,h2⟩|⟨rfl,rfl⟩|⟨rfl,rfl⟩
  ·rw [hold m h1];exact h.vX m o (Vi m o h2).2.1
  ·exact .inr (by rw [hnone _ (Nat.le_refl _)])
  ·exact .inr (by rw [hnone _ (by omega)])
theorem St.Yg {ρ':Env} {Bc:Nat->Prop} {mH:HP} {w':World} (h:St ax W ρ Kn Γ w) (hok: ∀m o,U5 Γ nm m->Γ m=some o->o.ok (· <nm)) (hE:St (RN ax W ρ Γ nm) w ρ' Bc mH w') (hl: ∀m,U5 Γ nm m->mH m=Γ m) (hρ: ∀m,m<nm->ρ' m=ρ m)
  (hS:mH (nm+1)=some (.ga (JL ρ Γ nm))):St ax W ρ Kn Γ w':=by
 have hs:=h.fr.size
 have own: ∀b,(RN ax W ρ Γ nm).wr b->W.heap.size<=b\/ ax b:=fun b ⟨m,_,h1,h2⟩=>h.mA m b h1 h2
 have ac8: ∀b,gW ρ' mH w' b->gW ρ Γ w' b:=fun b hb=>by
  refine ⟨hb.1,?_⟩
  rintro (⟨m,h1,h2⟩|hh)
  ·by_cases hm:U5 Γ nm m
   ·exact hb.2 (.inl ⟨m,by rw [hl m hm];exact h1,by rw [hρ m hm.1];exact h2⟩)
   ·exact hb.2 (.inr ⟨_,_,hS,.inr ⟨m,hm,h1,h2⟩⟩)
  ·exact hb.2 (.inr ⟨_,_,hS,.inl hh⟩)
 have hun: ∀b,b<w.heap.size-> ¬(RN ax W ρ Γ nm).wr b->w'.heap[b]? =w.heap[b]? :=fun b h1 h2=>hE.fr.block b h1 h2
 have ac9: ∀b,gW ρ Γ w b->gW ρ Γ w' b/\ w'.heap[b]? =w.heap[b]? :=fun b hb=>by
  have e:=hun b hb.1.lt fun ⟨m,_,h1,h2⟩=>hb.2 (.inl ⟨m,h1,h2⟩)
  exact ⟨⟨hb.1.same e,hb.2⟩,e⟩
 refine ⟨⟨hE.fr.os.trans h.fr.os,hE.fr.tape.trans h.fr.tape,hE.fr.output.trans h.fr.output,Nat.le_trans hs hE.fr.size,fun k hk hn=> ?_,Nat.le_trans h.fr.Ez hE.fr.Ez⟩,fun m o ho=> ?_,h.kn,h.eS,h.mA,fun b hb=> ?_,h.vX⟩
 ·rw [hun k (by omega) fun hm=>(own k hm).elim (fun h=>by omega) hn]
  exact h.fr.block k hk hn
 ·by_cases hm:U5 Γ nm m
  ·exact cr (Kn:=(· <nm)) (hE.at_ m o (by rw [hl m hm];exact ho)) (fun i hi=>(hρ i hi).symm) hm.1 (hok m o hm ho) (fun b hb=>⟨ac8 b hb,rfl⟩) (fun b _ hb=>by
    rcases hb with h1|h1|h1
    ·exact .inl (by omega)
    ·exact (own b h1).imp_right .inl
    ·exact h1) fun _ _=>rfl
  ·have hk:=h.kn m o ho
   refine cr (Kn:=Kn) (h.at_ m o ho) (fun _ _=>rfl) hk.1 hk.2 ac9 (fun _ _ h=>h) fun b hb=>hun b (h.lt m b (by rw [ho];rfl) hb) ?_
   rintro ⟨m',h1,h2,h3⟩
   have:=h.eS m m' b (by rw [ho];rfl) h2 hb h3
   exact hm (this▸h1)
 ·obtain ⟨h1,h2⟩:=h.wZ b hb
  exact ⟨Nat.lt_of_lt_of_le h1 hE.fr.size,h2⟩
end
theorem wX {hp hq:HP} : ∀ {n:Nat},(∀m,m<n->hp m=hq m)->dM hp n=dM hq n
 |0,_=>rfl
 |n+1,h=>by
  unfold dM
  rw [wX fun m hm=>h m (by omega),h n (by omega)]
theorem ak.walked {P:Program} {tt:List (Nat×TI)} {specs:List (Nat×Spec)} (hT:aX P tt) (hS:af P specs) (hm:P.follows .mixedOrders=true) {f:FuncId} {fn:Func} (hf:P.funcs[f]? =some fn) (hn:fG (ids (bh fn))=true)
  {lp:List (Nat×bE)} (hl:ay P cT (bh fn) lp) {r:nX} (hr: ∀y,(bV 2 0 r y).2= []):ak P f (Ld tt specs lp fn r):=by
 intro X args hp nm k hs
 obtain ⟨hb,y,hw,hk⟩:=br hs
 simp only [Bool.and_eq_true] at hb
 have hargs: ∀x∈args,x.ok (· <nm):=fun x hx=>YW (List.all_eq_true.1 hb.1 x hx)
 have Qo: ∀m o,m<nm->jD hp m=some o->o.ok (· <nm):=fun m o hm ho=>by
  refine YV (List.all_eq_true.1 hb.2 o (List.mem_of_getElem? (i:=m) ?_))
  rw [vh (jD hp) nm m hm,ho]
 have N2: ∀ρ ρ':Env,(pq (bV 2 0 r y).1).ae ρ=(pq (bV 2 0 r y).1).ae ρ':=fun ρ ρ'=>by
  refine AV.bX (Kn:=fun _=>False) (fun _ h=>h.elim) _ (It fun c hc=>A0.bC (fun m hm=> ?_) c (mq 2 r y 0 c hc))
  rw [hr y] at hm
  exact absurd hm.2 (by simp)
 refine ⟨_,⟨fun p hp=>absurd hp (by simp),?_⟩,hk⟩
 intro ax W ρ Kn Γ w _ _ dH _ hst
 have cm: ∀m,m<nm->Γ m=hp m:=fun m hm=>dH m (List.mem_range.2 hm)
 have iW:=hst.only cm Qo
 have eh:dM (fun m=>if m<nm then jD hp m else Option.none) nm=dM (jD hp) nm:=wX fun m hm=>by rw [if_pos hm]
 rw [eh] at iW
 have hold: ∀m,m<nm->Bf ρ nm m=ρ m:=fun m hm=>by simp only [Bf];rw [if_pos hm]
 have hlen:(dM (jD hp) nm++ [aQ.eJ ρ nm,.ga (JL ρ Γ nm)]).length=nm+2:=by simp [bg]
 have key:=mm (ctx:=⟨tt,specs,cT,lp,[],[]⟩) hT ⟨hS,rh.nil P,aA.nil _ _⟩ (cT.ok _ w) hm hf (fun c hc=>by
  have:bh fn=c:=by unfold bh;rw [hc]
  subst this
  exact BX (iM hn) hl) (hw ρ (JL ρ Γ nm)) (ρ:=Bf ρ nm) (fun x hx=>AV.bC (fun m (hm:m<nm)=>by rw [hlen];omega) x (hargs x hx)) (by rw [hlen];exact iW)
 have ea:args.map (AV.ae (Bf ρ nm))=args.map (AV.ae ρ):=List.map_congr_left fun x hx=>AV.bX (Kn:=(· <nm)) hold x (hargs x hx)
 rw [ea] at key
 refine key.mono ?_
 rintro e w' ⟨st,ρ',v,rfl,hv,⟨hun,hR⟩,JN⟩
 have hg: ∀m,m<nm->jD hp m≠some .gone:=fun m hm e=>hst.at_ m .gone (by rw [cm m hm];exact qx e)
 have ri: ∀m,m<nm+2->st.heap[m]? =(dM (jD hp) nm++ [aQ.eJ ρ nm,.ga (JL ρ Γ nm)])[m]? :=fun m hm=>by
  rw [hun,List.getElem?_take,if_pos hm]
 have mg: ∀m,U5 Γ nm m->av st.heap m=Γ m:=fun m hm=>by
  obtain ⟨o,ho⟩:=Option.isSome_iff_exists.1 hm.2
  rw [bP,ri m (by have:=hm.1;omega),List.getElem?_append_left (by rw [bg];exact hm.1),oE hm.1 (hg m hm.1),<- su (cm m hm.1),ho,qx ho]
 have YA:av st.heap nm=some (.eJ ρ nm):=by
  rw [bP,ri nm (by omega),List.getElem?_append_right (by rw [bg];exact Nat.le_refl _),bg]
  simp [live]
 have adf:av st.heap (nm+1)=some (.ga (JL ρ Γ nm)):=by
  rw [bP,ri (nm+1) (by omega),List.getElem?_append_right (by rw [bg];omega),bg,show nm+1- nm=1 by omega]
  simp [live]
 have hρ:=(JN.at_ _ _ YA).2
 obtain ⟨y',rfl,hwk⟩:=Gb hR
 have bD:nT (RN ax W ρ Γ nm) w [] ⟨[v],st.heap⟩ ρ' {tmps:= #[v.ae ρ'],defers:= []} w':=by
  refine ⟨fun t _=> ?_,rfl,rfl,fun t=> ?_,JN⟩
  ·match t with
   |0=>rfl
   |t+1=>rfl
  ·match t with
   |0=>exact hv
   |t+1=>exact nQ _
 obtain ⟨rA,nV⟩:=bD.weak hwk
 refine ⟨ρ,?_,fun _ _=>rfl,?_,?_⟩
 ·congr 1
  have h1:=nV.tmps 0 (by
   show pq _≠_
   generalize (bV 2 0 r y').1=l
   match l with
   | []=>exact fun h=>by cases h
   | [_]=>exact fun h=>by cases h
   |_::_::_=>exact fun h=>by cases h)
  have h2:v.ae ρ'=(pq (bV 2 0 r y').1).ae rA:=h1
  rw [h2]
  exact N2 _ _
 ·refine It fun c hc=>A0.bC (fun m hm=> ?_) c (mq 2 r y' 0 c hc)
  rw [hr y'] at hm
  exact absurd hm.2 (by simp)
 ·rw [fe,mU]
  refine hst.Yg (fun m o hm ho=> ?_) JN mg hρ adf
  obtain ⟨o',tY⟩:=Option.isSome_iff_exists.1 hm.2
  rw [qx tY] at ho
  cases ho
  exact Qo m _ hm.1 (by rw [<- su (cm m hm.1)];exact tY)
abbrev Tr.bd0 {τ σ:Type} {i j:Bool} (t:Env->(Nat->Prop)->Tr σ i) (k:σ->Tr τ j):Tr τ true:=
 .bd (fun y=> ∀e S,(t e S).wp (fun z=>z=y) []) (∀e S,Tr.pI i (t e S).pre/\ (t e S).val=(t (fun _=> {}) fun _=>False).val) (t (fun _=> {}) fun _=>False).val (fun h e S=>Tr.Lf _ _ _ (h e S).1 (h e S).2) k
end Go.Ev
