/- gather.open: its two contracts; where a spot's ways end. -/
import Derived.Test.YtngdehlpoomaiaaGreatKl
import Derived.Test.YtngdehlpoomaiaaGreatWc
noncomputable section
set_option linter.unusedSectionVars false
set_option linter.unusedVariables false
set_option linter.unusedSimpArgs false
namespace Go.Proofs.YtngdehlpoomaiaaGreat
open Go Go.Ev Go.Proofs
abbrev Qb:Ty:= .prod (.prod dW (.prod dW (.prod dW dW))) (.prod WX WX)
def zJ (x:bj.ty.T):Qb.T:=(kR x).2
def nP (x:bj.ty.T):Prop:=nR x/\ (kR x).1=false
abbrev v7:cf:=⟨bj,.one Qb,nP,zJ⟩
def mS (x:bj.ty.T):Int:=if (kR x).1=true then (kR x).2.1.1 else 0
def nQ (x:bj.ty.T):Prop:=nR x
abbrev v9:cf:=⟨bj,.one dW,nQ,mS⟩
def oV (cl:Cell) (y:Qb.T):AV:= .v (.agg [ci y.1.1,ci y.1.2.1,ci y.1.2.2.1,ci y.1.2.2.2,cl,ci y.2.1.1,ci y.2.1.2.1,ci y.2.1.2.2,ci y.2.2.1,ci y.2.2.2.1,ci y.2.2.2.2])
def FJ:Ev.Spec:=fun _ args hp nm k=>match fa hp bj args with
 |some (x,[],tc,b)=>match args with
  | .v (.agg [_,_,_,_,cl])::_=>ob b (v7.pre x/\ ∀y,y=v7.f x->k {val:= .v (.agg [ci y.1.1,ci y.1.2.1,ci y.1.2.2.1,ci y.1.2.2.2,cl,ci y.2.1.1,ci y.2.1.2.1,ci y.2.1.2.2,ci y.2.2.1,ci y.2.2.2.1,ci y.2.2.2.2]),aD:=tc})
  |_=>False
 |_=>False
def FO:PCd:=fun args hp k=>match fa hp bj args with
 |some (x,[],tc,b)=>ob b (v9.pre x/\ ∀y,y=v9.f x->k y)
 |_=>False
theorem RV {r0:Env} {Q:oY.T->Prop} {v:AV} {st:AS} (h:TH r0 Q v st): ∃y:Qb.T,v=oV (.full 0) y/\ ai st.heap 1=some (.cw r0 1)/\ Q (false,y):=by
 unfold TH at h
 split at h
 ·obtain ⟨h1,h2⟩:=de h
  exact ⟨_,rfl,h1,h2⟩
 ·exact h.elim
theorem RB {Q:oY.T->Prop} {st:AS} (h:TB Q st): ∃c,cz st.tmps 13= .v (.one (.raw (.int .i64 c)))/\ Q (true,(c,0,0,0),(0,0,0),0,0,0):=by
 unfold TB at h
 split at h
 ·rename_i c hc;exact ⟨c,hc,h⟩
 ·exact h.elim
theorem acq:Tryz.afD= {Tryz.f31 with body:=some (gC [2,4,6] (aG Tryz.f31))} :=by kernel_rfl
theorem FK (x:bj.ty.T) (hp:nR x) (aZ:Env) (w:World) (hst:St yB w aZ (· <1) (ai (dz bj x)) w):
  Calls Tryz.prog 31 ((cY bj x).map (AV.ae aZ)).toArray w fun e w'=>Fr yB w w'/\ (((kR x).1=false/\ e= .returned ((oV (.full 0) (kR x).2).ae aZ))\/ ((kR x).1=true/\ e= .panicked [ent 30 (kR x).2.1.1])):=by
 obtain ⟨lp,its,hi,hl,ha,zb⟩:=Z9 x hp
 obtain ⟨sO,hold,uo⟩:=hst.pinned
 have hok: ∀a∈cY bj x,a.ok (· <1):=fun a ha=>by
  obtain ⟨b,hb,rfl⟩:=List.mem_map.1 ha
  have hl:(bf 0 0 bj x).2.length=1:=rfl
  exact A0.aV (fun m hm=>by have:=hm.2;rw [hl] at this;omega) b (iU 0 bj x 0 b hb)
 have zb:goE ⟨tt,mD,cy,lp,[],its⟩ Tryz.afD (cY bj x) (dz bj x++ [.cw aZ 1]) (TH aZ (· =kR x)) (TB (· =kR x)):=zb aZ
 have uo:St yB w sO (· <2) (ai (dz bj x++ [.cw aZ 1])) w:=uo
 have hca:(cY bj x).map (AV.ae sO)=(cY bj x).map (AV.ae aZ):=List.map_congr_left fun a ha=>AV.bt (Kn:=(· <1)) hold a (hok a ha)
 rw [<- hca]
 have uj:SA Tryz.prog ⟨tt,mD,cy,lp,[],its⟩ 30 (PnR 13) [2,4,6] (aG Tryz.f31):=hl.lpG (ctx:=⟨tt,mD,cy,lp,[],its⟩) (fun p hp=>hp) ha
 have hcd:=EZ acq zb
 have E5:fq Tryz.prog ⟨tt,mD,cy,lp,[],its⟩:=⟨u9,nW.nil _,hi⟩
 have hb0:Tryz.f31.body=some (aG Tryz.f31):=by kernel_rfl
 have HQ:Tryz.prog.funcs[31]? =some Tryz.f31:=by kernel_rfl
 have Ff:Js (aG Tryz.f31)=true:=by kernel_rfl
 have QO: ∀a∈cY bj x,a.ok (· <(dz bj x++ [aF.cw aZ 1]).length):=fun a ha=>AV.aV (fun i hi=>by show i<2;omega) a (hok a ha)
 have ac6:St yB w sO (· <(dz bj x++ [aF.cw aZ 1]).length) (ai (dz bj x++ [aF.cw aZ 1])) w:=uo
 clear zb uo hl ha hi hca hok
 generalize dz bj x++ [aF.cw aZ 1]=hp1 at ac6 hcd QO
 generalize Tryz.f31=fn at uj hcd hb0 HQ Ff
 generalize aG fn=c at uj hcd hb0 Ff
 generalize cY bj x=ar at hcd QO ⊢
 have key:=XZ az E5 mixed HQ hb0 Ff uj (cy.ok yB w) rfl (fun k a w a' w' h=>by rw [h.2,put_defers]) hcd QO ac6
 refine key.mono ?_
 clear key hcd uj
 rintro e w' (⟨st,ρ',v,rfl,hv,hR,jW⟩|⟨k,w2,a,a2,st,ρ',rfl,hPn,hfr,hR,aR⟩)
 ·obtain ⟨y,rfl,wJ,hy⟩:=RV hR
  have hy:(false,y)=kR x:=hy
  refine ⟨jW.fr,.inl ⟨by rw [<- hy],?_⟩⟩
  rw [<- hy]
  have e0:ρ' 0=aZ 0:=(jW.at_ 1 _ wJ).2 0 (by decide)
  simp only [oV,AV.ae,A0.ae,List.map_cons,List.map_nil,Cell.ae,e0]
 ·obtain ⟨c,hc,hy⟩:=RB hR
  have hy:(true,(c,0,0,0),(0,0,0),0,0,0)=kR x:=hy
  refine ⟨hfr,.inr ⟨by rw [<- hy],?_⟩⟩
  have h1:=aR.bz.tmps 13 (by rw [hc];simp)
  rw [hc] at h1
  have hlt:13<a.tmps.size:=by
   have:=aR.bz.size
   rw [hPn.2,mB] at this
   rw [this]
   refine Nat.lt_of_not_le fun hle=> ?_
   rw [r9,List.getD,List.getElem?_eq_none hle] at hc
   cases hc
  rw [hPn.2,iK] at h1
  dsimp only at h1
  rw [if_pos ⟨rfl,hlt⟩] at h1
  have h1:Value.int .i64 k= .int .i64 c:=h1
  cases h1
  rw [<- hy]
theorem FL {hp:HP} {args:List AV} {x:bj.ty.T} {tc:List Nat} (hd:fa hp bj args=some (x,[],tc,true)) {aq:e8} {W:World} {ρ:Env} {Kn:Nat->Prop} {Γ:HP} {w:World} (ht: ∀m∈tc,Γ m=hp m) (hst:St aq W ρ Kn Γ w):
  ∃aZ,St yB w aZ (· <1) (ai (dz bj x)) w/\ (cY bj x).map (AV.ae aZ)=args.map (AV.ae ρ):=by
 obtain ⟨as1,e,hargs⟩:=nK bj _ _ _ _ hd
 rw [List.append_nil] at e
 subst e
 obtain ⟨xs,hg,hc⟩:=hargs aq W ρ Kn Γ w ht hst 0
 have hb:=St.begin hg
 have hcs:=hc (fun n=>xs.getD n {}) fun i y hy=>by simp [hy]
 exact ⟨_,hb,by rw [hcs];simp [cY,AV.ae,Function.comp_def]⟩
theorem Oe:ah Tryz.prog 31 FJ:=by
 intro X args hp nm k hs
 unfold FJ at hs
 split at hs
 rotate_left
 ·exact hs.elim
 rename_i x tc b hd
 split at hs
 rotate_left
 ·exact hs.elim
 rename_i c1 c2 c3 c4 cl rest
 obtain ⟨rfl,hpre,hk⟩:=bk hs
 refine ⟨_,⟨fun p eW=>absurd eW (by simp),?_⟩,hk _ rfl⟩
 intro aq W ρ Kn Γ w _ hok ht hfr hst
 obtain ⟨aZ,hb,hca⟩:=FL hd ht hst
 rw [<- hca]
 refine (FK x hpre.1 aZ w hb).mono ?_
 rintro e w' ⟨hF,⟨_,rfl⟩|⟨h1,_⟩⟩
 rotate_left
 ·rw [hpre.2] at h1;cases h1
 have Nu:Cell.ae aZ (.full 0)=cl.ae ρ:=by
  have h1:=congrArg (fun l=>l.head?) hca
  have h2:Value.agg #[_,_,_,_,Cell.ae aZ (.full 0)]=Value.agg #[_,_,_,_,cl.ae ρ]:=Option.some.inj h1
  injection h2 with h3
  have h4:=congrArg (fun l=>l.getD 4 undef) h3
  exact h4
 refine ⟨ρ,?_,fun _ _=>rfl,?_,?_⟩
 ·show Ending.returned ((oV (.full 0) (kR x).2).ae aZ)= .returned ((oV cl (kR x).2).ae ρ)
  congr 1
  simp only [oV,AV.ae,A0.ae,List.map_cons,List.map_nil,Nu]
  rfl
 ·have hco:cl.ok Kn:=by
   have:=hok (.v (.agg [c1,c2,c3,c4,cl])) (by simp)
   exact this cl (by simp)
  intro c hc
  simp only [List.mem_cons,List.not_mem_nil,or_false] at hc
  rcases hc with rfl|rfl|rfl|rfl|rfl|rfl|rfl|rfl|rfl|rfl|rfl<;>first|trivial|exact Cell.aV (fun _=> .inl) _ hco
 ·rw [fh,nY];exact hst.called hF
theorem BG:ae7 Tryz.prog 30 31 FO:=by
 intro args hp k h
 unfold FO at h
 split at h
 rotate_left
 ·exact h.elim
 rename_i x tc b hd
 obtain ⟨rfl,hpre,hk⟩:=bk h
 refine ⟨_,hk _ rfl,fun hc aq W ρ Kn w hok hst=> ?_⟩
 obtain ⟨aZ,hb,hca⟩:=FL hd (fun _ _=>rfl) hst
 rw [<- hca]
 refine (FK x hpre aZ w hb).mono ?_
 have hc:mS x≠0:=hc
 unfold mS at hc
 rintro e w' ⟨hF,⟨h1,_⟩|⟨h1,rfl⟩⟩
 ·rw [h1] at hc;simp at hc
 ·refine ⟨?_,hF⟩
  show _=Ending.panicked [ent 30 (mS x)]
  unfold mS
  rw [if_pos h1]
def CR:List (Nat×Ev.Spec):=(31,FJ)::mD
theorem oE:af Tryz.prog CR:=af.add (fn:=Tryz.f31) (by kernel_rfl) Oe u9
def Nk (x:((Int×Int×Int×Int×List (Int×I3×I3×I2))×I3×I3)):aL:=⟨[],⟨dL 46 0 [(1,.v (.one (.ptr 0 0))),(5,.v (.one (.full 2))),(19,.v (.one (.full 3))),(20,.v (.one (.i .i64))),(21,.v (.one (.i .i64)))],[.cells [.i .i64,.i .i64,.i .i64,.i .i64,.full 1,.i .i64,.i .i64,.i .i64,.i .i64,.i .i64,.i .i64] 84,.row (Ty.prod yi (Ty.prod aO (Ty.prod aO gZ))) 0,.row aO 2,.row gZ 2],0,none,[],[2,3,4,5,6,7,8,9,10,11,12],[13,14,0,1],[(.l aO),(.l gZ),.i,.i],[.i x.1.1,.i x.1.2.1,.i x.1.2.2.1,.i x.1.2.2.2.1,.i x.2.1.1,.i x.2.1.2.1,.i x.2.1.2.2,.i x.2.2.1,.i x.2.2.2.1,.i x.2.2.2.2,.l (Ty.prod yi (Ty.prod aO (Ty.prod aO gZ))) x.1.2.2.2.2]⟩,[⟨(.exit 0),.normal,⟨dL 46 0 [(5,.v (.one (.full 0)))],[.row aO 2],0,none,[],[],[0],[(.l aO)],[]⟩⟩]⟩
def ji (x:((Int×Int×Int×Int×List (Int×I3×I3×I2))×I3×I3)) (s:(List I3×List I2×I2)):(List I3×List I2×I2)⊕(List I3):=
 (if (s.2.2.2<s.2.2.1) then
 (aj (yW (x.2.2,(s.2.1.getD s.2.2.2.toNat (0,0)))) fun y=>
 (aj (om y.2) fun aA=>
 (aj (vP (x.2.1,y.1,x.1.2.1)) fun y_2=>
 (Sum.inl ((s.1++ [y_2]),s.2.1,s.2.2.1,(au (s.2.2.2+1))))))) else
 (Sum.inr (s.1)))
def m7 (x:((Int×Int×Int×Int×List (Int×I3×I3×I2))×I3×I3)) (s:(List I3×List I2×I2)):Prop:=
 ((s.2.2.2<s.2.2.1)->
 (((0<=s.2.2.2)/\ (s.2.2.2<(s.2.1.length:Int)))/\
 ((s.2.2.2.toNat<s.2.1.length)/\
 ((s.2.2.2.toNat<s.2.1.length)/\
 ((pg (x.2.2,(s.2.1.getD s.2.2.2.toNat (0,0))))/\
 aB (yW (x.2.2,(s.2.1.getD s.2.2.2.toNat (0,0)))) fun y=>
 ((gN y.2)/\
 aB (om y.2) fun aA=>
 ((l6 (x.2.1,y.1,x.1.2.1))/\
 aB (vP (x.2.1,y.1,x.1.2.1)) fun y_2=>
 ((s.1.length+1)<1099511627776))))))))
def EY (x:((Int×Int×Int×Int×List (Int×I3×I3×I2))×I3×I3)) (s:(List I3×List I2×I2)):Tr ((List I3×List I2×I2)⊕(List I3)) true:=
 (.i10 (s.2.2.2<s.2.2.1)
 (.nc s.2.2.2 s.2.1
 (.fn vK (x.2.2,(gT s.2.1 s.2.2.2 A2)) fun y=>
 (.fn ko y.2 fun aA=>
 (.fn qI (x.2.1,y.1,x.1.2.1) fun y_2=>
 (.od ((s.1.length+1)<1099511627776)
 (.ret (.inl ((s.1++ [y_2]),s.2.1,s.2.2.1,(w1 s.2.2.2)))))))))
 (.ret (.inr (s.1))))
def IK (x:((Int×Int×Int×Int×List (Int×I3×I3×I2))×I3×I3)):(List I3):=
 (aj (Nv x.1.1) fun y=>
 (aj (om y.2) fun aA=>
 (aj (run (ji x) ([],y.1,(y.1.length:Int),0)) fun r=>
 r)))
def qJ (x:((Int×Int×Int×Int×List (Int×I3×I3×I2))×I3×I3)):Prop:=
 ((vV x.1.1)/\
 aB (Nv x.1.1) fun y=>
 ((gN y.2)/\
 aB (om y.2) fun aA=>
 (Term (ji x) (m7 x) ([],y.1,(y.1.length:Int),0))))
def acG (x:((Int×Int×Int×Int×List (Int×I3×I3×I2))×I3×I3)):Tr (List I3) true:=
 (.fn DB x.1.1 fun y=>
 (.fn ko y.2 fun aA=>
 (aL.lp (Nk x) (EY x) ([],y.1,(nL y.1),z0) fun r=>
 (.ret r))))
abbrev y8:cf:=⟨(.agg (Ty.prod (Ty.prod yi (Ty.prod yi (Ty.prod yi (Ty.prod yi (Ty.sl (Ty.prod yi (Ty.prod aO (Ty.prod aO gZ)))))))) (Ty.prod aO aO))),(.one (Ty.sl aO)),qJ,IK⟩
theorem YG:ah Tryz.prog 39 (ak y8):=ah.tr y8 acG (fn:=Tryz.f39) az oE mixed (by kernel_rfl) (av.nil _ _) (fun x=>(ax.tr az (af.eA oE (av.nil _ _)) mixed 0 (Nk x) (EY x) ax.nil (by kernel_rfl) fun g s Q=>(by kernel_rfl))) (fun x=>(by kernel_rfl)) fun x Q=>(by kernel_rfl)
def kJ:List (Nat×Ev.Spec):=(39,ak y8)::CR
theorem iO:af Tryz.prog kJ:=af.add (fn:=Tryz.f39) (by kernel_rfl) YG oE
end Go.Proofs.YtngdehlpoomaiaaGreat
namespace Go.Ev
open Go.RowKit
def wZ (d:sX) (tl:Ty) (L:List d.tv.T) (T:List d.tb.T) (Lt:List tl.T) (u v q a b:Value):List aF:= [.cells (wR (.full 1) (.full 2) u v q a b) d.eC,.row d.tv L 0,.row d.tb T 2,.row tl Lt 0]
def Vb (y0 y4 yR y5:Loc):Env:=fun i=>match i with
 |0=>y0
 |1=>y4
 |2=>yR
 |3=>y5
 |_=> {}
theorem ug {d:sX} {tl:Ty} {L:List d.tv.T} {T:List d.tb.T} {Lt:List tl.T} {u v q a b:Value} {n:Nat} {o:aF} (h:ai (wZ d tl L T Lt u v q a b) n=some o):
  (n=0/\ o= .cells (wR (.full 1) (.full 2) u v q a b) d.eC)\/ (n=1/\ o= .row d.tv L 0)\/ (n=2/\ o= .row d.tb T 2)\/ (n=3/\ o= .row tl Lt 0):=by
 have h:=mh h
 match n,h with
 |0,h=>exact .inl ⟨rfl,by cases h;rfl⟩
 |1,h=>exact .inr (.inl ⟨rfl,by cases h;rfl⟩)
 |2,h=>exact .inr (.inr (.inl ⟨rfl,by cases h;rfl⟩))
 |3,h=>exact .inr (.inr (.inr ⟨rfl,by cases h;rfl⟩))
 |n+4,h=>simp [wZ] at h
section
variable {aq:e8} {W:World} {ρ:Env} {Kn:Nat->Prop} {Γ:HP} {w:World}
theorem St.ab0 {d:sX} {tl:Ty} {L:List d.tv.T} {T:List d.tb.T} {Lt:List tl.T} {u v q a b:Value} {n:Nat} {rr:List Nat} {cL cT:Cell} {y4 yR y5:Loc} (h:St aq W ρ Kn Γ w)
  (hC:Γ n=some (.cells (wR cL cT u v q a b) d.eC)) (hr: ∀r∈rr,(Γ r).isSome=true) (ie:(n::rr).Nodup)
  (h4:cE (fun b=>bn w b/\ ¬yC ρ (n::rr) b) w (.row d.tv L 0) y4) (h5:cE (fun b=>bn w b/\ ¬yC ρ (n::rr) b) w (.row tl Lt 0) y5)
  (hcL:cL.ae ρ= .slice y4.base y4.len y4.cap) (hcT:cT.ae ρ= .slice yR.base yR.len yR.cap)
  (hrow:br (dM ρ Γ w) (qU aq W) (fun _=>yR) 2 (.row d.tb T 2) w) (hyb: ∀b,yR.has b-> ∃r∈rr,(ρ r).has b) (hye:yR.iB= []):
  St {wr:=yC ρ (n::rr),nw:=fun b=>dM ρ Γ w b/\ qU aq W b} w (Vb (ρ n) y4 yR y5) (· <4) (ai (wZ d tl L T Lt u v q a b)) w:=by
 obtain ⟨aZ,dR⟩: ∃aZ,aZ=Vb (ρ n) y4 yR y5:=⟨_,rfl⟩
 rw [<- dR]
 have e0:aZ 0=ρ n:=by rw [dR];rfl
 have e4:aZ 1=y4:=by rw [dR];rfl
 have e2:aZ 2=yR:=by rw [dR];rfl
 have e5:aZ 3=y5:=by rw [dR];rfl
 have pB: ∀m∈(n::rr),(Γ m).isSome=true:=fun m hm=>by
  rcases List.mem_cons.1 hm with rfl|hm
  ·rw [hC];rfl
  ·exact hr m hm
 have dJ: ∀m b',(ai (wZ d tl L T Lt u v q a b) m).isSome=true->(aZ m).has b'->(m=0/\ (ρ n).has b')\/ (m=2/\ ∃r∈rr,(ρ r).has b'):=fun m b' hs hb=>by
  obtain ⟨o,ho⟩:=Option.isSome_iff_exists.1 hs
  rcases ug ho with ⟨rfl,_⟩|⟨rfl,_⟩|⟨rfl,_⟩|⟨rfl,_⟩
  ·rw [e0] at hb;exact .inl ⟨rfl,hb⟩
  ·rw [e4] at hb;exact (mw h4.2.1 hb).elim
  ·rw [e2] at hb;exact .inr ⟨rfl,hyb b' hb⟩
  ·rw [e5] at hb;exact (mw h5.2.1 hb).elim
 have hwr: ∀m b',(ai (wZ d tl L T Lt u v q a b) m).isSome=true->(aZ m).has b'->yC ρ (n::rr) b':=fun m b' hs hb=>by
  rcases dJ m b' hs hb with ⟨_,k⟩|⟨_,r,k1,k2⟩
  ·exact ⟨n,by simp,k⟩
  ·exact ⟨r,by simp [k1],k2⟩
 have uk: ∀b',¬HI (ai (wZ d tl L T Lt u v q a b)) b':=fun b' ⟨m,S,k,_⟩=>by
  rcases ug k with ⟨_,e⟩|⟨_,e⟩|⟨_,e⟩|⟨_,e⟩<;>cases e
 have HR: ∀b',(bn w b'/\ ¬yC ρ (n::rr) b')->dM aZ (ai (wZ d tl L T Lt u v q a b)) w b':=fun b' hb=>⟨hb.1,by
  rintro (⟨m,k1,k2⟩|k)
  ·exact hb.2 (hwr m b' k1 k2)
  ·exact uk b' k⟩
 have hfz: ∀b',dM ρ Γ w b'->dM aZ (ai (wZ d tl L T Lt u v q a b)) w b':=fun b' hb=>HR b' ⟨hb.1,fun ⟨m,k1,k2⟩=>hb.2 (.inl ⟨m,pB m k1,k2⟩)⟩
 simp only [List.nodup_cons] at ie
 refine ⟨Fr.refl _ _,fun m o ho=> ?_,fun m o ho=> ?_,fun m m' b' kQ Fe fK dI=> ?_,fun m b' kQ fK=> .inr (hwr m b' kQ fK),fun b' hb=>absurd hb (uk b'),fun m o ho=> ?_⟩
 rotate_right
 ·rcases ug ho with ⟨rfl,rfl⟩|⟨rfl,rfl⟩|⟨rfl,rfl⟩|⟨rfl,rfl⟩
  ·exact .inr (by rw [e0];exact (h.sR _ _ hC).elim (fun ⟨_,e⟩=>by cases e) id)
  ·exact .inr (by rw [e4];exact h4.2.1.2)
  ·exact .inr (by rw [e2];exact hye)
  ·exact .inr (by rw [e5];exact h5.2.1.2)
 ·rcases ug ho with ⟨rfl,rfl⟩|⟨rfl,rfl⟩|⟨rfl,rfl⟩|⟨rfl,rfl⟩
  ·obtain ⟨b1,g1,g2⟩:=h.at_ n _ hC
   refine ⟨b1,by rw [e0];exact g1,?_⟩
   rw [g2,Ez (ρ:=ρ) (ρ':=aZ) (cL:=cL) (cT:=cT) (by rw [hcL];simp [Cell.ae,e4]) (by rw [hcT];simp [Cell.ae,e2])]
  ·exact l7 (by rw [e4];exact h4) HR
  ·obtain ⟨g1,g2,g3,sub,g4,g5,g6,g7⟩:=hrow
   rw [br,e2]
   exact ⟨g1,g2,g3,sub,fun i v hv=>by
    obtain ⟨a,k1,k2,_⟩:=g4 i v hv
    exact ⟨a,k1,k2,fun h=>by cases h⟩,fun q u' l' hq=>(g5 q u' l' hq).weak fun b hb=>⟨hfz b hb.1,fun _=>⟨.inr (.inr ⟨hb.1,(hb.2 rfl).1⟩),(hb.2 rfl).2⟩⟩,fun h=>(by cases h),g7⟩
  ·exact l7 (by rw [e5];exact h5) HR
 ·rcases ug ho with ⟨rfl,rfl⟩|⟨rfl,rfl⟩|⟨rfl,rfl⟩|⟨rfl,rfl⟩
  ·refine ⟨by decide,fun c hc=> ?_⟩
   simp only [wR,List.mem_cons,List.not_mem_nil,or_false] at hc
   rcases hc with rfl|rfl|rfl|rfl|rfl|rfl|rfl<;>first|trivial|(show _<4;decide)
  ·exact ⟨by decide,trivial⟩
  ·exact ⟨by decide,trivial⟩
  ·exact ⟨by decide,trivial⟩
 ·have hmem: ∀r,r∈rr→(ρ n).has b'→(ρ r).has b'→n∈rr:=fun r hr' k k'=>by
   have:=h.dK n r b' (pB n (by simp)) (hr r hr') k k'
   rw [this];exact hr'
  rcases dJ m b' kQ fK with ⟨rfl,k⟩|⟨rfl,r,k1,k⟩
  ·rcases dJ m' b' Fe dI with ⟨rfl,k'⟩|⟨rfl,r',Xl,k'⟩
   ·rfl
   ·exact absurd (hmem r' Xl k k') ie.1
  ·rcases dJ m' b' Fe dI with ⟨rfl,k'⟩|⟨rfl,r',Xl,k'⟩
   ·exact absurd (hmem r k1 k' k) ie.1
   ·rfl
def ae5 (d:sX) (val:AV) (u q a b:Value) (z:List d.tb.T) (v:AV) (st:AS):Prop:= ∃m,v=val/\ ai st.heap 0=some (.cells (wR (.full 1) (.full m) u (.int .i32 0) q a b) d.eC)/\ ai st.heap m=some (.row d.tb z 2)
variable {P:Program}
theorem oM.alB {f:FuncId} {d:sX} {tl:Ty} {X:Addr->Value->Prop} {hp:HP} {nm n:Nat} {cL cT cl:Cell} {u u' q a b a' b':Value} {T z:List d.tb.T} {L:List d.tv.T} {Lt:List tl.T} {rr tc ta:List Nat} {A:Cell->Cell->List AV} {val:AV}
  (YN:hp n=some (.cells (wR cL cT u (.int .i32 0) q a b) d.eC)) (Mu:uV hp d.tb cT=some (T,rr)) (DA:fa hp (.one (.sl d.tv)) [.v (.one cL)]=some (L,[],tc,true)) (hd3:fa hp (.one (.sl tl)) [.v (.one cl)]=some (Lt,[],ta,true)) (ie:eB (n::rr)=true) (AY:oL tc (n::rr)=true) (Y1:oL ta (n::rr)=true)
  (hA: ∀p c p' c' ρ ρ',p.ae ρ=p'.ae ρ'->c.ae ρ=c'.ae ρ'->(A p c).map (AV.ae ρ)=(A p' c').map (AV.ae ρ')) (hval:(∀ρ ρ',val.ae ρ=val.ae ρ')/\ ∀Kn,val.ok Kn)
  (tV: ∀aq W aZ w,aq.bd= []->St aq W aZ (· <4) (ai (wZ d tl L T Lt u (.int .i32 0) q a b)) w->Calls P f ((A (.ptr 0 0) (.full 3)).map (AV.ae aZ)).toArray w fun e w'=> ∃st aX v,e= .returned (v.ae aX)/\ ae5 d val u' q a' b' z v st/\ (aX 0=aZ 0/\ aX 1=aZ 1)/\ St aq W aX (· <st.heap.length) (ai st.heap) w'):
  oM P f X (A (.ptr n 0) cl) hp nm {val:=val,fresh:= [.row d.tb z 2],writes:=(n,.cells (wR cL (.full nm) u' (.int .i32 0) q a' b') d.eC)::rr.map fun r=>(r,.gone),aD:=(n::rr)++(tc++ta)} :=by
 have ie:=eX ie
 have AY:=nN AY
 have Y1:=nN Y1
 obtain ⟨hrs,NI⟩:=yb Mu
 refine ⟨fun p eW=> ?_,?_⟩
 ·rcases List.mem_cons.1 eW with rfl|eW
  ·rw [YN];exact fun h=>by cases h
  ·obtain ⟨q,hq,rfl⟩:=List.mem_map.1 eW
   have:=hrs q hq
   intro h
   dsimp only at h
   rw [h] at this;cases this
 intro aq W ρ Kn Γ w _ _ ht hfr hst
 have hin: ∀m∈(n::rr),Γ m=hp m:=fun m hn=>ht m (List.mem_append.2 (.inl hn))
 have QX:Γ n=some (.cells (wR cL cT u (.int .i32 0) q a b) d.eC):=by rw [hin n (by simp)];exact YN
 have NH: ∀r∈rr,(Γ r).isSome=true:=fun r hr=>by rw [hin r (by simp [hr])];exact hrs r hr
 have pB: ∀m∈(n::rr),(Γ m).isSome=true:=fun m hm=>by
  rcases List.mem_cons.1 hm with rfl|hm
  ·rw [QX];rfl
  ·exact NH m hm
 have hok: ∀tc,(∀m∈tc,m∉n::rr)->lW (fun b=>bn w b/\ ¬yC ρ (n::rr) b) ρ Γ w tc:=by
  intro tc AY
  refine ⟨fun b hb=>⟨hb.1,fun ⟨n,n1,n2⟩=>hb.2 (.inl ⟨n,pB n n1,n2⟩)⟩,fun m hm hs b hb hc=>⟨hc,fun ⟨n',n1,n2⟩=> ?_⟩⟩
  have:=hst.dK m n' b hs (pB n' n1) hb n2
  exact AY m hm (this▸n1)
 obtain ⟨y4,g4,c4⟩:=qV DA (fun m hm=>ht m (by simp [hm])) hst (hok tc AY)
 obtain ⟨y5,g5,c5⟩:=qV hd3 (fun m hm=>ht m (by simp [hm])) hst (hok ta Y1)
 obtain ⟨yR,cR,gR,eR,bR⟩:=NI hst fun r hr=>hin r (by simp [hr])
 have c4:cL.ae ρ= .slice y4.base y4.len y4.cap:=c4
 have c5:cl.ae ρ= .slice y5.base y5.len y5.cap:=c5
 have hb:=St.ab0 (d:=d) (L:=L) (T:=T) (Lt:=Lt) hst QX NH ie g4 g5 c4 cR gR bR eR
 obtain ⟨aZ,dR⟩: ∃aZ,aZ=Vb (ρ n) y4 yR y5:=⟨_,rfl⟩
 rw [<- dR] at hb
 have key:=tV _ _ aZ w rfl hb
 rw [hA (.ptr 0 0) (.full 3) (.ptr n 0) cl aZ ρ (by simp only [Cell.ae,addrOf,dR,Vb]) (by rw [c5];simp only [Cell.ae,dR,Vb])] at key
 refine key.mono ?_
 rintro e w' ⟨st,aX,v',rfl,hR,hpe,m8⟩
 obtain ⟨m,rfl,k1,km⟩:=hR
 have e1:aX 0=ρ n:=by rw [hpe.1,dR];rfl
 have e4:Cell.ae aX (.full 1)=cL.ae ρ:=by
  rw [c4]
  simp only [Cell.ae,hpe.2,dR,Vb]
 obtain ⟨ρ',r1,r3,r2⟩:=St.ahW (nm:=nm) (tc:=(n::rr)++(tc++ta)) (val:=v') hst QX NH ie (hfr 0 (by simp)) m8 k1 km e1 e4
 exact ⟨ρ',by rw [hval.1 aX ρ'],r1,hval.2 _,r2⟩
end
def H9 {τ:Type} (d:sX) (rd:AV->Option τ) (Q:τ×(List d.tb.T×Int×Int×Int)->Prop) (v:AV) (st:AS):Prop:=match rd v with
 |some y=>match ai st.heap 0 with
  |some (.cells [.full k,.raw (.int .u32 u),.raw (.int .i32 s),.raw (.int .u32 q),.full m,.raw (.int .i64 a),.raw (.int .i64 b)] e)=>match ai st.heap m with
   |some (.row t l rk)=>match iw t d.tb l with
    |some z=>ob (decide (k=1)&&(decide (s=0)&&(decide (e=d.eC)&&(decide (rk=2)&&decide (q=0))))) (Q (y,z,u,a,b))
    |none=>False
   |_=>False
  |_=>False
 |none=>False
theorem JJ {τ:Type} {d:sX} {rd:AV->Option τ} {Q:τ×(List d.tb.T×Int×Int×Int)->Prop} {v:AV} {st:AS} (h:H9 d rd Q v st) {val:τ->AV} (hrd: ∀v y,rd v=some y->v=val y):
  ∃y z u a b,Q (y,z,u,a,b)/\ ae5 d (val y) (.int .u32 u) (.int .u32 0) (.int .i64 a) (.int .i64 b) z v st:=by
 unfold H9 at h
 split at h
 rotate_left
 ·exact h.elim
 rename_i y hy
 split at h
 rotate_left
 ·exact h.elim
 rename_i h1
 split at h
 rotate_left
 ·exact h.elim
 rename_i h2
 split at h
 rotate_left
 ·exact h.elim
 rename_i z hz
 obtain ⟨hb,hq⟩:=bk h
 simp only [Bool.and_eq_true,decide_eq_true_eq] at hb
 obtain ⟨rfl,rfl,rfl,rfl,rfl⟩:=hb
 obtain ⟨e1,e2⟩:=cg hz
 subst e1
 dsimp only at e2
 subst e2
 exact ⟨_,_,_,_,_,hq,_,hrd _ _ hy,h1,h2⟩
end Go.Ev
