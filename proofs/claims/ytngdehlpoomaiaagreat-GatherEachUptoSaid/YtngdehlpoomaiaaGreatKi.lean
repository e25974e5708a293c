/- gather.open: its two contracts; where a spot's ways end. -/
import Derived.Test.YtngdehlpoomaiaaGreatKl
import Derived.Test.YtngdehlpoomaiaaGreatWc
noncomputable section
set_option linter.unusedSectionVars false
set_option linter.unusedVariables false
set_option linter.unusedSimpArgs false
namespace Go.Proofs.YtngdehlpoomaiaaGreat
open Go Go.Ev Go.Proofs
abbrev sY:Type:=((Int×Int×Int×Int×List (Int×I3×I3×I2))×I3×I3)
abbrev O5:Ty:= .prod (.prod da (.prod da (.prod da da))) (.prod Vi Vi)
def th (x:aZ.ty.T):O5.T:=(kP x).2
def lB (x:aZ.ty.T):Prop:=nU x/\ (kP x).1=false
abbrev su:bY:=⟨aZ,.one O5,lB,th⟩
def kO (x:aZ.ty.T):Int:=if (kP x).1=true then (kP x).2.1.1 else 0
def lC (x:aZ.ty.T):Prop:=nU x
abbrev sv:bY:=⟨aZ,.one da,lC,kO⟩
def oV (cl:Cell) (y:O5.T):AV:= .v (.agg [ci y.1.1,ci y.1.2.1,ci y.1.2.2.1,ci y.1.2.2.2,cl,ci y.2.1.1,ci y.2.1.2.1,ci y.2.1.2.2,ci y.2.2.1,ci y.2.2.2.1,ci y.2.2.2.2])
def Gf:Ev.Spec:=fun _ args hp nm k=>match eY hp aZ args with
 |some (x,[],tc,b)=>match args with
  | .v (.agg [_,_,_,_,cl])::_=>ob b (su.pre x/\ ∀y,y=su.f x->k {val:= .v (.agg [ci y.1.1,ci y.1.2.1,ci y.1.2.2.1,ci y.1.2.2.2,cl,ci y.2.1.1,ci y.2.1.2.1,ci y.2.1.2.2,ci y.2.2.1,ci y.2.2.2.1,ci y.2.2.2.2]),aH:=tc})
  |_=>False
 |_=>False
def B1:PCd:=fun args hp k=>match eY hp aZ args with
 |some (x,[],tc,b)=>ob b (sv.pre x/\ ∀y,y=sv.f x->k y)
 |_=>False
theorem SI {r0:Env} {Q:oY.T->Prop} {v:AV} {st:AS} (h:UC r0 Q v st): ∃y:O5.T,v=oV (.full 0) y/\ aj st.heap 1=some (.bT r0 1)/\ Q (false,y):=by
 unfold UC at h
 split at h
 ·obtain ⟨h1,h2⟩:=cZ h
  exact ⟨_,rfl,h1,h2⟩
 ·exact h.elim
theorem Ss {Q:oY.T->Prop} {st:AS} (h:Us Q st): ∃c,bP st.tmps 13= .v (.one (.raw (.int .i64 c)))/\ Q (true,(c,0,0,0),(0,0,0),0,0,0):=by
 unfold Us at h
 split at h
 ·rename_i c hc;exact ⟨c,hc,h⟩
 ·exact h.elim
theorem ady:Tryz.agP= {Tryz.f31 with body:=some (gC [2,4,6] (aD Tryz.f31))} :=by kernel_rfl
theorem Gg (x:aZ.ty.T) (hp:nU x) (aV:Env) (w:World) (hst:St xw w aV (· <1) (aj (c9 aZ x)) w):
  Calls Tryz.prog 31 ((cq aZ x).map (AV.ae aV)).toArray w fun e w'=>Fr xw w w'/\ (((kP x).1=false/\ e= .returned ((oV (.full 0) (kP x).2).ae aV))\/ ((kP x).1=true/\ e= .panicked [ent 30 (kP x).2.1.1])):=by
 obtain ⟨lp,its,hi,hl,ha,wz⟩:=aa0 x hp
 obtain ⟨ta,hold,uK⟩:=hst.pinned
 have hok: ∀a∈cq aZ x,a.ok (· <1):=fun a ha=>by
  obtain ⟨b,hb,rfl⟩:=List.mem_map.1 ha
  have hl:(aW 0 0 aZ x).2.length=1:=rfl
  exact A0.aR (fun m hm=>by have:=hm.2;rw [hl] at this;omega) b (gW 0 aZ x 0 b hb)
 have wz:goE ⟨tt,mD,cf,lp,[],its⟩ Tryz.agP (cq aZ x) (c9 aZ x++ [.bT aV 1]) (UC aV (· =kP x)) (Us (· =kP x)):=wz aV
 have uK:St xw w ta (· <2) (aj (c9 aZ x++ [.bT aV 1])) w:=uK
 have hca:(cq aZ x).map (AV.ae ta)=(cq aZ x).map (AV.ae aV):=List.map_congr_left fun a ha=>AV.bq (Kn:=(· <1)) hold a (hok a ha)
 rw [<- hca]
 have qV:Q8 Tryz.prog ⟨tt,mD,cf,lp,[],its⟩ 30 (PnR 13) [2,4,6] (aD Tryz.f31):=hl.lpG (ctx:=⟨tt,mD,cf,lp,[],its⟩) (fun p hp=>hp) ha
 have hcd:=BI ady wz
 have BL:eB Tryz.prog ⟨tt,mD,cf,lp,[],its⟩:=⟨vz,mU.nil _,hi⟩
 have hb0:Tryz.f31.body=some (aD Tryz.f31):=by kernel_rfl
 have DB:Tryz.prog.funcs[31]? =some Tryz.f31:=by kernel_rfl
 have BN:II (aD Tryz.f31)=true:=by kernel_rfl
 have RI: ∀a∈cq aZ x,a.ok (· <(c9 aZ x++ [aG.bT aV 1]).length):=fun a ha=>AV.aR (fun i hi=>by show i<2;omega) a (hok a ha)
 have aej:St xw w ta (· <(c9 aZ x++ [aG.bT aV 1]).length) (aj (c9 aZ x++ [aG.bT aV 1])) w:=uK
 clear wz uK hl ha hi hca hok
 generalize c9 aZ x++ [aG.bT aV 1]=hp1 at aej hcd RI
 generalize Tryz.f31=fn at qV hcd hb0 DB BN
 generalize aD fn=c at qV hcd hb0 BN
 generalize cq aZ x=ar at hcd RI ⊢
 have key:=YJ aA BL mixed DB hb0 BN qV (cf.ok xw w) rfl (fun k a w a' w' h=>by rw [h.2,put_defers]) hcd RI aej
 refine key.mono ?_
 clear key hcd qV
 rintro e w' (⟨st,ρ',v,rfl,hv,hR,jO⟩|⟨k,w2,a,a2,st,ρ',rfl,hPn,hfr,hR,aO⟩)
 ·obtain ⟨y,rfl,wZ,hy⟩:=SI hR
  have hy:(false,y)=kP x:=hy
  refine ⟨jO.fr,.inl ⟨by rw [<- hy],?_⟩⟩
  rw [<- hy]
  have e0:ρ' 0=aV 0:=(jO.at_ 1 _ wZ).2 0 (by decide)
  simp only [oV,AV.ae,A0.ae,List.map_cons,List.map_nil,Cell.ae,e0]
 ·obtain ⟨c,hc,hy⟩:=Ss hR
  have hy:(true,(c,0,0,0),(0,0,0),0,0,0)=kP x:=hy
  refine ⟨hfr,.inr ⟨by rw [<- hy],?_⟩⟩
  have h1:=aO.bz.tmps 13 (by rw [hc];simp)
  rw [hc] at h1
  have hlt:13<a.tmps.size:=by
   have:=aO.bz.size
   rw [hPn.2,mB] at this
   rw [this]
   refine Nat.lt_of_not_le fun hle=> ?_
   rw [pW,List.getD,List.getElem?_eq_none hle] at hc
   cases hc
  rw [hPn.2,iF] at h1
  dsimp only at h1
  rw [if_pos ⟨rfl,hlt⟩] at h1
  have h1:Value.int .i64 k= .int .i64 c:=h1
  cases h1
  rw [<- hy]
theorem Gh {hp:HP} {args:List AV} {x:aZ.ty.T} {tc:List Nat} (hd:eY hp aZ args=some (x,[],tc,true)) {au:eW} {W:World} {ρ:Env} {Kn:Nat->Prop} {Γ:HP} {w:World} (ht: ∀m∈tc,Γ m=hp m) (hst:St au W ρ Kn Γ w):
  ∃aV,St xw w aV (· <1) (aj (c9 aZ x)) w/\ (cq aZ x).map (AV.ae aV)=args.map (AV.ae ρ):=by
 obtain ⟨as1,e,hargs⟩:=nP aZ _ _ _ _ hd
 rw [List.append_nil] at e
 subst e
 obtain ⟨xs,hg,hc⟩:=hargs au W ρ Kn Γ w ht hst 0
 have hb:=St.begin hg
 have hcs:=hc (fun n=>xs.getD n {}) fun i y hy=>by simp [hy]
 exact ⟨_,hb,by rw [hcs];simp [cq,AV.ae,Function.comp_def]⟩
theorem O8:ai Tryz.prog 31 Gf:=by
 intro X args hp nm k hs
 unfold Gf at hs
 split at hs
 rotate_left
 ·exact hs.elim
 rename_i x tc b hd
 split at hs
 rotate_left
 ·exact hs.elim
 rename_i c1 c2 c3 c4 cl rest
 obtain ⟨rfl,hpre,hk⟩:=bg hs
 refine ⟨_,⟨fun p eL=>absurd eL (by simp),?_⟩,hk _ rfl⟩
 intro au W ρ Kn Γ w _ hok ht hfr hst
 obtain ⟨aV,hb,hca⟩:=Gh hd ht hst
 rw [<- hca]
 refine (Gg x hpre.1 aV w hb).mono ?_
 rintro e w' ⟨hF,⟨_,rfl⟩|⟨h1,_⟩⟩
 rotate_left
 ·rw [hpre.2] at h1;cases h1
 have Ot:Cell.ae aV (.full 0)=cl.ae ρ:=by
  have h1:=congrArg (fun l=>l.head?) hca
  have h2:Value.agg #[_,_,_,_,Cell.ae aV (.full 0)]=Value.agg #[_,_,_,_,cl.ae ρ]:=Option.some.inj h1
  injection h2 with h3
  have h4:=congrArg (fun l=>l.getD 4 undef) h3
  exact h4
 refine ⟨ρ,?_,fun _ _=>rfl,?_,?_⟩
 ·show Ending.returned ((oV (.full 0) (kP x).2).ae aV)= .returned ((oV cl (kP x).2).ae ρ)
  congr 1
  simp only [oV,AV.ae,A0.ae,List.map_cons,List.map_nil,Ot]
  rfl
 ·have hco:cl.ok Kn:=by
   have:=hok (.v (.agg [c1,c2,c3,c4,cl])) (by simp)
   exact this cl (by simp)
  intro c hc
  simp only [List.mem_cons,List.not_mem_nil,or_false] at hc
  rcases hc with rfl|rfl|rfl|rfl|rfl|rfl|rfl|rfl|rfl|rfl|rfl<;>first|trivial|exact Cell.aR (fun _=> .inl) _ hco
 ·rw [fb,n6];exact hst.called hF
theorem wJ:acT Tryz.prog 30 31 B1:=by
 intro args hp k h
 unfold B1 at h
 split at h
 rotate_left
 ·exact h.elim
 rename_i x tc b hd
 obtain ⟨rfl,hpre,hk⟩:=bg h
 refine ⟨_,hk _ rfl,fun hc au W ρ Kn w hok hst=> ?_⟩
 obtain ⟨aV,hb,hca⟩:=Gh hd (fun _ _=>rfl) hst
 rw [<- hca]
 refine (Gg x hpre aV w hb).mono ?_
 have hc:kO x≠0:=hc
 unfold kO at hc
 rintro e w' ⟨hF,⟨h1,_⟩|⟨h1,rfl⟩⟩
 ·rw [h1] at hc;simp at hc
 ·refine ⟨?_,hF⟩
  show _=Ending.panicked [ent 30 (kO x)]
  unfold kO
  rw [if_pos h1]
def Dd:List (Nat×Ev.Spec):=(31,Gf)::mD
theorem oN:ah Tryz.prog Dd:=ah.add (fn:=Tryz.f31) (by kernel_rfl) O8 vz
def Oi (x:sY):aK:=⟨[],⟨di 46 0 [(1,.v (.one (.ptr 0 0))),(5,.v (.one (.full 2))),(19,.v (.one (.full 3))),(20,.v (.one (.i .i64))),(21,.v (.one (.i .i64)))],[.cells [.i .i64,.i .i64,.i .i64,.i .i64,.full 1,.i .i64,.i .i64,.i .i64,.i .i64,.i .i64,.i .i64] 84,.row (Ty.prod yi (Ty.prod aM (Ty.prod aM fX))) 0,.row aM 2,.row fX 2],0,none,[],[2,3,4,5,6,7,8,9,10,11,12],[13,14,0,1],[(.l aM),(.l fX),.i,.i],[.i x.1.1,.i x.1.2.1,.i x.1.2.2.1,.i x.1.2.2.2.1,.i x.2.1.1,.i x.2.1.2.1,.i x.2.1.2.2,.i x.2.2.1,.i x.2.2.2.1,.i x.2.2.2.2,.l (Ty.prod yi (Ty.prod aM (Ty.prod aM fX))) x.1.2.2.2.2]⟩,[⟨(.exit 0),.normal,⟨di 46 0 [(5,.v (.one (.full 0)))],[.row aM 2],0,none,[],[],[0],[(.l aM)],[]⟩⟩]⟩
def je (x:sY) (s:(List I3×List I2×I2)):(List I3×List I2×I2)⊕(List I3):=
 (if (s.2.2.2<s.2.2.1) then
 (aq (zk (x.2.2,(s.2.1.getD s.2.2.2.toNat (0,0)))) fun y=>
 (aq (oz y.2) fun aB=>
 (aq (wk (x.2.1,y.1,x.1.2.1)) fun y_2=>
 (Sum.inl ((s.1++ [y_2]),s.2.1,s.2.2.1,(av (s.2.2.2+1))))))) else
 (Sum.inr (s.1)))
def m8 (x:sY) (s:(List I3×List I2×I2)):Prop:=
 ((s.2.2.2<s.2.2.1)->
 (((0<=s.2.2.2)/\ (s.2.2.2<(s.2.1.length:Int)))/\
 ((s.2.2.2.toNat<s.2.1.length)/\
 ((s.2.2.2.toNat<s.2.1.length)/\
 ((pL (x.2.2,(s.2.1.getD s.2.2.2.toNat (0,0))))/\
 aC (zk (x.2.2,(s.2.1.getD s.2.2.2.toNat (0,0)))) fun y=>
 ((fx y.2)/\
 aC (oz y.2) fun aB=>
 ((l7 (x.2.1,y.1,x.1.2.1))/\
 aC (wk (x.2.1,y.1,x.1.2.1)) fun y_2=>
 ((s.1.length+1)<1099511627776))))))))
def Fw (x:sY) (s:(List I3×List I2×I2)):Tr ((List I3×List I2×I2)⊕(List I3)) true:=
 (.i10 (s.2.2.2<s.2.2.1)
 (.mS s.2.2.2 s.2.1
 (.fn v8 (x.2.2,(gT s.2.1 s.2.2.2 Cq)) fun y=>
 (.fn jm y.2 fun aB=>
 (.fn qQ (x.2.1,y.1,x.1.2.1) fun y_2=>
 (.od ((s.1.length+1)<1099511627776)
 (.ret (.inl ((s.1++ [y_2]),s.2.1,s.2.2.1,(w1 s.2.2.2)))))))))
 (.ret (.inr (s.1))))
def Jo (x:sY):(List I3):=
 (aq (Ou x.1.1) fun y=>
 (aq (oz y.2) fun aB=>
 (aq (run (je x) ([],y.1,(y.1.length:Int),0)) fun r=>
 r)))
def qR (x:sY):Prop:=
 ((wv x.1.1)/\
 aC (Ou x.1.1) fun y=>
 ((fx y.2)/\
 aC (oz y.2) fun aB=>
 (Term (je x) (m8 x) ([],y.1,(y.1.length:Int),0))))
def adN (x:sY):Tr (List I3) true:=
 (.fn D0 x.1.1 fun y=>
 (.fn jm y.2 fun aB=>
 (aK.lp (Oi x) (Fw x) ([],y.1,(nL y.1),z0) fun r=>
 (.ret r))))
abbrev zu:bY:=⟨(.agg (Ty.prod (Ty.prod yi (Ty.prod yi (Ty.prod yi (Ty.prod yi (Ty.sl (Ty.prod yi (Ty.prod aM (Ty.prod aM fX)))))))) (Ty.prod aM aM))),(.one (Ty.sl aM)),qR,Jo⟩
theorem Zq:ai Tryz.prog 39 (ak zu):=ai.tr zu adN (fn:=Tryz.f39) aA oN mixed (by kernel_rfl) (ax.nil _ _) (fun x=>(ay.tr aA (ah.dX oN (ax.nil _ _)) mixed 0 (Oi x) (Fw x) ay.nil (by kernel_rfl) fun g s Q=>(by kernel_rfl))) (fun x=>(by kernel_rfl)) fun x Q=>(by kernel_rfl)
def ku:List (Nat×Ev.Spec):=(39,ak zu)::Dd
theorem iK:ah Tryz.prog ku:=ah.add (fn:=Tryz.f39) (by kernel_rfl) Zq oN
end Go.Proofs.YtngdehlpoomaiaaGreat
namespace Go.Ev
open Go.RowKit
def xp (d:tw) (tl:Ty) (L:List d.tv.T) (T:List d.tb.T) (Lt:List tl.T) (u v q a b:Value):List aG:= [.cells (xe (.full 1) (.full 2) u v q a b) d.eC,.row d.tv L 0,.row d.tb T 2,.row tl Lt 0]
def VW (y0 y4 yR y5:Loc):Env:=fun i=>match i with
 |0=>y0
 |1=>y4
 |2=>yR
 |3=>y5
 |_=> {}
theorem uF {d:tw} {tl:Ty} {L:List d.tv.T} {T:List d.tb.T} {Lt:List tl.T} {u v q a b:Value} {n:Nat} {o:aG} (h:aj (xp d tl L T Lt u v q a b) n=some o):
  (n=0/\ o= .cells (xe (.full 1) (.full 2) u v q a b) d.eC)\/ (n=1/\ o= .row d.tv L 0)\/ (n=2/\ o= .row d.tb T 2)\/ (n=3/\ o= .row tl Lt 0):=by
 have h:=mo h
 match n,h with
 |0,h=>exact .inl ⟨rfl,by cases h;rfl⟩
 |1,h=>exact .inr (.inl ⟨rfl,by cases h;rfl⟩)
 |2,h=>exact .inr (.inr (.inl ⟨rfl,by cases h;rfl⟩))
 |3,h=>exact .inr (.inr (.inr ⟨rfl,by cases h;rfl⟩))
 |n+4,h=>simp [xp] at h
section
variable {au:eW} {W:World} {ρ:Env} {Kn:Nat->Prop} {Γ:HP} {w:World}
theorem St.ac6 {d:tw} {tl:Ty} {L:List d.tv.T} {T:List d.tb.T} {Lt:List tl.T} {u v q a b:Value} {n:Nat} {rr:List Nat} {cL cT:Cell} {y4 yR y5:Loc} (h:St au W ρ Kn Γ w)
  (hC:Γ n=some (.cells (xe cL cT u v q a b) d.eC)) (hr: ∀r∈rr,(Γ r).isSome=true) (gU:(n::rr).Nodup)
  (h4:cw (fun b=>bh w b/\ ¬yS ρ (n::rr) b) w (.row d.tv L 0) y4) (h5:cw (fun b=>bh w b/\ ¬yS ρ (n::rr) b) w (.row tl Lt 0) y5)
  (hcL:cL.ae ρ= .slice y4.base y4.len y4.cap) (hcT:cT.ae ρ= .slice yR.base yR.len yR.cap)
  (hrow:bn (dA ρ Γ w) (q8 au W) (fun _=>yR) 2 (.row d.tb T 2) w) (hyb: ∀b,yR.has b-> ∃r∈rr,(ρ r).has b) (hye:yR.iw= []):
  St {wr:=yS ρ (n::rr),nw:=fun b=>dA ρ Γ w b/\ q8 au W b} w (VW (ρ n) y4 yR y5) (· <4) (aj (xp d tl L T Lt u v q a b)) w:=by
 obtain ⟨aV,dL⟩: ∃aV,aV=VW (ρ n) y4 yR y5:=⟨_,rfl⟩
 rw [<- dL]
 have e0:aV 0=ρ n:=by rw [dL];rfl
 have e4:aV 1=y4:=by rw [dL];rfl
 have e2:aV 2=yR:=by rw [dL];rfl
 have e5:aV 3=y5:=by rw [dL];rfl
 have pO: ∀m∈(n::rr),(Γ m).isSome=true:=fun m hm=>by
  rcases List.mem_cons.1 hm with rfl|hm
  ·rw [hC];rfl
  ·exact hr m hm
 have dy: ∀m b',(aj (xp d tl L T Lt u v q a b) m).isSome=true->(aV m).has b'->(m=0/\ (ρ n).has b')\/ (m=2/\ ∃r∈rr,(ρ r).has b'):=fun m b' hs hb=>by
  obtain ⟨o,ho⟩:=Option.isSome_iff_exists.1 hs
  rcases uF ho with ⟨rfl,_⟩|⟨rfl,_⟩|⟨rfl,_⟩|⟨rfl,_⟩
  ·rw [e0] at hb;exact .inl ⟨rfl,hb⟩
  ·rw [e4] at hb;exact (my h4.2.1 hb).elim
  ·rw [e2] at hb;exact .inr ⟨rfl,hyb b' hb⟩
  ·rw [e5] at hb;exact (my h5.2.1 hb).elim
 have hwr: ∀m b',(aj (xp d tl L T Lt u v q a b) m).isSome=true->(aV m).has b'->yS ρ (n::rr) b':=fun m b' hs hb=>by
  rcases dy m b' hs hb with ⟨_,k⟩|⟨_,r,k1,k2⟩
  ·exact ⟨n,by simp,k⟩
  ·exact ⟨r,by simp [k1],k2⟩
 have uH: ∀b',¬HI (aj (xp d tl L T Lt u v q a b)) b':=fun b' ⟨m,S,k,_⟩=>by
  rcases uF k with ⟨_,e⟩|⟨_,e⟩|⟨_,e⟩|⟨_,e⟩<;>cases e
 have Iy: ∀b',(bh w b'/\ ¬yS ρ (n::rr) b')->dA aV (aj (xp d tl L T Lt u v q a b)) w b':=fun b' hb=>⟨hb.1,by
  rintro (⟨m,k1,k2⟩|k)
  ·exact hb.2 (hwr m b' k1 k2)
  ·exact uH b' k⟩
 have hfz: ∀b',dA ρ Γ w b'->dA aV (aj (xp d tl L T Lt u v q a b)) w b':=fun b' hb=>Iy b' ⟨hb.1,fun ⟨m,k1,k2⟩=>hb.2 (.inl ⟨m,pO m k1,k2⟩)⟩
 simp only [List.nodup_cons] at gU
 refine ⟨Fr.refl _ _,fun m o ho=> ?_,fun m o ho=> ?_,fun m m' b' kM FK fC dI=> ?_,fun m b' kM fC=> .inr (hwr m b' kM fC),fun b' hb=>absurd hb (uH b'),fun m o ho=> ?_⟩
 rotate_right
 ·rcases uF ho with ⟨rfl,rfl⟩|⟨rfl,rfl⟩|⟨rfl,rfl⟩|⟨rfl,rfl⟩
  ·exact .inr (by rw [e0];exact (h.tg _ _ hC).elim (fun ⟨_,e⟩=>by cases e) id)
  ·exact .inr (by rw [e4];exact h4.2.1.2)
  ·exact .inr (by rw [e2];exact hye)
  ·exact .inr (by rw [e5];exact h5.2.1.2)
 ·rcases uF ho with ⟨rfl,rfl⟩|⟨rfl,rfl⟩|⟨rfl,rfl⟩|⟨rfl,rfl⟩
  ·obtain ⟨b1,g1,g2⟩:=h.at_ n _ hC
   refine ⟨b1,by rw [e0];exact g1,?_⟩
   rw [g2,E2 (ρ:=ρ) (ρ':=aV) (cL:=cL) (cT:=cT) (by rw [hcL];simp [Cell.ae,e4]) (by rw [hcT];simp [Cell.ae,e2])]
  ·exact l9 (by rw [e4];exact h4) Iy
  ·obtain ⟨g1,g2,g3,sub,g4,g5,g6,g7⟩:=hrow
   rw [bn,e2]
   exact ⟨g1,g2,g3,sub,fun i v hv=>by
    obtain ⟨a,k1,k2,_⟩:=g4 i v hv
    exact ⟨a,k1,k2,fun h=>by cases h⟩,fun q u' l' hq=>(g5 q u' l' hq).weak fun b hb=>⟨hfz b hb.1,fun _=>⟨.inr (.inr ⟨hb.1,(hb.2 rfl).1⟩),(hb.2 rfl).2⟩⟩,fun h=>(by cases h),g7⟩
  ·exact l9 (by rw [e5];exact h5) Iy
 ·rcases uF ho with ⟨rfl,rfl⟩|⟨rfl,rfl⟩|⟨rfl,rfl⟩|⟨rfl,rfl⟩
  ·refine ⟨by decide,fun c hc=> ?_⟩
   simp only [xe,List.mem_cons,List.not_mem_nil,or_false] at hc
   rcases hc with rfl|rfl|rfl|rfl|rfl|rfl|rfl<;>first|trivial|(show _<4;decide)
  ·exact ⟨by decide,trivial⟩
  ·exact ⟨by decide,trivial⟩
  ·exact ⟨by decide,trivial⟩
 ·have hmem: ∀r,r∈rr→(ρ n).has b'→(ρ r).has b'→n∈rr:=fun r hr' k k'=>by
   have:=h.dz n r b' (pO n (by simp)) (hr r hr') k k'
   rw [this];exact hr'
  rcases dy m b' kM fC with ⟨rfl,k⟩|⟨rfl,r,k1,k⟩
  ·rcases dy m' b' FK dI with ⟨rfl,k'⟩|⟨rfl,r',X6,k'⟩
   ·rfl
   ·exact absurd (hmem r' X6 k k') gU.1
  ·rcases dy m' b' FK dI with ⟨rfl,k'⟩|⟨rfl,r',X6,k'⟩
   ·exact absurd (hmem r k1 k' k) gU.1
   ·rfl
def agi (d:tw) (val:AV) (u q a b:Value) (z:List d.tb.T) (v:AV) (st:AS):Prop:= ∃m,v=val/\ aj st.heap 0=some (.cells (xe (.full 1) (.full m) u (.int .i32 0) q a b) d.eC)/\ aj st.heap m=some (.row d.tb z 2)
variable {P:Program}
theorem o7.amK {f:FuncId} {d:tw} {tl:Ty} {X:Addr->Value->Prop} {hp:HP} {nm n:Nat} {cL cT cl:Cell} {u u' q a b a' b':Value} {T z:List d.tb.T} {L:List d.tv.T} {Lt:List tl.T} {rr tc tH:List Nat} {A:Cell->Cell->List AV} {val:AV}
  (Zx:hp n=some (.cells (xe cL cT u (.int .i32 0) q a b) d.eC)) (Ng:vm hp d.tb cT=some (T,rr)) (DZ:eY hp (.one (.sl d.tv)) [.v (.one cL)]=some (L,[],tc,true)) (hd3:eY hp (.one (.sl tl)) [.v (.one cl)]=some (Lt,[],tH,true)) (gU:dY (n::rr)=true) (Bj:oZ tc (n::rr)=true) (ZL:oZ tH (n::rr)=true)
  (hA: ∀p c p' c' ρ ρ',p.ae ρ=p'.ae ρ'->c.ae ρ=c'.ae ρ'->(A p c).map (AV.ae ρ)=(A p' c').map (AV.ae ρ')) (hval:(∀ρ ρ',val.ae ρ=val.ae ρ')/\ ∀Kn,val.ok Kn)
  (uw: ∀au W aV w,au.bd= []->St au W aV (· <4) (aj (xp d tl L T Lt u (.int .i32 0) q a b)) w->Calls P f ((A (.ptr 0 0) (.full 3)).map (AV.ae aV)).toArray w fun e w'=> ∃st aQ v,e= .returned (v.ae aQ)/\ agi d val u' q a' b' z v st/\ (aQ 0=aV 0/\ aQ 1=aV 1)/\ St au W aQ (· <st.heap.length) (aj st.heap) w'):
  o7 P f X (A (.ptr n 0) cl) hp nm {val:=val,fresh:= [.row d.tb z 2],writes:=(n,.cells (xe cL (.full nm) u' (.int .i32 0) q a' b') d.eC)::rr.map fun r=>(r,.gone),aH:=(n::rr)++(tc++tH)} :=by
 have gU:=eM gU
 have Bj:=nR Bj
 have ZL:=nR ZL
 obtain ⟨hrs,OC⟩:=yu Ng
 refine ⟨fun p eL=> ?_,?_⟩
 ·rcases List.mem_cons.1 eL with rfl|eL
  ·rw [Zx];exact fun h=>by cases h
  ·obtain ⟨q,hq,rfl⟩:=List.mem_map.1 eL
   have:=hrs q hq
   intro h
   dsimp only at h
   rw [h] at this;cases this
 intro au W ρ Kn Γ w _ _ ht hfr hst
 have hin: ∀m∈(n::rr),Γ m=hp m:=fun m hn=>ht m (List.mem_append.2 (.inl hn))
 have RP:Γ n=some (.cells (xe cL cT u (.int .i32 0) q a b) d.eC):=by rw [hin n (by simp)];exact Zx
 have OB: ∀r∈rr,(Γ r).isSome=true:=fun r hr=>by rw [hin r (by simp [hr])];exact hrs r hr
 have pO: ∀m∈(n::rr),(Γ m).isSome=true:=fun m hm=>by
  rcases List.mem_cons.1 hm with rfl|hm
  ·rw [RP];rfl
  ·exact OB m hm
 have hok: ∀tc,(∀m∈tc,m∉n::rr)->lY (fun b=>bh w b/\ ¬yS ρ (n::rr) b) ρ Γ w tc:=by
  intro tc Bj
  refine ⟨fun b hb=>⟨hb.1,fun ⟨n,n1,n2⟩=>hb.2 (.inl ⟨n,pO n n1,n2⟩)⟩,fun m hm hs b hb hc=>⟨hc,fun ⟨n',n1,n2⟩=> ?_⟩⟩
  have:=hst.dz m n' b hs (pO n' n1) hb n2
  exact Bj m hm (this▸n1)
 obtain ⟨y4,g4,c4⟩:=q9 DZ (fun m hm=>ht m (by simp [hm])) hst (hok tc Bj)
 obtain ⟨y5,g5,c5⟩:=q9 hd3 (fun m hm=>ht m (by simp [hm])) hst (hok tH ZL)
 obtain ⟨yR,cR,gR,eR,bR⟩:=OC hst fun r hr=>hin r (by simp [hr])
 have c4:cL.ae ρ= .slice y4.base y4.len y4.cap:=c4
 have c5:cl.ae ρ= .slice y5.base y5.len y5.cap:=c5
 have hb:=St.ac6 (d:=d) (L:=L) (T:=T) (Lt:=Lt) hst RP OB gU g4 g5 c4 cR gR bR eR
 obtain ⟨aV,dL⟩: ∃aV,aV=VW (ρ n) y4 yR y5:=⟨_,rfl⟩
 rw [<- dL] at hb
 have key:=uw _ _ aV w rfl hb
 rw [hA (.ptr 0 0) (.full 3) (.ptr n 0) cl aV ρ (by simp only [Cell.ae,addrOf,dL,VW]) (by rw [c5];simp only [Cell.ae,dL,VW])] at key
 refine key.mono ?_
 rintro e w' ⟨st,aQ,v',rfl,hR,hpe,m9⟩
 obtain ⟨m,rfl,k1,km⟩:=hR
 have e1:aQ 0=ρ n:=by rw [hpe.1,dL];rfl
 have e4:Cell.ae aQ (.full 1)=cL.ae ρ:=by
  rw [c4]
  simp only [Cell.ae,hpe.2,dL,VW]
 obtain ⟨ρ',r1,r3,r2⟩:=St.ai2 (nm:=nm) (tc:=(n::rr)++(tc++tH)) (val:=v') hst RP OB gU (hfr 0 (by simp)) m9 k1 km e1 e4
 exact ⟨ρ',by rw [hval.1 aQ ρ'],r1,hval.2 _,r2⟩
end
def IN {τ:Type} (d:tw) (rd:AV->Option τ) (Q:τ×(List d.tb.T×Int×Int×Int)->Prop) (v:AV) (st:AS):Prop:=match rd v with
 |some y=>match aj st.heap 0 with
  |some (.cells [.full k,.raw (.int .u32 u),.raw (.int .i32 s),.raw (.int .u32 q),.full m,.raw (.int .i64 a),.raw (.int .i64 b)] e)=>match aj st.heap m with
   |some (.row t l rk)=>match ij t d.tb l with
    |some z=>ob (decide (k=1)&&(decide (s=0)&&(decide (e=d.eC)&&(decide (rk=2)&&decide (q=0))))) (Q (y,z,u,a,b))
    |none=>False
   |_=>False
  |_=>False
 |none=>False
theorem Km {τ:Type} {d:tw} {rd:AV->Option τ} {Q:τ×(List d.tb.T×Int×Int×Int)->Prop} {v:AV} {st:AS} (h:IN d rd Q v st) {val:τ->AV} (hrd: ∀v y,rd v=some y->v=val y):
  ∃y z u a b,Q (y,z,u,a,b)/\ agi d (val y) (.int .u32 u) (.int .u32 0) (.int .i64 a) (.int .i64 b) z v st:=by
 unfold IN at h
 split at h
 rotate_left
 ·exact h.elim
 rename_i y hy
 split at h
 rotate_left
 ·exact h.elim
 rename_i h1
 split at h
 rotate_left
 ·exact h.elim
 rename_i h2
 split at h
 rotate_left
 ·exact h.elim
 rename_i z hz
 obtain ⟨hb,hq⟩:=bg h
 simp only [Bool.and_eq_true,decide_eq_true_eq] at hb
 obtain ⟨rfl,rfl,rfl,rfl,rfl⟩:=hb
 obtain ⟨e1,e2⟩:=bZ hz
 subst e1
 dsimp only at e2
 subst e2
 exact ⟨_,_,_,_,_,hq,_,hrd _ _ hy,h1,h2⟩
end Go.Ev
