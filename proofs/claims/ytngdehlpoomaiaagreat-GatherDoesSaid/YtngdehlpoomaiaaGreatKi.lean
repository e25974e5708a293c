/- gather.open: its two contracts; where a spot's ways end. -/
import Derived.Test.YtngdehlpoomaiaaGreatKl
import Derived.Test.YtngdehlpoomaiaaGreatWc
noncomputable section
set_option linter.unusedSectionVars false
set_option linter.unusedVariables false
set_option linter.unusedSimpArgs false
namespace Go.Proofs.YtngdehlpoomaiaaGreat
open Go Go.Ev Go.Proofs
abbrev wC:Type:=((Int×Int×Int×Int×List (Int×I3×I3×I2))×I3×I3)
abbrev Wi:Ty:= .prod (.prod dD (.prod dD (.prod dD dD))) (.prod v3Y v3Y)
def A8 (x:bg.ty.T):Wi.T:=(mK x).2
def qf (x:bg.ty.T):Prop:=qh x/\ (mK x).1=false
abbrev vx:bF:=⟨bg,.one Wi,qf,A8⟩
def oZ (x:bg.ty.T):Int:=if (mK x).1=true then (mK x).2.1.1 else 0
def qg (x:bg.ty.T):Prop:=qh x
abbrev vy:bF:=⟨bg,.one dD,qg,oZ⟩
def oV (cl:Cell) (y:Wi.T):AV:= .v (.agg [ci y.1.1,ci y.1.2.1,ci y.1.2.2.1,ci y.1.2.2.2,cl,ci y.2.1.1,ci y.2.1.2.1,ci y.2.1.2.2,ci y.2.2.1,ci y.2.2.2.1,ci y.2.2.2.2])
def L3:Ev.Spec:=fun _ args hp nm k=>match fJ hp bg args with
 |some (x,[],tc,b)=>match args with
  | .v (.agg [_,_,_,_,cl])::_=>ob b (vx.pre x/\ ∀y,y=vx.f x->k {val:= .v (.agg [ci y.1.1,ci y.1.2.1,ci y.1.2.2.1,ci y.1.2.2.2,cl,ci y.2.1.1,ci y.2.1.2.1,ci y.2.1.2.2,ci y.2.2.1,ci y.2.2.2.1,ci y.2.2.2.2]),aF:=tc})
  |_=>False
 |_=>False
def Gw:PCd:=fun args hp k=>match fJ hp bg args with
 |some (x,[],tc,b)=>ob b (vy.pre x/\ ∀y,y=vy.f x->k y)
 |_=>False
theorem aaW {r0:Env} {Q:oY.T->Prop} {v:AV} {st:AS} (h:acR r0 Q v st): ∃y:Wi.T,v=oV (.full 0) y/\ ai st.heap 1=some (.cg r0 1)/\ Q (false,y):=by
 unfold acR at h
 split at h
 ·obtain ⟨h1,h2⟩:=dy h
  exact ⟨_,rfl,h1,h2⟩
 ·exact h.elim
theorem Z6 {Q:oY.T->Prop} {st:AS} (h:acJ Q st): ∃c,bY st.tmps 13= .v (.one (.raw (.int .i64 c)))/\ Q (true,(c,0,0,0),(0,0,0),0,0,0):=by
 unfold acJ at h
 split at h
 ·rename_i c hc;exact ⟨c,hc,h⟩
 ·exact h.elim
theorem al2:Tryz.apb= {Tryz.f31 with body:=some (gC [2,4,6] (aC Tryz.f31))} :=by kernel_rfl
theorem L4 (x:bg.ty.T) (hp:qh x) (aW:Env) (w:World) (hst:St A6 w aW (· <1) (ai (da bg x)) w):
  Calls Tryz.prog 31 ((cy bg x).map (AV.ae aW)).toArray w fun e w'=>Fr A6 w w'/\ (((mK x).1=false/\ e= .returned ((oV (.full 0) (mK x).2).ae aW))\/ ((mK x).1=true/\ e= .panicked [ent 30 (mK x).2.1.1])):=by
 obtain ⟨lp,its,hi,hl,ha,z8⟩:=ajp x hp
 obtain ⟨wI,hold,xX⟩:=hst.pinned
 have hok: ∀a∈cy bg x,a.ok (· <1):=fun a ha=>by
  obtain ⟨b,hb,rfl⟩:=List.mem_map.1 ha
  have hl:(aY 0 0 bg x).2.length=1:=rfl
  exact A0.aT (fun m hm=>by have:=hm.2;rw [hl] at this;omega) b (jc 0 bg x 0 b hb)
 have z8:goE ⟨tt,oF,cf,lp,[],its⟩ Tryz.apb (cy bg x) (da bg x++ [.cg aW 1]) (acR aW (· =mK x)) (acJ (· =mK x)):=z8 aW
 have xX:St A6 w wI (· <2) (ai (da bg x++ [.cg aW 1])) w:=xX
 have hca:(cy bg x).map (AV.ae wI)=(cy bg x).map (AV.ae aW):=List.map_congr_left fun a ha=>AV.bu (Kn:=(· <1)) hold a (hok a ha)
 rw [<- hca]
 have tY:YL Tryz.prog ⟨tt,oF,cf,lp,[],its⟩ 30 (PnR 13) [2,4,6] (aC Tryz.f31):=hl.lpG (ctx:=⟨tt,oF,cf,lp,[],its⟩) (fun p hp=>hp) ha
 have hcd:=Gc al2 z8
 have Gf:e8 Tryz.prog ⟨tt,oF,cf,lp,[],its⟩:=⟨yZ,o9.nil _,hi⟩
 have hb0:Tryz.f31.body=some (aC Tryz.f31):=by kernel_rfl
 have Jk:Tryz.prog.funcs[31]? =some Tryz.f31:=by kernel_rfl
 have Gh:Ow (aC Tryz.f31)=true:=by kernel_rfl
 have Zn: ∀a∈cy bg x,a.ok (· <(da bg x++ [aD.cg aW 1]).length):=fun a ha=>AV.aT (fun i hi=>by show i<2;omega) a (hok a ha)
 have amG:St A6 w wI (· <(da bg x++ [aD.cg aW 1]).length) (ai (da bg x++ [aD.cg aW 1])) w:=xX
 clear z8 xX hl ha hi hca hok
 generalize da bg x++ [aD.cg aW 1]=hp1 at amG hcd Zn
 generalize Tryz.f31=fn at tY hcd hb0 Jk Gh
 generalize aC fn=c at tY hcd hb0 Gh
 generalize cy bg x=ar at hcd Zn ⊢
 have key:=ahb bt Gf mixed Jk hb0 Gh tY (cf.ok A6 w) rfl (fun k a w a' w' h=>by rw [h.2,put_defers]) hcd Zn amG
 refine key.mono ?_
 clear key hcd tY
 rintro e w' (⟨st,ρ',v,rfl,hv,hR,lB⟩|⟨k,w2,a,a2,st,ρ',rfl,hPn,hfr,hR,aQ⟩)
 ·obtain ⟨y,rfl,AO,hy⟩:=aaW hR
  have hy:(false,y)=mK x:=hy
  refine ⟨lB.fr,.inl ⟨by rw [<- hy],?_⟩⟩
  rw [<- hy]
  have e0:ρ' 0=aW 0:=(lB.at_ 1 _ AO).2 0 (by decide)
  simp only [oV,AV.ae,A0.ae,List.map_cons,List.map_nil,Cell.ae,e0]
 ·obtain ⟨c,hc,hy⟩:=Z6 hR
  have hy:(true,(c,0,0,0),(0,0,0),0,0,0)=mK x:=hy
  refine ⟨hfr,.inr ⟨by rw [<- hy],?_⟩⟩
  have h1:=aQ.aX.tmps 13 (by rw [hc];simp)
  rw [hc] at h1
  have hlt:13<a.tmps.size:=by
   have:=aQ.aX.size
   rw [hPn.2,oz] at this
   rw [this]
   refine Nat.lt_of_not_le fun hle=> ?_
   rw [rZ,List.getD,List.getElem?_eq_none hle] at hc
   cases hc
  rw [hPn.2,jz] at h1
  dsimp only at h1
  rw [if_pos ⟨rfl,hlt⟩] at h1
  have h1:Value.int .i64 k= .int .i64 c:=h1
  cases h1
  rw [<- hy]
theorem L5 {hp:HP} {args:List AV} {x:bg.ty.T} {tc:List Nat} (hd:fJ hp bg args=some (x,[],tc,true)) {av:fG} {W:World} {ρ:Env} {Kn:Nat->Prop} {Γ:HP} {w:World} (ht: ∀m∈tc,Γ m=hp m) (hst:St av W ρ Kn Γ w):
  ∃aW,St A6 w aW (· <1) (ai (da bg x)) w/\ (cy bg x).map (AV.ae aW)=args.map (AV.ae ρ):=by
 obtain ⟨as1,e,hargs⟩:=qa bg _ _ _ _ hd
 rw [List.append_nil] at e
 subst e
 obtain ⟨xs,hg,hc⟩:=hargs av W ρ Kn Γ w ht hst 0
 have hb:=St.begin hg
 have hcs:=hc (fun n=>xs.getD n {}) fun i y hy=>by simp [hy]
 exact ⟨_,hb,by rw [hcs];simp [cy,AV.ae,Function.comp_def]⟩
theorem Wl:aq Tryz.prog 31 L3:=by
 intro X args hp nm k hs
 unfold L3 at hs
 split at hs
 rotate_left
 ·exact hs.elim
 rename_i x tc b hd
 split at hs
 rotate_left
 ·exact hs.elim
 rename_i c1 c2 c3 c4 cl rest
 obtain ⟨rfl,hpre,hk⟩:=bh hs
 refine ⟨_,⟨fun p fh=>absurd fh (by simp),?_⟩,hk _ rfl⟩
 intro av W ρ Kn Γ w _ hok ht hfr hst
 obtain ⟨aW,hb,hca⟩:=L5 hd ht hst
 rw [<- hca]
 refine (L4 x hpre.1 aW w hb).mono ?_
 rintro e w' ⟨hF,⟨_,rfl⟩|⟨h1,_⟩⟩
 rotate_left
 ·rw [hpre.2] at h1;cases h1
 have VH:Cell.ae aW (.full 0)=cl.ae ρ:=by
  have h1:=congrArg (fun l=>l.head?) hca
  have h2:Value.agg #[_,_,_,_,Cell.ae aW (.full 0)]=Value.agg #[_,_,_,_,cl.ae ρ]:=Option.some.inj h1
  injection h2 with h3
  have h4:=congrArg (fun l=>l.getD 4 undef) h3
  exact h4
 refine ⟨ρ,?_,fun _ _=>rfl,?_,?_⟩
 ·show Ending.returned ((oV (.full 0) (mK x).2).ae aW)= .returned ((oV cl (mK x).2).ae ρ)
  congr 1
  simp only [oV,AV.ae,A0.ae,List.map_cons,List.map_nil,VH]
  rfl
 ·have hco:cl.ok Kn:=by
   have:=hok (.v (.agg [c1,c2,c3,c4,cl])) (by simp)
   exact this cl (by simp)
  intro c hc
  simp only [List.mem_cons,List.not_mem_nil,or_false] at hc
  rcases hc with rfl|rfl|rfl|rfl|rfl|rfl|rfl|rfl|rfl|rfl|rfl<;>first|trivial|exact Cell.aT (fun _=> .inl) _ hco
 ·rw [fS,qt];exact hst.called hF
theorem Aj:alq Tryz.prog 30 31 Gw:=by
 intro args hp k h
 unfold Gw at h
 split at h
 rotate_left
 ·exact h.elim
 rename_i x tc b hd
 obtain ⟨rfl,hpre,hk⟩:=bh h
 refine ⟨_,hk _ rfl,fun hc av W ρ Kn w hok hst=> ?_⟩
 obtain ⟨aW,hb,hca⟩:=L5 hd (fun _ _=>rfl) hst
 rw [<- hca]
 refine (L4 x hpre aW w hb).mono ?_
 have hc:oZ x≠0:=hc
 unfold oZ at hc
 rintro e w' ⟨hF,⟨h1,_⟩|⟨h1,rfl⟩⟩
 ·rw [h1] at hc;simp at hc
 ·refine ⟨?_,hF⟩
  show _=Ending.panicked [ent 30 (oZ x)]
  unfold oZ
  rw [if_pos h1]
def Is:List (Nat×Ev.Spec):=(31,L3)::oF
theorem q6:aj Tryz.prog Is:=aA (fn:=Tryz.f31) Wl yZ
def Vz (x:wC):aI:=⟨[],⟨cj 46 0 [(1,.v (.one (.ptr 0 0))),(5,.v (.one (.full 2))),(19,.v (.one (.full 3))),(20,.v (.one (.i .i64))),(21,.v (.one (.i .i64)))],[.cells [.i .i64,.i .i64,.i .i64,.i .i64,.full 1,.i .i64,.i .i64,.i .i64,.i .i64,.i .i64,.i .i64] 84,.row (Ty.prod yi (Ty.prod aG (Ty.prod aG dh))) 0,.row aG 2,.row dh 2],0,none,[],[2,3,4,5,6,7,8,9,10,11,12],[13,14,0,1],[(.l aG),(.l dh),.i,.i],[.i x.1.1,.i x.1.2.1,.i x.1.2.2.1,.i x.1.2.2.2.1,.i x.2.1.1,.i x.2.1.2.1,.i x.2.1.2.2,.i x.2.2.1,.i x.2.2.2.1,.i x.2.2.2.2,.l (Ty.prod yi (Ty.prod aG (Ty.prod aG dh))) x.1.2.2.2.2]⟩,[⟨(.exit 0),.normal,⟨cj 46 0 [(5,.v (.one (.full 0)))],[.row aG 2],0,none,[],[],[0],[(.l aG)],[]⟩⟩]⟩
def kL (x:wC) (s:(List I3×List I2×I2)):Tr ((List I3×List I2×I2)⊕(List I3)) true:=
 (.i10 (s.2.2.2<s.2.2.1)
 (.oR s.2.2.2 (s.2.1.length:Int)
 (.od (s.2.2.2.toNat<s.2.1.length)
 (.od (s.2.2.2.toNat<s.2.1.length)
 (.fn zR (x.2.2,(s.2.1.getD s.2.2.2.toNat uQ)) fun y=>
 (.fn kA y.2 fun aB=>
 (.fn tS (x.2.1,y.1,x.1.2.1) fun y_2=>
 (.od ((s.1.length+1)<1099511627776)
 (.ret (.inl ((s.1++ [y_2]),s.2.1,s.2.2.1,(au (s.2.2.2+1))))))))))))
 (.ret (.inr (s.1))))
abbrev kf (x:wC) (s:(List I3×List I2×I2)):(List I3×List I2×I2)⊕(List I3):=(kL x s).val
abbrev pE (x:wC) (s:(List I3×List I2×I2)):Prop:=(kL x s).pre
def Pm (x:wC):(List I3):=
 (ak (VI x.1.1) fun y=>
 (ak (Li y.2) fun aB=>
 (ak (run (kf x) ([],y.1,(y.1.length:Int),0)) fun r=>
 r)))
def tT (x:wC):Prop:=
 ((z7 x.1.1)/\
 az (VI x.1.1) fun y=>
 ((qe y.2)/\
 az (Li y.2) fun aB=>
 (Term (kf x) (pE x) ([],y.1,(y.1.length:Int),0))))
def amf (x:wC):Tr (List I3) true:=
 (.fn JK x.1.1 fun y=>
 (.fn kA y.2 fun aB=>
 (aI.lp (Vz x) (kL x) ([],y.1,(nL y.1),z0) fun r=>
 (.ret r))))
abbrev Dh:bF:=⟨(.agg (Ty.prod (Ty.prod yi (Ty.prod yi (Ty.prod yi (Ty.prod yi (Ty.sl (Ty.prod yi (Ty.prod aG (Ty.prod aG dh)))))))) (Ty.prod aG aG))),(.one (Ty.sl aG)),tT,Pm⟩
theorem ahR:aq Tryz.prog 39 (ah Dh):=bS Dh amf (fn:=Tryz.f39) q6 (aH.nil _ _) (fun x=>(bX q6 0 (Vz x) (kL x) aK.nil))
def mg:List (Nat×Ev.Spec):=(39,ah Dh)::Is
theorem jK:aj Tryz.prog mg:=aA (fn:=Tryz.f39) ahR q6
end Go.Proofs.YtngdehlpoomaiaaGreat
namespace Go.Ev
open Go.RowKit
def A5 (d:wT) (tl:Ty) (L:List d.tv.T) (T:List d.tb.T) (Lt:List tl.T) (u v q a b:Value):List aD:= [.cells (AU (.full 1) (.full 2) u v q a b) d.eC,.row d.tv L 0,.row d.tb T 2,.row tl Lt 0]
def ad9 (y0 y4 yR y5:Loc):Env:=fun i=>match i with
 |0=>y0
 |1=>y4
 |2=>yR
 |3=>y5
 |_=> {}
theorem xR {d:wT} {tl:Ty} {L:List d.tv.T} {T:List d.tb.T} {Lt:List tl.T} {u v q a b:Value} {n:Nat} {o:aD} (h:ai (A5 d tl L T Lt u v q a b) n=some o):
  (n=0/\ o= .cells (AU (.full 1) (.full 2) u v q a b) d.eC)\/ (n=1/\ o= .row d.tv L 0)\/ (n=2/\ o= .row d.tb T 2)\/ (n=3/\ o= .row tl Lt 0):=by
 have h:=oo h
 match n,h with
 |0,h=>exact .inl ⟨rfl,by cases h;rfl⟩
 |1,h=>exact .inr (.inl ⟨rfl,by cases h;rfl⟩)
 |2,h=>exact .inr (.inr (.inl ⟨rfl,by cases h;rfl⟩))
 |3,h=>exact .inr (.inr (.inr ⟨rfl,by cases h;rfl⟩))
 |n+4,h=>simp [A5] at h
section
variable {av:fG} {W:World} {ρ:Env} {Kn:Nat->Prop} {Γ:HP} {w:World}
theorem St.alF {d:wT} {tl:Ty} {L:List d.tv.T} {T:List d.tb.T} {Lt:List tl.T} {u v q a b:Value} {n:Nat} {rr:List Nat} {cL cT:Cell} {y4 yR y5:Loc} (h:St av W ρ Kn Γ w)
  (hC:Γ n=some (.cells (AU cL cT u v q a b) d.eC)) (hr: ∀r∈rr,(Γ r).isSome=true) (ja:(n::rr).Nodup)
  (h4:cK (fun b=>bj w b/\ ¬CS ρ (n::rr) b) w (.row d.tv L 0) y4) (h5:cK (fun b=>bj w b/\ ¬CS ρ (n::rr) b) w (.row tl Lt 0) y5)
  (hcL:cL.ae ρ= .slice y4.base y4.len y4.cap) (hcT:cT.ae ρ= .slice yR.base yR.len yR.cap)
  (hrow:bp (dV ρ Γ w) (uk av W) (fun _=>yR) 2 (.row d.tb T 2) w) (hyb: ∀b,yR.has b-> ∃r∈rr,(ρ r).has b) (hye:yR.jq= []):
  St {wr:=CS ρ (n::rr),nw:=fun b=>dV ρ Γ w b/\ uk av W b} w (ad9 (ρ n) y4 yR y5) (· <4) (ai (A5 d tl L T Lt u v q a b)) w:=by
 obtain ⟨aW,ep⟩: ∃aW,aW=ad9 (ρ n) y4 yR y5:=⟨_,rfl⟩
 rw [<- ep]
 have e0:aW 0=ρ n:=by rw [ep];rfl
 have e4:aW 1=y4:=by rw [ep];rfl
 have e2:aW 2=yR:=by rw [ep];rfl
 have e5:aW 3=y5:=by rw [ep];rfl
 have rQ: ∀m∈(n::rr),(Γ m).isSome=true:=fun m hm=>by
  rcases List.mem_cons.1 hm with rfl|hm
  ·rw [hC];rfl
  ·exact hr m hm
 have dS: ∀m b',(ai (A5 d tl L T Lt u v q a b) m).isSome=true->(aW m).has b'->(m=0/\ (ρ n).has b')\/ (m=2/\ ∃r∈rr,(ρ r).has b'):=fun m b' hs hb=>by
  obtain ⟨o,ho⟩:=Option.isSome_iff_exists.1 hs
  rcases xR ho with ⟨rfl,_⟩|⟨rfl,_⟩|⟨rfl,_⟩|⟨rfl,_⟩
  ·rw [e0] at hb;exact .inl ⟨rfl,hb⟩
  ·rw [e4] at hb;exact (ot h4.2.1 hb).elim
  ·rw [e2] at hb;exact .inr ⟨rfl,hyb b' hb⟩
  ·rw [e5] at hb;exact (ot h5.2.1 hb).elim
 have hwr: ∀m b',(ai (A5 d tl L T Lt u v q a b) m).isSome=true->(aW m).has b'->CS ρ (n::rr) b':=fun m b' hs hb=>by
  rcases dS m b' hs hb with ⟨_,k⟩|⟨_,r,k1,k2⟩
  ·exact ⟨n,by simp,k⟩
  ·exact ⟨r,by simp [k1],k2⟩
 have xU: ∀b',¬HI (ai (A5 d tl L T Lt u v q a b)) b':=fun b' ⟨m,S,k,_⟩=>by
  rcases xR k with ⟨_,e⟩|⟨_,e⟩|⟨_,e⟩|⟨_,e⟩<;>cases e
 have Om: ∀b',(bj w b'/\ ¬CS ρ (n::rr) b')->dV aW (ai (A5 d tl L T Lt u v q a b)) w b':=fun b' hb=>⟨hb.1,by
  rintro (⟨m,k1,k2⟩|k)
  ·exact hb.2 (hwr m b' k1 k2)
  ·exact xU b' k⟩
 have hfz: ∀b',dV ρ Γ w b'->dV aW (ai (A5 d tl L T Lt u v q a b)) w b':=fun b' hb=>Om b' ⟨hb.1,fun ⟨m,k1,k2⟩=>hb.2 (.inl ⟨m,rQ m k1,k2⟩)⟩
 simp only [List.nodup_cons] at ja
 refine ⟨Fr.refl _ _,fun m o ho=> ?_,fun m o ho=> ?_,fun m m' b' mD Lx gy dR=> ?_,fun m b' mD gy=> .inr (hwr m b' mD gy),fun b' hb=>absurd hb (xU b'),fun m o ho=> ?_⟩
 rotate_right
 ·rcases xR ho with ⟨rfl,rfl⟩|⟨rfl,rfl⟩|⟨rfl,rfl⟩|⟨rfl,rfl⟩
  ·exact .inr (by rw [e0];exact (h.wK _ _ hC).elim (fun ⟨_,e⟩=>by cases e) id)
  ·exact .inr (by rw [e4];exact h4.2.1.2)
  ·exact .inr (by rw [e2];exact hye)
  ·exact .inr (by rw [e5];exact h5.2.1.2)
 ·rcases xR ho with ⟨rfl,rfl⟩|⟨rfl,rfl⟩|⟨rfl,rfl⟩|⟨rfl,rfl⟩
  ·obtain ⟨b1,g1,g2⟩:=h.at_ n _ hC
   refine ⟨b1,by rw [e0];exact g1,?_⟩
   rw [g2,KR (ρ:=ρ) (ρ':=aW) (cL:=cL) (cT:=cT) (by rw [hcL];simp [Cell.ae,e4]) (by rw [hcT];simp [Cell.ae,e2])]
  ·exact n6 (by rw [e4];exact h4) Om
  ·obtain ⟨g1,g2,g3,sub,g4,g5,g6,g7⟩:=hrow
   rw [bp,e2]
   exact ⟨g1,g2,g3,sub,fun i v hv=>by
    obtain ⟨a,k1,k2,_⟩:=g4 i v hv
    exact ⟨a,k1,k2,fun h=>by cases h⟩,fun q u' l' hq=>(g5 q u' l' hq).weak fun b hb=>⟨hfz b hb.1,fun _=>⟨.inr (.inr ⟨hb.1,(hb.2 rfl).1⟩),(hb.2 rfl).2⟩⟩,fun h=>(by cases h),g7⟩
  ·exact n6 (by rw [e5];exact h5) Om
 ·rcases xR ho with ⟨rfl,rfl⟩|⟨rfl,rfl⟩|⟨rfl,rfl⟩|⟨rfl,rfl⟩
  ·refine ⟨by decide,fun c hc=> ?_⟩
   simp only [AU,List.mem_cons,List.not_mem_nil,or_false] at hc
   rcases hc with rfl|rfl|rfl|rfl|rfl|rfl|rfl<;>first|trivial|(show _<4;decide)
  ·exact ⟨by decide,trivial⟩
  ·exact ⟨by decide,trivial⟩
  ·exact ⟨by decide,trivial⟩
 ·have hmem: ∀r,r∈rr→(ρ n).has b'→(ρ r).has b'→n∈rr:=fun r hr' k k'=>by
   have:=h.dU n r b' (rQ n (by simp)) (hr r hr') k k'
   rw [this];exact hr'
  rcases dS m b' mD gy with ⟨rfl,k⟩|⟨rfl,r,k1,k⟩
  ·rcases dS m' b' Lx dR with ⟨rfl,k'⟩|⟨rfl,r',k1',k'⟩
   ·rfl
   ·exact absurd (hmem r' k1' k k') ja.1
  ·rcases dS m' b' Lx dR with ⟨rfl,k'⟩|⟨rfl,r',k1',k'⟩
   ·exact absurd (hmem r k1 k' k) ja.1
   ·rfl
def aoH (d:wT) (val:AV) (u q a b:Value) (z:List d.tb.T) (v:AV) (st:AS):Prop:= ∃m,v=val/\ ai st.heap 0=some (.cells (AU (.full 1) (.full m) u (.int .i32 0) q a b) d.eC)/\ ai st.heap m=some (.row d.tb z 2)
variable {P:Program}
theorem rA.avk {f:FuncId} {d:wT} {tl:Ty} {X:Addr->Value->Prop} {hp:HP} {nm n:Nat} {cL cT cl:Cell} {u u' q a b a' b':Value} {T z:List d.tb.T} {L:List d.tv.T} {Lt:List tl.T} {rr tc w7:List Nat} {A:Cell->Cell->List AV} {val:AV}
  (hC1:hp n=some (.cells (AU cL cT u (.int .i32 0) q a b) d.eC)) (UF:yN hp d.tb cT=some (T,rr)) (JJ:fJ hp (.one (.sl d.tv)) [.v (.one cL)]=some (L,[],tc,true)) (hd3:fJ hp (.one (.sl tl)) [.v (.one cl)]=some (Lt,[],w7,true)) (ja:eV (n::rr)=true) (FM:ry tc (n::rr)=true) (aid:ry w7 (n::rr)=true)
  (hA: ∀p c p' c' ρ ρ',p.ae ρ=p'.ae ρ'->c.ae ρ=c'.ae ρ'->(A p c).map (AV.ae ρ)=(A p' c').map (AV.ae ρ')) (hval:(∀ρ ρ',val.ae ρ=val.ae ρ')/\ ∀Kn,val.ok Kn)
  (xL: ∀av W aW w,av.bd= []->St av W aW (· <4) (ai (A5 d tl L T Lt u (.int .i32 0) q a b)) w->Calls P f ((A (.ptr 0 0) (.full 3)).map (AV.ae aW)).toArray w fun e w'=> ∃st aR v,e= .returned (v.ae aR)/\ aoH d val u' q a' b' z v st/\ (aR 0=aW 0/\ aR 1=aW 1)/\ St av W aR (· <st.heap.length) (ai st.heap) w'):
  rA P f X (A (.ptr n 0) cl) hp nm {val:=val,fresh:= [.row d.tb z 2],writes:=(n,.cells (AU cL (.full nm) u' (.int .i32 0) q a' b') d.eC)::rr.map fun r=>(r,.gone),aF:=(n::rr)++(tc++w7)} :=by
 have ja:=fq ja
 have FM:=qc FM
 have aid:=qc aid
 obtain ⟨hrs,VQ⟩:=Cw UF
 refine ⟨fun p fh=> ?_,?_⟩
 ·rcases List.mem_cons.1 fh with rfl|fh
  ·rw [hC1];exact fun h=>by cases h
  ·obtain ⟨q,hq,rfl⟩:=List.mem_map.1 fh
   have:=hrs q hq
   intro h
   dsimp only at h
   rw [h] at this;cases this
 intro av W ρ Kn Γ w _ _ ht hfr hst
 have hin: ∀m∈(n::rr),Γ m=hp m:=fun m hn=>ht m (List.mem_append.2 (.inl hn))
 have Zv:Γ n=some (.cells (AU cL cT u (.int .i32 0) q a b) d.eC):=by rw [hin n (by simp)];exact hC1
 have VP: ∀r∈rr,(Γ r).isSome=true:=fun r hr=>by rw [hin r (by simp [hr])];exact hrs r hr
 have rQ: ∀m∈(n::rr),(Γ m).isSome=true:=fun m hm=>by
  rcases List.mem_cons.1 hm with rfl|hm
  ·rw [Zv];rfl
  ·exact VP m hm
 have hok: ∀tc,(∀m∈tc,m∉n::rr)->nV (fun b=>bj w b/\ ¬CS ρ (n::rr) b) ρ Γ w tc:=by
  intro tc FM
  refine ⟨fun b hb=>⟨hb.1,fun ⟨n,n1,n2⟩=>hb.2 (.inl ⟨n,rQ n n1,n2⟩)⟩,fun m hm hs b hb hc=>⟨hc,fun ⟨n',n1,n2⟩=> ?_⟩⟩
  have:=hst.dU m n' b hs (rQ n' n1) hb n2
  exact FM m hm (this▸n1)
 obtain ⟨y4,g4,c4⟩:=uD JJ (fun m hm=>ht m (by simp [hm])) hst (hok tc FM)
 obtain ⟨y5,g5,c5⟩:=uD hd3 (fun m hm=>ht m (by simp [hm])) hst (hok w7 aid)
 obtain ⟨yR,cR,gR,eR,bR⟩:=VQ hst fun r hr=>hin r (by simp [hr])
 have c4:cL.ae ρ= .slice y4.base y4.len y4.cap:=c4
 have c5:cl.ae ρ= .slice y5.base y5.len y5.cap:=c5
 have hb:=St.alF (d:=d) (L:=L) (T:=T) (Lt:=Lt) hst Zv VP ja g4 g5 c4 cR gR bR eR
 obtain ⟨aW,ep⟩: ∃aW,aW=ad9 (ρ n) y4 yR y5:=⟨_,rfl⟩
 rw [<- ep] at hb
 have key:=xL _ _ aW w rfl hb
 rw [hA (.ptr 0 0) (.full 3) (.ptr n 0) cl aW ρ (by simp only [Cell.ae,addrOf,ep,ad9]) (by rw [c5];simp only [Cell.ae,ep,ad9])] at key
 refine key.mono ?_
 rintro e w' ⟨st,aR,v',rfl,hR,hpe,pF⟩
 obtain ⟨m,rfl,k1,km⟩:=hR
 have e1:aR 0=ρ n:=by rw [hpe.1,ep];rfl
 have e4:Cell.ae aR (.full 1)=cL.ae ρ:=by
  rw [c4]
  simp only [Cell.ae,hpe.2,ep,ad9]
 obtain ⟨ρ',r1,r3,r2⟩:=St.ary (nm:=nm) (tc:=(n::rr)++(tc++w7)) (val:=v') hst Zv VP ja (hfr 0 (by simp)) pF k1 km e1 e4
 exact ⟨ρ',by rw [hval.1 aR ρ'],r1,hval.2 _,r2⟩
end
def ON {τ:Type} (d:wT) (rd:AV->Option τ) (Q:τ×(List d.tb.T×Int×Int×Int)->Prop) (v:AV) (st:AS):Prop:=match rd v with
 |some y=>match ai st.heap 0 with
  |some (.cells [.full k,.raw (.int .u32 u),.raw (.int .i32 s),.raw (.int .u32 q),.full m,.raw (.int .i64 a),.raw (.int .i64 b)] e)=>match ai st.heap m with
   |some (.row t l rk)=>match jm t d.tb l with
    |some z=>ob (decide (k=1)&&(decide (s=0)&&(decide (e=d.eC)&&(decide (rk=2)&&decide (q=0))))) (Q (y,z,u,a,b))
    |none=>False
   |_=>False
  |_=>False
 |none=>False
theorem QD {τ:Type} {d:wT} {rd:AV->Option τ} {Q:τ×(List d.tb.T×Int×Int×Int)->Prop} {v:AV} {st:AS} (h:ON d rd Q v st) {val:τ->AV} (hrd: ∀v y,rd v=some y->v=val y):
  ∃y z u a b,Q (y,z,u,a,b)/\ aoH d (val y) (.int .u32 u) (.int .u32 0) (.int .i64 a) (.int .i64 b) z v st:=by
 unfold ON at h
 split at h
 rotate_left
 ·exact h.elim
 rename_i y hy
 split at h
 rotate_left
 ·exact h.elim
 rename_i h1
 split at h
 rotate_left
 ·exact h.elim
 rename_i h2
 split at h
 rotate_left
 ·exact h.elim
 rename_i z hz
 obtain ⟨hb,hq⟩:=bh h
 simp only [Bool.and_eq_true,decide_eq_true_eq] at hb
 obtain ⟨rfl,rfl,rfl,rfl,rfl⟩:=hb
 obtain ⟨e1,e2⟩:=cr hz
 subst e1
 dsimp only at e2
 subst e2
 exact ⟨_,_,_,_,_,hq,_,hrd _ _ hy,h1,h2⟩
end Go.Ev
