/- gather.Start, gather.Ends, gather.Value: their contracts. -/
import Derived.Test.YtngdehlpoomaiaaGreatLj
noncomputable section
set_option linter.unusedSectionVars false
set_option linter.unusedVariables false
set_option linter.unusedSimpArgs false
namespace Go.Proofs.YtngdehlpoomaiaaGreat
open Go Go.Ev Go.Proofs
theorem adv:Tryz.agM= {Tryz.f12 with body:=some (gC [2] (bp Tryz.f12))} :=by kernel_rfl
theorem XE:JK 29 33 8 7 6 (pY (opsOf 1 (aD Tryz.f12)) 0) (pY (opsOf 1 (aD Tryz.f12)) 1):=⟨⟨by kernel_rfl,by kernel_rfl,by kernel_rfl⟩,by kernel_rfl,by kernel_rfl,⟨#[82,1],by kernel_rfl⟩⟩
theorem SS:Tryz.f12.body=some (.seq (.region 0 (opsOf 0 (aD Tryz.f12)) false) (.seq (.region 1 #[pY (opsOf 1 (aD Tryz.f12)) 0,pY (opsOf 1 (aD Tryz.f12)) 1] false) (bp Tryz.f12))):=by kernel_rfl
theorem abQ (x:aZ.ty.T) (lp:List (Nat×bw)) (its:List (Nat×cD)) (ρ:Env) (K:AS->Prop):iV ⟨tt,bA,cf,lp,[],its⟩ (opsOf 0 (aD Tryz.f12)) false ⟨cq aZ x++List.replicate (Tryz.f12.ntmps- (cq aZ x).length) bU,cH x++ [.bT ρ (cH x).length]⟩ K=K ⟨T1 x,cH x++ .bT ρ (cH x).length::Hz x⟩:=by kernel_rfl
theorem LB {x:aZ.ty.T} : ∀a∈cq aZ x,a.ok (· <(cH x).length):=fun a ha=>by
 obtain ⟨b,hb,rfl⟩:=List.mem_map.1 ha
 have hl:(aW 0 0 aZ x).2.length=1:=rfl
 exact A0.aR (fun m hm=>by have:=hm.2;rw [hl] at this;show m<1;omega) b (gW 0 aZ x 0 b hb)
theorem Qx (x:aZ.ty.T) (hp:sW x) (aV:Env) (w:World) (hst:St xw w aV (· <(c9 aZ x).length) (aj (c9 aZ x)) w):
  Calls Tryz.prog 12 ((cq aZ x).map (AV.ae aV)).toArray w fun e w'=> ∃st aQ v,e= .returned (v.ae aQ)/\ v.ok (· <st.heap.length)/\ lE vK (· =yJ x) v st/\ St xw w aQ (· <st.heap.length) (aj st.heap) w':=by
 obtain ⟨lp,its,hi,hl,ha,wz⟩:=XA x hp
 have qV:Q8 Tryz.prog ⟨tt,bA,cf,lp,[],its⟩ 30 (Np Tryz.prog (qv 7 6 27 zV3)) [2] (bp Tryz.f12):=hl.lpG (ctx:=⟨tt,bA,cf,lp,[],its⟩) (fun p hp=>hp) ha
 have wz: ∀r0,goE ⟨tt,bA,cf,lp,[],its⟩ Tryz.agM ((T1 x).set 8 .dead) (cH x++ .gone::Hz x++ [.bT r0 7]) (yp 7 r0 (lE vK (· =yJ x))) (z4 7 7 6 6 5 r0 fun st=>oK kY Tryz.f12 st (lE vK (· =yJ x))):=wz
 have L5:Tryz.f12.ntmps=14:=by kernel_rfl
 have hcd:=fun r0=>BI adv (wz r0)
 have DD:=fun ρ=>(abQ x lp its ρ (fun st=>st=⟨T1 x,cH x++ .bT ρ (cH x).length::Hz x⟩)).mpr rfl
 have DB:Tryz.prog.funcs[12]? =some Tryz.f12:=by kernel_rfl
 have BN:II (bp Tryz.f12)=true:=by kernel_rfl
 have BL:eB Tryz.prog ⟨tt,bA,cf,lp,[],its⟩:=⟨eV,mU.nil _,hi⟩
 have hb0:=SS
 have Ig:=XE
 clear wz hl ha hi
 revert Ig hb0 BL BN DB DD hcd L5 qV
 generalize pY (opsOf 1 (aD Tryz.f12)) 0=o1
 generalize pY (opsOf 1 (aD Tryz.f12)) 1=o2
 generalize opsOf 0 (aD Tryz.f12)=So
 generalize bp Tryz.f12=rest
 generalize Tryz.f12=fn
 intro qV L5 hcd DD DB BN BL hb0 Ig
 refine (EZ (H:=cH x) (B:=Hz x) (T0:=T1 x) (np:=7) (ne:=6) (ns:=5) (R:=lE vK (· =yJ x)) (LR:=kY) (fm:= {fn with body:=some (gC [2] rest)}) aA BL rfl mixed DB hb0 Ig ⟨by decide,by decide⟩ adb BN qV rfl aA rfl (fun ρ=>rfl) rfl (by show 8<14;decide) ⟨by decide,by decide⟩ rfl rfl DD rfl (fun r0=> ?_) LB hst).mono ?_
 ·have:=hcd r0
  rw [L5] at this
  exact this
 ·rintro e w' ⟨st,ρ',v,h1,h2,h3,h4,h5⟩
  exact ⟨st,ρ',v,h1,h2,h3,h5⟩
theorem ade:vR 38 46 BW:=Rh (fn:=Tryz.f38) (o:=pY (opsOf 0 (aD Tryz.f38)) 0) (bS.of (fn:=Tryz.f38) (by kernel_rfl) (by kernel_rfl) (by kernel_rfl)) (by kernel_rfl) (by kernel_rfl) (by kernel_rfl) ⟨by kernel_rfl,by kernel_rfl⟩
theorem TA:vR 30 3 (.int .i64 0):=Rh (fn:=Tryz.f30) (o:=pY (opsOf 0 (aD Tryz.f30)) 0) (bS.of (fn:=Tryz.f30) (by kernel_rfl) (by kernel_rfl) (by kernel_rfl)) (by kernel_rfl) (by kernel_rfl) (by kernel_rfl) ⟨by kernel_rfl,by kernel_rfl⟩
theorem adw:Tryz.agN= {Tryz.f15 with body:=some (gC [2] (bp Tryz.f15))} :=by kernel_rfl
theorem Y7:JK 29 38 8 7 6 (pY (opsOf 1 (aD Tryz.f15)) 0) (pY (opsOf 1 (aD Tryz.f15)) 1):=⟨⟨by kernel_rfl,by kernel_rfl,by kernel_rfl⟩,by kernel_rfl,by kernel_rfl,⟨#[82,1],by kernel_rfl⟩⟩
theorem VR:Tryz.f15.body=some (.seq (.region 0 (opsOf 0 (aD Tryz.f15)) false) (.seq (.region 1 #[pY (opsOf 1 (aD Tryz.f15)) 0,pY (opsOf 1 (aD Tryz.f15)) 1] false) (bp Tryz.f15))):=by kernel_rfl
theorem ads (x:aZ.ty.T) (lp:List (Nat×bw)) (its:List (Nat×cD)) (ρ:Env) (K:AS->Prop):iV ⟨tt,bA,cf,lp,[],its⟩ (opsOf 0 (aD Tryz.f15)) false ⟨cq aZ x++List.replicate (Tryz.f15.ntmps- (cq aZ x).length) bU,cH x++ [.bT ρ (cH x).length]⟩ K=K ⟨T1 x,cH x++ .bT ρ (cH x).length::N6 x⟩:=by kernel_rfl
theorem Ro (x:aZ.ty.T) (hp:BD x) (aV:Env) (w:World) (hst:St xw w aV (· <(c9 aZ x).length) (aj (c9 aZ x)) w):
  Calls Tryz.prog 15 ((cq aZ x).map (AV.ae aV)).toArray w fun e w'=> ∃st aQ v,e= .returned (v.ae aQ)/\ v.ok (· <st.heap.length)/\ lE Cw (· =Jk x) v st/\ St xw w aQ (· <st.heap.length) (aj st.heap) w':=by
 obtain ⟨lp,its,hi,hl,ha,wz⟩:=Y4 x hp
 have qV:Q8 Tryz.prog ⟨tt,bA,cf,lp,[],its⟩ 30 (Np Tryz.prog (qv 7 6 46 BW)) [2] (bp Tryz.f15):=hl.lpG (ctx:=⟨tt,bA,cf,lp,[],its⟩) (fun p hp=>hp) ha
 have wz: ∀r0,goE ⟨tt,bA,cf,lp,[],its⟩ Tryz.agN ((T1 x).set 8 .dead) (cH x++ .gone::N6 x++ [.bT r0 7]) (yp 7 r0 (lE Cw (· =Jk x))) (z4 7 7 6 6 5 r0 fun st=>oK kY Tryz.f15 st (lE Cw (· =Jk x))):=wz
 have L5:Tryz.f15.ntmps=14:=by kernel_rfl
 have hcd:=fun r0=>BI adw (wz r0)
 have DD:=fun ρ=>(ads x lp its ρ (fun st=>st=⟨T1 x,cH x++ .bT ρ (cH x).length::N6 x⟩)).mpr rfl
 have DB:Tryz.prog.funcs[15]? =some Tryz.f15:=by kernel_rfl
 have BN:II (bp Tryz.f15)=true:=by kernel_rfl
 have BL:eB Tryz.prog ⟨tt,bA,cf,lp,[],its⟩:=⟨eV,mU.nil _,hi⟩
 have hb0:=VR
 have Ig:=Y7
 clear wz hl ha hi
 revert Ig hb0 BL BN DB DD hcd L5 qV
 generalize pY (opsOf 1 (aD Tryz.f15)) 0=o1
 generalize pY (opsOf 1 (aD Tryz.f15)) 1=o2
 generalize opsOf 0 (aD Tryz.f15)=So
 generalize bp Tryz.f15=rest
 generalize Tryz.f15=fn
 intro qV L5 hcd DD DB BN BL hb0 Ig
 refine (EZ (H:=cH x) (B:=N6 x) (T0:=T1 x) (np:=7) (ne:=6) (ns:=5) (R:=lE Cw (· =Jk x)) (LR:=kY) (fm:= {fn with body:=some (gC [2] rest)}) aA BL rfl mixed DB hb0 Ig ⟨by decide,by decide⟩ ade BN qV rfl aA rfl (fun ρ=>rfl) rfl (by show 8<14;decide) ⟨by decide,by decide⟩ rfl rfl DD rfl (fun r0=> ?_) LB hst).mono ?_
 ·have:=hcd r0
  rw [L5] at this
  exact this
 ·rintro e w' ⟨st,ρ',v,h1,h2,h3,h4,h5⟩
  exact ⟨st,ρ',v,h1,h2,h3,h5⟩
theorem TJ:Tryz.Zb= {Tryz.f11 with body:=some (gC [2,4] (bp Tryz.f11))} :=by kernel_rfl
theorem Vj:JK 29 30 11 9 8 (pY (opsOf 1 (aD Tryz.f11)) 0) (pY (opsOf 1 (aD Tryz.f11)) 1):=⟨⟨by kernel_rfl,by kernel_rfl,by kernel_rfl⟩,by kernel_rfl,by kernel_rfl,⟨#[82,1],by kernel_rfl⟩⟩
theorem QD:Tryz.f11.body=some (.seq (.region 0 (opsOf 0 (aD Tryz.f11)) false) (.seq (.region 1 #[pY (opsOf 1 (aD Tryz.f11)) 0,pY (opsOf 1 (aD Tryz.f11)) 1] false) (bp Tryz.f11))):=by kernel_rfl
def I4 (x:aZ.ty.T):List AV:= .v (.one (.raw (.pointer none)))::cq aZ x
theorem Yx {x:aZ.ty.T} : ∀a∈I4 x,a.ok (· <(cH x).length):=fun a ha=>by
 rcases List.mem_cons.1 ha with rfl|ha
 ·trivial
 ·exact LB a ha
theorem aff (x:aZ.ty.T) (lp:List (Nat×bw)) (its:List (Nat×cD)) (ρ:Env) (K:AS->Prop):iV ⟨tt,bA,cf,lp,[],its⟩ (opsOf 0 (aD Tryz.f11)) false ⟨I4 x++List.replicate (Tryz.f11.ntmps- (I4 x).length) bU,cH x++ [.bT ρ (cH x).length]⟩ K=K ⟨T2 (.v (.one (.raw (.pointer none)))) (.full 0) (BX x) 2,cH x++ .bT ρ (cH x).length::boxes (.full 0) (BX x) (.cells [ci 0] 3)⟩:=by kernel_rfl
theorem S1 (x:aZ.ty.T) (hp:yX x) (aV:Env) (w:World) (hst:St xw w aV (· <(c9 aZ x).length) (aj (c9 aZ x)) w):
  Calls Tryz.prog 11 ((I4 x).map (AV.ae aV)).toArray w fun e w'=> ∃st aQ v,e= .returned (v.ae aQ)/\ v.ok (· <st.heap.length)/\ rdQ B2 (· =Nt x) v st/\ St xw w aQ (· <st.heap.length) (aj st.heap) w':=by
 obtain ⟨lp,its,hi,hl,ha,wz⟩:=acW x hp
 have qV:Q8 Tryz.prog ⟨tt,bA,cf,lp,[],its⟩ 30 (Np Tryz.prog (qv 9 8 3 (.int .i64 0))) [2,4] (bp Tryz.f11):=hl.lpG (ctx:=⟨tt,bA,cf,lp,[],its⟩) (fun p hp=>hp) ha
 have wz: ∀r0,goE ⟨tt,bA,cf,lp,[],its⟩ Tryz.Zb ((T2 (.v (.one (.raw (.pointer none)))) (.full 0) (BX x) 2).set 11 .dead) (cH x++ .gone::boxes (.full 0) (BX x) (.cells [ci 0] 3)++ [.bT r0 7]) (yp 7 r0 (rdQ B2 (· =Nt x))) (z4 7 9 8 6 5 r0 fun st=>oK kY Tryz.f11 st (rdQ B2 (· =Nt x))):=wz
 have L5:Tryz.f11.ntmps=23:=by kernel_rfl
 have hcd:=fun r0=>BI TJ (wz r0)
 have DD:=fun ρ=>(aff x lp its ρ (fun st=>st=⟨T2 (.v (.one (.raw (.pointer none)))) (.full 0) (BX x) 2,cH x++ .bT ρ (cH x).length::boxes (.full 0) (BX x) (.cells [ci 0] 3)⟩)).mpr rfl
 have DB:Tryz.prog.funcs[11]? =some Tryz.f11:=by kernel_rfl
 have BN:II (bp Tryz.f11)=true:=by kernel_rfl
 have BL:eB Tryz.prog ⟨tt,bA,cf,lp,[],its⟩:=⟨eV,mU.nil _,hi⟩
 have hb0:=QD
 have Ig:=Vj
 clear wz hl ha hi
 revert Ig hb0 BL BN DB DD hcd L5 qV
 generalize pY (opsOf 1 (aD Tryz.f11)) 0=o1
 generalize pY (opsOf 1 (aD Tryz.f11)) 1=o2
 generalize opsOf 0 (aD Tryz.f11)=So
 generalize bp Tryz.f11=rest
 generalize Tryz.f11=fn
 intro qV L5 hcd DD DB BN BL hb0 Ig
 refine (EZ (H:=cH x) (B:=boxes (.full 0) (BX x) (.cells [ci 0] 3)) (T0:=T2 (.v (.one (.raw (.pointer none)))) (.full 0) (BX x) 2) (np:=7) (ne:=6) (ns:=5) (R:=rdQ B2 (· =Nt x)) (LR:=kY) (fm:= {fn with body:=some (gC [2,4] rest)}) aA BL rfl mixed DB hb0 Ig ⟨by decide,by decide⟩ TA BN qV rfl aA rfl (fun ρ=>rfl) rfl (by show 11<23;decide) ⟨by decide,by decide⟩ rfl rfl DD rfl (fun r0=> ?_) Yx hst).mono ?_
 ·have:=hcd r0
  rw [L5] at this
  exact this
 ·rintro e w' ⟨st,ρ',v,h1,h2,h3,h4,h5⟩
  exact ⟨st,ρ',v,h1,h2,h3,h5⟩
def I1 (x:vN.T):List AV:=pt 0::WB (.full 3) x.2.2.2.2
theorem Yw {x:vN.T} : ∀a∈I1 x,a.ok (· <(jF x).length):=fun a ha=>by
 simp only [I1,WB,List.mem_cons,List.not_mem_nil,or_false] at ha
 rcases ha with rfl|rfl|rfl|rfl
 ·show 0<4;decide
 all_goals
  intro c hc
  simp only [List.mem_cons,List.not_mem_nil,or_false] at hc
 ·rcases hc with rfl|rfl|rfl|rfl|rfl<;>first|trivial|(show _<4;decide)
 ·rcases hc with rfl|rfl|rfl<;>trivial
 ·rcases hc with rfl|rfl|rfl<;>trivial
theorem Ux: ∀v y,B2 v=some y->v= .nC [.one (.raw (.int .i64 y.1)),.one (.raw (.int .i64 y.2))]:=by
 intro v y h
 unfold B2 at h
 split at h
 ·cases h;rfl
 ·cases h
theorem ah9 (x:vN.T) (lp:List (Nat×bw)) (its:List (Nat×cD)) (ρ:Env) (K:AS->Prop):iV ⟨tt,bA,cf,lp,[],its⟩ (opsOf 0 (aD Tryz.f11)) false ⟨I1 x++List.replicate (Tryz.f11.ntmps- (I1 x).length) bU,jF x++ [.bT ρ (jF x).length]⟩ K=K ⟨T2 (pt 0) (.full 3) x.2.2.2.2 5,jF x++ .bT ρ (jF x).length::boxes (.full 3) x.2.2.2.2 (.cells [ci 0] 3)⟩:=by kernel_rfl
theorem XK (x:vN.T) (hp:tL x) (au:eW) (W:World) (aV:Env) (w:World) (hbd:au.bd= []) (hst:St au W aV (· <4) (aj (jF x)) w):
  Calls Tryz.prog 11 ((I1 x).map (AV.ae aV)).toArray w (Yb (r:= .prod da da) (fun y=> .nC [.one (.raw (.int .i64 y.1)),.one (.raw (.int .i64 y.2))]) (Lu x) au W aV):=by
 obtain ⟨lp,its,hi,hl,ha,wz⟩:=acV x hp
 have qV:Q8 Tryz.prog ⟨tt,bA,cf,lp,[],its⟩ 30 (Np Tryz.prog (qv 9 8 3 (.int .i64 0))) [2,4] (bp Tryz.f11):=hl.lpG (ctx:=⟨tt,bA,cf,lp,[],its⟩) (fun p hp=>hp) ha
 have wz: ∀r0,goE ⟨tt,bA,cf,lp,[],its⟩ Tryz.Zb ((T2 (pt 0) (.full 3) x.2.2.2.2 5).set 11 .dead) (jF x++ .gone::boxes (.full 3) x.2.2.2.2 (.cells [ci 0] 3)++ [.bT r0 10]) (yp 10 r0 (IN dW B2 (· =Lu x))) (z4 10 9 8 9 8 r0 fun st=>oK kY Tryz.f11 st (IN dW B2 (· =Lu x))):=wz
 have L5:Tryz.f11.ntmps=23:=by kernel_rfl
 have hcd:=fun r0=>BI TJ (wz r0)
 have DD:=fun ρ=>(ah9 x lp its ρ (fun st=>st=⟨T2 (pt 0) (.full 3) x.2.2.2.2 5,jF x++ .bT ρ (jF x).length::boxes (.full 3) x.2.2.2.2 (.cells [ci 0] 3)⟩)).mpr rfl
 have DB:Tryz.prog.funcs[11]? =some Tryz.f11:=by kernel_rfl
 have BN:II (bp Tryz.f11)=true:=by kernel_rfl
 have BL:eB Tryz.prog ⟨tt,bA,cf,lp,[],its⟩:=⟨eV,mU.nil _,hi⟩
 have hb0:=QD
 have Ig:=Vj
 clear wz hl ha hi
 revert Ig hb0 BL BN DB DD hcd L5 qV
 generalize pY (opsOf 1 (aD Tryz.f11)) 0=o1
 generalize pY (opsOf 1 (aD Tryz.f11)) 1=o2
 generalize opsOf 0 (aD Tryz.f11)=So
 generalize bp Tryz.f11=rest
 generalize Tryz.f11=fn
 intro qV L5 hcd DD DB BN BL hb0 Ig
 refine (EZ (H:=jF x) (B:=boxes (.full 3) x.2.2.2.2 (.cells [ci 0] 3)) (T0:=T2 (pt 0) (.full 3) x.2.2.2.2 5) (np:=10) (ne:=9) (ns:=8) (R:=IN dW B2 (· =Lu x)) (LR:=kY) (fm:= {fn with body:=some (gC [2,4] rest)}) aA BL rfl mixed DB hb0 Ig ⟨by decide,by decide⟩ TA BN qV hbd aA rfl (fun ρ=>rfl) rfl (by show 11<23;decide) ⟨by decide,by decide⟩ rfl rfl DD rfl (fun r0=> ?_) Yw hst).mono ?_
 ·have:=hcd r0
  rw [L5] at this
  exact this
 ·rintro e w' ⟨st,ρ',v,h1,h2,h3,h4,h5⟩
  obtain ⟨y,z,u,a,b,hq,hE⟩:=Km h3 (val:=fun y=> .nC [.one (.raw (.int .i64 y.1)),.one (.raw (.int .i64 y.2))]) Ux
  have hq:(y,z,u,a,b)=Lu x:=hq
  rw [<- hq]
  exact ⟨st,ρ',v,h1,hE,⟨h4 0 (by show 0<4;decide),h4 1 (by show 1<4;decide)⟩,h5⟩
def jc (x:aZ.ty.T):vK.ty.T:=yJ x
def dV (x:aZ.ty.T):Prop:=sW x
abbrev iL:bY:=⟨aZ,vK,dV,jc⟩
def ai3 (x:aZ.ty.T):Cw.ty.T:=Jk x
def VQ (x:aZ.ty.T):Prop:=BD x
abbrev LU:bY:=⟨aZ,Cw,VQ,ai3⟩
def EC (x:vN.T):Yo.T:=Lu x
def nY (x:vN.T):Prop:=tL x
abbrev Bp:bY:=⟨.one vN,.one Yo,nY,EC⟩
def rE (x:aZ.ty.T):(Ty.prod da da).T:=Nt x
def ie (x:aZ.ty.T):Prop:=yX x
abbrev qf:bY:=⟨aZ,.one (.prod da da),ie,rE⟩
def mtL:List AV->Option (Nat×Cell×O5.T)
 | [.v (.one (.ptr n 0)),.v (.agg [.raw (.int .i64 a),.raw (.int .i64 b),.raw (.int .i64 c),.raw (.int .i64 d),cl]),.v (.agg [.raw (.int .i64 x),.raw (.int .i64 y),.raw (.int .i64 z)]),.v (.agg [.raw (.int .i64 u),.raw (.int .i64 v),.raw (.int .i64 w)])]=>some (n,cl,(a,b,c,d),(x,y,z),u,v,w)
 |_=>none
theorem ahM: ∀args n cl y,mtL args=some (n,cl,y)->args=pt n::WB cl y:=by
 intro args n cl y h
 unfold mtL at h
 split at h
 ·cases h;rfl
 ·cases h
def Ye:Ev.Spec:=fun _ args hp nm k=>match mtL args with
 |some (n,cl,y)=>match hp n with
  |some (.cells [cL,.raw (.int .u32 dn),.raw (.int .i32 s),.raw (.int .u32 q),cT,.raw (.int .i64 a),.raw (.int .i64 b)] e)=>match vm hp fM cT with
   |some (T,rr)=>match eY hp (.one (.sl IS)) [.v (.one cL)] with
    |some (L,[],tc,b0)=>match eY hp (.one (.sl si)) [.v (.one cl)] with
     | some (Lt,[],tH,b1)=>if decide (e=80)&&(dY (n::rr)&&(oZ tc (n::rr)&&oZ tH (n::rr))) then
       ob (b0&&(b1&&(decide (s=0)&&decide (q=0)))) (Bp.pre (L,T,Lt,(dn,a,b),y)/\ ∀z,z=Bp.f (L,T,Lt,(dn,a,b),y)->
        k {val:= .nC [.one (.raw (.int .i64 z.1.1)),.one (.raw (.int .i64 z.1.2))],fresh:= [.row fM z.2.1 2],writes:=(n,.cells (xe cL (.full nm) (.int .u32 z.2.2.1) (.int .i32 0) (.int .u32 0) (.int .i64 z.2.2.2.1) (.int .i64 z.2.2.2.2)) 80)::rr.map fun r=>(r,.gone),aH:=(n::rr)++(tc++tH)}) else False
     |_=>False
    |_=>False
   |none=>False
  |_=>False
 |none=>False
theorem Yf:Ye=Uc (r:= .prod da da) mtL (fun y=> .nC [.one (.raw (.int .i64 y.1)),.one (.raw (.int .i64 y.2))]) tL Lu:=rfl
theorem Yg:ai Tryz.prog 11 Ye:=by
 rw [Yf]
 exact OT (A:=fun p c y=> .v (.one p)::WB c y) ahM (fun y p c p' c' ρ ρ' h1 h2=>by
  simp only [WB,jA,pA,List.map_cons,List.map_nil,AV.ae,A0.ae,h1,h2];rfl) (fun y=>⟨fun _ _=>rfl,fun _ x hx=>by
   simp only [List.mem_cons,List.not_mem_nil,or_false] at hx
   rcases hx with rfl|rfl<;>trivial⟩) fun x hp au W aV w hbd hst=>XK x hp au W aV w hbd hst
def Yi:Ev.Spec:=fun _ args hp nm k=>match args with
 | .v (.one (.raw (.pointer none)))::r=>match eY hp aZ r with
  |some (x,[],tc,b)=>ob b (qf.pre x/\ ∀y,y=qf.f x->k {val:= .nC [.one (.raw (.int .i64 y.1)),.one (.raw (.int .i64 y.2))],aH:=tc})
  |_=>False
 |_=>False
theorem Yj:ai Tryz.prog 11 Yi:=by
 intro X args hp nm k hs
 unfold Yi at hs
 split at hs
 rotate_left
 ·exact hs.elim
 rename_i r
 split at hs
 rotate_left
 ·exact hs.elim
 rename_i x tc b hd
 obtain ⟨rfl,hpre,hk⟩:=bg hs
 refine ⟨_,⟨fun p eL=>absurd eL (by simp),?_⟩,hk _ rfl⟩
 intro au W ρ Kn Γ w _ hok ht hfr hst
 obtain ⟨aV,hb,hca⟩:=Gh hd ht hst
 have hca:(I4 x).map (AV.ae aV)=(AV.v (.one (.raw (.pointer none)))::r).map (AV.ae ρ):=by
  simp only [I4,List.map_cons,hca];rfl
 rw [<- hca]
 refine (S1 x hpre aV w hb).mono ?_
 rintro e w' ⟨st,aQ,v,rfl,hv,hR,jO⟩
 unfold rdQ at hR
 split at hR
 rotate_left
 ·exact hR.elim
 rename_i y hy
 have hR:y=Nt x:=hR
 rw [Ux _ _ hy,hR]
 refine ⟨ρ,rfl,fun _ _=>rfl,fun c hc=> ?_,by rw [fb,n6];exact hst.called jO.fr⟩
 simp only [List.mem_cons,List.not_mem_nil,or_false] at hc
 rcases hc with rfl|rfl<;>trivial
def agp:Ev.Spec:=fun X args hp nm k=>match args with
 | .v (.one (.raw _))::_=>Yi X args hp nm k
 |_=>Ye X args hp nm k
theorem acX:ai Tryz.prog 11 agp:=by
 intro X args hp nm k h
 unfold agp at h
 split at h
 ·exact Yj X _ hp nm k h
 ·exact Yg X _ hp nm k h
theorem XB:ai Tryz.prog 12 (ak iL):=ai.Mv (by kernel_rfl) fun x hp aV w hst=>Qx x hp aV w hst
theorem Y5:ai Tryz.prog 15 (ak LU):=ai.Mv (by kernel_rfl) fun x hp aV w hst=>Ro x hp aV w hst
theorem XC:ai Tryz.prog 12 (ak iL):=XB
theorem Y6:ai Tryz.prog 15 (ak LU):=Y5
def K4:List (Nat×Ev.Spec):=(12,ak iL)::bA
theorem MT:ah Tryz.prog K4:=ah.add (fn:=Tryz.f12) (by kernel_rfl) XC eV
def PN:List (Nat×Ev.Spec):=(15,ak LU)::K4
theorem PS:ah Tryz.prog PN:=ah.add (fn:=Tryz.f15) (by kernel_rfl) Y6 MT
def UH:List (Nat×Ev.Spec):=(11,agp)::PN
theorem GL:ah Tryz.prog UH:=ah.add (fn:=Tryz.f11) (by kernel_rfl) acX PS
end Go.Proofs.YtngdehlpoomaiaaGreat
