/- gather.Start, gather.Ends, gather.Value: their contracts. -/
import Derived.Test.YtngdehlpoomaiaaGreatLj
noncomputable section
set_option linter.unusedSectionVars false
set_option linter.unusedVariables false
set_option linter.unusedSimpArgs false
namespace Go.Proofs.YtngdehlpoomaiaaGreat
open Go Go.Ev Go.Proofs
theorem alZ:Tryz.ao8= {Tryz.f12 with body:=some (gC [2] (bq Tryz.f12))} :=by kernel_rfl
theorem af5:PT 29 33 8 7 6 (r7 (opsOf 1 (aC Tryz.f12)) 0) (r7 (opsOf 1 (aC Tryz.f12)) 1):=⟨⟨by kernel_rfl,by kernel_rfl,by kernel_rfl⟩,by kernel_rfl,by kernel_rfl,⟨#[82,1],by kernel_rfl⟩⟩
theorem aa7:Tryz.f12.body=some (.seq (.region 0 (opsOf 0 (aC Tryz.f12)) false) (.seq (.region 1 #[r7 (opsOf 1 (aC Tryz.f12)) 0,r7 (opsOf 1 (aC Tryz.f12)) 1] false) (bq Tryz.f12))):=by kernel_rfl
theorem akp (x:bg.ty.T) (lp:List (Nat×br)) (its:List (Nat×cP)) (ρ:Env) (K:AS->Prop):jW ⟨tt,bC,cf,lp,[],its⟩ (opsOf 0 (aC Tryz.f12)) false ⟨cy bg x++List.replicate (Tryz.f12.ntmps- (cy bg x).length) ck,cY x++ [.cg ρ (cY x).length]⟩ K=K ⟨T1 x,cY x++ .cg ρ (cY x).length::NC x⟩:=by kernel_rfl
theorem R8 {x:bg.ty.T} : ∀a∈cy bg x,a.ok (· <(cY x).length):=fun a ha=>by
 obtain ⟨b,hb,rfl⟩:=List.mem_map.1 ha
 have hl:(aY 0 0 bg x).2.length=1:=rfl
 exact A0.aT (fun m hm=>by have:=hm.2;rw [hl] at this;show m<1;omega) b (jc 0 bg x 0 b hb)
theorem Yg (x:bg.ty.T) (hp:wA x) (aW:Env) (w:World) (hst:St A6 w aW (· <(da bg x).length) (ai (da bg x)) w):
  Calls Tryz.prog 12 ((cy bg x).map (AV.ae aW)).toArray w fun e w'=> ∃st aR v,e= .returned (v.ae aR)/\ v.ok (· <st.heap.length)/\ l9 zo (· =CL x) v st/\ St A6 w aR (· <st.heap.length) (ai st.heap) w':=by
 obtain ⟨lp,its,hi,hl,ha,z8⟩:=af2 x hp
 have tY:YL Tryz.prog ⟨tt,bC,cf,lp,[],its⟩ 30 (UL Tryz.prog (s7 7 6 27 zV3)) [2] (bq Tryz.f12):=hl.lpG (ctx:=⟨tt,bC,cf,lp,[],its⟩) (fun p hp=>hp) ha
 have z8: ∀r0,goE ⟨tt,bC,cf,lp,[],its⟩ Tryz.ao8 ((T1 x).set 8 .dead) (cY x++ .gone::NC x++ [.cg r0 7]) (Ct 7 r0 (l9 zo (· =CL x))) (DP 7 7 6 6 5 r0 fun st=>qX mR Tryz.f12 st (l9 zo (· =CL x))):=z8
 have SJ:Tryz.f12.ntmps=14:=by kernel_rfl
 have hcd:=fun r0=>Gc alZ (z8 r0)
 have Jn:=fun ρ=>(akp x lp its ρ (fun st=>st=⟨T1 x,cY x++ .cg ρ (cY x).length::NC x⟩)).mpr rfl
 have Jk:Tryz.prog.funcs[12]? =some Tryz.f12:=by kernel_rfl
 have Gh:Ow (bq Tryz.f12)=true:=by kernel_rfl
 have Gf:e8 Tryz.prog ⟨tt,bC,cf,lp,[],its⟩:=⟨fD,o9.nil _,hi⟩
 have hb0:=aa7
 have N9:=af5
 clear z8 hl ha hi
 revert N9 hb0 Gf Gh Jk Jn hcd SJ tY
 generalize r7 (opsOf 1 (aC Tryz.f12)) 0=o1
 generalize r7 (opsOf 1 (aC Tryz.f12)) 1=o2
 generalize opsOf 0 (aC Tryz.f12)=Z2
 generalize bq Tryz.f12=rest
 generalize Tryz.f12=fn
 intro tY SJ hcd Jn Jk Gh Gf hb0 N9
 refine (KO (H:=cY x) (B:=NC x) (T0:=T1 x) (np:=7) (ne:=6) (ns:=5) (R:=l9 zo (· =CL x)) (So:=mR) (fm:= {fn with body:=some (gC [2] rest)}) bt Gf rfl mixed Jk hb0 N9 ⟨by decide,by decide⟩ alK Gh tY rfl bt rfl (fun ρ=>rfl) rfl (by show 8<14;decide) ⟨by decide,by decide⟩ rfl rfl Jn rfl (fun r0=> ?_) R8 hst).mono ?_
 ·have:=hcd r0
  rw [SJ] at this
  exact this
 ·rintro e w' ⟨st,ρ',v,h1,h2,h3,h4,h5⟩
  exact ⟨st,ρ',v,h1,h2,h3,h5⟩
theorem alL:zz 38 46 Gs:=YW (fn:=Tryz.f38) (o:=r7 (opsOf 0 (aC Tryz.f38)) 0) (b9.of (fn:=Tryz.f38) (by kernel_rfl) (by kernel_rfl) (by kernel_rfl)) (by kernel_rfl) (by kernel_rfl) (by kernel_rfl) ⟨by kernel_rfl,by kernel_rfl⟩
theorem abP:zz 30 3 (.int .i64 0):=YW (fn:=Tryz.f30) (o:=r7 (opsOf 0 (aC Tryz.f30)) 0) (b9.of (fn:=Tryz.f30) (by kernel_rfl) (by kernel_rfl) (by kernel_rfl)) (by kernel_rfl) (by kernel_rfl) (by kernel_rfl) ⟨by kernel_rfl,by kernel_rfl⟩
theorem al0:Tryz.ao9= {Tryz.f15 with body:=some (gC [2] (bq Tryz.f15))} :=by kernel_rfl
theorem ahw:PT 29 38 8 7 6 (r7 (opsOf 1 (aC Tryz.f15)) 0) (r7 (opsOf 1 (aC Tryz.f15)) 1):=⟨⟨by kernel_rfl,by kernel_rfl,by kernel_rfl⟩,by kernel_rfl,by kernel_rfl,⟨#[82,1],by kernel_rfl⟩⟩
theorem ad6:Tryz.f15.body=some (.seq (.region 0 (opsOf 0 (aC Tryz.f15)) false) (.seq (.region 1 #[r7 (opsOf 1 (aC Tryz.f15)) 0,r7 (opsOf 1 (aC Tryz.f15)) 1] false) (bq Tryz.f15))):=by kernel_rfl
theorem alX (x:bg.ty.T) (lp:List (Nat×br)) (its:List (Nat×cP)) (ρ:Env) (K:AS->Prop):jW ⟨tt,bC,cf,lp,[],its⟩ (opsOf 0 (aC Tryz.f15)) false ⟨cy bg x++List.replicate (Tryz.f15.ntmps- (cy bg x).length) ck,cY x++ [.cg ρ (cY x).length]⟩ K=K ⟨T1 x,cY x++ .cg ρ (cY x).length::Vr x⟩:=by kernel_rfl
theorem Y5 (x:bg.ty.T) (hp:zP x) (aW:Env) (w:World) (hst:St A6 w aW (· <(da bg x).length) (ai (da bg x)) w):
  Calls Tryz.prog 15 ((cy bg x).map (AV.ae aW)).toArray w fun e w'=> ∃st aR v,e= .returned (v.ae aR)/\ v.ok (· <st.heap.length)/\ l9 Ho (· =K6 x) v st/\ St A6 w aR (· <st.heap.length) (ai st.heap) w':=by
 obtain ⟨lp,its,hi,hl,ha,z8⟩:=aht x hp
 have tY:YL Tryz.prog ⟨tt,bC,cf,lp,[],its⟩ 30 (UL Tryz.prog (s7 7 6 46 Gs)) [2] (bq Tryz.f15):=hl.lpG (ctx:=⟨tt,bC,cf,lp,[],its⟩) (fun p hp=>hp) ha
 have z8: ∀r0,goE ⟨tt,bC,cf,lp,[],its⟩ Tryz.ao9 ((T1 x).set 8 .dead) (cY x++ .gone::Vr x++ [.cg r0 7]) (Ct 7 r0 (l9 Ho (· =K6 x))) (DP 7 7 6 6 5 r0 fun st=>qX mR Tryz.f15 st (l9 Ho (· =K6 x))):=z8
 have SJ:Tryz.f15.ntmps=14:=by kernel_rfl
 have hcd:=fun r0=>Gc al0 (z8 r0)
 have Jn:=fun ρ=>(alX x lp its ρ (fun st=>st=⟨T1 x,cY x++ .cg ρ (cY x).length::Vr x⟩)).mpr rfl
 have Jk:Tryz.prog.funcs[15]? =some Tryz.f15:=by kernel_rfl
 have Gh:Ow (bq Tryz.f15)=true:=by kernel_rfl
 have Gf:e8 Tryz.prog ⟨tt,bC,cf,lp,[],its⟩:=⟨fD,o9.nil _,hi⟩
 have hb0:=ad6
 have N9:=ahw
 clear z8 hl ha hi
 revert N9 hb0 Gf Gh Jk Jn hcd SJ tY
 generalize r7 (opsOf 1 (aC Tryz.f15)) 0=o1
 generalize r7 (opsOf 1 (aC Tryz.f15)) 1=o2
 generalize opsOf 0 (aC Tryz.f15)=Z2
 generalize bq Tryz.f15=rest
 generalize Tryz.f15=fn
 intro tY SJ hcd Jn Jk Gh Gf hb0 N9
 refine (KO (H:=cY x) (B:=Vr x) (T0:=T1 x) (np:=7) (ne:=6) (ns:=5) (R:=l9 Ho (· =K6 x)) (So:=mR) (fm:= {fn with body:=some (gC [2] rest)}) bt Gf rfl mixed Jk hb0 N9 ⟨by decide,by decide⟩ alL Gh tY rfl bt rfl (fun ρ=>rfl) rfl (by show 8<14;decide) ⟨by decide,by decide⟩ rfl rfl Jn rfl (fun r0=> ?_) R8 hst).mono ?_
 ·have:=hcd r0
  rw [SJ] at this
  exact this
 ·rintro e w' ⟨st,ρ',v,h1,h2,h3,h4,h5⟩
  exact ⟨st,ρ',v,h1,h2,h3,h5⟩
theorem abZ:Tryz.ahz= {Tryz.f11 with body:=some (gC [2,4] (bq Tryz.f11))} :=by kernel_rfl
theorem adw:PT 29 30 11 9 8 (r7 (opsOf 1 (aC Tryz.f11)) 0) (r7 (opsOf 1 (aC Tryz.f11)) 1):=⟨⟨by kernel_rfl,by kernel_rfl,by kernel_rfl⟩,by kernel_rfl,by kernel_rfl,⟨#[82,1],by kernel_rfl⟩⟩
theorem Yn:Tryz.f11.body=some (.seq (.region 0 (opsOf 0 (aC Tryz.f11)) false) (.seq (.region 1 #[r7 (opsOf 1 (aC Tryz.f11)) 0,r7 (opsOf 1 (aC Tryz.f11)) 1] false) (bq Tryz.f11))):=by kernel_rfl
def O2 (x:bg.ty.T):List AV:= .v (.one (.raw (.pointer none)))::cy bg x
theorem agX {x:bg.ty.T} : ∀a∈O2 x,a.ok (· <(cY x).length):=fun a ha=>by
 rcases List.mem_cons.1 ha with rfl|ha
 ·trivial
 ·exact R8 a ha
theorem anH (x:bg.ty.T) (lp:List (Nat×br)) (its:List (Nat×cP)) (ρ:Env) (K:AS->Prop):jW ⟨tt,bC,cf,lp,[],its⟩ (opsOf 0 (aC Tryz.f11)) false ⟨O2 x++List.replicate (Tryz.f11.ntmps- (O2 x).length) ck,cY x++ [.cg ρ (cY x).length]⟩ K=K ⟨T2 (.v (.one (.raw (.pointer none)))) (.full 0) (Gt x) 2,cY x++ .cg ρ (cY x).length::boxes (.full 0) (Gt x) (.cells [ci 0] 3)⟩:=by kernel_rfl
theorem abh (x:bg.ty.T) (hp:CV x) (aW:Env) (w:World) (hst:St A6 w aW (· <(da bg x).length) (ai (da bg x)) w):
  Calls Tryz.prog 11 ((O2 x).map (AV.ae aW)).toArray w fun e w'=> ∃st aR v,e= .returned (v.ae aR)/\ v.ok (· <st.heap.length)/\ rdQ GI (· =UN x) v st/\ St A6 w aR (· <st.heap.length) (ai st.heap) w':=by
 obtain ⟨lp,its,hi,hl,ha,z8⟩:=alw x hp
 have tY:YL Tryz.prog ⟨tt,bC,cf,lp,[],its⟩ 30 (UL Tryz.prog (s7 9 8 3 (.int .i64 0))) [2,4] (bq Tryz.f11):=hl.lpG (ctx:=⟨tt,bC,cf,lp,[],its⟩) (fun p hp=>hp) ha
 have z8: ∀r0,goE ⟨tt,bC,cf,lp,[],its⟩ Tryz.ahz ((T2 (.v (.one (.raw (.pointer none)))) (.full 0) (Gt x) 2).set 11 .dead) (cY x++ .gone::boxes (.full 0) (Gt x) (.cells [ci 0] 3)++ [.cg r0 7]) (Ct 7 r0 (rdQ GI (· =UN x))) (DP 7 9 8 6 5 r0 fun st=>qX mR Tryz.f11 st (rdQ GI (· =UN x))):=z8
 have SJ:Tryz.f11.ntmps=23:=by kernel_rfl
 have hcd:=fun r0=>Gc abZ (z8 r0)
 have Jn:=fun ρ=>(anH x lp its ρ (fun st=>st=⟨T2 (.v (.one (.raw (.pointer none)))) (.full 0) (Gt x) 2,cY x++ .cg ρ (cY x).length::boxes (.full 0) (Gt x) (.cells [ci 0] 3)⟩)).mpr rfl
 have Jk:Tryz.prog.funcs[11]? =some Tryz.f11:=by kernel_rfl
 have Gh:Ow (bq Tryz.f11)=true:=by kernel_rfl
 have Gf:e8 Tryz.prog ⟨tt,bC,cf,lp,[],its⟩:=⟨fD,o9.nil _,hi⟩
 have hb0:=Yn
 have N9:=adw
 clear z8 hl ha hi
 revert N9 hb0 Gf Gh Jk Jn hcd SJ tY
 generalize r7 (opsOf 1 (aC Tryz.f11)) 0=o1
 generalize r7 (opsOf 1 (aC Tryz.f11)) 1=o2
 generalize opsOf 0 (aC Tryz.f11)=Z2
 generalize bq Tryz.f11=rest
 generalize Tryz.f11=fn
 intro tY SJ hcd Jn Jk Gh Gf hb0 N9
 refine (KO (H:=cY x) (B:=boxes (.full 0) (Gt x) (.cells [ci 0] 3)) (T0:=T2 (.v (.one (.raw (.pointer none)))) (.full 0) (Gt x) 2) (np:=7) (ne:=6) (ns:=5) (R:=rdQ GI (· =UN x)) (So:=mR) (fm:= {fn with body:=some (gC [2,4] rest)}) bt Gf rfl mixed Jk hb0 N9 ⟨by decide,by decide⟩ abP Gh tY rfl bt rfl (fun ρ=>rfl) rfl (by show 11<23;decide) ⟨by decide,by decide⟩ rfl rfl Jn rfl (fun r0=> ?_) agX hst).mono ?_
 ·have:=hcd r0
  rw [SJ] at this
  exact this
 ·rintro e w' ⟨st,ρ',v,h1,h2,h3,h4,h5⟩
  exact ⟨st,ρ',v,h1,h2,h3,h5⟩
def O1 (x:zv.T):List AV:=pt 0::aeJ (.full 3) x.2.2.2.2
theorem agW {x:zv.T} : ∀a∈O1 x,a.ok (· <(kZ x).length):=fun a ha=>by
 simp only [O1,aeJ,List.mem_cons,List.not_mem_nil,or_false] at ha
 rcases ha with rfl|rfl|rfl|rfl
 ·show 0<4;decide
 all_goals
  intro c hc
  simp only [List.mem_cons,List.not_mem_nil,or_false] at hc
 ·rcases hc with rfl|rfl|rfl|rfl|rfl<;>first|trivial|(show _<4;decide)
 ·rcases hc with rfl|rfl|rfl<;>trivial
 ·rcases hc with rfl|rfl|rfl<;>trivial
theorem acO: ∀v y,GI v=some y->v= .pT [.one (.raw (.int .i64 y.1)),.one (.raw (.int .i64 y.2))]:=by
 intro v y h
 unfold GI at h
 split at h
 ·cases h;rfl
 ·cases h
theorem aqz (x:zv.T) (lp:List (Nat×br)) (its:List (Nat×cP)) (ρ:Env) (K:AS->Prop):jW ⟨tt,bC,cf,lp,[],its⟩ (opsOf 0 (aC Tryz.f11)) false ⟨O1 x++List.replicate (Tryz.f11.ntmps- (O1 x).length) ck,kZ x++ [.cg ρ (kZ x).length]⟩ K=K ⟨T2 (pt 0) (.full 3) x.2.2.2.2 5,kZ x++ .cg ρ (kZ x).length::boxes (.full 3) x.2.2.2.2 (.cells [ci 0] 3)⟩:=by kernel_rfl
theorem agb (x:zv.T) (hp:xd x) (av:fG) (W:World) (aW:Env) (w:World) (hbd:av.bd= []) (hst:St av W aW (· <4) (ai (kZ x)) w):
  Calls Tryz.prog 11 ((O1 x).map (AV.ae aW)).toArray w (agA (r:= .prod dD dD) (fun y=> .pT [.one (.raw (.int .i64 y.1)),.one (.raw (.int .i64 y.2))]) (RZ x) av W aW):=by
 obtain ⟨lp,its,hi,hl,ha,z8⟩:=alv x hp
 have tY:YL Tryz.prog ⟨tt,bC,cf,lp,[],its⟩ 30 (UL Tryz.prog (s7 9 8 3 (.int .i64 0))) [2,4] (bq Tryz.f11):=hl.lpG (ctx:=⟨tt,bC,cf,lp,[],its⟩) (fun p hp=>hp) ha
 have z8: ∀r0,goE ⟨tt,bC,cf,lp,[],its⟩ Tryz.ahz ((T2 (pt 0) (.full 3) x.2.2.2.2 5).set 11 .dead) (kZ x++ .gone::boxes (.full 3) x.2.2.2.2 (.cells [ci 0] 3)++ [.cg r0 10]) (Ct 10 r0 (ON eU GI (· =RZ x))) (DP 10 9 8 9 8 r0 fun st=>qX mR Tryz.f11 st (ON eU GI (· =RZ x))):=z8
 have SJ:Tryz.f11.ntmps=23:=by kernel_rfl
 have hcd:=fun r0=>Gc abZ (z8 r0)
 have Jn:=fun ρ=>(aqz x lp its ρ (fun st=>st=⟨T2 (pt 0) (.full 3) x.2.2.2.2 5,kZ x++ .cg ρ (kZ x).length::boxes (.full 3) x.2.2.2.2 (.cells [ci 0] 3)⟩)).mpr rfl
 have Jk:Tryz.prog.funcs[11]? =some Tryz.f11:=by kernel_rfl
 have Gh:Ow (bq Tryz.f11)=true:=by kernel_rfl
 have Gf:e8 Tryz.prog ⟨tt,bC,cf,lp,[],its⟩:=⟨fD,o9.nil _,hi⟩
 have hb0:=Yn
 have N9:=adw
 clear z8 hl ha hi
 revert N9 hb0 Gf Gh Jk Jn hcd SJ tY
 generalize r7 (opsOf 1 (aC Tryz.f11)) 0=o1
 generalize r7 (opsOf 1 (aC Tryz.f11)) 1=o2
 generalize opsOf 0 (aC Tryz.f11)=Z2
 generalize bq Tryz.f11=rest
 generalize Tryz.f11=fn
 intro tY SJ hcd Jn Jk Gh Gf hb0 N9
 refine (KO (H:=kZ x) (B:=boxes (.full 3) x.2.2.2.2 (.cells [ci 0] 3)) (T0:=T2 (pt 0) (.full 3) x.2.2.2.2 5) (np:=10) (ne:=9) (ns:=8) (R:=ON eU GI (· =RZ x)) (So:=mR) (fm:= {fn with body:=some (gC [2,4] rest)}) bt Gf rfl mixed Jk hb0 N9 ⟨by decide,by decide⟩ abP Gh tY hbd bt rfl (fun ρ=>rfl) rfl (by show 11<23;decide) ⟨by decide,by decide⟩ rfl rfl Jn rfl (fun r0=> ?_) agW hst).mono ?_
 ·have:=hcd r0
  rw [SJ] at this
  exact this
 ·rintro e w' ⟨st,ρ',v,h1,h2,h3,h4,h5⟩
  obtain ⟨y,z,u,a,b,hq,hE⟩:=QD h3 (val:=fun y=> .pT [.one (.raw (.int .i64 y.1)),.one (.raw (.int .i64 y.2))]) acO
  have hq:(y,z,u,a,b)=RZ x:=hq
  rw [<- hq]
  exact ⟨st,ρ',v,h1,hE,⟨h4 0 (by show 0<4;decide),h4 1 (by show 1<4;decide)⟩,h5⟩
def aa6 (x:bg.ty.T):zo.ty.T:=CL x
def CK (x:bg.ty.T):Prop:=wA x
abbrev iL:bF:=⟨bg,zo,CK,aa6⟩
def ahs (x:bg.ty.T):Ho.ty.T:=K6 x
def F6 (x:bg.ty.T):Prop:=zP x
abbrev Jz:bF:=⟨bg,Ho,F6,ahs⟩
def alu (x:zv.T):agO.T:=RZ x
def Kr (x:zv.T):Prop:=xd x
abbrev BN:bF:=⟨.one zv,.one agO,Kr,alu⟩
def aoN (x:bg.ty.T):(Ty.prod dD dD).T:=UN x
def Kw (x:bg.ty.T):Prop:=CV x
abbrev sJ:bF:=⟨bg,.one (.prod dD dD),Kw,aoN⟩
def mtL:List AV->Option (Nat×Cell×Wi.T)
 | [.v (.one (.ptr n 0)),.v (.agg [.raw (.int .i64 a),.raw (.int .i64 b),.raw (.int .i64 c),.raw (.int .i64 d),cl]),.v (.agg [.raw (.int .i64 x),.raw (.int .i64 y),.raw (.int .i64 z)]),.v (.agg [.raw (.int .i64 u),.raw (.int .i64 v),.raw (.int .i64 w)])]=>some (n,cl,(a,b,c,d),(x,y,z),u,v,w)
 |_=>none
theorem aqe: ∀args n cl y,mtL args=some (n,cl,y)->args=pt n::aeJ cl y:=by
 intro args n cl y h
 unfold mtL at h
 split at h
 ·cases h;rfl
 ·cases h
def agD:Ev.Spec:=fun _ args hp nm k=>match mtL args with
 |some (n,cl,y)=>match hp n with
  |some (.cells [cL,.raw (.int .u32 dn),.raw (.int .i32 s),.raw (.int .u32 q),cT,.raw (.int .i64 a),.raw (.int .i64 b)] e)=>match yN hp gP cT with
   |some (T,rr)=>match fJ hp (.one (.sl OQ)) [.v (.one cL)] with
    |some (L,[],tc,b0)=>match fJ hp (.one (.sl vq)) [.v (.one cl)] with
     | some (Lt,[],w7,b1)=>if decide (e=80)&&(eV (n::rr)&&(ry tc (n::rr)&&ry w7 (n::rr))) then
       ob (b0&&(b1&&(decide (s=0)&&decide (q=0)))) (BN.pre (L,T,Lt,(dn,a,b),y)/\ ∀z,z=BN.f (L,T,Lt,(dn,a,b),y)->
        k {val:= .pT [.one (.raw (.int .i64 z.1.1)),.one (.raw (.int .i64 z.1.2))],fresh:= [.row gP z.2.1 2],writes:=(n,.cells (AU cL (.full nm) (.int .u32 z.2.2.1) (.int .i32 0) (.int .u32 0) (.int .i64 z.2.2.2.1) (.int .i64 z.2.2.2.2)) 80)::rr.map fun r=>(r,.gone),aF:=(n::rr)++(tc++w7)}) else False
     |_=>False
    |_=>False
   |none=>False
  |_=>False
 |none=>False
theorem agE:agD=acr (r:= .prod dD dD) mtL (fun y=> .pT [.one (.raw (.int .i64 y.1)),.one (.raw (.int .i64 y.2))]) xd RZ:=rfl
theorem agF:aq Tryz.prog 11 agD:=by
 rw [agE]
 exact V6 (A:=fun p c y=> .v (.one p)::aeJ c y) aqe (fun y p c p' c' ρ ρ' h1 h2=>by
  simp only [aeJ,jA,pA,List.map_cons,List.map_nil,AV.ae,A0.ae,h1,h2];rfl) (fun y=>⟨fun _ _=>rfl,fun _ x hx=>by
   simp only [List.mem_cons,List.not_mem_nil,or_false] at hx
   rcases hx with rfl|rfl<;>trivial⟩) fun x hp av W aW w hbd hst=>agb x hp av W aW w hbd hst
def agH:Ev.Spec:=fun _ args hp nm k=>match args with
 | .v (.one (.raw (.pointer none)))::r=>match fJ hp bg r with
  |some (x,[],tc,b)=>ob b (sJ.pre x/\ ∀y,y=sJ.f x->k {val:= .pT [.one (.raw (.int .i64 y.1)),.one (.raw (.int .i64 y.2))],aF:=tc})
  |_=>False
 |_=>False
theorem agI:aq Tryz.prog 11 agH:=by
 intro X args hp nm k hs
 unfold agH at hs
 split at hs
 rotate_left
 ·exact hs.elim
 rename_i r
 split at hs
 rotate_left
 ·exact hs.elim
 rename_i x tc b hd
 obtain ⟨rfl,hpre,hk⟩:=bh hs
 refine ⟨_,⟨fun p fh=>absurd fh (by simp),?_⟩,hk _ rfl⟩
 intro av W ρ Kn Γ w _ hok ht hfr hst
 obtain ⟨aW,hb,hca⟩:=L5 hd ht hst
 have hca:(O2 x).map (AV.ae aW)=(AV.v (.one (.raw (.pointer none)))::r).map (AV.ae ρ):=by
  simp only [O2,List.map_cons,hca];rfl
 rw [<- hca]
 refine (abh x hpre aW w hb).mono ?_
 rintro e w' ⟨st,aR,v,rfl,hv,hR,lB⟩
 unfold rdQ at hR
 split at hR
 rotate_left
 ·exact hR.elim
 rename_i y hy
 have hR:y=UN x:=hR
 rw [acO _ _ hy,hR]
 refine ⟨ρ,rfl,fun _ _=>rfl,fun c hc=> ?_,by rw [fS,qt];exact hst.called lB.fr⟩
 simp only [List.mem_cons,List.not_mem_nil,or_false] at hc
 rcases hc with rfl|rfl<;>trivial
def aoM:Ev.Spec:=fun X args hp nm k=>match args with
 | .v (.one (.raw _))::_=>agH X args hp nm k
 |_=>agD X args hp nm k
theorem alx:aq Tryz.prog 11 aoM:=by
 intro X args hp nm k h
 unfold aoM at h
 split at h
 ·exact agI X _ hp nm k h
 ·exact agF X _ hp nm k h
theorem af3:aq Tryz.prog 12 (ah iL):=aq.Tg (by kernel_rfl) fun x hp aW w hst=>Yg x hp aW w hst
theorem ahu:aq Tryz.prog 15 (ah Jz):=aq.Tg (by kernel_rfl) fun x hp aW w hst=>Y5 x hp aW w hst
theorem af4:aq Tryz.prog 12 (ah iL):=af3
theorem ahv:aq Tryz.prog 15 (ah Jz):=ahu
def RC:List (Nat×Ev.Spec):=(12,ah iL)::bC
theorem Ud:aj Tryz.prog RC:=aA (fn:=Tryz.f12) af4 fD
def Xw:List (Nat×Ev.Spec):=(15,ah Jz)::RC
theorem Xx:aj Tryz.prog Xw:=aA (fn:=Tryz.f15) ahv Ud
def acW:List (Nat×Ev.Spec):=(11,aoM)::Xw
theorem MJ:aj Tryz.prog acW:=aA (fn:=Tryz.f11) alx Xx
end Go.Proofs.YtngdehlpoomaiaaGreat
