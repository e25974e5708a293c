/- gather.Start, gather.Ends, gather.Value: their contracts. -/
import Derived.Test.YtngdehlpoomaiaaGreatLj
noncomputable section
set_option linter.unusedSectionVars false
set_option linter.unusedVariables false
set_option linter.unusedSimpArgs false
namespace Go.Proofs.YtngdehlpoomaiaaGreat
open Go Go.Ev Go.Proofs
theorem aco:Tryz.afB= {Tryz.f12 with body:=some (gC [2] (bV Tryz.f12))} :=by kernel_rfl
theorem WT:NN 29 33 8 7 6 (s8 (opsOf 1 (aG Tryz.f12)) 0) (s8 (opsOf 1 (aG Tryz.f12)) 1):=⟨⟨by kernel_rfl,by kernel_rfl,by kernel_rfl⟩,by kernel_rfl,by kernel_rfl,⟨#[82,1],by kernel_rfl⟩⟩
theorem R6:Tryz.f12.body=some (.seq (.region 0 (opsOf 0 (aG Tryz.f12)) false) (.seq (.region 1 #[s8 (opsOf 1 (aG Tryz.f12)) 0,s8 (opsOf 1 (aG Tryz.f12)) 1] false) (bV Tryz.f12))):=by kernel_rfl
theorem aaS (x:bj.ty.T) (lp:List (Nat×bC)) (its:List (Nat×cX)) (ρ:Env) (K:AS->Prop):lP ⟨tt,bB,cy,lp,[],its⟩ (opsOf 0 (aG Tryz.f12)) false ⟨cY bj x++List.replicate (Tryz.f12.ntmps- (cY bj x).length) ck,cP x++ [.cw ρ (cP x).length]⟩ K=K ⟨T1 x,cP x++ .cw ρ (cP x).length::GU x⟩:=by kernel_rfl
theorem KV {x:bj.ty.T} : ∀a∈cY bj x,a.ok (· <(cP x).length):=fun a ha=>by
 obtain ⟨b,hb,rfl⟩:=List.mem_map.1 ha
 have hl:(bf 0 0 bj x).2.length=1:=rfl
 exact A0.aV (fun m hm=>by have:=hm.2;rw [hl] at this;show m<1;omega) b (iU 0 bj x 0 b hb)
theorem Px (x:bj.ty.T) (hp:sK x) (aZ:Env) (w:World) (hst:St yB w aZ (· <(dz bj x).length) (ai (dz bj x)) w):
  Calls Tryz.prog 12 ((cY bj x).map (AV.ae aZ)).toArray w fun e w'=> ∃st aX v,e= .returned (v.ae aX)/\ v.ok (· <st.heap.length)/\ qk vp (· =yq x) v st/\ St yB w aX (· <st.heap.length) (ai st.heap) w':=by
 obtain ⟨lp,its,hi,hl,ha,zb⟩:=WQ x hp
 have uj:SA Tryz.prog ⟨tt,bB,cy,lp,[],its⟩ 30 (SC Tryz.prog (wL 7 6 27 zV3)) [2] (bV Tryz.f12):=hl.lpG (ctx:=⟨tt,bB,cy,lp,[],its⟩) (fun p hp=>hp) ha
 have zb: ∀r0,goE ⟨tt,bB,cy,lp,[],its⟩ Tryz.afB ((T1 x).set 8 .dead) (cP x++ .gone::GU x++ [.cw r0 7]) (BJ 7 r0 (qk vp (· =yq x))) (Dl 7 7 6 6 5 r0 fun st=>qj qD Tryz.f12 st (qk vp (· =yq x))):=zb
 have QG:Tryz.f12.ntmps=14:=by kernel_rfl
 have hcd:=fun r0=>EZ aco (zb r0)
 have HV:=fun ρ=>(aaS x lp its ρ (fun st=>st=⟨T1 x,cP x++ .cw ρ (cP x).length::GU x⟩)).mpr rfl
 have HQ:Tryz.prog.funcs[12]? =some Tryz.f12:=by kernel_rfl
 have Ff:Js (bV Tryz.f12)=true:=by kernel_rfl
 have E5:fq Tryz.prog ⟨tt,bB,cy,lp,[],its⟩:=⟨eZ,nW.nil _,hi⟩
 have hb0:=R6
 have Mr:=WT
 clear zb hl ha hi
 revert Mr hb0 E5 Ff HQ HV hcd QG uj
 generalize s8 (opsOf 1 (aG Tryz.f12)) 0=o1
 generalize s8 (opsOf 1 (aG Tryz.f12)) 1=o2
 generalize opsOf 0 (aG Tryz.f12)=Wo
 generalize bV Tryz.f12=rest
 generalize Tryz.f12=fn
 intro uj QG hcd HV HQ Ff E5 hb0 Mr
 refine (K1 (H:=cP x) (B:=GU x) (T0:=T1 x) (np:=7) (ne:=6) (ns:=5) (R:=qk vp (· =yq x)) (MY:=qD) (fm:= {fn with body:=some (gC [2] rest)}) az E5 rfl mixed HQ hb0 Mr ⟨by decide,by decide⟩ ab6 Ff uj rfl az rfl (fun ρ=>rfl) rfl (by show 8<14;decide) ⟨by decide,by decide⟩ rfl rfl HV rfl (fun r0=> ?_) KV hst).mono ?_
 ·have:=hcd r0
  rw [QG] at this
  exact this
 ·rintro e w' ⟨st,ρ',v,h1,h2,h3,h4,h5⟩
  exact ⟨st,ρ',v,h1,h2,h3,h5⟩
theorem ab7:yE 38 46 Wf:=X3 (fn:=Tryz.f38) (o:=s8 (opsOf 0 (aG Tryz.f38)) 0) (cr.of (fn:=Tryz.f38) (by kernel_rfl) (by kernel_rfl) (by kernel_rfl)) (by kernel_rfl) (by kernel_rfl) (by kernel_rfl) ⟨by kernel_rfl,by kernel_rfl⟩
theorem SN:yE 30 3 (.int .i64 0):=X3 (fn:=Tryz.f30) (o:=s8 (opsOf 0 (aG Tryz.f30)) 0) (cr.of (fn:=Tryz.f30) (by kernel_rfl) (by kernel_rfl) (by kernel_rfl)) (by kernel_rfl) (by kernel_rfl) (by kernel_rfl) ⟨by kernel_rfl,by kernel_rfl⟩
theorem acp:Tryz.afC= {Tryz.f15 with body:=some (gC [2] (bV Tryz.f15))} :=by kernel_rfl
theorem Yp:NN 29 38 8 7 6 (s8 (opsOf 1 (aG Tryz.f15)) 0) (s8 (opsOf 1 (aG Tryz.f15)) 1):=⟨⟨by kernel_rfl,by kernel_rfl,by kernel_rfl⟩,by kernel_rfl,by kernel_rfl,⟨#[82,1],by kernel_rfl⟩⟩
theorem U7:Tryz.f15.body=some (.seq (.region 0 (opsOf 0 (aG Tryz.f15)) false) (.seq (.region 1 #[s8 (opsOf 1 (aG Tryz.f15)) 0,s8 (opsOf 1 (aG Tryz.f15)) 1] false) (bV Tryz.f15))):=by kernel_rfl
theorem ack (x:bj.ty.T) (lp:List (Nat×bC)) (its:List (Nat×cX)) (ρ:Env) (K:AS->Prop):lP ⟨tt,bB,cy,lp,[],its⟩ (opsOf 0 (aG Tryz.f15)) false ⟨cY bj x++List.replicate (Tryz.f15.ntmps- (cY bj x).length) ck,cP x++ [.cw ρ (cP x).length]⟩ K=K ⟨T1 x,cP x++ .cw ρ (cP x).length::M7 x⟩:=by kernel_rfl
theorem Qu (x:bj.ty.T) (hp:vI x) (aZ:Env) (w:World) (hst:St yB w aZ (· <(dz bj x).length) (ai (dz bj x)) w):
  Calls Tryz.prog 15 ((cY bj x).map (AV.ae aZ)).toArray w fun e w'=> ∃st aX v,e= .returned (v.ae aX)/\ v.ok (· <st.heap.length)/\ qk Ca (· =EL x) v st/\ St yB w aX (· <st.heap.length) (ai st.heap) w':=by
 obtain ⟨lp,its,hi,hl,ha,zb⟩:=Ym x hp
 have uj:SA Tryz.prog ⟨tt,bB,cy,lp,[],its⟩ 30 (SC Tryz.prog (wL 7 6 46 Wf)) [2] (bV Tryz.f15):=hl.lpG (ctx:=⟨tt,bB,cy,lp,[],its⟩) (fun p hp=>hp) ha
 have zb: ∀r0,goE ⟨tt,bB,cy,lp,[],its⟩ Tryz.afC ((T1 x).set 8 .dead) (cP x++ .gone::M7 x++ [.cw r0 7]) (BJ 7 r0 (qk Ca (· =EL x))) (Dl 7 7 6 6 5 r0 fun st=>qj qD Tryz.f15 st (qk Ca (· =EL x))):=zb
 have QG:Tryz.f15.ntmps=14:=by kernel_rfl
 have hcd:=fun r0=>EZ acp (zb r0)
 have HV:=fun ρ=>(ack x lp its ρ (fun st=>st=⟨T1 x,cP x++ .cw ρ (cP x).length::M7 x⟩)).mpr rfl
 have HQ:Tryz.prog.funcs[15]? =some Tryz.f15:=by kernel_rfl
 have Ff:Js (bV Tryz.f15)=true:=by kernel_rfl
 have E5:fq Tryz.prog ⟨tt,bB,cy,lp,[],its⟩:=⟨eZ,nW.nil _,hi⟩
 have hb0:=U7
 have Mr:=Yp
 clear zb hl ha hi
 revert Mr hb0 E5 Ff HQ HV hcd QG uj
 generalize s8 (opsOf 1 (aG Tryz.f15)) 0=o1
 generalize s8 (opsOf 1 (aG Tryz.f15)) 1=o2
 generalize opsOf 0 (aG Tryz.f15)=Wo
 generalize bV Tryz.f15=rest
 generalize Tryz.f15=fn
 intro uj QG hcd HV HQ Ff E5 hb0 Mr
 refine (K1 (H:=cP x) (B:=M7 x) (T0:=T1 x) (np:=7) (ne:=6) (ns:=5) (R:=qk Ca (· =EL x)) (MY:=qD) (fm:= {fn with body:=some (gC [2] rest)}) az E5 rfl mixed HQ hb0 Mr ⟨by decide,by decide⟩ ab7 Ff uj rfl az rfl (fun ρ=>rfl) rfl (by show 8<14;decide) ⟨by decide,by decide⟩ rfl rfl HV rfl (fun r0=> ?_) KV hst).mono ?_
 ·have:=hcd r0
  rw [QG] at this
  exact this
 ·rintro e w' ⟨st,ρ',v,h1,h2,h3,h4,h5⟩
  exact ⟨st,ρ',v,h1,h2,h3,h5⟩
theorem SW:Tryz.Yr= {Tryz.f11 with body:=some (gC [2,4] (bV Tryz.f11))} :=by kernel_rfl
theorem Us:NN 29 30 11 9 8 (s8 (opsOf 1 (aG Tryz.f11)) 0) (s8 (opsOf 1 (aG Tryz.f11)) 1):=⟨⟨by kernel_rfl,by kernel_rfl,by kernel_rfl⟩,by kernel_rfl,by kernel_rfl,⟨#[82,1],by kernel_rfl⟩⟩
theorem PG:Tryz.f11.body=some (.seq (.region 0 (opsOf 0 (aG Tryz.f11)) false) (.seq (.region 1 #[s8 (opsOf 1 (aG Tryz.f11)) 0,s8 (opsOf 1 (aG Tryz.f11)) 1] false) (bV Tryz.f11))):=by kernel_rfl
def Io (x:bj.ty.T):List AV:= .v (.one (.raw (.pointer none)))::cY bj x
theorem XL {x:bj.ty.T} : ∀a∈Io x,a.ok (· <(cP x).length):=fun a ha=>by
 rcases List.mem_cons.1 ha with rfl|ha
 ·trivial
 ·exact KV a ha
theorem ad7 (x:bj.ty.T) (lp:List (Nat×bC)) (its:List (Nat×cX)) (ρ:Env) (K:AS->Prop):lP ⟨tt,bB,cy,lp,[],its⟩ (opsOf 0 (aG Tryz.f11)) false ⟨Io x++List.replicate (Tryz.f11.ntmps- (Io x).length) ck,cP x++ [.cw ρ (cP x).length]⟩ K=K ⟨T2 (.v (.one (.raw (.pointer none)))) (.full 0) (BD x) 2,cP x++ .cw ρ (cP x).length::boxes (.full 0) (BD x) (.cells [ci 0] 3)⟩:=by kernel_rfl
theorem Sg (x:bj.ty.T) (hp:yI x) (aZ:Env) (w:World) (hst:St yB w aZ (· <(dz bj x).length) (ai (dz bj x)) w):
  Calls Tryz.prog 11 ((Io x).map (AV.ae aZ)).toArray w fun e w'=> ∃st aX v,e= .returned (v.ae aX)/\ v.ok (· <st.heap.length)/\ rdQ BH (· =MC x) v st/\ St yB w aX (· <st.heap.length) (ai st.heap) w':=by
 obtain ⟨lp,its,hi,hl,ha,zb⟩:=abS x hp
 have uj:SA Tryz.prog ⟨tt,bB,cy,lp,[],its⟩ 30 (SC Tryz.prog (wL 9 8 3 (.int .i64 0))) [2,4] (bV Tryz.f11):=hl.lpG (ctx:=⟨tt,bB,cy,lp,[],its⟩) (fun p hp=>hp) ha
 have zb: ∀r0,goE ⟨tt,bB,cy,lp,[],its⟩ Tryz.Yr ((T2 (.v (.one (.raw (.pointer none)))) (.full 0) (BD x) 2).set 11 .dead) (cP x++ .gone::boxes (.full 0) (BD x) (.cells [ci 0] 3)++ [.cw r0 7]) (BJ 7 r0 (rdQ BH (· =MC x))) (Dl 7 9 8 6 5 r0 fun st=>qj qD Tryz.f11 st (rdQ BH (· =MC x))):=zb
 have QG:Tryz.f11.ntmps=23:=by kernel_rfl
 have hcd:=fun r0=>EZ SW (zb r0)
 have HV:=fun ρ=>(ad7 x lp its ρ (fun st=>st=⟨T2 (.v (.one (.raw (.pointer none)))) (.full 0) (BD x) 2,cP x++ .cw ρ (cP x).length::boxes (.full 0) (BD x) (.cells [ci 0] 3)⟩)).mpr rfl
 have HQ:Tryz.prog.funcs[11]? =some Tryz.f11:=by kernel_rfl
 have Ff:Js (bV Tryz.f11)=true:=by kernel_rfl
 have E5:fq Tryz.prog ⟨tt,bB,cy,lp,[],its⟩:=⟨eZ,nW.nil _,hi⟩
 have hb0:=PG
 have Mr:=Us
 clear zb hl ha hi
 revert Mr hb0 E5 Ff HQ HV hcd QG uj
 generalize s8 (opsOf 1 (aG Tryz.f11)) 0=o1
 generalize s8 (opsOf 1 (aG Tryz.f11)) 1=o2
 generalize opsOf 0 (aG Tryz.f11)=Wo
 generalize bV Tryz.f11=rest
 generalize Tryz.f11=fn
 intro uj QG hcd HV HQ Ff E5 hb0 Mr
 refine (K1 (H:=cP x) (B:=boxes (.full 0) (BD x) (.cells [ci 0] 3)) (T0:=T2 (.v (.one (.raw (.pointer none)))) (.full 0) (BD x) 2) (np:=7) (ne:=6) (ns:=5) (R:=rdQ BH (· =MC x)) (MY:=qD) (fm:= {fn with body:=some (gC [2,4] rest)}) az E5 rfl mixed HQ hb0 Mr ⟨by decide,by decide⟩ SN Ff uj rfl az rfl (fun ρ=>rfl) rfl (by show 11<23;decide) ⟨by decide,by decide⟩ rfl rfl HV rfl (fun r0=> ?_) XL hst).mono ?_
 ·have:=hcd r0
  rw [QG] at this
  exact this
 ·rintro e w' ⟨st,ρ',v,h1,h2,h3,h4,h5⟩
  exact ⟨st,ρ',v,h1,h2,h3,h5⟩
def Im (x:vv.T):List AV:=pt 0::VN (.full 3) x.2.2.2.2
theorem XK {x:vv.T} : ∀a∈Im x,a.ok (· <(jL x).length):=fun a ha=>by
 simp only [Im,VN,List.mem_cons,List.not_mem_nil,or_false] at ha
 rcases ha with rfl|rfl|rfl|rfl
 ·show 0<4;decide
 all_goals
  intro c hc
  simp only [List.mem_cons,List.not_mem_nil,or_false] at hc
 ·rcases hc with rfl|rfl|rfl|rfl|rfl<;>first|trivial|(show _<4;decide)
 ·rcases hc with rfl|rfl|rfl<;>trivial
 ·rcases hc with rfl|rfl|rfl<;>trivial
theorem TF: ∀v y,BH v=some y->v= .nC [.one (.raw (.int .i64 y.1)),.one (.raw (.int .i64 y.2))]:=by
 intro v y h
 unfold BH at h
 split at h
 ·cases h;rfl
 ·cases h
theorem ag1 (x:vv.T) (lp:List (Nat×bC)) (its:List (Nat×cX)) (ρ:Env) (K:AS->Prop):lP ⟨tt,bB,cy,lp,[],its⟩ (opsOf 0 (aG Tryz.f11)) false ⟨Im x++List.replicate (Tryz.f11.ntmps- (Im x).length) ck,jL x++ [.cw ρ (jL x).length]⟩ K=K ⟨T2 (pt 0) (.full 3) x.2.2.2.2 5,jL x++ .cw ρ (jL x).length::boxes (.full 3) x.2.2.2.2 (.cells [ci 0] 3)⟩:=by kernel_rfl
theorem W0 (x:vv.T) (hp:tg x) (aq:e8) (W:World) (aZ:Env) (w:World) (hbd:aq.bd= []) (hst:St aq W aZ (· <4) (ai (jL x)) w):
  Calls Tryz.prog 11 ((Im x).map (AV.ae aZ)).toArray w (Xr (r:= .prod dW dW) (fun y=> .nC [.one (.raw (.int .i64 y.1)),.one (.raw (.int .i64 y.2))]) (KO x) aq W aZ):=by
 obtain ⟨lp,its,hi,hl,ha,zb⟩:=abR x hp
 have uj:SA Tryz.prog ⟨tt,bB,cy,lp,[],its⟩ 30 (SC Tryz.prog (wL 9 8 3 (.int .i64 0))) [2,4] (bV Tryz.f11):=hl.lpG (ctx:=⟨tt,bB,cy,lp,[],its⟩) (fun p hp=>hp) ha
 have zb: ∀r0,goE ⟨tt,bB,cy,lp,[],its⟩ Tryz.Yr ((T2 (pt 0) (.full 3) x.2.2.2.2 5).set 11 .dead) (jL x++ .gone::boxes (.full 3) x.2.2.2.2 (.cells [ci 0] 3)++ [.cw r0 10]) (BJ 10 r0 (H9 ep BH (· =KO x))) (Dl 10 9 8 9 8 r0 fun st=>qj qD Tryz.f11 st (H9 ep BH (· =KO x))):=zb
 have QG:Tryz.f11.ntmps=23:=by kernel_rfl
 have hcd:=fun r0=>EZ SW (zb r0)
 have HV:=fun ρ=>(ag1 x lp its ρ (fun st=>st=⟨T2 (pt 0) (.full 3) x.2.2.2.2 5,jL x++ .cw ρ (jL x).length::boxes (.full 3) x.2.2.2.2 (.cells [ci 0] 3)⟩)).mpr rfl
 have HQ:Tryz.prog.funcs[11]? =some Tryz.f11:=by kernel_rfl
 have Ff:Js (bV Tryz.f11)=true:=by kernel_rfl
 have E5:fq Tryz.prog ⟨tt,bB,cy,lp,[],its⟩:=⟨eZ,nW.nil _,hi⟩
 have hb0:=PG
 have Mr:=Us
 clear zb hl ha hi
 revert Mr hb0 E5 Ff HQ HV hcd QG uj
 generalize s8 (opsOf 1 (aG Tryz.f11)) 0=o1
 generalize s8 (opsOf 1 (aG Tryz.f11)) 1=o2
 generalize opsOf 0 (aG Tryz.f11)=Wo
 generalize bV Tryz.f11=rest
 generalize Tryz.f11=fn
 intro uj QG hcd HV HQ Ff E5 hb0 Mr
 refine (K1 (H:=jL x) (B:=boxes (.full 3) x.2.2.2.2 (.cells [ci 0] 3)) (T0:=T2 (pt 0) (.full 3) x.2.2.2.2 5) (np:=10) (ne:=9) (ns:=8) (R:=H9 ep BH (· =KO x)) (MY:=qD) (fm:= {fn with body:=some (gC [2,4] rest)}) az E5 rfl mixed HQ hb0 Mr ⟨by decide,by decide⟩ SN Ff uj hbd az rfl (fun ρ=>rfl) rfl (by show 11<23;decide) ⟨by decide,by decide⟩ rfl rfl HV rfl (fun r0=> ?_) XK hst).mono ?_
 ·have:=hcd r0
  rw [QG] at this
  exact this
 ·rintro e w' ⟨st,ρ',v,h1,h2,h3,h4,h5⟩
  obtain ⟨y,z,u,a,b,hq,hE⟩:=JJ h3 (val:=fun y=> .nC [.one (.raw (.int .i64 y.1)),.one (.raw (.int .i64 y.2))]) TF
  have hq:(y,z,u,a,b)=KO x:=hq
  rw [<- hq]
  exact ⟨st,ρ',v,h1,hE,⟨h4 0 (by show 0<4;decide),h4 1 (by show 1<4;decide)⟩,h5⟩
def eI (x:bj.ty.T):vp.ty.T:=yq x
def cQ (x:bj.ty.T):Prop:=sK x
abbrev e7:cf:=⟨bj,vp,cQ,eI⟩
def sP (x:bj.ty.T):Ca.ty.T:=EL x
def jJ (x:bj.ty.T):Prop:=vI x
abbrev rJ:cf:=⟨bj,Ca,jJ,sP⟩
def jz (x:vv.T):XC.T:=KO x
def dr (x:vv.T):Prop:=tg x
abbrev jc:cf:=⟨.one vv,.one XC,dr,jz⟩
def rj (x:bj.ty.T):(Ty.prod dW dW).T:=MC x
def iq (x:bj.ty.T):Prop:=yI x
abbrev pR:cf:=⟨bj,.one (.prod dW dW),iq,rj⟩
def mtL:List AV->Option (Nat×Cell×Qb.T)
 | [.v (.one (.ptr n 0)),.v (.agg [.raw (.int .i64 a),.raw (.int .i64 b),.raw (.int .i64 c),.raw (.int .i64 d),cl]),.v (.agg [.raw (.int .i64 x),.raw (.int .i64 y),.raw (.int .i64 z)]),.v (.agg [.raw (.int .i64 u),.raw (.int .i64 v),.raw (.int .i64 w)])]=>some (n,cl,(a,b,c,d),(x,y,z),u,v,w)
 |_=>none
theorem agF: ∀args n cl y,mtL args=some (n,cl,y)->args=pt n::VN cl y:=by
 intro args n cl y h
 unfold mtL at h
 split at h
 ·cases h;rfl
 ·cases h
def Xu:Ev.Spec:=fun _ args hp nm k=>match mtL args with
 |some (n,cl,y)=>match hp n with
  |some (.cells [cL,.raw (.int .u32 dn),.raw (.int .i32 s),.raw (.int .u32 q),cT,.raw (.int .i64 a),.raw (.int .i64 b)] e)=>match uV hp fS cT with
   |some (T,rr)=>match fa hp (.one (.sl Sf)) [.v (.one cL)] with
    |some (L,[],tc,b0)=>match fa hp (.one (.sl uC)) [.v (.one cl)] with
     | some (Lt,[],ta,b1)=>if decide (e=80)&&(eB (n::rr)&&(oL tc (n::rr)&&oL ta (n::rr))) then
       ob (b0&&(b1&&(decide (s=0)&&decide (q=0)))) (jc.pre (L,T,Lt,(dn,a,b),y)/\ ∀z,z=jc.f (L,T,Lt,(dn,a,b),y)->
        k {val:= .nC [.one (.raw (.int .i64 z.1.1)),.one (.raw (.int .i64 z.1.2))],fresh:= [.row fS z.2.1 2],writes:=(n,.cells (wR cL (.full nm) (.int .u32 z.2.2.1) (.int .i32 0) (.int .u32 0) (.int .i64 z.2.2.2.1) (.int .i64 z.2.2.2.2)) 80)::rr.map fun r=>(r,.gone),aD:=(n::rr)++(tc++ta)}) else False
     |_=>False
    |_=>False
   |none=>False
  |_=>False
 |none=>False
theorem Xv:Xu=Tg (r:= .prod dW dW) mtL (fun y=> .nC [.one (.raw (.int .i64 y.1)),.one (.raw (.int .i64 y.2))]) tg KO:=rfl
theorem Xw:ah Tryz.prog 11 Xu:=by
 rw [Xv]
 exact NZ (A:=fun p c y=> .v (.one p)::VN c y) agF (fun y p c p' c' ρ ρ' h1 h2=>by
  simp only [VN,jA,pA,List.map_cons,List.map_nil,AV.ae,A0.ae,h1,h2];rfl) (fun y=>⟨fun _ _=>rfl,fun _ x hx=>by
   simp only [List.mem_cons,List.not_mem_nil,or_false] at hx
   rcases hx with rfl|rfl<;>trivial⟩) fun x hp aq W aZ w hbd hst=>W0 x hp aq W aZ w hbd hst
def Xy:Ev.Spec:=fun _ args hp nm k=>match args with
 | .v (.one (.raw (.pointer none)))::r=>match fa hp bj r with
  |some (x,[],tc,b)=>ob b (pR.pre x/\ ∀y,y=pR.f x->k {val:= .nC [.one (.raw (.int .i64 y.1)),.one (.raw (.int .i64 y.2))],aD:=tc})
  |_=>False
 |_=>False
theorem Xz:ah Tryz.prog 11 Xy:=by
 intro X args hp nm k hs
 unfold Xy at hs
 split at hs
 rotate_left
 ·exact hs.elim
 rename_i r
 split at hs
 rotate_left
 ·exact hs.elim
 rename_i x tc b hd
 obtain ⟨rfl,hpre,hk⟩:=bk hs
 refine ⟨_,⟨fun p eW=>absurd eW (by simp),?_⟩,hk _ rfl⟩
 intro aq W ρ Kn Γ w _ hok ht hfr hst
 obtain ⟨aZ,hb,hca⟩:=FL hd ht hst
 have hca:(Io x).map (AV.ae aZ)=(AV.v (.one (.raw (.pointer none)))::r).map (AV.ae ρ):=by
  simp only [Io,List.map_cons,hca];rfl
 rw [<- hca]
 refine (Sg x hpre aZ w hb).mono ?_
 rintro e w' ⟨st,aX,v,rfl,hv,hR,jW⟩
 unfold rdQ at hR
 split at hR
 rotate_left
 ·exact hR.elim
 rename_i y hy
 have hR:y=MC x:=hR
 rw [TF _ _ hy,hR]
 refine ⟨ρ,rfl,fun _ _=>rfl,fun c hc=> ?_,by rw [fh,nY];exact hst.called jW.fr⟩
 simp only [List.mem_cons,List.not_mem_nil,or_false] at hc
 rcases hc with rfl|rfl<;>trivial
def afb:Ev.Spec:=fun X args hp nm k=>match args with
 | .v (.one (.raw _))::_=>Xy X args hp nm k
 |_=>Xu X args hp nm k
theorem abT:ah Tryz.prog 11 afb:=by
 intro X args hp nm k h
 unfold afb at h
 split at h
 ·exact Xz X _ hp nm k h
 ·exact Xw X _ hp nm k h
theorem WR:ah Tryz.prog 12 (ak e7):=ah.Tw (by kernel_rfl) fun x hp aZ w hst=>Px x hp aZ w hst
theorem Yn:ah Tryz.prog 15 (ak rJ):=ah.Tw (by kernel_rfl) fun x hp aZ w hst=>Qu x hp aZ w hst
theorem WS:ah Tryz.prog 12 (ak e7):=WR
theorem Yo:ah Tryz.prog 15 (ak rJ):=Yn
def Kr:List (Nat×Ev.Spec):=(12,ak e7)::bB
theorem Mc:af Tryz.prog Kr:=af.add (fn:=Tryz.f12) (by kernel_rfl) WS eZ
def OS:List (Nat×Ev.Spec):=(15,ak rJ)::Kr
theorem OT:af Tryz.prog OS:=af.add (fn:=Tryz.f15) (by kernel_rfl) Yo Mc
def TN:List (Nat×Ev.Spec):=(11,afb)::OS
theorem Gd:af Tryz.prog TN:=af.add (fn:=Tryz.f11) (by kernel_rfl) abT OT
end Go.Proofs.YtngdehlpoomaiaaGreat
namespace Go.Proofs.YtngdehlpoomaiaaGreat
open Go Go.Ev Go.Proofs
def ahY (x:I9):Bool:=
 (aj (ef [x.1,x.2.1,x.2.2]) fun y=>
 (!y))
def M9 (x:I9):Prop:=
 (cA [x.1,x.2.1,x.2.2])
def afF (x:I9):Tr Bool true:=
 (.fn ej [x.1,x.2.1,x.2.2] fun y=>
 (.ret (!y)))
abbrev Le:cf:=⟨(.agg ff),(.one Ty.bool),M9,ahY⟩
theorem acs:ah Tryz.prog 25 (ak Le):=ah.tr Le afF (fn:=Tryz.f25) az Gd mixed (by kernel_rfl) (av.nil _ _) (fun x=>ax.nil) (fun x=>(by kernel_rfl)) fun x Q=>(by kernel_rfl)
def TS:List (Nat×Ev.Spec):=(25,ak Le)::TN
theorem ym:af Tryz.prog TS:=af.add (fn:=Tryz.f25) (by kernel_rfl) acs Gd
def I4 (x:(List I9×Bool)):aL:=⟨[],⟨dL 19 0 [(0,.v (.one (.full 0))),(1,.v (.one (.iT 25 0 []))),(7,.v (.one (.i .i64))),(8,.v (.one (.i .i64)))],[.row ff 0],0,none,[],[0,2],[1],[.i],[.i (x.1.length:Int),.l ff x.1]⟩,[⟨.ret,.ret,⟨dL 19 0 [(4,.v (.one (.i .i64)))],[],0,none,[],[],[0],[.i],[]⟩⟩,⟨(.exit 0),.normal,⟨dL 19 0 [],[],0,none,[],[],[],[],[]⟩⟩]⟩
def uu (x:(List I9×Bool)) (s:Int):Int⊕(Int⊕Unit):=
 (if (s<(x.1.length:Int)) then
 (aj (ahY (x.1.getD s.toNat ((0,0,0),(0,0,0),0,0,0))) fun y=>
 (if (y=true) then
 (Sum.inr (Sum.inl s)) else
 (Sum.inl (au (s+1))))) else
 (Sum.inr (Sum.inr (()))))
def HY (x:(List I9×Bool)) (s:Int):Prop:=
 ((s<(x.1.length:Int))->
 (((0<=s)/\ (s<(x.1.length:Int)))/\
 ((s.toNat<x.1.length)/\
 ((s.toNat<x.1.length)/\
 (M9 (x.1.getD s.toNat ((0,0,0),(0,0,0),0,0,0)))))))
def Ci (x:(List I9×Bool)) (s:Int):Tr (Int⊕(Int⊕Unit)) true:=
 (.i10 (s<(nL x.1))
 (.nc s x.1
 (.fn Le (gT x.1 s My) fun y=>
 (.iQ y
 (.ret (.inr (Sum.inl s)))
 (.ret (.inl (w1 s))))))
 (.ret (.inr (Sum.inr (())))))
def Zm (x:(List I9×Bool)):Int:=
 (aj (run (uu x) 0) fun r=>
 (Sum.elim (fun a=>
 a) (fun b=>
 (-1)) r))
def Fo (x:(List I9×Bool)):Prop:=
 (Term (uu x) (HY x) 0)
def Zn (x:(List I9×Bool)):Tr Int true:=
 (aL.lp (I4 x) (Ci x) z0 fun r=>
 (.OD r (fun a=>
 (.ret a)) (fun b=>
 (.ret (-1)))))
abbrev ur:cf:=⟨(.pair (.one (Ty.sl ff)) (.iT 25 .none)),(.one yi),Fo,Zm⟩
theorem VF:ah Tryz.prog 59 (ak ur):=ah.tr ur Zn (fn:=Tryz.f59) az ym mixed (by kernel_rfl) (av.nil _ _) (fun x=>(ax.tr az (af.eA ym (av.nil _ _)) mixed 0 (I4 x) (Ci x) ax.nil (by kernel_rfl) fun g s Q=>(by kernel_rfl))) (fun x=>(by kernel_rfl)) fun x Q=>(by kernel_rfl)
def J6:List (Nat×Ev.Spec):=(59,vA ur.p (ak ur) (ak uq))::TS
theorem Ap:af Tryz.prog J6:=af.add (fn:=Tryz.f59) (by kernel_rfl) (ry VF (I1)) ym
def bA (x:(List I9×Bool)):Bool:=
 (aj (Zm (x.1,false)) fun y=>
 (decide (y>=0)))
def bJ (x:(List I9×Bool)):Prop:=
 (Fo (x.1,false))
def MU (x:(List I9×Bool)):Tr Bool true:=
 (.fn ur (x.1,false) fun y=>
 (.ret (decide (y>=z0))))
abbrev bY:cf:=⟨(.pair (.one (Ty.sl ff)) (.iT 25 .none)),(.one Ty.bool),bJ,bA⟩
theorem K5:ah Tryz.prog 27 (ak bY):=ah.tr bY MU (fn:=Tryz.f27) az Ap mixed (by kernel_rfl) (av.nil _ _) (fun x=>ax.nil) (fun x=>(by kernel_rfl)) fun x Q=>(by kernel_rfl)
def Af:List (Nat×Ev.Spec):=(27,vA bY.p (ak bY) (ak lZ))::J6
theorem sU:af Tryz.prog Af:=af.add (fn:=Tryz.f27) (by kernel_rfl) (ry K5 (yO)) Ap
def dF (x:(List I9)):(List I9):=
 ((List.replicate 0 (((0:Int),(0:Int),(0:Int)),((0:Int),(0:Int),(0:Int)),0,0,0))++x)
def cO (x:(List I9)):Prop:=
 (∀b:Bool,((0<x.length)->(b=false))->(((if (b=true) then
 [] else
 ((List.replicate 0 (((0:Int),(0:Int),(0:Int)),((0:Int),(0:Int),(0:Int)),0,0,0))++x))=((List.replicate 0 (((0:Int),(0:Int),(0:Int)),((0:Int),(0:Int),(0:Int)),0,0,0))++x))/\ (¬(b=true)->
 ((0+x.length)<1099511627776))))
def X6 (x:(List I9)):Tr (List I9) true:=
 (.nil (fun b=>((0<x.length)->(b=false))) fun b=>
 (.kO b
 (.ret [])
 (.od ((0+x.length)<1099511627776)
 (.ret ((List.replicate 0 My)++x)))))
abbrev eN:cf:=⟨(.one (Ty.sl ff)),(.one (Ty.sl ff)),cO,dF⟩
theorem UO:ah Tryz.prog 28 (ak eN):=ah.tr eN X6 (fn:=Tryz.f28) az sU mixed (by kernel_rfl) (av.dead 28 (fn:=Tryz.f28) (by kernel_rfl)) (fun x=>ax.nil) (fun x=>(by kernel_rfl)) fun x Q=>(by kernel_rfl)
def JT:List (Nat×Ev.Spec):=(28,ak eN)::Af
theorem Ac:af Tryz.prog JT:=af.add (fn:=Tryz.f28) (by kernel_rfl) UO sU
def wV (x:(List I9×Int×Int×Int×Int×List (Int×I3×I3×I2))):Bool:=
 (if ((x.1.length:Int)<=8) then
 (if ((x.2.2.2.2.2.length:Int)<=10) then
 (if (x.2.1<=12) then
 true else
 (decide (x.2.1>64))) else
 false) else
 false)
def Vf (_:(List I9×Int×Int×Int×Int×List (Int×I3×I3×I2))):Prop:=True
def acw (x:(List I9×Int×Int×Int×Int×List (Int×I3×I3×I2))):Tr Bool false:=
 (.oq ((nL x.1)<=8)
 (.oq ((nL x.2.2.2.2.2)<=10)
 (.oq (x.2.1<=12)
 (.ret true)
 (.ret (decide (x.2.1>64))))
 (.ret false))
 (.ret false))
abbrev yX:cf:=⟨(.pair (.one (Ty.sl ff)) (.agg (Ty.prod yi (Ty.prod yi (Ty.prod yi (Ty.prod yi (Ty.sl (Ty.prod yi (Ty.prod aO (Ty.prod aO gZ)))))))))),(.one Ty.bool),Vf,wV⟩
theorem Ys:ah Tryz.prog 8 (ak yX):=ah.tr yX acw (fn:=Tryz.f8) az Ac mixed (by kernel_rfl) (av.nil _ _) (fun x=>ax.nil) (fun x=>(by kernel_rfl)) fun x Q=>(by kernel_rfl)
def OU:List (Nat×Ev.Spec):=(8,ak yX)::JT
theorem uZ:af Tryz.prog OU:=af.add (fn:=Tryz.f8) (by kernel_rfl) Ys Ac
def Ni:HF Tryz.prog:=⟨_,(av.walk az uZ mixed 9 (fn:=Tryz.f9) (by kernel_rfl) (av.nil _ _) fun ys hy=>ax.nil)⟩
def bp (x:Bool):Bool:=
 (aj (bA ([],false)) fun y=>
 (if (y=true) then
 (aj (bA ([(((-4000),(-4000),100),(4000,(-4000),100),0,8000,100)],false)) fun aA=>
 (if (aA=true) then
 (aj (rj ((4,512,0,100,[]),(0,0,0),0,0,1)) fun y_2=>
 (aj (rj ((4,512,0,100,[]),(0,0,0),0,0,1)) fun bg=>
 (aj (eI ((0,0,10,0,[]),(5,0,0),0,0,1)) fun bW=>
 (aj (rj ((4,512,0,100,[]),(0,0,0),0,0,1)) fun cC=>
 (aj (eI ((4,512,0,100,[]),(4161,0,0),0,0,1)) fun fP=>
 false))))) else
 (aj (dF [(((-4000),(-4000),100),(4000,(-4000),100),0,8000,100)]) fun y_2=>
 (aj (rj ((4,512,0,100,[]),(0,0,0),0,0,1)) fun bg=>
 (aj (jz (y_2,[],[],(0,0,0),(4,512,0,100),(0,0,0),0,0,1)) fun bW=>
 (aj (eI ((0,0,10,0,[]),(5,0,0),0,0,1)) fun cC=>
 (aj (rj ((4,512,0,100,[]),(0,0,0),0,0,1)) fun fP=>
 (aj (eI ((4,512,0,100,[]),(4161,0,0),0,0,1)) fun ig=>
 false)))))))) else
 (aj (dF []) fun aA=>
 (aj (bA ([(((-4000),(-4000),100),(4000,(-4000),100),0,8000,100)],false)) fun y_2=>
 (if (y_2=true) then
 (aj (jz (aA,[],[],(0,0,0),(4,512,0,100),(0,0,0),0,0,1)) fun bg=>
 (aj (rj ((4,512,0,100,[]),(0,0,0),0,0,1)) fun bW=>
 (aj (eI ((0,0,10,0,[]),(5,0,0),0,0,1)) fun cC=>
 (aj (rj ((4,512,0,100,[]),(0,0,0),0,0,1)) fun fP=>
 (aj (eI ((4,512,0,100,[]),(4161,0,0),0,0,1)) fun ig=>
 false))))) else
 (aj (dF [(((-4000),(-4000),100),(4000,(-4000),100),0,8000,100)]) fun bg=>
 (aj (jz (aA,[],[],(0,0,0),(4,512,0,100),(0,0,0),0,0,1)) fun bW=>
 (aj (jz (bg,[],[],(0,0,0),(4,512,0,100),(0,0,0),0,0,1)) fun cC=>
 (aj (eI ((0,0,10,0,[]),(5,0,0),0,0,1)) fun fP=>
 (aj (rj ((4,512,0,100,[]),(0,0,0),0,0,1)) fun ig=>
 (aj (eI ((4,512,0,100,[]),(4161,0,0),0,0,1)) fun wN=>
 (if ((bW.1.2==0)=true) then
 (if ((bW.1.1==100)=true) then
 (if ((cC.1.2==0)=true) then
 (if ((cC.1.1==0)=true) then
 (if ((fP.2==0)=true) then
 (if (((fP.1.1==5)&&((fP.1.2.1==0)&&((fP.1.2.2==10)&&true)))=true) then
 (if ((ig.2==1)=true) then
 (if ((wN.2==5)=true) then
 (aj (gis (4,512,0,100,[])) fun Dp=>
 (if (Dp=true) then
 (aj false fun ahb=>
 (!ahb)) else
 false)) else
 false) else
 false) else
 false) else
 false) else
 false) else
 false) else
 false) else
 false))))))))))))
def aJ (x:Bool):Prop:=
 ((bJ ([],false))/\
 aB (bA ([],false)) fun y=>
 (((y=true)->
 ((bJ ([(((-4000),(-4000),100),(4000,(-4000),100),0,8000,100)],false))/\
 aB (bA ([(((-4000),(-4000),100),(4000,(-4000),100),0,8000,100)],false)) fun aA=>
 (((aA=true)->
 ((iq ((4,512,0,100,[]),(0,0,0),0,0,1))/\
 aB (rj ((4,512,0,100,[]),(0,0,0),0,0,1)) fun y_2=>
 ((iq ((4,512,0,100,[]),(0,0,0),0,0,1))/\
 aB (rj ((4,512,0,100,[]),(0,0,0),0,0,1)) fun bg=>
 ((cQ ((0,0,10,0,[]),(5,0,0),0,0,1))/\
 aB (eI ((0,0,10,0,[]),(5,0,0),0,0,1)) fun bW=>
 ((iq ((4,512,0,100,[]),(0,0,0),0,0,1))/\
 aB (rj ((4,512,0,100,[]),(0,0,0),0,0,1)) fun cC=>
 (cQ ((4,512,0,100,[]),(4161,0,0),0,0,1)))))))/\
 (¬(aA=true)->
 ((cO [(((-4000),(-4000),100),(4000,(-4000),100),0,8000,100)])/\
 aB (dF [(((-4000),(-4000),100),(4000,(-4000),100),0,8000,100)]) fun y_2=>
 ((iq ((4,512,0,100,[]),(0,0,0),0,0,1))/\
 aB (rj ((4,512,0,100,[]),(0,0,0),0,0,1)) fun bg=>
 ((dr (y_2,[],[],(0,0,0),(4,512,0,100),(0,0,0),0,0,1))/\
 aB (jz (y_2,[],[],(0,0,0),(4,512,0,100),(0,0,0),0,0,1)) fun bW=>
 ((cQ ((0,0,10,0,[]),(5,0,0),0,0,1))/\
 aB (eI ((0,0,10,0,[]),(5,0,0),0,0,1)) fun cC=>
 ((iq ((4,512,0,100,[]),(0,0,0),0,0,1))/\
 aB (rj ((4,512,0,100,[]),(0,0,0),0,0,1)) fun fP=>
 (cQ ((4,512,0,100,[]),(4161,0,0),0,0,1)))))))))))/\
 (¬(y=true)->
 ((cO [])/\
 aB (dF []) fun aA=>
 ((bJ ([(((-4000),(-4000),100),(4000,(-4000),100),0,8000,100)],false))/\
 aB (bA ([(((-4000),(-4000),100),(4000,(-4000),100),0,8000,100)],false)) fun y_2=>
 (((y_2=true)->
 ((dr (aA,[],[],(0,0,0),(4,512,0,100),(0,0,0),0,0,1))/\
 aB (jz (aA,[],[],(0,0,0),(4,512,0,100),(0,0,0),0,0,1)) fun bg=>
 ((iq ((4,512,0,100,[]),(0,0,0),0,0,1))/\
 aB (rj ((4,512,0,100,[]),(0,0,0),0,0,1)) fun bW=>
 ((cQ ((0,0,10,0,[]),(5,0,0),0,0,1))/\
 aB (eI ((0,0,10,0,[]),(5,0,0),0,0,1)) fun cC=>
 ((iq ((4,512,0,100,[]),(0,0,0),0,0,1))/\
 aB (rj ((4,512,0,100,[]),(0,0,0),0,0,1)) fun fP=>
 (cQ ((4,512,0,100,[]),(4161,0,0),0,0,1)))))))/\
 (¬(y_2=true)->
 ((cO [(((-4000),(-4000),100),(4000,(-4000),100),0,8000,100)])/\
 aB (dF [(((-4000),(-4000),100),(4000,(-4000),100),0,8000,100)]) fun bg=>
 ((dr (aA,[],[],(0,0,0),(4,512,0,100),(0,0,0),0,0,1))/\
 aB (jz (aA,[],[],(0,0,0),(4,512,0,100),(0,0,0),0,0,1)) fun bW=>
 ((dr (bg,[],[],(0,0,0),(4,512,0,100),(0,0,0),0,0,1))/\
 aB (jz (bg,[],[],(0,0,0),(4,512,0,100),(0,0,0),0,0,1)) fun cC=>
 ((cQ ((0,0,10,0,[]),(5,0,0),0,0,1))/\
 aB (eI ((0,0,10,0,[]),(5,0,0),0,0,1)) fun fP=>
 ((iq ((4,512,0,100,[]),(0,0,0),0,0,1))/\
 aB (rj ((4,512,0,100,[]),(0,0,0),0,0,1)) fun ig=>
 ((cQ ((4,512,0,100,[]),(4161,0,0),0,0,1))/\
 aB (eI ((4,512,0,100,[]),(4161,0,0),0,0,1)) fun wN=>
 (((bW.1.2==0)=true)->
 (((bW.1.1==100)=true)->
 (((cC.1.2==0)=true)->
 (((cC.1.1==0)=true)->
 (((fP.2==0)=true)->
 ((((fP.1.1==5)&&((fP.1.2.1==0)&&((fP.1.2.2==10)&&true)))=true)->
 (((ig.2==1)=true)->
 (((wN.2==5)=true)->
 ((vR (4,512,0,100,[]))/\
 aB (gis (4,512,0,100,[])) fun Dp=>
 ((Dp=true)->
 (vR (65,0,0,0,[])))))))))))))))))))))))))
def QB (x:Bool):Tr Bool true:=
 (.qz
 (.fn bY ([],false) fun y=>
 (.Dq y
 (.pn 0 3
 (.qz
 (.fn bY ([(((-4000),(-4000),100),(4000,(-4000),100),z0,8000,100)],false) fun aA=>
 (.Dq aA
 (.pn 1 5
 (.fn pR ((4,512,z0,100,[]),bH,z0,z0,z1) fun y_2=>
 (.fn pR ((4,512,z0,100,[]),bH,z0,z0,z1) fun bg=>
 (.fn e7 ((z0,z0,10,z0,[]),(5,A2),z0,z0,z1) fun bW=>
 (.fn pR ((4,512,z0,100,[]),bH,z0,z0,z1) fun cC=>
 (.fn e7 ((4,512,z0,100,[]),(4161,A2),z0,z0,z1) fun fP=>
 (.ret false)))))))
 (.fn eN [(((-4000),(-4000),100),(4000,(-4000),100),z0,8000,100)] fun y_2=>
 (.pn 1 5
 (.fn pR ((4,512,z0,100,[]),bH,z0,z0,z1) fun bg=>
 (.fn jc (y_2,[],[],bH,(4,512,z0,100),bH,z0,z0,z1) fun bW=>
 (.fn e7 ((z0,z0,10,z0,[]),(5,A2),z0,z0,z1) fun cC=>
 (.fn pR ((4,512,z0,100,[]),bH,z0,z0,z1) fun fP=>
 (.fn e7 ((4,512,z0,100,[]),(4161,A2),z0,z0,z1) fun ig=>
 (.ret false))))))))))))
 (.fn eN [] fun aA=>
 (.pn 0 3
 (.qz
 (.fn bY ([(((-4000),(-4000),100),(4000,(-4000),100),z0,8000,100)],false) fun y_2=>
 (.Dq y_2
 (.pn 1 7
 (.fn jc (aA,[],[],bH,(4,512,z0,100),bH,z0,z0,z1) fun bg=>
 (.fn pR ((4,512,z0,100,[]),bH,z0,z0,z1) fun bW=>
 (.fn e7 ((z0,z0,10,z0,[]),(5,A2),z0,z0,z1) fun cC=>
 (.fn pR ((4,512,z0,100,[]),bH,z0,z0,z1) fun fP=>
 (.fn e7 ((4,512,z0,100,[]),(4161,A2),z0,z0,z1) fun ig=>
 (.ret false)))))))
 (.fn eN [(((-4000),(-4000),100),(4000,(-4000),100),z0,8000,100)] fun bg=>
 (.pn 1 7
 (.fn jc (aA,[],[],bH,(4,512,z0,100),bH,z0,z0,z1) fun bW=>
 (.fn jc (bg,[],[],bH,(4,512,z0,100),bH,z0,z0,z1) fun cC=>
 (.fn e7 ((z0,z0,10,z0,[]),(5,A2),z0,z0,z1) fun fP=>
 (.fn pR ((4,512,z0,100,[]),bH,z0,z0,z1) fun ig=>
 (.fn e7 ((4,512,z0,100,[]),(4161,A2),z0,z0,z1) fun wN=>
 (.Db (bW.1.2==z0)
 (.Db (bW.1.1==100)
 (.Db (cC.1.2==z0)
 (.Db (cC.1.1==z0)
 (.Db (fP.2==z0)
 (.Db ((fP.1.1==5)&&((fP.1.2.1==z0)&&((fP.1.2.2==10)&&true)))
 (.Db (ig.2==z1)
 (.Db (wN.2==5)
 (.fn IN (4,512,z0,100,[]) fun Dp=>
 (.Db Dp
 (.fn IN (65,z0,z0,z0,[]) fun ahb=>
 (.ret (!ahb)))
 (.ret false)))
 (.ret false))
 (.ret false))
 (.ret false))
 (.ret false))
 (.ret false))
 (.ret false))
 (.ret false))
 (.ret false)))))))))))))))))
abbrev aQ:cf:=⟨.none,(.one Ty.bool),aJ,bp⟩
theorem Nj:ah Tryz.prog 10 (ak aQ):=ah.tr aQ QB (fn:=Tryz.f10) az uZ mixed (by kernel_rfl) Ni.ok (fun x=>ax.nil) (fun x=>(by kernel_rfl)) fun x Q=>(by kernel_rfl)
def OY:List (Nat×Ev.Spec):=(10,ak aQ)::OU
theorem ek:af Tryz.prog OY:=af.add (fn:=Tryz.f10) (by kernel_rfl) Nj uZ
end Go.Proofs.YtngdehlpoomaiaaGreat
