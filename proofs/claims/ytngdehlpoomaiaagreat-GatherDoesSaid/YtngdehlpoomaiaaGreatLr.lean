/- gather.Values: a made-up function behind the deferring. -/
import Derived.Test.YtngdehlpoomaiaaGreatMd
noncomputable section
set_option linter.unusedSectionVars false
set_option linter.unusedVariables false
set_option linter.unusedSimpArgs false
namespace Go.Proofs.YtngdehlpoomaiaaGreat
open Go Go.Ev Go.Proofs
abbrev mo:Type:=(List I9×(Int×Int×Int×Int×List (Int×I3×I3×I2))×List (Int×Int×Int×I3))
abbrev Fv:Type:=(List Int×List I9×Int×List ((I3×I3)×Int×Int×List Int)×I3)
def alO:Ctx:=⟨tt,fC,cf,[],[],[]⟩
abbrev ajY:Ty:= .prod dD (.prod dD (.prod dD v3Y))
def rj:mG:= .pair (.one (.sl OQ)) (.pair (.agg amT) (.one (.sl ajY)))
def I5:mG:= .pair (.one (.sl dD)) (.one dD)
abbrev VsA:Type:=List OQ.T×(amT.T×List ajY.T)
def asF (j:amT.T):Wi.T:=((j.1,j.2.1,j.2.2.1,j.2.2.2.1),(0,0,0),0,0,0)
def A4 (x:VsA):List aD:= [.row OQ x.1 0,.row vq x.2.1.2.2.2.2 0,.row ajY x.2.2 0]
def TS (x:VsA):List AV:= [.v (.one (.full 0)),jA (.full 1) (asF x.2.1),.v (.one (.full 2)),ck,pt 4,ck,pt 5,pt 6]++List.replicate 57 ck
def ag7 (x:VsA):List aD:= [.cells (alB (jA (.full 1) (asF x.2.1))) 25,.cells [.raw Gs] 38,.cells [ci 0] 30]
def ark:PX:=⟨rj,.prod (.sl dD) dD,fun x=>(TS x).set 13 .dead,fun x r0=>A4 x++ .gone::ag7 x++ [.cg r0 7],fun _ r0 Q=>Ct 7 r0 (l9 I5 Q),fun _ r0 Q=>DP 7 7 6 6 5 r0 fun st=>qX mR Tryz.f16 st (l9 I5 Q)⟩
noncomputable def Tryz.apa:Func:= {Tryz.f16 with body:=some (gC [5,15] (bq Tryz.f16))}
noncomputable def auP:List (Nat×br):= [(1000005,Pw alO (opsOf 5 (bq Tryz.f16)) 1 41 Tq (Tn mR (s7 7 6 38 Gs))),(1000015,aok alO (opsOf 15 (bq Tryz.f16)) 11 31 Gw (Tn mR (s7 7 6 38 Gs)))]
theorem amB:jg Tryz.prog cf 30 (UL Tryz.prog (s7 7 6 38 Gs)) [5,15] (bq Tryz.f16) auP:=by
 refine jg.cons (d:= .region 5 (opsOf 5 (bq Tryz.f16)) false) (jg.cons (d:= .region 15 (opsOf 15 (bq Tryz.f16)) true) jg.nil (by kernel_rfl) ?_) (by kernel_rfl) ?_
 ·exact ais (ctx:=alO) bt (aj.ctx eO) mixed JA Aj (vC (ctx:=mR) bt _)
 ·exact xW (ctx:=alO) bt (aj.ctx eO) mixed (b9.of (fn:=Tryz.f41) (by kernel_rfl) (by kernel_rfl) (by kernel_rfl)) Qk (vC (ctx:=mR) bt _)
def Kt:Od Tryz.prog:=⟨_,(aH.walk bt eO mixed 9 (fn:=Tryz.f9) (by kernel_rfl) (aH.nil _ _) fun ys hy=>aK.nil)⟩
def Ku (x:mo):aI:=⟨[.env],⟨cj 65 0 [(0,.v (.one (.full 0))),(2,.v (.one (.full 2))),(4,.v (.one (.ptr 4 0))),(6,.v (.one (.ptr 5 0))),(7,.v (.one (.ptr 6 0))),(8,.v (.one (.ptr 8 0))),(24,.v (.one (.full 2))),(25,.v (.one (.i .i64))),(26,.v (.one (.i .i64)))],[.row cO 0,.row (Ty.prod yi (Ty.prod aG (Ty.prod aG dh))) 0,.row (Ty.prod yi (Ty.prod yi (Ty.prod yi aG))) 0,.gone,.cells [.i .i64,.i .i64,.i .i64,.i .i64,.full 1] 25,.cells [.raw] 38,.cells [.i .i64] 30,.cg 7,.cells [.full 9,.i IntKind.u32,.i IntKind.i32,.i IntKind.u32,.raw,.i .i64,.i .i64] 80,.row cO 2],8,none,[11],[0,2,3,4,5,6,7,8,9,10,12,13,14,15,16,17],[18,1],[(.l cO),.i],[.i (x.2.2.length:Int),.l cO x.1,.l (Ty.prod yi (Ty.prod aG (Ty.prod aG dh))) x.2.1.2.2.2.2,.l (Ty.prod yi (Ty.prod yi (Ty.prod yi aG))) x.2.2,.i x.2.1.1,.i x.2.1.2.1,.i x.2.1.2.2.1,.i x.2.1.2.2.2.1,.v (.slice none 0 0),.i 0,.i 0,.i 0,.i 0,.v (.slice none 0 0),.i 0,.i 0]⟩,[⟨.ret,.ret,⟨cj 65 0 [(6,.v (.one (.ptr 5 0))),(7,.v (.one (.ptr 6 0)))],[.row cO 0,.row (Ty.prod yi (Ty.prod aG (Ty.prod aG dh))) 0,.row (Ty.prod yi (Ty.prod yi (Ty.prod yi aG))) 0,.gone,.cells [.i .i64,.i .i64,.i .i64,.i .i64,.full 1] 25,.cells [.raw] 38,.cells [.i .i64] 30,.cg 7],8,none,[9],[0,1,2,3,4,5,6,7,8],[],[],[.l cO x.1,.l (Ty.prod yi (Ty.prod aG (Ty.prod aG dh))) x.2.1.2.2.2.2,.l (Ty.prod yi (Ty.prod yi (Ty.prod yi aG))) x.2.2,.i x.2.1.1,.i x.2.1.2.1,.i x.2.1.2.2.1,.i x.2.1.2.2.2.1,.v (.slice none 0 0),.i 1]⟩⟩,⟨(.exit 0),.normal,⟨cj 65 0 [(0,.v (.one (.full 0))),(2,.v (.one (.full 2))),(4,.v (.one (.ptr 4 0))),(6,.v (.one (.ptr 5 0))),(7,.v (.one (.ptr 6 0))),(8,.v (.one (.ptr 8 0)))],[.row cO 0,.row (Ty.prod yi (Ty.prod aG (Ty.prod aG dh))) 0,.row (Ty.prod yi (Ty.prod yi (Ty.prod yi aG))) 0,.gone,.cells [.i .i64,.i .i64,.i .i64,.i .i64,.full 1] 25,.cells [.raw] 38,.cells [.i .i64] 30,.cg 7,.cells [.full 9,.i IntKind.u32,.i IntKind.i32,.i IntKind.u32,.raw,.i .i64,.i .i64] 80,.row cO 2],8,none,[9],[0,1,2,3,4,5,6,7,8,10,11,12,13,14,15],[16],[(.l cO)],[.l cO x.1,.l (Ty.prod yi (Ty.prod aG (Ty.prod aG dh))) x.2.1.2.2.2.2,.l (Ty.prod yi (Ty.prod yi (Ty.prod yi aG))) x.2.2,.i x.2.1.1,.i x.2.1.2.1,.i x.2.1.2.2.1,.i x.2.1.2.2.2.1,.v (.slice none 0 0),.i 0,.i 0,.i 0,.i 0,.v (.slice none 0 0),.i 0,.i 0]⟩⟩]⟩
def gN (x:mo) (s:(List I9×Int)):Tr ((List I9×Int)⊕(Unit⊕(List I9))) true:=
 (.i10 (s.2<(x.2.2.length:Int))
 (.oR s.2 (x.2.2.length:Int)
 (.od (s.2.toNat<x.2.2.length)
 (.od (s.2.toNat<x.2.2.length)
 (.iz ((x.2.2.getD s.2.toNat (0,0,0,bn)).2.2.1<0)
 (.ret (.inr (Sum.inl ())))
 (.iz ((x.2.2.getD s.2.toNat (0,0,0,bn)).2.2.1>=(x.1.length:Int))
 (.ret (.inr (Sum.inl ())))
 (.ret (.inl (s.1,(au (s.2+1))))))))))
 (.ret (.inr (Sum.inr (s.1)))))
abbrev eX (x:mo) (s:(List I9×Int)):(List I9×Int)⊕(Unit⊕(List I9)):=(gN x s).val
abbrev lF (x:mo) (s:(List I9×Int)):Prop:=(gN x s).pre
def Kv (x:mo):aI:=⟨[.env],⟨cj 65 0 [(0,.v (.one (.full 0))),(4,.v (.one (.ptr 4 0))),(6,.v (.one (.ptr 5 0))),(7,.v (.one (.ptr 6 0))),(8,.v (.one (.ptr 9 0))),(41,.v (.one (.full 2))),(42,.v (.one (.i .i64))),(43,.v (.one (.i .i64)))],[.row cO 0,.row (Ty.prod yi (Ty.prod aG (Ty.prod aG dh))) 0,.row (Ty.prod yi (Ty.prod yi (Ty.prod yi aG))) 0,.gone,.cells [.i .i64,.i .i64,.i .i64,.i .i64,.full 1] 25,.cells [.full 8] 38,.cells [.i .i64] 30,.cg 7,.row yi 2,.cells [.full 10,.i IntKind.u32,.i IntKind.i32,.i IntKind.u32,.full 11,.i .i64,.i .i64] 80,.row cO 2,.row (Ty.prod (Ty.prod aG aG) (Ty.prod yi (Ty.prod yi (Ty.sl yi)))) 2],8,none,[10],[0,2,3,4,5,6,7,8,9,13,14],[11,17,12,18,15,16,1],[(.l yi),(.l cO),.i,(.l (Ty.prod (Ty.prod aG aG) (Ty.prod yi (Ty.prod yi (Ty.sl yi))))),.i,.i,.i],[.i (x.2.2.length:Int),.l cO x.1,.l (Ty.prod yi (Ty.prod aG (Ty.prod aG dh))) x.2.1.2.2.2.2,.l (Ty.prod yi (Ty.prod yi (Ty.prod yi aG))) x.2.2,.i x.2.1.1,.i x.2.1.2.1,.i x.2.1.2.2.1,.i x.2.1.2.2.2.1,.i 0,.i 0,.i 0]⟩,[⟨(.exit 999983),(.exit 999983),⟨cj 65 0 [(6,.v (.one (.ptr 5 0))),(7,.v (.one (.ptr 6 0)))],[.row cO 0,.row (Ty.prod yi (Ty.prod aG (Ty.prod aG dh))) 0,.row (Ty.prod yi (Ty.prod yi (Ty.prod yi aG))) 0,.gone,.cells [.i .i64,.i .i64,.i .i64,.i .i64,.full 1] 25,.cells [.raw] 38,.cells [.i .i64] 30,.cg 7],8,none,[9],[0,1,2,3,4,5,6,7],[8],[.i],[.l cO x.1,.l (Ty.prod yi (Ty.prod aG (Ty.prod aG dh))) x.2.1.2.2.2.2,.l (Ty.prod yi (Ty.prod yi (Ty.prod yi aG))) x.2.2,.i x.2.1.1,.i x.2.1.2.1,.i x.2.1.2.2.1,.i x.2.1.2.2.2.1,.v (.slice none 0 0)]⟩⟩,⟨(.exit 2),.normal,⟨cj 65 0 [(6,.v (.one (.ptr 5 0))),(7,.v (.one (.ptr 6 0)))],[.row cO 0,.row (Ty.prod yi (Ty.prod aG (Ty.prod aG dh))) 0,.row (Ty.prod yi (Ty.prod yi (Ty.prod yi aG))) 0,.gone,.cells [.i .i64,.i .i64,.i .i64,.i .i64,.full 1] 25,.cells [.full 8] 38,.cells [.i .i64] 30,.cg 7,.row yi 2],8,none,[8],[0,1,2,3,4,5,6,7],[9],[(.l yi)],[.l cO x.1,.l (Ty.prod yi (Ty.prod aG (Ty.prod aG dh))) x.2.1.2.2.2.2,.l (Ty.prod yi (Ty.prod yi (Ty.prod yi aG))) x.2.2,.i x.2.1.1,.i x.2.1.2.1,.i x.2.1.2.2.1,.i x.2.1.2.2.2.1,.i 0]⟩⟩]⟩
def gO (x:mo) (s:Fv):Tr (Fv⊕(Int⊕(List Int))) true:=
 (.i10 (s.2.2.2.2.2.2<(x.2.2.length:Int))
 (.oR s.2.2.2.2.2.2 (x.2.2.length:Int)
 (.od (s.2.2.2.2.2.2.toNat<x.2.2.length)
 (.od (s.2.2.2.2.2.2.toNat<x.2.2.length)
 (.oR (x.2.2.getD s.2.2.2.2.2.2.toNat (0,0,0,bn)).2.2.1 (x.1.length:Int)
 (.od ((Int.toNat (x.2.2.getD s.2.2.2.2.2.2.toNat (0,0,0,bn)).2.2.1)<x.1.length)
 (.od ((Int.toNat (x.2.2.getD s.2.2.2.2.2.2.toNat (0,0,0,bn)).2.2.1)<x.1.length)
 (.fn tU (x.1.getD (Int.toNat (x.2.2.getD s.2.2.2.2.2.2.toNat (0,0,0,bn)).2.2.1) Ju) fun y=>
 (.fn vy (x.2.1,(x.2.2.getD s.2.2.2.2.2.2.toNat (0,0,0,bn)).2.2.2,y) fun aB=>
 (.i10 (aB=0)
 (.oR (x.2.2.getD s.2.2.2.2.2.2.toNat (0,0,0,bn)).2.2.1 (x.1.length:Int)
 (.od ((Int.toNat (x.2.2.getD s.2.2.2.2.2.2.toNat (0,0,0,bn)).2.2.1)<x.1.length)
 (.od ((Int.toNat (x.2.2.getD s.2.2.2.2.2.2.toNat (0,0,0,bn)).2.2.1)<x.1.length)
 (.fn tU (x.1.getD (Int.toNat (x.2.2.getD s.2.2.2.2.2.2.toNat (0,0,0,bn)).2.2.1) Ju) fun y_2=>
 (.fn vx (x.2.1,(x.2.2.getD s.2.2.2.2.2.2.toNat (0,0,0,bn)).2.2.2,y_2) fun bI=>
 (.fn FD (s.2.1,s.2.2.2.1,x.2.1.2.2.2.2,(s.2.2.1,s.2.2.2.2.1,s.2.2.2.2.2.1),bI) fun dG=>
 (.od ((s.1.length+1)<1099511627776)
 (.ret (.inl ((s.1++ [dG.1]),s.2.1,dG.2.2.1,dG.2.1,dG.2.2.2.1,dG.2.2.2.2,(au (s.2.2.2.2.2.2+1))))))))))))
 (.ret (.inr (Sum.inl aB))))))))))))
 (.ret (.inr (Sum.inr (s.1)))))
abbrev ik (x:mo) (s:Fv):Fv⊕(Int⊕(List Int)):=(gO x s).val
abbrev lG (x:mo) (s:Fv):Prop:=(gO x s).pre
def Ks (x:mo):(List Int×Int):=
 (ak (gis x.2.1) fun y=>
 (if ((!y)=true) then
 ([],1) else
 (if ((x.1.length:Int)>500) then
 ([],2) else
 (ak (mP (x.1,false)) fun aB=>
 (if (aB=true) then
 ([],5) else
 (ak (KS x.1) fun y_2=>
 (ak false fun bI=>
 (ak (run (eX x) (y_2,0)) fun r=>
 (Sum.elim (fun a=>
 ([],1)) (fun b=>
 (ak (run (ik x) ([],b,0,[],0,0,0)) fun r_1=>
 (Sum.elim (fun a=>
 ([],a)) (fun b_1=>
 (b_1,0)) r_1))) r)))))))))
def zC (x:mo):Prop:=
 ((Dj x.2.1)/\
 az (gis x.2.1) fun y=>
 (¬((!y)=true)->
 (¬((x.1.length:Int)>500)->
 ((j9 (x.1,false))/\
 az (mP (x.1,false)) fun aB=>
 (¬(aB=true)->
 ((uX x.1)/\
 az (KS x.1) fun y_2=>
 ((qe 0)/\
 az false fun bI=>
 (Term (eX x) (lF x) (y_2,0)/\
 az (run (eX x) (y_2,0)) fun r=>
 (cS r (fun a=>
 True) (fun b=>
 (Term (ik x) (lG x) ([],b,0,[],0,0,0))))))))))))
def aly (x:mo):Tr (List Int×Int) true:=
 (.fn Hr x.2.1 fun y=>
 (.gG (!y)
 (.pn 0 7
 (.ret ([],z1)))
 (.CX
 (.wY ((nL x.1)>500)
 (.pn 1 8
 (.pn 0 7
 (.ret ([],2))))
 (.fn e9 (x.1,false) fun aB=>
 (.gG aB
 (.pn 1 8
 (.pn 0 7
 (.ret ([],5))))
 (.fn nY x.1 fun y_2=>
 (.pn 1 8
 (.fn kA z0 fun bI=>
 (aI.lp (Ku x) (gN x) (y_2,z0) fun r=>
 (.s01 r (fun a=>
 (.pn 0 7
 (.ret ([],z1)))) (fun b=>
 (aI.lp (Kv x) (gO x) ([],b,z0,[],bn) fun r_1=>
 (.Jr r_1 (fun a=>
 (.pn 0 7
 (.ret ([],a)))) (fun b_1=>
 (.pn 0 7
 (.ret (b_1,z0))))))))))))))))))
abbrev abD:FnX:=⟨ark,zC,Ks⟩
theorem agL:YC Tryz.prog tt fC 30 (UL Tryz.prog (s7 7 6 38 Gs)) [5,15] (bq Tryz.f16) Tryz.apa abD:=YC.tr abD aly (fun x=>Kt.ok) (fun x=>(jg.tr bt (aj.F0 eO Kt.ok) mixed 0 (cI (blk 0 (bq Tryz.f16))) (Ku x) (gN x) (jg.tr bt (aj.F0 eO Kt.ok) mixed 2 (cI (blk 2 (bq Tryz.f16))) (Kv x) (gO x) amB (by kernel_rfl) fun g s Q=>(by kernel_rfl)) (by kernel_rfl) fun g s Q=>(by kernel_rfl))) (fun x=>(by kernel_rfl)) (fun x=>(by kernel_rfl)) fun x r0 Q=>(by kernel_rfl)
end Go.Proofs.YtngdehlpoomaiaaGreat
namespace Go.Proofs.YtngdehlpoomaiaaGreat
open Go Go.Ev Go.Proofs
theorem alM:zz 40 38 Gs:=YW (fn:=Tryz.f40) (o:=r7 (opsOf 0 (aC Tryz.f40)) 0) (b9.of (fn:=Tryz.f40) (by kernel_rfl) (by kernel_rfl) (by kernel_rfl)) (by kernel_rfl) (by kernel_rfl) (by kernel_rfl) ⟨by kernel_rfl,by kernel_rfl⟩
theorem Yo {x:rj.ty.T} : ∀a∈cy rj x,a.ok (· <(A4 x).length):=fun a ha=>by
 obtain ⟨b,hb,rfl⟩:=List.mem_map.1 ha
 have hl:(aY 0 0 rj x).2.length=3:=rfl
 exact A0.aT (fun m hm=>by have:=hm.2;rw [hl] at this;show m<3;omega) b (jc 0 rj x 0 b hb)
theorem al1:Tryz.apa= {Tryz.f16 with body:=some (gC [5,15] (bq Tryz.f16))} :=by kernel_rfl
theorem akE:PT 29 40 13 7 6 (r7 (opsOf 1 (aC Tryz.f16)) 0) (r7 (opsOf 1 (aC Tryz.f16)) 1):=⟨⟨by kernel_rfl,by kernel_rfl,by kernel_rfl⟩,by kernel_rfl,by kernel_rfl,⟨#[82,1],by kernel_rfl⟩⟩
theorem agc:Tryz.f16.body=some (.seq (.region 0 (opsOf 0 (aC Tryz.f16)) false) (.seq (.region 1 #[r7 (opsOf 1 (aC Tryz.f16)) 0,r7 (opsOf 1 (aC Tryz.f16)) 1] false) (bq Tryz.f16))):=by kernel_rfl
theorem anJ (x:rj.ty.T) (lp:List (Nat×br)) (its:List (Nat×cP)) (ρ:Env) (K:AS->Prop):jW ⟨tt,fC,cf,lp,[],its⟩ (opsOf 0 (aC Tryz.f16)) false ⟨cy rj x++List.replicate (Tryz.f16.ntmps- (cy rj x).length) ck,A4 x++ [.cg ρ (A4 x).length]⟩ K=K ⟨TS x,A4 x++ .cg ρ (A4 x).length::ag7 x⟩:=by kernel_rfl
theorem abi (x:rj.ty.T) (hp:zC x) (aW:Env) (w:World) (hst:St A6 w aW (· <(da rj x).length) (ai (da rj x)) w):
  Calls Tryz.prog 16 ((cy rj x).map (AV.ae aW)).toArray w fun e w'=> ∃st aR v,e= .returned (v.ae aR)/\ v.ok (· <st.heap.length)/\ l9 I5 (· =Ks x) v st/\ St A6 w aR (· <st.heap.length) (ai st.heap) w':=by
 obtain ⟨lp,its,hi,hl,ha,z8⟩:=agL x hp
 have tY:YL Tryz.prog ⟨tt,fC,cf,lp,[],its⟩ 30 (UL Tryz.prog (s7 7 6 38 Gs)) [5,15] (bq Tryz.f16):=hl.lpG (ctx:=⟨tt,fC,cf,lp,[],its⟩) (fun p hp=>hp) ha
 have z8: ∀r0,goE ⟨tt,fC,cf,lp,[],its⟩ Tryz.apa ((TS x).set 13 .dead) (A4 x++ .gone::ag7 x++ [.cg r0 7]) (Ct 7 r0 (l9 I5 (· =Ks x))) (DP 7 7 6 6 5 r0 fun st=>qX mR Tryz.f16 st (l9 I5 (· =Ks x))):=z8
 have SJ:Tryz.f16.ntmps=65:=by kernel_rfl
 have hcd:=fun r0=>Gc al1 (z8 r0)
 have Jn:=fun ρ=>(anJ x lp its ρ (fun st=>st=⟨TS x,A4 x++ .cg ρ (A4 x).length::ag7 x⟩)).mpr rfl
 have Jk:Tryz.prog.funcs[16]? =some Tryz.f16:=by kernel_rfl
 have Gh:Ow (bq Tryz.f16)=true:=by kernel_rfl
 have Gf:e8 Tryz.prog ⟨tt,fC,cf,lp,[],its⟩:=⟨eO,o9.nil _,hi⟩
 have hb0:=agc
 have N9:=akE
 clear z8 hl ha hi
 revert N9 hb0 Gf Gh Jk Jn hcd SJ tY
 generalize r7 (opsOf 1 (aC Tryz.f16)) 0=o1
 generalize r7 (opsOf 1 (aC Tryz.f16)) 1=o2
 generalize opsOf 0 (aC Tryz.f16)=Z2
 generalize bq Tryz.f16=rest
 generalize Tryz.f16=fn
 intro tY SJ hcd Jn Jk Gh Gf hb0 N9
 refine (KO (H:=A4 x) (B:=ag7 x) (T0:=TS x) (np:=7) (ne:=6) (ns:=5) (R:=l9 I5 (· =Ks x)) (So:=mR) (fm:= {fn with body:=some (gC [5,15] rest)}) bt Gf rfl mixed Jk hb0 N9 ⟨by decide,by decide⟩ alM Gh tY rfl bt rfl (fun ρ=>rfl) rfl (by show 13<65;decide) ⟨by decide,by decide⟩ rfl rfl Jn rfl (fun r0=> ?_) Yo hst).mono ?_
 ·have:=hcd r0
  rw [SJ] at this
  exact this
 ·rintro e w' ⟨st,ρ',v,h1,h2,h3,h4,h5⟩
  exact ⟨st,ρ',v,h1,h2,h3,h5⟩
def agK (x:rj.ty.T):I5.ty.T:=Ks x
def FT (x:rj.ty.T):Prop:=zC x
abbrev R1:bF:=⟨rj,I5,FT,agK⟩
theorem agM:aq Tryz.prog 16 (ah R1):=aq.Tg (by kernel_rfl) fun x hp aW w hst=>abi x hp aW w hst
def Xq:List (Nat×Ev.Spec):=(16,ah R1)::fC
theorem yP:aj Tryz.prog Xq:=aA (fn:=Tryz.f16) agM eO
def QG (x:(List Int×List Int)):aI:=⟨[],⟨cj 26 0 [(0,.v (.one (.full 0))),(1,.v (.one (.full 1))),(5,.v (.one (.i .i64)))],[.row yi 0,.row yi 0],0,none,[],[1,2],[0],[.i],[.l yi x.1,.l yi x.2]⟩,[⟨.ret,.ret,⟨cj 26 0 [(4,.v (.one (.b)))],[],0,none,[],[0],[],[],[.b false]⟩⟩,⟨(.exit 0),.normal,⟨cj 26 0 [],[],0,none,[],[],[],[],[]⟩⟩]⟩
def jH (x:(List Int×List Int)) (s:Int):Int⊕(Unit⊕Unit):=
 (if (s<(x.1.length:Int)) then
 (if (((x.1.getD s.toNat 0) !=(x.2.getD s.toNat 0))=true) then
 (Sum.inr (Sum.inl ())) else
 (Sum.inl (au (s+1)))) else
 (Sum.inr (Sum.inr (()))))
def s8 (x:(List Int×List Int)) (s:Int):Prop:=
 ((s<(x.1.length:Int))->
 (((0<=s)/\ (s<(x.1.length:Int)))/\
 ((s.toNat<x.1.length)/\
 ((s.toNat<x.1.length)/\
 (((0<=s)/\ (s<(x.2.length:Int)))/\
 ((s.toNat<x.2.length)/\
 (s.toNat<x.2.length)))))))
def H9 (x:(List Int×List Int)) (s:Int):Tr (Int⊕(Unit⊕Unit)) true:=
 (.i10 (s<(nL x.1))
 (.A7 s x.1
 (.A7 s x.2
 (.iY ((gI x.1 s) !=(gI x.2 s))
 (.ret (.inr (Sum.inl ())))
 (.ret (.inl (w1 s))))))
 (.ret (.inr (Sum.inr (())))))
def aaY (x:(List Int×List Int)):Bool:=
 (if (((x.1.length:Int) !=(x.2.length:Int))=true) then
 false else
 (ak (run (jH x) 0) fun r=>
 (Sum.elim (fun a=>
 false) (fun b=>
 true) r)))
def Cu (x:(List Int×List Int)):Prop:=
 (¬(((x.1.length:Int) !=(x.2.length:Int))=true)->
 (Term (jH x) (s8 x) 0))
def ajX (x:(List Int×List Int)):Tr Bool true:=
 (.gG ((nL x.1) !=(nL x.2))
 (.ret false)
 (aI.lp (QG x) (H9 x) z0 fun r=>
 (.Jr r (fun a=>
 (.ret false)) (fun b=>
 (.ret true)))))
abbrev Ej:bF:=⟨(.pair (.one (Ty.sl yi)) (.one (Ty.sl yi))),(.one Ty.bool),Cu,aaY⟩
theorem afO:aq Tryz.prog 17 (ah Ej):=bS Ej ajX (fn:=Tryz.f17) yP (aH.nil _ _) (fun x=>(bX yP 0 (QG x) (H9 x) aK.nil))
def Rv:List (Nat×Ev.Spec):=(17,ah Ej)::Xq
theorem Fe:aj Tryz.prog Rv:=aA (fn:=Tryz.f17) afO yP
end Go.Proofs.YtngdehlpoomaiaaGreat
