/- Contracts of functions that are lent a caster and lights; 'value'. -/
import Derived.Test.YtngdehlpoomaiaaGreatLh
noncomputable section
set_option linter.unusedSectionVars false
set_option linter.unusedVariables false
set_option linter.unusedSimpArgs false
namespace Go.Proofs.YtngdehlpoomaiaaGreat
open Go Go.Ev Go.Proofs
abbrev MZ:Type:=(List I9×List ((I3×I3)×Int×Int×List Int)×List (Int×I3×I3×I2)×I3×(Int×I3)×I3×I3)
abbrev nD:Type:=((Int×Int×Int×Int×List (Int×I3×I3×I2))×I3×I3)
abbrev afC (r:Ty):Type:=vN.T->r.T×(List fM.T×Int×Int×Int)
def Uc {r:Ty} (mt:List AV->Option (Nat×Cell×O5.T)) (val:r.T->AV) (pre:vN.T->Prop) (f:afC r):Ev.Spec:=fun _ args hp nm k=>match mt args with
 |some (n,cl,y)=>match hp n with
  |some (.cells [cL,.raw (.int .u32 dn),.raw (.int .i32 s),.raw (.int .u32 q),cT,.raw (.int .i64 a),.raw (.int .i64 b)] e)=>match vm hp fM cT with
   |some (T,rr)=>match eY hp (.one (.sl IS)) [.v (.one cL)] with
    |some (L,[],tc,b0)=>match eY hp (.one (.sl si)) [.v (.one cl)] with
     | some (Lt,[],tH,b1)=>if decide (e=80)&&(dY (n::rr)&&(oZ tc (n::rr)&&oZ tH (n::rr))) then
       ob (b0&&(b1&&(decide (s=0)&&decide (q=0)))) (pre (L,T,Lt,(dn,a,b),y)/\ ∀z,z=f (L,T,Lt,(dn,a,b),y)->
        k {val:=val z.1,fresh:= [.row fM z.2.1 2],writes:=(n,.cells (xe cL (.full nm) (.int .u32 z.2.2.1) (.int .i32 0) (.int .u32 0) (.int .i64 z.2.2.2.1) (.int .i64 z.2.2.2.2)) 80)::rr.map fun r=>(r,.gone),aH:=(n::rr)++(tc++tH)}) else False
     |_=>False
    |_=>False
   |none=>False
  |_=>False
 |none=>False
def Yb {r:Ty} (val:r.T->AV) (y:r.T×(List fM.T×Int×Int×Int)) (au:eW) (W:World) (aV:Env) (e:Ending) (w':World):Prop:=
 ∃st aQ v,e= .returned (v.ae aQ)/\ agi dW (val y.1) (.int .u32 y.2.2.1) (.int .u32 0) (.int .i64 y.2.2.2.1) (.int .i64 y.2.2.2.2) y.2.1 v st/\ (aQ 0=aV 0/\ aQ 1=aV 1)/\ St au W aQ (· <st.heap.length) (aj st.heap) w'
theorem OT {r:Ty} {mt:List AV->Option (Nat×Cell×O5.T)} {val:r.T->AV} {pre:vN.T->Prop} {fm:afC r} {f:FuncId} {A:Cell->Cell->O5.T->List AV}
  (hmt: ∀args n cl y,mt args=some (n,cl,y)->args=A (.ptr n 0) cl y)
  (hA: ∀y p c p' c' ρ ρ',p.ae ρ=p'.ae ρ'->c.ae ρ=c'.ae ρ'->(A p c y).map (AV.ae ρ)=(A p' c' y).map (AV.ae ρ')) (hval: ∀y,(∀ρ ρ',(val y).ae ρ=(val y).ae ρ')/\ ∀Kn,(val y).ok Kn)
  (uw: ∀x,pre x-> ∀au W aV w,au.bd= []->St au W aV (· <4) (aj (jF x)) w->Calls Tryz.prog f ((A (.ptr 0 0) (.full 3) x.2.2.2.2).map (AV.ae aV)).toArray w (Yb val (fm x) au W aV)):ai Tryz.prog f (Uc mt val pre fm):=by
 intro X args hp nm k hs
 unfold Uc at hs
 split at hs
 rotate_left
 ·exact hs.elim
 rename_i n cl y hm
 split at hs
 rotate_left
 ·exact hs.elim
 rename_i cL dn s q cT a b e Zx
 split at hs
 rotate_left
 ·exact hs.elim
 rename_i T rr Ng
 split at hs
 rotate_left
 ·exact hs.elim
 rename_i L tc b0 DZ
 split at hs
 rotate_left
 ·exact hs.elim
 rename_i Lt tH b1 hd3
 split at hs
 rotate_left
 ·exact hs.elim
 rename_i hc
 simp only [Bool.and_eq_true,decide_eq_true_eq] at hc
 obtain ⟨rfl,gU,Bj,ZL⟩:=hc
 obtain ⟨hb,hpre,hk⟩:=bg hs
 simp only [Bool.and_eq_true,decide_eq_true_eq] at hb
 obtain ⟨rfl,rfl,rfl,rfl⟩:=hb
 have hk:=hk _ rfl
 have ea:=hmt _ _ _ _ hm
 subst ea
 refine ⟨_,o7.amK (d:=dW) (tl:=si) (A:=fun p c=>A p c y) Zx Ng DZ hd3 gU Bj ZL (hA y) (hval _) (fun au W aV w hbd hst=> ?_),hk⟩
 exact uw (L,T,Lt,(dn,a,b),y) hpre au W aV w hbd hst
def mtV:List AV->Option (Nat×Cell×O5.T)
 | [.v (.agg [.ptr n 0,.raw (.int .i64 a),.raw (.int .i64 b),.raw (.int .i64 c),.raw (.int .i64 d),cl,.raw (.int .i64 x),.raw (.int .i64 y),.raw (.int .i64 z),.raw (.int .i64 u),.raw (.int .i64 v),.raw (.int .i64 w)])]=>some (n,cl,(a,b,c,d),(x,y,z),u,v,w)
 |_=>none
theorem ahN: ∀args n cl y,mtV args=some (n,cl,y)->args= [cV (.ptr n 0) cl y]:=by
 intro args n cl y h
 unfold mtV at h
 split at h
 ·cases h;rfl
 ·cases h
theorem x7: ∀c:Code,gC [] c=c
 | .seq a b=>by simp only [gC,x7 a,x7 b]
 | .cond c a b=>by simp only [gC,x7 a,x7 b]
 | .loop c=>by simp only [gC,x7 c]
 | .block id c=>by simp only [gC,x7 c]
 | .region id ops draw=>by simp [gC,yf]
 | .skip| .exit _| .scope _| .label _| .goto _| .ret| .refuse _| .rangeFunc _ _ _ _=>rfl
theorem ah1: ∀v y,rdI v=some y->v= .v (.one (.raw (.int .i64 y))):=by
 intro v y h
 unfold rdI at h
 split at h
 ·cases h;rfl
 ·cases h
theorem QG (x:vN.T) (hp:lG x) (au:eW) (W:World) (aV:Env) (w:World) (hbd:au.bd= []) (hst:St au W aV (· <4) (aj (jF x)) w):
  Calls Tryz.prog 32 (([cV (.ptr 0 0) (.full 3) x.2.2.2.2]).map (AV.ae aV)).toArray w (Yb (r:=da) (fun y=> .v (.one (.raw (.int .i64 y)))) (s8 x) au W aV):=by
 obtain ⟨lp,its,hi,hl,ha,wz⟩:=XO x hp
 obtain ⟨ta,hold,uK⟩:=hst.pinned
 have wz:goE ⟨tt,ku,cf,lp,[],its⟩ Tryz.f32 [cV (.ptr 0 0) (.full 3) x.2.2.2.2] (jF x++ [.bT aV 4]) (yp 4 aV (IN dW rdI (· =s8 x))) (fun _=>False):=wz aV
 have uK:St au W ta (· <(jF x++ [aG.bT aV 4]).length) (aj (jF x++ [.bT aV 4])) w:=uK
 have hok: ∀a∈ [cV (.ptr 0 0) (.full 3) x.2.2.2.2],a.ok (· <4):=fun a ha=>by
  rw [List.mem_singleton] at ha
  subst ha
  intro c hc
  simp only [List.mem_cons,List.not_mem_nil,or_false] at hc
  rcases hc with rfl|rfl|rfl|rfl|rfl|rfl|rfl|rfl|rfl|rfl|rfl|rfl<;>first|trivial|(show _<4;decide)
 have hca: [cV (.ptr 0 0) (.full 3) x.2.2.2.2].map (AV.ae ta)= [cV (.ptr 0 0) (.full 3) x.2.2.2.2].map (AV.ae aV):=List.map_congr_left fun a ha=>AV.bq (Kn:=(· <4)) hold a (hok a ha)
 rw [<- hca]
 have qV:Q8 Tryz.prog ⟨tt,ku,cf,lp,[],its⟩ 30 (fun _ _ _ _ _=>False) [] (aD Tryz.f32):=hl.lpG (ctx:=⟨tt,ku,cf,lp,[],its⟩) (fun p hp=>hp) ha
 have hcd:cz ⟨tt,ku,cf,lp,[],its⟩ (gC [] (aD Tryz.f32)) ⟨[cV (.ptr 0 0) (.full 3) x.2.2.2.2]++List.replicate (Tryz.f32.ntmps- [cV (.ptr 0 0) (.full 3) x.2.2.2.2].length) bU,jF x++ [.bT aV 4]⟩ (N5 ⟨tt,ku,cf,lp,[],its⟩ Tryz.f32 (yp 4 aV (IN dW rdI (· =s8 x))) (fun _=>False)):=by rw [x7];exact wz
 have BL:eB Tryz.prog ⟨tt,ku,cf,lp,[],its⟩:=⟨iK,mU.nil _,hi⟩
 have hb0:Tryz.f32.body=some (aD Tryz.f32):=by kernel_rfl
 have DB:Tryz.prog.funcs[32]? =some Tryz.f32:=by kernel_rfl
 have BN:II (aD Tryz.f32)=true:=by kernel_rfl
 have RI: ∀a∈ [cV (.ptr 0 0) (.full 3) x.2.2.2.2],a.ok (· <(jF x++ [aG.bT aV 4]).length):=fun a ha=>AV.aR (fun i hi=>by show i<5;omega) a (hok a ha)
 clear wz hl ha hi hca hok
 generalize jF x++ [aG.bT aV 4]=hp1 at uK hcd RI
 generalize Tryz.f32=fn at qV hcd hb0 DB BN
 generalize aD fn=c at qV hcd hb0 BN
 generalize [cV (.ptr 0 0) (.full 3) x.2.2.2.2]=ar at hcd RI ⊢
 have key:=YJ aA BL mixed DB hb0 BN qV (cf.ok au W) hbd (fun k a w a' w' h=>h.elim) hcd RI uK
 refine key.mono ?_
 clear key hcd qV
 rintro e w' (⟨st,ρ',v,rfl,hv,hR,jO⟩|⟨k,w2,a,a2,st,ρ',rfl,hPn,hfr,hR,aO⟩)
 rotate_left
 ·exact hR.elim
 obtain ⟨h1,h2⟩:=cZ hR
 have hpe:=(jO.at_ _ _ h1).2
 obtain ⟨y,z,u,a,b,hq,hE⟩:=Km h2 (val:=fun y=> .v (.one (.raw (.int .i64 y)))) ah1
 have hq:(y,z,u,a,b)=s8 x:=hq
 rw [<- hq]
 exact ⟨st,ρ',v,rfl,hE,⟨hpe 0 (by decide),hpe 1 (by decide)⟩,jO⟩
def Ck (x:vN.T):acf.T:=s8 x
def yN (x:vN.T):Prop:=lG x
abbrev A9:bY:=⟨.one vN,.one acf,yN,Ck⟩
def S3:Ev.Spec:=fun _ args hp nm k=>match mtV args with
 |some (n,cl,y)=>match hp n with
  |some (.cells [cL,.raw (.int .u32 dn),.raw (.int .i32 s),.raw (.int .u32 q),cT,.raw (.int .i64 a),.raw (.int .i64 b)] e)=>match vm hp fM cT with
   |some (T,rr)=>match eY hp (.one (.sl IS)) [.v (.one cL)] with
    |some (L,[],tc,b0)=>match eY hp (.one (.sl si)) [.v (.one cl)] with
     | some (Lt,[],tH,b1)=>if decide (e=80)&&(dY (n::rr)&&(oZ tc (n::rr)&&oZ tH (n::rr))) then
       ob (b0&&(b1&&(decide (s=0)&&decide (q=0)))) (A9.pre (L,T,Lt,(dn,a,b),y)/\ ∀z,z=A9.f (L,T,Lt,(dn,a,b),y)->
        k {val:= .v (.one (.raw (.int .i64 z.1))),fresh:= [.row fM z.2.1 2],writes:=(n,.cells (xe cL (.full nm) (.int .u32 z.2.2.1) (.int .i32 0) (.int .u32 0) (.int .i64 z.2.2.2.1) (.int .i64 z.2.2.2.2)) 80)::rr.map fun r=>(r,.gone),aH:=(n::rr)++(tc++tH)}) else False
     |_=>False
    |_=>False
   |none=>False
  |_=>False
 |none=>False
theorem XP:S3=Uc (r:=da) mtV (fun y=> .v (.one (.raw (.int .i64 y)))) lG s8:=rfl
theorem XQ:ai Tryz.prog 32 S3:=by
 rw [XP]
 exact OT (A:=fun p c y=> [cV p c y]) ahN (fun y p c p' c' ρ ρ' h1 h2=>by
 simp only [cV,List.map_cons,List.map_nil,AV.ae,A0.ae,h1,h2];rfl) (fun y=>⟨fun _ _=>rfl,fun _=>trivial⟩) fun x hp au W aV w hbd hst=>QG x hp au W aV w hbd hst
end Go.Proofs.YtngdehlpoomaiaaGreat
namespace Go.Proofs.YtngdehlpoomaiaaGreat
open Go Go.Ev Go.Proofs
def bA:List (Nat×Ev.Spec):=(32,S3)::ku
theorem eV:ah Tryz.prog bA:=ah.add (fn:=Tryz.f32) (by kernel_rfl) XQ iK
def kY:Ctx:=⟨tt,[],cf,[],[],[]⟩
def VI:Ctx:=⟨tt,bA,cf,[],[],[]⟩
def bp (fn:Func):Code:=cR (cR (aD fn))
def ac1:AV->List Cell
 | .v (.agg l)=>l
 |_=> []
def jA (cl:Cell) (y:O5.T):AV:= .v (.agg [ci y.1.1,ci y.1.2.1,ci y.1.2.2.1,ci y.1.2.2.2,cl])
def pA (p:Vi.T):AV:= .v (.agg [ci p.1,ci p.2.1,ci p.2.2])
def pt (n:Nat):AV:= .v (.one (.ptr n 0))
def BX (x:aZ.ty.T):O5.T:=((x.1.1,x.1.2.1,x.1.2.2.1,x.1.2.2.2.1),x.2.1,x.2.2)
def zV3:Value:= .agg #[.int .i64 0,.int .i64 0,.int .i64 0]
def BW:Value:= .slice none 0 0
def boxes (cl:Cell) (y:O5.T) (r:aG):List aG:= [.cells (ac1 (jA cl y)) 25,.cells (ac1 (pA y.2.1)) 27,.cells (ac1 (pA y.2.2)) 27,r,.cells [ci 0] 30]
def cH (x:aZ.ty.T):List aG:= [.row si x.1.2.2.2.2 0]
def aiT (x:aZ.ty.T):List AV:= [jA (.full 0) (BX x),pA x.2.1,pA x.2.2]
def T1 (x:aZ.ty.T):List AV:=aiT x++ [pt 2,pt 3,pt 4,pt 5,pt 6,bU,bU,bU,bU,bU,bU]
def vK:kK:= .pair (.agg Vi) (.one da)
def Hz (x:aZ.ty.T):List aG:=boxes (.full 0) (BX x) (.cells [ci 0,ci 0,ci 0] 27)
def ah5:PX:=⟨aZ,.prod Vi da,fun x=>(T1 x).set 8 .dead,fun x r0=>cH x++ .gone::Hz x++ [.bT r0 7],fun _ r0 Q=>yp 7 r0 (lE vK Q),fun _ r0 Q=>z4 7 7 6 6 5 r0 fun st=>oK kY Tryz.f12 st (lE vK Q)⟩
noncomputable def Tryz.agM:Func:= {Tryz.f12 with body:=some (gC [2] (bp Tryz.f12))}
noncomputable def amc:List (Nat×bw):= [(1000002,Jw VI (opsOf 2 (bp Tryz.f12)) 3 31 B1 (MC kY (qv 7 6 27 zV3)))]
theorem DP:bS Tryz.prog 31:=bS.of (fn:=Tryz.f31) (by kernel_rfl) (by kernel_rfl) (by kernel_rfl)
theorem aec:gZ Tryz.prog cf 30 (Np Tryz.prog (qv 7 6 27 zV3)) [2] (bp Tryz.f12) amc:=by
 refine gZ.cons (d:= .region 2 (opsOf 2 (bp Tryz.f12)) false) gZ.nil (by kernel_rfl) ?_
 exact uJ (ctx:=VI) aA (ah.ctx eV) mixed DP wJ (sD (ctx:=kY) aA _)
def yJ (x:nD):(I3×Int):=
 (aq (kO x) fun y=>
 (if (y=0) then
 (aq (th x) fun aB=>
 (aB.2.1,0)) else
 ((0,0,0),y)))
def sW (x:nD):Prop:=
 ((lC x)/\
 aC (kO x) fun y=>
 ((y=0)->
 (lB x)))
def abP (x:nD):Tr (I3×Int) true:=
 (.fn sv x fun y=>
 (.i10 (y=z0)
 (.fn su x fun aB=>
 (.pn 0 7
 (.ret (aB.2.1,z0))))
 (.pn 0 7
 (.ret (bX,y)))))
abbrev Qv:FnX:=⟨ah5,sW,yJ⟩
theorem XA:QX Tryz.prog tt bA 30 (Np Tryz.prog (qv 7 6 27 zV3)) [2] (bp Tryz.f12) Tryz.agM Qv:=QX.tr Qv abP (fun x=>(ax.nil _ _)) (fun x=>aec) (fun x=>(by kernel_rfl)) (fun x=>(by kernel_rfl)) fun x r0 Q=>(by kernel_rfl)
def Cw:kK:= .pair (.one (.sl Vi)) (.one da)
def N6 (x:aZ.ty.T):List aG:=boxes (.full 0) (BX x) (.cells [.raw BW] 46)
def ai4:PX:=⟨aZ,.prod (.sl Vi) da,fun x=>(T1 x).set 8 .dead,fun x r0=>cH x++ .gone::N6 x++ [.bT r0 7],fun _ r0 Q=>yp 7 r0 (lE Cw Q),fun _ r0 Q=>z4 7 7 6 6 5 r0 fun st=>oK kY Tryz.f15 st (lE Cw Q)⟩
noncomputable def Tryz.agN:Func:= {Tryz.f15 with body:=some (gC [2] (bp Tryz.f15))}
noncomputable def amd:List (Nat×bw):= [(1000002,Jw VI (opsOf 2 (bp Tryz.f15)) 3 31 B1 (MC kY (qv 7 6 46 BW)))]
theorem aed:gZ Tryz.prog cf 30 (Np Tryz.prog (qv 7 6 46 BW)) [2] (bp Tryz.f15) amd:=by
 refine gZ.cons (d:= .region 2 (opsOf 2 (bp Tryz.f15)) false) gZ.nil (by kernel_rfl) ?_
 exact uJ (ctx:=VI) aA (ah.ctx eV) mixed DP wJ (sD (ctx:=kY) aA _)
def Jk (x:nD):(List I3×Int):=
 (aq (kO x) fun y=>
 (if (y=0) then
 (aq (th x) fun aB=>
 (aq (Jo ((aB.1.1,aB.1.2.1,aB.1.2.2.1,aB.1.2.2.2,x.1.2.2.2.2),aB.2)) fun y_2=>
 (y_2,0))) else
 ([],y)))
def BD (x:nD):Prop:=
 ((lC x)/\
 aC (kO x) fun y=>
 ((y=0)->
 ((lB x)/\
 aC (th x) fun aB=>
 (qR ((aB.1.1,aB.1.2.1,aB.1.2.2.1,aB.1.2.2.2,x.1.2.2.2.2),aB.2)))))
def adr (x:nD):Tr (List I3×Int) true:=
 (.fn sv x fun y=>
 (.i10 (y=z0)
 (.fn su x fun aB=>
 (.fn zu ((aB.1.1,aB.1.2.1,aB.1.2.2.1,aB.1.2.2.2,x.1.2.2.2.2),aB.2) fun y_2=>
 (.pn 0 7
 (.ret (y_2,z0)))))
 (.pn 0 7
 (.ret ([],y)))))
abbrev TH:FnX:=⟨ai4,BD,Jk⟩
theorem Y4:QX Tryz.prog tt bA 30 (Np Tryz.prog (qv 7 6 46 BW)) [2] (bp Tryz.f15) Tryz.agN TH:=QX.tr TH adr (fun x=>(ax.nil _ _)) (fun x=>aed) (fun x=>(by kernel_rfl)) (fun x=>(by kernel_rfl)) fun x r0 Q=>(by kernel_rfl)
def WB (cl:Cell) (y:O5.T):List AV:= [jA cl y,pA y.2.1,pA y.2.2]
def T2 (a:AV) (cl:Cell) (y:O5.T) (n:Nat):List AV:=a::WB cl y++ [bU,pt n,pt (n+1),pt (n+2),pt (n+3),pt (n+4)]++List.replicate 13 bU
def B2 (v:AV):Option (Int×Int):=match v with
 | .nC [.one (.raw (.int .i64 a)),.one (.raw (.int .i64 b))]=>some (a,b)
 |_=>none
abbrev Yo:Ty:= .prod (.prod da da) (.prod (.sl fM) (.prod da (.prod da da)))
def alm:PX:=⟨.one vN,Yo,fun x=>(T2 (pt 0) (.full 3) x.2.2.2.2 5).set 11 .dead,fun x r0=>jF x++ .gone::boxes (.full 3) x.2.2.2.2 (.cells [ci 0] 3)++ [.bT r0 10],fun _ r0 Q=>yp 10 r0 (IN dW B2 Q),fun _ r0 Q=>z4 10 9 8 9 8 r0 fun st=>oK kY Tryz.f11 st (IN dW B2 Q)⟩
noncomputable def Tryz.Zb:Func:= {Tryz.f11 with body:=some (gC [2,4] (bp Tryz.f11))}
noncomputable def ama:List (Nat×bw):= [(1000002,Jw VI (opsOf 2 (bp Tryz.f11)) 3 31 B1 (MC kY (qv 9 8 3 (.int .i64 0)))),(1000004,Ox 18 (.const (.int .i64 1)) (MC kY (qv 9 8 3 (.int .i64 0))))]
theorem TQ:gZ Tryz.prog cf 30 (Np Tryz.prog (qv 9 8 3 (.int .i64 0))) [2,4] (bp Tryz.f11) ama:=by
 refine gZ.cons (d:= .region 2 (opsOf 2 (bp Tryz.f11)) false) (gZ.cons (d:= .region 4 (opsOf 4 (bp Tryz.f11)) false) gZ.nil (by kernel_rfl) ?_) (by kernel_rfl) ?_
 ·have e:opsOf 4 (bp Tryz.f11)= #[pY (opsOf 4 (bp Tryz.f11)) 0,pY (opsOf 4 (bp Tryz.f11)) 1]:=by kernel_rfl
  rw [e]
  exact FL ⟨by kernel_rfl,by kernel_rfl,by kernel_rfl⟩ ⟨by kernel_rfl,by kernel_rfl⟩ zW wI (sD (ctx:=kY) aA _)
 ·exact uJ (ctx:=VI) aA (ah.ctx eV) mixed DP wJ (sD (ctx:=kY) aA _)
def Lu (x:MZ):(I2×List ((I3×I3)×Int×Int×List Int)×I3):=
 (aq (kO ((x.2.2.2.2.1.1,x.2.2.2.2.1.2.1,x.2.2.2.2.1.2.2.1,x.2.2.2.2.1.2.2.2,x.2.2.1),x.2.2.2.2.2)) fun y=>
 (if (y=0) then
 (aq (th ((x.2.2.2.2.1.1,x.2.2.2.2.1.2.1,x.2.2.2.2.1.2.2.1,x.2.2.2.2.1.2.2.2,x.2.2.1),x.2.2.2.2.2)) fun aB=>
 (aq (Ck (x.1,x.2.1,x.2.2.1,x.2.2.2.1,aB)) fun y_2=>
 ((y_2.1,0),y_2.2))) else
 ((0,y),x.2.1,x.2.2.2.1)))
def tL (x:MZ):Prop:=
 ((lC ((x.2.2.2.2.1.1,x.2.2.2.2.1.2.1,x.2.2.2.2.1.2.2.1,x.2.2.2.2.1.2.2.2,x.2.2.1),x.2.2.2.2.2))/\
 aC (kO ((x.2.2.2.2.1.1,x.2.2.2.2.1.2.1,x.2.2.2.2.1.2.2.1,x.2.2.2.2.1.2.2.2,x.2.2.1),x.2.2.2.2.2)) fun y=>
 ((y=0)->
 ((lB ((x.2.2.2.2.1.1,x.2.2.2.2.1.2.1,x.2.2.2.2.1.2.2.1,x.2.2.2.2.1.2.2.2,x.2.2.1),x.2.2.2.2.2))/\
 aC (th ((x.2.2.2.2.1.1,x.2.2.2.2.1.2.1,x.2.2.2.2.1.2.2.1,x.2.2.2.2.1.2.2.2,x.2.2.1),x.2.2.2.2.2)) fun aB=>
 (yN (x.1,x.2.1,x.2.2.1,x.2.2.2.1,aB)))))
def agn (x:MZ):Tr (I2×List ((I3×I3)×Int×Int×List Int)×I3) true:=
 (.fn sv ((x.2.2.2.2.1.1,x.2.2.2.2.1.2.1,x.2.2.2.2.1.2.2.1,x.2.2.2.2.1.2.2.2,x.2.2.1),x.2.2.2.2.2) fun y=>
 (.i10 (y=z0)
 (.fn su ((x.2.2.2.2.1.1,x.2.2.2.2.1.2.1,x.2.2.2.2.1.2.2.1,x.2.2.2.2.1.2.2.2,x.2.2.1),x.2.2.2.2.2) fun aB=>
 (.fn A9 (x.1,x.2.1,x.2.2.1,x.2.2.2.1,aB) fun y_2=>
 (.pn 0 10
 (.ret ((y_2.1,z0),y_2.2)))))
 (.pn 0 10
 (.ret ((z0,y),x.2.1,x.2.2.2.1)))))
abbrev Yh:FnX:=⟨alm,tL,Lu⟩
theorem acV:QX Tryz.prog tt bA 30 (Np Tryz.prog (qv 9 8 3 (.int .i64 0))) [2,4] (bp Tryz.f11) Tryz.Zb Yh:=QX.tr Yh agn (fun x=>(ax.nil _ _)) (fun x=>TQ) (fun x=>(by kernel_rfl)) (fun x=>(by kernel_rfl)) fun x r0 Q=>(by kernel_rfl)
def rdQ {τ:Type} (rd:AV->Option τ) (Q:τ->Prop) (v:AV) (_:AS):Prop:=match rd v with
 |some y=>Q y
 |none=>False
def aiP:PX:=⟨aZ,.prod da da,fun x=>(T2 (.v (.one (.raw (.pointer none)))) (.full 0) (BX x) 2).set 11 .dead,fun x r0=>cH x++ .gone::boxes (.full 0) (BX x) (.cells [ci 0] 3)++ [.bT r0 7],fun _ r0 Q=>yp 7 r0 (rdQ B2 Q),fun _ r0 Q=>z4 7 9 8 6 5 r0 fun st=>oK kY Tryz.f11 st (rdQ B2 Q)⟩
def Nt (x:nD):I2:=
 (aq (kO x) fun y=>
 (if (y=0) then
 (aq (th x) fun aB=>
 (0,1)) else
 (0,y)))
def yX (x:nD):Prop:=
 ((lC x)/\
 aC (kO x) fun y=>
 ((y=0)->
 (lB x)))
def ago (x:nD):Tr I2 true:=
 (.fn sv x fun y=>
 (.i10 (y=z0)
 (.fn su x fun aB=>
 (.pn 0 7
 (.ret (z0,z1))))
 (.pn 0 7
 (.ret (z0,y)))))
abbrev Yk:FnX:=⟨aiP,yX,Nt⟩
theorem acW:QX Tryz.prog tt bA 30 (Np Tryz.prog (qv 9 8 3 (.int .i64 0))) [2,4] (bp Tryz.f11) Tryz.Zb Yk:=QX.tr Yk ago (fun x=>(ax.nil _ _)) (fun x=>TQ) (fun x=>(by kernel_rfl)) (fun x=>(by kernel_rfl)) fun x r0 Q=>(by kernel_rfl)
end Go.Proofs.YtngdehlpoomaiaaGreat
