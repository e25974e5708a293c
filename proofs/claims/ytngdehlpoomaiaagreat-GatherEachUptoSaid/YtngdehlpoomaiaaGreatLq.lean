/- gather.Values: a made-up function behind the deferring. -/
import Derived.Test.YtngdehlpoomaiaaGreatLm
noncomputable section
set_option linter.unusedSectionVars false
set_option linter.unusedVariables false
set_option linter.unusedSimpArgs false
namespace Go.Proofs.YtngdehlpoomaiaaGreat
open Go Go.Ev Go.Proofs
abbrev kz:Type:=(List I9×(Int×Int×Int×Int×List (Int×I3×I3×I2))×List (Int×Int×Int×I3))
abbrev A6:Type:=(List Int×List I9×Int×List ((I3×I3)×Int×Int×List Int)×I3)
def adh:Ctx:=⟨tt,eU,cf,[],[],[]⟩
abbrev abq:Ty:= .prod da (.prod da (.prod da Vi))
def oS:kK:= .pair (.one (.sl IS)) (.pair (.agg aey) (.one (.sl abq)))
def Dq:kK:= .pair (.one (.sl da)) (.one da)
abbrev VsA:Type:=List IS.T×(aey.T×List abq.T)
def aj9 (j:aey.T):O5.T:=((j.1,j.2.1,j.2.2.1,j.2.2.2.1),(0,0,0),0,0,0)
def xo (x:VsA):List aG:= [.row IS x.1 0,.row si x.2.1.2.2.2.2 0,.row abq x.2.2 0]
def TS (x:VsA):List AV:= [.v (.one (.full 0)),jA (.full 1) (aj9 x.2.1),.v (.one (.full 2)),bU,pt 4,bU,pt 5,pt 6]++List.replicate 57 bU
def YF (x:VsA):List aG:= [.cells (ac1 (jA (.full 1) (aj9 x.2.1))) 25,.cells [.raw BW] 38,.cells [ci 0] 30]
def aiQ:PX:=⟨oS,.prod (.sl da) da,fun x=>(TS x).set 13 .dead,fun x r0=>xo x++ .gone::YF x++ [.bT r0 7],fun _ r0 Q=>yp 7 r0 (lE Dq Q),fun _ r0 Q=>z4 7 7 6 6 5 r0 fun st=>oK kY Tryz.f16 st (lE Dq Q)⟩
noncomputable def Tryz.agO:Func:= {Tryz.f16 with body:=some (gC [5,15] (bp Tryz.f16))}
noncomputable def ame:List (Nat×bw):= [(1000005,Jw adh (opsOf 5 (bp Tryz.f16)) 1 41 ME (MC kY (qv 7 6 38 BW))),(1000015,afT adh (opsOf 15 (bp Tryz.f16)) 11 31 B1 (MC kY (qv 7 6 38 BW)))]
theorem aee:gZ Tryz.prog cf 30 (Np Tryz.prog (qv 7 6 38 BW)) [5,15] (bp Tryz.f16) ame:=by
 refine gZ.cons (d:= .region 5 (opsOf 5 (bp Tryz.f16)) false) (gZ.cons (d:= .region 15 (opsOf 15 (bp Tryz.f16)) true) gZ.nil (by kernel_rfl) ?_) (by kernel_rfl) ?_
 ·exact ZY (ctx:=adh) aA (ah.ctx dU) mixed DP wJ (sD (ctx:=kY) aA _)
 ·exact uJ (ctx:=adh) aA (ah.ctx dU) mixed (bS.of (fn:=Tryz.f41) (by kernel_rfl) (by kernel_rfl) (by kernel_rfl)) Ka (sD (ctx:=kY) aA _)
def EE:Lr Tryz.prog:=⟨_,(ax.walk aA dU mixed 9 (fn:=Tryz.f9) (by kernel_rfl) (ax.nil _ _) fun ys hy=>ay.nil)⟩
def EF (x:kz):aK:=⟨[.env],⟨di 65 0 [(0,.v (.one (.full 0))),(2,.v (.one (.full 2))),(4,.v (.one (.ptr 4 0))),(6,.v (.one (.ptr 5 0))),(7,.v (.one (.ptr 6 0))),(8,.v (.one (.ptr 8 0))),(24,.v (.one (.full 2))),(25,.v (.one (.i .i64))),(26,.v (.one (.i .i64)))],[.row dF 0,.row (Ty.prod yi (Ty.prod aM (Ty.prod aM fX))) 0,.row (Ty.prod yi (Ty.prod yi (Ty.prod yi aM))) 0,.gone,.cells [.i .i64,.i .i64,.i .i64,.i .i64,.full 1] 25,.cells [.raw] 38,.cells [.i .i64] 30,.bT 7,.cells [.full 9,.i IntKind.u32,.i IntKind.i32,.i IntKind.u32,.raw,.i .i64,.i .i64] 80,.row dF 2],8,none,[11],[0,2,3,4,5,6,7,8,9,10,12,13,14,15,16,17],[18,1],[(.l dF),.i],[.i (x.2.2.length:Int),.l dF x.1,.l (Ty.prod yi (Ty.prod aM (Ty.prod aM fX))) x.2.1.2.2.2.2,.l (Ty.prod yi (Ty.prod yi (Ty.prod yi aM))) x.2.2,.i x.2.1.1,.i x.2.1.2.1,.i x.2.1.2.2.1,.i x.2.1.2.2.2.1,.v (.slice none 0 0),.i 0,.i 0,.i 0,.i 0,.v (.slice none 0 0),.i 0,.i 0]⟩,[⟨.ret,.ret,⟨di 65 0 [(6,.v (.one (.ptr 5 0))),(7,.v (.one (.ptr 6 0)))],[.row dF 0,.row (Ty.prod yi (Ty.prod aM (Ty.prod aM fX))) 0,.row (Ty.prod yi (Ty.prod yi (Ty.prod yi aM))) 0,.gone,.cells [.i .i64,.i .i64,.i .i64,.i .i64,.full 1] 25,.cells [.raw] 38,.cells [.i .i64] 30,.bT 7],8,none,[9],[0,1,2,3,4,5,6,7,8],[],[],[.l dF x.1,.l (Ty.prod yi (Ty.prod aM (Ty.prod aM fX))) x.2.1.2.2.2.2,.l (Ty.prod yi (Ty.prod yi (Ty.prod yi aM))) x.2.2,.i x.2.1.1,.i x.2.1.2.1,.i x.2.1.2.2.1,.i x.2.1.2.2.2.1,.v (.slice none 0 0),.i 1]⟩⟩,⟨(.exit 0),.normal,⟨di 65 0 [(0,.v (.one (.full 0))),(2,.v (.one (.full 2))),(4,.v (.one (.ptr 4 0))),(6,.v (.one (.ptr 5 0))),(7,.v (.one (.ptr 6 0))),(8,.v (.one (.ptr 8 0)))],[.row dF 0,.row (Ty.prod yi (Ty.prod aM (Ty.prod aM fX))) 0,.row (Ty.prod yi (Ty.prod yi (Ty.prod yi aM))) 0,.gone,.cells [.i .i64,.i .i64,.i .i64,.i .i64,.full 1] 25,.cells [.raw] 38,.cells [.i .i64] 30,.bT 7,.cells [.full 9,.i IntKind.u32,.i IntKind.i32,.i IntKind.u32,.raw,.i .i64,.i .i64] 80,.row dF 2],8,none,[9],[0,1,2,3,4,5,6,7,8,10,11,12,13,14,15],[16],[(.l dF)],[.l dF x.1,.l (Ty.prod yi (Ty.prod aM (Ty.prod aM fX))) x.2.1.2.2.2.2,.l (Ty.prod yi (Ty.prod yi (Ty.prod yi aM))) x.2.2,.i x.2.1.1,.i x.2.1.2.1,.i x.2.1.2.2.1,.i x.2.1.2.2.2.1,.v (.slice none 0 0),.i 0,.i 0,.i 0,.i 0,.v (.slice none 0 0),.i 0,.i 0]⟩⟩]⟩
def ef (x:kz) (s:(List I9×Int)):(List I9×Int)⊕(Unit⊕(List I9)):=
 (if (s.2<(x.2.2.length:Int)) then
 (if ((x.2.2.getD s.2.toNat (0,0,0,0,0,0)).2.2.1<0) then
 (Sum.inr (Sum.inl ())) else
 (if ((x.2.2.getD s.2.toNat (0,0,0,0,0,0)).2.2.1>=(x.1.length:Int)) then
 (Sum.inr (Sum.inl ())) else
 (Sum.inl (s.1,(av (s.2+1)))))) else
 (Sum.inr (Sum.inr (s.1))))
def jS (x:kz) (s:(List I9×Int)):Prop:=
 ((s.2<(x.2.2.length:Int))->
 (((0<=s.2)/\ (s.2<(x.2.2.length:Int)))/\
 ((s.2.toNat<x.2.2.length)/\
 (s.2.toNat<x.2.2.length))))
def y6 (x:kz) (s:(List I9×Int)):Tr ((List I9×Int)⊕(Unit⊕(List I9))) true:=
 (.i10 (s.2<(nL x.2.2))
 (.mS s.2 x.2.2
 (.tF ((gT x.2.2 s.2 (z0,z0,z0,bX)).2.2.1<z0)
 (.ret (.inr (Sum.inl ())))
 (.tF ((gT x.2.2 s.2 (z0,z0,z0,bX)).2.2.1>=(nL x.1))
 (.ret (.inr (Sum.inl ())))
 (.ret (.inl (s.1,(w1 s.2)))))))
 (.ret (.inr (Sum.inr (s.1)))))
def EG (x:kz):aK:=⟨[.env],⟨di 65 0 [(0,.v (.one (.full 0))),(4,.v (.one (.ptr 4 0))),(6,.v (.one (.ptr 5 0))),(7,.v (.one (.ptr 6 0))),(8,.v (.one (.ptr 9 0))),(41,.v (.one (.full 2))),(42,.v (.one (.i .i64))),(43,.v (.one (.i .i64)))],[.row dF 0,.row (Ty.prod yi (Ty.prod aM (Ty.prod aM fX))) 0,.row (Ty.prod yi (Ty.prod yi (Ty.prod yi aM))) 0,.gone,.cells [.i .i64,.i .i64,.i .i64,.i .i64,.full 1] 25,.cells [.full 8] 38,.cells [.i .i64] 30,.bT 7,.row yi 2,.cells [.full 10,.i IntKind.u32,.i IntKind.i32,.i IntKind.u32,.full 11,.i .i64,.i .i64] 80,.row dF 2,.row (Ty.prod (Ty.prod aM aM) (Ty.prod yi (Ty.prod yi (Ty.sl yi)))) 2],8,none,[10],[0,2,3,4,5,6,7,8,9,13,14],[11,17,12,18,15,16,1],[(.l yi),(.l dF),.i,(.l (Ty.prod (Ty.prod aM aM) (Ty.prod yi (Ty.prod yi (Ty.sl yi))))),.i,.i,.i],[.i (x.2.2.length:Int),.l dF x.1,.l (Ty.prod yi (Ty.prod aM (Ty.prod aM fX))) x.2.1.2.2.2.2,.l (Ty.prod yi (Ty.prod yi (Ty.prod yi aM))) x.2.2,.i x.2.1.1,.i x.2.1.2.1,.i x.2.1.2.2.1,.i x.2.1.2.2.2.1,.i 0,.i 0,.i 0]⟩,[⟨(.exit 999983),(.exit 999983),⟨di 65 0 [(6,.v (.one (.ptr 5 0))),(7,.v (.one (.ptr 6 0)))],[.row dF 0,.row (Ty.prod yi (Ty.prod aM (Ty.prod aM fX))) 0,.row (Ty.prod yi (Ty.prod yi (Ty.prod yi aM))) 0,.gone,.cells [.i .i64,.i .i64,.i .i64,.i .i64,.full 1] 25,.cells [.raw] 38,.cells [.i .i64] 30,.bT 7],8,none,[9],[0,1,2,3,4,5,6,7],[8],[.i],[.l dF x.1,.l (Ty.prod yi (Ty.prod aM (Ty.prod aM fX))) x.2.1.2.2.2.2,.l (Ty.prod yi (Ty.prod yi (Ty.prod yi aM))) x.2.2,.i x.2.1.1,.i x.2.1.2.1,.i x.2.1.2.2.1,.i x.2.1.2.2.2.1,.v (.slice none 0 0)]⟩⟩,⟨(.exit 2),.normal,⟨di 65 0 [(6,.v (.one (.ptr 5 0))),(7,.v (.one (.ptr 6 0)))],[.row dF 0,.row (Ty.prod yi (Ty.prod aM (Ty.prod aM fX))) 0,.row (Ty.prod yi (Ty.prod yi (Ty.prod yi aM))) 0,.gone,.cells [.i .i64,.i .i64,.i .i64,.i .i64,.full 1] 25,.cells [.full 8] 38,.cells [.i .i64] 30,.bT 7,.row yi 2],8,none,[8],[0,1,2,3,4,5,6,7],[9],[(.l yi)],[.l dF x.1,.l (Ty.prod yi (Ty.prod aM (Ty.prod aM fX))) x.2.1.2.2.2.2,.l (Ty.prod yi (Ty.prod yi (Ty.prod yi aM))) x.2.2,.i x.2.1.1,.i x.2.1.2.1,.i x.2.1.2.2.1,.i x.2.1.2.2.2.1,.i 0]⟩⟩]⟩
def fY (x:kz) (s:A6):A6⊕(Int⊕(List Int)):=
 (if (s.2.2.2.2.2.2<(x.2.2.length:Int)) then
 (aq (rU (x.1.getD (Int.toNat (x.2.2.getD s.2.2.2.2.2.2.toNat (0,0,0,0,0,0)).2.2.1) ((0,0,0),(0,0,0),0,0,0))) fun y=>
 (aq (kO (x.2.1,(x.2.2.getD s.2.2.2.2.2.2.toNat (0,0,0,0,0,0)).2.2.2,y)) fun aB=>
 (if (aB=0) then
 (aq (rU (x.1.getD (Int.toNat (x.2.2.getD s.2.2.2.2.2.2.toNat (0,0,0,0,0,0)).2.2.1) ((0,0,0),(0,0,0),0,0,0))) fun y_2=>
 (aq (th (x.2.1,(x.2.2.getD s.2.2.2.2.2.2.toNat (0,0,0,0,0,0)).2.2.2,y_2)) fun bk=>
 (aq (Ck (s.2.1,s.2.2.2.1,x.2.1.2.2.2.2,(s.2.2.1,s.2.2.2.2.1,s.2.2.2.2.2.1),bk)) fun bQ=>
 (Sum.inl ((s.1++ [bQ.1]),s.2.1,bQ.2.2.1,bQ.2.1,bQ.2.2.2.1,bQ.2.2.2.2,(av (s.2.2.2.2.2.2+1))))))) else
 (Sum.inr (Sum.inl aB))))) else
 (Sum.inr (Sum.inr (s.1))))
def jT (x:kz) (s:A6):Prop:=
 ((s.2.2.2.2.2.2<(x.2.2.length:Int))->
 (((0<=s.2.2.2.2.2.2)/\ (s.2.2.2.2.2.2<(x.2.2.length:Int)))/\
 ((s.2.2.2.2.2.2.toNat<x.2.2.length)/\
 ((s.2.2.2.2.2.2.toNat<x.2.2.length)/\
 (((0<=(x.2.2.getD s.2.2.2.2.2.2.toNat (0,0,0,0,0,0)).2.2.1)/\ ((x.2.2.getD s.2.2.2.2.2.2.toNat (0,0,0,0,0,0)).2.2.1<(x.1.length:Int)))/\
 (((Int.toNat (x.2.2.getD s.2.2.2.2.2.2.toNat (0,0,0,0,0,0)).2.2.1)<x.1.length)/\
 (((Int.toNat (x.2.2.getD s.2.2.2.2.2.2.toNat (0,0,0,0,0,0)).2.2.1)<x.1.length)/\
 ((l8 (x.1.getD (Int.toNat (x.2.2.getD s.2.2.2.2.2.2.toNat (0,0,0,0,0,0)).2.2.1) ((0,0,0),(0,0,0),0,0,0)))/\
 aC (rU (x.1.getD (Int.toNat (x.2.2.getD s.2.2.2.2.2.2.toNat (0,0,0,0,0,0)).2.2.1) ((0,0,0),(0,0,0),0,0,0))) fun y=>
 ((lC (x.2.1,(x.2.2.getD s.2.2.2.2.2.2.toNat (0,0,0,0,0,0)).2.2.2,y))/\
 aC (kO (x.2.1,(x.2.2.getD s.2.2.2.2.2.2.toNat (0,0,0,0,0,0)).2.2.2,y)) fun aB=>
 ((aB=0)->
 (((0<=(x.2.2.getD s.2.2.2.2.2.2.toNat (0,0,0,0,0,0)).2.2.1)/\ ((x.2.2.getD s.2.2.2.2.2.2.toNat (0,0,0,0,0,0)).2.2.1<(x.1.length:Int)))/\
 (((Int.toNat (x.2.2.getD s.2.2.2.2.2.2.toNat (0,0,0,0,0,0)).2.2.1)<x.1.length)/\
 (((Int.toNat (x.2.2.getD s.2.2.2.2.2.2.toNat (0,0,0,0,0,0)).2.2.1)<x.1.length)/\
 ((l8 (x.1.getD (Int.toNat (x.2.2.getD s.2.2.2.2.2.2.toNat (0,0,0,0,0,0)).2.2.1) ((0,0,0),(0,0,0),0,0,0)))/\
 aC (rU (x.1.getD (Int.toNat (x.2.2.getD s.2.2.2.2.2.2.toNat (0,0,0,0,0,0)).2.2.1) ((0,0,0),(0,0,0),0,0,0))) fun y_2=>
 ((lB (x.2.1,(x.2.2.getD s.2.2.2.2.2.2.toNat (0,0,0,0,0,0)).2.2.2,y_2))/\
 aC (th (x.2.1,(x.2.2.getD s.2.2.2.2.2.2.toNat (0,0,0,0,0,0)).2.2.2,y_2)) fun bk=>
 ((yN (s.2.1,s.2.2.2.1,x.2.1.2.2.2.2,(s.2.2.1,s.2.2.2.2.1,s.2.2.2.2.2.1),bk))/\
 aC (Ck (s.2.1,s.2.2.2.1,x.2.1.2.2.2.2,(s.2.2.1,s.2.2.2.2.1,s.2.2.2.2.2.1),bk)) fun bQ=>
 ((s.1.length+1)<1099511627776)))))))))))))))))
def y7 (x:kz) (s:A6):Tr (A6⊕(Int⊕(List Int))) true:=
 (.i10 (s.2.2.2.2.2.2<(nL x.2.2))
 (.mS s.2.2.2.2.2.2 x.2.2
 (.mS (gT x.2.2 s.2.2.2.2.2.2 (z0,z0,z0,bX)).2.2.1 x.1
 (.fn qS (gT x.1 (gT x.2.2 s.2.2.2.2.2.2 (z0,z0,z0,bX)).2.2.1 Lm) fun y=>
 (.fn sv (x.2.1,(gT x.2.2 s.2.2.2.2.2.2 (z0,z0,z0,bX)).2.2.2,y) fun aB=>
 (.i10 (aB=z0)
 (.mS (gT x.2.2 s.2.2.2.2.2.2 (z0,z0,z0,bX)).2.2.1 x.1
 (.fn qS (gT x.1 (gT x.2.2 s.2.2.2.2.2.2 (z0,z0,z0,bX)).2.2.1 Lm) fun y_2=>
 (.fn su (x.2.1,(gT x.2.2 s.2.2.2.2.2.2 (z0,z0,z0,bX)).2.2.2,y_2) fun bk=>
 (.fn A9 (s.2.1,s.2.2.2.1,x.2.1.2.2.2.2,(s.2.2.1,s.2.2.2.2.1,s.2.2.2.2.2.1),bk) fun bQ=>
 (.od ((s.1.length+1)<1099511627776)
 (.ret (.inl ((s.1++ [bQ.1]),s.2.1,bQ.2.2.1,bQ.2.1,bQ.2.2.2.1,bQ.2.2.2.2,(w1 s.2.2.2.2.2.2)))))))))
 (.ret (.inr (Sum.inl aB))))))))
 (.ret (.inr (Sum.inr (s.1)))))
def ED (x:kz):(List Int×Int):=
 (aq (gis x.2.1) fun y=>
 (if ((!y)=true) then
 ([],1) else
 (if ((x.1.length:Int)>500) then
 ([],2) else
 (aq (dK (x.1,false)) fun aB=>
 (if (aB=true) then
 ([],5) else
 (aq (n9 x.1) fun y_2=>
 (aq false fun bk=>
 (aq (run (ef x) (y_2,0)) fun r=>
 (Sum.elim (fun a=>
 ([],1)) (fun b=>
 (aq (run (fY x) ([],b,0,[],0,0,0)) fun r_1=>
 (Sum.elim (fun a=>
 ([],a)) (fun b_1=>
 (b_1,0)) r_1))) r)))))))))
def vS (x:kz):Prop:=
 ((rV x.2.1)/\
 aC (gis x.2.1) fun y=>
 (¬((!y)=true)->
 (¬((x.1.length:Int)>500)->
 ((dH (x.1,false))/\
 aC (dK (x.1,false)) fun aB=>
 (¬(aB=true)->
 ((jv x.1)/\
 aC (n9 x.1) fun y_2=>
 ((fx 0)/\
 aC false fun bk=>
 (Term (ef x) (jS x) (y_2,0)/\
 aC (run (ef x) (y_2,0)) fun r=>
 (cS r (fun a=>
 True) (fun b=>
 (Term (fY x) (jT x) ([],b,0,[],0,0,0))))))))))))
def acY (x:kz):Tr (List Int×Int) true:=
 (.fn Fx x.2.1 fun y=>
 (.nM (!y)
 (.pn 0 7
 (.ret ([],z1)))
 (.Bq
 (.FN ((nL x.1)>500)
 (.pn 1 8
 (.pn 0 7
 (.ret ([],2))))
 (.fn fI (x.1,false) fun aB=>
 (.nM aB
 (.pn 1 8
 (.pn 0 7
 (.ret ([],5))))
 (.fn oe x.1 fun y_2=>
 (.pn 1 8
 (.fn jm z0 fun bk=>
 (aK.lp (EF x) (y6 x) (y_2,z0) fun r=>
 (.s01 r (fun a=>
 (.pn 0 7
 (.ret ([],z1)))) (fun b=>
 (aK.lp (EG x) (y7 x) ([],b,z0,[],bX) fun r_1=>
 (.MK r_1 (fun a=>
 (.pn 0 7
 (.ret ([],a)))) (fun b_1=>
 (.pn 0 7
 (.ret (b_1,z0))))))))))))))))))
abbrev Tj:FnX:=⟨aiQ,vS,ED⟩
theorem Yl:QX Tryz.prog tt eU 30 (Np Tryz.prog (qv 7 6 38 BW)) [5,15] (bp Tryz.f16) Tryz.agO Tj:=QX.tr Tj acY (fun x=>EE.ok) (fun x=>(gZ.tr aA (ah.dX dU EE.ok) mixed 0 (cI (blk 0 (bp Tryz.f16))) (EF x) (y6 x) (gZ.tr aA (ah.dX dU EE.ok) mixed 2 (cI (blk 2 (bp Tryz.f16))) (EG x) (y7 x) aee (by kernel_rfl) fun g s Q=>(by kernel_rfl)) (by kernel_rfl) fun g s Q=>(by kernel_rfl))) (fun x=>(by kernel_rfl)) (fun x=>(by kernel_rfl)) fun x r0 Q=>(by kernel_rfl)
end Go.Proofs.YtngdehlpoomaiaaGreat
