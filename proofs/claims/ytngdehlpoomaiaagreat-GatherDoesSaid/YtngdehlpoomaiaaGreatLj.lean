/- A caster's value, as1 a function that is lent a ray.Caster. -/
import Derived.Test.YtngdehlpoomaiaaGreatKi
import Derived.Test.YtngdehlpoomaiaaGreatKk
noncomputable section
set_option linter.unusedSectionVars false
set_option linter.unusedVariables false
set_option linter.unusedSimpArgs false
namespace Go.Proofs.YtngdehlpoomaiaaGreat
open Go Go.Ev Go.Proofs
abbrev fF:Type:=(List I9×List ((I3×I3)×Int×Int×List Int)×List (Int×I3×I3×I2)×I3×(Int×I3)×I3×I3)
abbrev Ft:Type:=(Int×List ((I3×I3)×Int×Int×List Int)×Int×Int×List Int×Int)
abbrev Fu:Type:=(Int×List ((I3×I3)×Int×Int×List Int)×Int×Int×List I3×I3)
abbrev pU:Type:=((Int×Int×Int×Int×List (Int×I3×I3×I2))×I3×I3)
abbrev zv:Ty:= .prod (.sl OQ) (.prod (.sl gP) (.prod (.sl vq) (.prod (.prod dD (.prod dD dD)) Wi)))
abbrev akN:Ty:= .prod dD (.prod (.sl gP) (.prod dD (.prod dD dD)))
def cV (p cl:Cell) (y:Wi.T):AV:= .v (.agg [p,ci y.1.1,ci y.1.2.1,ci y.1.2.2.1,ci y.1.2.2.2,cl,ci y.2.1.1,ci y.2.1.2.1,ci y.2.1.2.2,ci y.2.2.1,ci y.2.2.2.1,ci y.2.2.2.2])
def rdI (v:AV):Option Int:=match v with
 | .v (.one (.raw (.int .i64 y)))=>some y
 |_=>none
def kZ (x:zv.T):List aD:=A5 eU vq x.1 x.2.1 x.2.2.1 (.int .u32 x.2.2.2.1.1) (.int .i32 0) (.int .u32 0) (.int .i64 x.2.2.2.1.2.1) (.int .i64 x.2.2.2.1.2.2)
def aqA:PX:=⟨.one zv,akN,fun x=> [cV (.ptr 0 0) (.full 3) x.2.2.2.2],fun x r0=>kZ x++ [.cg r0 4],fun _ r0 Q=>Ct 4 r0 (ON eU rdI Q),fun _ _ _ _=>False⟩
def zw (x:fF):aI:=⟨[.env],⟨cj 26 0 [(3,.v (.one (.ptr 6 0))),(4,.v (.one (.jO 62 0 [.loc 8 0,.loc 6 0]))),(14,.v (.one (.full 3))),(15,.v (.one (.i .i64))),(16,.v (.one (.i .i64)))],[.cells [.full 1,.i IntKind.u32,.i IntKind.i32,.i IntKind.u32,.full 5,.i .i64,.i .i64] 80,.row cO 0,.gone,.row (Ty.prod yi (Ty.prod aG (Ty.prod aG dh))) 0,.cg 4,.row (Ty.prod (Ty.prod aG aG) (Ty.prod yi (Ty.prod yi (Ty.sl yi)))) 2,.cells [.full 7] 38,.row yi 2,.cells [.ptr 0 0,.i .i64,.i .i64,.i .i64,.i .i64,.full 3,.i .i64,.i .i64,.i .i64,.i .i64,.i .i64,.i .i64] 87],5,none,[9],[0,3,4,7,8,12,13,14,15,16,17,18,19,20,21],[2,10,5,6,11,1],[.i,(.l (Ty.prod (Ty.prod aG aG) (Ty.prod yi (Ty.prod yi (Ty.sl yi))))),.i,.i,(.l yi),.i],[.i (x.2.2.1.length:Int),.i 0,.i 0,.l cO x.1,.l (Ty.prod yi (Ty.prod aG (Ty.prod aG dh))) x.2.2.1,.i x.2.2.2.2.1.1,.i x.2.2.2.2.1.2.1,.i x.2.2.2.2.1.2.2.1,.i x.2.2.2.2.1.2.2.2,.i x.2.2.2.2.2.1.1,.i x.2.2.2.2.2.1.2.1,.i x.2.2.2.2.2.1.2.2,.i x.2.2.2.2.2.2.1,.i x.2.2.2.2.2.2.2.1,.i x.2.2.2.2.2.2.2.2]⟩,[⟨(.exit 0),.normal,⟨cj 26 0 [(3,.v (.one (.ptr 6 0)))],[.cells [.full 1,.i IntKind.u32,.i IntKind.i32,.i IntKind.u32,.full 5,.i .i64,.i .i64] 80,.row cO 0,.gone,.row (Ty.prod yi (Ty.prod aG (Ty.prod aG dh))) 0,.cg 4,.row (Ty.prod (Ty.prod aG aG) (Ty.prod yi (Ty.prod yi (Ty.sl yi)))) 2,.cells [.full 7] 38,.row yi 2],5,none,[7],[1,2,5,6],[0,8,3,4,9],[.i,(.l (Ty.prod (Ty.prod aG aG) (Ty.prod yi (Ty.prod yi (Ty.sl yi))))),.i,.i,(.l yi)],[.i 0,.i 0,.l cO x.1,.l (Ty.prod yi (Ty.prod aG (Ty.prod aG dh))) x.2.2.1]⟩⟩]⟩
def ek (x:fF) (s:Ft):Tr (Ft⊕(Int×List ((I3×I3)×Int×Int×List Int)×Int×Int×List Int)) true:=
 (.i10 (s.2.2.2.2.2<(x.2.2.1.length:Int))
 (.oR s.2.2.2.2.2 (x.2.2.1.length:Int)
 (.od (s.2.2.2.2.2.toNat<x.2.2.1.length)
 (.od (s.2.2.2.2.2.toNat<x.2.2.1.length)
 (.CX
 (.fn ud ((x.2.2.1.getD s.2.2.2.2.2.toNat (0,bn,bn,uQ)),x.2.2.2.2.2.1) fun y=>
 (.BQ (y.2.2==0)
 (.CX
 (.og (true&&((decide (s.1=0))||(decide (s.1=1)))) (((decide (s.1=0))||(decide (s.1=1)))=true) (fun h=>(iu rfl h))
 (.call (HL s.1 (fI.base.pre x.1)) (o7 s.1 (fI.base.YO x.1) s.2.1) fun aB=>
 (.call (fI.anh x.1 aB (x.2.2.2.2.2.1,y.2.1)) (fI.ask x.1 aB (x.2.2.2.2.2.1,y.2.1)) fun y_2=>
 (.lt (AN y_2 s.2.2.1 1) fun bI=>
 (.lt (AN y_2 s.2.2.2.1 y_2.2.1) fun dG=>
 (.fn kA y_2.2.2 fun tw=>
 (.pn 2 14
 (.BQ (!y_2.1)
 (.fn DF ((x.2.2.1.getD s.2.2.2.2.2.toNat (0,bn,bn,uQ)),x.2.2.2.2.2) fun Kh=>
 (.fn kA Kh.2 fun y_7=>
 (.od ((s.2.2.2.2.1.length+1)<1099511627776)
 (.pn 1 10
 (.ret (.inl (1,aB,bI,dG,(s.2.2.2.2.1++ [Kh.1]),(au (s.2.2.2.2.2+1)))))))))
 (.pn 1 10
 (.ret (.inl (1,aB,bI,dG,s.2.2.2.2.1,(au (s.2.2.2.2.2+1)))))))))))))))
 (.pn 1 10
 (.ret (.inl (s.1,s.2.1,s.2.2.1,s.2.2.2.1,s.2.2.2.2.1,(au (s.2.2.2.2.2+1))))))))))))
 (.ret (.inr ((s.1,s.2.1,s.2.2.1,s.2.2.2.1,s.2.2.2.2.1)))))
abbrev cq (x:fF) (s:Ft):Ft⊕(Int×List ((I3×I3)×Int×Int×List Int)×Int×Int×List Int):=(ek x s).val
abbrev iM (x:fF) (s:Ft):Prop:=(ek x s).pre
def BK (x:fF):aI:=⟨[.env,.env],⟨cj 38 0 [(1,.v (.one (.ptr 8 0))),(3,.v (.one (.full 9))),(4,.v (.one (.i .i64))),(17,.v (.one (.full 9))),(18,.v (.one (.i .i64))),(19,.v (.one (.i .i64)))],[.cells [.full 1,.i IntKind.u32,.i IntKind.i32,.i IntKind.u32,.full 7,.i .i64,.i .i64] 80,.row cO 0,.gone,.row (Ty.prod yi (Ty.prod aG (Ty.prod aG dh))) 0,.cg 4,.cells [.ptr 0 0,.i .i64,.i .i64,.i .i64,.i .i64,.full 3,.i .i64,.i .i64,.i .i64,.i .i64,.i .i64,.i .i64] 87,.cg 6,.row (Ty.prod (Ty.prod aG aG) (Ty.prod yi (Ty.prod yi (Ty.sl yi)))) 2,.cells [.ptr 0 0,.i .i64,.i .i64,.i .i64,.i .i64,.full 3,.i .i64,.i .i64,.i .i64,.i .i64,.i .i64,.i .i64] 87,.row aG 2],7,none,[10,21],[4,5,8,9,11,12,13,14,15,16,17,18,19,20,23,24,25,26,27,28,29,30,31,32],[3,22,6,7,33,0,1,2],[.i,(.l (Ty.prod (Ty.prod aG aG) (Ty.prod yi (Ty.prod yi (Ty.sl yi))))),.i,.i,(.l aG),.i,.i,.i],[.i 0,.i 0,.l cO x.1,.l (Ty.prod yi (Ty.prod aG (Ty.prod aG dh))) x.2.2.1,.i x.2.2.2.2.1.1,.i x.2.2.2.2.1.2.1,.i x.2.2.2.2.1.2.2.1,.i x.2.2.2.2.1.2.2.2,.i x.2.2.2.2.2.1.1,.i x.2.2.2.2.2.1.2.1,.i x.2.2.2.2.2.1.2.2,.i x.2.2.2.2.2.2.1,.i x.2.2.2.2.2.2.2.1,.i x.2.2.2.2.2.2.2.2,.i x.2.2.2.2.1.1,.i x.2.2.2.2.1.2.1,.i x.2.2.2.2.1.2.2.1,.i x.2.2.2.2.1.2.2.2,.i x.2.2.2.2.2.1.1,.i x.2.2.2.2.2.1.2.1,.i x.2.2.2.2.2.1.2.2,.i x.2.2.2.2.2.2.1,.i x.2.2.2.2.2.2.2.1,.i x.2.2.2.2.2.2.2.2]⟩,[⟨(.exit 0),.normal,⟨cj 38 0 [(1,.v (.one (.ptr 8 0))),(3,.v (.one (.full 9))),(4,.v (.one (.i .i64)))],[.cells [.full 1,.i IntKind.u32,.i IntKind.i32,.i IntKind.u32,.full 7,.i .i64,.i .i64] 80,.row cO 0,.gone,.row (Ty.prod yi (Ty.prod aG (Ty.prod aG dh))) 0,.cg 4,.cells [.ptr 0 0,.i .i64,.i .i64,.i .i64,.i .i64,.full 3,.i .i64,.i .i64,.i .i64,.i .i64,.i .i64,.i .i64] 87,.cg 6,.row (Ty.prod (Ty.prod aG aG) (Ty.prod yi (Ty.prod yi (Ty.sl yi)))) 2,.cells [.ptr 0 0,.i .i64,.i .i64,.i .i64,.i .i64,.full 3,.i .i64,.i .i64,.i .i64,.i .i64,.i .i64,.i .i64] 87,.row aG 2],7,none,[8,19],[2,3,6,7,9,10,11,12,13,14,15,16,17,18,21,22,23,24,25,26,27,28,29,30],[1,20,4,5,31,0],[.i,(.l (Ty.prod (Ty.prod aG aG) (Ty.prod yi (Ty.prod yi (Ty.sl yi))))),.i,.i,(.l aG),.i],[.i 0,.i 0,.l cO x.1,.l (Ty.prod yi (Ty.prod aG (Ty.prod aG dh))) x.2.2.1,.i x.2.2.2.2.1.1,.i x.2.2.2.2.1.2.1,.i x.2.2.2.2.1.2.2.1,.i x.2.2.2.2.1.2.2.2,.i x.2.2.2.2.2.1.1,.i x.2.2.2.2.2.1.2.1,.i x.2.2.2.2.2.1.2.2,.i x.2.2.2.2.2.2.1,.i x.2.2.2.2.2.2.2.1,.i x.2.2.2.2.2.2.2.2,.i x.2.2.2.2.1.1,.i x.2.2.2.2.1.2.1,.i x.2.2.2.2.1.2.2.1,.i x.2.2.2.2.1.2.2.2,.i x.2.2.2.2.2.1.1,.i x.2.2.2.2.2.1.2.1,.i x.2.2.2.2.2.1.2.2,.i x.2.2.2.2.2.2.1,.i x.2.2.2.2.2.2.2.1,.i x.2.2.2.2.2.2.2.2]⟩⟩]⟩
def dP (x:fF) (s:Fu):Tr (Fu⊕(Int×List ((I3×I3)×Int×Int×List Int)×Int×Int×List I3×Int)) true:=
 (.i10 (s.2.2.2.2.2.2.2<s.2.2.2.2.2.2.1)
 (.oR s.2.2.2.2.2.2.2 (s.2.2.2.2.1.length:Int)
 (.od (s.2.2.2.2.2.2.2.toNat<s.2.2.2.2.1.length)
 (.od (s.2.2.2.2.2.2.2.toNat<s.2.2.2.2.1.length)
 (.CX
 (.og (true&&((decide (s.1=0))||(decide (s.1=1)))) (((decide (s.1=0))||(decide (s.1=1)))=true) (fun h=>(iu rfl h))
 (.call (HL s.1 (fI.base.pre x.1)) (o7 s.1 (fI.base.YO x.1) s.2.1) fun y=>
 (.call (fI.anh x.1 y (x.2.2.2.2.2.1,(s.2.2.2.2.1.getD s.2.2.2.2.2.2.2.toNat bn))) (fI.ask x.1 y (x.2.2.2.2.2.1,(s.2.2.2.2.1.getD s.2.2.2.2.2.2.2.toNat bn))) fun aB=>
 (.lt (AN aB s.2.2.1 1) fun y_2=>
 (.lt (AN aB s.2.2.2.1 aB.2.1) fun bI=>
 (.fn kA aB.2.2 fun dG=>
 (.pn 2 11
 (.iY (!aB.1)
 (.ret (.inl (1,y,y_2,bI,s.2.2.2.2.1,(au (s.2.2.2.2.2.1+1)),s.2.2.2.2.2.2.1,(au (s.2.2.2.2.2.2.2+1)))))
 (.ret (.inl (1,y,y_2,bI,s.2.2.2.2.1,s.2.2.2.2.2.1,s.2.2.2.2.2.2.1,(au (s.2.2.2.2.2.2.2+1)))))))))))))))))
 (.ret (.inr ((s.1,s.2.1,s.2.2.1,s.2.2.2.1,s.2.2.2.2.1,s.2.2.2.2.2.1)))))
abbrev dA (x:fF) (s:Fu):Fu⊕(Int×List ((I3×I3)×Int×Int×List Int)×Int×Int×List I3×Int):=(dP x s).val
abbrev jf (x:fF) (s:Fu):Prop:=(dP x s).pre
def RK (x:fF):Od Tryz.prog:=⟨_,(aH.walk bt jK mixed 63 (fn:=Tryz.f63) (by kernel_rfl) (aH.nil _ _) fun ys hy=>aK.nil)⟩
def agd (x:fF):Od Tryz.prog:=⟨_,(aH.walk bt jK mixed 61 (fn:=Tryz.f61) (by kernel_rfl) (RK x).ok fun ys hy=>(aK.tr bt ⟨jK,hy,(RK x).ok⟩ mixed 0 (BK x) (dP x) aK.nil (by kernel_rfl) fun g s Q=>(by kernel_rfl)))⟩
def RL (x:fF):Od Tryz.prog:=⟨_,(aH.walk bt jK mixed 62 (fn:=Tryz.f62) (by kernel_rfl) (agd x).ok fun ys hy=>aK.nil)⟩
def wG (x:fF):(Int×List ((I3×I3)×Int×Int×List Int)×I3):=
 (ak (Pm ((x.2.2.2.2.1.1,x.2.2.2.2.1.2.1,x.2.2.2.2.1.2.2.1,x.2.2.2.2.1.2.2.2,x.2.2.1),x.2.2.2.2.2)) fun y=>
 (if (((y.length:Int)==0)=true) then
 (ak (run (cq x) (x.2.2.2.1.1,x.2.1,x.2.2.2.1.2.1,x.2.2.2.1.2.2,[x.2.2.2.2.1.2.2.2],0)) fun r=>
 (ak (ai8 r.2.2.2.2) fun aB=>
 (aB,r.2.1,r.1,r.2.2.1,r.2.2.2.1))) else
 (ak (run (dA x) (x.2.2.2.1.1,x.2.1,x.2.2.2.1.2.1,x.2.2.2.1.2.2,y,0,(y.length:Int),0)) fun r=>
 (ak (run (cq x) (r.1,r.2.1,r.2.2.1,r.2.2.2.1,[(au (Int.tdiv (au (x.2.2.2.2.1.2.2.2*r.2.2.2.2.2)) (r.2.2.2.2.1.length:Int)))],0)) fun r_1=>
 (ak (ai8 r_1.2.2.2.2) fun aB=>
 (aB,r_1.2.1,r_1.1,r_1.2.2.1,r_1.2.2.2.1))))))
def nj (x:fF):Prop:=
 ((tT ((x.2.2.2.2.1.1,x.2.2.2.2.1.2.1,x.2.2.2.2.1.2.2.1,x.2.2.2.2.1.2.2.2,x.2.2.1),x.2.2.2.2.2))/\
 az (Pm ((x.2.2.2.2.1.1,x.2.2.2.2.1.2.1,x.2.2.2.2.1.2.2.1,x.2.2.2.2.1.2.2.2,x.2.2.1),x.2.2.2.2.2)) fun y=>
 (((((y.length:Int)==0)=true)->
 (Term (cq x) (iM x) (x.2.2.2.1.1,x.2.1,x.2.2.2.1.2.1,x.2.2.2.1.2.2,[x.2.2.2.2.1.2.2.2],0)/\
 az (run (cq x) (x.2.2.2.1.1,x.2.1,x.2.2.2.1.2.1,x.2.2.2.1.2.2,[x.2.2.2.2.1.2.2.2],0)) fun r=>
 (ya r.2.2.2.2)))/\
 (¬(((y.length:Int)==0)=true)->
 (Term (dA x) (jf x) (x.2.2.2.1.1,x.2.1,x.2.2.2.1.2.1,x.2.2.2.1.2.2,y,0,(y.length:Int),0)/\
 az (run (dA x) (x.2.2.2.1.1,x.2.1,x.2.2.2.1.2.1,x.2.2.2.1.2.2,y,0,(y.length:Int),0)) fun r=>
 (((r.2.2.2.2.1.length:Int)≠0)/\
 (Term (cq x) (iM x) (r.1,r.2.1,r.2.2.1,r.2.2.2.1,[(au (Int.tdiv (au (x.2.2.2.2.1.2.2.2*r.2.2.2.2.2)) (r.2.2.2.2.1.length:Int)))],0)/\
 az (run (cq x) (r.1,r.2.1,r.2.2.1,r.2.2.2.1,[(au (Int.tdiv (au (x.2.2.2.2.1.2.2.2*r.2.2.2.2.2)) (r.2.2.2.2.1.length:Int)))],0)) fun r_1=>
 (ya r_1.2.2.2.2)))))))
def akG (x:fF):Tr (Int×List ((I3×I3)×Int×Int×List Int)×I3) true:=
 (.CX
 (.fn Dh ((x.2.2.2.2.1.1,x.2.2.2.2.1.2.1,x.2.2.2.2.1.2.2.1,x.2.2.2.2.1.2.2.2,x.2.2.1),x.2.2.2.2.2) fun y=>
 (.b11 ((nL y)==z0)
 (.pn 1 6
 (aI.lp (zw x) (ek x) (x.2.2.2.1.1,x.2.1,x.2.2.2.1.2.1,x.2.2.2.1.2.2,[x.2.2.2.2.1.2.2.2],z0) fun r=>
 (.fn LS r.2.2.2.2 fun aB=>
 (.pn 0 4
 (.ret (aB,r.2.1,r.1,r.2.2.1,r.2.2.2.1))))))
 (aI.lp (BK x) (dP x) (x.2.2.2.1.1,x.2.1,x.2.2.2.1.2.1,x.2.2.2.1.2.2,y,z0,(nL y),z0) fun r=>
 (.od ((nL r.2.2.2.2.1)≠z0)
 (.pn 1 6
 (aI.lp (zw x) (ek x) (r.1,r.2.1,r.2.2.1,r.2.2.2.1,[(au (Int.tdiv (au (x.2.2.2.2.1.2.2.2*r.2.2.2.2.2)) (nL r.2.2.2.2.1)))],z0) fun r_1=>
 (.fn LS r_1.2.2.2.2 fun aB=>
 (.pn 0 4
 (.ret (aB,r_1.2.1,r_1.1,r_1.2.2.1,r_1.2.2.2.1)))))))))))
abbrev Yp:FnX:=⟨aqA,nj,wG⟩
theorem age:YC Tryz.prog tt mg 30 (fun _ _ _ _ _=>False) [] (aC Tryz.f32) Tryz.f32 Yp:=YC.tr Yp akG (fun x=>(RL x).ok) (fun x=>(jg.tr bt (aj.F0 jK (RL x).ok) mixed 0 (cI (blk 0 (aC Tryz.f32))) (zw x) (ek x) jg.nil (by kernel_rfl) fun g s Q=>(by kernel_rfl))) (fun x=>(by kernel_rfl)) (fun x=>(by kernel_rfl)) fun x r0 Q=>(by kernel_rfl)
end Go.Proofs.YtngdehlpoomaiaaGreat
namespace Go.Proofs.YtngdehlpoomaiaaGreat
open Go Go.Ev Go.Proofs
abbrev an2 (r:Ty):Type:=zv.T->r.T×(List gP.T×Int×Int×Int)
def acr {r:Ty} (mt:List AV->Option (Nat×Cell×Wi.T)) (val:r.T->AV) (pre:zv.T->Prop) (f:an2 r):Ev.Spec:=fun _ args hp nm k=>match mt args with
 |some (n,cl,y)=>match hp n with
  |some (.cells [cL,.raw (.int .u32 dn),.raw (.int .i32 s),.raw (.int .u32 q),cT,.raw (.int .i64 a),.raw (.int .i64 b)] e)=>match yN hp gP cT with
   |some (T,rr)=>match fJ hp (.one (.sl OQ)) [.v (.one cL)] with
    |some (L,[],tc,b0)=>match fJ hp (.one (.sl vq)) [.v (.one cl)] with
     | some (Lt,[],w7,b1)=>if decide (e=80)&&(eV (n::rr)&&(ry tc (n::rr)&&ry w7 (n::rr))) then
       ob (b0&&(b1&&(decide (s=0)&&decide (q=0)))) (pre (L,T,Lt,(dn,a,b),y)/\ ∀z,z=f (L,T,Lt,(dn,a,b),y)->
        k {val:=val z.1,fresh:= [.row gP z.2.1 2],writes:=(n,.cells (AU cL (.full nm) (.int .u32 z.2.2.1) (.int .i32 0) (.int .u32 0) (.int .i64 z.2.2.2.1) (.int .i64 z.2.2.2.2)) 80)::rr.map fun r=>(r,.gone),aF:=(n::rr)++(tc++w7)}) else False
     |_=>False
    |_=>False
   |none=>False
  |_=>False
 |none=>False
def agA {r:Ty} (val:r.T->AV) (y:r.T×(List gP.T×Int×Int×Int)) (av:fG) (W:World) (aW:Env) (e:Ending) (w':World):Prop:=
 ∃st aR v,e= .returned (v.ae aR)/\ aoH eU (val y.1) (.int .u32 y.2.2.1) (.int .u32 0) (.int .i64 y.2.2.2.1) (.int .i64 y.2.2.2.2) y.2.1 v st/\ (aR 0=aW 0/\ aR 1=aW 1)/\ St av W aR (· <st.heap.length) (ai st.heap) w'
theorem V6 {r:Ty} {mt:List AV->Option (Nat×Cell×Wi.T)} {val:r.T->AV} {pre:zv.T->Prop} {fm:an2 r} {f:FuncId} {A:Cell->Cell->Wi.T->List AV}
  (hmt: ∀args n cl y,mt args=some (n,cl,y)->args=A (.ptr n 0) cl y)
  (hA: ∀y p c p' c' ρ ρ',p.ae ρ=p'.ae ρ'->c.ae ρ=c'.ae ρ'->(A p c y).map (AV.ae ρ)=(A p' c' y).map (AV.ae ρ')) (hval: ∀y,(∀ρ ρ',(val y).ae ρ=(val y).ae ρ')/\ ∀Kn,(val y).ok Kn)
  (xL: ∀x,pre x-> ∀av W aW w,av.bd= []->St av W aW (· <4) (ai (kZ x)) w->Calls Tryz.prog f ((A (.ptr 0 0) (.full 3) x.2.2.2.2).map (AV.ae aW)).toArray w (agA val (fm x) av W aW)):aq Tryz.prog f (acr mt val pre fm):=by
 intro X args hp nm k hs
 unfold acr at hs
 split at hs
 rotate_left
 ·exact hs.elim
 rename_i n cl y hm
 split at hs
 rotate_left
 ·exact hs.elim
 rename_i cL dn s q cT a b e hC1
 split at hs
 rotate_left
 ·exact hs.elim
 rename_i T rr UF
 split at hs
 rotate_left
 ·exact hs.elim
 rename_i L tc b0 JJ
 split at hs
 rotate_left
 ·exact hs.elim
 rename_i Lt w7 b1 hd3
 split at hs
 rotate_left
 ·exact hs.elim
 rename_i hc
 simp only [Bool.and_eq_true,decide_eq_true_eq] at hc
 obtain ⟨rfl,ja,FM,aid⟩:=hc
 obtain ⟨hb,hpre,hk⟩:=bh hs
 simp only [Bool.and_eq_true,decide_eq_true_eq] at hb
 obtain ⟨rfl,rfl,rfl,rfl⟩:=hb
 have hk:=hk _ rfl
 have ea:=hmt _ _ _ _ hm
 subst ea
 refine ⟨_,rA.avk (d:=eU) (tl:=vq) (A:=fun p c=>A p c y) hC1 UF JJ hd3 ja FM aid (hA y) (hval _) (fun av W aW w hbd hst=> ?_),hk⟩
 exact xL (L,T,Lt,(dn,a,b),y) hpre av W aW w hbd hst
def mtV:List AV->Option (Nat×Cell×Wi.T)
 | [.v (.agg [.ptr n 0,.raw (.int .i64 a),.raw (.int .i64 b),.raw (.int .i64 c),.raw (.int .i64 d),cl,.raw (.int .i64 x),.raw (.int .i64 y),.raw (.int .i64 z),.raw (.int .i64 u),.raw (.int .i64 v),.raw (.int .i64 w)])]=>some (n,cl,(a,b,c,d),(x,y,z),u,v,w)
 |_=>none
theorem aqf: ∀args n cl y,mtV args=some (n,cl,y)->args= [cV (.ptr n 0) cl y]:=by
 intro args n cl y h
 unfold mtV at h
 split at h
 ·cases h;rfl
 ·cases h
theorem B4: ∀c:Code,gC [] c=c
 | .seq a b=>by simp only [gC,B4 a,B4 b]
 | .cond c a b=>by simp only [gC,B4 a,B4 b]
 | .loop c=>by simp only [gC,B4 c]
 | .block id c=>by simp only [gC,B4 c]
 | .region id ops draw=>by simp [gC,Ce]
 | .skip| .exit _| .scope _| .label _| .goto _| .ret| .refuse _| .rangeFunc _ _ _ _=>rfl
theorem aqs: ∀v y,rdI v=some y->v= .v (.one (.raw (.int .i64 y))):=by
 intro v y h
 unfold rdI at h
 split at h
 ·cases h;rfl
 ·cases h
theorem Yq (x:zv.T) (hp:nj x) (av:fG) (W:World) (aW:Env) (w:World) (hbd:av.bd= []) (hst:St av W aW (· <4) (ai (kZ x)) w):
  Calls Tryz.prog 32 (([cV (.ptr 0 0) (.full 3) x.2.2.2.2]).map (AV.ae aW)).toArray w (agA (r:=dD) (fun y=> .v (.one (.raw (.int .i64 y)))) (wG x) av W aW):=by
 obtain ⟨lp,its,hi,hl,ha,z8⟩:=age x hp
 obtain ⟨wI,hold,xX⟩:=hst.pinned
 have z8:goE ⟨tt,mg,cf,lp,[],its⟩ Tryz.f32 [cV (.ptr 0 0) (.full 3) x.2.2.2.2] (kZ x++ [.cg aW 4]) (Ct 4 aW (ON eU rdI (· =wG x))) (fun _=>False):=z8 aW
 have xX:St av W wI (· <(kZ x++ [aD.cg aW 4]).length) (ai (kZ x++ [.cg aW 4])) w:=xX
 have hok: ∀a∈ [cV (.ptr 0 0) (.full 3) x.2.2.2.2],a.ok (· <4):=fun a ha=>by
  rw [List.mem_singleton] at ha
  subst ha
  intro c hc
  simp only [List.mem_cons,List.not_mem_nil,or_false] at hc
  rcases hc with rfl|rfl|rfl|rfl|rfl|rfl|rfl|rfl|rfl|rfl|rfl|rfl<;>first|trivial|(show _<4;decide)
 have hca: [cV (.ptr 0 0) (.full 3) x.2.2.2.2].map (AV.ae wI)= [cV (.ptr 0 0) (.full 3) x.2.2.2.2].map (AV.ae aW):=List.map_congr_left fun a ha=>AV.bu (Kn:=(· <4)) hold a (hok a ha)
 rw [<- hca]
 have tY:YL Tryz.prog ⟨tt,mg,cf,lp,[],its⟩ 30 (fun _ _ _ _ _=>False) [] (aC Tryz.f32):=hl.lpG (ctx:=⟨tt,mg,cf,lp,[],its⟩) (fun p hp=>hp) ha
 have hcd:cJ ⟨tt,mg,cf,lp,[],its⟩ (gC [] (aC Tryz.f32)) ⟨[cV (.ptr 0 0) (.full 3) x.2.2.2.2]++List.replicate (Tryz.f32.ntmps- [cV (.ptr 0 0) (.full 3) x.2.2.2.2].length) ck,kZ x++ [.cg aW 4]⟩ (Vq ⟨tt,mg,cf,lp,[],its⟩ Tryz.f32 (Ct 4 aW (ON eU rdI (· =wG x))) (fun _=>False)):=by rw [B4];exact z8
 have Gf:e8 Tryz.prog ⟨tt,mg,cf,lp,[],its⟩:=⟨jK,o9.nil _,hi⟩
 have hb0:Tryz.f32.body=some (aC Tryz.f32):=by kernel_rfl
 have Jk:Tryz.prog.funcs[32]? =some Tryz.f32:=by kernel_rfl
 have Gh:Ow (aC Tryz.f32)=true:=by kernel_rfl
 have Zn: ∀a∈ [cV (.ptr 0 0) (.full 3) x.2.2.2.2],a.ok (· <(kZ x++ [aD.cg aW 4]).length):=fun a ha=>AV.aT (fun i hi=>by show i<5;omega) a (hok a ha)
 clear z8 hl ha hi hca hok
 generalize kZ x++ [aD.cg aW 4]=hp1 at xX hcd Zn
 generalize Tryz.f32=fn at tY hcd hb0 Jk Gh
 generalize aC fn=c at tY hcd hb0 Gh
 generalize [cV (.ptr 0 0) (.full 3) x.2.2.2.2]=ar at hcd Zn ⊢
 have key:=ahb bt Gf mixed Jk hb0 Gh tY (cf.ok av W) hbd (fun k a w a' w' h=>h.elim) hcd Zn xX
 refine key.mono ?_
 clear key hcd tY
 rintro e w' (⟨st,ρ',v,rfl,hv,hR,lB⟩|⟨k,w2,a,a2,st,ρ',rfl,hPn,hfr,hR,aQ⟩)
 rotate_left
 ·exact hR.elim
 obtain ⟨h1,h2⟩:=dy hR
 have hpe:=(lB.at_ _ _ h1).2
 obtain ⟨y,z,u,a,b,hq,hE⟩:=QD h2 (val:=fun y=> .v (.one (.raw (.int .i64 y)))) aqs
 have hq:(y,z,u,a,b)=wG x:=hq
 rw [<- hq]
 exact ⟨st,ρ',v,rfl,hE,⟨hpe 0 (by decide),hpe 1 (by decide)⟩,lB⟩
def Ut (x:zv.T):akN.T:=wG x
def NO (x:zv.T):Prop:=nj x
abbrev FD:bF:=⟨.one zv,.one akN,NO,Ut⟩
def abj:Ev.Spec:=fun _ args hp nm k=>match mtV args with
 |some (n,cl,y)=>match hp n with
  |some (.cells [cL,.raw (.int .u32 dn),.raw (.int .i32 s),.raw (.int .u32 q),cT,.raw (.int .i64 a),.raw (.int .i64 b)] e)=>match yN hp gP cT with
   |some (T,rr)=>match fJ hp (.one (.sl OQ)) [.v (.one cL)] with
    |some (L,[],tc,b0)=>match fJ hp (.one (.sl vq)) [.v (.one cl)] with
     | some (Lt,[],w7,b1)=>if decide (e=80)&&(eV (n::rr)&&(ry tc (n::rr)&&ry w7 (n::rr))) then
       ob (b0&&(b1&&(decide (s=0)&&decide (q=0)))) (FD.pre (L,T,Lt,(dn,a,b),y)/\ ∀z,z=FD.f (L,T,Lt,(dn,a,b),y)->
        k {val:= .v (.one (.raw (.int .i64 z.1))),fresh:= [.row gP z.2.1 2],writes:=(n,.cells (AU cL (.full nm) (.int .u32 z.2.2.1) (.int .i32 0) (.int .u32 0) (.int .i64 z.2.2.2.1) (.int .i64 z.2.2.2.2)) 80)::rr.map fun r=>(r,.gone),aF:=(n::rr)++(tc++w7)}) else False
     |_=>False
    |_=>False
   |none=>False
  |_=>False
 |none=>False
theorem agf:abj=acr (r:=dD) mtV (fun y=> .v (.one (.raw (.int .i64 y)))) nj wG:=rfl
theorem agh:aq Tryz.prog 32 abj:=by
 rw [agf]
 exact V6 (A:=fun p c y=> [cV p c y]) aqf (fun y p c p' c' ρ ρ' h1 h2=>by
 simp only [cV,List.map_cons,List.map_nil,AV.ae,A0.ae,h1,h2];rfl) (fun y=>⟨fun _ _=>rfl,fun _=>trivial⟩) fun x hp av W aW w hbd hst=>Yq x hp av W aW w hbd hst
end Go.Proofs.YtngdehlpoomaiaaGreat
namespace Go.Proofs.YtngdehlpoomaiaaGreat
open Go Go.Ev Go.Proofs
def bC:List (Nat×Ev.Spec):=(32,abj)::mg
theorem fD:aj Tryz.prog bC:=aA (fn:=Tryz.f32) agh jK
def mR:Ctx:=⟨tt,[],cf,[],[],[]⟩
def adV:Ctx:=⟨tt,bC,cf,[],[],[]⟩
def bq (fn:Func):Code:=cR (cR (aC fn))
def alB:AV->List Cell
 | .v (.agg l)=>l
 |_=> []
def jA (cl:Cell) (y:Wi.T):AV:= .v (.agg [ci y.1.1,ci y.1.2.1,ci y.1.2.2.1,ci y.1.2.2.2,cl])
def pA (p:v3Y.T):AV:= .v (.agg [ci p.1,ci p.2.1,ci p.2.2])
def pt (n:Nat):AV:= .v (.one (.ptr n 0))
def Gt (x:bg.ty.T):Wi.T:=((x.1.1,x.1.2.1,x.1.2.2.1,x.1.2.2.2.1),x.2.1,x.2.2)
def zV3:Value:= .agg #[.int .i64 0,.int .i64 0,.int .i64 0]
def Gs:Value:= .slice none 0 0
def boxes (cl:Cell) (y:Wi.T) (r:aD):List aD:= [.cells (alB (jA cl y)) 25,.cells (alB (pA y.2.1)) 27,.cells (alB (pA y.2.2)) 27,r,.cells [ci 0] 30]
def cY (x:bg.ty.T):List aD:= [.row vq x.1.2.2.2.2 0]
def arq (x:bg.ty.T):List AV:= [jA (.full 0) (Gt x),pA x.2.1,pA x.2.2]
def T1 (x:bg.ty.T):List AV:=arq x++ [pt 2,pt 3,pt 4,pt 5,pt 6,ck,ck,ck,ck,ck,ck]
def zo:mG:= .pair (.agg v3Y) (.one dD)
def NC (x:bg.ty.T):List aD:=boxes (.full 0) (Gt x) (.cells [ci 0,ci 0,ci 0] 27)
def aqv:PX:=⟨bg,.prod v3Y dD,fun x=>(T1 x).set 8 .dead,fun x r0=>cY x++ .gone::NC x++ [.cg r0 7],fun _ r0 Q=>Ct 7 r0 (l9 zo Q),fun _ r0 Q=>DP 7 7 6 6 5 r0 fun st=>qX mR Tryz.f12 st (l9 zo Q)⟩
noncomputable def Tryz.ao8:Func:= {Tryz.f12 with body:=some (gC [2] (bq Tryz.f12))}
noncomputable def auN:List (Nat×br):= [(1000002,Pw adV (opsOf 2 (bq Tryz.f12)) 3 31 Gw (Tn mR (s7 7 6 27 zV3)))]
theorem JA:b9 Tryz.prog 31:=b9.of (fn:=Tryz.f31) (by kernel_rfl) (by kernel_rfl) (by kernel_rfl)
theorem amz:jg Tryz.prog cf 30 (UL Tryz.prog (s7 7 6 27 zV3)) [2] (bq Tryz.f12) auN:=by
 refine jg.cons (d:= .region 2 (opsOf 2 (bq Tryz.f12)) false) jg.nil (by kernel_rfl) ?_
 exact xW (ctx:=adV) bt (aj.ctx fD) mixed JA Aj (vC (ctx:=mR) bt _)
def CL (x:pU):(I3×Int):=
 (ak (oZ x) fun y=>
 (if (y=0) then
 (ak (A8 x) fun aB=>
 (aB.2.1,0)) else
 ((0,0,0),y)))
def wA (x:pU):Prop:=
 ((qg x)/\
 az (oZ x) fun y=>
 ((y=0)->
 (qf x)))
def ako (x:pU):Tr (I3×Int) true:=
 (.fn vy x fun y=>
 (.i10 (y=z0)
 (.fn vx x fun aB=>
 (.pn 0 7
 (.ret (aB.2.1,z0))))
 (.pn 0 7
 (.ret (bn,y)))))
abbrev Ye:FnX:=⟨aqv,wA,CL⟩
theorem af2:YC Tryz.prog tt bC 30 (UL Tryz.prog (s7 7 6 27 zV3)) [2] (bq Tryz.f12) Tryz.ao8 Ye:=YC.tr Ye ako (fun x=>(aH.nil _ _)) (fun x=>amz) (fun x=>(by kernel_rfl)) (fun x=>(by kernel_rfl)) fun x r0 Q=>(by kernel_rfl)
def Ho:mG:= .pair (.one (.sl v3Y)) (.one dD)
def Vr (x:bg.ty.T):List aD:=boxes (.full 0) (Gt x) (.cells [.raw Gs] 46)
def arz:PX:=⟨bg,.prod (.sl v3Y) dD,fun x=>(T1 x).set 8 .dead,fun x r0=>cY x++ .gone::Vr x++ [.cg r0 7],fun _ r0 Q=>Ct 7 r0 (l9 Ho Q),fun _ r0 Q=>DP 7 7 6 6 5 r0 fun st=>qX mR Tryz.f15 st (l9 Ho Q)⟩
noncomputable def Tryz.ao9:Func:= {Tryz.f15 with body:=some (gC [2] (bq Tryz.f15))}
noncomputable def auO:List (Nat×br):= [(1000002,Pw adV (opsOf 2 (bq Tryz.f15)) 3 31 Gw (Tn mR (s7 7 6 46 Gs)))]
theorem amA:jg Tryz.prog cf 30 (UL Tryz.prog (s7 7 6 46 Gs)) [2] (bq Tryz.f15) auO:=by
 refine jg.cons (d:= .region 2 (opsOf 2 (bq Tryz.f15)) false) jg.nil (by kernel_rfl) ?_
 exact xW (ctx:=adV) bt (aj.ctx fD) mixed JA Aj (vC (ctx:=mR) bt _)
def K6 (x:pU):(List I3×Int):=
 (ak (oZ x) fun y=>
 (if (y=0) then
 (ak (A8 x) fun aB=>
 (ak (Pm ((aB.1.1,aB.1.2.1,aB.1.2.2.1,aB.1.2.2.2,x.1.2.2.2.2),aB.2)) fun y_2=>
 (y_2,0))) else
 ([],y)))
def zP (x:pU):Prop:=
 ((qg x)/\
 az (oZ x) fun y=>
 ((y=0)->
 ((qf x)/\
 az (A8 x) fun aB=>
 (tT ((aB.1.1,aB.1.2.1,aB.1.2.2.1,aB.1.2.2.2,x.1.2.2.2.2),aB.2)))))
def alW (x:pU):Tr (List I3×Int) true:=
 (.fn vy x fun y=>
 (.i10 (y=z0)
 (.fn vx x fun aB=>
 (.fn Dh ((aB.1.1,aB.1.2.1,aB.1.2.2.1,aB.1.2.2.2,x.1.2.2.2.2),aB.2) fun y_2=>
 (.pn 0 7
 (.ret (y_2,z0)))))
 (.pn 0 7
 (.ret ([],y)))))
abbrev abX:FnX:=⟨arz,zP,K6⟩
theorem aht:YC Tryz.prog tt bC 30 (UL Tryz.prog (s7 7 6 46 Gs)) [2] (bq Tryz.f15) Tryz.ao9 abX:=YC.tr abX alW (fun x=>(aH.nil _ _)) (fun x=>amA) (fun x=>(by kernel_rfl)) (fun x=>(by kernel_rfl)) fun x r0 Q=>(by kernel_rfl)
def aeJ (cl:Cell) (y:Wi.T):List AV:= [jA cl y,pA y.2.1,pA y.2.2]
def T2 (a:AV) (cl:Cell) (y:Wi.T) (n:Nat):List AV:=a::aeJ cl y++ [ck,pt n,pt (n+1),pt (n+2),pt (n+3),pt (n+4)]++List.replicate 13 ck
def GI (v:AV):Option (Int×Int):=match v with
 | .pT [.one (.raw (.int .i64 a)),.one (.raw (.int .i64 b))]=>some (a,b)
 |_=>none
abbrev agO:Ty:= .prod (.prod dD dD) (.prod (.sl gP) (.prod dD (.prod dD dD)))
def atW:PX:=⟨.one zv,agO,fun x=>(T2 (pt 0) (.full 3) x.2.2.2.2 5).set 11 .dead,fun x r0=>kZ x++ .gone::boxes (.full 3) x.2.2.2.2 (.cells [ci 0] 3)++ [.cg r0 10],fun _ r0 Q=>Ct 10 r0 (ON eU GI Q),fun _ r0 Q=>DP 10 9 8 9 8 r0 fun st=>qX mR Tryz.f11 st (ON eU GI Q)⟩
noncomputable def Tryz.ahz:Func:= {Tryz.f11 with body:=some (gC [2,4] (bq Tryz.f11))}
noncomputable def auM:List (Nat×br):= [(1000002,Pw adV (opsOf 2 (bq Tryz.f11)) 3 31 Gw (Tn mR (s7 9 8 3 (.int .i64 0)))),(1000004,VL 18 (.const (.int .i64 1)) (Tn mR (s7 9 8 3 (.int .i64 0))))]
theorem ab9:jg Tryz.prog cf 30 (UL Tryz.prog (s7 9 8 3 (.int .i64 0))) [2,4] (bq Tryz.f11) auM:=by
 refine jg.cons (d:= .region 2 (opsOf 2 (bq Tryz.f11)) false) (jg.cons (d:= .region 4 (opsOf 4 (bq Tryz.f11)) false) jg.nil (by kernel_rfl) ?_) (by kernel_rfl) ?_
 ·have e:opsOf 4 (bq Tryz.f11)= #[r7 (opsOf 4 (bq Tryz.f11)) 0,r7 (opsOf 4 (bq Tryz.f11)) 1]:=by kernel_rfl
  rw [e]
  exact Ly ⟨by kernel_rfl,by kernel_rfl,by kernel_rfl⟩ ⟨by kernel_rfl,by kernel_rfl⟩ DK Ai (vC (ctx:=mR) bt _)
 ·exact xW (ctx:=adV) bt (aj.ctx fD) mixed JA Aj (vC (ctx:=mR) bt _)
def RZ (x:fF):(I2×List ((I3×I3)×Int×Int×List Int)×I3):=
 (ak (oZ ((x.2.2.2.2.1.1,x.2.2.2.2.1.2.1,x.2.2.2.2.1.2.2.1,x.2.2.2.2.1.2.2.2,x.2.2.1),x.2.2.2.2.2)) fun y=>
 (if (y=0) then
 (ak (A8 ((x.2.2.2.2.1.1,x.2.2.2.2.1.2.1,x.2.2.2.2.1.2.2.1,x.2.2.2.2.1.2.2.2,x.2.2.1),x.2.2.2.2.2)) fun aB=>
 (ak (Ut (x.1,x.2.1,x.2.2.1,x.2.2.2.1,aB)) fun y_2=>
 ((y_2.1,0),y_2.2))) else
 ((0,y),x.2.1,x.2.2.2.1)))
def xd (x:fF):Prop:=
 ((qg ((x.2.2.2.2.1.1,x.2.2.2.2.1.2.1,x.2.2.2.2.1.2.2.1,x.2.2.2.2.1.2.2.2,x.2.2.1),x.2.2.2.2.2))/\
 az (oZ ((x.2.2.2.2.1.1,x.2.2.2.2.1.2.1,x.2.2.2.2.1.2.2.1,x.2.2.2.2.1.2.2.2,x.2.2.1),x.2.2.2.2.2)) fun y=>
 ((y=0)->
 ((qf ((x.2.2.2.2.1.1,x.2.2.2.2.1.2.1,x.2.2.2.2.1.2.2.1,x.2.2.2.2.1.2.2.2,x.2.2.1),x.2.2.2.2.2))/\
 az (A8 ((x.2.2.2.2.1.1,x.2.2.2.2.1.2.1,x.2.2.2.2.1.2.2.1,x.2.2.2.2.1.2.2.2,x.2.2.1),x.2.2.2.2.2)) fun aB=>
 (NO (x.1,x.2.1,x.2.2.1,x.2.2.2.1,aB)))))
def aoK (x:fF):Tr (I2×List ((I3×I3)×Int×Int×List Int)×I3) true:=
 (.fn vy ((x.2.2.2.2.1.1,x.2.2.2.2.1.2.1,x.2.2.2.2.1.2.2.1,x.2.2.2.2.1.2.2.2,x.2.2.1),x.2.2.2.2.2) fun y=>
 (.i10 (y=z0)
 (.fn vx ((x.2.2.2.2.1.1,x.2.2.2.2.1.2.1,x.2.2.2.2.1.2.2.1,x.2.2.2.2.1.2.2.2,x.2.2.1),x.2.2.2.2.2) fun aB=>
 (.fn FD (x.1,x.2.1,x.2.2.1,x.2.2.2.1,aB) fun y_2=>
 (.pn 0 10
 (.ret ((y_2.1,z0),y_2.2)))))
 (.pn 0 10
 (.ret ((z0,y),x.2.1,x.2.2.2.1)))))
abbrev agG:FnX:=⟨atW,xd,RZ⟩
theorem alv:YC Tryz.prog tt bC 30 (UL Tryz.prog (s7 9 8 3 (.int .i64 0))) [2,4] (bq Tryz.f11) Tryz.ahz agG:=YC.tr agG aoK (fun x=>(aH.nil _ _)) (fun x=>ab9) (fun x=>(by kernel_rfl)) (fun x=>(by kernel_rfl)) fun x r0 Q=>(by kernel_rfl)
def rdQ {τ:Type} (rd:AV->Option τ) (Q:τ->Prop) (v:AV) (_:AS):Prop:=match rd v with
 |some y=>Q y
 |none=>False
def arj:PX:=⟨bg,.prod dD dD,fun x=>(T2 (.v (.one (.raw (.pointer none)))) (.full 0) (Gt x) 2).set 11 .dead,fun x r0=>cY x++ .gone::boxes (.full 0) (Gt x) (.cells [ci 0] 3)++ [.cg r0 7],fun _ r0 Q=>Ct 7 r0 (rdQ GI Q),fun _ r0 Q=>DP 7 9 8 6 5 r0 fun st=>qX mR Tryz.f11 st (rdQ GI Q)⟩
def UN (x:pU):I2:=
 (ak (oZ x) fun y=>
 (if (y=0) then
 (ak (A8 x) fun aB=>
 (0,1)) else
 (0,y)))
def CV (x:pU):Prop:=
 ((qg x)/\
 az (oZ x) fun y=>
 ((y=0)->
 (qf x)))
def aoL (x:pU):Tr I2 true:=
 (.fn vy x fun y=>
 (.i10 (y=z0)
 (.fn vx x fun aB=>
 (.pn 0 7
 (.ret (z0,z1))))
 (.pn 0 7
 (.ret (z0,y)))))
abbrev agJ:FnX:=⟨arj,CV,UN⟩
theorem alw:YC Tryz.prog tt bC 30 (UL Tryz.prog (s7 9 8 3 (.int .i64 0))) [2,4] (bq Tryz.f11) Tryz.ahz agJ:=YC.tr agJ aoL (fun x=>(aH.nil _ _)) (fun x=>ab9) (fun x=>(by kernel_rfl)) (fun x=>(by kernel_rfl)) fun x r0 Q=>(by kernel_rfl)
end Go.Proofs.YtngdehlpoomaiaaGreat
