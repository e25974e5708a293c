/- What sorting is by: the models (of this seat's program). -/
import Derived.Test.YtlkgabjhkfhgaaaGreatEvT
import Derived.Test.YtlkgabjhkfhgaaaGreatTt
noncomputable section
set_option linter.unusedSectionVars false
set_option linter.unusedVariables false
set_option linter.unusedSimpArgs false
namespace Go.Proofs.YtlkgabjhkfhgaaaGreat
open Go Go.Ev Go.Proofs
def isNaN (x:Int):Bool:=
 (x !=x)
def Oh (_:Int):Prop:=True
def Uk (x:Int):Tr Bool false:=
 (.ret (x !=x))
abbrev vH:dS:=⟨(.one yi),(.one Ty.bool),Oh,isNaN⟩
theorem Re:ak Tryz.prog 128 (av vH):=ak.tr vH Uk (fn:=Tryz.f128) aC (ah.nil _) mixed (by kernel_rfl) (aA.nil _ _) (fun x=>aB.nil) (fun x=>(by kernel_rfl)) fun x Q=>(by kernel_rfl)
def Jk:List (Nat×Ev.Spec):=(128,av vH):: []
theorem zm:ah Tryz.prog Jk:=ah.add (fn:=Tryz.f128) (by kernel_rfl) Re (ah.nil _)
def compare (x:I2):Int:=
 (ai (isNaN x.1) fun y=>
 (ai (isNaN x.2) fun aq=>
 (if (y=true) then
 (if (aq=true) then
 (0:Int) else
 (-1:Int)) else
 (if (aq=true) then
 (1:Int) else
 (if (x.1<x.2) then
 (-1:Int) else
 (if (x.1>x.2) then
 (1:Int) else
 (0:Int)))))))
def HG (_:I2):Prop:=True
def Nw (x:I2):Tr Int false:=
 (.fn0 vH x.1 trivial fun y=>
 (.fn0 vH x.2 trivial fun aq=>
 (.fu y
 (.fu aq
 (.ret z0)
 (.ret (-1:Int)))
 (.fu aq
 (.ret z1)
 (.tu (x.1<x.2)
 (.ret (-1:Int))
 (.tu (x.1>x.2)
 (.ret z1)
 (.ret z0)))))))
abbrev dZ:dS:=⟨(.pair (.one yi) (.one yi)),(.one yi),HG,compare⟩
theorem J8:ak Tryz.prog 104 (av dZ):=ak.tr dZ Nw (fn:=Tryz.f104) aC zm mixed (by kernel_rfl) (aA.nil _ _) (fun x=>aB.nil) (fun x=>(by kernel_rfl)) fun x Q=>(by kernel_rfl)
def Cw:List (Nat×Ev.Spec):=(104,av dZ)::Jk
theorem ow:ah Tryz.prog Cw:=ah.add (fn:=Tryz.f104) (by kernel_rfl) J8 zm
def HF (x:(List Int)):aI:=⟨[],⟨cA 18 0 [(3,.v (.one (.i .i64))),(6,.v (.one (.full 0))),(7,.v (.one (.i .i64))),(8,.v (.one (.i .i64)))],[.row yi 0],0,none,[],[0,1,3],[2],[.i],[.i (0:Int),.i (x.length:Int),.l yi x]⟩,[⟨.ret,.ret,⟨cA 18 0 [(2,.v (.one (.i .i64)))],[],0,none,[],[],[0],[.i],[]⟩⟩,⟨(.exit 0),.normal,⟨cA 18 0 [(3,.v (.one (.i .i64)))],[],0,none,[],[0],[],[],[.i (0:Int)]⟩⟩]⟩
def dz (x:(List Int)) (s:Int):Int⊕(Int⊕Unit):=
 (if (s<(x.length:Int)) then
 (if (((List.getD x (Int.toNat s) (0:Int)) !=(0:Int))=true) then
 (Sum.inr (Sum.inl (List.getD x (Int.toNat s) (0:Int)))) else
 (Sum.inl (ae (s+(1:Int))))) else
 (Sum.inr (Sum.inr (()))))
def fG (x:(List Int)) (s:Int):Prop:=
 ((s<(x.length:Int))->
 ((((0:Int)<=s)/\ (s<(x.length:Int)))/\
 (((Int.toNat s)<(List.length x))/\
 ((Int.toNat s)<(List.length x)))))
def AO (x:(List Int)) (s:Int):Tr (Int⊕(Int⊕Unit)) true:=
 (.i10 (s<(nL x))
 (.bO s x
 (.fu ((gI x s) !=z0)
 (.ret (.inr (Sum.inl (gI x s))))
 (.ret (.inl (w1 s)))))
 (.ret (.inr (Sum.inr (())))))
def AN (x:(List Int)):Int:=
 (ai (run (dz x) (0:Int)) fun r=>
 (Sum.elim (fun a=>
 a) (fun b=>
 (0:Int)) r))
def mB (x:(List Int)):Prop:=
 (Term (dz x) (fG x) (0:Int))
def TB (x:(List Int)):Tr Int true:=
 (aI.lp (HF x) (AO x) z0 fun r=>
 (.Hj r (fun a=>
 (.ret a)) (fun b=>
 (.ret z0))))
abbrev pE:dS:=⟨(.one (Ty.sl yi)),(.one yi),mB,AN⟩
theorem P9:ak Tryz.prog 103 (av pE):=ak.tr pE TB (fn:=Tryz.f103) aC ow mixed (by kernel_rfl) (aA.nil _ _) (fun x=>(aB.tr aC (ah.c8 ow (aA.nil _ _)) mixed 0 (HF x) (AO x) aB.nil (by kernel_rfl) fun g s Q=>(by kernel_rfl))) (fun x=>(by kernel_rfl)) fun x Q=>(by kernel_rfl)
def Je:List (Nat×Ev.Spec):=(103,av pE)::Cw
theorem r8:ah Tryz.prog Je:=ah.add (fn:=Tryz.f103) (by kernel_rfl) P9 ow
def middle (x:(((List I9)×Int)×Int)):Int:=
 (ae ((ae ((ae ((0:Int)+(List.getD [(List.getD x.1.1 (Int.toNat x.2) (((0:Int),((0:Int),(0:Int))),(((0:Int),((0:Int),(0:Int))),((0:Int),((0:Int),(0:Int)))))).1.1,(List.getD x.1.1 (Int.toNat x.2) (((0:Int),((0:Int),(0:Int))),(((0:Int),((0:Int),(0:Int))),((0:Int),((0:Int),(0:Int)))))).1.2.1,(List.getD x.1.1 (Int.toNat x.2) (((0:Int),((0:Int),(0:Int))),(((0:Int),((0:Int),(0:Int))),((0:Int),((0:Int),(0:Int)))))).1.2.2] ((Int.toNat x.1.2)*1) (0:Int))))+(List.getD [(List.getD x.1.1 (Int.toNat x.2) (((0:Int),((0:Int),(0:Int))),(((0:Int),((0:Int),(0:Int))),((0:Int),((0:Int),(0:Int)))))).2.1.1,(List.getD x.1.1 (Int.toNat x.2) (((0:Int),((0:Int),(0:Int))),(((0:Int),((0:Int),(0:Int))),((0:Int),((0:Int),(0:Int)))))).2.1.2.1,(List.getD x.1.1 (Int.toNat x.2) (((0:Int),((0:Int),(0:Int))),(((0:Int),((0:Int),(0:Int))),((0:Int),((0:Int),(0:Int)))))).2.1.2.2] ((Int.toNat x.1.2)*1) (0:Int))))+(List.getD [(List.getD x.1.1 (Int.toNat x.2) (((0:Int),((0:Int),(0:Int))),(((0:Int),((0:Int),(0:Int))),((0:Int),((0:Int),(0:Int)))))).2.2.1,(List.getD x.1.1 (Int.toNat x.2) (((0:Int),((0:Int),(0:Int))),(((0:Int),((0:Int),(0:Int))),((0:Int),((0:Int),(0:Int)))))).2.2.2.1,(List.getD x.1.1 (Int.toNat x.2) (((0:Int),((0:Int),(0:Int))),(((0:Int),((0:Int),(0:Int))),((0:Int),((0:Int),(0:Int)))))).2.2.2.2] ((Int.toNat x.1.2)*1) (0:Int))))
def mR (x:(((List I9)×Int)×Int)):Prop:=
 ((((0:Int)<=x.2)/\ (x.2<(x.1.1.length:Int)))/\
 (((Int.toNat x.2)<(List.length x.1.1))/\
 (((Int.toNat x.2)<(List.length x.1.1))/\
 ((((0:Int)<=x.1.2)/\ (x.1.2<(3:Int)))/\
 ((((0:Int)<=x.1.2)/\ (x.1.2<(3:Int)))/\
 (((0:Int)<=x.1.2)/\ (x.1.2<(3:Int))))))))
def RA (x:(((List I9)×Int)×Int)):Tr Int true:=
 (.bO x.2 x.1.1
 (.oR x.1.2 (3:Int)
 (.oR x.1.2 (3:Int)
 (.oR x.1.2 (3:Int)
 (.ret (ae ((ae ((ae (z0+(List.getD [(gT x.1.1 x.2 G5).1.1,(gT x.1.1 x.2 G5).1.2.1,(gT x.1.1 x.2 G5).1.2.2] ((tN x.1.2)*1) z0)))+(List.getD [(gT x.1.1 x.2 G5).2.1.1,(gT x.1.1 x.2 G5).2.1.2.1,(gT x.1.1 x.2 G5).2.1.2.2] ((tN x.1.2)*1) z0)))+(List.getD [(gT x.1.1 x.2 G5).2.2.1,(gT x.1.1 x.2 G5).2.2.2.1,(gT x.1.1 x.2 G5).2.2.2.2] ((tN x.1.2)*1) z0))))))))
abbrev rO:dS:=⟨(.pair (.agg (Ty.prod (Ty.sl bP) yi)) (.one yi)),(.one yi),mR,middle⟩
theorem OF:ak Tryz.prog 105 (av rO):=ak.tr rO RA (fn:=Tryz.f105) aC r8 mixed (by kernel_rfl) (aA.nil _ _) (fun x=>(aB.xq aC (ah.c8 r8 (aA.nil _ _)) mixed 0 4 aB.nil (by kernel_rfl))) (fun x=>(by kernel_rfl)) fun x Q=>(by kernel_rfl)
def Fq:List (Nat×Ev.Spec):=(105,av rO)::Je
theorem w9:ah Tryz.prog Fq:=ah.add (fn:=Tryz.f105) (by kernel_rfl) OF r8
def jQ (x:(((List I9)×Int)×I2)):Int:=
 (ai (middle (x.1,x.2.1)) fun y=>
 (ai (middle (x.1,x.2.2)) fun aq=>
 (ai (compare (y,aq)) fun y_2=>
 (ai (compare x.2) fun au=>
 (ai (AN [y_2,au]) fun aG=>
 aG)))))
def bI (x:(((List I9)×Int)×I2)):Prop:=
 ((mR (x.1,x.2.1))/\
 az (middle (x.1,x.2.1)) fun y=>
 ((mR (x.1,x.2.2))/\
 az (middle (x.1,x.2.2)) fun aq=>
 (az (compare (y,aq)) fun y_2=>
 (az (compare x.2) fun au=>
 (mB [y_2,au])))))
def Yj (x:(((List I9)×Int)×I2)):Tr Int true:=
 (.fn rO (x.1,x.2.1) fun y=>
 (.fn rO (x.1,x.2.2) fun aq=>
 (.fn0 dZ (y,aq) trivial fun y_2=>
 (.fn0 dZ x.2 trivial fun au=>
 (.fn pE [y_2,au] fun aG=>
 (.ret aG))))))
abbrev dy:dS:=⟨(.pair (.agg (Ty.prod (Ty.sl bP) yi)) (.pair (.one yi) (.one yi))),(.one yi),bI,jQ⟩
theorem Ww:ak Tryz.prog 73 (av dy):=ak.tr dy Yj (fn:=Tryz.f73) aC w9 mixed (by kernel_rfl) (aA.nil _ _) (fun x=>aB.nil) (fun x=>(by kernel_rfl)) fun x Q=>(by kernel_rfl)
def SD:List (Nat×Ev.Spec):=(73,av dy)::Fq
theorem yh:ah Tryz.prog SD:=ah.add (fn:=Tryz.f73) (by kernel_rfl) Ww w9
abbrev ug:nn:= .mv 73 true (.prod (.sl (.prod (.prod (.int .i64) (.prod (.int .i64) (.int .i64))) (.prod (.prod (.int .i64) (.prod (.int .i64) (.int .i64))) (.prod (.int .i64) (.prod (.int .i64) (.int .i64)))))) (.int .i64))
abbrev RT:Type:=List I9×Int
end Go.Proofs.YtlkgabjhkfhgaaaGreat
