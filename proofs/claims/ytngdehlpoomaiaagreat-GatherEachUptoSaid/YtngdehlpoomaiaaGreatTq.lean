/- Models of tree's functions: split. -/
import Derived.Test.YtngdehlpoomaiaaGreatTp
noncomputable section
set_option linter.unusedSectionVars false
set_option linter.unusedVariables false
set_option linter.unusedSimpArgs false
namespace Go.Proofs.YtngdehlpoomaiaaGreat
open Go Go.Ev Go.Proofs
abbrev qc:Type:=(Int×Int×Int×Int×Int×Int×Int×Int×I3)
abbrev A7:Type:=(Int×Int×Int×Int×Int×I3)
def Lk (x:(Int×List Int)):aK:=⟨[],⟨di 23 0 [(0,.v (.one (.i .i64))),(7,.v (.one (.full 0))),(8,.v (.one (.i .i64))),(9,.v (.one (.i .i64)))],[.row yi 0],0,none,[],[0,1,3],[2],[.i],[.i x.1,.i (x.2.length:Int),.l yi x.2]⟩,[⟨.ret,.ret,⟨di 23 0 [(4,.v (.one (.b)))],[],0,none,[],[0],[],[],[.b false]⟩⟩,⟨(.exit 0),.normal,⟨di 23 0 [],[],0,none,[],[],[],[],[]⟩⟩]⟩
def kD (x:(Int×List Int)) (s:Int):Int⊕(Unit⊕Unit):=
 (if (s<(x.2.length:Int)) then
 (if ((x.2.getD s.toNat 0)<(av (0- x.1))) then
 (Sum.inr (Sum.inl ())) else
 (if ((x.2.getD s.toNat 0)>x.1) then
 (Sum.inr (Sum.inl ())) else
 (Sum.inl (av (s+1))))) else
 (Sum.inr (Sum.inr (()))))
def xQ (x:(Int×List Int)) (s:Int):Prop:=
 ((s<(x.2.length:Int))->
 (((0<=s)/\ (s<(x.2.length:Int)))/\
 ((s.toNat<x.2.length)/\
 (s.toNat<x.2.length))))
def Dt (x:(Int×List Int)) (s:Int):Tr (Int⊕(Unit⊕Unit)) true:=
 (.i10 (s<(nL x.2))
 (.mS s x.2
 (.tF ((gI x.2 s)<(av (z0- x.1)))
 (.ret (.inr (Sum.inl ())))
 (.tF ((gI x.2 s)>x.1)
 (.ret (.inr (Sum.inl ())))
 (.ret (.inl (w1 s))))))
 (.ret (.inr (Sum.inr (())))))
def within (x:(Int×List Int)):Bool:=
 (aq (run (kD x) 0) fun r=>
 (Sum.elim (fun a=>
 false) (fun b=>
 true) r))
def yP (x:(Int×List Int)):Prop:=
 (Term (kD x) (xQ x) 0)
def acq (x:(Int×List Int)):Tr Bool true:=
 (aK.lp (Lk x) (Dt x) z0 fun r=>
 (.MK r (fun a=>
 (.ret false)) (fun b=>
 (.ret true))))
abbrev Be:bY:=⟨(.pair (.one yi) (.one (Ty.sl yi))),(.one Ty.bool),yP,within⟩
theorem XW:ai Tryz.prog 58 (ak Be):=ai.tr Be acq (fn:=Tryz.f58) aA vE mixed (by kernel_rfl) (ax.nil _ _) (fun x=>(ay.tr aA (ah.dX vE (ax.nil _ _)) mixed 0 (Lk x) (Dt x) ay.nil (by kernel_rfl) fun g s Q=>(by kernel_rfl))) (fun x=>(by kernel_rfl)) fun x Q=>(by kernel_rfl)
def K6:List (Nat×Ev.Spec):=(58,ak Be)::Qh
theorem sU:ah Tryz.prog K6:=ah.add (fn:=Tryz.f58) (by kernel_rfl) XW vE
def Kt (x:(List I3)):aK:=⟨[],⟨di 21 0 [(5,.v (.one (.full 0))),(6,.v (.one (.i .i64))),(7,.v (.one (.i .i64)))],[.row aM 0],0,none,[],[0,2],[1],[.i],[.i (x.length:Int),.l aM x]⟩,[⟨.ret,.ret,⟨di 21 0 [(2,.v (.one (.b)))],[],0,none,[],[0],[],[],[.b false]⟩⟩,⟨(.exit 0),.normal,⟨di 21 0 [],[],0,none,[],[],[],[],[]⟩⟩]⟩
def kq (x:(List I3)) (s:Int):Int⊕(Unit⊕Unit):=
 (if (s<(x.length:Int)) then
 (aq (within (16384,[(x.getD s.toNat (0,0,0)).1,(x.getD s.toNat (0,0,0)).2.1,(x.getD s.toNat (0,0,0)).2.2])) fun y=>
 (if ((!y)=true) then
 (Sum.inr (Sum.inl ())) else
 (Sum.inl (av (s+1))))) else
 (Sum.inr (Sum.inr (()))))
def xy (x:(List I3)) (s:Int):Prop:=
 ((s<(x.length:Int))->
 (((0<=s)/\ (s<(x.length:Int)))/\
 ((s.toNat<x.length)/\
 ((s.toNat<x.length)/\
 (yP (16384,[(x.getD s.toNat (0,0,0)).1,(x.getD s.toNat (0,0,0)).2.1,(x.getD s.toNat (0,0,0)).2.2]))))))
def CZ (x:(List I3)) (s:Int):Tr (Int⊕(Unit⊕Unit)) true:=
 (.i10 (s<(nL x))
 (.mS s x
 (.fn Be (16384,[(gT x s bX).1,(gT x s bX).2.1,(gT x s bX).2.2]) fun y=>
 (.qH (!y)
 (.ret (.inr (Sum.inl ())))
 (.ret (.inl (w1 s))))))
 (.ret (.inr (Sum.inr (())))))
def dR (x:(List I3)):Bool:=
 (aq (run (kq x) 0) fun r=>
 (Sum.elim (fun a=>
 false) (fun b=>
 true) r))
def ct (x:(List I3)):Prop:=
 (Term (kq x) (xy x) 0)
def abx (x:(List I3)):Tr Bool true:=
 (aK.lp (Kt x) (CZ x) z0 fun r=>
 (.MK r (fun a=>
 (.ret false)) (fun b=>
 (.ret true))))
abbrev dS:bY:=⟨(.one (Ty.sl aM)),(.one Ty.bool),ct,dR⟩
theorem Xr:ai Tryz.prog 26 (ak dS):=ai.tr dS abx (fn:=Tryz.f26) aA sU mixed (by kernel_rfl) (ax.nil _ _) (fun x=>(ay.tr aA (ah.dX sU (ax.nil _ _)) mixed 0 (Kt x) (CZ x) ay.nil (by kernel_rfl) fun g s Q=>(by kernel_rfl))) (fun x=>(by kernel_rfl)) fun x Q=>(by kernel_rfl)
def K0:List (Nat×Ev.Spec):=(26,ak dS)::K6
theorem AU:ah Tryz.prog K0:=ah.add (fn:=Tryz.f26) (by kernel_rfl) Xr sU
def Cc (x:I9):Bool:=
 (aq (dR [x.1,x.2.1,x.2.2]) fun y=>
 (!y))
def yy (x:I9):Prop:=
 (ct [x.1,x.2.1,x.2.2])
def abz (x:I9):Tr Bool true:=
 (.fn dS [x.1,x.2.1,x.2.2] fun y=>
 (.ret (!y)))
abbrev Ao:bY:=⟨(.agg dF),(.one Ty.bool),yy,Cc⟩
theorem Xt:ai Tryz.prog 176 (ak Ao):=ai.tr Ao abz (fn:=Tryz.f176) aA AU mixed (by kernel_rfl) (ax.nil _ _) (fun x=>ay.nil) (fun x=>(by kernel_rfl)) fun x Q=>(by kernel_rfl)
def K2:List (Nat×Ev.Spec):=(176,ak Ao)::K0
theorem sS:ah Tryz.prog K2:=ah.add (fn:=Tryz.f176) (by kernel_rfl) Xt AU
def JE (x:(List I9×Bool)):aK:=⟨[],⟨di 19 0 [(0,.v (.one (.full 0))),(1,.v (.one (.iP 176 0 []))),(7,.v (.one (.i .i64))),(8,.v (.one (.i .i64)))],[.row dF 0],0,none,[],[0,2],[1],[.i],[.i (x.1.length:Int),.l dF x.1]⟩,[⟨.ret,.ret,⟨di 19 0 [(4,.v (.one (.i .i64)))],[],0,none,[],[],[0],[.i],[]⟩⟩,⟨(.exit 0),.normal,⟨di 19 0 [],[],0,none,[],[],[],[],[]⟩⟩]⟩
def iB (x:(List I9×Bool)) (s:Int):Int⊕(Int⊕Unit):=
 (if (s<(x.1.length:Int)) then
 (aq (Cc (x.1.getD s.toNat ((0,0,0),(0,0,0),0,0,0))) fun y=>
 (if (y=true) then
 (Sum.inr (Sum.inl s)) else
 (Sum.inl (av (s+1))))) else
 (Sum.inr (Sum.inr (()))))
def qq (x:(List I9×Bool)) (s:Int):Prop:=
 ((s<(x.1.length:Int))->
 (((0<=s)/\ (s<(x.1.length:Int)))/\
 ((s.toNat<x.1.length)/\
 ((s.toNat<x.1.length)/\
 (yy (x.1.getD s.toNat ((0,0,0),(0,0,0),0,0,0)))))))
def CH (x:(List I9×Bool)) (s:Int):Tr (Int⊕(Int⊕Unit)) true:=
 (.i10 (s<(nL x.1))
 (.mS s x.1
 (.fn Ao (gT x.1 s Lm) fun y=>
 (.qH y
 (.ret (.inr (Sum.inl s)))
 (.ret (.inl (w1 s))))))
 (.ret (.inr (Sum.inr (())))))
def RY (x:(List I9×Bool)):Int:=
 (aq (run (iB x) 0) fun r=>
 (Sum.elim (fun a=>
 a) (fun b=>
 (-1)) r))
def FT (x:(List I9×Bool)):Prop:=
 (Term (iB x) (qq x) 0)
def aae (x:(List I9×Bool)):Tr Int true:=
 (aK.lp (JE x) (CH x) z0 fun r=>
 (.MK r (fun a=>
 (.ret a)) (fun b=>
 (.ret (-1)))))
abbrev zE:bY:=⟨(.pair (.one (Ty.sl dF)) (.iP 176 .none)),(.one yi),FT,RY⟩
theorem Wv:ai Tryz.prog 195 (ak zE):=ai.tr zE aae (fn:=Tryz.f195) aA sS mixed (by kernel_rfl) (ax.nil _ _) (fun x=>(ay.tr aA (ah.dX sS (ax.nil _ _)) mixed 0 (JE x) (CH x) ay.nil (by kernel_rfl) fun g s Q=>(by kernel_rfl))) (fun x=>(by kernel_rfl)) fun x Q=>(by kernel_rfl)
def KO:List (Nat×Ev.Spec):=(195,ak zE)::K2
theorem AK:ah Tryz.prog KO:=ah.add (fn:=Tryz.f195) (by kernel_rfl) Wv sS
def Bx (x:(List I9×Bool)):Bool:=
 (aq (RY (x.1,false)) fun y=>
 (decide (y>=0)))
def xk (x:(List I9×Bool)):Prop:=
 (FT (x.1,false))
def NS (x:(List I9×Bool)):Tr Bool true:=
 (.fn zE (x.1,false) fun y=>
 (.ret (decide (y>=z0))))
abbrev pE:bY:=⟨(.pair (.one (Ty.sl dF)) (.iP 176 .none)),(.one Ty.bool),xk,Bx⟩
theorem LN:ai Tryz.prog 175 (ak pE):=ai.tr pE NS (fn:=Tryz.f175) aA AK mixed (by kernel_rfl) (ax.nil _ _) (fun x=>ay.nil) (fun x=>(by kernel_rfl)) fun x Q=>(by kernel_rfl)
def Az:List (Nat×Ev.Spec):=(175,ak pE)::KO
theorem tp:ah Tryz.prog Az:=ah.add (fn:=Tryz.f175) (by kernel_rfl) LN AK
def Cb (x:(List I9)):Bool:=
 (aq (Bx (x,false)) fun y=>
 (!y))
def yw (x:(List I9)):Prop:=
 (xk (x,false))
def aby (x:(List I9)):Tr Bool true:=
 (.fn pE (x,false) fun y=>
 (.ret (!y)))
abbrev Am:bY:=⟨(.one (Ty.sl dF)),(.one Ty.bool),yw,Cb⟩
theorem Xs:ai Tryz.prog 154 (ak Am):=ai.tr Am aby (fn:=Tryz.f154) aA tp mixed (by kernel_rfl) (ax.nil _ _) (fun x=>ay.nil) (fun x=>(by kernel_rfl)) fun x Q=>(by kernel_rfl)
def K1:List (Nat×Ev.Spec):=(154,ak Am)::Az
theorem AW:ah Tryz.prog K1:=ah.add (fn:=Tryz.f154) (by kernel_rfl) Xs tp
def tS (x:(List Int)):(List Int):=
 ((List.replicate 0 (0:Int))++x)
def kU (x:(List Int)):Prop:=
 (∀b:Bool,((0<x.length)->(b=false))->(((if (b=true) then
 [] else
 ((List.replicate 0 (0:Int))++x))=((List.replicate 0 (0:Int))++x))/\ (¬(b=true)->
 ((0+x.length)<1099511627776))))
def YN (x:(List Int)):Tr (List Int) true:=
 (.nil (fun b=>((0<x.length)->(b=false))) fun b=>
 (.nM b
 (.ret [])
 (.od ((0+x.length)<1099511627776)
 (.ret ((List.replicate 0 z0)++x)))))
abbrev zc:bY:=⟨(.one (Ty.sl yi)),(.one (Ty.sl yi)),kU,tS⟩
theorem VB:ai Tryz.prog 157 (ak zc):=ai.tr zc YN (fn:=Tryz.f157) aA AW mixed (by kernel_rfl) (ax.dead 157 (fn:=Tryz.f157) (by kernel_rfl)) (fun x=>ay.nil) (fun x=>(by kernel_rfl)) fun x Q=>(by kernel_rfl)
def Kv:List (Nat×Ev.Spec):=(157,ak zc)::K1
theorem As:ah Tryz.prog Kv:=ah.add (fn:=Tryz.f157) (by kernel_rfl) VB AW
def point (x:I3):I3:=
 x
def Xc (_:I3):Prop:=True
def aeW (x:I3):Tr I3 false:=
 (.ret x)
abbrev z7:bY:=⟨(.agg aM),(.agg aM),Xc,point⟩
theorem aa6:ai Tryz.prog 196 (ak z7):=ai.tr z7 aeW (fn:=Tryz.f196) aA As mixed (by kernel_rfl) (ax.nil _ _) (fun x=>ay.nil) (fun x=>(by kernel_rfl)) fun x Q=>(by kernel_rfl)
def Qf:List (Nat×Ev.Spec):=(196,ak z7)::Kv
theorem Df:ah Tryz.prog Qf:=ah.add (fn:=Tryz.f196) (by kernel_rfl) aa6 As
def parts (x:I3):I3:=
 x
def Xb (_:I3):Prop:=True
def aeU (x:I3):Tr I3 false:=
 (.ret x)
abbrev fQ:bY:=⟨(.agg aM),(.agg aM),Xb,parts⟩
theorem aa2:ai Tryz.prog 172 (ak fQ):=ai.tr fQ aeU (fn:=Tryz.f172) aA Df mixed (by kernel_rfl) (ax.nil _ _) (fun x=>ay.nil) (fun x=>(by kernel_rfl)) fun x Q=>(by kernel_rfl)
def Qe:List (Nat×Ev.Spec):=(172,ak fQ)::Qf
theorem vD:ah Tryz.prog Qe:=ah.add (fn:=Tryz.f172) (by kernel_rfl) aa2 Df
def hasB (x:((I3×I3)×I3)):Bool:=
 (aq (parts x.1.1) fun y=>
 (aq (parts x.1.2) fun aB=>
 (aq (parts x.2) fun y_2=>
 (if (y_2.1<y.1) then
 false else
 (if (y_2.1>aB.1) then
 false else
 (if (y_2.2.1<y.2.1) then
 false else
 (if (y_2.2.1>aB.2.1) then
 false else
 (if (y_2.2.2<y.2.2) then
 false else
 (if (y_2.2.2>aB.2.2) then
 false else
 true)))))))))
def ZA (_:((I3×I3)×I3)):Prop:=True
def ag1 (x:((I3×I3)×I3)):Tr Bool false:=
 (.fn0 fQ x.1.1 trivial fun y=>
 (.fn0 fQ x.1.2 trivial fun aB=>
 (.fn0 fQ x.2 trivial fun y_2=>
 (.tF (y_2.1<y.1)
 (.ret false)
 (.tF (y_2.1>aB.1)
 (.ret false)
 (.tF (y_2.2.1<y.2.1)
 (.ret false)
 (.tF (y_2.2.1>aB.2.1)
 (.ret false)
 (.tF (y_2.2.2<y.2.2)
 (.ret false)
 (.tF (y_2.2.2>aB.2.2)
 (.ret false)
 (.ret true))))))))))
abbrev FA:bY:=⟨(.pair (.agg (Ty.prod aM aM)) (.agg aM)),(.one Ty.bool),ZA,hasB⟩
theorem adV:ai Tryz.prog 188 (ak FA):=ai.tr FA ag1 (fn:=Tryz.f188) aA vD mixed (by kernel_rfl) (ax.nil _ _) (fun x=>(ay.nH aA (ah.dX vD (ax.nil _ _)) mixed 0 4 ay.nil (by kernel_rfl))) (fun x=>(by kernel_rfl)) fun x Q=>(by kernel_rfl)
def UO:List (Nat×Ev.Spec):=(188,ak FA)::Qe
theorem GY:ah Tryz.prog UO:=ah.add (fn:=Tryz.f188) (by kernel_rfl) adV vD
def qy (x:(I3×I3)):Bool:=
 (aq (dR [x.1,x.2]) fun y=>
 (if (y=true) then
 (aq (hasB (x,x.1)) fun aB=>
 aB) else
 false))
def oL (x:(I3×I3)):Prop:=
 (ct [x.1,x.2])
def abu (x:(I3×I3)):Tr Bool true:=
 (.fn dS [x.1,x.2] fun y=>
 (.qH y
 (.fn0 FA (x,x.1) trivial fun aB=>
 (.ret aB))
 (.ret false)))
abbrev rf:bY:=⟨(.agg (Ty.prod aM aM)),(.one Ty.bool),oL,qy⟩
theorem Xp:ai Tryz.prog 169 (ak rf):=ai.tr rf abu (fn:=Tryz.f169) aA GY mixed (by kernel_rfl) (ax.nil _ _) (fun x=>ay.nil) (fun x=>(by kernel_rfl)) fun x Q=>(by kernel_rfl)
def KY:List (Nat×Ev.Spec):=(169,ak rf)::UO
theorem ny:ah Tryz.prog KY:=ah.add (fn:=Tryz.f169) (by kernel_rfl) Xp GY
def Ks (x:(List I3)):aK:=⟨[],⟨di 64 0 [(2,.v (.one (.ptr 0 0))),(4,.v (.one (.ptr 1 0))),(5,.v (.one (.ptr 2 0))),(8,.v (.one (.ptr 3 0))),(28,.v (.one (.full 4))),(29,.v (.one (.i .i64))),(30,.v (.one (.i .i64))),(36,.v (.one (.i .i64)))],[.cells [.i .i64,.i .i64,.i .i64,.i .i64,.i .i64,.i .i64] 194,.cells [.i .i64,.i .i64,.i .i64] 124,.cells [.i .i64,.i .i64,.i .i64] 124,.cells [.i .i64,.i .i64,.i .i64] 124,.row aM 0],0,none,[],[0,3,4,5,6,7,8,18],[9,10,11,12,13,14,15,16,17,1,2],[.i,.i,.i,.i,.i,.i,.i,.i,.i,.i,.i],[.i (x.length:Int),.i 0,.i 0,.i 0,.i 0,.i 0,.i 0,.l aM x]⟩,[⟨(.exit 3),.normal,⟨di 64 0 [(2,.v (.one (.ptr 0 0))),(4,.v (.one (.ptr 1 0))),(5,.v (.one (.ptr 2 0))),(28,.v (.one (.full 3))),(29,.v (.one (.i .i64))),(30,.v (.one (.i .i64)))],[.cells [.i .i64,.i .i64,.i .i64,.i .i64,.i .i64,.i .i64] 194,.cells [.i .i64,.i .i64,.i .i64] 124,.cells [.i .i64,.i .i64,.i .i64] 124,.row aM 0],0,none,[],[0,2,3,4,5,6,7,14],[8,9,10,11,12,13,1],[.i,.i,.i,.i,.i,.i,.i],[.i (x.length:Int),.i 0,.i 0,.i 0,.i 0,.i 0,.i 0,.l aM x]⟩⟩]⟩
def oM (x:(List I3)) (s:qc):qc⊕(Int×Int×Int×Int×I3):=
 (if (s.2.2.2.2.2.2.2.2.2.2<3) then
 (Sum.inl ((cond (Nat.beq (0+(s.2.2.2.2.2.2.2.2.2.2.toNat*1)) 0) (bt (List.getD [s.1,s.2.1,s.2.2.1] (0+(s.2.2.2.2.2.2.2.2.2.2.toNat*1)) 0) (List.getD [s.2.2.2.2.2.2.1,s.2.2.2.2.2.2.2.1,s.2.2.2.2.2.2.2.2.1] (0+(s.2.2.2.2.2.2.2.2.2.2.toNat*1)) 0)) s.1),(cond (Nat.beq (0+(s.2.2.2.2.2.2.2.2.2.2.toNat*1)) 1) (bt (List.getD [s.1,s.2.1,s.2.2.1] (0+(s.2.2.2.2.2.2.2.2.2.2.toNat*1)) 0) (List.getD [s.2.2.2.2.2.2.1,s.2.2.2.2.2.2.2.1,s.2.2.2.2.2.2.2.2.1] (0+(s.2.2.2.2.2.2.2.2.2.2.toNat*1)) 0)) s.2.1),(cond (Nat.beq (0+(s.2.2.2.2.2.2.2.2.2.2.toNat*1)) 2) (bt (List.getD [s.1,s.2.1,s.2.2.1] (0+(s.2.2.2.2.2.2.2.2.2.2.toNat*1)) 0) (List.getD [s.2.2.2.2.2.2.1,s.2.2.2.2.2.2.2.1,s.2.2.2.2.2.2.2.2.1] (0+(s.2.2.2.2.2.2.2.2.2.2.toNat*1)) 0)) s.2.2.1),(cond (Nat.beq (0+(s.2.2.2.2.2.2.2.2.2.2.toNat*1)) 0) (bf (List.getD [s.2.2.2.1,s.2.2.2.2.1,s.2.2.2.2.2.1] (0+(s.2.2.2.2.2.2.2.2.2.2.toNat*1)) 0) (List.getD [s.2.2.2.2.2.2.1,s.2.2.2.2.2.2.2.1,s.2.2.2.2.2.2.2.2.1] (0+(s.2.2.2.2.2.2.2.2.2.2.toNat*1)) 0)) s.2.2.2.1),(cond (Nat.beq (0+(s.2.2.2.2.2.2.2.2.2.2.toNat*1)) 1) (bf (List.getD [s.2.2.2.1,s.2.2.2.2.1,s.2.2.2.2.2.1] (0+(s.2.2.2.2.2.2.2.2.2.2.toNat*1)) 0) (List.getD [s.2.2.2.2.2.2.1,s.2.2.2.2.2.2.2.1,s.2.2.2.2.2.2.2.2.1] (0+(s.2.2.2.2.2.2.2.2.2.2.toNat*1)) 0)) s.2.2.2.2.1),(cond (Nat.beq (0+(s.2.2.2.2.2.2.2.2.2.2.toNat*1)) 2) (bf (List.getD [s.2.2.2.1,s.2.2.2.2.1,s.2.2.2.2.2.1] (0+(s.2.2.2.2.2.2.2.2.2.2.toNat*1)) 0) (List.getD [s.2.2.2.2.2.2.1,s.2.2.2.2.2.2.2.1,s.2.2.2.2.2.2.2.2.1] (0+(s.2.2.2.2.2.2.2.2.2.2.toNat*1)) 0)) s.2.2.2.2.2.1),s.2.2.2.2.2.2.1,s.2.2.2.2.2.2.2.1,s.2.2.2.2.2.2.2.2.1,s.2.2.2.2.2.2.2.2.2.1,(av (s.2.2.2.2.2.2.2.2.2.2+1)))) else
 (Sum.inr ((s.1,s.2.1,s.2.2.1,s.2.2.2.1,s.2.2.2.2.1,s.2.2.2.2.2.1,s.2.2.2.2.2.2.2.2.2.1))))
def gN (x:(List I3)) (s:qc):Prop:=
 ((s.2.2.2.2.2.2.2.2.2.2<3)->
 (((0<=s.2.2.2.2.2.2.2.2.2.2)/\ (s.2.2.2.2.2.2.2.2.2.2<3))/\
 ((((0+(s.2.2.2.2.2.2.2.2.2.2.toNat*1))+1)<=3)/\
 (((0<=s.2.2.2.2.2.2.2.2.2.2)/\ (s.2.2.2.2.2.2.2.2.2.2<3))/\
 ((((0+(s.2.2.2.2.2.2.2.2.2.2.toNat*1))+1)<=3)/\
 (((0<=s.2.2.2.2.2.2.2.2.2.2)/\ (s.2.2.2.2.2.2.2.2.2.2<3))/\
 ((((0+(s.2.2.2.2.2.2.2.2.2.2.toNat*1))+1)<=3)/\
 (((0<=s.2.2.2.2.2.2.2.2.2.2)/\ (s.2.2.2.2.2.2.2.2.2.2<3))/\
 ((((0+(s.2.2.2.2.2.2.2.2.2.2.toNat*1))+1)<=3)/\
 (((0<=s.2.2.2.2.2.2.2.2.2.2)/\ (s.2.2.2.2.2.2.2.2.2.2<3))/\
 ((((0+(s.2.2.2.2.2.2.2.2.2.2.toNat*1))+1)<=3)/\
 (((0<=s.2.2.2.2.2.2.2.2.2.2)/\ (s.2.2.2.2.2.2.2.2.2.2<3))/\
 (((0+(s.2.2.2.2.2.2.2.2.2.2.toNat*1))+1)<=3)))))))))))))
abbrev af8 (s:qc):=(List.getD [s.2.2.2.2.2.2.1,s.2.2.2.2.2.2.2.1,s.2.2.2.2.2.2.2.2.1] (0+((tN s.2.2.2.2.2.2.2.2.2.2)*1)) z0)
abbrev abe (s:qc):=(bf (List.getD [s.2.2.2.1,s.2.2.2.2.1,s.2.2.2.2.2.1] (0+((tN s.2.2.2.2.2.2.2.2.2.2)*1)) z0) (af8 s))
abbrev abf (s:qc):=(bt (List.getD [s.1,s.2.1,s.2.2.1] (0+((tN s.2.2.2.2.2.2.2.2.2.2)*1)) z0) (af8 s))
def CX (x:(List I3)) (s:qc):Tr (qc⊕(Int×Int×Int×Int×I3)) true:=
 (.i10 (s.2.2.2.2.2.2.2.2.2.2<3)
 (.oR s.2.2.2.2.2.2.2.2.2.2 3
 (.od (((0+((tN s.2.2.2.2.2.2.2.2.2.2)*1))+1)<=3)
 (.oR s.2.2.2.2.2.2.2.2.2.2 3
 (.od (((0+((tN s.2.2.2.2.2.2.2.2.2.2)*1))+1)<=3)
 (.oR s.2.2.2.2.2.2.2.2.2.2 3
 (.od (((0+((tN s.2.2.2.2.2.2.2.2.2.2)*1))+1)<=3)
 (.oR s.2.2.2.2.2.2.2.2.2.2 3
 (.od (((0+((tN s.2.2.2.2.2.2.2.2.2.2)*1))+1)<=3)
 (.oR s.2.2.2.2.2.2.2.2.2.2 3
 (.od (((0+((tN s.2.2.2.2.2.2.2.2.2.2)*1))+1)<=3)
 (.oR s.2.2.2.2.2.2.2.2.2.2 3
 (.od (((0+((tN s.2.2.2.2.2.2.2.2.2.2)*1))+1)<=3)
 (.ret (.inl ((cond (Nat.beq (0+((tN s.2.2.2.2.2.2.2.2.2.2)*1)) 0) (abf s) s.1),(cond (Nat.beq (0+((tN s.2.2.2.2.2.2.2.2.2.2)*1)) 1) (abf s) s.2.1),(cond (Nat.beq (0+((tN s.2.2.2.2.2.2.2.2.2.2)*1)) 2) (abf s) s.2.2.1),(cond (Nat.beq (0+((tN s.2.2.2.2.2.2.2.2.2.2)*1)) 0) (abe s) s.2.2.2.1),(cond (Nat.beq (0+((tN s.2.2.2.2.2.2.2.2.2.2)*1)) 1) (abe s) s.2.2.2.2.1),(cond (Nat.beq (0+((tN s.2.2.2.2.2.2.2.2.2.2)*1)) 2) (abe s) s.2.2.2.2.2.1),s.2.2.2.2.2.2.1,s.2.2.2.2.2.2.2.1,s.2.2.2.2.2.2.2.2.1,s.2.2.2.2.2.2.2.2.2.1,(w1 s.2.2.2.2.2.2.2.2.2.2))))))))))))))))
 (.ret (.inr ((s.1,s.2.1,s.2.2.1,s.2.2.2.1,s.2.2.2.2.1,s.2.2.2.2.2.1,s.2.2.2.2.2.2.2.2.2.1)))))
def Kr (x:(List I3)):aK:=⟨[],⟨di 64 0 [(2,.v (.one (.ptr 0 0))),(4,.v (.one (.ptr 1 0))),(5,.v (.one (.ptr 2 0))),(28,.v (.one (.full 3))),(29,.v (.one (.i .i64))),(30,.v (.one (.i .i64)))],[.cells [.i .i64,.i .i64,.i .i64,.i .i64,.i .i64,.i .i64] 194,.cells [.i .i64,.i .i64,.i .i64] 124,.cells [.i .i64,.i .i64,.i .i64] 124,.row aM 0],0,none,[],[0,2,3,4,5,6,7,14],[8,9,10,11,12,13,1],[.i,.i,.i,.i,.i,.i,.i],[.i (x.length:Int),.i 0,.i 0,.i 0,.i 0,.i 0,.i 0,.l aM x]⟩,[⟨(.exit 1),.normal,⟨di 64 0 [(2,.v (.one (.ptr 0 0))),(4,.v (.one (.ptr 1 0))),(5,.v (.one (.ptr 2 0)))],[.cells [.i .i64,.i .i64,.i .i64,.i .i64,.i .i64,.i .i64] 194,.cells [.i .i64,.i .i64,.i .i64] 124,.cells [.i .i64,.i .i64,.i .i64] 124],0,none,[],[0,1,2,3,4,5],[6,7,8,9,10,11],[.i,.i,.i,.i,.i,.i],[.i 0,.i 0,.i 0,.i 0,.i 0,.i 0]⟩⟩]⟩
def iJ (x:(List I3)) (s:(Int×Int×Int×Int×I3)):(Int×Int×Int×Int×I3)⊕(Int×Int×Int×I3):=
 (if (s.2.2.2.2.2.2<(x.length:Int)) then
 (aq (parts (x.getD s.2.2.2.2.2.2.toNat (0,0,0))) fun y=>
 (aq (run (oM x) (s.1,s.2.1,s.2.2.1,s.2.2.2.1,s.2.2.2.2.1,s.2.2.2.2.2.1,y.1,y.2.1,y.2.2,s.2.2.2.2.2.2,0)) fun r=>
 (Sum.inl (r.1,r.2.1,r.2.2.1,r.2.2.2.1,r.2.2.2.2.1,r.2.2.2.2.2.1,(av (r.2.2.2.2.2.2+1)))))) else
 (Sum.inr ((s.1,s.2.1,s.2.2.1,s.2.2.2.1,s.2.2.2.2.1,s.2.2.2.2.2.1))))
def lT (x:(List I3)) (s:(Int×Int×Int×Int×I3)):Prop:=
 ((s.2.2.2.2.2.2<(x.length:Int))->
 (((0<=s.2.2.2.2.2.2)/\ (s.2.2.2.2.2.2<(x.length:Int)))/\
 ((s.2.2.2.2.2.2.toNat<x.length)/\
 ((s.2.2.2.2.2.2.toNat<x.length)/\
 (aC (parts (x.getD s.2.2.2.2.2.2.toNat (0,0,0))) fun y=>
 (Term (oM x) (gN x) (s.1,s.2.1,s.2.2.1,s.2.2.2.1,s.2.2.2.2.1,s.2.2.2.2.2.1,y.1,y.2.1,y.2.2,s.2.2.2.2.2.2,0)))))))
def CW (x:(List I3)) (s:(Int×Int×Int×Int×I3)):Tr ((Int×Int×Int×Int×I3)⊕(Int×Int×Int×I3)) true:=
 (.i10 (s.2.2.2.2.2.2<(nL x))
 (.mS s.2.2.2.2.2.2 x
 (.fn0 fQ (gT x s.2.2.2.2.2.2 bX) trivial fun y=>
 (aK.lp (Ks x) (CX x) (s.1,s.2.1,s.2.2.1,s.2.2.2.1,s.2.2.2.2.1,s.2.2.2.2.2.1,y.1,y.2.1,y.2.2,s.2.2.2.2.2.2,z0) fun r=>
 (.ret (.inl (r.1,r.2.1,r.2.2.1,r.2.2.2.1,r.2.2.2.2.1,r.2.2.2.2.2.1,(w1 r.2.2.2.2.2.2)))))))
 (.ret (.inr ((s.1,s.2.1,s.2.2.1,s.2.2.2.1,s.2.2.2.2.1,s.2.2.2.2.2.1)))))
def vl (x:(List I3)):((I3×I3)×Int):=
 (if (((x.length:Int)==0)=true) then
 (((0,0,0),0,0,0),1) else
 (aq (dR x) fun y=>
 (if ((!y)=true) then
 (((0,0,0),0,0,0),5) else
 (aq (parts (x.getD 0 (0,0,0))) fun aB=>
 (aq (parts (x.getD 0 (0,0,0))) fun y_2=>
 (aq (run (iJ x) (aB.1,aB.2.1,aB.2.2,y_2.1,y_2.2.1,y_2.2.2,0)) fun r=>
 (aq (point (r.1,r.2.1,r.2.2.1)) fun bk=>
 (aq (point r.2.2.2) fun bQ=>
 ((bk,bQ),0)))))))))
def sO (x:(List I3)):Prop:=
 (¬(((x.length:Int)==0)=true)->
 ((ct x)/\
 aC (dR x) fun y=>
 (¬((!y)=true)->
 ((0<(x.length:Int))/\
 ((0<x.length)/\
 ((0<x.length)/\
 (aC (parts (x.getD 0 (0,0,0))) fun aB=>
 ((0<(x.length:Int))/\
 ((0<x.length)/\
 ((0<x.length)/\
 (aC (parts (x.getD 0 (0,0,0))) fun y_2=>
 (Term (iJ x) (lT x) (aB.1,aB.2.1,aB.2.2,y_2.1,y_2.2.1,y_2.2.2,0)))))))))))))
def abv (x:(List I3)):Tr ((I3×I3)×Int) true:=
 (.nM ((nL x)==z0)
 (.ret ((bX,bX),z1))
 (.fn dS x fun y=>
 (.nM (!y)
 (.ret ((bX,bX),5))
 (.og (true&&(decide (z0<(nL x)))) (z0<(nL x)) (fun h=>(gV rfl (decide_eq_true h)))
 (.od (0<x.length)
 (.od (0<x.length)
 (.fn0 fQ (x.getD 0 bX) trivial fun aB=>
 (.og (true&&(decide (z0<(nL x)))) (z0<(nL x)) (fun h=>(gV rfl (decide_eq_true h)))
 (.od (0<x.length)
 (.od (0<x.length)
 (.fn0 fQ (x.getD 0 bX) trivial fun y_2=>
 (aK.lp (Kr x) (CW x) (aB.1,aB.2.1,aB.2.2,y_2.1,y_2.2.1,y_2.2.2,z0) fun r=>
 (.fn0 z7 (r.1,r.2.1,r.2.2.1) trivial fun bk=>
 (.fn0 z7 r.2.2.2 trivial fun bQ=>
 (.ret ((bk,bQ),z0))))))))))))))))
abbrev Al:bY:=⟨(.one (Ty.sl aM)),(.pair (.agg (Ty.prod aM aM)) (.one yi)),sO,vl⟩
theorem Xq:ai Tryz.prog 177 (ak Al):=ai.tr Al abv (fn:=Tryz.f177) aA ny mixed (by kernel_rfl) (ax.nil _ _) (fun x=>(ay.tr aA (ah.dX ny (ax.nil _ _)) mixed 1 (Kr x) (CW x) (ay.tr aA (ah.dX ny (ax.nil _ _)) mixed 3 (Ks x) (CX x) ay.nil (by kernel_rfl) fun g s Q=>(by kernel_rfl)) (by kernel_rfl) fun g s Q=>(by kernel_rfl))) (fun x=>(by kernel_rfl)) fun x Q=>(by kernel_rfl)
def KZ:List (Nat×Ev.Spec):=(177,ak Al)::KY
theorem sR:ah Tryz.prog KZ:=ah.add (fn:=Tryz.f177) (by kernel_rfl) Xq ny
def F5 (x:(I3×I3)):aK:=⟨[],⟨di 38 0 [(4,.v (.one (.ptr 0 0))),(5,.v (.one (.ptr 1 0))),(6,.v (.one (.i .i64))),(17,.v (.one (.i .i64)))],[.cells [.i .i64,.i .i64,.i .i64] 124,.cells [.i .i64,.i .i64,.i .i64] 124],0,none,[],[],[2,3,4,5,6,7,0,1],[.i,.i,.i,.i,.i,.i,.i,.i],[]⟩,[⟨(.exit 0),.normal,⟨di 38 0 [(6,.v (.one (.i .i64)))],[],0,none,[],[],[0],[.i],[]⟩⟩]⟩
def gg (x:(I3×I3)) (s:A7):A7⊕Int:=
 (if (s.2.2.2.2.2.2.2<3) then
 (if ((av ((List.getD [s.2.2.2.1,s.2.2.2.2.1,s.2.2.2.2.2.1] (0+(s.2.2.2.2.2.2.2.toNat*1)) 0)- (List.getD [s.1,s.2.1,s.2.2.1] (0+(s.2.2.2.2.2.2.2.toNat*1)) 0)))>(av ((List.getD [s.2.2.2.1,s.2.2.2.2.1,s.2.2.2.2.2.1] (0+(s.2.2.2.2.2.2.1.toNat*1)) 0)- (List.getD [s.1,s.2.1,s.2.2.1] (0+(s.2.2.2.2.2.2.1.toNat*1)) 0)))) then
 (Sum.inl (s.1,s.2.1,s.2.2.1,s.2.2.2.1,s.2.2.2.2.1,s.2.2.2.2.2.1,s.2.2.2.2.2.2.2,(av (s.2.2.2.2.2.2.2+1)))) else
 (Sum.inl (s.1,s.2.1,s.2.2.1,s.2.2.2.1,s.2.2.2.2.1,s.2.2.2.2.2.1,s.2.2.2.2.2.2.1,(av (s.2.2.2.2.2.2.2+1))))) else
 (Sum.inr (s.2.2.2.2.2.2.1)))
def j8 (x:(I3×I3)) (s:A7):Prop:=
 ((s.2.2.2.2.2.2.2<3)->
 (((0<=s.2.2.2.2.2.2.2)/\ (s.2.2.2.2.2.2.2<3))/\
 ((((0+(s.2.2.2.2.2.2.2.toNat*1))+1)<=3)/\
 (((0<=s.2.2.2.2.2.2.2)/\ (s.2.2.2.2.2.2.2<3))/\
 ((((0+(s.2.2.2.2.2.2.2.toNat*1))+1)<=3)/\
 (((0<=s.2.2.2.2.2.2.1)/\ (s.2.2.2.2.2.2.1<3))/\
 ((((0+(s.2.2.2.2.2.2.1.toNat*1))+1)<=3)/\
 (((0<=s.2.2.2.2.2.2.1)/\ (s.2.2.2.2.2.2.1<3))/\
 (((0+(s.2.2.2.2.2.2.1.toNat*1))+1)<=3)))))))))
def zQ (x:(I3×I3)) (s:A7):Tr (A7⊕Int) true:=
 (.i10 (s.2.2.2.2.2.2.2<3)
 (.oR s.2.2.2.2.2.2.2 3
 (.od (((0+((tN s.2.2.2.2.2.2.2)*1))+1)<=3)
 (.oR s.2.2.2.2.2.2.2 3
 (.od (((0+((tN s.2.2.2.2.2.2.2)*1))+1)<=3)
 (.oR s.2.2.2.2.2.2.1 3
 (.od (((0+((tN s.2.2.2.2.2.2.1)*1))+1)<=3)
 (.oR s.2.2.2.2.2.2.1 3
 (.od (((0+((tN s.2.2.2.2.2.2.1)*1))+1)<=3)
 (.tF ((av ((List.getD [s.2.2.2.1,s.2.2.2.2.1,s.2.2.2.2.2.1] (0+((tN s.2.2.2.2.2.2.2)*1)) z0)- (List.getD [s.1,s.2.1,s.2.2.1] (0+((tN s.2.2.2.2.2.2.2)*1)) z0)))>(av ((List.getD [s.2.2.2.1,s.2.2.2.2.1,s.2.2.2.2.2.1] (0+((tN s.2.2.2.2.2.2.1)*1)) z0)- (List.getD [s.1,s.2.1,s.2.2.1] (0+((tN s.2.2.2.2.2.2.1)*1)) z0))))
 (.ret (.inl (s.1,s.2.1,s.2.2.1,s.2.2.2.1,s.2.2.2.2.1,s.2.2.2.2.2.1,s.2.2.2.2.2.2.2,(w1 s.2.2.2.2.2.2.2))))
 (.ret (.inl (s.1,s.2.1,s.2.2.1,s.2.2.2.1,s.2.2.2.2.1,s.2.2.2.2.2.1,s.2.2.2.2.2.2.1,(w1 s.2.2.2.2.2.2.2)))))))))))))
 (.ret (.inr (s.2.2.2.2.2.2.1))))
def nc (x:(I3×I3)):I2:=
 (aq (qy x) fun y=>
 (if ((!y)=true) then
 (0,1) else
 (aq (parts x.1) fun aB=>
 (aq (parts x.2) fun y_2=>
 (aq (run (gg x) (aB.1,aB.2.1,aB.2.2,y_2.1,y_2.2.1,y_2.2.2,0,0)) fun r=>
 (r,0))))))
def mq (x:(I3×I3)):Prop:=
 ((oL x)/\
 aC (qy x) fun y=>
 (¬((!y)=true)->
 (aC (parts x.1) fun aB=>
 (aC (parts x.2) fun y_2=>
 (Term (gg x) (j8 x) (aB.1,aB.2.1,aB.2.2,y_2.1,y_2.2.1,y_2.2.2,0,0))))))
def WM (x:(I3×I3)):Tr I2 true:=
 (.fn rf x fun y=>
 (.nM (!y)
 (.ret (z0,z1))
 (.fn0 fQ x.1 trivial fun aB=>
 (.fn0 fQ x.2 trivial fun y_2=>
 (aK.lp (F5 x) (zQ x) (aB.1,aB.2.1,aB.2.2,y_2.1,y_2.2.1,y_2.2.2,Cq) fun r=>
 (.ret (r,z0)))))))
abbrev BS:bY:=⟨(.agg (Ty.prod aM aM)),(.pair (.one yi) (.one yi)),mq,nc⟩
theorem Sc:ai Tryz.prog 178 (ak BS):=ai.tr BS WM (fn:=Tryz.f178) aA sR mixed (by kernel_rfl) (ax.nil _ _) (fun x=>(ay.tr aA (ah.dX sR (ax.nil _ _)) mixed 0 (F5 x) (zQ x) ay.nil (by kernel_rfl) fun g s Q=>(by kernel_rfl))) (fun x=>(by kernel_rfl)) fun x Q=>(by kernel_rfl)
def G8:List (Nat×Ev.Spec):=(178,ak BS)::KZ
theorem qA:ah Tryz.prog G8:=ah.add (fn:=Tryz.f178) (by kernel_rfl) Sc sR
def Tw (x:(List I9×List Int)):aK:=⟨[],⟨di 31 0 [(0,.v (.one (.full 0))),(4,.v (.one (.ptr 1 0))),(5,.v (.one (.full 2))),(11,.v (.one (.full 3))),(12,.v (.one (.i .i64))),(13,.v (.one (.i .i64)))],[.row dF 0,.cells [.i .i64,.i .i64,.i .i64,.i .i64,.i .i64,.i .i64] 194,.row aM 2,.row yi 0],0,none,[],[0,2,3,4,5,6,7,8,10],[9,1],[(.l aM),.i],[.i (x.2.length:Int),.l dF x.1,.i 0,.i 0,.i 0,.i 0,.i 0,.i 0,.l yi x.2]⟩,[⟨(.exit 0),.normal,⟨di 31 0 [(4,.v (.one (.ptr 0 0))),(5,.v (.one (.full 1)))],[.cells [.i .i64,.i .i64,.i .i64,.i .i64,.i .i64,.i .i64] 194,.row aM 2],0,none,[],[0,1,2,3,4,5],[6],[(.l aM)],[.i 0,.i 0,.i 0,.i 0,.i 0,.i 0]⟩⟩]⟩
def iN (x:(List I9×List Int)) (s:(List I3×Int)):(List I3×Int)⊕(List I3):=
 (if (s.2<(x.2.length:Int)) then
 (Sum.inl ((s.1++ [(x.1.getD (Int.toNat (x.2.getD s.2.toNat 0)) ((0,0,0),(0,0,0),0,0,0)).1,(x.1.getD (Int.toNat (x.2.getD s.2.toNat 0)) ((0,0,0),(0,0,0),0,0,0)).2.1,(x.1.getD (Int.toNat (x.2.getD s.2.toNat 0)) ((0,0,0),(0,0,0),0,0,0)).2.2]),(av (s.2+1)))) else
 (Sum.inr (s.1)))
def pq (x:(List I9×List Int)) (s:(List I3×Int)):Prop:=
 ((s.2<(x.2.length:Int))->
 (((0<=s.2)/\ (s.2<(x.2.length:Int)))/\
 ((s.2.toNat<x.2.length)/\
 ((s.2.toNat<x.2.length)/\
 (((0<=(x.2.getD s.2.toNat 0))/\ ((x.2.getD s.2.toNat 0)<(x.1.length:Int)))/\
 (((Int.toNat (x.2.getD s.2.toNat 0))<x.1.length)/\
 (((Int.toNat (x.2.getD s.2.toNat 0))<x.1.length)/\
 ((s.1.length+3)<1099511627776))))))))
def I6 (x:(List I9×List Int)) (s:(List I3×Int)):Tr ((List I3×Int)⊕(List I3)) true:=
 (.i10 (s.2<(nL x.2))
 (.mS s.2 x.2
 (.mS (gI x.2 s.2) x.1
 (.od ((s.1.length+3)<1099511627776)
 (.ret (.inl ((s.1++ [(gT x.1 (gI x.2 s.2) Lm).1,(gT x.1 (gI x.2 s.2) Lm).2.1,(gT x.1 (gI x.2 s.2) Lm).2.2]),(w1 s.2)))))))
 (.ret (.inr (s.1))))
def fH (x:(List I9×List Int)):(I3×I3):=
 (aq (run (iN x) ([],0)) fun r=>
 (aq (vl r) fun y=>
 y.1))
def qK (x:(List I9×List Int)):Prop:=
 (Term (iN x) (pq x) ([],0)/\
 aC (run (iN x) ([],0)) fun r=>
 (sO r))
def agD (x:(List I9×List Int)):Tr (I3×I3) true:=
 (aK.lp (Tw x) (I6 x) ([],z0) fun r=>
 (.fn Al r fun y=>
 (.ret y.1)))
abbrev LG:bY:=⟨(.pair (.one (Ty.sl dF)) (.one (Ty.sl yi))),(.agg (Ty.prod aM aM)),qK,fH⟩
theorem ac9:ai Tryz.prog 156 (ak LG):=ai.tr LG agD (fn:=Tryz.f156) aA qA mixed (by kernel_rfl) (ax.nil _ _) (fun x=>(ay.tr aA (ah.dX qA (ax.nil _ _)) mixed 0 (Tw x) (I6 x) ay.nil (by kernel_rfl) fun g s Q=>(by kernel_rfl))) (fun x=>(by kernel_rfl)) fun x Q=>(by kernel_rfl)
def Ap:List (Nat×Ev.Spec):=(156,ak LG)::G8
theorem yB:ah Tryz.prog Ap:=ah.add (fn:=Tryz.f156) (by kernel_rfl) ac9 qA
def sV (x:(List I9×List Int)):(List Int×List Int):=
 (aq (fH x) fun y=>
 (aq (nc y) fun aB=>
 (aq (tS x.2) fun y_2=>
 (aq (GK (y_2,x.1,aB.1)) fun bk=>
 ((List.take (Int.toNat (av (Int.tdiv (bk.2.1.length:Int) 2))) bk.2.1),(List.drop (Int.toNat (av (Int.tdiv (bk.2.1.length:Int) 2))) bk.2.1))))))
def jB (x:(List I9×List Int)):Prop:=
 ((qK x)/\
 aC (fH x) fun y=>
 ((mq y)/\
 aC (nc y) fun aB=>
 ((kU x.2)/\
 aC (tS x.2) fun y_2=>
 ((rh (y_2,x.1,aB.1))/\
 aC (GK (y_2,x.1,aB.1)) fun bk=>
 (((0<=(av (Int.tdiv (bk.2.1.length:Int) 2)))/\ ((av (Int.tdiv (bk.2.1.length:Int) 2))<=(bk.2.1.length:Int)))/\
 (((0<=(av (Int.tdiv (bk.2.1.length:Int) 2)))/\ ((av (Int.tdiv (bk.2.1.length:Int) 2))<=(((Int.toNat (av (Int.tdiv (bk.2.1.length:Int) 2))):Nat):Int)))/\
 ((0<=(av (Int.tdiv (bk.2.1.length:Int) 2)))/\ ((av (Int.tdiv (bk.2.1.length:Int) 2))<=(bk.2.1.length:Int)))))))))
theorem Xx (x:(List I9×List Int)) (S:Nat->Prop) (Q:(List Int×List Int)->Prop):Ie ⟨tt,Ap,cf,[],[],[]⟩ Tryz.f158 (cq (.pair (.one (Ty.sl dF)) (.one (Ty.sl yi))) x) (c9 (.pair (.one (Ty.sl dF)) (.one (Ty.sl yi))) x++ [.hide S]) (UD (.pair (.one (Ty.sl yi)) (.one (Ty.sl yi))) S Q)=
 ((qK x)/\ ∀y:(I3×I3),y=(fH x)->
 ((mq y)/\ ∀aB:I2,aB=(nc y)->
 ((kU x.2)/\ ∀y_2:(List Int),y_2=(tS x.2)->
 ((rh (y_2,x.1,aB.1))/\ ∀bk:(Bool×List Int×Bool),bk=(GK (y_2,x.1,aB.1))->
 (ob ((decide ((0:Int)<=(av (Int.tdiv (bk.2.1.length:Int) (2:Int)))))&&(decide ((av (Int.tdiv (bk.2.1.length:Int) (2:Int)))<=(bk.2.1.length:Int))))
 (ob ((decide ((0:Int)<=(av (Int.tdiv (bk.2.1.length:Int) (2:Int)))))&&(decide ((av (Int.tdiv (bk.2.1.length:Int) (2:Int)))<=(((Int.toNat (av (Int.tdiv (bk.2.1.length:Int) (2:Int)))):Nat):Int))))
 (ob ((decide ((0:Int)<=(av (Int.tdiv (bk.2.1.length:Int) (2:Int)))))&&(decide ((av (Int.tdiv (bk.2.1.length:Int) (2:Int)))<=(bk.2.1.length:Int))))
 ((S=S)/\
 (Q ((List.take (Int.toNat (av (Int.tdiv (bk.2.1.length:Int) (2:Int)))) bk.2.1),(List.drop (Int.toNat (av (Int.tdiv (bk.2.1.length:Int) (2:Int)))) bk.2.1))))))))))):=by kernel_rfl
theorem Xv (x:(List I9×List Int)) (S:Nat->Prop) (Q:(List Int×List Int)->Prop) (hp:jB x) (hq:Q (sV x)):Vc (Ie ⟨tt,Ap,cf,[],[],[]⟩ Tryz.f158 (cq (.pair (.one (Ty.sl dF)) (.one (Ty.sl yi))) x) (c9 (.pair (.one (Ty.sl dF)) (.one (Ty.sl yi))) x++ [.hide S]) (UD (.pair (.one (Ty.sl yi)) (.one (Ty.sl yi))) S Q)):= .eq (Xx x S Q) (have hp:=Eq.mp (jB.eq_1 x) hp;have hq:=Eq.mp (congrArg Q (sV.eq_1 x)) hq;
 (And.intro hp.1 (Ud (Q:=Q) hp.2 hq fun y hp hq=>(And.intro hp.1 (Ud (Q:=Q) hp.2 hq fun aB hp hq=>(And.intro hp.1 (Ud (Q:=Q) hp.2 hq fun y_2 hp hq=>(And.intro hp.1 (Ud (Q:=Q) hp.2 hq fun bk hp hq=>(O6 (gV (decide_eq_true hp.1.1) (decide_eq_true hp.1.2)) (have hp:=hp.2;(O6 (gV (decide_eq_true hp.1.1) (decide_eq_true hp.1.2)) (have hp:=hp.2;(O6 (gV (decide_eq_true hp.1) (decide_eq_true hp.2)) (And.intro rfl hq)))))))))))))))
abbrev Hx:bY:=⟨(.pair (.one (Ty.sl dF)) (.one (Ty.sl yi))),(.pair (.one (Ty.sl yi)) (.one (Ty.sl yi))),jB,sV⟩
theorem Xw:ai Tryz.prog 158 (DT Hx):=ai.fnR (fn:=Tryz.f158) aA yB mixed (by kernel_rfl) (by kernel_rfl) (.pair (.one (Ty.sl dF)) (.one (Ty.sl yi))) (.pair (.one (Ty.sl yi)) (.one (Ty.sl yi))) jB sV fun x hp S=>⟨_,_,(ax.nil _ _),ay.nil,Xv x S (fun y=>y=sV x) hp rfl⟩
def K3:List (Nat×Ev.Spec):=(158,DT Hx)::Ap
theorem MS:ah Tryz.prog K3:=ah.add (fn:=Tryz.f158) (by kernel_rfl) Xw yB
end Go.Proofs.YtngdehlpoomaiaaGreat
