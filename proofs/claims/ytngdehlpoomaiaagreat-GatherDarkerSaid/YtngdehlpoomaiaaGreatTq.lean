/- Models of tree's functions: split. -/
import Derived.Test.YtngdehlpoomaiaaGreatTp
noncomputable section
set_option linter.unusedSectionVars false
set_option linter.unusedVariables false
set_option linter.unusedSimpArgs false
namespace Go.Proofs.YtngdehlpoomaiaaGreat
open Go Go.Ev Go.Proofs
def KI (x:(Int×List Int)):aL:=⟨[],⟨dL 23 0 [(0,.v (.one (.i .i64))),(7,.v (.one (.full 0))),(8,.v (.one (.i .i64))),(9,.v (.one (.i .i64)))],[.row yi 0],0,none,[],[0,1,3],[2],[.i],[.i x.1,.i (x.2.length:Int),.l yi x.2]⟩,[⟨.ret,.ret,⟨dL 23 0 [(4,.v (.one (.b)))],[],0,none,[],[0],[],[],[.b false]⟩⟩,⟨(.exit 0),.normal,⟨dL 23 0 [],[],0,none,[],[],[],[],[]⟩⟩]⟩
def kL (x:(Int×List Int)) (s:Int):Int⊕(Unit⊕Unit):=
 (if (s<(x.2.length:Int)) then
 (if ((x.2.getD s.toNat 0)<(au (0- x.1))) then
 (Sum.inr (Sum.inl ())) else
 (if ((x.2.getD s.toNat 0)>x.1) then
 (Sum.inr (Sum.inl ())) else
 (Sum.inl (au (s+1))))) else
 (Sum.inr (Sum.inr (()))))
def xB (x:(Int×List Int)) (s:Int):Prop:=
 ((s<(x.2.length:Int))->
 (((0<=s)/\ (s<(x.2.length:Int)))/\
 ((s.toNat<x.2.length)/\
 (s.toNat<x.2.length))))
def C8 (x:(Int×List Int)) (s:Int):Tr (Int⊕(Unit⊕Unit)) true:=
 (.i10 (s<(nL x.2))
 (.nc s x.2
 (.oq ((gI x.2 s)<(au (z0- x.1)))
 (.ret (.inr (Sum.inl ())))
 (.oq ((gI x.2 s)>x.1)
 (.ret (.inr (Sum.inl ())))
 (.ret (.inl (w1 s))))))
 (.ret (.inr (Sum.inr (())))))
def within (x:(Int×List Int)):Bool:=
 (aj (run (kL x) 0) fun r=>
 (Sum.elim (fun a=>
 false) (fun b=>
 true) r))
def yz (x:(Int×List Int)):Prop:=
 (Term (kL x) (xB x) 0)
def abr (x:(Int×List Int)):Tr Bool true:=
 (aL.lp (KI x) (C8 x) z0 fun r=>
 (.OD r (fun a=>
 (.ret false)) (fun b=>
 (.ret true))))
abbrev AR:cf:=⟨(.pair (.one yi) (.one (Ty.sl yi))),(.one Ty.bool),yz,within⟩
theorem Xc:ah Tryz.prog 58 (ak AR):=ah.tr AR abr (fn:=Tryz.f58) az vj mixed (by kernel_rfl) (av.nil _ _) (fun x=>(ax.tr az (af.eA vj (av.nil _ _)) mixed 0 (KI x) (C8 x) ax.nil (by kernel_rfl) fun g s Q=>(by kernel_rfl))) (fun x=>(by kernel_rfl)) fun x Q=>(by kernel_rfl)
def Kt:List (Nat×Ev.Spec):=(58,ak AR)::Pe
theorem sH:af Tryz.prog Kt:=af.add (fn:=Tryz.f58) (by kernel_rfl) Xc vj
def JQ (x:(List I3)):aL:=⟨[],⟨dL 21 0 [(5,.v (.one (.full 0))),(6,.v (.one (.i .i64))),(7,.v (.one (.i .i64)))],[.row aO 0],0,none,[],[0,2],[1],[.i],[.i (x.length:Int),.l aO x]⟩,[⟨.ret,.ret,⟨dL 21 0 [(2,.v (.one (.b)))],[],0,none,[],[0],[],[],[.b false]⟩⟩,⟨(.exit 0),.normal,⟨dL 21 0 [],[],0,none,[],[],[],[],[]⟩⟩]⟩
def kI (x:(List I3)) (s:Int):Int⊕(Unit⊕Unit):=
 (if (s<(x.length:Int)) then
 (aj (within (16384,[(x.getD s.toNat (0,0,0)).1,(x.getD s.toNat (0,0,0)).2.1,(x.getD s.toNat (0,0,0)).2.2])) fun y=>
 (if ((!y)=true) then
 (Sum.inr (Sum.inl ())) else
 (Sum.inl (au (s+1))))) else
 (Sum.inr (Sum.inr (()))))
def xe (x:(List I3)) (s:Int):Prop:=
 ((s<(x.length:Int))->
 (((0<=s)/\ (s<(x.length:Int)))/\
 ((s.toNat<x.length)/\
 ((s.toNat<x.length)/\
 (yz (16384,[(x.getD s.toNat (0,0,0)).1,(x.getD s.toNat (0,0,0)).2.1,(x.getD s.toNat (0,0,0)).2.2]))))))
def CD (x:(List I3)) (s:Int):Tr (Int⊕(Unit⊕Unit)) true:=
 (.i10 (s<(nL x))
 (.nc s x
 (.fn AR (16384,[(gT x s bH).1,(gT x s bH).2.1,(gT x s bH).2.2]) fun y=>
 (.iQ (!y)
 (.ret (.inr (Sum.inl ())))
 (.ret (.inl (w1 s))))))
 (.ret (.inr (Sum.inr (())))))
def ef (x:(List I3)):Bool:=
 (aj (run (kI x) 0) fun r=>
 (Sum.elim (fun a=>
 false) (fun b=>
 true) r))
def cA (x:(List I3)):Prop:=
 (Term (kI x) (xe x) 0)
def aaz (x:(List I3)):Tr Bool true:=
 (aL.lp (JQ x) (CD x) z0 fun r=>
 (.OD r (fun a=>
 (.ret false)) (fun b=>
 (.ret true))))
abbrev ej:cf:=⟨(.one (Ty.sl aO)),(.one Ty.bool),cA,ef⟩
theorem WH:ah Tryz.prog 26 (ak ej):=ah.tr ej aaz (fn:=Tryz.f26) az sH mixed (by kernel_rfl) (av.nil _ _) (fun x=>(ax.tr az (af.eA sH (av.nil _ _)) mixed 0 (JQ x) (CD x) ax.nil (by kernel_rfl) fun g s Q=>(by kernel_rfl))) (fun x=>(by kernel_rfl)) fun x Q=>(by kernel_rfl)
def Km:List (Nat×Ev.Spec):=(26,ak ej)::Kt
theorem AA:af Tryz.prog Km:=af.add (fn:=Tryz.f26) (by kernel_rfl) WH sH
def BQ (x:I9):Bool:=
 (aj (ef [x.1,x.2.1,x.2.2]) fun y=>
 (!y))
def yf (x:I9):Prop:=
 (cA [x.1,x.2.1,x.2.2])
def aaB (x:I9):Tr Bool true:=
 (.fn ej [x.1,x.2.1,x.2.2] fun y=>
 (.ret (!y)))
abbrev z7:cf:=⟨(.agg ff),(.one Ty.bool),yf,BQ⟩
theorem WJ:ah Tryz.prog 176 (ak z7):=ah.tr z7 aaB (fn:=Tryz.f176) az AA mixed (by kernel_rfl) (av.nil _ _) (fun x=>ax.nil) (fun x=>(by kernel_rfl)) fun x Q=>(by kernel_rfl)
def Kp:List (Nat×Ev.Spec):=(176,ak z7)::Km
theorem sG:af Tryz.prog Kp:=af.add (fn:=Tryz.f176) (by kernel_rfl) WJ AA
def I6 (x:(List I9×Bool)):aL:=⟨[],⟨dL 19 0 [(0,.v (.one (.full 0))),(1,.v (.one (.iT 176 0 []))),(7,.v (.one (.i .i64))),(8,.v (.one (.i .i64)))],[.row ff 0],0,none,[],[0,2],[1],[.i],[.i (x.1.length:Int),.l ff x.1]⟩,[⟨.ret,.ret,⟨dL 19 0 [(4,.v (.one (.i .i64)))],[],0,none,[],[],[0],[.i],[]⟩⟩,⟨(.exit 0),.normal,⟨dL 19 0 [],[],0,none,[],[],[],[],[]⟩⟩]⟩
def iF (x:(List I9×Bool)) (s:Int):Int⊕(Int⊕Unit):=
 (if (s<(x.1.length:Int)) then
 (aj (BQ (x.1.getD s.toNat ((0,0,0),(0,0,0),0,0,0))) fun y=>
 (if (y=true) then
 (Sum.inr (Sum.inl s)) else
 (Sum.inl (au (s+1))))) else
 (Sum.inr (Sum.inr (()))))
def qd (x:(List I9×Bool)) (s:Int):Prop:=
 ((s<(x.1.length:Int))->
 (((0<=s)/\ (s<(x.1.length:Int)))/\
 ((s.toNat<x.1.length)/\
 ((s.toNat<x.1.length)/\
 (yf (x.1.getD s.toNat ((0,0,0),(0,0,0),0,0,0)))))))
def Ck (x:(List I9×Bool)) (s:Int):Tr (Int⊕(Int⊕Unit)) true:=
 (.i10 (s<(nL x.1))
 (.nc s x.1
 (.fn z7 (gT x.1 s My) fun y=>
 (.iQ y
 (.ret (.inr (Sum.inl s)))
 (.ret (.inl (w1 s))))))
 (.ret (.inr (Sum.inr (())))))
def Q9 (x:(List I9×Bool)):Int:=
 (aj (run (iF x) 0) fun r=>
 (Sum.elim (fun a=>
 a) (fun b=>
 (-1)) r))
def Fp (x:(List I9×Bool)):Prop:=
 (Term (iF x) (qd x) 0)
def Zp (x:(List I9×Bool)):Tr Int true:=
 (aL.lp (I6 x) (Ck x) z0 fun r=>
 (.OD r (fun a=>
 (.ret a)) (fun b=>
 (.ret (-1)))))
abbrev zk:cf:=⟨(.pair (.one (Ty.sl ff)) (.iT 176 .none)),(.one yi),Fp,Q9⟩
theorem VH:ah Tryz.prog 195 (ak zk):=ah.tr zk Zp (fn:=Tryz.f195) az sG mixed (by kernel_rfl) (av.nil _ _) (fun x=>(ax.tr az (af.eA sG (av.nil _ _)) mixed 0 (I6 x) (Ck x) ax.nil (by kernel_rfl) fun g s Q=>(by kernel_rfl))) (fun x=>(by kernel_rfl)) fun x Q=>(by kernel_rfl)
def J8:List (Nat×Ev.Spec):=(195,ak zk)::Kp
theorem Ar:af Tryz.prog J8:=af.add (fn:=Tryz.f195) (by kernel_rfl) VH sG
def A9 (x:(List I9×Bool)):Bool:=
 (aj (Q9 (x.1,false)) fun y=>
 (decide (y>=0)))
def wU (x:(List I9×Bool)):Prop:=
 (Fp (x.1,false))
def MW (x:(List I9×Bool)):Tr Bool true:=
 (.fn zk (x.1,false) fun y=>
 (.ret (decide (y>=z0))))
abbrev oZ:cf:=⟨(.pair (.one (Ty.sl ff)) (.iT 176 .none)),(.one Ty.bool),wU,A9⟩
theorem K7:ah Tryz.prog 175 (ak oZ):=ah.tr oZ MW (fn:=Tryz.f175) az Ar mixed (by kernel_rfl) (av.nil _ _) (fun x=>ax.nil) (fun x=>(by kernel_rfl)) fun x Q=>(by kernel_rfl)
def Ah:List (Nat×Ev.Spec):=(175,ak oZ)::J8
theorem sV:af Tryz.prog Ah:=af.add (fn:=Tryz.f175) (by kernel_rfl) K7 Ar
def BP (x:(List I9)):Bool:=
 (aj (A9 (x,false)) fun y=>
 (!y))
def yd (x:(List I9)):Prop:=
 (wU (x,false))
def aaA (x:(List I9)):Tr Bool true:=
 (.fn oZ (x,false) fun y=>
 (.ret (!y)))
abbrev z6:cf:=⟨(.one (Ty.sl ff)),(.one Ty.bool),yd,BP⟩
theorem WI:ah Tryz.prog 154 (ak z6):=ah.tr z6 aaA (fn:=Tryz.f154) az sV mixed (by kernel_rfl) (av.nil _ _) (fun x=>ax.nil) (fun x=>(by kernel_rfl)) fun x Q=>(by kernel_rfl)
def Ko:List (Nat×Ev.Spec):=(154,ak z6)::Ah
theorem AB:af Tryz.prog Ko:=af.add (fn:=Tryz.f154) (by kernel_rfl) WI sV
def tw (x:(List Int)):(List Int):=
 ((List.replicate 0 (0:Int))++x)
def kV (x:(List Int)):Prop:=
 (∀b:Bool,((0<x.length)->(b=false))->(((if (b=true) then
 [] else
 ((List.replicate 0 (0:Int))++x))=((List.replicate 0 (0:Int))++x))/\ (¬(b=true)->
 ((0+x.length)<1099511627776))))
def X5 (x:(List Int)):Tr (List Int) true:=
 (.nil (fun b=>((0<x.length)->(b=false))) fun b=>
 (.kO b
 (.ret [])
 (.od ((0+x.length)<1099511627776)
 (.ret ((List.replicate 0 z0)++x)))))
abbrev yN:cf:=⟨(.one (Ty.sl yi)),(.one (Ty.sl yi)),kV,tw⟩
theorem UN:ah Tryz.prog 157 (ak yN):=ah.tr yN X5 (fn:=Tryz.f157) az AB mixed (by kernel_rfl) (av.dead 157 (fn:=Tryz.f157) (by kernel_rfl)) (fun x=>ax.nil) (fun x=>(by kernel_rfl)) fun x Q=>(by kernel_rfl)
def JS:List (Nat×Ev.Spec):=(157,ak yN)::Ko
theorem Ab:af Tryz.prog JS:=af.add (fn:=Tryz.f157) (by kernel_rfl) UN AB
def point (x:I3):I3:=
 x
def Wt (_:I3):Prop:=True
def adL (x:I3):Tr I3 false:=
 (.ret x)
abbrev zN:cf:=⟨(.agg aO),(.agg aO),Wt,point⟩
theorem aaj:ah Tryz.prog 196 (ak zN):=ah.tr zN adL (fn:=Tryz.f196) az Ab mixed (by kernel_rfl) (av.nil _ _) (fun x=>ax.nil) (fun x=>(by kernel_rfl)) fun x Q=>(by kernel_rfl)
def Pc:List (Nat×Ev.Spec):=(196,ak zN)::JS
theorem CT:af Tryz.prog Pc:=af.add (fn:=Tryz.f196) (by kernel_rfl) aaj Ab
def parts (x:I3):I3:=
 x
def Wr (_:I3):Prop:=True
def adJ (x:I3):Tr I3 false:=
 (.ret x)
abbrev fW:cf:=⟨(.agg aO),(.agg aO),Wr,parts⟩
theorem aaf:ah Tryz.prog 172 (ak fW):=ah.tr fW adJ (fn:=Tryz.f172) az CT mixed (by kernel_rfl) (av.nil _ _) (fun x=>ax.nil) (fun x=>(by kernel_rfl)) fun x Q=>(by kernel_rfl)
def Pb:List (Nat×Ev.Spec):=(172,ak fW)::Pc
theorem vh:af Tryz.prog Pb:=af.add (fn:=Tryz.f172) (by kernel_rfl) aaf CT
def hasB (x:((I3×I3)×I3)):Bool:=
 (aj (parts x.1.1) fun y=>
 (aj (parts x.1.2) fun aA=>
 (aj (parts x.2) fun y_2=>
 (if (y_2.1<y.1) then
 false else
 (if (y_2.1>aA.1) then
 false else
 (if (y_2.2.1<y.2.1) then
 false else
 (if (y_2.2.1>aA.2.1) then
 false else
 (if (y_2.2.2<y.2.2) then
 false else
 (if (y_2.2.2>aA.2.2) then
 false else
 true)))))))))
def YQ (_:((I3×I3)×I3)):Prop:=True
def afT (x:((I3×I3)×I3)):Tr Bool false:=
 (.fn0 fW x.1.1 trivial fun y=>
 (.fn0 fW x.1.2 trivial fun aA=>
 (.fn0 fW x.2 trivial fun y_2=>
 (.oq (y_2.1<y.1)
 (.ret false)
 (.oq (y_2.1>aA.1)
 (.ret false)
 (.oq (y_2.2.1<y.2.1)
 (.ret false)
 (.oq (y_2.2.1>aA.2.1)
 (.ret false)
 (.oq (y_2.2.2<y.2.2)
 (.ret false)
 (.oq (y_2.2.2>aA.2.2)
 (.ret false)
 (.ret true))))))))))
abbrev E2:cf:=⟨(.pair (.agg (Ty.prod aO aO)) (.agg aO)),(.one Ty.bool),YQ,hasB⟩
theorem acL:ah Tryz.prog 188 (ak E2):=ah.tr E2 afT (fn:=Tryz.f188) az vh mixed (by kernel_rfl) (av.nil _ _) (fun x=>(ax.nD az (af.eA vh (av.nil _ _)) mixed 0 4 ax.nil (by kernel_rfl))) (fun x=>(by kernel_rfl)) fun x Q=>(by kernel_rfl)
def TW:List (Nat×Ev.Spec):=(188,ak E2)::Pb
theorem Gm:af Tryz.prog TW:=af.add (fn:=Tryz.f188) (by kernel_rfl) acL vh
def qm (x:(I3×I3)):Bool:=
 (aj (ef [x.1,x.2]) fun y=>
 (if (y=true) then
 (aj (hasB (x,x.1)) fun aA=>
 aA) else
 false))
def oC (x:(I3×I3)):Prop:=
 (cA [x.1,x.2])
def aaw (x:(I3×I3)):Tr Bool true:=
 (.fn ej [x.1,x.2] fun y=>
 (.iQ y
 (.fn0 E2 (x,x.1) trivial fun aA=>
 (.ret aA))
 (.ret false)))
abbrev qW:cf:=⟨(.agg (Ty.prod aO aO)),(.one Ty.bool),oC,qm⟩
theorem WE:ah Tryz.prog 169 (ak qW):=ah.tr qW aaw (fn:=Tryz.f169) az Gm mixed (by kernel_rfl) (av.nil _ _) (fun x=>ax.nil) (fun x=>(by kernel_rfl)) fun x Q=>(by kernel_rfl)
def Kk:List (Nat×Ev.Spec):=(169,ak qW)::TW
theorem ny:af Tryz.prog Kk:=af.add (fn:=Tryz.f169) (by kernel_rfl) WE Gm
def JO (x:(List I3)):aL:=⟨[],⟨dL 64 0 [(2,.v (.one (.ptr 0 0))),(4,.v (.one (.ptr 1 0))),(5,.v (.one (.ptr 2 0))),(8,.v (.one (.ptr 3 0))),(28,.v (.one (.full 4))),(29,.v (.one (.i .i64))),(30,.v (.one (.i .i64))),(36,.v (.one (.i .i64)))],[.cells [.i .i64,.i .i64,.i .i64,.i .i64,.i .i64,.i .i64] 194,.cells [.i .i64,.i .i64,.i .i64] 124,.cells [.i .i64,.i .i64,.i .i64] 124,.cells [.i .i64,.i .i64,.i .i64] 124,.row aO 0],0,none,[],[0,3,4,5,6,7,8,18],[9,10,11,12,13,14,15,16,17,1,2],[.i,.i,.i,.i,.i,.i,.i,.i,.i,.i,.i],[.i (x.length:Int),.i 0,.i 0,.i 0,.i 0,.i 0,.i 0,.l aO x]⟩,[⟨(.exit 3),.normal,⟨dL 64 0 [(2,.v (.one (.ptr 0 0))),(4,.v (.one (.ptr 1 0))),(5,.v (.one (.ptr 2 0))),(28,.v (.one (.full 3))),(29,.v (.one (.i .i64))),(30,.v (.one (.i .i64)))],[.cells [.i .i64,.i .i64,.i .i64,.i .i64,.i .i64,.i .i64] 194,.cells [.i .i64,.i .i64,.i .i64] 124,.cells [.i .i64,.i .i64,.i .i64] 124,.row aO 0],0,none,[],[0,2,3,4,5,6,7,14],[8,9,10,11,12,13,1],[.i,.i,.i,.i,.i,.i,.i],[.i (x.length:Int),.i 0,.i 0,.i 0,.i 0,.i 0,.i 0,.l aO x]⟩⟩]⟩
def oD (x:(List I3)) (s:(Int×Int×Int×Int×Int×Int×Int×Int×I3)):(Int×Int×Int×Int×Int×Int×Int×Int×I3)⊕(Int×Int×Int×Int×I3):=
 (if (s.2.2.2.2.2.2.2.2.2.2<3) then
 (Sum.inl ((cond (Nat.beq (0+(s.2.2.2.2.2.2.2.2.2.2.toNat*1)) 0) (aY (List.getD [s.1,s.2.1,s.2.2.1] (0+(s.2.2.2.2.2.2.2.2.2.2.toNat*1)) 0) (List.getD [s.2.2.2.2.2.2.1,s.2.2.2.2.2.2.2.1,s.2.2.2.2.2.2.2.2.1] (0+(s.2.2.2.2.2.2.2.2.2.2.toNat*1)) 0)) s.1),(cond (Nat.beq (0+(s.2.2.2.2.2.2.2.2.2.2.toNat*1)) 1) (aY (List.getD [s.1,s.2.1,s.2.2.1] (0+(s.2.2.2.2.2.2.2.2.2.2.toNat*1)) 0) (List.getD [s.2.2.2.2.2.2.1,s.2.2.2.2.2.2.2.1,s.2.2.2.2.2.2.2.2.1] (0+(s.2.2.2.2.2.2.2.2.2.2.toNat*1)) 0)) s.2.1),(cond (Nat.beq (0+(s.2.2.2.2.2.2.2.2.2.2.toNat*1)) 2) (aY (List.getD [s.1,s.2.1,s.2.2.1] (0+(s.2.2.2.2.2.2.2.2.2.2.toNat*1)) 0) (List.getD [s.2.2.2.2.2.2.1,s.2.2.2.2.2.2.2.1,s.2.2.2.2.2.2.2.2.1] (0+(s.2.2.2.2.2.2.2.2.2.2.toNat*1)) 0)) s.2.2.1),(cond (Nat.beq (0+(s.2.2.2.2.2.2.2.2.2.2.toNat*1)) 0) (aT (List.getD [s.2.2.2.1,s.2.2.2.2.1,s.2.2.2.2.2.1] (0+(s.2.2.2.2.2.2.2.2.2.2.toNat*1)) 0) (List.getD [s.2.2.2.2.2.2.1,s.2.2.2.2.2.2.2.1,s.2.2.2.2.2.2.2.2.1] (0+(s.2.2.2.2.2.2.2.2.2.2.toNat*1)) 0)) s.2.2.2.1),(cond (Nat.beq (0+(s.2.2.2.2.2.2.2.2.2.2.toNat*1)) 1) (aT (List.getD [s.2.2.2.1,s.2.2.2.2.1,s.2.2.2.2.2.1] (0+(s.2.2.2.2.2.2.2.2.2.2.toNat*1)) 0) (List.getD [s.2.2.2.2.2.2.1,s.2.2.2.2.2.2.2.1,s.2.2.2.2.2.2.2.2.1] (0+(s.2.2.2.2.2.2.2.2.2.2.toNat*1)) 0)) s.2.2.2.2.1),(cond (Nat.beq (0+(s.2.2.2.2.2.2.2.2.2.2.toNat*1)) 2) (aT (List.getD [s.2.2.2.1,s.2.2.2.2.1,s.2.2.2.2.2.1] (0+(s.2.2.2.2.2.2.2.2.2.2.toNat*1)) 0) (List.getD [s.2.2.2.2.2.2.1,s.2.2.2.2.2.2.2.1,s.2.2.2.2.2.2.2.2.1] (0+(s.2.2.2.2.2.2.2.2.2.2.toNat*1)) 0)) s.2.2.2.2.2.1),s.2.2.2.2.2.2.1,s.2.2.2.2.2.2.2.1,s.2.2.2.2.2.2.2.2.1,s.2.2.2.2.2.2.2.2.2.1,(au (s.2.2.2.2.2.2.2.2.2.2+1)))) else
 (Sum.inr ((s.1,s.2.1,s.2.2.1,s.2.2.2.1,s.2.2.2.2.1,s.2.2.2.2.2.1,s.2.2.2.2.2.2.2.2.2.1))))
def gV (x:(List I3)) (s:(Int×Int×Int×Int×Int×Int×Int×Int×I3)):Prop:=
 ((s.2.2.2.2.2.2.2.2.2.2<3)->
 (((0<=s.2.2.2.2.2.2.2.2.2.2)/\ (s.2.2.2.2.2.2.2.2.2.2<3))/\
 ((((0+(s.2.2.2.2.2.2.2.2.2.2.toNat*1))+1)<=3)/\
 (((0<=s.2.2.2.2.2.2.2.2.2.2)/\ (s.2.2.2.2.2.2.2.2.2.2<3))/\
 ((((0+(s.2.2.2.2.2.2.2.2.2.2.toNat*1))+1)<=3)/\
 (((0<=s.2.2.2.2.2.2.2.2.2.2)/\ (s.2.2.2.2.2.2.2.2.2.2<3))/\
 ((((0+(s.2.2.2.2.2.2.2.2.2.2.toNat*1))+1)<=3)/\
 (((0<=s.2.2.2.2.2.2.2.2.2.2)/\ (s.2.2.2.2.2.2.2.2.2.2<3))/\
 ((((0+(s.2.2.2.2.2.2.2.2.2.2.toNat*1))+1)<=3)/\
 (((0<=s.2.2.2.2.2.2.2.2.2.2)/\ (s.2.2.2.2.2.2.2.2.2.2<3))/\
 ((((0+(s.2.2.2.2.2.2.2.2.2.2.toNat*1))+1)<=3)/\
 (((0<=s.2.2.2.2.2.2.2.2.2.2)/\ (s.2.2.2.2.2.2.2.2.2.2<3))/\
 (((0+(s.2.2.2.2.2.2.2.2.2.2.toNat*1))+1)<=3)))))))))))))
def CB (x:(List I3)) (s:(Int×Int×Int×Int×Int×Int×Int×Int×I3)):Tr ((Int×Int×Int×Int×Int×Int×Int×Int×I3)⊕(Int×Int×Int×Int×I3)) true:=
 (.i10 (s.2.2.2.2.2.2.2.2.2.2<3)
 (.oR s.2.2.2.2.2.2.2.2.2.2 3
 (.od (((0+((tN s.2.2.2.2.2.2.2.2.2.2)*1))+1)<=3)
 (.oR s.2.2.2.2.2.2.2.2.2.2 3
 (.od (((0+((tN s.2.2.2.2.2.2.2.2.2.2)*1))+1)<=3)
 (.oR s.2.2.2.2.2.2.2.2.2.2 3
 (.od (((0+((tN s.2.2.2.2.2.2.2.2.2.2)*1))+1)<=3)
 (.oR s.2.2.2.2.2.2.2.2.2.2 3
 (.od (((0+((tN s.2.2.2.2.2.2.2.2.2.2)*1))+1)<=3)
 (.oR s.2.2.2.2.2.2.2.2.2.2 3
 (.od (((0+((tN s.2.2.2.2.2.2.2.2.2.2)*1))+1)<=3)
 (.oR s.2.2.2.2.2.2.2.2.2.2 3
 (.od (((0+((tN s.2.2.2.2.2.2.2.2.2.2)*1))+1)<=3)
 (.ret (.inl ((cond (Nat.beq (0+((tN s.2.2.2.2.2.2.2.2.2.2)*1)) 0) (aY (List.getD [s.1,s.2.1,s.2.2.1] (0+((tN s.2.2.2.2.2.2.2.2.2.2)*1)) z0) (List.getD [s.2.2.2.2.2.2.1,s.2.2.2.2.2.2.2.1,s.2.2.2.2.2.2.2.2.1] (0+((tN s.2.2.2.2.2.2.2.2.2.2)*1)) z0)) s.1),(cond (Nat.beq (0+((tN s.2.2.2.2.2.2.2.2.2.2)*1)) 1) (aY (List.getD [s.1,s.2.1,s.2.2.1] (0+((tN s.2.2.2.2.2.2.2.2.2.2)*1)) z0) (List.getD [s.2.2.2.2.2.2.1,s.2.2.2.2.2.2.2.1,s.2.2.2.2.2.2.2.2.1] (0+((tN s.2.2.2.2.2.2.2.2.2.2)*1)) z0)) s.2.1),(cond (Nat.beq (0+((tN s.2.2.2.2.2.2.2.2.2.2)*1)) 2) (aY (List.getD [s.1,s.2.1,s.2.2.1] (0+((tN s.2.2.2.2.2.2.2.2.2.2)*1)) z0) (List.getD [s.2.2.2.2.2.2.1,s.2.2.2.2.2.2.2.1,s.2.2.2.2.2.2.2.2.1] (0+((tN s.2.2.2.2.2.2.2.2.2.2)*1)) z0)) s.2.2.1),(cond (Nat.beq (0+((tN s.2.2.2.2.2.2.2.2.2.2)*1)) 0) (aT (List.getD [s.2.2.2.1,s.2.2.2.2.1,s.2.2.2.2.2.1] (0+((tN s.2.2.2.2.2.2.2.2.2.2)*1)) z0) (List.getD [s.2.2.2.2.2.2.1,s.2.2.2.2.2.2.2.1,s.2.2.2.2.2.2.2.2.1] (0+((tN s.2.2.2.2.2.2.2.2.2.2)*1)) z0)) s.2.2.2.1),(cond (Nat.beq (0+((tN s.2.2.2.2.2.2.2.2.2.2)*1)) 1) (aT (List.getD [s.2.2.2.1,s.2.2.2.2.1,s.2.2.2.2.2.1] (0+((tN s.2.2.2.2.2.2.2.2.2.2)*1)) z0) (List.getD [s.2.2.2.2.2.2.1,s.2.2.2.2.2.2.2.1,s.2.2.2.2.2.2.2.2.1] (0+((tN s.2.2.2.2.2.2.2.2.2.2)*1)) z0)) s.2.2.2.2.1),(cond (Nat.beq (0+((tN s.2.2.2.2.2.2.2.2.2.2)*1)) 2) (aT (List.getD [s.2.2.2.1,s.2.2.2.2.1,s.2.2.2.2.2.1] (0+((tN s.2.2.2.2.2.2.2.2.2.2)*1)) z0) (List.getD [s.2.2.2.2.2.2.1,s.2.2.2.2.2.2.2.1,s.2.2.2.2.2.2.2.2.1] (0+((tN s.2.2.2.2.2.2.2.2.2.2)*1)) z0)) s.2.2.2.2.2.1),s.2.2.2.2.2.2.1,s.2.2.2.2.2.2.2.1,s.2.2.2.2.2.2.2.2.1,s.2.2.2.2.2.2.2.2.2.1,(w1 s.2.2.2.2.2.2.2.2.2.2))))))))))))))))
 (.ret (.inr ((s.1,s.2.1,s.2.2.1,s.2.2.2.1,s.2.2.2.2.1,s.2.2.2.2.2.1,s.2.2.2.2.2.2.2.2.2.1)))))
def JN (x:(List I3)):aL:=⟨[],⟨dL 64 0 [(2,.v (.one (.ptr 0 0))),(4,.v (.one (.ptr 1 0))),(5,.v (.one (.ptr 2 0))),(28,.v (.one (.full 3))),(29,.v (.one (.i .i64))),(30,.v (.one (.i .i64)))],[.cells [.i .i64,.i .i64,.i .i64,.i .i64,.i .i64,.i .i64] 194,.cells [.i .i64,.i .i64,.i .i64] 124,.cells [.i .i64,.i .i64,.i .i64] 124,.row aO 0],0,none,[],[0,2,3,4,5,6,7,14],[8,9,10,11,12,13,1],[.i,.i,.i,.i,.i,.i,.i],[.i (x.length:Int),.i 0,.i 0,.i 0,.i 0,.i 0,.i 0,.l aO x]⟩,[⟨(.exit 1),.normal,⟨dL 64 0 [(2,.v (.one (.ptr 0 0))),(4,.v (.one (.ptr 1 0))),(5,.v (.one (.ptr 2 0)))],[.cells [.i .i64,.i .i64,.i .i64,.i .i64,.i .i64,.i .i64] 194,.cells [.i .i64,.i .i64,.i .i64] 124,.cells [.i .i64,.i .i64,.i .i64] 124],0,none,[],[0,1,2,3,4,5],[6,7,8,9,10,11],[.i,.i,.i,.i,.i,.i],[.i 0,.i 0,.i 0,.i 0,.i 0,.i 0]⟩⟩]⟩
def iN (x:(List I3)) (s:(Int×Int×Int×Int×I3)):(Int×Int×Int×Int×I3)⊕(Int×Int×Int×I3):=
 (if (s.2.2.2.2.2.2<(x.length:Int)) then
 (aj (parts (x.getD s.2.2.2.2.2.2.toNat (0,0,0))) fun y=>
 (aj (run (oD x) (s.1,s.2.1,s.2.2.1,s.2.2.2.1,s.2.2.2.2.1,s.2.2.2.2.2.1,y.1,y.2.1,y.2.2,s.2.2.2.2.2.2,0)) fun r=>
 (Sum.inl (r.1,r.2.1,r.2.2.1,r.2.2.2.1,r.2.2.2.2.1,r.2.2.2.2.2.1,(au (r.2.2.2.2.2.2+1)))))) else
 (Sum.inr ((s.1,s.2.1,s.2.2.1,s.2.2.2.1,s.2.2.2.2.1,s.2.2.2.2.2.1))))
def lR (x:(List I3)) (s:(Int×Int×Int×Int×I3)):Prop:=
 ((s.2.2.2.2.2.2<(x.length:Int))->
 (((0<=s.2.2.2.2.2.2)/\ (s.2.2.2.2.2.2<(x.length:Int)))/\
 ((s.2.2.2.2.2.2.toNat<x.length)/\
 ((s.2.2.2.2.2.2.toNat<x.length)/\
 (aB (parts (x.getD s.2.2.2.2.2.2.toNat (0,0,0))) fun y=>
 (Term (oD x) (gV x) (s.1,s.2.1,s.2.2.1,s.2.2.2.1,s.2.2.2.2.1,s.2.2.2.2.2.1,y.1,y.2.1,y.2.2,s.2.2.2.2.2.2,0)))))))
def CA (x:(List I3)) (s:(Int×Int×Int×Int×I3)):Tr ((Int×Int×Int×Int×I3)⊕(Int×Int×Int×I3)) true:=
 (.i10 (s.2.2.2.2.2.2<(nL x))
 (.nc s.2.2.2.2.2.2 x
 (.fn0 fW (gT x s.2.2.2.2.2.2 bH) trivial fun y=>
 (aL.lp (JO x) (CB x) (s.1,s.2.1,s.2.2.1,s.2.2.2.1,s.2.2.2.2.1,s.2.2.2.2.2.1,y.1,y.2.1,y.2.2,s.2.2.2.2.2.2,z0) fun r=>
 (.ret (.inl (r.1,r.2.1,r.2.2.1,r.2.2.2.1,r.2.2.2.2.1,r.2.2.2.2.2.1,(w1 r.2.2.2.2.2.2)))))))
 (.ret (.inr ((s.1,s.2.1,s.2.2.1,s.2.2.2.1,s.2.2.2.2.1,s.2.2.2.2.2.1)))))
def uU (x:(List I3)):((I3×I3)×Int):=
 (if (((x.length:Int)==0)=true) then
 (((0,0,0),0,0,0),1) else
 (aj (ef x) fun y=>
 (if ((!y)=true) then
 (((0,0,0),0,0,0),5) else
 (aj (parts (x.getD 0 (0,0,0))) fun aA=>
 (aj (parts (x.getD 0 (0,0,0))) fun y_2=>
 (aj (run (iN x) (aA.1,aA.2.1,aA.2.2,y_2.1,y_2.2.1,y_2.2.2,0)) fun r=>
 (aj (point (r.1,r.2.1,r.2.2.1)) fun bg=>
 (aj (point r.2.2.2) fun bW=>
 ((bg,bW),0)))))))))
def sC (x:(List I3)):Prop:=
 (¬(((x.length:Int)==0)=true)->
 ((cA x)/\
 aB (ef x) fun y=>
 (¬((!y)=true)->
 ((0<(x.length:Int))/\
 ((0<x.length)/\
 ((0<x.length)/\
 (aB (parts (x.getD 0 (0,0,0))) fun aA=>
 ((0<(x.length:Int))/\
 ((0<x.length)/\
 ((0<x.length)/\
 (aB (parts (x.getD 0 (0,0,0))) fun y_2=>
 (Term (iN x) (lR x) (aA.1,aA.2.1,aA.2.2,y_2.1,y_2.2.1,y_2.2.2,0)))))))))))))
def aax (x:(List I3)):Tr ((I3×I3)×Int) true:=
 (.kO ((nL x)==z0)
 (.ret ((bH,bH),z1))
 (.fn ej x fun y=>
 (.kO (!y)
 (.ret ((bH,bH),5))
 (.og (true&&(decide (z0<(nL x)))) (z0<(nL x)) (fun h=>(gh rfl (decide_eq_true h)))
 (.od (0<x.length)
 (.od (0<x.length)
 (.fn0 fW (x.getD 0 bH) trivial fun aA=>
 (.og (true&&(decide (z0<(nL x)))) (z0<(nL x)) (fun h=>(gh rfl (decide_eq_true h)))
 (.od (0<x.length)
 (.od (0<x.length)
 (.fn0 fW (x.getD 0 bH) trivial fun y_2=>
 (aL.lp (JN x) (CA x) (aA.1,aA.2.1,aA.2.2,y_2.1,y_2.2.1,y_2.2.2,z0) fun r=>
 (.fn0 zN (r.1,r.2.1,r.2.2.1) trivial fun bg=>
 (.fn0 zN r.2.2.2 trivial fun bW=>
 (.ret ((bg,bW),z0))))))))))))))))
abbrev z4:cf:=⟨(.one (Ty.sl aO)),(.pair (.agg (Ty.prod aO aO)) (.one yi)),sC,uU⟩
theorem WG:ah Tryz.prog 177 (ak z4):=ah.tr z4 aax (fn:=Tryz.f177) az ny mixed (by kernel_rfl) (av.nil _ _) (fun x=>(ax.tr az (af.eA ny (av.nil _ _)) mixed 1 (JN x) (CA x) (ax.tr az (af.eA ny (av.nil _ _)) mixed 3 (JO x) (CB x) ax.nil (by kernel_rfl) fun g s Q=>(by kernel_rfl)) (by kernel_rfl) fun g s Q=>(by kernel_rfl))) (fun x=>(by kernel_rfl)) fun x Q=>(by kernel_rfl)
def Kl:List (Nat×Ev.Spec):=(177,ak z4)::Kk
theorem sF:af Tryz.prog Kl:=af.add (fn:=Tryz.f177) (by kernel_rfl) WG ny
def Fz (x:(I3×I3)):aL:=⟨[],⟨dL 38 0 [(4,.v (.one (.ptr 0 0))),(5,.v (.one (.ptr 1 0))),(6,.v (.one (.i .i64))),(17,.v (.one (.i .i64)))],[.cells [.i .i64,.i .i64,.i .i64] 124,.cells [.i .i64,.i .i64,.i .i64] 124],0,none,[],[],[2,3,4,5,6,7,0,1],[.i,.i,.i,.i,.i,.i,.i,.i],[]⟩,[⟨(.exit 0),.normal,⟨dL 38 0 [(6,.v (.one (.i .i64)))],[],0,none,[],[],[0],[.i],[]⟩⟩]⟩
def gq (x:(I3×I3)) (s:(Int×Int×Int×Int×Int×I3)):(Int×Int×Int×Int×Int×I3)⊕Int:=
 (if (s.2.2.2.2.2.2.2<3) then
 (if ((au ((List.getD [s.2.2.2.1,s.2.2.2.2.1,s.2.2.2.2.2.1] (0+(s.2.2.2.2.2.2.2.toNat*1)) 0)- (List.getD [s.1,s.2.1,s.2.2.1] (0+(s.2.2.2.2.2.2.2.toNat*1)) 0)))>(au ((List.getD [s.2.2.2.1,s.2.2.2.2.1,s.2.2.2.2.2.1] (0+(s.2.2.2.2.2.2.1.toNat*1)) 0)- (List.getD [s.1,s.2.1,s.2.2.1] (0+(s.2.2.2.2.2.2.1.toNat*1)) 0)))) then
 (Sum.inl (s.1,s.2.1,s.2.2.1,s.2.2.2.1,s.2.2.2.2.1,s.2.2.2.2.2.1,s.2.2.2.2.2.2.2,(au (s.2.2.2.2.2.2.2+1)))) else
 (Sum.inl (s.1,s.2.1,s.2.2.1,s.2.2.2.1,s.2.2.2.2.1,s.2.2.2.2.2.1,s.2.2.2.2.2.2.1,(au (s.2.2.2.2.2.2.2+1))))) else
 (Sum.inr (s.2.2.2.2.2.2.1)))
def ku (x:(I3×I3)) (s:(Int×Int×Int×Int×Int×I3)):Prop:=
 ((s.2.2.2.2.2.2.2<3)->
 (((0<=s.2.2.2.2.2.2.2)/\ (s.2.2.2.2.2.2.2<3))/\
 ((((0+(s.2.2.2.2.2.2.2.toNat*1))+1)<=3)/\
 (((0<=s.2.2.2.2.2.2.2)/\ (s.2.2.2.2.2.2.2<3))/\
 ((((0+(s.2.2.2.2.2.2.2.toNat*1))+1)<=3)/\
 (((0<=s.2.2.2.2.2.2.1)/\ (s.2.2.2.2.2.2.1<3))/\
 ((((0+(s.2.2.2.2.2.2.1.toNat*1))+1)<=3)/\
 (((0<=s.2.2.2.2.2.2.1)/\ (s.2.2.2.2.2.2.1<3))/\
 (((0+(s.2.2.2.2.2.2.1.toNat*1))+1)<=3)))))))))
def zC (x:(I3×I3)) (s:(Int×Int×Int×Int×Int×I3)):Tr ((Int×Int×Int×Int×Int×I3)⊕Int) true:=
 (.i10 (s.2.2.2.2.2.2.2<3)
 (.oR s.2.2.2.2.2.2.2 3
 (.od (((0+((tN s.2.2.2.2.2.2.2)*1))+1)<=3)
 (.oR s.2.2.2.2.2.2.2 3
 (.od (((0+((tN s.2.2.2.2.2.2.2)*1))+1)<=3)
 (.oR s.2.2.2.2.2.2.1 3
 (.od (((0+((tN s.2.2.2.2.2.2.1)*1))+1)<=3)
 (.oR s.2.2.2.2.2.2.1 3
 (.od (((0+((tN s.2.2.2.2.2.2.1)*1))+1)<=3)
 (.oq ((au ((List.getD [s.2.2.2.1,s.2.2.2.2.1,s.2.2.2.2.2.1] (0+((tN s.2.2.2.2.2.2.2)*1)) z0)- (List.getD [s.1,s.2.1,s.2.2.1] (0+((tN s.2.2.2.2.2.2.2)*1)) z0)))>(au ((List.getD [s.2.2.2.1,s.2.2.2.2.1,s.2.2.2.2.2.1] (0+((tN s.2.2.2.2.2.2.1)*1)) z0)- (List.getD [s.1,s.2.1,s.2.2.1] (0+((tN s.2.2.2.2.2.2.1)*1)) z0))))
 (.ret (.inl (s.1,s.2.1,s.2.2.1,s.2.2.2.1,s.2.2.2.2.1,s.2.2.2.2.2.1,s.2.2.2.2.2.2.2,(w1 s.2.2.2.2.2.2.2))))
 (.ret (.inl (s.1,s.2.1,s.2.2.1,s.2.2.2.1,s.2.2.2.2.1,s.2.2.2.2.2.1,s.2.2.2.2.2.2.1,(w1 s.2.2.2.2.2.2.2)))))))))))))
 (.ret (.inr (s.2.2.2.2.2.2.1))))
def m9 (x:(I3×I3)):I2:=
 (aj (qm x) fun y=>
 (if ((!y)=true) then
 (0,1) else
 (aj (parts x.1) fun aA=>
 (aj (parts x.2) fun y_2=>
 (aj (run (gq x) (aA.1,aA.2.1,aA.2.2,y_2.1,y_2.2.1,y_2.2.2,0,0)) fun r=>
 (r,0))))))
def mo (x:(I3×I3)):Prop:=
 ((oC x)/\
 aB (qm x) fun y=>
 (¬((!y)=true)->
 (aB (parts x.1) fun aA=>
 (aB (parts x.2) fun y_2=>
 (Term (gq x) (ku x) (aA.1,aA.2.1,aA.2.2,y_2.1,y_2.2.1,y_2.2.2,0,0))))))
def VZ (x:(I3×I3)):Tr I2 true:=
 (.fn qW x fun y=>
 (.kO (!y)
 (.ret (z0,z1))
 (.fn0 fW x.1 trivial fun aA=>
 (.fn0 fW x.2 trivial fun y_2=>
 (aL.lp (Fz x) (zC x) (aA.1,aA.2.1,aA.2.2,y_2.1,y_2.2.1,y_2.2.2,A2) fun r=>
 (.ret (r,z0)))))))
abbrev Bu:cf:=⟨(.agg (Ty.prod aO aO)),(.pair (.one yi) (.one yi)),mo,m9⟩
theorem Ro:ah Tryz.prog 178 (ak Bu):=ah.tr Bu VZ (fn:=Tryz.f178) az sF mixed (by kernel_rfl) (av.nil _ _) (fun x=>(ax.tr az (af.eA sF (av.nil _ _)) mixed 0 (Fz x) (zC x) ax.nil (by kernel_rfl) fun g s Q=>(by kernel_rfl))) (fun x=>(by kernel_rfl)) fun x Q=>(by kernel_rfl)
def Gv:List (Nat×Ev.Spec):=(178,ak Bu)::Kl
theorem qo:af Tryz.prog Gv:=af.add (fn:=Tryz.f178) (by kernel_rfl) Ro sF
def SL (x:(List I9×List Int)):aL:=⟨[],⟨dL 31 0 [(0,.v (.one (.full 0))),(4,.v (.one (.ptr 1 0))),(5,.v (.one (.full 2))),(11,.v (.one (.full 3))),(12,.v (.one (.i .i64))),(13,.v (.one (.i .i64)))],[.row ff 0,.cells [.i .i64,.i .i64,.i .i64,.i .i64,.i .i64,.i .i64] 194,.row aO 2,.row yi 0],0,none,[],[0,2,3,4,5,6,7,8,10],[9,1],[(.l aO),.i],[.i (x.2.length:Int),.l ff x.1,.i 0,.i 0,.i 0,.i 0,.i 0,.i 0,.l yi x.2]⟩,[⟨(.exit 0),.normal,⟨dL 31 0 [(4,.v (.one (.ptr 0 0))),(5,.v (.one (.full 1)))],[.cells [.i .i64,.i .i64,.i .i64,.i .i64,.i .i64,.i .i64] 194,.row aO 2],0,none,[],[0,1,2,3,4,5],[6],[(.l aO)],[.i 0,.i 0,.i 0,.i 0,.i 0,.i 0]⟩⟩]⟩
def iR (x:(List I9×List Int)) (s:(List I3×Int)):(List I3×Int)⊕(List I3):=
 (if (s.2<(x.2.length:Int)) then
 (Sum.inl ((s.1++ [(x.1.getD (Int.toNat (x.2.getD s.2.toNat 0)) ((0,0,0),(0,0,0),0,0,0)).1,(x.1.getD (Int.toNat (x.2.getD s.2.toNat 0)) ((0,0,0),(0,0,0),0,0,0)).2.1,(x.1.getD (Int.toNat (x.2.getD s.2.toNat 0)) ((0,0,0),(0,0,0),0,0,0)).2.2]),(au (s.2+1)))) else
 (Sum.inr (s.1)))
def oQ (x:(List I9×List Int)) (s:(List I3×Int)):Prop:=
 ((s.2<(x.2.length:Int))->
 (((0<=s.2)/\ (s.2<(x.2.length:Int)))/\
 ((s.2.toNat<x.2.length)/\
 ((s.2.toNat<x.2.length)/\
 (((0<=(x.2.getD s.2.toNat 0))/\ ((x.2.getD s.2.toNat 0)<(x.1.length:Int)))/\
 (((Int.toNat (x.2.getD s.2.toNat 0))<x.1.length)/\
 (((Int.toNat (x.2.getD s.2.toNat 0))<x.1.length)/\
 ((s.1.length+3)<1099511627776))))))))
def Iq (x:(List I9×List Int)) (s:(List I3×Int)):Tr ((List I3×Int)⊕(List I3)) true:=
 (.i10 (s.2<(nL x.2))
 (.nc s.2 x.2
 (.nc (gI x.2 s.2) x.1
 (.od ((s.1.length+3)<1099511627776)
 (.ret (.inl ((s.1++ [(gT x.1 (gI x.2 s.2) My).1,(gT x.1 (gI x.2 s.2) My).2.1,(gT x.1 (gI x.2 s.2) My).2.2]),(w1 s.2)))))))
 (.ret (.inr (s.1))))
def fO (x:(List I9×List Int)):(I3×I3):=
 (aj (run (iR x) ([],0)) fun r=>
 (aj (uU r) fun y=>
 y.1))
def qB (x:(List I9×List Int)):Prop:=
 (Term (iR x) (oQ x) ([],0)/\
 aB (run (iR x) ([],0)) fun r=>
 (sC r))
def afr (x:(List I9×List Int)):Tr (I3×I3) true:=
 (aL.lp (SL x) (Iq x) ([],z0) fun r=>
 (.fn z4 r fun y=>
 (.ret y.1)))
abbrev KZ:cf:=⟨(.pair (.one (Ty.sl ff)) (.one (Ty.sl yi))),(.agg (Ty.prod aO aO)),qB,fO⟩
theorem ab3:ah Tryz.prog 156 (ak KZ):=ah.tr KZ afr (fn:=Tryz.f156) az qo mixed (by kernel_rfl) (av.nil _ _) (fun x=>(ax.tr az (af.eA qo (av.nil _ _)) mixed 0 (SL x) (Iq x) ax.nil (by kernel_rfl) fun g s Q=>(by kernel_rfl))) (fun x=>(by kernel_rfl)) fun x Q=>(by kernel_rfl)
def z8:List (Nat×Ev.Spec):=(156,ak KZ)::Gv
theorem yj:af Tryz.prog z8:=af.add (fn:=Tryz.f156) (by kernel_rfl) ab3 qo
def sI (x:(List I9×List Int)):(List Int×List Int):=
 (aj (fO x) fun y=>
 (aj (m9 y) fun aA=>
 (aj (tw x.2) fun y_2=>
 (aj (Gc (y_2,x.1,aA.1)) fun bg=>
 ((List.take (Int.toNat (au (Int.tdiv (bg.2.1.length:Int) 2))) bg.2.1),(List.drop (Int.toNat (au (Int.tdiv (bg.2.1.length:Int) 2))) bg.2.1))))))
def jG (x:(List I9×List Int)):Prop:=
 ((qB x)/\
 aB (fO x) fun y=>
 ((mo y)/\
 aB (m9 y) fun aA=>
 ((kV x.2)/\
 aB (tw x.2) fun y_2=>
 ((qX (y_2,x.1,aA.1))/\
 aB (Gc (y_2,x.1,aA.1)) fun bg=>
 (((0<=(au (Int.tdiv (bg.2.1.length:Int) 2)))/\ ((au (Int.tdiv (bg.2.1.length:Int) 2))<=(bg.2.1.length:Int)))/\
 (((0<=(au (Int.tdiv (bg.2.1.length:Int) 2)))/\ ((au (Int.tdiv (bg.2.1.length:Int) 2))<=(((Int.toNat (au (Int.tdiv (bg.2.1.length:Int) 2))):Nat):Int)))/\
 ((0<=(au (Int.tdiv (bg.2.1.length:Int) 2)))/\ ((au (Int.tdiv (bg.2.1.length:Int) 2))<=(bg.2.1.length:Int)))))))))
theorem WM (x:(List I9×List Int)) (S:Nat->Prop) (Q:(List Int×List Int)->Prop):HB ⟨tt,z8,cy,[],[],[]⟩ Tryz.f158 (cY (.pair (.one (Ty.sl ff)) (.one (Ty.sl yi))) x) (dz (.pair (.one (Ty.sl ff)) (.one (Ty.sl yi))) x++ [.hide S]) (TJ (.pair (.one (Ty.sl yi)) (.one (Ty.sl yi))) S Q)=
 ((qB x)/\ ∀y:(I3×I3),y=(fO x)->
 ((mo y)/\ ∀aA:I2,aA=(m9 y)->
 ((kV x.2)/\ ∀y_2:(List Int),y_2=(tw x.2)->
 ((qX (y_2,x.1,aA.1))/\ ∀bg:(Bool×List Int×Bool),bg=(Gc (y_2,x.1,aA.1))->
 (ob ((decide ((0:Int)<=(au (Int.tdiv (bg.2.1.length:Int) (2:Int)))))&&(decide ((au (Int.tdiv (bg.2.1.length:Int) (2:Int)))<=(bg.2.1.length:Int))))
 (ob ((decide ((0:Int)<=(au (Int.tdiv (bg.2.1.length:Int) (2:Int)))))&&(decide ((au (Int.tdiv (bg.2.1.length:Int) (2:Int)))<=(((Int.toNat (au (Int.tdiv (bg.2.1.length:Int) (2:Int)))):Nat):Int))))
 (ob ((decide ((0:Int)<=(au (Int.tdiv (bg.2.1.length:Int) (2:Int)))))&&(decide ((au (Int.tdiv (bg.2.1.length:Int) (2:Int)))<=(bg.2.1.length:Int))))
 ((S=S)/\
 (Q ((List.take (Int.toNat (au (Int.tdiv (bg.2.1.length:Int) (2:Int)))) bg.2.1),(List.drop (Int.toNat (au (Int.tdiv (bg.2.1.length:Int) (2:Int)))) bg.2.1))))))))))):=by kernel_rfl
theorem WK (x:(List I9×List Int)) (S:Nat->Prop) (Q:(List Int×List Int)->Prop) (hp:jG x) (hq:Q (sI x)):Vc (HB ⟨tt,z8,cy,[],[],[]⟩ Tryz.f158 (cY (.pair (.one (Ty.sl ff)) (.one (Ty.sl yi))) x) (dz (.pair (.one (Ty.sl ff)) (.one (Ty.sl yi))) x++ [.hide S]) (TJ (.pair (.one (Ty.sl yi)) (.one (Ty.sl yi))) S Q)):= .eq (WM x S Q) (have hp:=Eq.mp (jG.eq_1 x) hp;have hq:=Eq.mp (congrArg Q (sI.eq_1 x)) hq;
 (And.intro hp.1 (Ti (Q:=Q) hp.2 hq fun y hp hq=>(And.intro hp.1 (Ti (Q:=Q) hp.2 hq fun aA hp hq=>(And.intro hp.1 (Ti (Q:=Q) hp.2 hq fun y_2 hp hq=>(And.intro hp.1 (Ti (Q:=Q) hp.2 hq fun bg hp hq=>(Oc (gh (decide_eq_true hp.1.1) (decide_eq_true hp.1.2)) (have hp:=hp.2;(Oc (gh (decide_eq_true hp.1.1) (decide_eq_true hp.1.2)) (have hp:=hp.2;(Oc (gh (decide_eq_true hp.1) (decide_eq_true hp.2)) (And.intro rfl hq)))))))))))))))
abbrev GQ:cf:=⟨(.pair (.one (Ty.sl ff)) (.one (Ty.sl yi))),(.pair (.one (Ty.sl yi)) (.one (Ty.sl yi))),jG,sI⟩
theorem WL:ah Tryz.prog 158 (Dw GQ):=ah.fnR (fn:=Tryz.f158) az yj mixed (by kernel_rfl) (by kernel_rfl) (.pair (.one (Ty.sl ff)) (.one (Ty.sl yi))) (.pair (.one (Ty.sl yi)) (.one (Ty.sl yi))) jG sI fun x hp S=>⟨_,_,(av.nil _ _),ax.nil,WK x S (fun y=>y=sI x) hp rfl⟩
def Kq:List (Nat×Ev.Spec):=(158,Dw GQ)::z8
theorem Mb:af Tryz.prog Kq:=af.add (fn:=Tryz.f158) (by kernel_rfl) WL yj
end Go.Proofs.YtngdehlpoomaiaaGreat
