/- Model of TreeLost. -/
import Derived.Test.YtaipcbdilkcdbaaUd
import Derived.Test.YtaipcbdilkcdbaaEvD8
noncomputable section
set_option linter.unusedSectionVars false
set_option linter.unusedVariables false
set_option linter.unusedSimpArgs false
namespace Go.Proofs.Ytaipcbdilkcdbaa
open Go Go.Ev Go.Proofs
set_option maxRecDepth 100000
def UO (x:(List Int)):(List Int):=
 ([]++x)
def Bv (x:(List Int)):Prop:=
 ((0+(List.length x))<1099511627776)
def UP (x:(List Int)):Tr (List Int) true:=
 (.od ((0+(List.length x))<1099511627776)
 (.ret ([]++x)))
abbrev Fs:jh:=⟨(.one (Ty.sl yi)),(.one (Ty.sl yi)),Bv,UO⟩
theorem R4:av Try.prog 29 (aH Fs):=av.tr Fs UP (fn:=Try.f29) aQ wR mixed (by kernel_rfl) (aD.nil _ _) (fun x=>aB.nil) (fun x=>(by kernel_rfl)) fun x Q=>(by kernel_rfl)
def Ld:List (Nat×Ev.Spec):=(29,aH Fs)::Ea
theorem uQ:ah Try.prog Ld:=ah.add (fn:=Try.f29) (by kernel_rfl) R4 wR
def KQ (x:(List ((I3×I3)×(Int×(Int×(List Int)))))):aS:=⟨[],⟨ej 37 0 [(0,.v (.one (.full 0))),(3,.v (.one (.full 1))),(4,.v (.one (.i .i64)))],[.row (Ty.prod (Ty.prod cr cr) (Ty.prod yi (Ty.prod yi (Ty.sl yi)))) 0,.row (Ty.prod (Ty.prod cr cr) (Ty.prod yi (Ty.prod yi (Ty.sl yi)))) 2],0,none,[],[1],[2,0],[(.l (Ty.prod (Ty.prod cr cr) (Ty.prod yi (Ty.prod yi (Ty.sl yi))))),.i],[.l (Ty.prod (Ty.prod cr cr) (Ty.prod yi (Ty.prod yi (Ty.sl yi)))) x]⟩,[⟨(.exit 0),.normal,⟨ej 37 0 [(3,.v (.one (.full 0)))],[.row (Ty.prod (Ty.prod cr cr) (Ty.prod yi (Ty.prod yi (Ty.sl yi)))) 2],0,none,[],[],[0],[(.l (Ty.prod (Ty.prod cr cr) (Ty.prod yi (Ty.prod yi (Ty.sl yi)))))],[]⟩⟩]⟩
def jS (x:(List ((I3×I3)×(Int×(Int×(List Int)))))) (s:((List ((I3×I3)×(Int×(Int×(List Int)))))×Int)):((List ((I3×I3)×(Int×(Int×(List Int)))))×Int)⊕(List ((I3×I3)×(Int×(Int×(List Int))))):=
 (if (s.2<(x.length:Int)) then
 (ai (UO (List.getD x (Int.toNat s.2) ((((0:Int),((0:Int),(0:Int))),((0:Int),((0:Int),(0:Int)))),((0:Int),((0:Int),[])))).2.2.2) fun y=>
 (Sum.inl ((s.1++ [((List.getD x (Int.toNat s.2) ((((0:Int),((0:Int),(0:Int))),((0:Int),((0:Int),(0:Int)))),((0:Int),((0:Int),[])))).1,((List.getD x (Int.toNat s.2) ((((0:Int),((0:Int),(0:Int))),((0:Int),((0:Int),(0:Int)))),((0:Int),((0:Int),[])))).2.1,((List.getD x (Int.toNat s.2) ((((0:Int),((0:Int),(0:Int))),((0:Int),((0:Int),(0:Int)))),((0:Int),((0:Int),[])))).2.2.1,y)))]),(ae (s.2+(1:Int)))))) else
 (Sum.inr (s.1)))
def n9 (x:(List ((I3×I3)×(Int×(Int×(List Int)))))) (s:((List ((I3×I3)×(Int×(Int×(List Int)))))×Int)):Prop:=
 ((s.2<(x.length:Int))->
 ((((0:Int)<=s.2)/\ (s.2<(x.length:Int)))/\
 (((Int.toNat s.2)<(List.length x))/\
 (((Int.toNat s.2)<(List.length x))/\
 (((Int.toNat s.2)<(List.length x))/\
 ((((0:Int)<=s.2)/\ (s.2<(x.length:Int)))/\
 (((Int.toNat s.2)<(List.length x))/\
 (((Int.toNat s.2)<(List.length x))/\
 (((Int.toNat s.2)<(List.length x))/\
 ((((0:Int)<=s.2)/\ (s.2<(x.length:Int)))/\
 (((Int.toNat s.2)<(List.length x))/\
 (((Int.toNat s.2)<(List.length x))/\
 (((Int.toNat s.2)<(List.length x))/\
 ((((0:Int)<=s.2)/\ (s.2<(x.length:Int)))/\
 (((Int.toNat s.2)<(List.length x))/\
 (((Int.toNat s.2)<(List.length x))/\
 (((Int.toNat s.2)<(List.length x))/\
 ((Bv (List.getD x (Int.toNat s.2) ((((0:Int),((0:Int),(0:Int))),((0:Int),((0:Int),(0:Int)))),((0:Int),((0:Int),[])))).2.2.2)/\
 ay (UO (List.getD x (Int.toNat s.2) ((((0:Int),((0:Int),(0:Int))),((0:Int),((0:Int),(0:Int)))),((0:Int),((0:Int),[])))).2.2.2) fun y=>
 (((List.length s.1)+1)<1099511627776)))))))))))))))))))
def DG (x:(List ((I3×I3)×(Int×(Int×(List Int)))))) (s:((List ((I3×I3)×(Int×(Int×(List Int)))))×Int)):Tr (((List ((I3×I3)×(Int×(Int×(List Int)))))×Int)⊕(List ((I3×I3)×(Int×(Int×(List Int)))))) true:=
 (.i10 (s.2<(nL x))
 (.UK s.2 x
 (.UK s.2 x
 (.UK s.2 x
 (.UK s.2 x
 (.fn Fs (gT x s.2 ((bp,bp),(z0,(z0,[])))).2.2.2 fun y=>
 (.od (((List.length s.1)+1)<1099511627776)
 (.ret (.inl ((s.1++ [((gT x s.2 ((bp,bp),(z0,(z0,[])))).1,((gT x s.2 ((bp,bp),(z0,(z0,[])))).2.1,((gT x s.2 ((bp,bp),(z0,(z0,[])))).2.2.1,y)))]),(w1 s.2))))))))))
 (.ret (.inr (s.1))))
def pB (x:(List ((I3×I3)×(Int×(Int×(List Int)))))):(List ((I3×I3)×(Int×(Int×(List Int))))):=
 (ai (run (jS x) ([],(0:Int))) fun r=>
 r)
def Bw (x:(List ((I3×I3)×(Int×(Int×(List Int)))))):Prop:=
 (Term (jS x) (n9 x) ([],(0:Int)))
def UQ (x:(List ((I3×I3)×(Int×(Int×(List Int)))))):Tr (List ((I3×I3)×(Int×(Int×(List Int))))) true:=
 (aS.lp (KQ x) (DG x) ([],z0) fun r=>
 (.ret r))
abbrev xU:jh:=⟨(.one (Ty.sl (Ty.prod (Ty.prod cr cr) (Ty.prod yi (Ty.prod yi (Ty.sl yi)))))),(.one (Ty.sl (Ty.prod (Ty.prod cr cr) (Ty.prod yi (Ty.prod yi (Ty.sl yi)))))),Bw,pB⟩
theorem KR:av Try.prog 12 (aH xU):=av.tr xU UQ (fn:=Try.f12) aQ uQ mixed (by kernel_rfl) (aD.nil _ _) (fun x=>(aB.tr aQ (ah.fe uQ (aD.nil _ _)) mixed 0 (KQ x) (DG x) aB.nil (by kernel_rfl) fun g s Q=>(by kernel_rfl))) (fun x=>(by kernel_rfl)) fun x Q=>(by kernel_rfl)
def Le:List (Nat×Ev.Spec):=(12,aH xU)::Ld
theorem JS:ah Try.prog Le:=ah.add (fn:=Try.f12) (by kernel_rfl) KR uQ
theorem N0:av Try.prog 12 (vg xU 0 true):=F8 KR rfl fun x=>⟨_,rfl⟩
def Qn:List (Nat×Ev.Spec):=(12,(vg xU 0 true))::Le
theorem HE:ah Try.prog Qn:=ah.add (fn:=Try.f12) (by kernel_rfl) N0 JS
def mz (x:((List I9)×Int)):Bool:=
 (if ((x.1.length:Int)>(20:Int)) then
 true else
 (if ((x.1.length:Int)<(2:Int)) then
 true else
 (ai (qW x.1) fun y=>
 (if ((y.2 !=(0:Int))=true) then
 (ai (oE false) fun aq=>
 aq) else
 (if (x.2<(0:Int)) then
 (ai (oE false) fun aq=>
 aq) else
 (if (x.2>=(y.1.length:Int)) then
 (ai (oE false) fun aq=>
 aq) else
 (ai (pB y.1) fun aq=>
 (if (((List.getD aq (Int.toNat x.2) ((((0:Int),((0:Int),(0:Int))),((0:Int),((0:Int),(0:Int)))),((0:Int),((0:Int),[])))).2.2.2.length:Int)>(0:Int)) then
 (ai (List.set aq (Int.toNat x.2) ((List.getD aq (Int.toNat x.2) ((((0:Int),((0:Int),(0:Int))),((0:Int),((0:Int),(0:Int)))),((0:Int),((0:Int),[])))).1,((List.getD aq (Int.toNat x.2) ((((0:Int),((0:Int),(0:Int))),((0:Int),((0:Int),(0:Int)))),((0:Int),((0:Int),[])))).2.1,((List.getD aq (Int.toNat x.2) ((((0:Int),((0:Int),(0:Int))),((0:Int),((0:Int),(0:Int)))),((0:Int),((0:Int),[])))).2.2.1,(List.set (List.getD aq (Int.toNat x.2) ((((0:Int),((0:Int),(0:Int))),((0:Int),((0:Int),(0:Int)))),((0:Int),((0:Int),[])))).2.2.2 0 (Int.tmod (ae ((List.getD (List.getD aq (Int.toNat x.2) ((((0:Int),((0:Int),(0:Int))),((0:Int),((0:Int),(0:Int)))),((0:Int),((0:Int),[])))).2.2.2 0 (0:Int))+(1:Int))) (x.1.length:Int))))))) fun y_2=>
 (ai (oE false) fun au=>
 (if (au=true) then
 (ai (E6 (y_2,x.1)) fun aR=>
 (if ((!aR)=true) then
 (ai (E6 (y.1,x.1)) fun cA=>
 cA) else
 false)) else
 false))) else
 (ai (oE false) fun y_2=>
 (if (y_2=true) then
 (ai (E6 ((List.take (Int.toNat (ae ((y.1.length:Int)- (1:Int)))) y.1),x.1)) fun au=>
 (if ((!au)=true) then
 (ai (E6 (y.1,x.1)) fun aR=>
 aR) else
 false)) else
 false))))))))))
def eS (x:((List I9)×Int)):Prop:=
 (¬((x.1.length:Int)>(20:Int))->
 (¬((x.1.length:Int)<(2:Int))->
 ((mR x.1)/\
 ay (qW x.1) fun y=>
 ((((y.2 !=(0:Int))=true)->
 (gS false))/\
 (¬((y.2 !=(0:Int))=true)->
 (((x.2<(0:Int))->
 (gS false))/\
 (¬(x.2<(0:Int))->
 (((x.2>=(y.1.length:Int))->
 (gS false))/\
 (¬(x.2>=(y.1.length:Int))->
 ((Bw y.1)/\
 ay (pB y.1) fun aq=>
 ((((0:Int)<=x.2)/\ (x.2<(aq.length:Int)))/\
 (((Int.toNat x.2)<(List.length aq))/\
 (((Int.toNat x.2)<(List.length aq))/\
 (((Int.toNat x.2)<(List.length aq))/\
 (((Int.toNat x.2)<(List.length aq))/\
 (((((List.getD aq (Int.toNat x.2) ((((0:Int),((0:Int),(0:Int))),((0:Int),((0:Int),(0:Int)))),((0:Int),((0:Int),[])))).2.2.2.length:Int)>(0:Int))->
 ((((0:Int)<=x.2)/\ (x.2<(aq.length:Int)))/\
 (((Int.toNat x.2)<(List.length aq))/\
 (((Int.toNat x.2)<(List.length aq))/\
 (((Int.toNat x.2)<(List.length aq))/\
 ((((0:Int)<=x.2)/\ (x.2<(aq.length:Int)))/\
 (((Int.toNat x.2)<(List.length aq))/\
 (((Int.toNat x.2)<(List.length aq))/\
 (((Int.toNat x.2)<(List.length aq))/\
 (((Int.toNat x.2)<(List.length aq))/\
 (((0:Int)<((List.getD aq (Int.toNat x.2) ((((0:Int),((0:Int),(0:Int))),((0:Int),((0:Int),(0:Int)))),((0:Int),((0:Int),[])))).2.2.2.length:Int))/\
 (((Int.toNat x.2)<(List.length aq))/\
 ((0<(List.length (List.getD aq (Int.toNat x.2) ((((0:Int),((0:Int),(0:Int))),((0:Int),((0:Int),(0:Int)))),((0:Int),((0:Int),[])))).2.2.2))/\
 (((x.1.length:Int)≠(0:Int))/\
 (((Int.toNat x.2)<(List.length aq))/\
 (((0:Int)<((List.getD aq (Int.toNat x.2) ((((0:Int),((0:Int),(0:Int))),((0:Int),((0:Int),(0:Int)))),((0:Int),((0:Int),[])))).2.2.2.length:Int))/\
 (((Int.toNat x.2)<(List.length aq))/\
 ((0<(List.length (List.getD aq (Int.toNat x.2) ((((0:Int),((0:Int),(0:Int))),((0:Int),((0:Int),(0:Int)))),((0:Int),((0:Int),[])))).2.2.2))/\
 ((List.Nodup (vU (((yi.prod (yi.prod yi)).prod (yi.prod (yi.prod yi))).prod (yi.prod (yi.prod yi.sl))) aq))/\
 ay (List.set aq (Int.toNat x.2) ((List.getD aq (Int.toNat x.2) ((((0:Int),((0:Int),(0:Int))),((0:Int),((0:Int),(0:Int)))),((0:Int),((0:Int),[])))).1,((List.getD aq (Int.toNat x.2) ((((0:Int),((0:Int),(0:Int))),((0:Int),((0:Int),(0:Int)))),((0:Int),((0:Int),[])))).2.1,((List.getD aq (Int.toNat x.2) ((((0:Int),((0:Int),(0:Int))),((0:Int),((0:Int),(0:Int)))),((0:Int),((0:Int),[])))).2.2.1,(List.set (List.getD aq (Int.toNat x.2) ((((0:Int),((0:Int),(0:Int))),((0:Int),((0:Int),(0:Int)))),((0:Int),((0:Int),[])))).2.2.2 0 (Int.tmod (ae ((List.getD (List.getD aq (Int.toNat x.2) ((((0:Int),((0:Int),(0:Int))),((0:Int),((0:Int),(0:Int)))),((0:Int),((0:Int),[])))).2.2.2 0 (0:Int))+(1:Int))) (x.1.length:Int))))))) fun y_2=>
 ((gS false)/\
 ay (oE false) fun au=>
 ((au=true)->
 ((fN (y_2,x.1))/\
 ay (E6 (y_2,x.1)) fun aR=>
 (((!aR)=true)->
 (fN (y.1,x.1)))))))))))))))))))))))))/\
 (¬(((List.getD aq (Int.toNat x.2) ((((0:Int),((0:Int),(0:Int))),((0:Int),((0:Int),(0:Int)))),((0:Int),((0:Int),[])))).2.2.2.length:Int)>(0:Int))->
 ((gS false)/\
 ay (oE false) fun y_2=>
 ((y_2=true)->
 ((((0:Int)<=(ae ((y.1.length:Int)- (1:Int))))/\ ((ae ((y.1.length:Int)- (1:Int)))<=(y.1.length:Int)))/\
 ((fN ((List.take (Int.toNat (ae ((y.1.length:Int)- (1:Int)))) y.1),x.1))/\
 ay (E6 ((List.take (Int.toNat (ae ((y.1.length:Int)- (1:Int)))) y.1),x.1)) fun au=>
 (((!au)=true)->
 (fN (y.1,x.1))))))))))))))))))))))))
def Mu (x:((List I9)×Int)):Tr Bool true:=
 (.Ja ((nL x.1)>(20:Int))
 (.ret true)
 (.Ja ((nL x.1)<(2:Int))
 (.ret true)
 (.fn qX x.1 fun y=>
 (.u5 (y.2 !=z0)
 (.fn lH false fun aq=>
 (.ret aq))
 (.i11 (x.2<z0)
 (.fn lH false fun aq=>
 (.ret aq))
 (.i11 (x.2>=(nL y.1))
 (.fn lH false fun aq=>
 (.ret aq))
 (.fn xU y.1 fun aq=>
 (.UK x.2 aq
 (.od ((tN x.2)<(List.length aq))
 (.i11 ((nL (gT aq x.2 ((bp,bp),(z0,(z0,[])))).2.2.2)>z0)
 (.UK x.2 aq
 (.UK x.2 aq
 (.od ((tN x.2)<(List.length aq))
 (.og (true&&(decide (z0<(nL (gT aq x.2 ((bp,bp),(z0,(z0,[])))).2.2.2)))) (z0<(nL (gT aq x.2 ((bp,bp),(z0,(z0,[])))).2.2.2)) (fun h=>(cj rfl (decide_eq_true h)))
 (.od ((tN x.2)<(List.length aq))
 (.od (0<(List.length (gT aq x.2 ((bp,bp),(z0,(z0,[])))).2.2.2))
 (.od ((nL x.1)≠z0)
 (.od ((tN x.2)<(List.length aq))
 (.og (true&&(decide (z0<(nL (gT aq x.2 ((bp,bp),(z0,(z0,[])))).2.2.2)))) (z0<(nL (gT aq x.2 ((bp,bp),(z0,(z0,[])))).2.2.2)) (fun h=>(cj rfl (decide_eq_true h)))
 (.od ((tN x.2)<(List.length aq))
 (.od (0<(List.length (gT aq x.2 ((bp,bp),(z0,(z0,[])))).2.2.2))
 (.call (List.Nodup (vU (((yi.prod (yi.prod yi)).prod (yi.prod (yi.prod yi))).prod (yi.prod (yi.prod yi.sl))) aq)) (List.set aq (tN x.2) ((gT aq x.2 ((bp,bp),(z0,(z0,[])))).1,((gT aq x.2 ((bp,bp),(z0,(z0,[])))).2.1,((gT aq x.2 ((bp,bp),(z0,(z0,[])))).2.2.1,(List.set (gT aq x.2 ((bp,bp),(z0,(z0,[])))).2.2.2 0 (Int.tmod (w1 (List.getD (gT aq x.2 ((bp,bp),(z0,(z0,[])))).2.2.2 0 z0)) (nL x.1))))))) fun y_2=>
 (.fn lH false fun au=>
 (.FI au
 (.fn vK (y_2,x.1) fun aR=>
 (.FI (!aR)
 (.fn vK (y.1,x.1) fun cA=>
 (.ret cA))
 (.ret false)))
 (.ret false)))))))))))))))
 (.fn lH false fun y_2=>
 (.FI y_2
 (.og ((decide (z0<=(wm (nL y.1))))&&(decide ((wm (nL y.1))<=(nL y.1)))) ((z0<=(wm (nL y.1)))/\ ((wm (nL y.1))<=(nL y.1))) (fun h=>(cj (decide_eq_true h.1) (decide_eq_true h.2)))
 (.fn vK ((List.take (tN (wm (nL y.1))) y.1),x.1) fun au=>
 (.FI (!au)
 (.fn vK (y.1,x.1) fun aR=>
 (.ret aR))
 (.ret false))))
 (.ret false)))))))))))))
abbrev xN:jh:=⟨(.pair (.one (Ty.sl cH)) (.one yi)),(.one Ty.bool),eS,mz⟩
theorem Jp:av Try.prog 5 (aH xN):=av.tr xN Mu (fn:=Try.f5) aQ HE mixed (by kernel_rfl) (aD.nil _ _) (fun x=>aB.nil) (fun x=>(by kernel_rfl)) fun x Q=>(by kernel_rfl)
end Go.Proofs.Ytaipcbdilkcdbaa
