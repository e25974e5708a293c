/- Models of functions of layer 22: a walk. -/
import Derived.Test.YtngdehlpoomaiaaGreatSb
import Derived.Test.YtngdehlpoomaiaaGreatTq
import Derived.Test.YtngdehlpoomaiaaGreatTp
noncomputable section
set_option linter.unusedSectionVars false
set_option linter.unusedVariables false
set_option linter.unusedSimpArgs false
namespace Go.Proofs.YtngdehlpoomaiaaGreat
open Go Go.Ev Go.Proofs
abbrev nP:Type:=(List Int×List ((I3×I3)×Int×Int×List Int)×List I9×I3×I3)
abbrev Ur:Type:=((List ((I3×I3)×Int×Int×List Int)×List I9×I3×I3)×Int)
abbrev nQ:Type:=(List ((I3×I3)×Int×Int×List Int)×List I9×I3×I3)
abbrev atb:Ty:= .prod (.sl (.prod (.prod (.prod (.int .i64) (.prod (.int .i64) (.int .i64))) (.prod (.int .i64) (.prod (.int .i64) (.int .i64)))) (.prod (.int .i64) (.prod (.int .i64) (.sl (.int .i64)))))) (.prod (.sl (.prod (.prod (.int .i64) (.prod (.int .i64) (.int .i64))) (.prod (.prod (.int .i64) (.prod (.int .i64) (.int .i64))) (.prod (.int .i64) (.prod (.int .i64) (.int .i64)))))) (.prod (.prod (.int .i64) (.prod (.int .i64) (.int .i64))) (.prod (.int .i64) (.prod (.int .i64) (.int .i64)))))
def Pt (x:Ur):Bool:=
 (ak (aim (x.1.2.2.1,x.1.2.2.2,(x.1.2.1.getD x.2.toNat ((0,0,0),(0,0,0),0,0,0)))) fun y=>
 y.1)
def z9 (x:Ur):Prop:=
 (((0<=x.2)/\ (x.2<(x.1.2.1.length:Int)))/\
 ((x.2.toNat<x.1.2.1.length)/\
 ((x.2.toNat<x.1.2.1.length)/\
 (Dm (x.1.2.2.1,x.1.2.2.2,(x.1.2.1.getD x.2.toNat ((0,0,0),(0,0,0),0,0,0)))))))
def amx (x:Ur):Tr Bool true:=
 (.A7 x.2 x.1.2.1
 (.fn SO (x.1.2.2.1,x.1.2.2.2,(gT x.1.2.1 x.2 Ju)) fun y=>
 (.ret y.1)))
abbrev JM:bF:=⟨(.pair (.agg (Ty.prod (Ty.sl (Ty.prod (Ty.prod aG aG) (Ty.prod yi (Ty.prod yi (Ty.sl yi))))) (Ty.prod (Ty.sl cO) (Ty.prod aG aG)))) (.one yi)),(.one Ty.bool),z9,Pt⟩
theorem ain:aq Tryz.prog 153 (ah JM):=aM JM amx (fn:=Tryz.f153) MW
def XI:List (Nat×Ev.Spec):=(153,ah JM)::ac7
theorem y6:aj Tryz.prog XI:=aA (fn:=Tryz.f153) ain MW
def PI (x:nP):aI:=⟨[],⟨cj 19 0 [(0,.v (.one (.full 0))),(1,.v (.one (.mv 153 true [.full 1,.full 2,.ext,.ext,.ext,.ext,.ext,.ext]))),(7,.v (.one (.i .i64))),(8,.v (.one (.i .i64)))],[.row yi 0,.row (Ty.prod (Ty.prod aG aG) (Ty.prod yi (Ty.prod yi (Ty.sl yi)))) 0,.row cO 0],0,none,[],[0,1,2,3,4,5,6,8,9,10],[7],[.i],[.v (.int .i64 x.2.2.2.1.1),.v (.int .i64 x.2.2.2.1.2.1),.v (.int .i64 x.2.2.2.1.2.2),.v (.int .i64 x.2.2.2.2.1),.v (.int .i64 x.2.2.2.2.2.1),.v (.int .i64 x.2.2.2.2.2.2),.i (x.1.length:Int),.l yi x.1,.l (Ty.prod (Ty.prod aG aG) (Ty.prod yi (Ty.prod yi (Ty.sl yi)))) x.2.1,.l cO x.2.2.1]⟩,[⟨.ret,.ret,⟨cj 19 0 [(4,.v (.one (.i .i64)))],[],0,none,[],[],[0],[.i],[]⟩⟩,⟨(.exit 0),.normal,⟨cj 19 0 [],[],0,none,[],[],[],[],[]⟩⟩]⟩
def jw (x:nP) (s:Int):Int⊕(Int⊕Unit):=
 (if (s<(x.1.length:Int)) then
 (ak (Pt (x.2,(x.1.getD s.toNat 0))) fun y=>
 (if (y=true) then
 (Sum.inr (Sum.inl s)) else
 (Sum.inl (au (s+1))))) else
 (Sum.inr (Sum.inr (()))))
def sW (x:nP) (s:Int):Prop:=
 ((s<(x.1.length:Int))->
 (((0<=s)/\ (s<(x.1.length:Int)))/\
 ((s.toNat<x.1.length)/\
 ((s.toNat<x.1.length)/\
 (z9 (x.2,(x.1.getD s.toNat 0)))))))
def Hz (x:nP) (s:Int):Tr (Int⊕(Int⊕Unit)) true:=
 (.i10 (s<(nL x.1))
 (.A7 s x.1
 (.fn JM (x.2,(gI x.1 s)) fun y=>
 (.iY y
 (.ret (.inr (Sum.inl s)))
 (.ret (.inl (w1 s))))))
 (.ret (.inr (Sum.inr (())))))
def ZE (x:nP):Int:=
 (ak (run (jw x) 0) fun r=>
 (Sum.elim (fun a=>
 a) (fun b=>
 (-1)) r))
def LG (x:nP):Prop:=
 (Term (jw x) (sW x) 0)
def aiG (x:nP):Tr Int true:=
 (aI.lp (PI x) (Hz x) z0 fun r=>
 (.Jr r (fun a=>
 (.ret a)) (fun b=>
 (.ret (-1)))))
abbrev Du:bF:=⟨(.pair (.one (Ty.sl yi)) (.mv 153 true atb)),(.one yi),LG,ZE⟩
theorem aeE:aq Tryz.prog 173 (ah Du):=bS Du aiG (fn:=Tryz.f173) y6 (aH.nil _ _) (fun x=>(bX y6 0 (PI x) (Hz x) aK.nil))
def Ra:List (Nat×Ev.Spec):=(173,ah Du)::XI
theorem EN:aj Tryz.prog Ra:=aA (fn:=Tryz.f173) aeE y6
def zL (x:nP):Bool:=
 (ak (ZE x) fun y=>
 (decide (y>=0)))
def sN (x:nP):Prop:=
 (LG x)
def Vh (x:nP):Tr Bool true:=
 (.fn Du x fun y=>
 (.ret (decide (y>=z0))))
abbrev rM:bF:=⟨(.pair (.one (Ty.sl yi)) (.mv 153 true atb)),(.one Ty.bool),sN,zL⟩
theorem Sk:aq Tryz.prog 152 (ah rM):=aM rM Vh (fn:=Tryz.f152) EN
def EE:List (Nat×Ev.Spec):=(152,ah rM)::Ra
theorem oS:aj Tryz.prog EE:=aA (fn:=Tryz.f152) Sk EN
def Yw (x:nQ):aI:=⟨[],⟨cj 61 0 [(1,.v (.one (.ptr 0 0))),(4,.v (.one (.i .i64))),(5,.v (.one (.full 3)))],[.cells [.full 1,.full 2,.i .i64,.i .i64,.i .i64,.i .i64,.i .i64,.i .i64] 181,.row (Ty.prod (Ty.prod aG aG) (Ty.prod yi (Ty.prod yi (Ty.sl yi)))) 0,.row cO 0,.row yi 3],0,none,[],[1,2,3,4,5,6,7,8],[0,9],[.i,(.l yi)],[.i x.2.2.1.1,.i x.2.2.1.2.1,.i x.2.2.1.2.2,.i x.2.2.2.1,.i x.2.2.2.2.1,.i x.2.2.2.2.2,.l (Ty.prod (Ty.prod aG aG) (Ty.prod yi (Ty.prod yi (Ty.sl yi)))) x.1,.l cO x.2.1]⟩,[⟨.ret,.ret,⟨cj 61 0 [(2,.v (.one (.b))),(3,.v (.one (.i .i64)))],[],0,none,[],[0],[1],[.i],[.b true]⟩⟩,⟨(.exit 0),.normal,⟨cj 61 0 [(4,.v (.one (.i .i64)))],[],0,none,[],[],[0],[.i],[]⟩⟩]⟩
def kV (x:nQ) (s:(Int×List Int)):Tr ((Int×List Int)⊕(Int⊕Int)) true:=
 (.i10 ((s.2.length:Int)>0)
 (.oR (au ((s.2.length:Int)- 1)) (s.2.length:Int)
 (.od ((Int.toNat (au ((s.2.length:Int)- 1)))<s.2.length)
 (.od ((Int.toNat (au ((s.2.length:Int)- 1)))<s.2.length)
 (.oR (s.2.getD (Int.toNat (au ((s.2.length:Int)- 1))) 0) (x.1.length:Int)
 (.od ((Int.toNat (s.2.getD (Int.toNat (au ((s.2.length:Int)- 1))) 0))<x.1.length)
 (.od ((Int.toNat (s.2.getD (Int.toNat (au ((s.2.length:Int)- 1))) 0))<x.1.length)
 (.og ((decide (0<=(au ((s.2.length:Int)- 1))))&&(decide ((au ((s.2.length:Int)- 1))<=(s.2.length:Int)))) ((0<=(au ((s.2.length:Int)- 1)))/\ ((au ((s.2.length:Int)- 1))<=(s.2.length:Int))) (fun h=>(iu (decide_eq_true h.1) (decide_eq_true h.2)))
 (.fn DJ (x.2.2.1,x.2.2.2,(x.1.getD (Int.toNat (s.2.getD (Int.toNat (au ((s.2.length:Int)- 1))) 0)) ((bn,bn),0,0,[])).1) fun y=>
 (.gG (!y.1)
 (.ret (.inl ((au (s.1+1)),(List.take (Int.toNat (au ((s.2.length:Int)- 1))) s.2))))
 (.b11 ((x.1.getD (Int.toNat (s.2.getD (Int.toNat (au ((s.2.length:Int)- 1))) 0)) ((bn,bn),0,0,[])).2.1==0)
 (.fn rM ((x.1.getD (Int.toNat (s.2.getD (Int.toNat (au ((s.2.length:Int)- 1))) 0)) ((bn,bn),0,0,[])).2.2.2,x) fun aB=>
 (.iY aB
 (.ret (.inr (Sum.inl (au (s.1+1)))))
 (.ret (.inl ((au (s.1+1)),(List.take (Int.toNat (au ((s.2.length:Int)- 1))) s.2))))))
 (.od (((List.length (List.take (Int.toNat (au ((s.2.length:Int)- 1))) s.2))+2)<1099511627776)
 (.ret (.inl ((au (s.1+1)),((List.take (Int.toNat (au ((s.2.length:Int)- 1))) s.2)++ [(x.1.getD (Int.toNat (s.2.getD (Int.toNat (au ((s.2.length:Int)- 1))) 0)) ((bn,bn),0,0,[])).2.2.1,(x.1.getD (Int.toNat (s.2.getD (Int.toNat (au ((s.2.length:Int)- 1))) 0)) ((bn,bn),0,0,[])).2.1])))))))))))))))
 (.ret (.inr (Sum.inr (s.1)))))
abbrev cW (x:nQ) (s:(Int×List Int)):(Int×List Int)⊕(Int⊕Int):=(kV x s).val
abbrev ij (x:nQ) (s:(Int×List Int)):Prop:=(kV x s).pre
def akO (x:nQ):(Bool×Int):=
 (ak (run (cW x) (0,[0])) fun r=>
 (Sum.elim (fun a=>
 (true,a)) (fun b=>
 (false,b)) r))
def RP (x:nQ):Prop:=
 (Term (cW x) (ij x) (0,[0]))
def anR (x:nQ):Tr (Bool×Int) true:=
 (aI.lp (Yw x) (kV x) (z0,[z0]) fun r=>
 (.Jr r (fun a=>
 (.ret (true,a))) (fun b=>
 (.ret (false,b)))))
abbrev Kf:bF:=⟨(.agg (Ty.prod (Ty.sl (Ty.prod (Ty.prod aG aG) (Ty.prod yi (Ty.prod yi (Ty.sl yi))))) (Ty.prod (Ty.sl cO) (Ty.prod aG aG)))),(.pair (.one Ty.bool) (.one yi)),RP,akO⟩
theorem akP:aq Tryz.prog 138 (ah Kf):=bS Kf anR (fn:=Tryz.f138) oS (aH.nil _ _) (fun x=>(bX oS 0 (Yw x) (kV x) aK.nil))
def X5:List (Nat×Ev.Spec):=(138,ah Kf)::EE
theorem IW:aj Tryz.prog X5:=aA (fn:=Tryz.f138) akP oS
def aea (x:I9):Bool:=
 (ak (oP [x.1,x.2.1,x.2.2]) fun y=>
 (!y))
def La (x:I9):Prop:=
 (hO [x.1,x.2.1,x.2.2])
def apc (x:I9):Tr Bool true:=
 (.fn eN [x.1,x.2.1,x.2.2] fun y=>
 (.ret (!y)))
abbrev Ss:bF:=⟨(.agg cO),(.one Ty.bool),La,aea⟩
theorem al3:aq Tryz.prog 136 (ah Ss):=aM Ss apc (fn:=Tryz.f136) IW
def acZ:List (Nat×Ev.Spec):=(136,ah Ss)::X5
theorem CD:aj Tryz.prog acZ:=aA (fn:=Tryz.f136) al3 IW
def PB (x:(List I9×Bool)):aI:=⟨[],⟨cj 19 0 [(0,.v (.one (.full 0))),(1,.v (.one (.jO 136 0 []))),(7,.v (.one (.i .i64))),(8,.v (.one (.i .i64)))],[.row cO 0],0,none,[],[0,2],[1],[.i],[.i (x.1.length:Int),.l cO x.1]⟩,[⟨.ret,.ret,⟨cj 19 0 [(4,.v (.one (.i .i64)))],[],0,none,[],[],[0],[.i],[]⟩⟩,⟨(.exit 0),.normal,⟨cj 19 0 [],[],0,none,[],[],[],[],[]⟩⟩]⟩
def jt (x:(List I9×Bool)) (s:Int):Int⊕(Int⊕Unit):=
 (if (s<(x.1.length:Int)) then
 (ak (aea (x.1.getD s.toNat ((0,0,0),(0,0,0),0,0,0))) fun y=>
 (if (y=true) then
 (Sum.inr (Sum.inl s)) else
 (Sum.inl (au (s+1))))) else
 (Sum.inr (Sum.inr (()))))
def sS (x:(List I9×Bool)) (s:Int):Prop:=
 ((s<(x.1.length:Int))->
 (((0<=s)/\ (s<(x.1.length:Int)))/\
 ((s.toNat<x.1.length)/\
 ((s.toNat<x.1.length)/\
 (La (x.1.getD s.toNat ((0,0,0),(0,0,0),0,0,0)))))))
def Hw (x:(List I9×Bool)) (s:Int):Tr (Int⊕(Int⊕Unit)) true:=
 (.i10 (s<(nL x.1))
 (.A7 s x.1
 (.fn Ss (gT x.1 s Ju) fun y=>
 (.iY y
 (.ret (.inr (Sum.inl s)))
 (.ret (.inl (w1 s))))))
 (.ret (.inr (Sum.inr (())))))
def ZB (x:(List I9×Bool)):Int:=
 (ak (run (jt x) 0) fun r=>
 (Sum.elim (fun a=>
 a) (fun b=>
 (-1)) r))
def LC (x:(List I9×Bool)):Prop:=
 (Term (jt x) (sS x) 0)
def aiB (x:(List I9×Bool)):Tr Int true:=
 (aI.lp (PB x) (Hw x) z0 fun r=>
 (.Jr r (fun a=>
 (.ret a)) (fun b=>
 (.ret (-1)))))
abbrev xY:bF:=⟨(.pair (.one (Ty.sl cO)) (.jO 136 .none)),(.one yi),LC,ZB⟩
theorem PD:aq Tryz.prog 59 (ah xY):=bS xY aiB (fn:=Tryz.f59) CD (aH.nil _ _) (fun x=>(bX CD 0 (PB x) (Hw x) aK.nil))
def Q6:List (Nat×Ev.Spec):=(59,ah xY)::acZ
theorem EJ:aj Tryz.prog Q6:=aA (fn:=Tryz.f59) PD CD
def tK (x:(List I9×Bool)):Bool:=
 (ak (ZB (x.1,false)) fun y=>
 (decide (y>=0)))
def AX (x:(List I9×Bool)):Prop:=
 (LC (x.1,false))
def Vd (x:(List I9×Bool)):Tr Bool true:=
 (.fn xY (x.1,false) fun y=>
 (.ret (decide (y>=z0))))
abbrev nZ:bF:=⟨(.pair (.one (Ty.sl cO)) (.jO 136 .none)),(.one Ty.bool),AX,tK⟩
theorem C4:aq Tryz.prog 27 (ah nZ):=aM nZ Vd (fn:=Tryz.f27) EJ
def EA:List (Nat×Ev.Spec):=(27,ah nZ)::Q6
theorem wL:aj Tryz.prog EA:=aA (fn:=Tryz.f27) C4 EJ
def Kg (x:nQ):Tr (Bool×I2) true:=
 (.fn aco (x.1,x.2.1) fun y=>
 (.gG (!y)
 (.ret (false,0,1))
 (.fn eN [x.2.2.1,x.2.2.2] fun aB=>
 (.gG (!aB)
 (.ret (false,0,5))
 (.fn nZ (x.2.1,false) fun y_2=>
 (.gG y_2
 (.ret (false,0,5))
 (.gG ((x.2.1.length:Int)==0)
 (.ret (false,1,0))
 (.fn Kf x fun bI=>
 (.ret (bI.1,bI.2,0))))))))))
def RQ (x:nQ):(Bool×I2):=(Kg x).val
def uN (x:nQ):Prop:=(Kg x).pre
abbrev Uv:bF:=⟨(.pair (.one (Ty.sl (Ty.prod (Ty.prod aG aG) (Ty.prod yi (Ty.prod yi (Ty.sl yi)))))) (.pair (.one (Ty.sl cO)) (.pair (.agg aG) (.agg aG)))),(.pair (.one Ty.bool) (.pair (.one yi) (.one yi))),uN,RQ⟩
theorem akQ:aq Tryz.prog 120 (ah Uv):=aM Uv Kg (fn:=Tryz.f120) wL
def X6:List (Nat×Ev.Spec):=(120,ah Uv)::EA
theorem X7:aj Tryz.prog X6:=aA (fn:=Tryz.f120) akQ wL
end Go.Proofs.YtngdehlpoomaiaaGreat
namespace Go.Proofs.YtngdehlpoomaiaaGreat
open Go Go.Ev Go.Proofs
abbrev P3:Type:=Int×(Int×Int)
abbrev T3:Type:=P3×(P3×P3)
abbrev z3:P3:=(0,0,0)
abbrev zT:T3:=(z3,z3,z3)
abbrev B3:Type:=P3×P3
theorem N4 (m:Int) (hm:0<=m) (hm2:m<4611686018427387904) (x:List Int) (hl:x.length<4611686018427387904):CQ (m,x)/\ within (m,x)= !x.any (fun v=>decide (v< -m)||decide (v>m)):=by
 refine iq x hl _ _ _ (fun i hi=> ?_) (fun i v hv=> ?_) ?_
 ·unfold BL
  intro h
  simp only [Int.toNat_natCast];dsimp only at h ⊢;omega
 ·have hlt:=cz hv
  unfold mA
  rw [if_pos (by dsimp only;omega),Int.toNat_natCast]
  dsimp only
  rw [gW hv,ax (n:=0- m) (by omega) (by omega),show 0- m= -m by omega]
  by_cases h1:v< -m
  ·simp [h1]
  ·by_cases h2:v>m
   ·simp [h1,h2]
   ·simp [h1,h2]
 ·unfold mA
  rw [if_neg (by dsimp only;omega)]
abbrev dB (p:Int×(Int×Int)):Prop:=(-16384<=p.1/\ p.1<=16384)/\ (-16384<=p.2.1/\ p.2.1<=16384)/\ (-16384<=p.2.2/\ p.2.2<=16384)
theorem aqk {α:Type} {l:List α} {bad:α->Bool} {P:α->Prop} [DecidablePred P] (h: ∀x,bad x= !decide (P x)):(!l.any bad)=decide (∀x∈l,P x):=by
 rw [Bool.eq_iff_iff]
 simp [h]
theorem gZ (x:List (Int×Int×Int)) (hl:x.length<4611686018427387904):hO x/\ oP x=decide (∀p∈x,dB p):=by
 have hn: ∀a b c:Int,within (16384,[a,b,c])=decide (dB (a,b,c)):=fun a b c=>by
  rw [(N4 16384 (by omega) (by omega) [a,b,c] (by simp)).2,Bool.eq_iff_iff];simp
 rw [<- aqk (bad:=fun p=> !decide (dB p)) (fun _=>rfl)]
 refine iq x hl _ _ _ (fun i hi=> ?_) (fun i v hv=> ?_) ?_
 ·unfold Bi
  intro h
  simp only [Int.toNat_natCast]
  exact ⟨by omega,by omega,by omega,(N4 16384 (by omega) (by omega) _ (by simp)).1⟩
 ·have hlt:=cz hv
  unfold me
  rw [if_pos (by omega),Int.toNat_natCast,gW hv]
  unfold ak
  rw [hn]
 ·unfold me
  rw [if_neg (by omega)]
theorem cu {S R:Type} [Inhabited R] {step:S->S⊕R} {pre:S->Prop} (n:Nat) (J:Nat->S->Prop) (Post:R->Prop)
  (h1: ∀i s,i<n->J i s->pre s/\ ((∃s',step s= .inl s'/\ J (i+1) s')\/ (∃r,step s= .inr r/\ Post r)))
  (h2: ∀s,J n s->pre s/\ ∃r,step s= .inr r/\ Post r) {s:S} (h0:J 0 s):TR step pre s Post:=by
 have key: ∀k i,i+k=n-> ∀s,J i s->TR step pre s Post:=by
  intro k
  induction k with
  |zero=>
   intro i e s hj
   have:i=n:=by omega
   subst this
   obtain ⟨hp,r,e1,hq⟩:=h2 s hj
   exact TR.stop hp e1 hq
  |succ k ih=>
   intro i e s hj
   obtain ⟨hp,⟨s',e1,hj'⟩|⟨r,e1,hq⟩⟩:=h1 i s (by omega) hj
   ·exact TR.go hp e1 (ih (i+1) (by omega) s' hj')
   ·exact TR.stop hp e1 hq
 exact key n 0 (by omega) s h0
theorem bZ {α:Type} {l:List α} {i:Nat} (h:i<l.length) (d:α):l.take (i+1)=l.take i++ [l.getD i d]:=by
 rw [List.take_add_one,List.getD_eq_getElem?_getD,List.getElem?_eq_getElem h];rfl
theorem dW {α:Type} {l:List α} {i:Nat} (h:i<l.length) (d:α):l.getD i d∈l:=by
 rw [List.getD_eq_getElem?_getD,List.getElem?_eq_getElem h];exact List.getElem_mem h
theorem adQ {i n:Nat} (h:i<n) (hn:n<4611686018427387904):au ((i:Int)+1)=((i+1:Nat):Int):=cnt h hn
theorem Te (a b:Int):bB a b<=a/\ bB a b<=b/\ (bB a b=a\/ bB a b=b):=by unfold bB;split<;>omega
theorem Tc (a b:Int):a<=bw a b/\ b<=bw a b/\ (bw a b=a\/ bw a b=b):=by unfold bw;split<;>omega
def UJ (p q:P3):Prop:=p.1<=q.1/\ p.2.1<=q.2.1/\ p.2.2<=q.2.2
structure UI (x:List P3) (b:B3):Prop where
 low: ∀p∈x,UJ b.1 p
 high: ∀p∈x,UJ p b.2
 l1: ∃p∈x,p.1=b.1.1
 l2: ∃p∈x,p.2.1=b.1.2.1
 l3: ∃p∈x,p.2.2=b.1.2.2
 h1: ∃p∈x,p.1=b.2.1
 h2: ∃p∈x,p.2.1=b.2.2.1
 h3: ∃p∈x,p.2.2=b.2.2.2
theorem UI.join {x y:List P3} {a b c:B3} (ha:UI x a) (hb:UI y b) (hc:UI [a.1,a.2,b.1,b.2] c):UI (x++y) c:=by
 have la:=hc.low a.1 (by simp)
 have lb:=hc.low b.1 (by simp)
 have ua:=hc.high a.2 (by simp)
 have ub:=hc.high b.2 (by simp)
 have wa:UJ a.1 a.2:=by
  obtain ⟨p,hp,_⟩:=ha.l1
  have h1:=ha.low p hp
  have h2:=ha.high p hp
  exact ⟨Int.le_trans h1.1 h2.1,Int.le_trans h1.2.1 h2.2.1,Int.le_trans h1.2.2 h2.2.2⟩
 have wb:UJ b.1 b.2:=by
  obtain ⟨p,hp,_⟩:=hb.l1
  have h1:=hb.low p hp
  have h2:=hb.high p hp
  exact ⟨Int.le_trans h1.1 h2.1,Int.le_trans h1.2.1 h2.2.1,Int.le_trans h1.2.2 h2.2.2⟩
 obtain ⟨la1,la2,la3⟩:=la
 obtain ⟨lb1,lb2,lb3⟩:=lb
 obtain ⟨ua1,ua2,ua3⟩:=ua
 obtain ⟨ub1,ub2,ub3⟩:=ub
 obtain ⟨wa1,wa2,wa3⟩:=wa
 obtain ⟨wb1,wb2,wb3⟩:=wb
 refine ⟨fun p hp=> ?_,fun p hp=> ?_,?_,?_,?_,?_,?_,?_⟩
 ·rcases List.mem_append.1 hp with hp|hp
  ·obtain ⟨h1,h2,h3⟩:=ha.low p hp;exact ⟨by omega,by omega,by omega⟩
  ·obtain ⟨h1,h2,h3⟩:=hb.low p hp;exact ⟨by omega,by omega,by omega⟩
 ·rcases List.mem_append.1 hp with hp|hp
  ·obtain ⟨h1,h2,h3⟩:=ha.high p hp;exact ⟨by omega,by omega,by omega⟩
  ·obtain ⟨h1,h2,h3⟩:=hb.high p hp;exact ⟨by omega,by omega,by omega⟩
 ·obtain ⟨p,hp,e⟩:=hc.l1
  obtain ⟨q,hq,f⟩:=ha.l1
  obtain ⟨q',JO,f'⟩:=hb.l1
  simp only [List.mem_cons,List.not_mem_nil,or_false] at hp
  rcases hp with rfl|rfl|rfl|rfl
  ·exact ⟨q,by simp [hq],by omega⟩
  ·exact ⟨q,by simp [hq],by omega⟩
  ·exact ⟨q',by simp [JO],by omega⟩
  ·exact ⟨q',by simp [JO],by omega⟩
 ·obtain ⟨p,hp,e⟩:=hc.l2
  obtain ⟨q,hq,f⟩:=ha.l2
  obtain ⟨q',JO,f'⟩:=hb.l2
  simp only [List.mem_cons,List.not_mem_nil,or_false] at hp
  rcases hp with rfl|rfl|rfl|rfl
  ·exact ⟨q,by simp [hq],by omega⟩
  ·exact ⟨q,by simp [hq],by omega⟩
  ·exact ⟨q',by simp [JO],by omega⟩
  ·exact ⟨q',by simp [JO],by omega⟩
 ·obtain ⟨p,hp,e⟩:=hc.l3
  obtain ⟨q,hq,f⟩:=ha.l3
  obtain ⟨q',JO,f'⟩:=hb.l3
  simp only [List.mem_cons,List.not_mem_nil,or_false] at hp
  rcases hp with rfl|rfl|rfl|rfl
  ·exact ⟨q,by simp [hq],by omega⟩
  ·exact ⟨q,by simp [hq],by omega⟩
  ·exact ⟨q',by simp [JO],by omega⟩
  ·exact ⟨q',by simp [JO],by omega⟩
 ·obtain ⟨p,hp,e⟩:=hc.h1
  obtain ⟨q,hq,f⟩:=ha.h1
  obtain ⟨q',JO,f'⟩:=hb.h1
  simp only [List.mem_cons,List.not_mem_nil,or_false] at hp
  rcases hp with rfl|rfl|rfl|rfl
  ·exact ⟨q,by simp [hq],by omega⟩
  ·exact ⟨q,by simp [hq],by omega⟩
  ·exact ⟨q',by simp [JO],by omega⟩
  ·exact ⟨q',by simp [JO],by omega⟩
 ·obtain ⟨p,hp,e⟩:=hc.h2
  obtain ⟨q,hq,f⟩:=ha.h2
  obtain ⟨q',JO,f'⟩:=hb.h2
  simp only [List.mem_cons,List.not_mem_nil,or_false] at hp
  rcases hp with rfl|rfl|rfl|rfl
  ·exact ⟨q,by simp [hq],by omega⟩
  ·exact ⟨q,by simp [hq],by omega⟩
  ·exact ⟨q',by simp [JO],by omega⟩
  ·exact ⟨q',by simp [JO],by omega⟩
 ·obtain ⟨p,hp,e⟩:=hc.h3
  obtain ⟨q,hq,f⟩:=ha.h3
  obtain ⟨q',JO,f'⟩:=hb.h3
  simp only [List.mem_cons,List.not_mem_nil,or_false] at hp
  rcases hp with rfl|rfl|rfl|rfl
  ·exact ⟨q,by simp [hq],by omega⟩
  ·exact ⟨q,by simp [hq],by omega⟩
  ·exact ⟨q',by simp [JO],by omega⟩
  ·exact ⟨q',by simp [JO],by omega⟩
theorem of_inner (x:List P3) (a b c d e f g h i:Int) (j:Int):
  TR (qZ x) (iW x) (a,b,c,d,e,f,g,h,i,j,0) fun r=>r=(bB a g,bB b h,bB c i,bw d g,bw e h,bw f i,j):=by
 refine TR.go (s':=(bB a g,b,c,bw d g,e,f,g,h,i,j,1)) ?_ ?_ (TR.go (s':=(bB a g,bB b h,c,bw d g,bw e h,f,g,h,i,j,2)) ?_ ?_ (TR.go (s':=(bB a g,bB b h,bB c i,bw d g,bw e h,bw f i,g,h,i,j,3)) ?_ ?_ (TR.stop (r:=(bB a g,bB b h,bB c i,bw d g,bw e h,bw f i,j)) ?_ ?_ rfl)))
 ·dsimp only [iW,gJ,Tr.val,Tr.pre];(try dsimp only [az,ak]);decide
 ·rfl
 ·dsimp only [iW,gJ,Tr.val,Tr.pre];(try dsimp only [az,ak]);decide
 ·rfl
 ·dsimp only [iW,gJ,Tr.val,Tr.pre];(try dsimp only [az,ak]);decide
 ·rfl
 ·dsimp only [iW,gJ,Tr.val,Tr.pre];(try dsimp only [az,ak]);decide
 ·rfl
theorem UI.snoc {x:List P3} {a b c d e f:Int} (h:UI x ((a,b,c),d,e,f)) (p:P3):UI (x++ [p]) ((bB a p.1,bB b p.2.1,bB c p.2.2),bw d p.1,bw e p.2.1,bw f p.2.2):=by
 have m1:=Te a p.1
 have m2:=Te b p.2.1
 have m3:=Te c p.2.2
 have m4:=Tc d p.1
 have m5:=Tc e p.2.1
 have m6:=Tc f p.2.2
 have ex: ∀ {Q:P3->Int} {u v w:Int},(∃q∈x,Q q=u)->Q p=v->(w=u\/ w=v)-> ∃q∈x++ [p],Q q=w:=fun {Q u v w} ⟨q,h1,h2⟩ hv hw=>by
  rcases hw with rfl|rfl
  ·exact ⟨q,by simp [h1],h2⟩
  ·exact ⟨p,by simp,hv⟩
 refine ⟨fun q hq=> ?_,fun q hq=> ?_,ex h.l1 rfl m1.2.2,ex (Q:=fun q=>q.2.1) h.l2 rfl m2.2.2,ex (Q:=fun q=>q.2.2) h.l3 rfl m3.2.2,ex h.h1 rfl m4.2.2,ex (Q:=fun q=>q.2.1) h.h2 rfl m5.2.2,ex (Q:=fun q=>q.2.2) h.h3 rfl m6.2.2⟩
 ·simp only [List.mem_append,List.mem_singleton] at hq
  rcases hq with hq|rfl
  ·obtain ⟨g1,g2,g3⟩:=h.low q hq
   dsimp only at g1 g2 g3
   exact ⟨by dsimp only;omega,by dsimp only;omega,by dsimp only;omega⟩
  ·exact ⟨by dsimp only;omega,by dsimp only;omega,by dsimp only;omega⟩
 ·simp only [List.mem_append,List.mem_singleton] at hq
  rcases hq with hq|rfl
  ·obtain ⟨g1,g2,g3⟩:=h.high q hq
   dsimp only at g1 g2 g3
   exact ⟨by dsimp only;omega,by dsimp only;omega,by dsimp only;omega⟩
  ·exact ⟨by dsimp only;omega,by dsimp only;omega,by dsimp only;omega⟩
theorem Gr (a:Int):bB a a=a:=by unfold bB;split<;>rfl
theorem Gq (a:Int):bw a a=a:=by unfold bw;split<;>rfl
theorem UI.one (p:P3):UI [p] (p,p):=by
 have:UJ p p:=⟨Int.le_refl _,Int.le_refl _,Int.le_refl _⟩
 exact ⟨fun q hq=>by simp only [List.mem_singleton] at hq;subst hq;exact this,fun q hq=>by simp only [List.mem_singleton] at hq;subst hq;exact this,⟨p,by simp,rfl⟩,⟨p,by simp,rfl⟩,⟨p,by simp,rfl⟩,⟨p,by simp,rfl⟩,⟨p,by simp,rfl⟩,⟨p,by simp,rfl⟩⟩
theorem am7 (x:List P3) (h0:0<x.length) (hl:x.length<4611686018427387904):
  TR (jJ x) (nM x) ((x.getD 0 z3).1,(x.getD 0 z3).2.1,(x.getD 0 z3).2.2,(x.getD 0 z3).1,(x.getD 0 z3).2.1,(x.getD 0 z3).2.2,0) fun r=>UI x ((r.1,r.2.1,r.2.2.1),r.2.2.2):=by
 refine cu x.length (fun i s=> ∃b:B3,s=(b.1.1,b.1.2.1,b.1.2.2,b.2.1,b.2.2.1,b.2.2.2,(i:Int))/\ ((i=0/\ b=(x.getD 0 z3,x.getD 0 z3))\/ (0<i/\ UI (x.take i) b))) _ (fun i s hi hj=> ?_) (fun s hj=> ?_) ⟨(x.getD 0 z3,x.getD 0 z3),rfl,.inl ⟨rfl,rfl⟩⟩
 ·obtain ⟨b,rfl,hb⟩:=hj
  obtain ⟨⟨a1,a2,a3⟩,a4,a5,a6⟩:=b
  have key:=of_inner x a1 a2 a3 a4 a5 a6 (x.getD i z3).1 (x.getD i z3).2.1 (x.getD i z3).2.2 (i:Int)
  refine ⟨?_,.inl ⟨_,?_,((bB a1 (x.getD i z3).1,bB a2 (x.getD i z3).2.1,bB a3 (x.getD i z3).2.2),bw a4 (x.getD i z3).1,bw a5 (x.getD i z3).2.1,bw a6 (x.getD i z3).2.2),rfl,.inr ⟨by omega,?_⟩⟩⟩
  ·unfold nM az
   intro _
   dsimp only
   rw [Int.toNat_natCast]
   exact ⟨by omega,hi,hi,key.1⟩
  ·unfold jJ ak parts
   dsimp only
   rw [if_pos (by omega),Int.toNat_natCast,key.2,adQ hi hl]
  ·rw [bZ hi z3]
   rcases hb with ⟨rfl,e⟩|⟨_,hb⟩
   ·simp only [Prod.mk.injEq] at e
    obtain ⟨e1,e2⟩:=e
    simp only [List.take_zero,List.nil_append]
    generalize x.getD 0 z3=p at*
    subst e1
    have e2:=e2.symm
    simp only [Prod.mk.injEq] at e2
    obtain ⟨rfl,rfl,rfl⟩:=e2
    dsimp only
    rw [Gr,Gr,Gr,Gq,Gq,Gq]
    exact UI.one _
   ·exact hb.snoc _
 ·obtain ⟨b,rfl,hb⟩:=hj
  refine ⟨?_,(b.1.1,b.1.2.1,b.1.2.2,b.2.1,b.2.2.1,b.2.2.2),?_,?_⟩
  ·unfold nM
   intro q
   dsimp only at q;omega
  ·unfold jJ
   dsimp only
   rw [if_neg (by omega)]
  ·rcases hb with ⟨h,_⟩|⟨_,hb⟩
   ·omega
   ·rw [List.take_length] at hb;exact hb
theorem MG (x:List P3) (hl:x.length<4611686018427387904):wh x/\ ((x= []/\ yM x=((z3,z3),1))\/ (x≠ []/\ (¬ ∀p∈x,dB p)/\ yM x=((z3,z3),5))\/ (x≠ []/\ (∀p∈x,dB p)/\ UI x (yM x).1/\ (yM x).2=0)):=by
 obtain ⟨s1,s2⟩:=gZ x hl
 unfold wh yM az ak parts point
 dsimp only
 by_cases h0:x= []
 ·subst h0
  exact ⟨fun q=>absurd (by decide) q,.inl ⟨rfl,rfl⟩⟩
 ·have hpos:0<x.length:=List.length_pos_iff.2 h0
  have hb: ¬((((x.length:Nat):Int)==0)=true):=by simp;exact h0
  have key:=am7 x hpos hl
  rw [if_neg hb,s2]
  by_cases hs: ∀p∈x,dB p
  ·rw [decide_eq_true hs,if_neg (by decide)]
   exact ⟨fun _=>⟨s1,fun _=>⟨by omega,hpos,hpos,by omega,hpos,hpos,key.1⟩⟩,.inr (.inr ⟨h0,hs,key.2,rfl⟩)⟩
  ·rw [decide_eq_false hs,if_pos (by decide)]
   exact ⟨fun _=>⟨s1,fun q=>absurd (by decide) q⟩,.inr (.inl ⟨h0,hs,rfl⟩)⟩
theorem VF (b:B3) (p:P3):hasB (b,p)=true↔UJ b.1 p/\ UJ p b.2:=by
 unfold hasB ak parts UJ
 dsimp only
 by_cases h1:p.1<b.1.1
 ·rw [if_pos h1];exact ⟨fun q=>(by cases q),fun q=>absurd q.1.1 (by omega)⟩
 rw [if_neg h1]
 by_cases h2:p.1>b.2.1
 ·rw [if_pos h2];exact ⟨fun q=>(by cases q),fun q=>absurd q.2.1 (by omega)⟩
 rw [if_neg h2]
 by_cases h3:p.2.1<b.1.2.1
 ·rw [if_pos h3];exact ⟨fun q=>(by cases q),fun q=>absurd q.1.2.1 (by omega)⟩
 rw [if_neg h3]
 by_cases h4:p.2.1>b.2.2.1
 ·rw [if_pos h4];exact ⟨fun q=>(by cases q),fun q=>absurd q.2.2.1 (by omega)⟩
 rw [if_neg h4]
 by_cases h5:p.2.2<b.1.2.2
 ·rw [if_pos h5];exact ⟨fun q=>(by cases q),fun q=>absurd q.1.2.2 (by omega)⟩
 rw [if_neg h5]
 by_cases h6:p.2.2>b.2.2.2
 ·rw [if_pos h6];exact ⟨fun q=>(by cases q),fun q=>absurd q.2.2.2 (by omega)⟩
 rw [if_neg h6]
 exact ⟨fun _=>⟨⟨by omega,by omega,by omega⟩,by omega,by omega,by omega⟩,fun _=>rfl⟩
theorem Cv (b:B3):qY b/\ (ta b=true↔(dB b.1/\ dB b.2)/\ UJ b.1 b.2):=by
 obtain ⟨s1,s2⟩:=gZ [b.1,b.2] (by simp)
 refine ⟨s1,?_⟩
 unfold ta ak
 rw [s2]
 dsimp only
 have hr:UJ b.1 b.1:=⟨Int.le_refl _,Int.le_refl _,Int.le_refl _⟩
 by_cases hs: ∀p∈ [b.1,b.2],dB p
 ·rw [decide_eq_true hs,if_pos rfl,VF]
  exact ⟨fun q=>⟨⟨hs _ (by simp),hs _ (by simp)⟩,q.2⟩,fun q=>⟨hr,q.2⟩⟩
 ·rw [decide_eq_false hs,if_neg (by decide)]
  refine ⟨fun q=>(by cases q),fun q=>absurd (fun p hp=> ?_) hs⟩
  simp only [List.mem_cons,List.not_mem_nil,or_false] at hp
  rcases hp with rfl|rfl
  ·exact q.1.1
  ·exact q.1.2
theorem UI.is {x:List P3} {b:B3} (h:UI x b) (hs: ∀p∈x,dB p):(dB b.1/\ dB b.2)/\ UJ b.1 b.2:=by
 obtain ⟨p1,m1,e1⟩:=h.l1
 obtain ⟨p2,m2,e2⟩:=h.l2
 obtain ⟨p3,m3,e3⟩:=h.l3
 obtain ⟨p4,m4,e4⟩:=h.h1
 obtain ⟨p5,m5,e5⟩:=h.h2
 obtain ⟨p6,m6,e6⟩:=h.h3
 have s1:=(hs p1 m1).1
 have s2:=(hs p2 m2).2.1
 have s3:=(hs p3 m3).2.2
 have s4:=(hs p4 m4).1
 have s5:=(hs p5 m5).2.1
 have s6:=(hs p6 m6).2.2
 have a:=h.low p1 m1
 have c:=h.high p1 m1
 refine ⟨⟨?_,?_⟩,Int.le_trans a.1 c.1,Int.le_trans a.2.1 c.2.1,Int.le_trans a.2.2 c.2.2⟩
 ·rw [e1] at s1;rw [e2] at s2;rw [e3] at s3;exact ⟨s1,s2,s3⟩
 ·rw [e4] at s4;rw [e5] at s5;rw [e6] at s6;exact ⟨s4,s5,s6⟩
end Go.Proofs.YtngdehlpoomaiaaGreat
