/- Models of the references: layers 23, 24, 25. -/
import Derived.Test.YtngdehlpoomaiaaGreatNa
noncomputable section
set_option linter.unusedSectionVars false
set_option linter.unusedVariables false
set_option linter.unusedSimpArgs false
namespace Go.Proofs.YtngdehlpoomaiaaGreat
open Go Go.Ev Go.Proofs
def Qo (x:I2):aI:=⟨[],⟨cj 42 0 [(0,.v (.one (.i .i64))),(1,.v (.one (.i .i64))),(4,.v (.one (.ptr 0 0))),(6,.v (.one (.ptr 1 0)))],[.cells [.i .i64,.i .i64] 159,.cells [.i .i64,.i .i64] 159],0,none,[],[0,2,3],[1,4,5],[.i,.i,.i],[.i x.1,.i 0,.i 0]⟩,[⟨(.exit 0),.normal,⟨cj 42 0 [(4,.v (.one (.ptr 0 0))),(6,.v (.one (.ptr 1 0)))],[.cells [.i .i64,.i .i64] 159,.cells [.i .i64,.i .i64] 159],0,none,[],[0,1],[2,3],[.i,.i],[.i 0,.i 0]⟩⟩]⟩
def qO (x:I2) (s:I3):I3⊕I2:=
 (if (s.1>0) then
 (Sum.inl ((au (Int.tdiv s.1 x.1)),(au ((au (s.2.1*x.1))+(Int.tmod s.1 x.1))),(au (s.2.2*x.1)))) else
 (Sum.inr ((s.2.1,s.2.2))))
def Bb (x:I2) (s:I3):Prop:=
 ((s.1>0)->
 ((x.1≠0)/\
 (x.1≠0)))
def HS (x:I2) (s:I3):Tr (I3⊕I2) true:=
 (.i10 (s.1>z0)
 (.od (x.1≠z0)
 (.od (x.1≠z0)
 (.ret (.inl ((au (Int.tdiv s.1 x.1)),(au ((au (s.2.1*x.1))+(Int.tmod s.1 x.1))),(au (s.2.2*x.1)))))))
 (.ret (.inr ((s.2.1,s.2.2)))))
def aan (x:I2):(I2×Int):=
 (if (x.1<2) then
 ((0,0),1) else
 (if (x.1>16) then
 ((0,0),1) else
 (if (x.2<0) then
 ((0,0),1) else
 (if (x.2>65535) then
 ((0,0),1) else
 (ak (run (qO x) (x.2,0,1)) fun r=>
 (r,0))))))
def Cl (x:I2):Prop:=
 (¬(x.1<2)->
 (¬(x.1>16)->
 (¬(x.2<0)->
 (¬(x.2>65535)->
 (Term (qO x) (Bb x) (x.2,0,1))))))
def ajB (x:I2):Tr (I2×Int) true:=
 (.wY (x.1<2)
 (.ret (uQ,z1))
 (.wY (x.1>16)
 (.ret (uQ,z1))
 (.wY (x.2<z0)
 (.ret (uQ,z1))
 (.wY (x.2>65535)
 (.ret (uQ,z1))
 (aI.lp (Qo x) (HS x) (x.2,z0,z1) fun r=>
 (.ret (r,z0)))))))
abbrev yp:bF:=⟨(.pair (.one yi) (.one yi)),(.pair (.agg dh) (.one yi)),Cl,aan⟩
theorem afl:aq Tryz.prog 107 (ah yp):=bS yp ajB (fn:=Tryz.f107) wo (aH.nil _ _) (fun x=>(bX wo 0 (Qo x) (HS x) aK.nil))
def Rl:List (Nat×Ev.Spec):=(107,ah yp)::Rj
theorem EX:aj Tryz.prog Rl:=aA (fn:=Tryz.f107) afl wo
def uq (x:I2):Int:=
 (ak (pL ((au (65536*x.1)),x.2)) fun y=>
 y.1)
def OA (x:I2):Prop:=
 (jF ((au (65536*x.1)),x.2))
def WB (x:I2):Tr Int true:=
 (.fn m7 ((au (65536*x.1)),x.2) fun y=>
 (.ret y.1))
abbrev oA:bF:=⟨(.agg dh),(.one yi),OA,uq⟩
theorem Tx:aq Tryz.prog 108 (ah oA):=aM oA WB (fn:=Tryz.f108) EX
def EY:List (Nat×Ev.Spec):=(108,ah oA)::Rl
theorem wO:aj Tryz.prog EY:=aA (fn:=Tryz.f108) Tx EX
def vK (x:Int):Tr (I2×Int) true:=
 (.fn yp (2,x) fun y=>
 (.fn yp (3,x) fun aB=>
 (.gG (y.2 !=0)
 (.ret (uQ,1))
 (.gG (aB.2 !=0)
 (.ret (uQ,1))
 (.fn oA y.1 fun y_2=>
 (.fn oA aB.1 fun bI=>
 (.ret ((y_2,bI),0))))))))
def Mg (x:Int):(I2×Int):=(vK x).val
def vJ (x:Int):Prop:=(vK x).pre
abbrev vI:bF:=⟨(.one yi),(.pair (.agg dh) (.one yi)),vJ,Mg⟩
theorem WA:aq Tryz.prog 82 (ah vI):=aM vI vK (fn:=Tryz.f82) wO
def Iy:List (Nat×Ev.Spec):=(82,ah vI)::EY
theorem zb:aj Tryz.prog Iy:=aA (fn:=Tryz.f82) WA wO
def Gx (x:I2):Bool:=
 (if (x.1<0) then
 false else
 (if (x.1>65536) then
 false else
 (if (x.2<0) then
 false else
 (if (x.2>65536) then
 false else
 (decide ((au ((au ((au ((au (2*x.1))- 65536))*(au ((au (2*x.1))- 65536))))+(au ((au ((au (2*x.2))- 65536))*(au ((au (2*x.2))- 65536))))))<=4294967296))))))
def Oz (_:I2):Prop:=True
def Wz (x:I2):Tr Bool false:=
 (.iz (x.1<z0)
 (.ret false)
 (.iz (x.1>65536)
 (.ret false)
 (.iz (x.2<z0)
 (.ret false)
 (.iz (x.2>65536)
 (.ret false)
 (.ret (decide ((au ((au ((au ((au (2*x.1))- 65536))*(au ((au (2*x.1))- 65536))))+(au ((au ((au (2*x.2))- 65536))*(au ((au (2*x.2))- 65536))))))<=4294967296)))))))
abbrev sg:bF:=⟨(.agg dh),(.one Ty.bool),Oz,Gx⟩
theorem Tv:aq Tryz.prog 83 (ah sg):=aM sg Wz (fn:=Tryz.f83) zb
def EW:List (Nat×Ev.Spec):=(83,ah sg)::Iy
theorem oT:aj Tryz.prog EW:=aA (fn:=Tryz.f83) Tv zb
def Me (x:Int):aI:=⟨[],⟨cj 62 0 [(0,.v (.one (.i .i64))),(4,.v (.one (.full 0))),(5,.v (.one (.i .i64)))],[.row dh 2],0,none,[],[0],[2,1],[(.l dh),.i],[.i x]⟩,[⟨(.exit 0),.normal,⟨cj 62 0 [(4,.v (.one (.full 0)))],[.row dh 2],0,none,[],[],[0],[(.l dh)],[]⟩⟩]⟩
def jS (x:Int) (s:(List I2×Int)):Tr ((List I2×Int)⊕(List I2)) true:=
 (.i10 (s.2<=65535)
 (.i10 ((s.1.length:Int)<x)
 (.fn vI s.2 fun y=>
 (.fn0 sg y.1 trivial fun aB=>
 (.BQ aB
 (.fn m7 ((au ((au (2*y.1.1))- 65536)),64) fun y_2=>
 (.fn m7 ((au ((au (2*y.1.2))- 65536)),64) fun bI=>
 (.od ((s.1.length+1)<1099511627776)
 (.ret (.inl ((s.1++ [(y_2.1,bI.1)]),(au (s.2+1))))))))
 (.ret (.inl (s.1,(au (s.2+1))))))))
 (.ret (.inr (s.1))))
 (.ret (.inr (s.1))))
abbrev iF (x:Int) (s:(List I2×Int)):(List I2×Int)⊕(List I2):=(jS x s).val
abbrev lW (x:Int) (s:(List I2×Int)):Prop:=(jS x s).pre
def DY (x:Int):(List I2×Int):=
 (if (x<0) then
 ([],1) else
 (if (x>256) then
 ([],1) else
 (ak (run (iF x) ([],1)) fun r=>
 (r,0))))
def r9 (x:Int):Prop:=
 (¬(x<0)->
 (¬(x>256)->
 (Term (iF x) (lW x) ([],1))))
def afk (x:Int):Tr (List I2×Int) true:=
 (.wY (x<z0)
 (.ret ([],z1))
 (.wY (x>256)
 (.ret ([],z1))
 (aI.lp (Me x) (jS x) ([],z1) fun r=>
 (.ret (r,z0)))))
abbrev Am:bF:=⟨(.one yi),(.pair (.one (Ty.sl dh)) (.one yi)),r9,DY⟩
theorem aam:aq Tryz.prog 46 (ah Am):=bS Am afk (fn:=Tryz.f46) oT (aH.nil _ _) (fun x=>(bX oT 0 (Me x) (jS x) aK.nil))
def M8:List (Nat×Ev.Spec):=(46,ah Am)::EW
theorem Bs:aj Tryz.prog M8:=aA (fn:=Tryz.f46) aam oT
def sk (x:I2):Int:=
 (ak (pL x) fun y=>
 y.1)
def oB (x:I2):Prop:=
 (jF x)
def afm (x:I2):Tr Int true:=
 (.fn m7 x fun y=>
 (.ret y.1))
abbrev jT:bF:=⟨(.pair (.one yi) (.one yi)),(.one yi),oB,sk⟩
theorem aap:aq Tryz.prog 80 (ah jT):=aM jT afm (fn:=Tryz.f80) Bs
def M9:List (Nat×Ev.Spec):=(80,ah jT)::M8
theorem Bt:aj Tryz.prog M9:=aA (fn:=Tryz.f80) aap Bs
def qi (x:I3):Tr (I3×Int) true:=
 (.fn0 Eb (x,x) trivial fun y=>
 (.gG (y.2 !=0)
 (.ret (bn,5))
 (.gG ((x.1==0)&&((x.2.1==0)&&((x.2.2==0)&&true)))
 (.ret (bn,3))
 (.fn yB (au (1048576*y.1)) fun aB=>
 (.fn jT ((au (1048576*x.1)),aB.1) fun y_2=>
 (.fn jT ((au (1048576*x.2.1)),aB.1) fun bI=>
 (.fn jT ((au (1048576*x.2.2)),aB.1) fun dG=>
 (.ret ((y_2,bI,dG),0)))))))))
def vM (x:I3):(I3×Int):=(qi x).val
def jC (x:I3):Prop:=(qi x).pre
abbrev iT:bF:=⟨(.agg aG),(.pair (.agg aG) (.one yi)),jC,vM⟩
theorem aaw:aq Tryz.prog 44 (ah iT):=aM iT qi (fn:=Tryz.f44) Bt
def Nc:List (Nat×Ev.Spec):=(44,ah iT)::M9
theorem Bw:aj Tryz.prog Nc:=aA (fn:=Tryz.f44) aaw Bt
def WC (x:Int):I3:=
 (if ((x==0)=true) then
 (1,0,0) else
 (if ((x==1)=true) then
 (0,1,0) else
 (0,0,1)))
def TA (_:Int):Prop:=True
def aao (x:Int):Tr I3 false:=
 (.iY (x==z0)
 (.ret (z1,uQ))
 (.iY (x==z1)
 (.ret (z0,z1,z0))
 (.ret (z0,z0,z1))))
abbrev vL:bF:=⟨(.one yi),(.agg aG),TA,WC⟩
theorem WD:aq Tryz.prog 111 (ah vL):=aM vL aao (fn:=Tryz.f111) Bw
def Iz:List (Nat×Ev.Spec):=(111,ah vL)::Nc
theorem zc:aj Tryz.prog Iz:=aA (fn:=Tryz.f111) WD Bw
def TC (x:I3):I3:=
 (ak (sk (x.1,1024)) fun y=>
 (ak (sk (x.2.1,1024)) fun aB=>
 (ak (sk (x.2.2,1024)) fun y_2=>
 (y,aB,y_2))))
def yu (x:I3):Prop:=
 ((oB (x.1,1024))/\
 az (sk (x.1,1024)) fun y=>
 ((oB (x.2.1,1024))/\
 az (sk (x.2.1,1024)) fun aB=>
 (oB (x.2.2,1024))))
def afp (x:I3):Tr I3 true:=
 (.fn jT (x.1,1024) fun y=>
 (.fn jT (x.2.1,1024) fun aB=>
 (.fn jT (x.2.2,1024) fun y_2=>
 (.ret (y,aB,y_2)))))
abbrev uu:bF:=⟨(.agg aG),(.agg aG),yu,TC⟩
theorem aat:aq Tryz.prog 86 (ah uu):=aM uu afp (fn:=Tryz.f86) zc
def Nb:List (Nat×Ev.Spec):=(86,ah uu)::Iz
theorem Bv:aj Tryz.prog Nb:=aA (fn:=Tryz.f86) aat zc
def D1 (x:I3):Tr (I3×I3×I3×Int) true:=
 (.fn iT x fun y=>
 (.gG (y.2 !=0)
 (.ret (bn,bn,bn,y.2))
 (.fn0 Ea y.1 trivial fun aB=>
 (.fn0 vL (Int.tmod (au (aB+1)) 3) trivial fun y_2=>
 (.fn0 m8 (y_2,y.1) trivial fun bI=>
 (.fn iT bI.1 fun dG=>
 (.gG (dG.2 !=0)
 (.ret (bn,bn,bn,dG.2))
 (.fn0 m8 (y.1,dG.1) trivial fun tw=>
 (.fn uu tw.1 fun Kh=>
 (.ret (y.1,dG.1,Kh,0)))))))))))
def aau (x:I3):(I3×I3×I3×Int):=(D1 x).val
def Cm (x:I3):Prop:=(D1 x).pre
abbrev D0:bF:=⟨(.agg aG),(.pair (.agg aG) (.pair (.agg aG) (.pair (.agg aG) (.one yi)))),Cm,aau⟩
theorem afq:aq Tryz.prog 85 (ah D0):=aM D0 D1 (fn:=Tryz.f85) Bv
def Rn:List (Nat×Ev.Spec):=(85,ah D0)::Nb
theorem E1:aj Tryz.prog Rn:=aA (fn:=Tryz.f85) afq Bv
def sj (x:(I3×I2)):Tr (I3×Int) true:=
 (.fn D0 x.1 fun y=>
 (.gG (y.2.2.2 !=0)
 (.ret (bn,y.2.2.2))
 (.wY (x.2.1<(-1024))
 (.ret (bn,1))
 (.wY (x.2.1>1024)
 (.ret (bn,1))
 (.wY (x.2.2<(-1024))
 (.ret (bn,1))
 (.wY (x.2.2>1024)
 (.ret (bn,1))
 (.fn yB (bw (au ((au (1048576- (au (x.2.1*x.2.1))))- (au (x.2.2*x.2.2)))) 0) fun aB=>
 (.fn uu ((au ((au ((au (y.2.1.1*x.2.1))+(au (y.2.2.1.1*x.2.2))))+(au (y.1.1*aB.1)))),(au ((au ((au (y.2.1.2.1*x.2.1))+(au (y.2.2.1.2.1*x.2.2))))+(au (y.1.2.1*aB.1)))),(au ((au ((au (y.2.1.2.2*x.2.1))+(au (y.2.2.1.2.2*x.2.2))))+(au (y.1.2.2*aB.1))))) fun y_2=>
 (.ret (y_2,0))))))))))
def Gy (x:(I3×I2)):(I3×Int):=(sj x).val
def sX (x:(I3×I2)):Prop:=(sj x).pre
abbrev si:bF:=⟨(.pair (.agg aG) (.agg dh)),(.pair (.agg aG) (.one yi)),sX,Gy⟩
theorem TB:aq Tryz.prog 47 (ah si):=aM si sj (fn:=Tryz.f47) E1
def EZ:List (Nat×Ev.Spec):=(47,ah si)::Rn
theorem wP:aj Tryz.prog EZ:=aA (fn:=Tryz.f47) TB E1
def DZ (x:I3):Bool:=
 (if (x.1>=(-2048)) then
 (if (x.1<=2048) then
 (if (x.2.1>=(-2048)) then
 (if (x.2.1<=2048) then
 (if (x.2.2>=(-2048)) then
 (decide (x.2.2<=2048)) else
 false) else
 false) else
 false) else
 false) else
 false)
def WE (_:I3):Prop:=True
def afn (x:I3):Tr Bool false:=
 (.iz (x.1>=(-2048))
 (.iz (x.1<=2048)
 (.iz (x.2.1>=(-2048))
 (.iz (x.2.1<=2048)
 (.iz (x.2.2>=(-2048))
 (.ret (decide (x.2.2<=2048)))
 (.ret false))
 (.ret false))
 (.ret false))
 (.ret false))
 (.ret false))
abbrev ur:bF:=⟨(.agg aG),(.one Ty.bool),WE,DZ⟩
theorem aaq:aq Tryz.prog 118 (ah ur):=aM ur afn (fn:=Tryz.f118) wP
def Na:List (Nat×Ev.Spec):=(118,ah ur)::EZ
theorem Bu:aj Tryz.prog Na:=aA (fn:=Tryz.f118) aaq wP
def aar (x:(I3×I3)):I2:=
 (ak (DZ x.1) fun y=>
 (if ((!y)=true) then
 (0,5) else
 (ak (DZ x.2) fun aB=>
 (if ((!aB)=true) then
 (0,5) else
 (ak (Qs x) fun y_2=>
 ((bB (au (Int.tdiv (bw y_2.1 0) 1024)) 1024),0))))))
def aas (_:(I3×I3)):Prop:=True
def ajC (x:(I3×I3)):Tr I2 false:=
 (.fn0 ur x.1 trivial fun y=>
 (.iY (!y)
 (.ret (z0,5))
 (.fn0 ur x.2 trivial fun aB=>
 (.iY (!aB)
 (.ret (z0,5))
 (.fn0 Eb x trivial fun y_2=>
 (.ret ((bB (au (Int.tdiv (bw y_2.1 z0) 1024)) 1024),z0)))))))
abbrev yq:bF:=⟨(.pair (.agg aG) (.agg aG)),(.pair (.one yi) (.one yi)),aas,aar⟩
theorem afo:aq Tryz.prog 93 (ah yq):=aM yq ajC (fn:=Tryz.f93) Bu
def Rm:List (Nat×Ev.Spec):=(93,ah yq)::Na
theorem E0:aj Tryz.prog Rm:=aA (fn:=Tryz.f93) afo Bu
def TG (_:(Int×I3×I3×I2)):Prop:=True
def Cn (x:(Int×I3×I3×I2)):Tr Bool false:=
 (.iz (x.1<1)
 (.ret false)
 (.iz (x.1>3)
 (.ret false)
 (.iz (x.2.2.2.1<0)
 (.ret false)
 (.iz (x.2.2.2.1>255)
 (.ret false)
 (.iz (x.2.2.2.2<0)
 (.ret false)
 (.iz (x.2.2.2.2>1024)
 (.ret false)
 (.fn0 fN x.2.1 trivial fun y=>
 (.iY (!y)
 (.ret false)
 (.fn0 fN x.2.2.1 trivial fun aB=>
 (.iY (!aB)
 (.ret false)
 (.iY (x.1==2)
 (.ret true)
 (.ret (!((x.2.2.1.1==0)&&((x.2.2.1.2.1==0)&&((x.2.2.1.2.2==0)&&true))))))))))))))))
def D3 (x:(Int×I3×I3×I2)):Bool:=(Cn x).val
abbrev qQ:bF:=⟨(.agg (Ty.prod yi (Ty.prod aG (Ty.prod aG dh)))),(.one Ty.bool),TG,D3⟩
theorem WM:aq Tryz.prog 89 (ah qQ):=aM qQ Cn (fn:=Tryz.f89) E0
def IC:List (Nat×Ev.Spec):=(89,ah qQ)::Rm
theorem q8:aj Tryz.prog IC:=aA (fn:=Tryz.f89) WM E0
def WI (x:(List (Int×I3×I3×I2))):aI:=⟨[],⟨cj 16 0 [(0,.v (.one (.full 0))),(3,.v (.one (.i .i64)))],[.row (Ty.prod yi (Ty.prod aG (Ty.prod aG dh))) 0],0,none,[],[1],[0],[.i],[.l (Ty.prod yi (Ty.prod aG (Ty.prod aG dh))) x]⟩,[⟨.ret,.ret,⟨cj 16 0 [(2,.v (.one (.b)))],[],0,none,[],[0],[],[],[.b false]⟩⟩,⟨(.exit 0),.normal,⟨cj 16 0 [],[],0,none,[],[],[],[],[]⟩⟩]⟩
def nH (x:(List (Int×I3×I3×I2))) (s:Int):Int⊕(Unit⊕Unit):=
 (if (s<(x.length:Int)) then
 (ak (D3 (x.getD s.toNat (0,(0,0,0),(0,0,0),0,0))) fun y=>
 (if ((!y)=true) then
 (Sum.inr (Sum.inl ())) else
 (Sum.inl (au (s+1))))) else
 (Sum.inr (Sum.inr (()))))
def D2 (x:(List (Int×I3×I3×I2))) (s:Int):Prop:=
 ((s<(x.length:Int))->
 (((0<=s)/\ (s<(x.length:Int)))/\
 ((s.toNat<x.length)/\
 (s.toNat<x.length))))
def Mi (x:(List (Int×I3×I3×I2))) (s:Int):Tr (Int⊕(Unit⊕Unit)) true:=
 (.i10 (s<(nL x))
 (.A7 s x
 (.fn0 qQ (gT x s (z0,bn,bn,uQ)) trivial fun y=>
 (.iY (!y)
 (.ret (.inr (Sum.inl ())))
 (.ret (.inl (w1 s))))))
 (.ret (.inr (Sum.inr (())))))
def acL (x:(List (Int×I3×I3×I2))):Bool:=
 (ak (run (nH x) 0) fun r=>
 (Sum.elim (fun a=>
 false) (fun b=>
 true) r))
def Ap (x:(List (Int×I3×I3×I2))):Prop:=
 (Term (nH x) (D2 x) 0)
def ank (x:(List (Int×I3×I3×I2))):Tr Bool true:=
 (aI.lp (WI x) (Mi x) z0 fun r=>
 (.Jr r (fun a=>
 (.ret false)) (fun b=>
 (.ret true))))
abbrev J0:bF:=⟨(.one (Ty.sl (Ty.prod yi (Ty.prod aG (Ty.prod aG dh))))),(.one Ty.bool),Ap,acL⟩
theorem ajD:aq Tryz.prog 53 (ah J0):=bS J0 ank (fn:=Tryz.f53) q8 (aH.nil _ _) (fun x=>(bX q8 0 (WI x) (Mi x) aK.nil))
def XS:List (Nat×Ev.Spec):=(53,ah J0)::IC
theorem IA:aj Tryz.prog XS:=aA (fn:=Tryz.f53) ajD q8
def Aq (x:Int):Bool:=
 (if (x>=(-8192)) then
 (decide (x<=8192)) else
 false)
def WL (_:Int):Prop:=True
def afu (x:Int):Tr Bool false:=
 (.iz (x>=(-8192))
 (.ret (decide (x<=8192)))
 (.ret false))
abbrev qj:bF:=⟨(.one yi),(.one Ty.bool),WL,Aq⟩
theorem aaz:aq Tryz.prog 117 (ah qj):=aM qj afu (fn:=Tryz.f117) IA
def Nf:List (Nat×Ev.Spec):=(117,ah qj)::XS
theorem By:aj Tryz.prog Nf:=aA (fn:=Tryz.f117) aaz IA
def TE (x:I3):Bool:=
 (ak (Aq x.1) fun y=>
 (if (y=true) then
 (ak (Aq x.2.1) fun aB=>
 (if (aB=true) then
 (ak (Aq x.2.2) fun y_2=>
 y_2) else
 false)) else
 false))
def WH (_:I3):Prop:=True
def afr (x:I3):Tr Bool false:=
 (.fn0 qj x.1 trivial fun y=>
 (.iY y
 (.fn0 qj x.2.1 trivial fun aB=>
 (.iY aB
 (.fn0 qj x.2.2 trivial fun y_2=>
 (.ret y_2))
 (.ret false)))
 (.ret false)))
abbrev Ao:bF:=⟨(.agg aG),(.one Ty.bool),WH,TE⟩
theorem aax:aq Tryz.prog 91 (ah Ao):=aM Ao afr (fn:=Tryz.f91) By
def Nd:List (Nat×Ev.Spec):=(91,ah Ao)::Nf
theorem Bx:aj Tryz.prog Nd:=aA (fn:=Tryz.f91) aax By
def WJ (x:I3):I3:=
 ((au (0- x.1)),(au (0- x.2.1)),(au (0- x.2.2)))
def TF (_:I3):Prop:=True
def aay (x:I3):Tr I3 false:=
 (.ret ((au (z0- x.1)),(au (z0- x.2.1)),(au (z0- x.2.2))))
abbrev qP:bF:=⟨(.agg aG),(.agg aG),TF,WJ⟩
theorem WK:aq Tryz.prog 92 (ah qP):=aM qP aay (fn:=Tryz.f92) Bx
def IB:List (Nat×Ev.Spec):=(92,ah qP)::Nd
theorem ze:aj Tryz.prog IB:=aA (fn:=Tryz.f92) WK Bx
def sr (x:((Int×I3×I3×I2)×I3)):Tr (I3×I3×Int) true:=
 (.fn0 qQ x.1 trivial fun y=>
 (.gG (!y)
 (.ret (bn,bn,1))
 (.fn0 Ao x.2 trivial fun aB=>
 (.gG (!aB)
 (.ret (bn,bn,5))
 (.b11 (x.1.1==1)
 (.fn iT x.1.2.2.1 fun y_2=>
 (.fn0 qP y_2.1 trivial fun bI=>
 (.ret (bI,((au (x.2.1+(au (4*bI.1)))),(au (x.2.2.1+(au (4*bI.2.1)))),(au (x.2.2.2+(au (4*bI.2.2))))),0))))
 (.gG ((x.2.1==x.1.2.1.1)&&((x.2.2.1==x.1.2.1.2.1)&&((x.2.2.2==x.1.2.1.2.2)&&true)))
 (.ret (bn,bn,3))
 (.fn iT ((au (x.1.2.1.1- x.2.1)),(au (x.1.2.1.2.1- x.2.2.1)),(au (x.1.2.1.2.2- x.2.2.2))) fun y_2=>
 (.ret (y_2.1,x.1.2.1,0)))))))))
def Gz (x:((Int×I3×I3×I2)×I3)):(I3×I3×Int):=(sr x).val
def sY (x:((Int×I3×I3×I2)×I3)):Prop:=(sr x).pre
abbrev oC:bF:=⟨(.pair (.agg (Ty.prod yi (Ty.prod aG (Ty.prod aG dh)))) (.agg aG)),(.pair (.agg aG) (.pair (.agg aG) (.one yi))),sY,Gz⟩
theorem TJ:aq Tryz.prog 55 (ah oC):=aM oC sr (fn:=Tryz.f55) ze
def E3:List (Nat×Ev.Spec):=(55,ah oC)::IB
theorem wQ:aj Tryz.prog E3:=aA (fn:=Tryz.f55) TJ ze
def vP (x:((Int×I3×I3×I2)×I3×I3)):Tr I2 true:=
 (.fn oC (x.1,x.2.1) fun y=>
 (.gG (y.2.2==3)
 (.ret uQ)
 (.gG (y.2.2 !=0)
 (.ret (0,y.2.2))
 (.fn iT x.2.2 fun aB=>
 (.gG (aB.2 !=0)
 (.ret (0,aB.2))
 (.fn0 yq (aB.1,y.1) trivial fun y_2=>
 (.BQ (x.1.1==3)
 (.fn iT x.1.2.2.1 fun bI=>
 (.fn0 qP y.1 trivial fun dG=>
 (.fn0 yq (bI.1,dG) trivial fun tw=>
 (.iz (tw.1<x.1.2.2.2.2)
 (.ret uQ)
 (.ret ((au (Int.tdiv (au (y_2.1*x.1.2.2.2.1)) 1024)),0))))))
 (.ret ((au (Int.tdiv (au (y_2.1*x.1.2.2.2.1)) 1024)),0)))))))))
def Mj (x:((Int×I3×I3×I2)×I3×I3)):I2:=(vP x).val
def vO (x:((Int×I3×I3×I2)×I3×I3)):Prop:=(vP x).pre
abbrev vN:bF:=⟨(.pair (.agg (Ty.prod yi (Ty.prod aG (Ty.prod aG dh)))) (.pair (.agg aG) (.agg aG))),(.pair (.one yi) (.one yi)),vO,Mj⟩
theorem WN:aq Tryz.prog 56 (ah vN):=aM vN vP (fn:=Tryz.f56) wQ
def IE:List (Nat×Ev.Spec):=(56,ah vN)::E3
theorem q9:aj Tryz.prog IE:=aA (fn:=Tryz.f56) WN wQ
def Qp (x:(List Int)):aI:=⟨[],⟨cj 26 0 [(0,.v (.one (.full 0))),(3,.v (.one (.i .i64))),(4,.v (.one (.i .i64)))],[.row yi 0],0,none,[],[2],[0,1],[.i,.i],[.l yi x]⟩,[⟨(.exit 0),.normal,⟨cj 26 0 [(3,.v (.one (.i .i64)))],[],0,none,[],[],[0],[.i],[]⟩⟩]⟩
def jD (x:(List Int)) (s:I2):Tr (I2⊕Int) true:=
 (.i10 (s.2<(x.length:Int))
 (.oR s.2 (x.length:Int)
 (.od (s.2.toNat<x.length)
 (.od (s.2.toNat<x.length)
 (.i10 ((x.getD s.2.toNat 0)>0)
 (.oR s.2 (x.length:Int)
 (.od (s.2.toNat<x.length)
 (.od (s.2.toNat<x.length)
 (.ret (.inl ((au (s.1- (bB (x.getD s.2.toNat 0) s.1))),(au (s.2+1))))))))
 (.ret (.inl (s.1,(au (s.2+1)))))))))
 (.ret (.inr (s.1))))
abbrev eJ (x:(List Int)) (s:I2):I2⊕Int:=(jD x s).val
abbrev nI (x:(List Int)) (s:I2):Prop:=(jD x s).pre
def Mk (x:(List Int)):Int:=
 (ak (run (eJ x) (255,0)) fun (r:Int)=>
 (au (255- r)))
def qR (x:(List Int)):Prop:=
 (Term (eJ x) (nI x) (255,0))
def ajE (x:(List Int)):Tr Int true:=
 (aI.lp (Qp x) (jD x) (255,z0) fun (r:Int)=>
 (.ret (au (255- r))))
abbrev yx:bF:=⟨(.one (Ty.sl yi)),(.one yi),qR,Mk⟩
theorem afv:aq Tryz.prog 57 (ah yx):=bS yx ajE (fn:=Tryz.f57) q9 (aH.nil _ _) (fun x=>(bX q9 0 (Qp x) (jD x) aK.nil))
def Ro:List (Nat×Ev.Spec):=(57,ah yx)::IE
theorem E2:aj Tryz.prog Ro:=aA (fn:=Tryz.f57) afv q9
end Go.Proofs.YtngdehlpoomaiaaGreat
