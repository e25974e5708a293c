/- Models of functions of layers 1, 3, 9, 12, 13: fractions, hits, boxes that are met. -/
import Derived.Test.YtngdehlpoomaiaaGreatUc
noncomputable section
set_option linter.unusedSectionVars false
set_option linter.unusedVariables false
set_option linter.unusedSimpArgs false
namespace Go.Proofs.YtngdehlpoomaiaaGreat
open Go Go.Ev Go.Proofs
def abp (x:I2):Bool:=
 (if (x.2>=0) then
 (if (x.2<1000000000000000000) then
 (if (x.1>=(-4000000000000000000)) then
 (decide (x.1<=4000000000000000000)) else
 false) else
 false) else
 false)
def abq (_:I2):Prop:=True
def ag7 (x:I2):Tr Bool false:=
 (.oq (x.2>=z0)
 (.oq (x.2<1000000000000000000)
 (.oq (x.1>=(-4000000000000000000))
 (.ret (decide (x.1<=4000000000000000000)))
 (.ret false))
 (.ret false))
 (.ret false))
abbrev Hw:cf:=⟨(.agg gZ),(.one Ty.bool),abq,abp⟩
theorem aej:ah Tryz.prog 240 (ak Hw):=ah.tr Hw ag7 (fn:=Tryz.f240) az Ka mixed (by kernel_rfl) (av.nil _ _) (fun x=>ax.nil) (fun x=>(by kernel_rfl)) fun x Q=>(by kernel_rfl)
def Ui:List (Nat×Ev.Spec):=(240,ak Hw)::aaL
theorem GM:af Tryz.prog Ui:=af.add (fn:=Tryz.f240) (by kernel_rfl) aej Ka
def Sr (x:I2):(I2×Int):=
 (aj (abp x) fun y=>
 (if ((!y)=true) then
 ((0,0),4) else
 (x,0)))
def Ss (_:I2):Prop:=True
def abx (x:I2):Tr (I2×Int) false:=
 (.fn0 Hw x trivial fun y=>
 (.iQ (!y)
 (.ret (A2,4))
 (.ret (x,z0))))
abbrev AU:cf:=⟨(.agg gZ),(.pair (.agg gZ) (.one yi)),Ss,Sr⟩
theorem Xe:ah Tryz.prog 241 (ak AU):=ah.tr AU abx (fn:=Tryz.f241) az GM mixed (by kernel_rfl) (av.nil _ _) (fun x=>ax.nil) (fun x=>(by kernel_rfl)) fun x Q=>(by kernel_rfl)
def Kv:List (Nat×Ev.Spec):=(241,ak AU)::Ui
theorem AG:af Tryz.prog Kv:=af.add (fn:=Tryz.f241) (by kernel_rfl) Xe GM
def ael (x:I2):(I2×Int):=
 (aj (abp x) fun y=>
 (if ((!y)=true) then
 ((0,0),1) else
 (if ((x.2==0)=true) then
 (((au (0- x.1)),0),0) else
 (aj (Sr ((au ((au (0- x.1))- 1)),(au (1000000000000000000- x.2)))) fun aA=>
 aA))))
def abv (_:I2):Prop:=True
def ag9 (x:I2):Tr (I2×Int) false:=
 (.fn0 Hw x trivial fun y=>
 (.iQ (!y)
 (.ret (A2,z1))
 (.iQ (x.2==z0)
 (.ret (((au (z0- x.1)),z0),z0))
 (.fn0 AU ((wm (au (z0- x.1))),(au (1000000000000000000- x.2))) trivial fun aA=>
 (.ret aA)))))
abbrev Mk:cf:=⟨(.agg gZ),(.pair (.agg gZ) (.one yi)),abv,ael⟩
theorem aem:ah Tryz.prog 234 (ak Mk):=ah.tr Mk ag9 (fn:=Tryz.f234) az AG mixed (by kernel_rfl) (av.nil _ _) (fun x=>ax.nil) (fun x=>(by kernel_rfl)) fun x Q=>(by kernel_rfl)
def Uk:List (Nat×Ev.Spec):=(234,ak Mk)::Kv
theorem GO:af Tryz.prog Uk:=af.add (fn:=Tryz.f234) (by kernel_rfl) aem AG
def D3 (x:Int):I2:=
 ((au (Int.tdiv x 1000000000)),(Int.tmod x 1000000000))
def P0 (_:Int):Prop:=True
def Xb (x:Int):Tr I2 false:=
 (.ret ((au (Int.tdiv x 1000000000)),(Int.tmod x 1000000000)))
abbrev ri:cf:=⟨(.one yi),(.agg gZ),P0,D3⟩
theorem Sl:ah Tryz.prog 233 (ak ri):=ah.tr ri Xb (fn:=Tryz.f233) az GO mixed (by kernel_rfl) (av.nil _ _) (fun x=>ax.nil) (fun x=>(by kernel_rfl)) fun x Q=>(by kernel_rfl)
def GL:List (Nat×Ev.Spec):=(233,ak ri)::Uk
theorem xw:af Tryz.prog GL:=af.add (fn:=Tryz.f233) (by kernel_rfl) Sl GO
def So (x:I2):(I2×Int):=
 (if ((aT x.1 x.2)>1000000000000000000) then
 ((0,0),2) else
 (if ((aY x.1 x.2)<(-1000000000000000000)) then
 ((0,0),2) else
 (aj (D3 (aT x.1 (au (0- x.1)))) fun y=>
 (aj (D3 (aT x.2 (au (0- x.2)))) fun aA=>
 (if ((!((decide (x.1<0))==(decide (x.2<0))))=true) then
 (aj (ael ((au ((au ((au (y.1*aA.1))+(au (Int.tdiv (au ((au (y.1*aA.2))+(au (y.2*aA.1)))) 1000000000))))+(au (Int.tdiv (au ((au (y.2*aA.2))+(au ((Int.tmod (au ((au (y.1*aA.2))+(au (y.2*aA.1)))) 1000000000)*1000000000)))) 1000000000000000000)))),(Int.tmod (au ((au (y.2*aA.2))+(au ((Int.tmod (au ((au (y.1*aA.2))+(au (y.2*aA.1)))) 1000000000)*1000000000)))) 1000000000000000000))) fun y_2=>
 y_2) else
 (((au ((au ((au (y.1*aA.1))+(au (Int.tdiv (au ((au (y.1*aA.2))+(au (y.2*aA.1)))) 1000000000))))+(au (Int.tdiv (au ((au (y.2*aA.2))+(au ((Int.tmod (au ((au (y.1*aA.2))+(au (y.2*aA.1)))) 1000000000)*1000000000)))) 1000000000000000000)))),(Int.tmod (au ((au (y.2*aA.2))+(au ((Int.tmod (au ((au (y.1*aA.2))+(au (y.2*aA.1)))) 1000000000)*1000000000)))) 1000000000000000000)),0))))))
def abt (_:I2):Prop:=True
def ag8 (x:I2):Tr (I2×Int) false:=
 (.oq ((aT x.1 x.2)>1000000000000000000)
 (.ret (A2,2))
 (.oq ((aY x.1 x.2)<(-1000000000000000000))
 (.ret (A2,2))
 (.fn0 ri (aT x.1 (au (z0- x.1))) trivial fun y=>
 (.fn0 ri (aT x.2 (au (z0- x.2))) trivial fun aA=>
 (.iQ (!((decide (x.1<z0))==(decide (x.2<z0))))
 (.fn0 Mk ((au ((au ((au (y.1*aA.1))+(au (Int.tdiv (au ((au (y.1*aA.2))+(au (y.2*aA.1)))) 1000000000))))+(au (Int.tdiv (au ((au (y.2*aA.2))+(au ((Int.tmod (au ((au (y.1*aA.2))+(au (y.2*aA.1)))) 1000000000)*1000000000)))) 1000000000000000000)))),(Int.tmod (au ((au (y.2*aA.2))+(au ((Int.tmod (au ((au (y.1*aA.2))+(au (y.2*aA.1)))) 1000000000)*1000000000)))) 1000000000000000000)) trivial fun y_2=>
 (.ret y_2))
 (.ret (((au ((au ((au (y.1*aA.1))+(au (Int.tdiv (au ((au (y.1*aA.2))+(au (y.2*aA.1)))) 1000000000))))+(au (Int.tdiv (au ((au (y.2*aA.2))+(au ((Int.tmod (au ((au (y.1*aA.2))+(au (y.2*aA.1)))) 1000000000)*1000000000)))) 1000000000000000000)))),(Int.tmod (au ((au (y.2*aA.2))+(au ((Int.tmod (au ((au (y.1*aA.2))+(au (y.2*aA.1)))) 1000000000)*1000000000)))) 1000000000000000000)),z0)))))))
abbrev Hy:cf:=⟨(.pair (.one yi) (.one yi)),(.pair (.agg gZ) (.one yi)),abt,So⟩
theorem aek:ah Tryz.prog 213 (ak Hy):=ah.tr Hy ag8 (fn:=Tryz.f213) az xw mixed (by kernel_rfl) (av.nil _ _) (fun x=>ax.nil) (fun x=>(by kernel_rfl)) fun x Q=>(by kernel_rfl)
def Uj:List (Nat×Ev.Spec):=(213,ak Hy)::GL
theorem GN:af Tryz.prog Uj:=af.add (fn:=Tryz.f213) (by kernel_rfl) aek xw
def aeh (x:(I2×I2)):Int:=
 (if (((x.1.1==x.2.1)&&((x.1.2==x.2.2)&&true))=true) then
 0 else
 (aj (compare (x.1.1,x.2.1)) fun y=>
 (aj (compare (x.1.2,x.2.2)) fun aA=>
 (aj (EA [y,aA]) fun y_2=>
 y_2))))
def Hu (x:(I2×I2)):Prop:=
 (¬(((x.1.1==x.2.1)&&((x.1.2==x.2.2)&&true))=true)->
 (aB (compare (x.1.1,x.2.1)) fun y=>
 (aB (compare (x.1.2,x.2.2)) fun aA=>
 (nI [y,aA]))))
def ag6 (x:(I2×I2)):Tr Int true:=
 (.kO ((x.1.1==x.2.1)&&((x.1.2==x.2.2)&&true))
 (.ret z0)
 (.fn0 eL (x.1.1,x.2.1) trivial fun y=>
 (.fn0 eL (x.1.2,x.2.2) trivial fun aA=>
 (.fn rD [y,aA] fun y_2=>
 (.ret y_2)))))
abbrev Mj:cf:=⟨(.pair (.agg gZ) (.agg gZ)),(.one yi),Hu,aeh⟩
theorem aei:ah Tryz.prog 214 (ak Mj):=ah.tr Mj ag6 (fn:=Tryz.f214) az GN mixed (by kernel_rfl) (av.nil _ _) (fun x=>ax.nil) (fun x=>(by kernel_rfl)) fun x Q=>(by kernel_rfl)
def Uh:List (Nat×Ev.Spec):=(214,ak Mj)::Uj
theorem GK:af Tryz.prog Uh:=af.add (fn:=Tryz.f214) (by kernel_rfl) aei GN
def xO (x:I2):Bool:=
 (if (x.2>=1) then
 (if (x.2<=1000000000000000000) then
 (if (x.1>=(-1000000000000000000)) then
 (decide (x.1<=1000000000000000000)) else
 false) else
 false) else
 false)
def QA (_:I2):Prop:=True
def YA (x:I2):Tr Bool false:=
 (.oq (x.2>=z1)
 (.oq (x.2<=1000000000000000000)
 (.oq (x.1>=(-1000000000000000000))
 (.ret (decide (x.1<=1000000000000000000)))
 (.ret false))
 (.ret false))
 (.ret false))
abbrev tT:cf:=⟨(.agg gZ),(.one Ty.bool),QA,xO⟩
theorem Vn:ah Tryz.prog 212 (ak tT):=ah.tr tT YA (fn:=Tryz.f212) az GK mixed (by kernel_rfl) (av.nil _ _) (fun x=>ax.nil) (fun x=>(by kernel_rfl)) fun x Q=>(by kernel_rfl)
def JY:List (Nat×Ev.Spec):=(212,ak tT)::Uh
theorem Ak:af Tryz.prog JY:=af.add (fn:=Tryz.f212) (by kernel_rfl) Vn GK
def fto (x:(I2×I2)):Int:=
 (aj (xO x.1) fun y=>
 (aj (xO x.2) fun aA=>
 (if (y=true) then
 (if (aA=true) then
 (aj (So (x.1.1,x.2.2)) fun y_2=>
 (aj (So (x.2.1,x.1.2)) fun bg=>
 (aj (aeh (y_2.1,bg.1)) fun bW=>
 bW))) else
 (if (aA=true) then
 (-1) else
 (if (y=true) then
 1 else
 (aj (compare (x.1.1,x.2.1)) fun y_2=>
 (aj (compare (x.1.2,x.2.2)) fun bg=>
 (aj (EA [y_2,bg]) fun bW=>
 bW)))))) else
 (if (aA=true) then
 (-1) else
 (if (y=true) then
 1 else
 (aj (compare (x.1.1,x.2.1)) fun y_2=>
 (aj (compare (x.1.2,x.2.2)) fun bg=>
 (aj (EA [y_2,bg]) fun bW=>
 bW))))))))
def Lj (x:(I2×I2)):Prop:=
 (aB (xO x.1) fun y=>
 (aB (xO x.2) fun aA=>
 (((y=true)->
 (((aA=true)->
 (aB (So (x.1.1,x.2.2)) fun y_2=>
 (aB (So (x.2.1,x.1.2)) fun bg=>
 (Hu (y_2.1,bg.1)))))/\
 (¬(aA=true)->
 (¬(aA=true)->
 (¬(y=true)->
 (aB (compare (x.1.1,x.2.1)) fun y_2=>
 (aB (compare (x.1.2,x.2.2)) fun bg=>
 (nI [y_2,bg]))))))))/\
 (¬(y=true)->
 (¬(aA=true)->
 (¬(y=true)->
 (aB (compare (x.1.1,x.2.1)) fun y_2=>
 (aB (compare (x.1.2,x.2.2)) fun bg=>
 (nI [y_2,bg])))))))))
def ah4 (x:(I2×I2)):Tr Int true:=
 (.fn0 tT x.1 trivial fun y=>
 (.fn0 tT x.2 trivial fun aA=>
 (.Dq y
 (.Dq aA
 (.fn0 Hy (x.1.1,x.2.2) trivial fun y_2=>
 (.fn0 Hy (x.2.1,x.1.2) trivial fun bg=>
 (.fn Mj (y_2.1,bg.1) fun bW=>
 (.ret bW))))
 (.kO aA
 (.ret (-1))
 (.kO y
 (.ret z1)
 (.fn0 eL (x.1.1,x.2.1) trivial fun y_2=>
 (.fn0 eL (x.1.2,x.2.2) trivial fun bg=>
 (.fn rD [y_2,bg] fun bW=>
 (.ret bW)))))))
 (.kO aA
 (.ret (-1))
 (.kO y
 (.ret z1)
 (.fn0 eL (x.1.1,x.2.1) trivial fun y_2=>
 (.fn0 eL (x.1.2,x.2.2) trivial fun bg=>
 (.fn rD [y_2,bg] fun bW=>
 (.ret bW)))))))))
abbrev SZ:cf:=⟨(.pair (.agg gZ) (.agg gZ)),(.one yi),Lj,fto⟩
theorem afJ:ah Tryz.prog 189 (ak SZ):=ah.tr SZ ah4 (fn:=Tryz.f189) az Ak mixed (by kernel_rfl) (av.nil _ _) (fun x=>ax.nil) (fun x=>(by kernel_rfl)) fun x Q=>(by kernel_rfl)
def aaH:List (Nat×Ev.Spec):=(189,ak SZ)::JY
theorem JZ:af Tryz.prog aaH:=af.add (fn:=Tryz.f189) (by kernel_rfl) afJ Ak
def HL (x:(I2×I2)):Int:=
 (aj (fto x) fun y=>
 y)
def n8 (x:(I2×I2)):Prop:=
 (Lj x)
def afH (x:(I2×I2)):Tr Int true:=
 (.fn SZ x fun y=>
 (.ret y))
abbrev xM:cf:=⟨(.pair (.agg gZ) (.agg gZ)),(.one yi),n8,HL⟩
theorem acv:ah Tryz.prog 171 (ak xM):=ah.tr xM afH (fn:=Tryz.f171) az JZ mixed (by kernel_rfl) (av.nil _ _) (fun x=>ax.nil) (fun x=>(by kernel_rfl)) fun x Q=>(by kernel_rfl)
def TU:List (Nat×Ev.Spec):=(171,ak xM)::aaH
theorem Gg:af Tryz.prog TU:=af.add (fn:=Tryz.f171) (by kernel_rfl) acv JZ
def ZZ (x:(Int×Int×Int×I2×I2)):(Bool×Bool×Bool×Bool×I2×I2):=
 (aj (HL ((x.1,x.2.2.1),x.2.2.2.1)) fun y=>
 (if (y>0) then
 (aj (HL ((x.2.1,x.2.2.1),x.2.2.2.2)) fun aA=>
 (if (aA<0) then
 (false,false,false,false,(x.1,x.2.2.1),x.2.1,x.2.2.1) else
 (false,false,false,false,(x.1,x.2.2.1),x.2.2.2.2))) else
 (aj (HL ((x.2.1,x.2.2.1),x.2.2.2.2)) fun aA=>
 (if (aA<0) then
 (false,false,false,false,x.2.2.2.1,x.2.1,x.2.2.1) else
 (false,false,false,false,x.2.2.2)))))
def uK (x:(Int×Int×Int×I2×I2)):Prop:=
 ((n8 ((x.1,x.2.2.1),x.2.2.2.1))/\
 aB (HL ((x.1,x.2.2.1),x.2.2.2.1)) fun y=>
 (((y>0)->
 (n8 ((x.2.1,x.2.2.1),x.2.2.2.2)))/\
 (¬(y>0)->
 (n8 ((x.2.1,x.2.2.1),x.2.2.2.2)))))
def agI (x:(Int×Int×Int×I2×I2)):Tr (Bool×Bool×Bool×Bool×I2×I2) true:=
 (.fn xM ((x.1,x.2.2.1),x.2.2.2.1) fun y=>
 (.i11 (y>z0)
 (.fn xM ((x.2.1,x.2.2.1),x.2.2.2.2) fun aA=>
 (.oq (aA<z0)
 (.pn 0 2
 (.ret (false,false,false,false,(x.1,x.2.2.1),x.2.1,x.2.2.1)))
 (.pn 0 2
 (.ret (false,false,false,false,(x.1,x.2.2.1),x.2.2.2.2)))))
 (.fn xM ((x.2.1,x.2.2.1),x.2.2.2.2) fun aA=>
 (.oq (aA<z0)
 (.pn 0 2
 (.ret (false,false,false,false,x.2.2.2.1,x.2.1,x.2.2.1)))
 (.pn 0 2
 (.ret (false,false,false,false,x.2.2.2)))))))
abbrev FG:FnW:=⟨(.pair (.val (.one yi)) (.pair (.val (.one yi)) (.pair (.val (.one yi)) (.pair (.ptr (.prod (.int .i64) (.int .i64)) 159) (.ptr (.prod (.int .i64) (.int .i64)) 159))))),.none,uK,ZZ⟩
theorem adx:ah Tryz.prog 170 (kg FG):=ah.trW FG agI (fn:=Tryz.f170) az Gg mixed (by kernel_rfl) (av.nil _ _) (fun x=>ax.nil) (fun x=>(by kernel_rfl)) fun x r0 Q=>(by kernel_rfl)
def Uc:List (Nat×Ev.Spec):=(170,kg FG)::TU
theorem yo:af Tryz.prog Uc:=af.add (fn:=Tryz.f170) (by kernel_rfl) adx Gg
def Jo (x:(I3×I9)):aL:=⟨[],⟨dL 113 0 [(8,.v (.one (.ptr 0 0))),(9,.v (.one (.ptr 1 0))),(10,.v (.one (.iT 170 0 [.loc 0 0,.loc 1 0]))),(11,.v (.one (.ptr 2 0))),(12,.v (.one (.ptr 3 0))),(13,.v (.one (.ptr 4 0))),(14,.v (.one (.ptr 5 0))),(40,.v (.one (.i .i64)))],[.cells [.i .i64,.i .i64] 159,.cells [.i .i64,.i .i64] 159,.cells [.i .i64,.i .i64,.i .i64] 124,.cells [.i .i64,.i .i64,.i .i64] 124,.cells [.i .i64,.i .i64,.i .i64] 124,.cells [.i .i64,.i .i64,.i .i64] 124],0,none,[],[],[1,2,3,4,5,6,7,8,9,10,11,12,13,14,15,16,0],[.i,.i,.i,.i,.i,.i,.i,.i,.i,.i,.i,.i,.i,.i,.i,.i,.i],[]⟩,[⟨.ret,.ret,⟨dL 113 0 [(6,.v (.one (.b))),(7,.v (.one (.i .i64)))],[],0,none,[],[0,1],[],[],[.b false,.i 0]⟩⟩,⟨(.exit 1),.normal,⟨dL 113 0 [(8,.v (.one (.ptr 0 0))),(9,.v (.one (.ptr 1 0)))],[.cells [.i .i64,.i .i64] 159,.cells [.i .i64,.i .i64] 159],0,none,[],[],[0,1,2,3],[.i,.i,.i,.i],[]⟩⟩]⟩
def dZ (x:(I3×I9)) (s:(Int×Int×Int×Int×Int×Int×Int×Int×Int×Int×Int×Int×Int×Int×I3)):(Int×Int×Int×Int×Int×Int×Int×Int×Int×Int×Int×Int×Int×Int×I3)⊕(Unit⊕(Int×I3)):=
 (if (s.2.2.2.2.2.2.2.2.2.2.2.2.2.2.2.2<3) then
 (if ((au ((List.getD [s.2.2.2.2.2.2.2.1,s.2.2.2.2.2.2.2.2.1,s.2.2.2.2.2.2.2.2.2.1] (0+(s.2.2.2.2.2.2.2.2.2.2.2.2.2.2.2.2.toNat*1)) 0)- (List.getD [s.2.2.2.2.1,s.2.2.2.2.2.1,s.2.2.2.2.2.2.1] (0+(s.2.2.2.2.2.2.2.2.2.2.2.2.2.2.2.2.toNat*1)) 0)))>0) then
 (aj (ZZ ((au ((List.getD [s.2.2.2.2.2.2.2.2.2.2.1,s.2.2.2.2.2.2.2.2.2.2.2.1,s.2.2.2.2.2.2.2.2.2.2.2.2.1] (0+(s.2.2.2.2.2.2.2.2.2.2.2.2.2.2.2.2.toNat*1)) 0)- (List.getD [s.2.2.2.2.1,s.2.2.2.2.2.1,s.2.2.2.2.2.2.1] (0+(s.2.2.2.2.2.2.2.2.2.2.2.2.2.2.2.2.toNat*1)) 0))),(au ((List.getD [s.2.2.2.2.2.2.2.2.2.2.2.2.2.1,s.2.2.2.2.2.2.2.2.2.2.2.2.2.2.1,s.2.2.2.2.2.2.2.2.2.2.2.2.2.2.2.1] (0+(s.2.2.2.2.2.2.2.2.2.2.2.2.2.2.2.2.toNat*1)) 0)- (List.getD [s.2.2.2.2.1,s.2.2.2.2.2.1,s.2.2.2.2.2.2.1] (0+(s.2.2.2.2.2.2.2.2.2.2.2.2.2.2.2.2.toNat*1)) 0))),(au ((List.getD [s.2.2.2.2.2.2.2.1,s.2.2.2.2.2.2.2.2.1,s.2.2.2.2.2.2.2.2.2.1] (0+(s.2.2.2.2.2.2.2.2.2.2.2.2.2.2.2.2.toNat*1)) 0)- (List.getD [s.2.2.2.2.1,s.2.2.2.2.2.1,s.2.2.2.2.2.2.1] (0+(s.2.2.2.2.2.2.2.2.2.2.2.2.2.2.2.2.toNat*1)) 0))),(s.1,s.2.1),s.2.2.1,s.2.2.2.1)) fun y=>
 (Sum.inl (y.2.2.2.2.1.1,y.2.2.2.2.1.2,y.2.2.2.2.2.1,y.2.2.2.2.2.2,s.2.2.2.2.1,s.2.2.2.2.2.1,s.2.2.2.2.2.2.1,s.2.2.2.2.2.2.2.1,s.2.2.2.2.2.2.2.2.1,s.2.2.2.2.2.2.2.2.2.1,s.2.2.2.2.2.2.2.2.2.2.1,s.2.2.2.2.2.2.2.2.2.2.2.1,s.2.2.2.2.2.2.2.2.2.2.2.2.1,s.2.2.2.2.2.2.2.2.2.2.2.2.2.1,s.2.2.2.2.2.2.2.2.2.2.2.2.2.2.1,s.2.2.2.2.2.2.2.2.2.2.2.2.2.2.2.1,(au (s.2.2.2.2.2.2.2.2.2.2.2.2.2.2.2.2+1))))) else
 (if ((au ((List.getD [s.2.2.2.2.2.2.2.1,s.2.2.2.2.2.2.2.2.1,s.2.2.2.2.2.2.2.2.2.1] (0+(s.2.2.2.2.2.2.2.2.2.2.2.2.2.2.2.2.toNat*1)) 0)- (List.getD [s.2.2.2.2.1,s.2.2.2.2.2.1,s.2.2.2.2.2.2.1] (0+(s.2.2.2.2.2.2.2.2.2.2.2.2.2.2.2.2.toNat*1)) 0)))<0) then
 (aj (ZZ ((au ((List.getD [s.2.2.2.2.1,s.2.2.2.2.2.1,s.2.2.2.2.2.2.1] (0+(s.2.2.2.2.2.2.2.2.2.2.2.2.2.2.2.2.toNat*1)) 0)- (List.getD [s.2.2.2.2.2.2.2.2.2.2.2.2.2.1,s.2.2.2.2.2.2.2.2.2.2.2.2.2.2.1,s.2.2.2.2.2.2.2.2.2.2.2.2.2.2.2.1] (0+(s.2.2.2.2.2.2.2.2.2.2.2.2.2.2.2.2.toNat*1)) 0))),(au ((List.getD [s.2.2.2.2.1,s.2.2.2.2.2.1,s.2.2.2.2.2.2.1] (0+(s.2.2.2.2.2.2.2.2.2.2.2.2.2.2.2.2.toNat*1)) 0)- (List.getD [s.2.2.2.2.2.2.2.2.2.2.1,s.2.2.2.2.2.2.2.2.2.2.2.1,s.2.2.2.2.2.2.2.2.2.2.2.2.1] (0+(s.2.2.2.2.2.2.2.2.2.2.2.2.2.2.2.2.toNat*1)) 0))),(au (0- (au ((List.getD [s.2.2.2.2.2.2.2.1,s.2.2.2.2.2.2.2.2.1,s.2.2.2.2.2.2.2.2.2.1] (0+(s.2.2.2.2.2.2.2.2.2.2.2.2.2.2.2.2.toNat*1)) 0)- (List.getD [s.2.2.2.2.1,s.2.2.2.2.2.1,s.2.2.2.2.2.2.1] (0+(s.2.2.2.2.2.2.2.2.2.2.2.2.2.2.2.2.toNat*1)) 0))))),(s.1,s.2.1),s.2.2.1,s.2.2.2.1)) fun y=>
 (Sum.inl (y.2.2.2.2.1.1,y.2.2.2.2.1.2,y.2.2.2.2.2.1,y.2.2.2.2.2.2,s.2.2.2.2.1,s.2.2.2.2.2.1,s.2.2.2.2.2.2.1,s.2.2.2.2.2.2.2.1,s.2.2.2.2.2.2.2.2.1,s.2.2.2.2.2.2.2.2.2.1,s.2.2.2.2.2.2.2.2.2.2.1,s.2.2.2.2.2.2.2.2.2.2.2.1,s.2.2.2.2.2.2.2.2.2.2.2.2.1,s.2.2.2.2.2.2.2.2.2.2.2.2.2.1,s.2.2.2.2.2.2.2.2.2.2.2.2.2.2.1,s.2.2.2.2.2.2.2.2.2.2.2.2.2.2.2.1,(au (s.2.2.2.2.2.2.2.2.2.2.2.2.2.2.2.2+1))))) else
 (if ((List.getD [s.2.2.2.2.1,s.2.2.2.2.2.1,s.2.2.2.2.2.2.1] (0+(s.2.2.2.2.2.2.2.2.2.2.2.2.2.2.2.2.toNat*1)) 0)<(List.getD [s.2.2.2.2.2.2.2.2.2.2.1,s.2.2.2.2.2.2.2.2.2.2.2.1,s.2.2.2.2.2.2.2.2.2.2.2.2.1] (0+(s.2.2.2.2.2.2.2.2.2.2.2.2.2.2.2.2.toNat*1)) 0)) then
 (Sum.inr (Sum.inl ())) else
 (if ((List.getD [s.2.2.2.2.1,s.2.2.2.2.2.1,s.2.2.2.2.2.2.1] (0+(s.2.2.2.2.2.2.2.2.2.2.2.2.2.2.2.2.toNat*1)) 0)>(List.getD [s.2.2.2.2.2.2.2.2.2.2.2.2.2.1,s.2.2.2.2.2.2.2.2.2.2.2.2.2.2.1,s.2.2.2.2.2.2.2.2.2.2.2.2.2.2.2.1] (0+(s.2.2.2.2.2.2.2.2.2.2.2.2.2.2.2.2.toNat*1)) 0)) then
 (Sum.inr (Sum.inl ())) else
 (Sum.inl (s.1,s.2.1,s.2.2.1,s.2.2.2.1,s.2.2.2.2.1,s.2.2.2.2.2.1,s.2.2.2.2.2.2.1,s.2.2.2.2.2.2.2.1,s.2.2.2.2.2.2.2.2.1,s.2.2.2.2.2.2.2.2.2.1,s.2.2.2.2.2.2.2.2.2.2.1,s.2.2.2.2.2.2.2.2.2.2.2.1,s.2.2.2.2.2.2.2.2.2.2.2.2.1,s.2.2.2.2.2.2.2.2.2.2.2.2.2.1,s.2.2.2.2.2.2.2.2.2.2.2.2.2.2.1,s.2.2.2.2.2.2.2.2.2.2.2.2.2.2.2.1,(au (s.2.2.2.2.2.2.2.2.2.2.2.2.2.2.2.2+1)))))))) else
 (Sum.inr (Sum.inr ((s.1,s.2.1,s.2.2.1,s.2.2.2.1)))))
def lO (x:(I3×I9)) (s:(Int×Int×Int×Int×Int×Int×Int×Int×Int×Int×Int×Int×Int×Int×I3)):Prop:=
 ((s.2.2.2.2.2.2.2.2.2.2.2.2.2.2.2.2<3)->
 (((0<=s.2.2.2.2.2.2.2.2.2.2.2.2.2.2.2.2)/\ (s.2.2.2.2.2.2.2.2.2.2.2.2.2.2.2.2<3))/\
 ((((0+(s.2.2.2.2.2.2.2.2.2.2.2.2.2.2.2.2.toNat*1))+1)<=3)/\
 (((0<=s.2.2.2.2.2.2.2.2.2.2.2.2.2.2.2.2)/\ (s.2.2.2.2.2.2.2.2.2.2.2.2.2.2.2.2<3))/\
 ((((0+(s.2.2.2.2.2.2.2.2.2.2.2.2.2.2.2.2.toNat*1))+1)<=3)/\
 ((((au ((List.getD [s.2.2.2.2.2.2.2.1,s.2.2.2.2.2.2.2.2.1,s.2.2.2.2.2.2.2.2.2.1] (0+(s.2.2.2.2.2.2.2.2.2.2.2.2.2.2.2.2.toNat*1)) 0)- (List.getD [s.2.2.2.2.1,s.2.2.2.2.2.1,s.2.2.2.2.2.2.1] (0+(s.2.2.2.2.2.2.2.2.2.2.2.2.2.2.2.2.toNat*1)) 0)))>0)->
 (((0<=s.2.2.2.2.2.2.2.2.2.2.2.2.2.2.2.2)/\ (s.2.2.2.2.2.2.2.2.2.2.2.2.2.2.2.2<3))/\
 ((((0+(s.2.2.2.2.2.2.2.2.2.2.2.2.2.2.2.2.toNat*1))+1)<=3)/\
 (((0<=s.2.2.2.2.2.2.2.2.2.2.2.2.2.2.2.2)/\ (s.2.2.2.2.2.2.2.2.2.2.2.2.2.2.2.2<3))/\
 ((((0+(s.2.2.2.2.2.2.2.2.2.2.2.2.2.2.2.2.toNat*1))+1)<=3)/\
 (((0<=s.2.2.2.2.2.2.2.2.2.2.2.2.2.2.2.2)/\ (s.2.2.2.2.2.2.2.2.2.2.2.2.2.2.2.2<3))/\
 ((((0+(s.2.2.2.2.2.2.2.2.2.2.2.2.2.2.2.2.toNat*1))+1)<=3)/\
 (((0<=s.2.2.2.2.2.2.2.2.2.2.2.2.2.2.2.2)/\ (s.2.2.2.2.2.2.2.2.2.2.2.2.2.2.2.2<3))/\
 ((((0+(s.2.2.2.2.2.2.2.2.2.2.2.2.2.2.2.2.toNat*1))+1)<=3)/\
 (uK ((au ((List.getD [s.2.2.2.2.2.2.2.2.2.2.1,s.2.2.2.2.2.2.2.2.2.2.2.1,s.2.2.2.2.2.2.2.2.2.2.2.2.1] (0+(s.2.2.2.2.2.2.2.2.2.2.2.2.2.2.2.2.toNat*1)) 0)- (List.getD [s.2.2.2.2.1,s.2.2.2.2.2.1,s.2.2.2.2.2.2.1] (0+(s.2.2.2.2.2.2.2.2.2.2.2.2.2.2.2.2.toNat*1)) 0))),(au ((List.getD [s.2.2.2.2.2.2.2.2.2.2.2.2.2.1,s.2.2.2.2.2.2.2.2.2.2.2.2.2.2.1,s.2.2.2.2.2.2.2.2.2.2.2.2.2.2.2.1] (0+(s.2.2.2.2.2.2.2.2.2.2.2.2.2.2.2.2.toNat*1)) 0)- (List.getD [s.2.2.2.2.1,s.2.2.2.2.2.1,s.2.2.2.2.2.2.1] (0+(s.2.2.2.2.2.2.2.2.2.2.2.2.2.2.2.2.toNat*1)) 0))),(au ((List.getD [s.2.2.2.2.2.2.2.1,s.2.2.2.2.2.2.2.2.1,s.2.2.2.2.2.2.2.2.2.1] (0+(s.2.2.2.2.2.2.2.2.2.2.2.2.2.2.2.2.toNat*1)) 0)- (List.getD [s.2.2.2.2.1,s.2.2.2.2.2.1,s.2.2.2.2.2.2.1] (0+(s.2.2.2.2.2.2.2.2.2.2.2.2.2.2.2.2.toNat*1)) 0))),(s.1,s.2.1),s.2.2.1,s.2.2.2.1)))))))))))/\
 (¬((au ((List.getD [s.2.2.2.2.2.2.2.1,s.2.2.2.2.2.2.2.2.1,s.2.2.2.2.2.2.2.2.2.1] (0+(s.2.2.2.2.2.2.2.2.2.2.2.2.2.2.2.2.toNat*1)) 0)- (List.getD [s.2.2.2.2.1,s.2.2.2.2.2.1,s.2.2.2.2.2.2.1] (0+(s.2.2.2.2.2.2.2.2.2.2.2.2.2.2.2.2.toNat*1)) 0)))>0)->
 ((((au ((List.getD [s.2.2.2.2.2.2.2.1,s.2.2.2.2.2.2.2.2.1,s.2.2.2.2.2.2.2.2.2.1] (0+(s.2.2.2.2.2.2.2.2.2.2.2.2.2.2.2.2.toNat*1)) 0)- (List.getD [s.2.2.2.2.1,s.2.2.2.2.2.1,s.2.2.2.2.2.2.1] (0+(s.2.2.2.2.2.2.2.2.2.2.2.2.2.2.2.2.toNat*1)) 0)))<0)->
 (((0<=s.2.2.2.2.2.2.2.2.2.2.2.2.2.2.2.2)/\ (s.2.2.2.2.2.2.2.2.2.2.2.2.2.2.2.2<3))/\
 ((((0+(s.2.2.2.2.2.2.2.2.2.2.2.2.2.2.2.2.toNat*1))+1)<=3)/\
 (((0<=s.2.2.2.2.2.2.2.2.2.2.2.2.2.2.2.2)/\ (s.2.2.2.2.2.2.2.2.2.2.2.2.2.2.2.2<3))/\
 ((((0+(s.2.2.2.2.2.2.2.2.2.2.2.2.2.2.2.2.toNat*1))+1)<=3)/\
 (((0<=s.2.2.2.2.2.2.2.2.2.2.2.2.2.2.2.2)/\ (s.2.2.2.2.2.2.2.2.2.2.2.2.2.2.2.2<3))/\
 ((((0+(s.2.2.2.2.2.2.2.2.2.2.2.2.2.2.2.2.toNat*1))+1)<=3)/\
 (((0<=s.2.2.2.2.2.2.2.2.2.2.2.2.2.2.2.2)/\ (s.2.2.2.2.2.2.2.2.2.2.2.2.2.2.2.2<3))/\
 ((((0+(s.2.2.2.2.2.2.2.2.2.2.2.2.2.2.2.2.toNat*1))+1)<=3)/\
 (uK ((au ((List.getD [s.2.2.2.2.1,s.2.2.2.2.2.1,s.2.2.2.2.2.2.1] (0+(s.2.2.2.2.2.2.2.2.2.2.2.2.2.2.2.2.toNat*1)) 0)- (List.getD [s.2.2.2.2.2.2.2.2.2.2.2.2.2.1,s.2.2.2.2.2.2.2.2.2.2.2.2.2.2.1,s.2.2.2.2.2.2.2.2.2.2.2.2.2.2.2.1] (0+(s.2.2.2.2.2.2.2.2.2.2.2.2.2.2.2.2.toNat*1)) 0))),(au ((List.getD [s.2.2.2.2.1,s.2.2.2.2.2.1,s.2.2.2.2.2.2.1] (0+(s.2.2.2.2.2.2.2.2.2.2.2.2.2.2.2.2.toNat*1)) 0)- (List.getD [s.2.2.2.2.2.2.2.2.2.2.1,s.2.2.2.2.2.2.2.2.2.2.2.1,s.2.2.2.2.2.2.2.2.2.2.2.2.1] (0+(s.2.2.2.2.2.2.2.2.2.2.2.2.2.2.2.2.toNat*1)) 0))),(au (0- (au ((List.getD [s.2.2.2.2.2.2.2.1,s.2.2.2.2.2.2.2.2.1,s.2.2.2.2.2.2.2.2.2.1] (0+(s.2.2.2.2.2.2.2.2.2.2.2.2.2.2.2.2.toNat*1)) 0)- (List.getD [s.2.2.2.2.1,s.2.2.2.2.2.1,s.2.2.2.2.2.2.1] (0+(s.2.2.2.2.2.2.2.2.2.2.2.2.2.2.2.2.toNat*1)) 0))))),(s.1,s.2.1),s.2.2.1,s.2.2.2.1)))))))))))/\
 (¬((au ((List.getD [s.2.2.2.2.2.2.2.1,s.2.2.2.2.2.2.2.2.1,s.2.2.2.2.2.2.2.2.2.1] (0+(s.2.2.2.2.2.2.2.2.2.2.2.2.2.2.2.2.toNat*1)) 0)- (List.getD [s.2.2.2.2.1,s.2.2.2.2.2.1,s.2.2.2.2.2.2.1] (0+(s.2.2.2.2.2.2.2.2.2.2.2.2.2.2.2.2.toNat*1)) 0)))<0)->
 (((0<=s.2.2.2.2.2.2.2.2.2.2.2.2.2.2.2.2)/\ (s.2.2.2.2.2.2.2.2.2.2.2.2.2.2.2.2<3))/\
 ((((0+(s.2.2.2.2.2.2.2.2.2.2.2.2.2.2.2.2.toNat*1))+1)<=3)/\
 (((0<=s.2.2.2.2.2.2.2.2.2.2.2.2.2.2.2.2)/\ (s.2.2.2.2.2.2.2.2.2.2.2.2.2.2.2.2<3))/\
 ((((0+(s.2.2.2.2.2.2.2.2.2.2.2.2.2.2.2.2.toNat*1))+1)<=3)/\
 (¬((List.getD [s.2.2.2.2.1,s.2.2.2.2.2.1,s.2.2.2.2.2.2.1] (0+(s.2.2.2.2.2.2.2.2.2.2.2.2.2.2.2.2.toNat*1)) 0)<(List.getD [s.2.2.2.2.2.2.2.2.2.2.1,s.2.2.2.2.2.2.2.2.2.2.2.1,s.2.2.2.2.2.2.2.2.2.2.2.2.1] (0+(s.2.2.2.2.2.2.2.2.2.2.2.2.2.2.2.2.toNat*1)) 0))->
 (((0<=s.2.2.2.2.2.2.2.2.2.2.2.2.2.2.2.2)/\ (s.2.2.2.2.2.2.2.2.2.2.2.2.2.2.2.2<3))/\
 ((((0+(s.2.2.2.2.2.2.2.2.2.2.2.2.2.2.2.2.toNat*1))+1)<=3)/\
 (((0<=s.2.2.2.2.2.2.2.2.2.2.2.2.2.2.2.2)/\ (s.2.2.2.2.2.2.2.2.2.2.2.2.2.2.2.2<3))/\
 (((0+(s.2.2.2.2.2.2.2.2.2.2.2.2.2.2.2.2.toNat*1))+1)<=3))))))))))))))))))
def Cx (x:(I3×I9)) (s:(Int×Int×Int×Int×Int×Int×Int×Int×Int×Int×Int×Int×Int×Int×I3)):Tr ((Int×Int×Int×Int×Int×Int×Int×Int×Int×Int×Int×Int×Int×Int×I3)⊕(Unit⊕(Int×I3))) true:=
 (.i10 (s.2.2.2.2.2.2.2.2.2.2.2.2.2.2.2.2<3)
 (.oR s.2.2.2.2.2.2.2.2.2.2.2.2.2.2.2.2 3
 (.od (((0+((tN s.2.2.2.2.2.2.2.2.2.2.2.2.2.2.2.2)*1))+1)<=3)
 (.oR s.2.2.2.2.2.2.2.2.2.2.2.2.2.2.2.2 3
 (.od (((0+((tN s.2.2.2.2.2.2.2.2.2.2.2.2.2.2.2.2)*1))+1)<=3)
 (.i11 ((au ((List.getD [s.2.2.2.2.2.2.2.1,s.2.2.2.2.2.2.2.2.1,s.2.2.2.2.2.2.2.2.2.1] (0+((tN s.2.2.2.2.2.2.2.2.2.2.2.2.2.2.2.2)*1)) z0)- (List.getD [s.2.2.2.2.1,s.2.2.2.2.2.1,s.2.2.2.2.2.2.1] (0+((tN s.2.2.2.2.2.2.2.2.2.2.2.2.2.2.2.2)*1)) z0)))>z0)
 (.oR s.2.2.2.2.2.2.2.2.2.2.2.2.2.2.2.2 3
 (.od (((0+((tN s.2.2.2.2.2.2.2.2.2.2.2.2.2.2.2.2)*1))+1)<=3)
 (.oR s.2.2.2.2.2.2.2.2.2.2.2.2.2.2.2.2 3
 (.od (((0+((tN s.2.2.2.2.2.2.2.2.2.2.2.2.2.2.2.2)*1))+1)<=3)
 (.oR s.2.2.2.2.2.2.2.2.2.2.2.2.2.2.2.2 3
 (.od (((0+((tN s.2.2.2.2.2.2.2.2.2.2.2.2.2.2.2.2)*1))+1)<=3)
 (.oR s.2.2.2.2.2.2.2.2.2.2.2.2.2.2.2.2 3
 (.od (((0+((tN s.2.2.2.2.2.2.2.2.2.2.2.2.2.2.2.2)*1))+1)<=3)
 (.fnW FG ((au ((List.getD [s.2.2.2.2.2.2.2.2.2.2.1,s.2.2.2.2.2.2.2.2.2.2.2.1,s.2.2.2.2.2.2.2.2.2.2.2.2.1] (0+((tN s.2.2.2.2.2.2.2.2.2.2.2.2.2.2.2.2)*1)) z0)- (List.getD [s.2.2.2.2.1,s.2.2.2.2.2.1,s.2.2.2.2.2.2.1] (0+((tN s.2.2.2.2.2.2.2.2.2.2.2.2.2.2.2.2)*1)) z0))),(au ((List.getD [s.2.2.2.2.2.2.2.2.2.2.2.2.2.1,s.2.2.2.2.2.2.2.2.2.2.2.2.2.2.1,s.2.2.2.2.2.2.2.2.2.2.2.2.2.2.2.1] (0+((tN s.2.2.2.2.2.2.2.2.2.2.2.2.2.2.2.2)*1)) z0)- (List.getD [s.2.2.2.2.1,s.2.2.2.2.2.1,s.2.2.2.2.2.2.1] (0+((tN s.2.2.2.2.2.2.2.2.2.2.2.2.2.2.2.2)*1)) z0))),(au ((List.getD [s.2.2.2.2.2.2.2.1,s.2.2.2.2.2.2.2.2.1,s.2.2.2.2.2.2.2.2.2.1] (0+((tN s.2.2.2.2.2.2.2.2.2.2.2.2.2.2.2.2)*1)) z0)- (List.getD [s.2.2.2.2.1,s.2.2.2.2.2.1,s.2.2.2.2.2.2.1] (0+((tN s.2.2.2.2.2.2.2.2.2.2.2.2.2.2.2.2)*1)) z0))),(s.1,s.2.1),s.2.2.1,s.2.2.2.1) fun y=>
 (.ret (.inl (y.2.2.2.2.1.1,y.2.2.2.2.1.2,y.2.2.2.2.2.1,y.2.2.2.2.2.2,s.2.2.2.2.1,s.2.2.2.2.2.1,s.2.2.2.2.2.2.1,s.2.2.2.2.2.2.2.1,s.2.2.2.2.2.2.2.2.1,s.2.2.2.2.2.2.2.2.2.1,s.2.2.2.2.2.2.2.2.2.2.1,s.2.2.2.2.2.2.2.2.2.2.2.1,s.2.2.2.2.2.2.2.2.2.2.2.2.1,s.2.2.2.2.2.2.2.2.2.2.2.2.2.1,s.2.2.2.2.2.2.2.2.2.2.2.2.2.2.1,s.2.2.2.2.2.2.2.2.2.2.2.2.2.2.2.1,(w1 s.2.2.2.2.2.2.2.2.2.2.2.2.2.2.2.2)))))))))))))
 (.i11 ((au ((List.getD [s.2.2.2.2.2.2.2.1,s.2.2.2.2.2.2.2.2.1,s.2.2.2.2.2.2.2.2.2.1] (0+((tN s.2.2.2.2.2.2.2.2.2.2.2.2.2.2.2.2)*1)) z0)- (List.getD [s.2.2.2.2.1,s.2.2.2.2.2.1,s.2.2.2.2.2.2.1] (0+((tN s.2.2.2.2.2.2.2.2.2.2.2.2.2.2.2.2)*1)) z0)))<z0)
 (.oR s.2.2.2.2.2.2.2.2.2.2.2.2.2.2.2.2 3
 (.od (((0+((tN s.2.2.2.2.2.2.2.2.2.2.2.2.2.2.2.2)*1))+1)<=3)
 (.oR s.2.2.2.2.2.2.2.2.2.2.2.2.2.2.2.2 3
 (.od (((0+((tN s.2.2.2.2.2.2.2.2.2.2.2.2.2.2.2.2)*1))+1)<=3)
 (.oR s.2.2.2.2.2.2.2.2.2.2.2.2.2.2.2.2 3
 (.od (((0+((tN s.2.2.2.2.2.2.2.2.2.2.2.2.2.2.2.2)*1))+1)<=3)
 (.oR s.2.2.2.2.2.2.2.2.2.2.2.2.2.2.2.2 3
 (.od (((0+((tN s.2.2.2.2.2.2.2.2.2.2.2.2.2.2.2.2)*1))+1)<=3)
 (.fnW FG ((au ((List.getD [s.2.2.2.2.1,s.2.2.2.2.2.1,s.2.2.2.2.2.2.1] (0+((tN s.2.2.2.2.2.2.2.2.2.2.2.2.2.2.2.2)*1)) z0)- (List.getD [s.2.2.2.2.2.2.2.2.2.2.2.2.2.1,s.2.2.2.2.2.2.2.2.2.2.2.2.2.2.1,s.2.2.2.2.2.2.2.2.2.2.2.2.2.2.2.1] (0+((tN s.2.2.2.2.2.2.2.2.2.2.2.2.2.2.2.2)*1)) z0))),(au ((List.getD [s.2.2.2.2.1,s.2.2.2.2.2.1,s.2.2.2.2.2.2.1] (0+((tN s.2.2.2.2.2.2.2.2.2.2.2.2.2.2.2.2)*1)) z0)- (List.getD [s.2.2.2.2.2.2.2.2.2.2.1,s.2.2.2.2.2.2.2.2.2.2.2.1,s.2.2.2.2.2.2.2.2.2.2.2.2.1] (0+((tN s.2.2.2.2.2.2.2.2.2.2.2.2.2.2.2.2)*1)) z0))),(au (z0- (au ((List.getD [s.2.2.2.2.2.2.2.1,s.2.2.2.2.2.2.2.2.1,s.2.2.2.2.2.2.2.2.2.1] (0+((tN s.2.2.2.2.2.2.2.2.2.2.2.2.2.2.2.2)*1)) z0)- (List.getD [s.2.2.2.2.1,s.2.2.2.2.2.1,s.2.2.2.2.2.2.1] (0+((tN s.2.2.2.2.2.2.2.2.2.2.2.2.2.2.2.2)*1)) z0))))),(s.1,s.2.1),s.2.2.1,s.2.2.2.1) fun y=>
 (.ret (.inl (y.2.2.2.2.1.1,y.2.2.2.2.1.2,y.2.2.2.2.2.1,y.2.2.2.2.2.2,s.2.2.2.2.1,s.2.2.2.2.2.1,s.2.2.2.2.2.2.1,s.2.2.2.2.2.2.2.1,s.2.2.2.2.2.2.2.2.1,s.2.2.2.2.2.2.2.2.2.1,s.2.2.2.2.2.2.2.2.2.2.1,s.2.2.2.2.2.2.2.2.2.2.2.1,s.2.2.2.2.2.2.2.2.2.2.2.2.1,s.2.2.2.2.2.2.2.2.2.2.2.2.2.1,s.2.2.2.2.2.2.2.2.2.2.2.2.2.2.1,s.2.2.2.2.2.2.2.2.2.2.2.2.2.2.2.1,(w1 s.2.2.2.2.2.2.2.2.2.2.2.2.2.2.2.2)))))))))))))
 (.oR s.2.2.2.2.2.2.2.2.2.2.2.2.2.2.2.2 3
 (.od (((0+((tN s.2.2.2.2.2.2.2.2.2.2.2.2.2.2.2.2)*1))+1)<=3)
 (.oR s.2.2.2.2.2.2.2.2.2.2.2.2.2.2.2.2 3
 (.od (((0+((tN s.2.2.2.2.2.2.2.2.2.2.2.2.2.2.2.2)*1))+1)<=3)
 (.HX ((List.getD [s.2.2.2.2.1,s.2.2.2.2.2.1,s.2.2.2.2.2.2.1] (0+((tN s.2.2.2.2.2.2.2.2.2.2.2.2.2.2.2.2)*1)) z0)<(List.getD [s.2.2.2.2.2.2.2.2.2.2.1,s.2.2.2.2.2.2.2.2.2.2.2.1,s.2.2.2.2.2.2.2.2.2.2.2.2.1] (0+((tN s.2.2.2.2.2.2.2.2.2.2.2.2.2.2.2.2)*1)) z0))
 (.ret (.inr (Sum.inl ())))
 (.oR s.2.2.2.2.2.2.2.2.2.2.2.2.2.2.2.2 3
 (.od (((0+((tN s.2.2.2.2.2.2.2.2.2.2.2.2.2.2.2.2)*1))+1)<=3)
 (.oR s.2.2.2.2.2.2.2.2.2.2.2.2.2.2.2.2 3
 (.od (((0+((tN s.2.2.2.2.2.2.2.2.2.2.2.2.2.2.2.2)*1))+1)<=3)
 (.oq ((List.getD [s.2.2.2.2.1,s.2.2.2.2.2.1,s.2.2.2.2.2.2.1] (0+((tN s.2.2.2.2.2.2.2.2.2.2.2.2.2.2.2.2)*1)) z0)>(List.getD [s.2.2.2.2.2.2.2.2.2.2.2.2.2.1,s.2.2.2.2.2.2.2.2.2.2.2.2.2.2.1,s.2.2.2.2.2.2.2.2.2.2.2.2.2.2.2.1] (0+((tN s.2.2.2.2.2.2.2.2.2.2.2.2.2.2.2.2)*1)) z0))
 (.ret (.inr (Sum.inl ())))
 (.ret (.inl (s.1,s.2.1,s.2.2.1,s.2.2.2.1,s.2.2.2.2.1,s.2.2.2.2.2.1,s.2.2.2.2.2.2.1,s.2.2.2.2.2.2.2.1,s.2.2.2.2.2.2.2.2.1,s.2.2.2.2.2.2.2.2.2.1,s.2.2.2.2.2.2.2.2.2.2.1,s.2.2.2.2.2.2.2.2.2.2.2.1,s.2.2.2.2.2.2.2.2.2.2.2.2.1,s.2.2.2.2.2.2.2.2.2.2.2.2.2.1,s.2.2.2.2.2.2.2.2.2.2.2.2.2.2.1,s.2.2.2.2.2.2.2.2.2.2.2.2.2.2.2.1,(w1 s.2.2.2.2.2.2.2.2.2.2.2.2.2.2.2.2))))))))))))))))))))
 (.ret (.inr (Sum.inr ((s.1,s.2.1,s.2.2.1,s.2.2.2.1))))))
def qi (x:(I3×I9)):(Bool×Int):=
 (aj (ef [x.1,x.2.1]) fun y=>
 (if ((!y)=true) then
 (false,5) else
 (aj (qm x.2.2) fun aA=>
 (if ((!aA)=true) then
 (false,1) else
 (aj (parts x.1) fun y_2=>
 (aj (parts x.2.1) fun bg=>
 (aj (parts x.2.2.1) fun bW=>
 (aj (parts x.2.2.2) fun cC=>
 (aj (run (dZ x) (0,1,1,1,y_2.1,y_2.2.1,y_2.2.2,bg.1,bg.2.1,bg.2.2,bW.1,bW.2.1,bW.2.2,cC.1,cC.2.1,cC.2.2,0)) fun r=>
 (Sum.elim (fun a=>
 (false,0)) (fun b=>
 (aj (HL ((b.1,b.2.1),b.2.2)) fun fP=>
 ((decide (fP<=0)),0))) r))))))))))
def lu (x:(I3×I9)):Prop:=
 ((cA [x.1,x.2.1])/\
 aB (ef [x.1,x.2.1]) fun y=>
 (¬((!y)=true)->
 ((oC x.2.2)/\
 aB (qm x.2.2) fun aA=>
 (¬((!aA)=true)->
 (aB (parts x.1) fun y_2=>
 (aB (parts x.2.1) fun bg=>
 (aB (parts x.2.2.1) fun bW=>
 (aB (parts x.2.2.2) fun cC=>
 (Term (dZ x) (lO x) (0,1,1,1,y_2.1,y_2.2.1,y_2.2.2,bg.1,bg.2.1,bg.2.2,bW.1,bW.2.1,bW.2.2,cC.1,cC.2.1,cC.2.2,0)/\
 aB (run (dZ x) (0,1,1,1,y_2.1,y_2.2.1,y_2.2.2,bg.1,bg.2.1,bg.2.2,bW.1,bW.2.1,bW.2.2,cC.1,cC.2.1,cC.2.2,0)) fun r=>
 (cS r (fun a=>
 True) (fun b=>
 (n8 ((b.1,b.2.1),b.2.2)))))))))))))
def ZU (x:(I3×I9)):Tr (Bool×Int) true:=
 (.fn ej [x.1,x.2.1] fun y=>
 (.kO (!y)
 (.ret (false,5))
 (.fn qW x.2.2 fun aA=>
 (.kO (!aA)
 (.ret (false,z1))
 (.fn0 fW x.1 trivial fun y_2=>
 (.fn0 fW x.2.1 trivial fun bg=>
 (.fn0 fW x.2.2.1 trivial fun bW=>
 (.fn0 fW x.2.2.2 trivial fun cC=>
 (aL.lp (Jo x) (Cx x) (z0,z1,z1,z1,y_2.1,y_2.2.1,y_2.2.2,bg.1,bg.2.1,bg.2.2,bW.1,bW.2.1,bW.2.2,cC.1,cC.2.1,cC.2.2,z0) fun r=>
 (.s01 r (fun a=>
 (.ret (false,z0))) (fun b=>
 (.fn xM ((b.1,b.2.1),b.2.2) fun fP=>
 (.ret ((decide (fP<=z0)),z0))))))))))))))
abbrev zE:cf:=⟨(.pair (.agg aO) (.pair (.agg aO) (.agg (Ty.prod aO aO)))),(.pair (.one Ty.bool) (.one yi)),lu,qi⟩
theorem V9:ah Tryz.prog 151 (ak zE):=ah.tr zE ZU (fn:=Tryz.f151) az yo mixed (by kernel_rfl) (av.nil _ _) (fun x=>(ax.tr az (af.eA yo (av.nil _ _)) mixed 1 (Jo x) (Cx x) ax.nil (by kernel_rfl) fun g s Q=>(by kernel_rfl))) (fun x=>(by kernel_rfl)) fun x Q=>(by kernel_rfl)
def Kg:List (Nat×Ev.Spec):=(151,ak zE)::Uc
theorem sE:af Tryz.prog Kg:=af.add (fn:=Tryz.f151) (by kernel_rfl) V9 yo
end Go.Proofs.YtngdehlpoomaiaaGreat
