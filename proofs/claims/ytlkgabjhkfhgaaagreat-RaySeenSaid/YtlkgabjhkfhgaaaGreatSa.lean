/- Models of functions of layers 1, 3, 9, 12, 13: fractions, hits, boxes that are met. -/
import Derived.Test.YtlkgabjhkfhgaaaGreatUc
noncomputable section
set_option linter.unusedSectionVars false
set_option linter.unusedVariables false
set_option linter.unusedSimpArgs false
namespace Go.Proofs.YtlkgabjhkfhgaaaGreat
open Go Go.Ev Go.Proofs
def S2 (x:I2):Bool:=
 (if (x.2>=(0:Int)) then
 (if (x.2<(1000000000000000000:Int)) then
 (if (x.1>=(-4000000000000000000:Int)) then
 (decide (x.1<=(4000000000000000000:Int))) else
 false) else
 false) else
 false)
def S3 (_:I2):Prop:=True
def XN (x:I2):Tr Bool false:=
 (.tu (x.2>=z0)
 (.tu (x.2<(1000000000000000000:Int))
 (.tu (x.1>=(-4000000000000000000:Int))
 (.ret (decide (x.1<=(4000000000000000000:Int))))
 (.ret false))
 (.ret false))
 (.ret false))
abbrev De:dS:=⟨(.agg Dm),(.one Ty.bool),S3,S2⟩
theorem VG:ak Tryz.prog 181 (av De):=ak.tr De XN (fn:=Tryz.f181) aC Fk mixed (by kernel_rfl) (aA.nil _ _) (fun x=>aB.nil) (fun x=>(by kernel_rfl)) fun x Q=>(by kernel_rfl)
def M4:List (Nat×Ev.Spec):=(181,av De)::SH
theorem CU:ah Tryz.prog M4:=ah.add (fn:=Tryz.f181) (by kernel_rfl) VG Fk
def LF (x:I2):(I2×Int):=
 (ai (S2 x) fun y=>
 (if ((!y)=true) then
 (((0:Int),(0:Int)),(4:Int)) else
 (x,(0:Int))))
def LG (_:I2):Prop:=True
def S8 (x:I2):Tr (I2×Int) false:=
 (.fn0 De x trivial fun y=>
 (.fu (!y)
 (.ret (Tj,(4:Int)))
 (.ret (x,z0))))
abbrev xA:dS:=⟨(.agg Dm),(.pair (.agg Dm) (.one yi)),LG,LF⟩
theorem Pu:ak Tryz.prog 182 (av xA):=ak.tr xA S8 (fn:=Tryz.f182) aC CU mixed (by kernel_rfl) (aA.nil _ _) (fun x=>aB.nil) (fun x=>(by kernel_rfl)) fun x Q=>(by kernel_rfl)
def FC:List (Nat×Ev.Spec):=(182,av xA)::M4
theorem xh:ah Tryz.prog FC:=ah.add (fn:=Tryz.f182) (by kernel_rfl) Pu CU
def VI (x:I2):(I2×Int):=
 (ai (S2 x) fun y=>
 (if ((!y)=true) then
 (((0:Int),(0:Int)),(1:Int)) else
 (if ((x.2==(0:Int))=true) then
 (((ae ((0:Int)- x.1)),(0:Int)),(0:Int)) else
 (ai (LF ((ae ((ae ((0:Int)- x.1))- (1:Int))),(ae ((1000000000000000000:Int)- x.2)))) fun aq=>
 aq))))
def S7 (_:I2):Prop:=True
def XP (x:I2):Tr (I2×Int) false:=
 (.fn0 De x trivial fun y=>
 (.fu (!y)
 (.ret (Tj,z1))
 (.fu (x.2==z0)
 (.ret (((ae (z0- x.1)),z0),z0))
 (.fn0 xA ((wm (ae (z0- x.1))),(ae ((1000000000000000000:Int)- x.2))) trivial fun aq=>
 (.ret aq)))))
abbrev G3:dS:=⟨(.agg Dm),(.pair (.agg Dm) (.one yi)),S7,VI⟩
theorem VJ:ak Tryz.prog 167 (av G3):=ak.tr G3 XP (fn:=Tryz.f167) aC xh mixed (by kernel_rfl) (aA.nil _ _) (fun x=>aB.nil) (fun x=>(by kernel_rfl)) fun x Q=>(by kernel_rfl)
def M6:List (Nat×Ev.Spec):=(167,av G3)::FC
theorem CW:ah Tryz.prog M6:=ah.add (fn:=Tryz.f167) (by kernel_rfl) VJ xh
def Ar (x:Int):I2:=
 ((ae (Int.tdiv x (1000000000:Int))),(Int.tmod x (1000000000:Int)))
def JP (_:Int):Prop:=True
def Ps (x:Int):Tr I2 false:=
 (.ret ((ae (Int.tdiv x (1000000000:Int))),(Int.tmod x (1000000000:Int))))
abbrev pe:dS:=⟨(.one yi),(.agg Dm),JP,Ar⟩
theorem LB:ak Tryz.prog 166 (av pe):=ak.tr pe Ps (fn:=Tryz.f166) aC CW mixed (by kernel_rfl) (aA.nil _ _) (fun x=>aB.nil) (fun x=>(by kernel_rfl)) fun x Q=>(by kernel_rfl)
def CT:List (Nat×Ev.Spec):=(166,av pe)::M6
theorem tU:ah Tryz.prog CT:=ah.add (fn:=Tryz.f166) (by kernel_rfl) LB CW
def LD (x:I2):(I2×Int):=
 (if ((eI x.1 x.2)>(1000000000000000000:Int)) then
 (((0:Int),(0:Int)),(2:Int)) else
 (if ((fe x.1 x.2)<(-1000000000000000000:Int)) then
 (((0:Int),(0:Int)),(2:Int)) else
 (ai (Ar (eI x.1 (ae ((0:Int)- x.1)))) fun y=>
 (ai (Ar (eI x.2 (ae ((0:Int)- x.2)))) fun aq=>
 (if ((!((decide (x.1<(0:Int)))==(decide (x.2<(0:Int)))))=true) then
 (ai (VI ((ae ((ae ((ae (y.1*aq.1))+(ae (Int.tdiv (ae ((ae (y.1*aq.2))+(ae (y.2*aq.1)))) (1000000000:Int)))))+(ae (Int.tdiv (ae ((ae (y.2*aq.2))+(ae ((Int.tmod (ae ((ae (y.1*aq.2))+(ae (y.2*aq.1)))) (1000000000:Int))*(1000000000:Int))))) (1000000000000000000:Int))))),(Int.tmod (ae ((ae (y.2*aq.2))+(ae ((Int.tmod (ae ((ae (y.1*aq.2))+(ae (y.2*aq.1)))) (1000000000:Int))*(1000000000:Int))))) (1000000000000000000:Int)))) fun y_2=>
 y_2) else
 (((ae ((ae ((ae (y.1*aq.1))+(ae (Int.tdiv (ae ((ae (y.1*aq.2))+(ae (y.2*aq.1)))) (1000000000:Int)))))+(ae (Int.tdiv (ae ((ae (y.2*aq.2))+(ae ((Int.tmod (ae ((ae (y.1*aq.2))+(ae (y.2*aq.1)))) (1000000000:Int))*(1000000000:Int))))) (1000000000000000000:Int))))),(Int.tmod (ae ((ae (y.2*aq.2))+(ae ((Int.tmod (ae ((ae (y.1*aq.2))+(ae (y.2*aq.1)))) (1000000000:Int))*(1000000000:Int))))) (1000000000000000000:Int))),(0:Int)))))))
def S5 (_:I2):Prop:=True
def XO (x:I2):Tr (I2×Int) false:=
 (.tu ((eI x.1 x.2)>(1000000000000000000:Int))
 (.ret (Tj,(2:Int)))
 (.tu ((fe x.1 x.2)<(-1000000000000000000:Int))
 (.ret (Tj,(2:Int)))
 (.fn0 pe (eI x.1 (ae (z0- x.1))) trivial fun y=>
 (.fn0 pe (eI x.2 (ae (z0- x.2))) trivial fun aq=>
 (.fu (!((decide (x.1<z0))==(decide (x.2<z0))))
 (.fn0 G3 ((ae ((ae ((ae (y.1*aq.1))+(ae (Int.tdiv (ae ((ae (y.1*aq.2))+(ae (y.2*aq.1)))) (1000000000:Int)))))+(ae (Int.tdiv (ae ((ae (y.2*aq.2))+(ae ((Int.tmod (ae ((ae (y.1*aq.2))+(ae (y.2*aq.1)))) (1000000000:Int))*(1000000000:Int))))) (1000000000000000000:Int))))),(Int.tmod (ae ((ae (y.2*aq.2))+(ae ((Int.tmod (ae ((ae (y.1*aq.2))+(ae (y.2*aq.1)))) (1000000000:Int))*(1000000000:Int))))) (1000000000000000000:Int))) trivial fun y_2=>
 (.ret y_2))
 (.ret (((ae ((ae ((ae (y.1*aq.1))+(ae (Int.tdiv (ae ((ae (y.1*aq.2))+(ae (y.2*aq.1)))) (1000000000:Int)))))+(ae (Int.tdiv (ae ((ae (y.2*aq.2))+(ae ((Int.tmod (ae ((ae (y.1*aq.2))+(ae (y.2*aq.1)))) (1000000000:Int))*(1000000000:Int))))) (1000000000000000000:Int))))),(Int.tmod (ae ((ae (y.2*aq.2))+(ae ((Int.tmod (ae ((ae (y.1*aq.2))+(ae (y.2*aq.1)))) (1000000000:Int))*(1000000000:Int))))) (1000000000000000000:Int))),z0)))))))
abbrev Dg:dS:=⟨(.pair (.one yi) (.one yi)),(.pair (.agg Dm) (.one yi)),S5,LD⟩
theorem VH:ak Tryz.prog 147 (av Dg):=ak.tr Dg XO (fn:=Tryz.f147) aC tU mixed (by kernel_rfl) (aA.nil _ _) (fun x=>aB.nil) (fun x=>(by kernel_rfl)) fun x Q=>(by kernel_rfl)
def M5:List (Nat×Ev.Spec):=(147,av Dg)::CT
theorem CV:ah Tryz.prog M5:=ah.add (fn:=Tryz.f147) (by kernel_rfl) VH tU
def VE (x:(I2×I2)):Int:=
 (if (((x.1.1==x.2.1)&&((x.1.2==x.2.2)&&true))=true) then
 (0:Int) else
 (ai (compare (x.1.1,x.2.1)) fun y=>
 (ai (compare (x.1.2,x.2.2)) fun aq=>
 (ai (AN [y,aq]) fun y_2=>
 y_2))))
def Dd (x:(I2×I2)):Prop:=
 (¬(((x.1.1==x.2.1)&&((x.1.2==x.2.2)&&true))=true)->
 (az (compare (x.1.1,x.2.1)) fun y=>
 (az (compare (x.1.2,x.2.2)) fun aq=>
 (mB [y,aq]))))
def XM (x:(I2×I2)):Tr Int true:=
 (.nY ((x.1.1==x.2.1)&&((x.1.2==x.2.2)&&true))
 (.ret z0)
 (.fn0 dZ (x.1.1,x.2.1) trivial fun y=>
 (.fn0 dZ (x.1.2,x.2.2) trivial fun aq=>
 (.fn pE [y,aq] fun y_2=>
 (.ret y_2)))))
abbrev G0:dS:=⟨(.pair (.agg Dm) (.agg Dm)),(.one yi),Dd,VE⟩
theorem VF:ak Tryz.prog 148 (av G0):=ak.tr G0 XM (fn:=Tryz.f148) aC CV mixed (by kernel_rfl) (aA.nil _ _) (fun x=>aB.nil) (fun x=>(by kernel_rfl)) fun x Q=>(by kernel_rfl)
def M3:List (Nat×Ev.Spec):=(148,av G0)::M5
theorem CS:ah Tryz.prog M3:=ah.add (fn:=Tryz.f148) (by kernel_rfl) VF CV
def uv (x:I2):Bool:=
 (if (x.2>=(1:Int)) then
 (if (x.2<=(1000000000000000000:Int)) then
 (if (x.1>=(-1000000000000000000:Int)) then
 (decide (x.1<=(1000000000000000000:Int))) else
 false) else
 false) else
 false)
def Kh (_:I2):Prop:=True
def Qm (x:I2):Tr Bool false:=
 (.tu (x.2>=z1)
 (.tu (x.2<=(1000000000000000000:Int))
 (.tu (x.1>=(-1000000000000000000:Int))
 (.ret (decide (x.1<=(1000000000000000000:Int))))
 (.ret false))
 (.ret false))
 (.ret false))
abbrev q8:dS:=⟨(.agg Dm),(.one Ty.bool),Kh,uv⟩
theorem NT:ak Tryz.prog 146 (av q8):=ak.tr q8 Qm (fn:=Tryz.f146) aC CS mixed (by kernel_rfl) (aA.nil _ _) (fun x=>aB.nil) (fun x=>(by kernel_rfl)) fun x Q=>(by kernel_rfl)
def Fa:List (Nat×Ev.Spec):=(146,av q8)::M3
theorem wU:ah Tryz.prog Fa:=ah.add (fn:=Tryz.f146) (by kernel_rfl) NT CS
def fto (x:(I2×I2)):Int:=
 (ai (uv x.1) fun y=>
 (ai (uv x.2) fun aq=>
 (if (y=true) then
 (if (aq=true) then
 (ai (LD (x.1.1,x.2.2)) fun y_2=>
 (ai (LD (x.2.1,x.1.2)) fun au=>
 (ai (VE (y_2.1,au.1)) fun aG=>
 aG))) else
 (if (aq=true) then
 (-1:Int) else
 (if (y=true) then
 (1:Int) else
 (ai (compare (x.1.1,x.2.1)) fun y_2=>
 (ai (compare (x.1.2,x.2.2)) fun au=>
 (ai (AN [y_2,au]) fun aG=>
 aG)))))) else
 (if (aq=true) then
 (-1:Int) else
 (if (y=true) then
 (1:Int) else
 (ai (compare (x.1.1,x.2.1)) fun y_2=>
 (ai (compare (x.1.2,x.2.2)) fun au=>
 (ai (AN [y_2,au]) fun aG=>
 aG))))))))
def Gb (x:(I2×I2)):Prop:=
 (az (uv x.1) fun y=>
 (az (uv x.2) fun aq=>
 (((y=true)->
 (((aq=true)->
 (az (LD (x.1.1,x.2.2)) fun y_2=>
 (az (LD (x.2.1,x.1.2)) fun au=>
 (Dd (y_2.1,au.1)))))/\
 (¬(aq=true)->
 (¬(aq=true)->
 (¬(y=true)->
 (az (compare (x.1.1,x.2.1)) fun y_2=>
 (az (compare (x.1.2,x.2.2)) fun au=>
 (mB [y_2,au]))))))))/\
 (¬(y=true)->
 (¬(aq=true)->
 (¬(y=true)->
 (az (compare (x.1.1,x.2.1)) fun y_2=>
 (az (compare (x.1.2,x.2.2)) fun au=>
 (mB [y_2,au])))))))))
def Yr (x:(I2×I2)):Tr Int true:=
 (.fn0 q8 x.1 trivial fun y=>
 (.fn0 q8 x.2 trivial fun aq=>
 (.qq y
 (.qq aq
 (.fn0 Dg (x.1.1,x.2.2) trivial fun y_2=>
 (.fn0 Dg (x.2.1,x.1.2) trivial fun au=>
 (.fn G0 (y_2.1,au.1) fun aG=>
 (.ret aG))))
 (.nY aq
 (.ret (-1:Int))
 (.nY y
 (.ret z1)
 (.fn0 dZ (x.1.1,x.2.1) trivial fun y_2=>
 (.fn0 dZ (x.1.2,x.2.2) trivial fun au=>
 (.fn pE [y_2,au] fun aG=>
 (.ret aG)))))))
 (.nY aq
 (.ret (-1:Int))
 (.nY y
 (.ret z1)
 (.fn0 dZ (x.1.1,x.2.1) trivial fun y_2=>
 (.fn0 dZ (x.1.2,x.2.2) trivial fun au=>
 (.fn pE [y_2,au] fun aG=>
 (.ret aG)))))))))
abbrev LZ:dS:=⟨(.pair (.agg Dm) (.agg Dm)),(.one yi),Gb,fto⟩
theorem WC:ak Tryz.prog 116 (av LZ):=ak.tr LZ Yr (fn:=Tryz.f116) aC wU mixed (by kernel_rfl) (aA.nil _ _) (fun x=>aB.nil) (fun x=>(by kernel_rfl)) fun x Q=>(by kernel_rfl)
def SE:List (Nat×Ev.Spec):=(116,av LZ)::Fa
theorem Fb:ah Tryz.prog SE:=ah.add (fn:=Tryz.f116) (by kernel_rfl) WC wU
def Du (x:(I2×I2)):Int:=
 (ai (fto x) fun y=>
 y)
def mM (x:(I2×I2)):Prop:=
 (Gb x)
def WB (x:(I2×I2)):Tr Int true:=
 (.fn LZ x fun y=>
 (.ret y))
abbrev ur:dS:=⟨(.pair (.agg Dm) (.agg Dm)),(.one yi),mM,Du⟩
theorem TL:ak Tryz.prog 89 (av ur):=ak.tr ur WB (fn:=Tryz.f89) aC Fb mixed (by kernel_rfl) (aA.nil _ _) (fun x=>aB.nil) (fun x=>(by kernel_rfl)) fun x Q=>(by kernel_rfl)
def MM:List (Nat×Ev.Spec):=(89,av ur)::SE
theorem Cy:ah Tryz.prog MM:=ah.add (fn:=Tryz.f89) (by kernel_rfl) TL Fb
def RD (x:(Int×(Int×(Int×(I2×I2))))):(Bool×(Bool×(Bool×(Bool×(I2×I2))))):=
 (ai (Du ((x.1,x.2.2.1),x.2.2.2.1)) fun y=>
 (if (y>(0:Int)) then
 (ai (Du ((x.2.1,x.2.2.1),x.2.2.2.2)) fun aq=>
 (if (aq<(0:Int)) then
 (false,(false,(false,(false,((x.1,x.2.2.1),(x.2.1,x.2.2.1)))))) else
 (false,(false,(false,(false,((x.1,x.2.2.1),x.2.2.2.2))))))) else
 (ai (Du ((x.2.1,x.2.2.1),x.2.2.2.2)) fun aq=>
 (if (aq<(0:Int)) then
 (false,(false,(false,(false,(x.2.2.2.1,(x.2.1,x.2.2.1)))))) else
 (false,(false,(false,(false,x.2.2.2))))))))
def rR (x:(Int×(Int×(Int×(I2×I2))))):Prop:=
 ((mM ((x.1,x.2.2.1),x.2.2.2.1))/\
 az (Du ((x.1,x.2.2.1),x.2.2.2.1)) fun y=>
 (((y>(0:Int))->
 (mM ((x.2.1,x.2.2.1),x.2.2.2.2)))/\
 (¬(y>(0:Int))->
 (mM ((x.2.1,x.2.2.1),x.2.2.2.2)))))
def Xo (x:(Int×(Int×(Int×(I2×I2))))):Tr (Bool×(Bool×(Bool×(Bool×(I2×I2))))) true:=
 (.fn ur ((x.1,x.2.2.1),x.2.2.2.1) fun y=>
 (.i11 (y>z0)
 (.fn ur ((x.2.1,x.2.2.1),x.2.2.2.2) fun aq=>
 (.tu (aq<z0)
 (.pn 0 2
 (.ret (false,(false,(false,(false,((x.1,x.2.2.1),(x.2.1,x.2.2.1))))))))
 (.pn 0 2
 (.ret (false,(false,(false,(false,((x.1,x.2.2.1),x.2.2.2.2)))))))))
 (.fn ur ((x.2.1,x.2.2.1),x.2.2.2.2) fun aq=>
 (.tu (aq<z0)
 (.pn 0 2
 (.ret (false,(false,(false,(false,(x.2.2.2.1,(x.2.1,x.2.2.1))))))))
 (.pn 0 2
 (.ret (false,(false,(false,(false,x.2.2.2))))))))))
abbrev BO:Dh:=⟨(.pair (.val (.one yi)) (.pair (.val (.one yi)) (.pair (.val (.one yi)) (.pair (.ptr (.prod (.int .i64) (.int .i64)) 149) (.ptr (.prod (.int .i64) (.int .i64)) 149))))),.none,rR,RD⟩
theorem Uz:ak Tryz.prog 88 (bf BO):=ak.Ly BO Xo (fn:=Tryz.f88) aC Cy mixed (by kernel_rfl) (aA.nil _ _) (fun x=>aB.nil) (fun x=>(by kernel_rfl)) fun x r0 Q=>(by kernel_rfl)
def MW:List (Nat×Ev.Spec):=(88,bf BO)::MM
theorem uV:ah Tryz.prog MW:=ah.add (fn:=Tryz.f88) (by kernel_rfl) Uz Cy
def EG (x:(I3×I9)):aI:=⟨[],⟨cA 113 0 [(8,.v (.one (.ptr 0 0))),(9,.v (.one (.ptr 1 0))),(10,.v (.one (.jS 88 0 [.loc 0 0,.loc 1 0]))),(11,.v (.one (.ptr 2 0))),(12,.v (.one (.ptr 3 0))),(13,.v (.one (.ptr 4 0))),(14,.v (.one (.ptr 5 0))),(40,.v (.one (.i .i64)))],[.cells [.i .i64,.i .i64] 149,.cells [.i .i64,.i .i64] 149,.cells [.i .i64,.i .i64,.i .i64] 138,.cells [.i .i64,.i .i64,.i .i64] 138,.cells [.i .i64,.i .i64,.i .i64] 138,.cells [.i .i64,.i .i64,.i .i64] 138],0,none,[],[],[1,2,3,4,5,6,7,8,9,10,11,12,13,14,15,16,0],[.i,.i,.i,.i,.i,.i,.i,.i,.i,.i,.i,.i,.i,.i,.i,.i,.i],[]⟩,[⟨.ret,.ret,⟨cA 113 0 [(6,.v (.one (.b))),(7,.v (.one (.i .i64)))],[],0,none,[],[0,1],[],[],[.b false,.i (0:Int)]⟩⟩,⟨(.exit 1),.normal,⟨cA 113 0 [(8,.v (.one (.ptr 0 0))),(9,.v (.one (.ptr 1 0)))],[.cells [.i .i64,.i .i64] 149,.cells [.i .i64,.i .i64] 149],0,none,[],[],[0,1,2,3],[.i,.i,.i,.i],[]⟩⟩]⟩
def dM (x:(I3×I9)) (s:(Int×(Int×(Int×(Int×(Int×(Int×(Int×(Int×(Int×(Int×(Int×(Int×(Int×(Int×I3))))))))))))))):(Int×(Int×(Int×(Int×(Int×(Int×(Int×(Int×(Int×(Int×(Int×(Int×(Int×(Int×I3))))))))))))))⊕(Unit⊕(Int×I3)):=
 (if (s.2.2.2.2.2.2.2.2.2.2.2.2.2.2.2.2<(3:Int)) then
 (if ((ae ((List.getD [s.2.2.2.2.2.2.2.1,s.2.2.2.2.2.2.2.2.1,s.2.2.2.2.2.2.2.2.2.1] (0+((Int.toNat s.2.2.2.2.2.2.2.2.2.2.2.2.2.2.2.2)*1)) (0:Int))- (List.getD [s.2.2.2.2.1,s.2.2.2.2.2.1,s.2.2.2.2.2.2.1] (0+((Int.toNat s.2.2.2.2.2.2.2.2.2.2.2.2.2.2.2.2)*1)) (0:Int))))>(0:Int)) then
 (ai (RD ((ae ((List.getD [s.2.2.2.2.2.2.2.2.2.2.1,s.2.2.2.2.2.2.2.2.2.2.2.1,s.2.2.2.2.2.2.2.2.2.2.2.2.1] (0+((Int.toNat s.2.2.2.2.2.2.2.2.2.2.2.2.2.2.2.2)*1)) (0:Int))- (List.getD [s.2.2.2.2.1,s.2.2.2.2.2.1,s.2.2.2.2.2.2.1] (0+((Int.toNat s.2.2.2.2.2.2.2.2.2.2.2.2.2.2.2.2)*1)) (0:Int)))),((ae ((List.getD [s.2.2.2.2.2.2.2.2.2.2.2.2.2.1,s.2.2.2.2.2.2.2.2.2.2.2.2.2.2.1,s.2.2.2.2.2.2.2.2.2.2.2.2.2.2.2.1] (0+((Int.toNat s.2.2.2.2.2.2.2.2.2.2.2.2.2.2.2.2)*1)) (0:Int))- (List.getD [s.2.2.2.2.1,s.2.2.2.2.2.1,s.2.2.2.2.2.2.1] (0+((Int.toNat s.2.2.2.2.2.2.2.2.2.2.2.2.2.2.2.2)*1)) (0:Int)))),((ae ((List.getD [s.2.2.2.2.2.2.2.1,s.2.2.2.2.2.2.2.2.1,s.2.2.2.2.2.2.2.2.2.1] (0+((Int.toNat s.2.2.2.2.2.2.2.2.2.2.2.2.2.2.2.2)*1)) (0:Int))- (List.getD [s.2.2.2.2.1,s.2.2.2.2.2.1,s.2.2.2.2.2.2.1] (0+((Int.toNat s.2.2.2.2.2.2.2.2.2.2.2.2.2.2.2.2)*1)) (0:Int)))),((s.1,s.2.1),(s.2.2.1,s.2.2.2.1)))))) fun y=>
 (Sum.inl (y.2.2.2.2.1.1,(y.2.2.2.2.1.2,(y.2.2.2.2.2.1,(y.2.2.2.2.2.2,(s.2.2.2.2.1,(s.2.2.2.2.2.1,(s.2.2.2.2.2.2.1,(s.2.2.2.2.2.2.2.1,(s.2.2.2.2.2.2.2.2.1,(s.2.2.2.2.2.2.2.2.2.1,(s.2.2.2.2.2.2.2.2.2.2.1,(s.2.2.2.2.2.2.2.2.2.2.2.1,(s.2.2.2.2.2.2.2.2.2.2.2.2.1,(s.2.2.2.2.2.2.2.2.2.2.2.2.2.1,(s.2.2.2.2.2.2.2.2.2.2.2.2.2.2.1,(s.2.2.2.2.2.2.2.2.2.2.2.2.2.2.2.1,(ae (s.2.2.2.2.2.2.2.2.2.2.2.2.2.2.2.2+(1:Int))))))))))))))))))))) else
 (if ((ae ((List.getD [s.2.2.2.2.2.2.2.1,s.2.2.2.2.2.2.2.2.1,s.2.2.2.2.2.2.2.2.2.1] (0+((Int.toNat s.2.2.2.2.2.2.2.2.2.2.2.2.2.2.2.2)*1)) (0:Int))- (List.getD [s.2.2.2.2.1,s.2.2.2.2.2.1,s.2.2.2.2.2.2.1] (0+((Int.toNat s.2.2.2.2.2.2.2.2.2.2.2.2.2.2.2.2)*1)) (0:Int))))<(0:Int)) then
 (ai (RD ((ae ((List.getD [s.2.2.2.2.1,s.2.2.2.2.2.1,s.2.2.2.2.2.2.1] (0+((Int.toNat s.2.2.2.2.2.2.2.2.2.2.2.2.2.2.2.2)*1)) (0:Int))- (List.getD [s.2.2.2.2.2.2.2.2.2.2.2.2.2.1,s.2.2.2.2.2.2.2.2.2.2.2.2.2.2.1,s.2.2.2.2.2.2.2.2.2.2.2.2.2.2.2.1] (0+((Int.toNat s.2.2.2.2.2.2.2.2.2.2.2.2.2.2.2.2)*1)) (0:Int)))),((ae ((List.getD [s.2.2.2.2.1,s.2.2.2.2.2.1,s.2.2.2.2.2.2.1] (0+((Int.toNat s.2.2.2.2.2.2.2.2.2.2.2.2.2.2.2.2)*1)) (0:Int))- (List.getD [s.2.2.2.2.2.2.2.2.2.2.1,s.2.2.2.2.2.2.2.2.2.2.2.1,s.2.2.2.2.2.2.2.2.2.2.2.2.1] (0+((Int.toNat s.2.2.2.2.2.2.2.2.2.2.2.2.2.2.2.2)*1)) (0:Int)))),((ae ((0:Int)- (ae ((List.getD [s.2.2.2.2.2.2.2.1,s.2.2.2.2.2.2.2.2.1,s.2.2.2.2.2.2.2.2.2.1] (0+((Int.toNat s.2.2.2.2.2.2.2.2.2.2.2.2.2.2.2.2)*1)) (0:Int))- (List.getD [s.2.2.2.2.1,s.2.2.2.2.2.1,s.2.2.2.2.2.2.1] (0+((Int.toNat s.2.2.2.2.2.2.2.2.2.2.2.2.2.2.2.2)*1)) (0:Int)))))),((s.1,s.2.1),(s.2.2.1,s.2.2.2.1)))))) fun y=>
 (Sum.inl (y.2.2.2.2.1.1,(y.2.2.2.2.1.2,(y.2.2.2.2.2.1,(y.2.2.2.2.2.2,(s.2.2.2.2.1,(s.2.2.2.2.2.1,(s.2.2.2.2.2.2.1,(s.2.2.2.2.2.2.2.1,(s.2.2.2.2.2.2.2.2.1,(s.2.2.2.2.2.2.2.2.2.1,(s.2.2.2.2.2.2.2.2.2.2.1,(s.2.2.2.2.2.2.2.2.2.2.2.1,(s.2.2.2.2.2.2.2.2.2.2.2.2.1,(s.2.2.2.2.2.2.2.2.2.2.2.2.2.1,(s.2.2.2.2.2.2.2.2.2.2.2.2.2.2.1,(s.2.2.2.2.2.2.2.2.2.2.2.2.2.2.2.1,(ae (s.2.2.2.2.2.2.2.2.2.2.2.2.2.2.2.2+(1:Int))))))))))))))))))))) else
 (if ((List.getD [s.2.2.2.2.1,s.2.2.2.2.2.1,s.2.2.2.2.2.2.1] (0+((Int.toNat s.2.2.2.2.2.2.2.2.2.2.2.2.2.2.2.2)*1)) (0:Int))<(List.getD [s.2.2.2.2.2.2.2.2.2.2.1,s.2.2.2.2.2.2.2.2.2.2.2.1,s.2.2.2.2.2.2.2.2.2.2.2.2.1] (0+((Int.toNat s.2.2.2.2.2.2.2.2.2.2.2.2.2.2.2.2)*1)) (0:Int))) then
 (Sum.inr (Sum.inl ())) else
 (if ((List.getD [s.2.2.2.2.1,s.2.2.2.2.2.1,s.2.2.2.2.2.2.1] (0+((Int.toNat s.2.2.2.2.2.2.2.2.2.2.2.2.2.2.2.2)*1)) (0:Int))>(List.getD [s.2.2.2.2.2.2.2.2.2.2.2.2.2.1,s.2.2.2.2.2.2.2.2.2.2.2.2.2.2.1,s.2.2.2.2.2.2.2.2.2.2.2.2.2.2.2.1] (0+((Int.toNat s.2.2.2.2.2.2.2.2.2.2.2.2.2.2.2.2)*1)) (0:Int))) then
 (Sum.inr (Sum.inl ())) else
 (Sum.inl (s.1,(s.2.1,(s.2.2.1,(s.2.2.2.1,(s.2.2.2.2.1,(s.2.2.2.2.2.1,(s.2.2.2.2.2.2.1,(s.2.2.2.2.2.2.2.1,(s.2.2.2.2.2.2.2.2.1,(s.2.2.2.2.2.2.2.2.2.1,(s.2.2.2.2.2.2.2.2.2.2.1,(s.2.2.2.2.2.2.2.2.2.2.2.1,(s.2.2.2.2.2.2.2.2.2.2.2.2.1,(s.2.2.2.2.2.2.2.2.2.2.2.2.2.1,(s.2.2.2.2.2.2.2.2.2.2.2.2.2.2.1,(s.2.2.2.2.2.2.2.2.2.2.2.2.2.2.2.1,(ae (s.2.2.2.2.2.2.2.2.2.2.2.2.2.2.2.2+(1:Int)))))))))))))))))))))))) else
 (Sum.inr (Sum.inr ((s.1,(s.2.1,(s.2.2.1,s.2.2.2.1)))))))
def kN (x:(I3×I9)) (s:(Int×(Int×(Int×(Int×(Int×(Int×(Int×(Int×(Int×(Int×(Int×(Int×(Int×(Int×I3))))))))))))))):Prop:=
 ((s.2.2.2.2.2.2.2.2.2.2.2.2.2.2.2.2<(3:Int))->
 ((((0:Int)<=s.2.2.2.2.2.2.2.2.2.2.2.2.2.2.2.2)/\ (s.2.2.2.2.2.2.2.2.2.2.2.2.2.2.2.2<(3:Int)))/\
 ((((0+((Int.toNat s.2.2.2.2.2.2.2.2.2.2.2.2.2.2.2.2)*1))+1)<=3)/\
 ((((0:Int)<=s.2.2.2.2.2.2.2.2.2.2.2.2.2.2.2.2)/\ (s.2.2.2.2.2.2.2.2.2.2.2.2.2.2.2.2<(3:Int)))/\
 ((((0+((Int.toNat s.2.2.2.2.2.2.2.2.2.2.2.2.2.2.2.2)*1))+1)<=3)/\
 ((((ae ((List.getD [s.2.2.2.2.2.2.2.1,s.2.2.2.2.2.2.2.2.1,s.2.2.2.2.2.2.2.2.2.1] (0+((Int.toNat s.2.2.2.2.2.2.2.2.2.2.2.2.2.2.2.2)*1)) (0:Int))- (List.getD [s.2.2.2.2.1,s.2.2.2.2.2.1,s.2.2.2.2.2.2.1] (0+((Int.toNat s.2.2.2.2.2.2.2.2.2.2.2.2.2.2.2.2)*1)) (0:Int))))>(0:Int))->
 ((((0:Int)<=s.2.2.2.2.2.2.2.2.2.2.2.2.2.2.2.2)/\ (s.2.2.2.2.2.2.2.2.2.2.2.2.2.2.2.2<(3:Int)))/\
 ((((0+((Int.toNat s.2.2.2.2.2.2.2.2.2.2.2.2.2.2.2.2)*1))+1)<=3)/\
 ((((0:Int)<=s.2.2.2.2.2.2.2.2.2.2.2.2.2.2.2.2)/\ (s.2.2.2.2.2.2.2.2.2.2.2.2.2.2.2.2<(3:Int)))/\
 ((((0+((Int.toNat s.2.2.2.2.2.2.2.2.2.2.2.2.2.2.2.2)*1))+1)<=3)/\
 ((((0:Int)<=s.2.2.2.2.2.2.2.2.2.2.2.2.2.2.2.2)/\ (s.2.2.2.2.2.2.2.2.2.2.2.2.2.2.2.2<(3:Int)))/\
 ((((0+((Int.toNat s.2.2.2.2.2.2.2.2.2.2.2.2.2.2.2.2)*1))+1)<=3)/\
 ((((0:Int)<=s.2.2.2.2.2.2.2.2.2.2.2.2.2.2.2.2)/\ (s.2.2.2.2.2.2.2.2.2.2.2.2.2.2.2.2<(3:Int)))/\
 ((((0+((Int.toNat s.2.2.2.2.2.2.2.2.2.2.2.2.2.2.2.2)*1))+1)<=3)/\
 (rR ((ae ((List.getD [s.2.2.2.2.2.2.2.2.2.2.1,s.2.2.2.2.2.2.2.2.2.2.2.1,s.2.2.2.2.2.2.2.2.2.2.2.2.1] (0+((Int.toNat s.2.2.2.2.2.2.2.2.2.2.2.2.2.2.2.2)*1)) (0:Int))- (List.getD [s.2.2.2.2.1,s.2.2.2.2.2.1,s.2.2.2.2.2.2.1] (0+((Int.toNat s.2.2.2.2.2.2.2.2.2.2.2.2.2.2.2.2)*1)) (0:Int)))),((ae ((List.getD [s.2.2.2.2.2.2.2.2.2.2.2.2.2.1,s.2.2.2.2.2.2.2.2.2.2.2.2.2.2.1,s.2.2.2.2.2.2.2.2.2.2.2.2.2.2.2.1] (0+((Int.toNat s.2.2.2.2.2.2.2.2.2.2.2.2.2.2.2.2)*1)) (0:Int))- (List.getD [s.2.2.2.2.1,s.2.2.2.2.2.1,s.2.2.2.2.2.2.1] (0+((Int.toNat s.2.2.2.2.2.2.2.2.2.2.2.2.2.2.2.2)*1)) (0:Int)))),((ae ((List.getD [s.2.2.2.2.2.2.2.1,s.2.2.2.2.2.2.2.2.1,s.2.2.2.2.2.2.2.2.2.1] (0+((Int.toNat s.2.2.2.2.2.2.2.2.2.2.2.2.2.2.2.2)*1)) (0:Int))- (List.getD [s.2.2.2.2.1,s.2.2.2.2.2.1,s.2.2.2.2.2.2.1] (0+((Int.toNat s.2.2.2.2.2.2.2.2.2.2.2.2.2.2.2.2)*1)) (0:Int)))),((s.1,s.2.1),(s.2.2.1,s.2.2.2.1)))))))))))))))/\
 (¬((ae ((List.getD [s.2.2.2.2.2.2.2.1,s.2.2.2.2.2.2.2.2.1,s.2.2.2.2.2.2.2.2.2.1] (0+((Int.toNat s.2.2.2.2.2.2.2.2.2.2.2.2.2.2.2.2)*1)) (0:Int))- (List.getD [s.2.2.2.2.1,s.2.2.2.2.2.1,s.2.2.2.2.2.2.1] (0+((Int.toNat s.2.2.2.2.2.2.2.2.2.2.2.2.2.2.2.2)*1)) (0:Int))))>(0:Int))->
 ((((ae ((List.getD [s.2.2.2.2.2.2.2.1,s.2.2.2.2.2.2.2.2.1,s.2.2.2.2.2.2.2.2.2.1] (0+((Int.toNat s.2.2.2.2.2.2.2.2.2.2.2.2.2.2.2.2)*1)) (0:Int))- (List.getD [s.2.2.2.2.1,s.2.2.2.2.2.1,s.2.2.2.2.2.2.1] (0+((Int.toNat s.2.2.2.2.2.2.2.2.2.2.2.2.2.2.2.2)*1)) (0:Int))))<(0:Int))->
 ((((0:Int)<=s.2.2.2.2.2.2.2.2.2.2.2.2.2.2.2.2)/\ (s.2.2.2.2.2.2.2.2.2.2.2.2.2.2.2.2<(3:Int)))/\
 ((((0+((Int.toNat s.2.2.2.2.2.2.2.2.2.2.2.2.2.2.2.2)*1))+1)<=3)/\
 ((((0:Int)<=s.2.2.2.2.2.2.2.2.2.2.2.2.2.2.2.2)/\ (s.2.2.2.2.2.2.2.2.2.2.2.2.2.2.2.2<(3:Int)))/\
 ((((0+((Int.toNat s.2.2.2.2.2.2.2.2.2.2.2.2.2.2.2.2)*1))+1)<=3)/\
 ((((0:Int)<=s.2.2.2.2.2.2.2.2.2.2.2.2.2.2.2.2)/\ (s.2.2.2.2.2.2.2.2.2.2.2.2.2.2.2.2<(3:Int)))/\
 ((((0+((Int.toNat s.2.2.2.2.2.2.2.2.2.2.2.2.2.2.2.2)*1))+1)<=3)/\
 ((((0:Int)<=s.2.2.2.2.2.2.2.2.2.2.2.2.2.2.2.2)/\ (s.2.2.2.2.2.2.2.2.2.2.2.2.2.2.2.2<(3:Int)))/\
 ((((0+((Int.toNat s.2.2.2.2.2.2.2.2.2.2.2.2.2.2.2.2)*1))+1)<=3)/\
 (rR ((ae ((List.getD [s.2.2.2.2.1,s.2.2.2.2.2.1,s.2.2.2.2.2.2.1] (0+((Int.toNat s.2.2.2.2.2.2.2.2.2.2.2.2.2.2.2.2)*1)) (0:Int))- (List.getD [s.2.2.2.2.2.2.2.2.2.2.2.2.2.1,s.2.2.2.2.2.2.2.2.2.2.2.2.2.2.1,s.2.2.2.2.2.2.2.2.2.2.2.2.2.2.2.1] (0+((Int.toNat s.2.2.2.2.2.2.2.2.2.2.2.2.2.2.2.2)*1)) (0:Int)))),((ae ((List.getD [s.2.2.2.2.1,s.2.2.2.2.2.1,s.2.2.2.2.2.2.1] (0+((Int.toNat s.2.2.2.2.2.2.2.2.2.2.2.2.2.2.2.2)*1)) (0:Int))- (List.getD [s.2.2.2.2.2.2.2.2.2.2.1,s.2.2.2.2.2.2.2.2.2.2.2.1,s.2.2.2.2.2.2.2.2.2.2.2.2.1] (0+((Int.toNat s.2.2.2.2.2.2.2.2.2.2.2.2.2.2.2.2)*1)) (0:Int)))),((ae ((0:Int)- (ae ((List.getD [s.2.2.2.2.2.2.2.1,s.2.2.2.2.2.2.2.2.1,s.2.2.2.2.2.2.2.2.2.1] (0+((Int.toNat s.2.2.2.2.2.2.2.2.2.2.2.2.2.2.2.2)*1)) (0:Int))- (List.getD [s.2.2.2.2.1,s.2.2.2.2.2.1,s.2.2.2.2.2.2.1] (0+((Int.toNat s.2.2.2.2.2.2.2.2.2.2.2.2.2.2.2.2)*1)) (0:Int)))))),((s.1,s.2.1),(s.2.2.1,s.2.2.2.1)))))))))))))))/\
 (¬((ae ((List.getD [s.2.2.2.2.2.2.2.1,s.2.2.2.2.2.2.2.2.1,s.2.2.2.2.2.2.2.2.2.1] (0+((Int.toNat s.2.2.2.2.2.2.2.2.2.2.2.2.2.2.2.2)*1)) (0:Int))- (List.getD [s.2.2.2.2.1,s.2.2.2.2.2.1,s.2.2.2.2.2.2.1] (0+((Int.toNat s.2.2.2.2.2.2.2.2.2.2.2.2.2.2.2.2)*1)) (0:Int))))<(0:Int))->
 ((((0:Int)<=s.2.2.2.2.2.2.2.2.2.2.2.2.2.2.2.2)/\ (s.2.2.2.2.2.2.2.2.2.2.2.2.2.2.2.2<(3:Int)))/\
 ((((0+((Int.toNat s.2.2.2.2.2.2.2.2.2.2.2.2.2.2.2.2)*1))+1)<=3)/\
 ((((0:Int)<=s.2.2.2.2.2.2.2.2.2.2.2.2.2.2.2.2)/\ (s.2.2.2.2.2.2.2.2.2.2.2.2.2.2.2.2<(3:Int)))/\
 ((((0+((Int.toNat s.2.2.2.2.2.2.2.2.2.2.2.2.2.2.2.2)*1))+1)<=3)/\
 (¬((List.getD [s.2.2.2.2.1,s.2.2.2.2.2.1,s.2.2.2.2.2.2.1] (0+((Int.toNat s.2.2.2.2.2.2.2.2.2.2.2.2.2.2.2.2)*1)) (0:Int))<(List.getD [s.2.2.2.2.2.2.2.2.2.2.1,s.2.2.2.2.2.2.2.2.2.2.2.1,s.2.2.2.2.2.2.2.2.2.2.2.2.1] (0+((Int.toNat s.2.2.2.2.2.2.2.2.2.2.2.2.2.2.2.2)*1)) (0:Int)))->
 ((((0:Int)<=s.2.2.2.2.2.2.2.2.2.2.2.2.2.2.2.2)/\ (s.2.2.2.2.2.2.2.2.2.2.2.2.2.2.2.2<(3:Int)))/\
 ((((0+((Int.toNat s.2.2.2.2.2.2.2.2.2.2.2.2.2.2.2.2)*1))+1)<=3)/\
 ((((0:Int)<=s.2.2.2.2.2.2.2.2.2.2.2.2.2.2.2.2)/\ (s.2.2.2.2.2.2.2.2.2.2.2.2.2.2.2.2<(3:Int)))/\
 (((0+((Int.toNat s.2.2.2.2.2.2.2.2.2.2.2.2.2.2.2.2)*1))+1)<=3))))))))))))))))))
def y7 (x:(I3×I9)) (s:(Int×(Int×(Int×(Int×(Int×(Int×(Int×(Int×(Int×(Int×(Int×(Int×(Int×(Int×I3))))))))))))))):Tr ((Int×(Int×(Int×(Int×(Int×(Int×(Int×(Int×(Int×(Int×(Int×(Int×(Int×(Int×I3))))))))))))))⊕(Unit⊕(Int×I3))) true:=
 (.i10 (s.2.2.2.2.2.2.2.2.2.2.2.2.2.2.2.2<(3:Int))
 (.oR s.2.2.2.2.2.2.2.2.2.2.2.2.2.2.2.2 (3:Int)
 (.od (((0+((tN s.2.2.2.2.2.2.2.2.2.2.2.2.2.2.2.2)*1))+1)<=3)
 (.oR s.2.2.2.2.2.2.2.2.2.2.2.2.2.2.2.2 (3:Int)
 (.od (((0+((tN s.2.2.2.2.2.2.2.2.2.2.2.2.2.2.2.2)*1))+1)<=3)
 (.i11 ((ae ((List.getD [s.2.2.2.2.2.2.2.1,s.2.2.2.2.2.2.2.2.1,s.2.2.2.2.2.2.2.2.2.1] (0+((tN s.2.2.2.2.2.2.2.2.2.2.2.2.2.2.2.2)*1)) z0)- (List.getD [s.2.2.2.2.1,s.2.2.2.2.2.1,s.2.2.2.2.2.2.1] (0+((tN s.2.2.2.2.2.2.2.2.2.2.2.2.2.2.2.2)*1)) z0)))>z0)
 (.oR s.2.2.2.2.2.2.2.2.2.2.2.2.2.2.2.2 (3:Int)
 (.od (((0+((tN s.2.2.2.2.2.2.2.2.2.2.2.2.2.2.2.2)*1))+1)<=3)
 (.oR s.2.2.2.2.2.2.2.2.2.2.2.2.2.2.2.2 (3:Int)
 (.od (((0+((tN s.2.2.2.2.2.2.2.2.2.2.2.2.2.2.2.2)*1))+1)<=3)
 (.oR s.2.2.2.2.2.2.2.2.2.2.2.2.2.2.2.2 (3:Int)
 (.od (((0+((tN s.2.2.2.2.2.2.2.2.2.2.2.2.2.2.2.2)*1))+1)<=3)
 (.oR s.2.2.2.2.2.2.2.2.2.2.2.2.2.2.2.2 (3:Int)
 (.od (((0+((tN s.2.2.2.2.2.2.2.2.2.2.2.2.2.2.2.2)*1))+1)<=3)
 (.cz BO ((ae ((List.getD [s.2.2.2.2.2.2.2.2.2.2.1,s.2.2.2.2.2.2.2.2.2.2.2.1,s.2.2.2.2.2.2.2.2.2.2.2.2.1] (0+((tN s.2.2.2.2.2.2.2.2.2.2.2.2.2.2.2.2)*1)) z0)- (List.getD [s.2.2.2.2.1,s.2.2.2.2.2.1,s.2.2.2.2.2.2.1] (0+((tN s.2.2.2.2.2.2.2.2.2.2.2.2.2.2.2.2)*1)) z0))),((ae ((List.getD [s.2.2.2.2.2.2.2.2.2.2.2.2.2.1,s.2.2.2.2.2.2.2.2.2.2.2.2.2.2.1,s.2.2.2.2.2.2.2.2.2.2.2.2.2.2.2.1] (0+((tN s.2.2.2.2.2.2.2.2.2.2.2.2.2.2.2.2)*1)) z0)- (List.getD [s.2.2.2.2.1,s.2.2.2.2.2.1,s.2.2.2.2.2.2.1] (0+((tN s.2.2.2.2.2.2.2.2.2.2.2.2.2.2.2.2)*1)) z0))),((ae ((List.getD [s.2.2.2.2.2.2.2.1,s.2.2.2.2.2.2.2.2.1,s.2.2.2.2.2.2.2.2.2.1] (0+((tN s.2.2.2.2.2.2.2.2.2.2.2.2.2.2.2.2)*1)) z0)- (List.getD [s.2.2.2.2.1,s.2.2.2.2.2.1,s.2.2.2.2.2.2.1] (0+((tN s.2.2.2.2.2.2.2.2.2.2.2.2.2.2.2.2)*1)) z0))),((s.1,s.2.1),(s.2.2.1,s.2.2.2.1))))) fun y=>
 (.ret (.inl (y.2.2.2.2.1.1,(y.2.2.2.2.1.2,(y.2.2.2.2.2.1,(y.2.2.2.2.2.2,(s.2.2.2.2.1,(s.2.2.2.2.2.1,(s.2.2.2.2.2.2.1,(s.2.2.2.2.2.2.2.1,(s.2.2.2.2.2.2.2.2.1,(s.2.2.2.2.2.2.2.2.2.1,(s.2.2.2.2.2.2.2.2.2.2.1,(s.2.2.2.2.2.2.2.2.2.2.2.1,(s.2.2.2.2.2.2.2.2.2.2.2.2.1,(s.2.2.2.2.2.2.2.2.2.2.2.2.2.1,(s.2.2.2.2.2.2.2.2.2.2.2.2.2.2.1,(s.2.2.2.2.2.2.2.2.2.2.2.2.2.2.2.1,(w1 s.2.2.2.2.2.2.2.2.2.2.2.2.2.2.2.2))))))))))))))))))))))))))))
 (.i11 ((ae ((List.getD [s.2.2.2.2.2.2.2.1,s.2.2.2.2.2.2.2.2.1,s.2.2.2.2.2.2.2.2.2.1] (0+((tN s.2.2.2.2.2.2.2.2.2.2.2.2.2.2.2.2)*1)) z0)- (List.getD [s.2.2.2.2.1,s.2.2.2.2.2.1,s.2.2.2.2.2.2.1] (0+((tN s.2.2.2.2.2.2.2.2.2.2.2.2.2.2.2.2)*1)) z0)))<z0)
 (.oR s.2.2.2.2.2.2.2.2.2.2.2.2.2.2.2.2 (3:Int)
 (.od (((0+((tN s.2.2.2.2.2.2.2.2.2.2.2.2.2.2.2.2)*1))+1)<=3)
 (.oR s.2.2.2.2.2.2.2.2.2.2.2.2.2.2.2.2 (3:Int)
 (.od (((0+((tN s.2.2.2.2.2.2.2.2.2.2.2.2.2.2.2.2)*1))+1)<=3)
 (.oR s.2.2.2.2.2.2.2.2.2.2.2.2.2.2.2.2 (3:Int)
 (.od (((0+((tN s.2.2.2.2.2.2.2.2.2.2.2.2.2.2.2.2)*1))+1)<=3)
 (.oR s.2.2.2.2.2.2.2.2.2.2.2.2.2.2.2.2 (3:Int)
 (.od (((0+((tN s.2.2.2.2.2.2.2.2.2.2.2.2.2.2.2.2)*1))+1)<=3)
 (.cz BO ((ae ((List.getD [s.2.2.2.2.1,s.2.2.2.2.2.1,s.2.2.2.2.2.2.1] (0+((tN s.2.2.2.2.2.2.2.2.2.2.2.2.2.2.2.2)*1)) z0)- (List.getD [s.2.2.2.2.2.2.2.2.2.2.2.2.2.1,s.2.2.2.2.2.2.2.2.2.2.2.2.2.2.1,s.2.2.2.2.2.2.2.2.2.2.2.2.2.2.2.1] (0+((tN s.2.2.2.2.2.2.2.2.2.2.2.2.2.2.2.2)*1)) z0))),((ae ((List.getD [s.2.2.2.2.1,s.2.2.2.2.2.1,s.2.2.2.2.2.2.1] (0+((tN s.2.2.2.2.2.2.2.2.2.2.2.2.2.2.2.2)*1)) z0)- (List.getD [s.2.2.2.2.2.2.2.2.2.2.1,s.2.2.2.2.2.2.2.2.2.2.2.1,s.2.2.2.2.2.2.2.2.2.2.2.2.1] (0+((tN s.2.2.2.2.2.2.2.2.2.2.2.2.2.2.2.2)*1)) z0))),((ae (z0- (ae ((List.getD [s.2.2.2.2.2.2.2.1,s.2.2.2.2.2.2.2.2.1,s.2.2.2.2.2.2.2.2.2.1] (0+((tN s.2.2.2.2.2.2.2.2.2.2.2.2.2.2.2.2)*1)) z0)- (List.getD [s.2.2.2.2.1,s.2.2.2.2.2.1,s.2.2.2.2.2.2.1] (0+((tN s.2.2.2.2.2.2.2.2.2.2.2.2.2.2.2.2)*1)) z0))))),((s.1,s.2.1),(s.2.2.1,s.2.2.2.1))))) fun y=>
 (.ret (.inl (y.2.2.2.2.1.1,(y.2.2.2.2.1.2,(y.2.2.2.2.2.1,(y.2.2.2.2.2.2,(s.2.2.2.2.1,(s.2.2.2.2.2.1,(s.2.2.2.2.2.2.1,(s.2.2.2.2.2.2.2.1,(s.2.2.2.2.2.2.2.2.1,(s.2.2.2.2.2.2.2.2.2.1,(s.2.2.2.2.2.2.2.2.2.2.1,(s.2.2.2.2.2.2.2.2.2.2.2.1,(s.2.2.2.2.2.2.2.2.2.2.2.2.1,(s.2.2.2.2.2.2.2.2.2.2.2.2.2.1,(s.2.2.2.2.2.2.2.2.2.2.2.2.2.2.1,(s.2.2.2.2.2.2.2.2.2.2.2.2.2.2.2.1,(w1 s.2.2.2.2.2.2.2.2.2.2.2.2.2.2.2.2))))))))))))))))))))))))))))
 (.oR s.2.2.2.2.2.2.2.2.2.2.2.2.2.2.2.2 (3:Int)
 (.od (((0+((tN s.2.2.2.2.2.2.2.2.2.2.2.2.2.2.2.2)*1))+1)<=3)
 (.oR s.2.2.2.2.2.2.2.2.2.2.2.2.2.2.2.2 (3:Int)
 (.od (((0+((tN s.2.2.2.2.2.2.2.2.2.2.2.2.2.2.2.2)*1))+1)<=3)
 (.Di ((List.getD [s.2.2.2.2.1,s.2.2.2.2.2.1,s.2.2.2.2.2.2.1] (0+((tN s.2.2.2.2.2.2.2.2.2.2.2.2.2.2.2.2)*1)) z0)<(List.getD [s.2.2.2.2.2.2.2.2.2.2.1,s.2.2.2.2.2.2.2.2.2.2.2.1,s.2.2.2.2.2.2.2.2.2.2.2.2.1] (0+((tN s.2.2.2.2.2.2.2.2.2.2.2.2.2.2.2.2)*1)) z0))
 (.ret (.inr (Sum.inl ())))
 (.oR s.2.2.2.2.2.2.2.2.2.2.2.2.2.2.2.2 (3:Int)
 (.od (((0+((tN s.2.2.2.2.2.2.2.2.2.2.2.2.2.2.2.2)*1))+1)<=3)
 (.oR s.2.2.2.2.2.2.2.2.2.2.2.2.2.2.2.2 (3:Int)
 (.od (((0+((tN s.2.2.2.2.2.2.2.2.2.2.2.2.2.2.2.2)*1))+1)<=3)
 (.tu ((List.getD [s.2.2.2.2.1,s.2.2.2.2.2.1,s.2.2.2.2.2.2.1] (0+((tN s.2.2.2.2.2.2.2.2.2.2.2.2.2.2.2.2)*1)) z0)>(List.getD [s.2.2.2.2.2.2.2.2.2.2.2.2.2.1,s.2.2.2.2.2.2.2.2.2.2.2.2.2.2.1,s.2.2.2.2.2.2.2.2.2.2.2.2.2.2.2.1] (0+((tN s.2.2.2.2.2.2.2.2.2.2.2.2.2.2.2.2)*1)) z0))
 (.ret (.inr (Sum.inl ())))
 (.ret (.inl (s.1,(s.2.1,(s.2.2.1,(s.2.2.2.1,(s.2.2.2.2.1,(s.2.2.2.2.2.1,(s.2.2.2.2.2.2.1,(s.2.2.2.2.2.2.2.1,(s.2.2.2.2.2.2.2.2.1,(s.2.2.2.2.2.2.2.2.2.1,(s.2.2.2.2.2.2.2.2.2.2.1,(s.2.2.2.2.2.2.2.2.2.2.2.1,(s.2.2.2.2.2.2.2.2.2.2.2.2.1,(s.2.2.2.2.2.2.2.2.2.2.2.2.2.1,(s.2.2.2.2.2.2.2.2.2.2.2.2.2.2.1,(s.2.2.2.2.2.2.2.2.2.2.2.2.2.2.2.1,(w1 s.2.2.2.2.2.2.2.2.2.2.2.2.2.2.2.2)))))))))))))))))))))))))))))))))))
 (.ret (.inr (Sum.inr ((s.1,(s.2.1,(s.2.2.1,s.2.2.2.1))))))))
def ot (x:(I3×I9)):(Bool×Int):=
 (ai (cJ [x.1,x.2.1]) fun y=>
 (if ((!y)=true) then
 (false,(5:Int)) else
 (ai (ov x.2.2) fun aq=>
 (if ((!aq)=true) then
 (false,(1:Int)) else
 (ai (parts x.1) fun y_2=>
 (ai (parts x.2.1) fun au=>
 (ai (parts x.2.2.1) fun aG=>
 (ai (parts x.2.2.2) fun cu=>
 (ai (run (dM x) ((0:Int),((1:Int),((1:Int),((1:Int),(y_2.1,(y_2.2.1,(y_2.2.2,(au.1,(au.2.1,(au.2.2,(aG.1,(aG.2.1,(aG.2.2,(cu.1,(cu.2.1,(cu.2.2,(0:Int)))))))))))))))))) fun r=>
 (Sum.elim (fun a=>
 (false,(0:Int))) (fun b=>
 (ai (Du ((b.1,b.2.1),b.2.2)) fun qD=>
 ((decide (qD<=(0:Int))),(0:Int)))) r))))))))))
def kj (x:(I3×I9)):Prop:=
 ((b9 [x.1,x.2.1])/\
 az (cJ [x.1,x.2.1]) fun y=>
 (¬((!y)=true)->
 ((m0 x.2.2)/\
 az (ov x.2.2) fun aq=>
 (¬((!aq)=true)->
 (az (parts x.1) fun y_2=>
 (az (parts x.2.1) fun au=>
 (az (parts x.2.2.1) fun aG=>
 (az (parts x.2.2.2) fun cu=>
 (Term (dM x) (kN x) ((0:Int),((1:Int),((1:Int),((1:Int),(y_2.1,(y_2.2.1,(y_2.2.2,(au.1,(au.2.1,(au.2.2,(aG.1,(aG.2.1,(aG.2.2,(cu.1,(cu.2.1,(cu.2.2,(0:Int)))))))))))))))))/\
 az (run (dM x) ((0:Int),((1:Int),((1:Int),((1:Int),(y_2.1,(y_2.2.1,(y_2.2.2,(au.1,(au.2.1,(au.2.2,(aG.1,(aG.2.1,(aG.2.2,(cu.1,(cu.2.1,(cu.2.2,(0:Int)))))))))))))))))) fun r=>
 (cS r (fun a=>
 True) (fun b=>
 (mM ((b.1,b.2.1),b.2.2)))))))))))))
def Rz (x:(I3×I9)):Tr (Bool×Int) true:=
 (.fn dg [x.1,x.2.1] fun y=>
 (.nY (!y)
 (.ret (false,(5:Int)))
 (.fn oU x.2.2 fun aq=>
 (.nY (!aq)
 (.ret (false,z1))
 (.fn0 fN x.1 trivial fun y_2=>
 (.fn0 fN x.2.1 trivial fun au=>
 (.fn0 fN x.2.2.1 trivial fun aG=>
 (.fn0 fN x.2.2.2 trivial fun cu=>
 (aI.lp (EG x) (y7 x) (z0,(z1,(z1,(z1,(y_2.1,(y_2.2.1,(y_2.2.2,(au.1,(au.2.1,(au.2.2,(aG.1,(aG.2.1,(aG.2.2,(cu.1,(cu.2.1,(cu.2.2,z0)))))))))))))))) fun r=>
 (.s01 r (fun a=>
 (.ret (false,z0))) (fun b=>
 (.fn ur ((b.1,b.2.1),b.2.2) fun qD=>
 (.ret ((decide (qD<=z0)),z0))))))))))))))
abbrev vQ:dS:=⟨(.pair (.agg bz) (.pair (.agg bz) (.agg (Ty.prod bz bz)))),(.pair (.one Ty.bool) (.one yi)),kj,ot⟩
theorem OD:ak Tryz.prog 57 (av vQ):=ak.tr vQ Rz (fn:=Tryz.f57) aC uV mixed (by kernel_rfl) (aA.nil _ _) (fun x=>(aB.tr aC (ah.c8 uV (aA.nil _ _)) mixed 1 (EG x) (y7 x) aB.nil (by kernel_rfl) fun g s Q=>(by kernel_rfl))) (fun x=>(by kernel_rfl)) fun x Q=>(by kernel_rfl)
def Fp:List (Nat×Ev.Spec):=(57,av vQ)::MW
theorem qh:ah Tryz.prog Fp:=ah.add (fn:=Tryz.f57) (by kernel_rfl) OD uV
end Go.Proofs.YtlkgabjhkfhgaaaGreat
