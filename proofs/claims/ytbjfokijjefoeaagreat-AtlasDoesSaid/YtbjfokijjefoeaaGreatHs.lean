/- Plain laws: limewashlaw18.AtlasDoes. -/
import Derived.Test.YtbjfokijjefoeaaGreatBg
import Derived.Test.YtbjfokijjefoeaaGreatHd
noncomputable section
set_option linter.unusedSectionVars false
set_option linter.unusedVariables false
set_option linter.unusedSimpArgs false
namespace Go.Proofs.YtbjfokijjefoeaaGreat
open Go Go.Ev Go.Proofs
section
variable (x:Int×(Int×Int×oU×FV×Int)) (c1 c2 c3:Int) (c4:oU) (c5:List vf) (d1 d2 d3:Int) (P:oU) (d5:List vf) (e1 e2 e3:Int) (e4:oU) (e5:List vf) (e6:Int) (fl:Bool)
theorem agU (kn:Bool) {i:Nat} (hi:i<P.length) (hP:(P.getD i zP).1.length<=1000):
  TR (gY x) (lC x) (c1,c2,c3,c4,c5,d1,d2,d3,P,kn,d5,e1,e2,e3,e4,e5,e6,fl,(i:Int),0) fun r=> ∃Y3,r=(c1,c2,c3,c4,c5,d1,d2,d3,P,Y3,d5,e1,e2,e3,e4,e5,e6,fl,(i:Int)):=by
 have q:(0<=(i:Int))/\ (i:Int)<(P.length:Int):=⟨by omega,by omega⟩
 refine aZ (P.getD i zP).1.length (fun j s=> ∃Y3,s=(c1,c2,c3,c4,c5,d1,d2,d3,P,Y3,d5,e1,e2,e3,e4,e5,e6,fl,(i:Int),(j:Int))) _ (fun j s hj hJ=> ?_) (fun s hJ=> ?_) ⟨kn,rfl⟩
 ·obtain ⟨Y3,rfl⟩:=hJ
  refine ⟨?_,.inl ⟨_,?_,false,rfl⟩⟩
  ·unfold lC
   dsimp only
   rw [Int.toNat_natCast,Int.toNat_natCast]
   exact ⟨q,hi,hi,hi,hi,fun _=>⟨q,hi,hi,hi,hi,⟨by omega,(show (j:Int)<((P.getD i zP).1.length:Int) by omega)⟩,hi,hj⟩⟩
  ·unfold gY
   dsimp only
   rw [Int.toNat_natCast,if_pos (show (j:Int)<((P.getD i zP).1.length:Int) by omega),fJ hj (by omega)]
 ·obtain ⟨Y3,rfl⟩:=hJ
  have nn: ¬((((P.getD i zP).1.length:Nat):Int)<(((P.getD i zP).1.length:Nat):Int)):=by omega
  refine ⟨?_,_,?_,Y3,rfl⟩
  ·unfold lC
   dsimp only
   rw [Int.toNat_natCast]
   exact ⟨q,hi,hi,hi,hi,fun z=>absurd z nn⟩
  ·unfold gY
   dsimp only
   rw [Int.toNat_natCast,if_neg nn]
theorem aeF (kn:Bool) (hl:P.length<=1000) (hP: ∀p∈P,p.1.length<=1000):
  TR (aQ x) (cQ x) (c1,c2,c3,c4,c5,d1,d2,d3,P,kn,d5,e1,e2,e3,e4,e5,e6,fl,0) fun r=>r=(c1,c2,c3,c4,c5,e1,e2,e3,e4,e5,e6,fl):=by
 refine aZ P.length (fun i s=> ∃Y3,s=(c1,c2,c3,c4,c5,d1,d2,d3,P,Y3,d5,e1,e2,e3,e4,e5,e6,fl,(i:Int))) _ (fun i s hi hJ=> ?_) (fun s hJ=> ?_) ⟨kn,rfl⟩
 ·obtain ⟨Y3,rfl⟩:=hJ
  have h2:=agU x c1 c2 c3 c4 c5 d1 d2 d3 P d5 e1 e2 e3 e4 e5 e6 fl Y3 hi (hP _ (bZ hi zP))
  obtain ⟨XF,e⟩:=h2.2
  refine ⟨fun _=>h2.1,.inl ⟨(c1,c2,c3,c4,c5,d1,d2,d3,P,XF,d5,e1,e2,e3,e4,e5,e6,fl,((i+1:Nat):Int)),?_,XF,rfl⟩⟩
  unfold aQ
  dsimp only
  rw [if_pos (by omega),e,jv]
  dsimp only
  rw [fJ hi (by omega)]
 ·obtain ⟨Y3,rfl⟩:=hJ
  refine ⟨?_,_,?_,rfl⟩
  ·unfold cQ
   intro q
   dsimp only at q;omega
  ·unfold aQ
   dsimp only
   rw [if_neg (by omega)]
end
theorem XW {w h pad:Int} {l:oU} (hs:Sml l) {r:FV×Int} (hr:QT w h pad l r):Sml r.1.2.2.2.1/\ r.1.2.2.2.2.length<=1000:=by
 have h0:Sml []:=⟨by simp,fun p hp=>by cases hp⟩
 rcases hr with ⟨_,e⟩|⟨_,_,_,e⟩|⟨_,_,_,q,R,_,f,e⟩
 ·rw [e];exact ⟨h0,by simp⟩
 ·rw [e];exact ⟨h0,by simp⟩
 ·rw [e]
  have:=f.1
  have:=hs.1
  exact ⟨hs,by dsimp only;omega⟩
theorem aa4 {a:FV} (hl:a.2.2.2.1.length<=12) (tw:a.2.2.2.2.length<=30):(allM a).1.length<4611686018427387904/\ (allM a).2.1.length<4611686018427387904:=by
 rcases (Fk a (by omega) (by omega)).2 with ⟨_,e⟩|⟨hA,e⟩
 ·rw [e];simp
 ·rw [e]
  obtain ⟨t1,t2,t3⟩:=vp hA.rgt a.2.2.2.2 a.2.2.1 a.2.2.2.1.length (Nat.le_refl _)
  dsimp only
  omega
theorem U0 (t:T2):(((t.1.1==t.1.1)&&((t.1.2==t.1.2)&&true))&&(((t.2.1.1==t.2.1.1)&&((t.2.1.2==t.2.1.2)&&true))&&(((t.2.2.1==t.2.2.1)&&((t.2.2.2==t.2.2.2)&&true))&&true)))=true:=by simp
theorem DX (x:Int×(Int×Int×oU×FV×Int)):kK x/\ xu x=true:=by
 obtain ⟨w,h,pad,l,a,tri⟩:=x
 obtain ⟨b1,b2⟩:=Ee l
 obtain ⟨b3,b4⟩:=Ee a.2.2.2.1
 have f0: ¬((false:Bool)=true):=by decide
 cases hb:ud l with
 |true=>
  unfold kK xu
  dsimp only
  rw [jv,hb,if_pos rfl]
  exact ⟨⟨b1,lu fun q=>absurd rfl q⟩,rfl⟩
 |false=>
 have hs:=b2 hb
 cases iQ:ud a.2.2.2.1 with
 |true=>
  unfold kK xu
  dsimp only
  rw [jv,hb,if_neg f0,jv,iQ,if_pos rfl]
  exact ⟨⟨b1,lu fun _=>⟨b3,lu fun q=>absurd rfl q⟩⟩,rfl⟩
 |false=>
 have ha:=b4 iQ
 by_cases n3:((a.2.2.2.2.length:Nat):Int)>30
 ·unfold kK xu
  dsimp only
  rw [jv,hb,if_neg f0,jv,iQ,if_neg f0,if_pos n3]
  exact ⟨⟨b1,lu fun _=>⟨b3,lu fun _ q=>absurd n3 q⟩⟩,rfl⟩
 have hl:=hs.1
 have hal:=ha.1
 have af3:l.length<=most:=hl
 have ahH:a.2.2.2.2.length<=30:=by omega
 obtain ⟨o1,o2⟩:=SH a ha (by omega)
 obtain ⟨bm1,bm2⟩:=w9 w h pad l af3
 obtain ⟨rb1,rb2⟩:=Ny w h pad l (by omega)
 have hBR:cL (w,h,pad,l)=jH (w,h,pad,l):=QT.uniq w h pad l rb2 bm2
 obtain ⟨u1,u2⟩:=XW hs bm2
 obtain ⟨al1,al2⟩:=Fk a (by omega) (by omega)
 obtain ⟨ra1,ra2⟩:=HO a (by omega) (by omega)
 have hAR:uc a=allM a:=by
  rcases al2 with ⟨p,e⟩|⟨p,e⟩
  ·rcases ra2 with ⟨q,e'⟩|⟨q,e'⟩
   ·rw [e,e']
   ·exact absurd q p
  ·rcases ra2 with ⟨q,e'⟩|⟨q,e'⟩
   ·exact absurd p q
   ·rw [e,e']
 obtain ⟨fm1,fm2⟩:=Ou a tri (by omega) (by omega)
 obtain ⟨rf1,rf2⟩:=PL a tri (by omega) (by omega)
 have hFR:ug (a,tri)=vL (a,tri):=by
  rcases fm2 with ⟨p,e⟩|⟨p,e⟩
  ·rcases rf2 with ⟨q,e'⟩|⟨q,e'⟩
   ·rw [e,e']
   ·exact absurd q p
  ·rcases rf2 with ⟨q,e'⟩|⟨q,e'⟩
   ·exact absurd p q
   ·exact U7.uniq p.rgt e' e
 obtain ⟨z1,z2⟩:=aa4 hal ahH
 generalize hB:jH (w,h,pad,l)=B at*
 generalize hA:allM a=A at*
 generalize hF:vL (a,tri)=F at*
 obtain ⟨ss1,ss2⟩:=By B.1 u1 u2
 obtain ⟨rZ,zY⟩:=BI A.1 z1
 obtain ⟨rs1,rs2⟩:=qi A.2.1 A.2.1 z2
 have rs2:=rs2.2 rfl
 obtain ⟨ps1,ps2⟩:=u1
 have key:=aeF (w,h,pad,l,a,tri) a.1 a.2.1 a.2.2.1 a.2.2.2.1 a.2.2.2.2 B.1.1 B.1.2.1 B.1.2.2.1 B.1.2.2.2.1 B.1.2.2.2.2 B.1.1 B.1.2.1 B.1.2.2.1 B.1.2.2.2.1 B.1.2.2.2.2 B.2 (F.2==F.2) true (by omega) (fun p hp=>(ps2 p hp).1)
 obtain ⟨m1,m2⟩:=RY false
 obtain ⟨om1,om2⟩:=Da l af3
 obtain ⟨ro1,ro2⟩:=Bu l (by omega)
 obtain ⟨rt1,rt2⟩:=qi (Ord l) (Ord l) (by rw [eI];omega)
 have rt2:=rt2.2 rfl
 obtain ⟨im1,im2⟩:=MU a (by omega) (by omega)
 obtain ⟨ri1,ri2⟩:=Le a (by omega) (by omega)
 have his:jT (a.1,a.2.1,a.2.2.1,a.2.2.2.1,a.2.2.2.2)=GY a:=by
  rw [Bool.eq_iff_iff];exact ri2.trans im2.symm
 obtain ⟨sa1,sa2⟩:=By a ha (by omega)
 have sa2:cr (a,a.1,a.2.1,a.2.2.1,a.2.2.2.1,a.2.2.2.2)=true:=sa2
 have ss3:cr ((B.1.1,B.1.2.1,B.1.2.2.1,B.1.2.2.2.1,B.1.2.2.2.2),B.1)=true:=ss2
 refine ⟨?_,?_⟩
 ·unfold kK
  dsimp only
  refine ⟨b1,lu fun _=>⟨b3,lu fun _ _=>⟨o1,lu ?_⟩⟩⟩
  rw [o2]
  refine ⟨bm1,lu ?_⟩
  rw [hB]
  refine ⟨rb1,lu ?_⟩
  rw [hBR]
  refine ⟨al1,lu ?_⟩
  rw [hA]
  refine ⟨ra1,lu ?_⟩
  rw [hAR]
  refine ⟨fm1,lu ?_⟩
  rw [hF]
  refine ⟨rf1,lu ?_⟩
  rw [hFR]
  refine ⟨ss1,lu ?_⟩
  rw [ss2]
  refine ⟨fun _=>⟨fun _=>⟨rZ,lu ?_⟩,fun q=>absurd (beq_self_eq_true _) q⟩,fun q=>absurd rfl q⟩
  rw [zY]
  refine ⟨fun _=>⟨rs1,lu ?_⟩,fun q=>absurd rfl q⟩
  rw [rs2]
  refine ⟨fun _=>⟨fun _=>⟨fun _=>⟨key.1,lu ?_⟩,fun q=>absurd (U0 F.1) q⟩,fun q=>absurd (beq_self_eq_true _) q⟩,fun q=>absurd rfl q⟩
  rw [key.2]
  dsimp only
  refine ⟨rb1,lu ?_⟩
  refine ⟨m1,lu fun _ _=>⟨om1,lu ?_⟩⟩
  rw [om2]
  refine ⟨ro1,lu ?_⟩
  rw [ro2]
  exact ⟨rt1,lu fun _=>⟨im1,lu ⟨ri1,lu fun _=>⟨sa1,lu fun _ _=>ss1⟩⟩⟩⟩
 ·unfold xu
  dsimp only
  rw [jv,hb,if_neg f0,jv,iQ,if_neg f0,if_neg n3,jv,o2,jv,hB,jv,hBR,jv,hA,jv,hAR,jv,hF,jv,hFR,jv,ss2,if_pos rfl,if_pos (beq_self_eq_true _),jv,zY,if_pos rfl,jv,rs2,if_pos rfl,if_pos (beq_self_eq_true _),if_pos (U0 F.1),jv,key.2]
  dsimp only
  rw [jv,jv,m2,if_pos rfl,if_pos (beq_self_eq_true _),jv,om2,jv,ro2,jv,rt2,if_pos rfl,jv,jv,his,if_pos (beq_self_eq_true _),jv,sa2,if_pos rfl,if_pos (beq_self_eq_true _),jv]
  exact ss3
end Go.Proofs.YtbjfokijjefoeaaGreat
