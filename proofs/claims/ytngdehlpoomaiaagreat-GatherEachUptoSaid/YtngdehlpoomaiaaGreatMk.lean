/- gather.Values: its contract. -/
import Derived.Test.YtngdehlpoomaiaaGreatLq
import Derived.Test.YtngdehlpoomaiaaGreatMi
noncomputable section
set_option linter.unusedSectionVars false
set_option linter.unusedVariables false
set_option linter.unusedSimpArgs false
namespace Go.Proofs.YtngdehlpoomaiaaGreat
open Go Go.Ev Go.Proofs
theorem adf:vR 40 38 BW:=Rh (fn:=Tryz.f40) (o:=pY (opsOf 0 (aD Tryz.f40)) 0) (bS.of (fn:=Tryz.f40) (by kernel_rfl) (by kernel_rfl) (by kernel_rfl)) (by kernel_rfl) (by kernel_rfl) (by kernel_rfl) ⟨by kernel_rfl,by kernel_rfl⟩
theorem QE {x:oS.ty.T} : ∀a∈cq oS x,a.ok (· <(xo x).length):=fun a ha=>by
 obtain ⟨b,hb,rfl⟩:=List.mem_map.1 ha
 have hl:(aW 0 0 oS x).2.length=3:=rfl
 exact A0.aR (fun m hm=>by have:=hm.2;rw [hl] at this;show m<3;omega) b (gW 0 oS x 0 b hb)
theorem adx:Tryz.agO= {Tryz.f16 with body:=some (gC [5,15] (bp Tryz.f16))} :=by kernel_rfl
theorem ab5:JK 29 40 13 7 6 (pY (opsOf 1 (aD Tryz.f16)) 0) (pY (opsOf 1 (aD Tryz.f16)) 1):=⟨⟨by kernel_rfl,by kernel_rfl,by kernel_rfl⟩,by kernel_rfl,by kernel_rfl,⟨#[82,1],by kernel_rfl⟩⟩
theorem XM:Tryz.f16.body=some (.seq (.region 0 (opsOf 0 (aD Tryz.f16)) false) (.seq (.region 1 #[pY (opsOf 1 (aD Tryz.f16)) 0,pY (opsOf 1 (aD Tryz.f16)) 1] false) (bp Tryz.f16))):=by kernel_rfl
theorem afh (x:oS.ty.T) (lp:List (Nat×bw)) (its:List (Nat×cD)) (ρ:Env) (K:AS->Prop):iV ⟨tt,eU,cf,lp,[],its⟩ (opsOf 0 (aD Tryz.f16)) false ⟨cq oS x++List.replicate (Tryz.f16.ntmps- (cq oS x).length) bU,xo x++ [.bT ρ (xo x).length]⟩ K=K ⟨TS x,xo x++ .bT ρ (xo x).length::YF x⟩:=by kernel_rfl
theorem S2 (x:oS.ty.T) (hp:vS x) (aV:Env) (w:World) (hst:St xw w aV (· <(c9 oS x).length) (aj (c9 oS x)) w):
  Calls Tryz.prog 16 ((cq oS x).map (AV.ae aV)).toArray w fun e w'=> ∃st aQ v,e= .returned (v.ae aQ)/\ v.ok (· <st.heap.length)/\ lE Dq (· =ED x) v st/\ St xw w aQ (· <st.heap.length) (aj st.heap) w':=by
 obtain ⟨lp,its,hi,hl,ha,wz⟩:=Yl x hp
 have qV:Q8 Tryz.prog ⟨tt,eU,cf,lp,[],its⟩ 30 (Np Tryz.prog (qv 7 6 38 BW)) [5,15] (bp Tryz.f16):=hl.lpG (ctx:=⟨tt,eU,cf,lp,[],its⟩) (fun p hp=>hp) ha
 have wz: ∀r0,goE ⟨tt,eU,cf,lp,[],its⟩ Tryz.agO ((TS x).set 13 .dead) (xo x++ .gone::YF x++ [.bT r0 7]) (yp 7 r0 (lE Dq (· =ED x))) (z4 7 7 6 6 5 r0 fun st=>oK kY Tryz.f16 st (lE Dq (· =ED x))):=wz
 have L5:Tryz.f16.ntmps=65:=by kernel_rfl
 have hcd:=fun r0=>BI adx (wz r0)
 have DD:=fun ρ=>(afh x lp its ρ (fun st=>st=⟨TS x,xo x++ .bT ρ (xo x).length::YF x⟩)).mpr rfl
 have DB:Tryz.prog.funcs[16]? =some Tryz.f16:=by kernel_rfl
 have BN:II (bp Tryz.f16)=true:=by kernel_rfl
 have BL:eB Tryz.prog ⟨tt,eU,cf,lp,[],its⟩:=⟨dU,mU.nil _,hi⟩
 have hb0:=XM
 have Ig:=ab5
 clear wz hl ha hi
 revert Ig hb0 BL BN DB DD hcd L5 qV
 generalize pY (opsOf 1 (aD Tryz.f16)) 0=o1
 generalize pY (opsOf 1 (aD Tryz.f16)) 1=o2
 generalize opsOf 0 (aD Tryz.f16)=So
 generalize bp Tryz.f16=rest
 generalize Tryz.f16=fn
 intro qV L5 hcd DD DB BN BL hb0 Ig
 refine (EZ (H:=xo x) (B:=YF x) (T0:=TS x) (np:=7) (ne:=6) (ns:=5) (R:=lE Dq (· =ED x)) (LR:=kY) (fm:= {fn with body:=some (gC [5,15] rest)}) aA BL rfl mixed DB hb0 Ig ⟨by decide,by decide⟩ adf BN qV rfl aA rfl (fun ρ=>rfl) rfl (by show 13<65;decide) ⟨by decide,by decide⟩ rfl rfl DD rfl (fun r0=> ?_) QE hst).mono ?_
 ·have:=hcd r0
  rw [L5] at this
  exact this
 ·rintro e w' ⟨st,ρ',v,h1,h2,h3,h4,h5⟩
  exact ⟨st,ρ',v,h1,h2,h3,h5⟩
def yY (x:oS.ty.T):Dq.ty.T:=ED x
def nJ (x:oS.ty.T):Prop:=vS x
abbrev yZ:bY:=⟨oS,Dq,nJ,yY⟩
theorem Ym:ai Tryz.prog 16 (ak yZ):=ai.Mv (by kernel_rfl) fun x hp aV w hst=>S2 x hp aV w hst
def PE:List (Nat×Ev.Spec):=(16,ak yZ)::eU
theorem vo:ah Tryz.prog PE:=ah.add (fn:=Tryz.f16) (by kernel_rfl) Ym dU
def Kq (x:(List Int×List Int)):aK:=⟨[],⟨di 26 0 [(0,.v (.one (.full 0))),(1,.v (.one (.full 1))),(5,.v (.one (.i .i64)))],[.row yi 0,.row yi 0],0,none,[],[1,2],[0],[.i],[.l yi x.1,.l yi x.2]⟩,[⟨.ret,.ret,⟨di 26 0 [(4,.v (.one (.b)))],[],0,none,[],[0],[],[],[.b false]⟩⟩,⟨(.exit 0),.normal,⟨di 26 0 [],[],0,none,[],[],[],[],[]⟩⟩]⟩
def iH (x:(List Int×List Int)) (s:Int):Int⊕(Unit⊕Unit):=
 (if (s<(x.1.length:Int)) then
 (if (((x.1.getD s.toNat 0) !=(x.2.getD s.toNat 0))=true) then
 (Sum.inr (Sum.inl ())) else
 (Sum.inl (av (s+1)))) else
 (Sum.inr (Sum.inr (()))))
def qw (x:(List Int×List Int)) (s:Int):Prop:=
 ((s<(x.1.length:Int))->
 (((0<=s)/\ (s<(x.1.length:Int)))/\
 ((s.toNat<x.1.length)/\
 ((s.toNat<x.1.length)/\
 (((0<=s)/\ (s<(x.2.length:Int)))/\
 ((s.toNat<x.2.length)/\
 (s.toNat<x.2.length)))))))
def CV (x:(List Int×List Int)) (s:Int):Tr (Int⊕(Unit⊕Unit)) true:=
 (.i10 (s<(nL x.1))
 (.mS s x.1
 (.mS s x.2
 (.qH ((gI x.1 s) !=(gI x.2 s))
 (.ret (.inr (Sum.inl ())))
 (.ret (.inl (w1 s))))))
 (.ret (.inr (Sum.inr (())))))
def ML (x:(List Int×List Int)):Bool:=
 (if (((x.1.length:Int) !=(x.2.length:Int))=true) then
 false else
 (aq (run (iH x) 0) fun r=>
 (Sum.elim (fun a=>
 false) (fun b=>
 true) r)))
def sM (x:(List Int×List Int)):Prop:=
 (¬(((x.1.length:Int) !=(x.2.length:Int))=true)->
 (Term (iH x) (qw x) 0))
def abp (x:(List Int×List Int)):Tr Bool true:=
 (.nM ((nL x.1) !=(nL x.2))
 (.ret false)
 (aK.lp (Kq x) (CV x) z0 fun r=>
 (.MK r (fun a=>
 (.ret false)) (fun b=>
 (.ret true)))))
abbrev Af:bY:=⟨(.pair (.one (Ty.sl yi)) (.one (Ty.sl yi))),(.one Ty.bool),sM,ML⟩
theorem Xl:ai Tryz.prog 17 (ak Af):=ai.tr Af abp (fn:=Tryz.f17) aA vo mixed (by kernel_rfl) (ax.nil _ _) (fun x=>(ay.tr aA (ah.dX vo (ax.nil _ _)) mixed 0 (Kq x) (CV x) ay.nil (by kernel_rfl) fun g s Q=>(by kernel_rfl))) (fun x=>(by kernel_rfl)) fun x Q=>(by kernel_rfl)
def Xu:List (Nat×Ev.Spec):=(17,ak Af)::PE
theorem MR:ah Tryz.prog Xu:=ah.add (fn:=Tryz.f17) (by kernel_rfl) Xl vo
def Mn (x:(List I9×(Int×Int×Int×Int×List (Int×I3×I3×I2))×List (Int×Int×Int×I3)×List (Int×Int×Int×I3))):Bool:=
 (aq (Fo (x.1,x.2.1)) fun y=>
 (if ((!y)=true) then
 true else
 (if ((av ((x.2.2.1.length:Int)+(x.2.2.2.length:Int)))>6) then
 true else
 (aq (yY (x.1,x.2.1,x.2.2.1)) fun aB=>
 (aq (yY (x.1,x.2.1,x.2.2.2)) fun y_2=>
 (aq (yY (x.1,x.2.1,(([]++x.2.2.1)++x.2.2.2))) fun bk=>
 (if ((aB.2 !=0)=true) then
 (aq (ow false) fun bQ=>
 (if (bQ=true) then
 (if ((bk.2 !=0)=true) then
 ((bk.1.length:Int)==0) else
 false) else
 false)) else
 (if ((y_2.2 !=0)=true) then
 (aq (ow false) fun bQ=>
 (if (bQ=true) then
 (if ((bk.2 !=0)=true) then
 ((bk.1.length:Int)==0) else
 false) else
 false)) else
 (aq (ow false) fun bQ=>
 (if (bQ=true) then
 (if ((bk.2==0)=true) then
 (if (((aB.1.length:Int)==(x.2.2.1.length:Int))=true) then
 (aq (ML (bk.1,(([]++aB.1)++y_2.1))) fun jt=>
 jt) else
 false) else
 false) else
 false))))))))))
def uR (x:(List I9×(Int×Int×Int×Int×List (Int×I3×I3×I2))×List (Int×Int×Int×I3)×List (Int×Int×Int×I3))):Prop:=
 (aC (Fo (x.1,x.2.1)) fun y=>
 (¬((!y)=true)->
 (¬((av ((x.2.2.1.length:Int)+(x.2.2.2.length:Int)))>6)->
 (((0+x.2.2.1.length)<1099511627776)/\
 ((((List.length ([]++x.2.2.1))+x.2.2.2.length)<1099511627776)/\
 ((nJ (x.1,x.2.1,x.2.2.1))/\
 aC (yY (x.1,x.2.1,x.2.2.1)) fun aB=>
 ((nJ (x.1,x.2.1,x.2.2.2))/\
 aC (yY (x.1,x.2.1,x.2.2.2)) fun y_2=>
 ((nJ (x.1,x.2.1,(([]++x.2.2.1)++x.2.2.2)))/\
 aC (yY (x.1,x.2.1,(([]++x.2.2.1)++x.2.2.2))) fun bk=>
 ((((aB.2 !=0)=true)->
 (iR false))/\
 (¬((aB.2 !=0)=true)->
 ((((y_2.2 !=0)=true)->
 (iR false))/\
 (¬((y_2.2 !=0)=true)->
 (((0+aB.1.length)<1099511627776)/\
 ((((List.length ([]++aB.1))+y_2.1.length)<1099511627776)/\
 ((iR false)/\
 aC (ow false) fun bQ=>
 ((bQ=true)->
 (((bk.2==0)=true)->
 ((((aB.1.length:Int)==(x.2.2.1.length:Int))=true)->
 (sM (bk.1,(([]++aB.1)++y_2.1)))))))))))))))))))))
def WG (x:(List I9×(Int×Int×Int×Int×List (Int×I3×I3×I2))×List (Int×Int×Int×I3)×List (Int×Int×Int×I3))):Tr Bool true:=
 (.fn0 DS (x.1,x.2.1) trivial fun y=>
 (.nM (!y)
 (.ret true)
 (.FN ((av ((nL x.2.2.1)+(nL x.2.2.2)))>6)
 (.ret true)
 (.od ((0+x.2.2.1.length)<1099511627776)
 (.od (((List.length ([]++x.2.2.1))+x.2.2.2.length)<1099511627776)
 (.fn yZ (x.1,x.2.1,x.2.2.1) fun aB=>
 (.fn yZ (x.1,x.2.1,x.2.2.2) fun y_2=>
 (.fn yZ (x.1,x.2.1,(([]++x.2.2.1)++x.2.2.2)) fun bk=>
 (.b11 (aB.2 !=z0)
 (.fn lf false fun bQ=>
 (.qH bQ
 (.qH (bk.2 !=z0)
 (.ret ((nL bk.1)==z0))
 (.ret false))
 (.ret false)))
 (.b11 (y_2.2 !=z0)
 (.fn lf false fun bQ=>
 (.qH bQ
 (.qH (bk.2 !=z0)
 (.ret ((nL bk.1)==z0))
 (.ret false))
 (.ret false)))
 (.od ((0+aB.1.length)<1099511627776)
 (.od (((List.length ([]++aB.1))+y_2.1.length)<1099511627776)
 (.fn lf false fun bQ=>
 (.Dw bQ
 (.Dw (bk.2==z0)
 (.Dw ((nL aB.1)==(nL x.2.2.1))
 (.fn Af (bk.1,(([]++aB.1)++y_2.1)) fun jt=>
 (.ret jt))
 (.ret false))
 (.ret false))
 (.ret false)))))))))))))))
abbrev BR:bY:=⟨(.pair (.one (Ty.sl dF)) (.pair (.agg (Ty.prod yi (Ty.prod yi (Ty.prod yi (Ty.prod yi (Ty.sl (Ty.prod yi (Ty.prod aM (Ty.prod aM fX))))))))) (.pair (.one (Ty.sl (Ty.prod yi (Ty.prod yi (Ty.prod yi aM))))) (.one (Ty.sl (Ty.prod yi (Ty.prod yi (Ty.prod yi aM)))))))),(.one Ty.bool),uR,Mn⟩
theorem Sb:ai Tryz.prog 6 (ak BR):=ai.tr BR WG (fn:=Tryz.f6) aA MR mixed (by kernel_rfl) (ax.nil _ _) (fun x=>ay.nil) (fun x=>(by kernel_rfl)) fun x Q=>(by kernel_rfl)
end Go.Proofs.YtngdehlpoomaiaaGreat
namespace Go.Proofs.YtngdehlpoomaiaaGreat
open Go Go.Ev Go.Proofs
def yh (t:T3):P3:=DO (sb t.2.1 t.1) (sb t.2.2 t.1)
def aa7 (n:P3):P3:=(Int.tdiv n.1 16384,Int.tdiv n.2.1 16384,Int.tdiv n.2.2 16384)
def adQ (t:T3):P3:=if aa7 (yh t)=(0,0,0) then yh t else aa7 (yh t)
theorem Sm {t:T3} (ht:SmT t):iE t/\ ni t=(yh t,0):=by
 obtain ⟨a,b,c⟩:=t
 obtain ⟨ha,hb,hc⟩:=ht
 obtain ⟨s1,s2⟩:=vn (x:= [a,b,c]) (by simp) (sm3 ha hb hc)
 obtain ⟨u1,u2⟩:=ru hb ha
 obtain ⟨v1,v2⟩:=ru hc ha
 obtain ⟨c1,c2⟩:=pJ (Ag hb ha) (Ag hc ha)
 constructor
 ·unfold iE wF aC
  dsimp only
  rw [u2,v2]
  exact ⟨s1,fun _=>⟨u1,v1,c1⟩⟩
 ·unfold ni Un aq
  dsimp only
  rw [s2,if_neg (by decide),u2,v2,c2]
  rfl
theorem ahT {t:T3} (ht:SmT t):Bd 2147483648 (yh t):=YS (Ag ht.2.1 ht.1) (Ag ht.2.2 ht.1)
theorem RA {t:T3} (ht:SmT t):l8 t/\ rU t=adQ t:=by
 obtain ⟨n1,n2⟩:=Sm ht
 have hb:=ahT ht
 have f: ∀a:Int,(-2147483648<=a/\ a<=2147483648)->av (Int.tdiv a 16384)=Int.tdiv a 16384:=fun a ha=>by
  have h1:=Int.mul_tdiv_add_tmod a 16384
  have h2:=Int.tmod_lt_of_pos a (show (0:Int)<16384 by decide)
  have h4: -16384<Int.tmod a 16384:=by
   have:=Int.tmod_lt_of_pos (-a) (show (0:Int)<16384 by decide)
   rw [Int.neg_tmod] at this
   omega
  exact aF (by omega) (by omega)
 unfold l8 rU aC aq
 rw [n2]
 dsimp only
 rw [f _ hb.1,f _ hb.2.1,f _ hb.2.2]
 refine ⟨⟨n1,u5.1⟩,?_⟩
 unfold adQ
 by_cases h:aa7 (yh t)=(0,0,0)
 ·have e:(!((Int.tdiv (yh t).1 16384==0)&&((Int.tdiv (yh t).2.1 16384==0)&&((Int.tdiv (yh t).2.2 16384==0)&&true))))=false:=by
   unfold aa7 at h
   injection h with h1 h
   injection h with h2 h3
   rw [h1,h2,h3];rfl
  rw [if_pos h,e,if_neg (by decide)]
 ·have e:(!((Int.tdiv (yh t).1 16384==0)&&((Int.tdiv (yh t).2.1 16384==0)&&((Int.tdiv (yh t).2.2 16384==0)&&true))))=true:=by
   rw [Bool.not_eq_true']
   cases hc:((Int.tdiv (yh t).1 16384==0)&&((Int.tdiv (yh t).2.1 16384==0)&&((Int.tdiv (yh t).2.2 16384==0)&&true))) with
   |false=>rfl
   |true=>
    simp only [Bool.and_eq_true,beq_iff_eq,and_true] at hc
    exact absurd (by unfold aa7;rw [hc.1,hc.2.1,hc.2.2]) h
  rw [if_neg h,e,if_pos rfl]
  rfl
abbrev Vp:Type:=Int×(Int×Int×P3)
def Cd (l:List T3) (j:Jb) (x:Vp):Ez:=(j,x.2.2.2,adQ (l.getD x.2.2.1.toNat zT))
def xg (l:List T3) (j:Jb) (x:Vp):Int:=ik (Cd l j x)
def ab3 (l:List T3) (j:Jb) (x:Vp):Int:=M5 l j.2.2.2.2 ((j.1,j.2.1,j.2.2.1,j.2.2.2.1),mQ (Cd l j x),(Cd l j x).2.2)
def n7:List Int->Int
 | []=>0
 |c::r=>if c=0 then n7 r else c
theorem ES: ∀(A B:List Int),n7 (A++B)=if n7 A=0 then n7 B else n7 A
 | [],B=>by simp [n7]
 |c::r,B=>by
  by_cases h:c=0
  ·have e1:n7 (c::r)=n7 r:=if_pos h
   have e2:n7 (c::(r++B))=n7 (r++B):=if_pos h
   rw [List.cons_append,e1,e2];exact ES r B
  ·have e1:n7 (c::r)=c:=if_neg h
   have e2:n7 (c::(r++B))=c:=if_neg h
   rw [List.cons_append,e1,e2,if_neg h]
theorem Bs: ∀ {A:List Int},(∀c∈A,c=0)->n7 A=0
 | [],_=>rfl
 |c::r,h=>by
  rw [n7,if_pos (h c (by simp))]
  exact Bs fun c hc=>h c (by simp [hc])
def T4 (l:List T3) (x:Vp):Prop:=0<=x.2.2.1/\ x.2.2.1<((l.length:Nat):Int)
instance (l:List T3) (x:Vp):Decidable (T4 l x):=by unfold T4;infer_instance
def zS:Vp:=(0,0,0,0,0,0)
theorem OE (l:List T3) (j:Jb) (s:List Vp) (L:List T3) (hs:s.length<=1000):TR (ef (l,j,s)) (jS (l,j,s)) (L,0) fun r=>(r= .inr L/\ ∀y∈s,T4 l y)\/ (r= .inl ()/\ ¬ ∀y∈s,T4 l y):=by
 refine eH s.length (fun i st=>st=(L,(i:Int))/\ ∀y∈s.take i,T4 l y) _ (fun i st hi hJ=> ?_) (fun st hJ=> ?_) ⟨rfl,by simp⟩
 ·obtain ⟨rfl,hall⟩:=hJ
  have hm:=jl hi zS
  unfold jS ef
  dsimp only
  simp only [Int.toNat_natCast]
  refine ⟨fun _=>⟨⟨by omega,by omega⟩,hi,hi⟩,?_⟩
  rw [if_pos (show ((i:Nat):Int)<((s.length:Nat):Int) by omega)]
  have e:s.getD i ((0:Int),(0:Int),(0:Int),(0:Int),(0:Int),(0:Int))=s.getD i zS:=rfl
  simp only [e]
  by_cases h1:(s.getD i zS).2.2.1<0
  ·rw [if_pos h1]
   exact .inr ⟨_,rfl,.inr ⟨rfl,fun h=>by have:=(h _ hm).1;omega⟩⟩
  rw [if_neg h1]
  by_cases h2:(s.getD i zS).2.2.1>=((l.length:Nat):Int)
  ·rw [if_pos h2]
   exact .inr ⟨_,rfl,.inr ⟨rfl,fun h=>by have:=(h _ hm).2;omega⟩⟩
  rw [if_neg h2,aF (by omega) (by omega)]
  refine .inl ⟨_,rfl,rfl,fun y hy=> ?_⟩
  rw [eA hi zS] at hy
  rcases List.mem_append.1 hy with hy|hy
  ·exact hall y hy
  ·rw [List.mem_singleton] at hy
   subst hy
   exact ⟨by omega,by omega⟩
 ·obtain ⟨rfl,hall⟩:=hJ
  rw [List.take_length] at hall
  refine ⟨?_,_,?_,.inl ⟨rfl,hall⟩⟩
  ·unfold jS
   intro q
   dsimp only at q;omega
  ·unfold ef
   dsimp only
   rw [if_neg (by omega)]
theorem S4 (l:List T3) (j:Jb) (s:List Vp) (hl:l.length<=8) (hj:j.1<=12\/ j.1>64) (hs:yQ l) (hlen:s.length<=1000) (hin: ∀y∈s,T4 l y):
    TR (fY (l,j,s)) (jT (l,j,s)) ([],l,0,[],0,0,0) fun r=>(n7 (s.map (xg l j))=0/\ r= .inr (s.map (ab3 l j)))\/ (n7 (s.map (xg l j))≠0/\ r= .inl (n7 (s.map (xg l j)))):=by
  refine eH s.length (fun i st=> ∃dn T a b,st=((s.take i).map (ab3 l j),l,dn,T,a,b,(i:Int))/\ Vn l dn T/\ ∀y∈s.take i,xg l j y=0) _ (fun i st hi hJ=> ?_) (fun st hJ=> ?_) ⟨0, [],0,0,rfl, .inl rfl,by simp⟩
  · obtain ⟨dn,T,a,b,rfl,hC,hz⟩:=hJ
    have hm:=jl hi zS
    obtain ⟨y,hy⟩: ∃y,y=s.getD i zS:=⟨_,rfl⟩
    rw [<- hy] at hm
    have e:s.getD i ((0:Int),(0:Int),(0:Int),(0:Int),(0:Int),(0:Int))=y:=hy.symm
    obtain ⟨q1,q2⟩:=hin y hm
    have hyl:y.2.2.1.toNat<l.length:=by omega
    have hST:SmT (l.getD y.2.2.1.toNat zT):=aga hs ⟨q1,q2⟩
    obtain ⟨g1,g2⟩:=RA hST
    have eT:l.getD y.2.2.1.toNat (((0:Int),(0:Int),(0:Int)),((0:Int),(0:Int),(0:Int)),(0:Int),(0:Int),(0:Int))=l.getD y.2.2.1.toNat zT:=rfl
    obtain ⟨k1,k2⟩:=wH (Cd l j y)
    have eo:(j,y.2.2.2,adQ (l.getD y.2.2.1.toNat zT))=Cd l j y:=rfl
    have hlt:((s.take i).map (ab3 l j)).length=i:=by rw [List.length_map,List.length_take];omega
    have htk:s.take (i+1)=s.take i++ [y]:=by rw [eA hi zS, <- hy]
    unfold jT fY aC aq
    dsimp only
    simp only [Int.toNat_natCast]
    simp only [e,eT,g2,eo,k2,hlt]
    rw [if_pos (show ((i:Nat):Int)<((s.length:Nat):Int) by omega)]
    by_cases hc:ik (Cd l j y)=0
    · obtain ⟨o1,o2⟩:=wG hc
      obtain ⟨c1,c2,c3,c4⟩:=E5 hc
      have hn:=agb hc
      have c1:X1 j:=c1
      obtain ⟨v1,T',Iq,a',b',v2,v3⟩:=Lf hs (by omega) hC (Lt:=j.2.2.2.2) (by have:=c1.2.2.2.2.1;omega) c1.2.2.2.2.2 (s:=j.1) (len:=j.2.1) (qJ:=j.2.2.1) (vU:=j.2.2.2.1) ⟨c1.1.1,by have:=c1.1.2;omega⟩ c1.2.1 c1.2.2.2.1 (bz:=mQ (Cd l j y)) (n:=(Cd l j y).2.2) hn c3 c4 a b
      have o2':th (Cd l j y)=((j.1,j.2.1,j.2.2.1,j.2.2.2.1),mQ (Cd l j y),(Cd l j y).2.2):=o2
      have e2:Ck (l,T,j.2.2.2.2,(dn,a,b),(j.1,j.2.1,j.2.2.1,j.2.2.2.1),mQ (Cd l j y),(Cd l j y).2.2)=(ab3 l j y,T',Iq,a',b'):=v2
      rw [o2',if_pos hc]
      refine ⟨fun _=>⟨⟨by omega,by omega⟩,hi,hi,⟨q1,q2⟩,hyl,hyl,g1,k1,fun _=>⟨⟨q1,q2⟩,hyl,hyl,g1,o1,v1,by omega⟩⟩, .inl ⟨_,rfl,Iq,T',a',b', ?_,v3,fun z hz'=> ?_⟩⟩
      · rw [e2]
        dsimp only
        rw [htk,List.map_append,aF (by omega) (by omega)]
        rfl
      · rw [htk] at hz'
        rcases List.mem_append.1 hz' with h|h
        · exact hz z h
        · rw [List.mem_singleton] at h
          subst h
          exact hc
    · rw [if_neg hc]
      refine ⟨fun _=>⟨⟨by omega,by omega⟩,hi,hi,⟨q1,q2⟩,hyl,hyl,g1,k1,fun h=>absurd h hc⟩, .inr ⟨_,rfl, .inr ?_⟩⟩
      have hb:n7 (s.map (xg l j))=xg l j y:=by
        have es:s=s.take i++(y::s.drop (i+1)):=by
          rw [hy,List.getD_eq_getElem?_getD,List.getElem?_eq_getElem hi,Option.getD_some, <- List.drop_eq_getElem_cons hi,List.take_append_drop]
        rw [es,List.map_append,ES,Bs (fun c Iw=>by
          obtain ⟨z,h,rfl⟩:=List.mem_map.1 Iw
          exact hz z h),if_pos rfl,List.map_cons,n7]
        exact if_neg hc
      rw [hb]
      exact ⟨hc,rfl⟩
  · obtain ⟨dn,T,a,b,rfl,hC,hz⟩:=hJ
    rw [List.take_length] at hz
    refine ⟨?_,_, ?_, .inl ⟨Bs (fun c Iw=>by
          obtain ⟨z,h,rfl⟩:=List.mem_map.1 Iw
          exact hz z h),rfl⟩⟩
    · unfold jT
      intro q
      dsimp only at q;omega
    · unfold fY
      dsimp only
      rw [if_neg (by omega),List.take_length]
instance (l:List T3):Decidable (yQ l):=Classical.propDecidable _
def e8 (l:List T3) (j:Jb) (s:List Vp):List Int×Int:=if X1 j then if yQ l then if∀y∈s,T4 l y then if n7 (s.map (xg l j))=0 then (s.map (ab3 l j),0) else ([],n7 (s.map (xg l j))) else ([],1) else ([],5) else ([],1)
theorem HM {l:List T3} {j:Jb} {s:List Vp} (hf:Fo (l,j)=true) (hlen:s.length<=1000):nJ (l,j,s)/\ yY (l,j,s)=e8 l j s:=by
 rw [adE] at hf
 have hf:=of_decide_eq_true hf
 obtain ⟨g1,g2⟩:=DX j
 have alG: ¬((l.length:Nat):Int)>500:=by omega
 unfold nJ yY vS ED aC aq e8
 dsimp only
 rw [g2]
 by_cases hj:X1 j
 rotate_left
 ·rw [decide_eq_false hj,if_neg hj]
  exact ⟨⟨g1,fun h=>absurd rfl h⟩,rfl⟩
 rw [decide_eq_true hj,if_pos hj,if_neg alG]
 by_cases hs:yQ l
 rotate_left
 ·obtain ⟨d1,d2⟩:=NQ (L:=l) (by omega) hs
  rw [d2,if_neg hs]
  exact ⟨⟨g1,fun _ _=>⟨d1,fun h=>absurd rfl h⟩⟩,rfl⟩
 obtain ⟨d1,d2⟩:=tT (L:=l) (by omega) hs
 obtain ⟨l1,l2⟩:=Bv l (by omega)
 rw [d2,l2,if_pos hs]
 have ki:=OE l j s l hlen
 rcases ki.2 with ⟨k1,k2⟩|⟨k1,k2⟩
 rotate_left
 ·rw [k1,if_neg k2]
  exact ⟨⟨g1,fun _ _=>⟨d1,fun _=>⟨l1,u5.1,ki.1,trivial⟩⟩⟩,rfl⟩
 have kv:=S4 l j s (by omega) hf.2.2 hs hlen k2
 rw [k1,if_pos k2]
 rcases kv.2 with ⟨v1,v2⟩|⟨v1,v2⟩
 ·dsimp only [Sum.elim_inr,cS]
  rw [v2,if_pos v1]
  exact ⟨⟨g1,fun _ _=>⟨d1,fun _=>⟨l1,u5.1,ki.1,kv.1⟩⟩⟩,rfl⟩
 ·dsimp only [Sum.elim_inr,cS]
  rw [v2,if_neg v1]
  exact ⟨⟨g1,fun _ _=>⟨d1,fun _=>⟨l1,u5.1,ki.1,kv.1⟩⟩⟩,rfl⟩
theorem SL (l:List Int) (hl:l.length<4611686018427387904):sM (l,l)/\ ML (l,l)=true:=by
 have k:=jV l hl (fun _=>false) (iH (l,l)) (qw (l,l)) (fun i hi=>by
   unfold qw
   intro h
   simp only [Int.toNat_natCast]
   dsimp only at h ⊢
   exact ⟨⟨by omega,by omega⟩,by omega,by omega,⟨by omega,by omega⟩,by omega,by omega⟩) (fun i v hv=>by
   have hlt:=c6 hv
   unfold iH
   dsimp only
   rw [if_pos (by omega),if_neg (by simp)]
   rfl) (by
   unfold iH
   dsimp only
   rw [if_neg (by omega)])
 unfold sM ML aq
 dsimp only
 rw [if_neg (by simp)]
 refine ⟨fun _=>k.1,?_⟩
 rw [k.2]
 simp
abbrev alg:Type:=List T3×(Jb×List Vp×List Vp)
theorem XL (l:List T3) (j:Jb) (s more:List Vp):((e8 l j s).2≠0\/ (e8 l j more).2≠0->(e8 l j (s++more)).2≠0/\ (e8 l j (s++more)).1= [])/\
  ((e8 l j s).2=0->(e8 l j more).2=0->e8 l j (s++more)=((e8 l j s).1++(e8 l j more).1,0)/\ (e8 l j s).1.length=s.length/\ (e8 l j more).1.length=more.length):=by
 unfold e8
 by_cases h1:X1 j
 rotate_left
 ·simp only [if_neg h1]
  exact ⟨fun _=>⟨by decide,trivial⟩,fun h=>absurd h (by decide)⟩
 simp only [if_pos h1]
 by_cases h2:yQ l
 rotate_left
 ·simp only [if_neg h2]
  exact ⟨fun _=>⟨by decide,trivial⟩,fun h=>absurd h (by decide)⟩
 simp only [if_pos h2]
 have hall:(∀y∈s++more,T4 l y)↔(∀y∈s,T4 l y)/\ ∀y∈more,T4 l y:=⟨fun h=>⟨fun y hy=>h y (by simp [hy]),fun y hy=>h y (by simp [hy])⟩,fun h y hy=>(List.mem_append.1 hy).elim (h.1 y) (h.2 y)⟩
 by_cases h3: ∀y∈s,T4 l y
 rotate_left
 ·have h4: ¬ ∀y∈s++more,T4 l y:=fun h=>h3 (hall.1 h).1
  rw [if_neg h3,if_neg h4]
  exact ⟨fun _=>⟨by decide,rfl⟩,fun h=>absurd h (by decide)⟩
 by_cases h4: ∀y∈more,T4 l y
 rotate_left
 ·have h5: ¬ ∀y∈s++more,T4 l y:=fun h=>h4 (hall.1 h).2
  rw [if_neg h4,if_neg h5]
  exact ⟨fun _=>⟨by decide,rfl⟩,fun _ h=>absurd h (by decide)⟩
 have h5:=hall.2 ⟨h3,h4⟩
 rw [if_pos h3,if_pos h4,if_pos h5,List.map_append,ES]
 by_cases h6:n7 (s.map (xg l j))=0
 rotate_left
 ·simp only [if_neg h6]
  exact ⟨fun _=>⟨h6,trivial⟩,fun h=>absurd h h6⟩
 simp only [if_pos h6]
 by_cases h7:n7 (more.map (xg l j))=0
 ·simp only [if_pos h7]
  exact ⟨fun h=>h.elim (fun h=>absurd rfl h) (fun h=>absurd rfl h),fun _ _=>⟨by rw [List.map_append],by simp,by simp⟩⟩
 ·simp only [if_neg h7]
  exact ⟨fun _=>⟨h7,trivial⟩,fun _ h=>absurd h h7⟩
theorem CO (x:alg) (hx:x.2.2.1.length+x.2.2.2.length<=4611686018427387904):uR x/\ Mn x=true:=by
 obtain ⟨l,j,s,more⟩:=x
 dsimp only at hx
 obtain ⟨g1,g2⟩:=L2 false
 have hw:av (((s.length:Nat):Int)+((more.length:Nat):Int))=((s.length:Nat):Int)+((more.length:Nat):Int):=aF (by omega) (by omega)
 unfold uR Mn aC aq
 dsimp only
 rw [hw,g2]
 cases hf:Fo (l,j) with
 |false=>exact ⟨fun h=>absurd rfl h,rfl⟩
 |true=>
 rw [if_neg (by decide)]
 by_cases h6:((s.length:Nat):Int)+((more.length:Nat):Int)>6
 ·rw [if_pos h6]
  exact ⟨fun _ h=>absurd h6 h,rfl⟩
 rw [if_neg h6]
 have hal:(([]++s)++more)=s++more:=by simp
 obtain ⟨a1,a2⟩:=HM (s:=s) hf (by omega)
 obtain ⟨b1,b2⟩:=HM (s:=more) hf (by omega)
 obtain ⟨c1,c2⟩:=HM (s:=s++more) hf (by rw [List.length_append];omega)
 obtain ⟨k1,k2⟩:=XL l j s more
 rw [hal,a2,b2,c2]
 by_cases ha:(e8 l j s).2=0
 rotate_left
 ·have bne:((e8 l j s).2 !=0)=true:=by simpa using ha
  obtain ⟨m1,m2⟩:=k1 (.inl ha)
  have bnc:((e8 l j (s++more)).2 !=0)=true:=by simpa using m1
  rw [if_pos bne,if_pos bnc,m2]
  exact ⟨fun _ _=>⟨by omega,by simp;omega,a1,b1,c1,fun _=>g1,fun h=>absurd bne h⟩,rfl⟩
 by_cases hb:(e8 l j more).2=0
 rotate_left
 ·have bne:((e8 l j more).2 !=0)=true:=by simpa using hb
  obtain ⟨m1,m2⟩:=k1 (.inr hb)
  have bnc:((e8 l j (s++more)).2 !=0)=true:=by simpa using m1
  rw [ha,if_neg (by decide),if_pos bne,if_pos bnc,m2]
  exact ⟨fun _ _=>⟨by omega,by simp;omega,a1,b1,c1,fun _=>g1,fun _=>⟨fun _=>g1,fun h=>absurd bne h⟩⟩,rfl⟩
 obtain ⟨m1,m2,m3⟩:=k2 ha hb
 rw [ha,hb,m1]
 dsimp only
 have hle:((e8 l j s).1++(e8 l j more).1).length<=6:=by rw [List.length_append,m2,m3];omega
 obtain ⟨s1,s2⟩:=SL ((e8 l j s).1++(e8 l j more).1) (by omega)
 have amk:([]++(e8 l j s).1)++(e8 l j more).1=(e8 l j s).1++(e8 l j more).1:=by simp
 rw [amk,s2]
 refine ⟨fun _ _=>⟨by omega,by simp;omega,a1,b1,c1,fun h=>absurd h (by decide),fun _=>⟨fun h=>absurd h (by decide),fun _=>⟨by rw [m2];omega,by rw [List.nil_append,m2,m3];omega,g1,fun _ _ _=>s1⟩⟩⟩,?_⟩
 simp [m2]
end Go.Proofs.YtngdehlpoomaiaaGreat
