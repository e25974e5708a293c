/- A function that calls itself through a variable, and makes a row longer which another variable holds. -/
import Derived.Test.YtaipcbdilkcdbaaEvT
noncomputable section
set_option linter.unusedSectionVars false
set_option linter.unusedVariables false
set_option linter.unusedSimpArgs false
namespace Go.Ev
open Go.RowKit
structure Ah where
 tb:Ty
 tv:Ty
 f:FuncId
 eT:TypeId
 eF:TypeId
 eG:TypeId
@[reducible] def Ah.ty (d:Ah):Ty:= .prod (.sl (.int .i64)) (.prod (.sl d.tv) (.sl d.tb))
structure Tn where
 p:Ah
 pre:p.ty.T->Prop
 f:p.ty.T->List p.tb.T
def QF (f:FuncId) (a b c:Nat):Cell:= .kq (.func f) [] [.loc a 0,.loc b 0,.loc c 0]
def FV (d:Ah) (x:d.ty.T):List AV:= [.v (.one (.full 0)),.v (.one (.ptr 1 0)),.v (.one (.ptr 3 0)),.v (.one (.ptr 5 0))]
def rF (d:Ah) (x:d.ty.T) (ρ:Env):List aG:= [.row (.int .i64) x.1 0,.cells [.full 2] d.eT,.row d.tb x.2.2 2,.cells [.full 4] d.eF,.row d.tv x.2.1 0,.cells [QF d.f 1 3 5] d.eG,.de ρ 6]
def K4 (hp:HP) (t:Ty):Cell->Option (List t.T×List Nat)
 | .full r=>match hp r with
  |some (.row u l rk)=>if rk=2 then (match iM u t l with
   |some l'=>some (l',[r])
   |none=>none) else none
  |_=>none
 | .raw (.slice none 0 0)=>some ([],[])
 |_=>none
def isSelf (c:Cell) (f:FuncId) (a b d:Nat):Bool:=match c with
 | .kq (.func g) [] [.loc a' 0,.loc b' 0,.loc d' 0]=>decide (g=f)&&decide (a'=a)&&decide (b'=b)&&decide (d'=d)
 |_=>false
theorem yI {c:Cell} {f:FuncId} {a b d:Nat} (h:isSelf c f a b d=true):c=QF f a b d:=by
 unfold isSelf at h
 split at h
 ·simp only [Bool.and_eq_true,decide_eq_true_eq] at h
  obtain ⟨⟨⟨rfl,rfl⟩,rfl⟩,rfl⟩:=h
  rfl
 ·cases h
def iH (s:Tn):Spec:=fun _ args hp nm k=>match args with
 | [a,.v (.one (.ptr nT 0)),.v (.one (.ptr nF 0)),.v (.one (.ptr nG 0))]=>match jA hp (.one (.sl (.int .i64))) [a],hp nT,hp nF,hp nG with
  |some (pl,[],Aa,b1),some (.cells [cT] eT),some (.cells [cF] eF),some (.cells [cG] eG)=>match K4 hp s.p.tb cT,jA hp (.one (.sl s.p.tv)) [.v (.one cF)] with
   | some (l,rr),some (L,[],Ew,b2)=>if decide (eT=s.p.eT)&&decide (eF=s.p.eF)&&decide (eG=s.p.eG)&&isSelf cG s.p.f nT nF nG&&iT (nT::nF::nG::rr)&&AB (Aa++Ew) (nT::nF::nG::rr) then
     ob (b1&&b2) (s.pre (pl,(L,l))/\ ∀y,y=s.f (pl,(L,l))->k {val:=aW,fresh:= [.row s.p.tb y 2],writes:=(nT,.cells [.full nm] s.p.eT)::rr.map fun r=>(r,.gone),az:=(nT::nF::nG::rr)++(Aa++Ew)}) else False
   |_,_=>False
  |_,_,_,_=>False
 |_=>False
def Sy (d:Ah) (ρ:Env) (Q:List d.tb.T->Prop) (v:AV) (st:AS):Prop:=match v with
 | .oP []=>match aj st.heap 1,aj st.heap 3,aj st.heap 5 with
  |some (.cells [.full m] eT),some (.cells [.full 4] eF),some (.cells [cG] eG)=>if decide (eT=d.eT)&&decide (eF=d.eF)&&decide (eG=d.eG)&&isSelf cG d.f 1 3 5 then (match aj st.heap m with
   |some (.row u l rk)=>if rk=2 then (match iM u d.tb l with
    |some z=>vJ (aj st.heap 6) ρ 6 (Q z)
    |none=>False) else False
   |_=>False) else False
  |_,_,_=>False
 |_=>False
theorem M0 {d:Ah} {ρ:Env} {Q:List d.tb.T->Prop} {v:AV} {st:AS} (h:Sy d ρ Q v st):v=aW/\ ∃m z,aj st.heap 1=some (.cells [.full m] d.eT)/\ aj st.heap 3=some (.cells [.full 4] d.eF)/\ aj st.heap 5=some (.cells [QF d.f 1 3 5] d.eG)/\ aj st.heap m=some (.row d.tb z 2)/\ aj st.heap 6=some (.de ρ 6)/\ Q z:=by
 unfold Sy at h
 split at h
 rotate_left
 ·exact h.elim
 split at h
 rotate_left
 ·exact h.elim
 rename_i m eT eF cG eG h1 h2 h3
 split at h
 rotate_left
 ·exact h.elim
 rename_i hc
 simp only [Bool.and_eq_true,decide_eq_true_eq] at hc
 obtain ⟨⟨⟨rfl,rfl⟩,rfl⟩,hs⟩:=hc
 split at h
 rotate_left
 ·exact h.elim
 rename_i u l rk hm
 split at h
 rotate_left
 ·exact h.elim
 rename_i mW
 subst mW
 split at h
 rotate_left
 ·exact h.elim
 rename_i z hz
 obtain ⟨e1,e2⟩:=cK hz
 subst e1
 dsimp only at e2
 subst e2
 obtain ⟨hp,hQ⟩:=jm h
 exact ⟨rfl,m,_,h1,h2,by rw [h3,yI hs],hm,hp,hQ⟩
def Nq (ρ:Env) (Wn:List Nat):Nat->Prop:=fun b=> ∃n∈Wn,(ρ n).has b
def L0 (y0 yT yR yF y4 yG:Loc):Env:=fun i=>match i with
 |0=>y0
 |1=>yT
 |2=>yR
 |3=>yF
 |4=>y4
 |5=>yG
 |_=> {}
theorem rG {d:Ah} {x:d.ty.T} {ρ:Env} {n:Nat} {o:aG} (h:aj (rF d x ρ) n=some o):
  (n=0/\ o= .row (.int .i64) x.1 0)\/ (n=1/\ o= .cells [.full 2] d.eT)\/ (n=2/\ o= .row d.tb x.2.2 2)\/ (n=3/\ o= .cells [.full 4] d.eF)\/ (n=4/\ o= .row d.tv x.2.1 0)\/ (n=5/\ o= .cells [QF d.f 1 3 5] d.eG)\/ (n=6/\ o= .de ρ 6):=by
 have h:=rN h
 match n,h with
 |0,h=>exact .inl ⟨rfl,by cases h;rfl⟩
 |1,h=>exact .inr (.inl ⟨rfl,by cases h;rfl⟩)
 |2,h=>exact .inr (.inr (.inl ⟨rfl,by cases h;rfl⟩))
 |3,h=>exact .inr (.inr (.inr (.inl ⟨rfl,by cases h;rfl⟩)))
 |4,h=>exact .inr (.inr (.inr (.inr (.inl ⟨rfl,by cases h;rfl⟩))))
 |5,h=>exact .inr (.inr (.inr (.inr (.inr (.inl ⟨rfl,by cases h;rfl⟩)))))
 |6,h=>exact .inr (.inr (.inr (.inr (.inr (.inr ⟨rfl,by cases h;rfl⟩)))))
 |n+7,h=>simp [rF] at h
section
variable {ax:iV} {W:World} {ρ:Env} {Kn:Nat->Prop} {Γ:HP} {w:World}
theorem yp {ok fz pm:Nat->Prop} {dH:Env} {n:Nat} {o:aG} (h1:dg ok w o (dH n)) (hok: ∀b,ok b->fz b):aX fz pm dH n o w:=by
 obtain ⟨u,l,rfl⟩:=bM h1
 obtain ⟨_,g1,g2,g3,g4,vals,g5,g6⟩:=h1
 obtain ⟨e1,e2⟩:=jo g5
 refine ⟨g2,g3,g4,pM vals,fun i v hv=> ?_,fun q u' l' hq=> ?_,fun _=>g1.1,fun h=>absurd rfl h⟩
 ·rw [e1] at hv
  obtain ⟨a,k1,k2,k3⟩:=g6 i v hv
  exact ⟨a,k1,k2,fun _=>hok _ k3⟩
 ·exact (e2 q u' l' hq).weak fun b hb=>⟨hok b hb,fun h=>by cases h⟩
theorem St.Tv {d:Ah} {x:d.ty.T} {nT nF nG:Nat} {rr:List Nat} {cT cF:Cell} {y0 y4 yR:Loc} (h:St ax W ρ Kn Γ w)
  (hT:Γ nT=some (.cells [cT] d.eT)) (hF:Γ nF=some (.cells [cF] d.eF)) (hG:Γ nG=some (.cells [QF d.f nT nF nG] d.eG)) (hr: ∀r∈rr,(Γ r).isSome=true) (nE:(nT::nF::nG::rr).Nodup)
  (h0:dg (fun b=>bg w b/\ ¬Nq ρ (nT::nF::nG::rr) b) w (.row (.int .i64) x.1 0) y0) (h4:dg (fun b=>bg w b/\ ¬Nq ρ (nT::nF::nG::rr) b) w (.row d.tv x.2.1 0) y4)
  (hcF:cF.af ρ= .slice y4.base y4.len y4.cap) (hcT:cT.af ρ= .slice yR.base yR.len yR.cap)
  (hrow:aX (eo ρ Γ w) (qP ax W) (fun _=>yR) 2 (.row d.tb x.2.2 2) w) (hyb: ∀b,yR.has b-> ∃r∈rr,(ρ r).has b) (hye:yR.bT= []):
  St {wr:=Nq ρ (nT::nF::nG::rr),nw:=fun b=>eo ρ Γ w b/\ qP ax W b} w (L0 y0 (ρ nT) yR (ρ nF) y4 (ρ nG)) (· <7) (aj (rF d x (L0 y0 (ρ nT) yR (ρ nF) y4 (ρ nG)))) w:=by
 obtain ⟨dH,lZ⟩: ∃dH,dH=L0 y0 (ρ nT) yR (ρ nF) y4 (ρ nG):=⟨_,rfl⟩
 rw [<- lZ]
 have e0:dH 0=y0:=by rw [lZ];rfl
 have e1:dH 1=ρ nT:=by rw [lZ];rfl
 have e2:dH 2=yR:=by rw [lZ];rfl
 have e3:dH 3=ρ nF:=by rw [lZ];rfl
 have e4:dH 4=y4:=by rw [lZ];rfl
 have e5:dH 5=ρ nG:=by rw [lZ];rfl
 have e6:(dH 6).bt=Option.none/\ (dH 6).bT= []:=by rw [lZ];exact ⟨rfl,rfl⟩
 have Cx: ∀n∈(nT::nF::nG::rr),(Γ n).isSome=true:=fun n hn=>by
  simp only [List.mem_cons] at hn
  rcases hn with rfl|rfl|rfl|hn
  ·rw [hT];rfl
  ·rw [hF];rfl
  ·rw [hG];rfl
  ·exact hr n hn
 have gO: ∀n b,(aj (rF d x dH) n).isSome=true->(dH n).has b->(n=1/\ (ρ nT).has b)\/ (n=2/\ ∃r∈rr,(ρ r).has b)\/ (n=3/\ (ρ nF).has b)\/ (n=5/\ (ρ nG).has b):=fun n b hs hb=>by
  obtain ⟨o,ho⟩:=Option.isSome_iff_exists.1 hs
  rcases rG ho with ⟨rfl,_⟩|⟨rfl,_⟩|⟨rfl,_⟩|⟨rfl,_⟩|⟨rfl,_⟩|⟨rfl,_⟩|⟨rfl,_⟩
  ·rw [e0] at hb;exact (nZ h0.2.1 hb).elim
  ·rw [e1] at hb;exact .inl ⟨rfl,hb⟩
  ·rw [e2] at hb;exact .inr (.inl ⟨rfl,hyb b hb⟩)
  ·rw [e3] at hb;exact .inr (.inr (.inl ⟨rfl,hb⟩))
  ·rw [e4] at hb;exact (nZ h4.2.1 hb).elim
  ·rw [e5] at hb;exact .inr (.inr (.inr ⟨rfl,hb⟩))
  ·exact (nZ e6 hb).elim
 have hwr: ∀n b,(aj (rF d x dH) n).isSome=true->(dH n).has b->Nq ρ (nT::nF::nG::rr) b:=fun n b hs hb=>by
  rcases gO n b hs hb with ⟨_,k⟩|⟨_,r,k1,k2⟩|⟨_,k⟩|⟨_,k⟩
  ·exact ⟨nT,by simp,k⟩
  ·exact ⟨r,by simp [k1],k2⟩
  ·exact ⟨nF,by simp,k⟩
  ·exact ⟨nG,by simp,k⟩
 have Gt: ∀b,¬HI (aj (rF d x dH)) b:=fun b ⟨m,S,k,_⟩=>by
  rcases rG k with ⟨_,e⟩|⟨_,e⟩|⟨_,e⟩|⟨_,e⟩|⟨_,e⟩|⟨_,e⟩|⟨_,e⟩<;>cases e
 have T6: ∀b,(bg w b/\ ¬Nq ρ (nT::nF::nG::rr) b)->eo dH (aj (rF d x dH)) w b:=fun b hb=>⟨hb.1,by
  rintro (⟨m,k1,k2⟩|k)
  ·exact hb.2 (hwr m b k1 k2)
  ·exact Gt b k⟩
 have hfz: ∀b,eo ρ Γ w b->eo dH (aj (rF d x dH)) w b:=fun b hb=>T6 b ⟨hb.1,fun ⟨n,k1,k2⟩=>hb.2 (.inl ⟨n,Cx n k1,k2⟩)⟩
 have As: ∀ {n m:Nat} {c c':Cell} {e:TypeId},Γ n=some (.cells [c] e)->dH m=ρ n->c'.af dH=c.af ρ->aX (eo dH (aj (rF d x dH)) w) (qP {wr:=Nq ρ (nT::nF::nG::rr),nw:=fun b=>eo ρ Γ w b/\ qP ax W b} w) dH m (.cells [c'] e) w:=fun {n m c c' e} hn hm hc=>by
  obtain ⟨b,b1,b2⟩:=h.at_ n _ hn
  exact ⟨b,by rw [hm];exact b1,by rw [b2];simp [hc]⟩
 simp only [List.nodup_cons,List.mem_cons,not_or] at nE
 obtain ⟨⟨d1,d2,d3⟩,⟨d4,d5⟩,d6,_⟩:=nE
 refine ⟨Fr.refl _ _,fun n o ho=> ?_,fun n o ho=> ?_,fun n m b kC Dg fg fV=> ?_,fun n b kC fg=> .inr (hwr n b kC fg),fun b hb=>absurd hb (Gt b),fun n o ho=> ?_⟩
 rotate_right
 ·have en: ∀ {n:Nat} {c:Cell} {e:TypeId},Γ n=some (.cells [c] e)→(ρ n).bT= []:=fun hn=>(h.qI _ _ hn).elim (fun ⟨_,e⟩=>by cases e) id
  rcases rG ho with ⟨rfl,rfl⟩|⟨rfl,rfl⟩|⟨rfl,rfl⟩|⟨rfl,rfl⟩|⟨rfl,rfl⟩|⟨rfl,rfl⟩|⟨rfl,rfl⟩
  ·exact .inr (by rw [e0];exact h0.2.1.2)
  ·exact .inr (by rw [e1];exact en hT)
  ·exact .inr (by rw [e2];exact hye)
  ·exact .inr (by rw [e3];exact en hF)
  ·exact .inr (by rw [e4];exact h4.2.1.2)
  ·exact .inr (by rw [e5];exact en hG)
  ·exact .inr e6.2
 ·rcases rG ho with ⟨rfl,rfl⟩|⟨rfl,rfl⟩|⟨rfl,rfl⟩|⟨rfl,rfl⟩|⟨rfl,rfl⟩|⟨rfl,rfl⟩|⟨rfl,rfl⟩
  ·exact yp (by rw [e0];exact h0) T6
  ·exact As hT e1 (by rw [hcT];simp [Cell.af,e2])
  ·obtain ⟨g1,g2,g3,sub,g4,g5,g6,g7⟩:=hrow
   rw [aX,e2]
   exact ⟨g1,g2,g3,sub,fun i v hv=>by
    obtain ⟨a,k1,k2,_⟩:=g4 i v hv
    exact ⟨a,k1,k2,fun h=>by cases h⟩,fun q u' l' hq=>(g5 q u' l' hq).weak fun b hb=>⟨hfz b hb.1,fun _=>⟨.inr (.inr ⟨hb.1,(hb.2 rfl).1⟩),(hb.2 rfl).2⟩⟩,fun h=>(by cases h),g7⟩
  ·exact As hF e3 (by rw [hcF];simp [Cell.af,e4])
  ·exact yp (by rw [e4];exact h4) T6
  ·exact As hG e5 (by simp [QF,Cell.af,Ref.af,addrOf,e1,e3,e5])
  ·exact ⟨e6.1,fun m _=>rfl⟩
 ·rcases rG ho with ⟨rfl,rfl⟩|⟨rfl,rfl⟩|⟨rfl,rfl⟩|⟨rfl,rfl⟩|⟨rfl,rfl⟩|⟨rfl,rfl⟩|⟨rfl,rfl⟩
  ·exact ⟨by decide,trivial⟩
  ·exact ⟨by decide,fun c hc=>by simp only [List.mem_singleton] at hc;subst hc;show 2<7;decide⟩
  ·exact ⟨by decide,trivial⟩
  ·exact ⟨by decide,fun c hc=>by simp only [List.mem_singleton] at hc;subst hc;show 4<7;decide⟩
  ·exact ⟨by decide,trivial⟩
  ·refine ⟨by decide,fun c hc=> ?_⟩
   simp only [List.mem_singleton] at hc
   subst hc
   intro r hr
   simp only [List.mem_cons,List.not_mem_nil,or_false] at hr
   rcases hr with rfl|rfl|rfl
   ·show 1<7;decide
   ·show 3<7;decide
   ·show 5<7;decide
  ·exact ⟨by decide,fun m hm=>by omega⟩
 ·have inj: ∀n m,(Γ n).isSome=true→(Γ m).isSome=true→(ρ n).has b→(ρ m).has b→n=m:=fun n m k1 k2 k3 k4=>h.cW n m b k1 k2 k3 k4
  have kT:(Γ nT).isSome=true:=Cx nT (by simp)
  have kF:(Γ nF).isSome=true:=Cx nF (by simp)
  have kG:(Γ nG).isSome=true:=Cx nG (by simp)
  have hmem: ∀n r,r∈rr->(Γ n).isSome=true->(ρ n).has b->(ρ r).has b->n∈rr:=fun n r hr' hn k k'=>by
   have:=inj n r hn (hr r hr') k k'
   rw [this];exact hr'
  rcases gO n b kC fg with ⟨rfl,k⟩|⟨rfl,r,k1,k⟩|⟨rfl,k⟩|⟨rfl,k⟩
  ·rcases gO m b Dg fV with ⟨rfl,k'⟩|⟨rfl,r',Vw,k'⟩|⟨rfl,k'⟩|⟨rfl,k'⟩
   ·rfl
   ·exact absurd (hmem nT r' Vw kT k k') d3
   ·exact absurd (inj _ _ kT kF k k') d1
   ·exact absurd (inj _ _ kT kG k k') d2
  ·rcases gO m b Dg fV with ⟨rfl,k'⟩|⟨rfl,r',Vw,k'⟩|⟨rfl,k'⟩|⟨rfl,k'⟩
   ·exact absurd (hmem nT r k1 kT k' k) d3
   ·rfl
   ·exact absurd (hmem nF r k1 kF k' k) d5
   ·exact absurd (hmem nG r k1 kG k' k) d6
  ·rcases gO m b Dg fV with ⟨rfl,k'⟩|⟨rfl,r',Vw,k'⟩|⟨rfl,k'⟩|⟨rfl,k'⟩
   ·exact absurd (inj _ _ kT kF k' k) d1
   ·exact absurd (hmem nF r' Vw kF k k') d5
   ·rfl
   ·exact absurd (inj _ _ kF kG k k') d4
  ·rcases gO m b Dg fV with ⟨rfl,k'⟩|⟨rfl,r',Vw,k'⟩|⟨rfl,k'⟩|⟨rfl,k'⟩
   ·exact absurd (inj _ _ kT kG k' k) d2
   ·exact absurd (hmem nG r' Vw kG k k') d6
   ·exact absurd (inj _ _ kF kG k' k) d4
   ·rfl
theorem yJ (x:Nat): ∀(rr:List Nat),bW (rr.map fun r=>(r,aG.gone)) x=if x∈rr then some .gone else Option.none
 | []=>rfl
 |r::rr=>by
  simp only [List.map_cons,bW,yJ x rr,List.mem_cons]
  by_cases h:x∈rr
  ·simp [h]
  ·by_cases e:r=x
   ·subst e;simp [h]
   ·simp [h,e,Ne.symm e]
theorem LB {nT nm:Nat} {rr:List Nat} {o c:aG} (ho:live (some o)=some o) (hc:live (some c)=some c) (hnT:nT∉rr) {v:AV} {tc:List Nat} {x:Nat} {p:aG}
  (h:bB {val:=v,fresh:= [o],writes:=(nT,c)::rr.map fun r=>(r,aG.gone),az:=tc} nm Γ x=some p):(x=nm/\ p=o)\/ (x≠nm/\ x=nT/\ p=c)\/ (x≠nm/\ x≠nT/\ x∉rr/\ Γ x=some p):=by
 simp only [bB,List.length_singleton] at h
 split at h
 ·have:x=nm:=by omega
  subst this
  rw [Nat.sub_self] at h
  rw [show ([o]:List aG)[0]? =some o from rfl,ho] at h
  cases h
  exact .inl ⟨rfl,rfl⟩
 ·have hx:x≠nm:=by omega
  simp only [bW,yJ] at h
  by_cases hm:x∈rr
  ·rw [if_pos hm] at h;cases h
  ·rw [if_neg hm] at h
   by_cases e:nT=x
   ·subst e
    simp only [if_true] at h
    rw [hc] at h
    cases h
    exact .inr (.inl ⟨hx,rfl,rfl⟩)
   ·simp only [if_neg e] at h
    exact .inr (.inr ⟨hx,fun q=>e q.symm,hm,h⟩)
theorem St.X3 {d:Ah} {nT nF nG:Nat} {rr:List Nat} {cT cF:Cell} {aY:Env} {Kn1:Nat->Prop} {oS:HP} {w':World} {nm m:Nat} {z:List d.tb.T} {tc:List Nat} (h:St ax W ρ Kn Γ w)
  (hT:Γ nT=some (.cells [cT] d.eT)) (hF:Γ nF=some (.cells [cF] d.eF)) (hG:Γ nG=some (.cells [QF d.f nT nF nG] d.eG)) (hr: ∀r∈rr,(Γ r).isSome=true) (nE:(nT::nF::nG::rr).Nodup) (hn: ¬Kn nm)
  (h1:St {wr:=Nq ρ (nT::nF::nG::rr),nw:=fun b=>eo ρ Γ w b/\ qP ax W b} w aY Kn1 oS w')
  (k1:oS 1=some (.cells [.full m] d.eT)) (k3:oS 3=some (.cells [.full 4] d.eF)) (k5:oS 5=some (.cells [QF d.f 1 3 5] d.eG)) (km:oS m=some (.row d.tb z 2))
  (e1:aY 1=ρ nT) (e3:aY 3=ρ nF) (e5:aY 5=ρ nG) (e4:Cell.af aY (.full 4)=cF.af ρ):
  ∃ρ',(∀m,Kn m->ρ' m=ρ m)/\ St ax W ρ' (iQ Kn nm {val:=aW,fresh:= [.row d.tb z 2],writes:=(nT,.cells [.full nm] d.eT)::rr.map fun r=>(r,aG.gone),az:=tc}) (bB {val:=aW,fresh:= [.row d.tb z 2],writes:=(nT,.cells [.full nm] d.eT)::rr.map fun r=>(r,aG.gone),az:=tc} nm Γ) w':=by
 obtain ⟨r,CK⟩: ∃r:Rec,r= {val:=aW,fresh:= [.row d.tb z 2],writes:=(nT,.cells [.full nm] d.eT)::rr.map fun r=>(r,aG.gone),az:=tc} :=⟨_,rfl⟩
 rw [<- CK]
 have abr:=nE
 simp only [List.nodup_cons,List.mem_cons,not_or] at nE
 obtain ⟨⟨d1,d2,d3⟩,⟨d4,d5⟩,d6,_⟩:=nE
 have Cx: ∀n∈(nT::nF::nG::rr),(Γ n).isSome=true:=fun n hn=>by
  simp only [List.mem_cons] at hn
  rcases hn with rfl|rfl|rfl|hn
  ·rw [hT];rfl
  ·rw [hF];rfl
  ·rw [hG];rfl
  ·exact hr n hn
 have hkn: ∀n,(Γ n).isSome=true->Kn n:=fun n hs=>by obtain ⟨o,ho⟩:=Option.isSome_iff_exists.1 hs;exact (h.kn n o ho).1
 have hnm: ∀n,(Γ n).isSome=true->n≠nm:=fun n hs e=>hn (e▸hkn n hs)
 have hold: ∀x,Kn x->aV ρ nm (aY m) x=ρ x:=cD hn
 have jL:aV ρ nm (aY m) nm=aY m:=by simp [aV]
 have bV: ∀x p,bB r nm Γ x=some p->(x=nm/\ p= .row d.tb z 2)\/ (x≠nm/\ x=nT/\ p= .cells [.full nm] d.eT)\/ (x≠nm/\ x≠nT/\ x∉rr/\ Γ x=some p):=fun x p hp=>by
  rw [CK] at hp
  exact LB rfl rfl d3 hp
 have hsz:=h.fr.size
 have ON:=h1.fr.size
 have hlt: ∀n o b,Γ n=some o->(ρ n).has b->b<w.heap.size:=fun n o b ho hb=>h.lt n b (by rw [ho];rfl) hb
 have WJ: ∀b,Nq ρ (nT::nF::nG::rr) b->b<w.heap.size/\ (W.heap.size<=b\/ ax b):=fun b ⟨n,n1,n2⟩=>by
  obtain ⟨o,ho⟩:=Option.isSome_iff_exists.1 (Cx n n1)
  exact ⟨hlt n o b ho n2,h.jR n b (Cx n n1) n2⟩
 have hfw: ∀b,eo ρ Γ w b-> ¬Nq ρ (nT::nF::nG::rr) b:=fun b hb ⟨n,n1,n2⟩=>hb.2 (.inl ⟨n,Cx n n1,n2⟩)
 have hun: ∀b,b<w.heap.size-> ¬Nq ρ (nT::nF::nG::rr) b->w'.heap[b]? =w.heap[b]? :=fun b hb hq=>h1.fr.block b hb hq
 have hmb: ∀b,(aY m).has b->w.heap.size<=b\/ ∃q∈rr,(ρ q).has b:=fun b hb=>by
  rcases h1.jR m b (by rw [km];rfl) hb with h2|⟨n,n1,n2⟩
  ·exact .inl h2
  ·simp only [List.mem_cons] at n1
   rcases n1 with rfl|rfl|rfl|n1
   ·have:=h1.cW m 1 b (by rw [km];rfl) (by rw [k1];rfl) hb (by rw [e1];exact n2)
    rw [this,k1] at km;cases km
   ·have:=h1.cW m 3 b (by rw [km];rfl) (by rw [k3];rfl) hb (by rw [e3];exact n2)
    rw [this,k3] at km;cases km
   ·have:=h1.cW m 5 b (by rw [km];rfl) (by rw [k5];rfl) hb (by rw [e5];exact n2)
    rw [this,k5] at km;cases km
   ·exact .inr ⟨n,n1,n2⟩
 have hlo: ∀x b,(bB r nm Γ x).isSome=true->(aV ρ nm (aY m) x).has b->(x=nm/\ (aY m).has b)\/ (x≠nm/\ x∉rr/\ (Γ x).isSome=true/\ (ρ x).has b):=fun x b hs hb=>by
  obtain ⟨p,hp⟩:=Option.isSome_iff_exists.1 hs
  rcases bV x p hp with ⟨rfl,_⟩|⟨h2,rfl,_⟩|⟨h2,_,h3,h4⟩
  ·rw [jL] at hb;exact .inl ⟨rfl,hb⟩
  ·rw [hold _ (hkn _ (Cx _ (by simp)))] at hb
   exact .inr ⟨h2,d3,Cx _ (by simp),hb⟩
  ·have hs':(Γ x).isSome=true:=by rw [h4];rfl
   rw [hold _ (hkn _ hs')] at hb
   exact .inr ⟨h2,h3,hs',hb⟩
 have qG: ∀b,HI (bB r nm Γ) b->HI Γ b:=fun b ⟨x,S,h2,h3⟩=>by
  rcases bV x _ h2 with ⟨_,e⟩|⟨_,_,e⟩|⟨_,_,_,e⟩
  ·cases e
  ·cases e
  ·exact ⟨x,S,e,h3⟩
 have hfz: ∀b,eo ρ Γ w b->eo (aV ρ nm (aY m)) (bB r nm Γ) w' b/\ w'.heap[b]? =w.heap[b]? :=fun b hb=>by
  have e:=hun b hb.1.lt (hfw b hb)
  refine ⟨⟨hb.1.same e,?_⟩,e⟩
  rintro (⟨x,h2,h3⟩|h2)
  ·rcases hlo x b h2 h3 with ⟨_,h4⟩|⟨_,_,h4,h5⟩
   ·rcases hmb b h4 with h5|⟨q,h5,h6⟩
    ·have:=hb.1.lt;omega
    ·exact hb.2 (.inl ⟨q,hr q h5,h6⟩)
   ·exact hb.2 (.inl ⟨x,h4,h5⟩)
  ·exact hb.2 (.inr (qG b h2))
 have Wp: ∀b,eo aY oS w' b->qP {wr:=Nq ρ (nT::nF::nG::rr),nw:=fun b=>eo ρ Γ w b/\ qP ax W b} w b->eo (aV ρ nm (aY m)) (bB r nm Γ) w' b/\ qP ax W b:=fun b hb hp=>by
  rcases hp with hp|hp|hp
  ·refine ⟨⟨hb.1,?_⟩,.inl (by omega)⟩
   rintro (⟨x,h2,h3⟩|h2)
   ·rcases hlo x b h2 h3 with ⟨_,h4⟩|⟨_,_,h4,h5⟩
    ·exact hb.2 (.inl ⟨m,by rw [km];rfl,h4⟩)
    ·obtain ⟨o,ho⟩:=Option.isSome_iff_exists.1 h4
     have:=hlt x o b ho h5;omega
   ·have:=(h.rH b (qG b h2)).1;omega
  ·have fI:Nq ρ (nT::nF::nG::rr) b:=hp
   obtain ⟨hl,ho⟩:=WJ b fI
   obtain ⟨n,n1,n2⟩:=fI
   refine ⟨⟨hb.1,?_⟩,ho.imp_right .inl⟩
   simp only [List.mem_cons] at n1
   have hin:n∈rr:=by
    rcases n1 with rfl|rfl|rfl|n1
    ·exact absurd (.inl ⟨1,by rw [k1];rfl,by rw [e1];exact n2⟩) hb.2
    ·exact absurd (.inl ⟨3,by rw [k3];rfl,by rw [e3];exact n2⟩) hb.2
    ·exact absurd (.inl ⟨5,by rw [k5];rfl,by rw [e5];exact n2⟩) hb.2
    ·exact n1
   rintro (⟨x,h2,h3⟩|h2)
   ·rcases hlo x b h2 h3 with ⟨_,h4⟩|⟨_,h4,h5,h6⟩
    ·exact hb.2 (.inl ⟨m,by rw [km];rfl,h4⟩)
    ·have:=h.cW n x b (hr n hin) h5 n2 h6
     exact h4 (this▸hin)
   ·exact (h.rH b (qG b h2)).2 ⟨n,hr n hin,n2⟩
  ·have fI:eo ρ Γ w b∧qP ax W b:=hp
   exact ⟨(hfz b fI.1).1,fI.2⟩
 have As: ∀ {n q:Nat} {c c':Cell} {e:TypeId},(Γ n).isSome=true->oS q=some (.cells [c] e)->aY q=ρ n->c'.af (aV ρ nm (aY m))=c.af aY->aX (eo (aV ρ nm (aY m)) (bB r nm Γ) w') (qP ax W) (aV ρ nm (aY m)) n (.cells [c'] e) w':=fun {n q c c' e} hs hq hρ hc=>by
  obtain ⟨b,b1,b2⟩:=h1.at_ q _ hq
  exact ⟨b,by rw [hold n (hkn n hs),<- hρ];exact b1,by rw [b2];simp [hc]⟩
 have kr:iQ Kn nm r=sM Kn nm:=by
  rw [CK]
  funext x
  simp only [iQ,sM,List.length_singleton]
  congr 1
  apply propext
  omega
 rw [kr]
 refine ⟨aV ρ nm (aY m),hold,⟨?_,fun x p hp=> ?_,fun x p hp=> ?_,fun x y b hx hy fg fV=> ?_,fun x b hx hb=> ?_,fun b hh=> ?_,fun x p hp=> ?_⟩⟩
 rotate_right
 ·rcases bV x p hp with ⟨rfl,rfl⟩|⟨h2,rfl,rfl⟩|⟨h2,h3,h4,h5⟩
  ·exact .inr (by rw [jL];exact (h1.qI m _ km).elim (fun ⟨_,e⟩=>by cases e) id)
  ·exact .inr (by rw [hold _ (hkn _ (Cx _ (by simp)))];exact (h.qI _ _ hT).elim (fun ⟨_,e⟩=>by cases e) id)
  ·rw [hold x (h.kn x p h5).1];exact h.qI x p h5
 ·refine ⟨h1.fr.os.trans h.fr.os,h1.fr.tape.trans h.fr.tape,h1.fr.output.trans h.fr.output,Nat.le_trans hsz ON,fun k hk hnb=> ?_,Nat.le_trans h.fr.FJ h1.fr.FJ⟩
  rw [hun k (by omega) fun hq=>(WJ k hq).2.elim (fun h=>by omega) hnb]
  exact h.fr.block k hk hnb
 ·rcases bV x p hp with ⟨rfl,rfl⟩|⟨h2,rfl,rfl⟩|⟨h2,h3,h4,h5⟩
  ·obtain ⟨g1,g2,g3,sub,g4,g5,g6,g7⟩:=h1.at_ m _ km
   rw [aX,jL]
   exact ⟨g1,g2,g3,sub,fun i v hv=>by
    obtain ⟨a,q1,q2,_⟩:=g4 i v hv
    exact ⟨a,q1,q2,fun h=>by cases h⟩,fun q u' l' hq=>(g5 q u' l' hq).weak fun b hb=>by
     obtain ⟨q1,q2⟩:=Wp b hb.1 (hb.2 rfl).1
     exact ⟨q1,fun _=>⟨q2,(hb.2 rfl).2⟩⟩,fun h=>(by cases h),g7⟩
  ·exact As (Cx _ (by simp)) k1 e1 (by simp [Cell.af,jL])
  ·by_cases eF:x=nF
   ·subst eF
    rw [hF] at h5
    cases h5
    refine As (Cx _ (by simp)) k3 e3 ?_
    rw [e4]
    exact Cell.bZ hold cF ((h.kn x _ hF).2 cF (by simp))
   ·by_cases eG:x=nG
    ·subst eG
     rw [hG] at h5
     cases h5
     refine As (Cx _ (by simp)) k5 e5 ?_
     simp [QF,Cell.af,Ref.af,addrOf,e1,e3,e5,hold _ (hkn nT (Cx nT (by simp))),hold _ (hkn nF (Cx nF (by simp))),hold _ (hkn x (Cx x (by simp)))]
    ·have hk:=h.kn x p h5
     refine ct (h.at_ x p h5) hold hk.1 hk.2 hfz (fun _ _ h=>h) fun b hb=>hun b (hlt x p b h5 hb) ?_
     rintro ⟨n,n1,n2⟩
     have:=h.cW x n b (by rw [h5];rfl) (Cx n n1) hb n2
     subst this
     simp only [List.mem_cons] at n1
     rcases n1 with e|e|e|e
     ·exact h3 e
     ·exact eF e
     ·exact eG e
     ·exact h4 e
 ·rcases bV x p hp with ⟨rfl,rfl⟩|⟨h2,rfl,rfl⟩|⟨h2,h3,h4,h5⟩
  ·exact ⟨.inr rfl,trivial⟩
  ·exact ⟨.inl (hkn _ (Cx _ (by simp))),fun c hc=>by simp only [List.mem_singleton] at hc;subst hc;exact .inr rfl⟩
  ·exact ⟨.inl (h.kn x p h5).1,aG.aZ (fun _=> .inl) p (h.kn x p h5).2⟩
 ·rcases hlo x b hx fg with ⟨rfl,h2⟩|⟨h2,h3,h4,h5⟩
  ·rcases hlo y b hy fV with ⟨rfl,_⟩|⟨q2,q3,q4,q5⟩
   ·rfl
   ·rcases hmb b h2 with h6|⟨q,h6,h7⟩
    ·obtain ⟨o,ho⟩:=Option.isSome_iff_exists.1 q4
     have:=hlt y o b ho q5;omega
    ·have:=h.cW q y b (hr q h6) q4 h7 q5
     exact absurd (this▸h6) q3
  ·rcases hlo y b hy fV with ⟨rfl,q2⟩|⟨q2,q3,q4,q5⟩
   ·rcases hmb b q2 with h6|⟨q,h6,h7⟩
    ·obtain ⟨o,ho⟩:=Option.isSome_iff_exists.1 h4
     have:=hlt x o b ho h5;omega
    ·have:=h.cW q x b (hr q h6) h4 h7 h5
     exact absurd (this▸h6) h3
   ·exact h.cW x y b h4 q4 h5 q5
 ·rcases hlo x b hx hb with ⟨rfl,h2⟩|⟨_,_,h4,h5⟩
  ·rcases hmb b h2 with h6|⟨q,h6,h7⟩
   ·exact .inl (by omega)
   ·exact h.jR q b (hr q h6) h7
  ·exact h.jR x b h4 h5
 ·obtain ⟨h2,h3⟩:=h.rH b (qG b hh)
  refine ⟨by omega,?_⟩
  rintro ⟨x,q1,q2⟩
  rcases hlo x b q1 q2 with ⟨_,h4⟩|⟨_,_,h4,h5⟩
  ·rcases hmb b h4 with h6|⟨q,h6,h7⟩
   ·omega
   ·exact h3 ⟨q,hr q h6,h7⟩
  ·exact h3 ⟨x,h4,h5⟩
theorem JR {hp:HP} {t:Ty} {c:Cell} {l:List t.T} {rr:List Nat} (h:K4 hp t c=some (l,rr)):(∀r∈rr,(hp r).isSome=true)/\
  ∀ {ax W ρ Kn Γ w},St ax W ρ Kn Γ w->(∀r∈rr,Γ r=hp r)-> ∃y:Loc,c.af ρ= .slice y.base y.len y.cap/\ aX (eo ρ Γ w) (qP ax W) (fun _=>y) 2 (.row t l 2) w/\ y.bT= []/\ ∀b,y.has b-> ∃r∈rr,(ρ r).has b:=by
 unfold K4 at h
 split at h
 ·rename_i r
  split at h<;>try (cases h;done)
  rename_i u l0 rk hr
  split at h<;>try (cases h;done)
  rename_i mW
  subst mW
  split at h<;>try (cases h;done)
  rename_i l' hc
  cases h
  obtain ⟨e1,e2⟩:=cK hc
  subst e1
  dsimp only at e2
  subst e2
  refine ⟨fun q hq=>by simp only [List.mem_singleton] at hq;subst hq;rw [hr];rfl,fun {ax W ρ Kn Γ w} hst bV=>⟨ρ r,rfl,?_,?_,fun b hb=>⟨r,by simp,hb⟩⟩⟩
  ·exact hst.at_ r _ (by rw [bV r (by simp),hr])
  ·have XI:=bV r (by simp)
   rw [hr] at XI
   exact (hst.qI r _ XI).elim (fun ⟨_,e⟩=>by cases e) id
 ·cases h
  refine ⟨fun r hr=>(by cases hr),fun {ax W ρ Kn Γ w} hst bV=>⟨{es:=t.size},rfl,?_,rfl,fun b hb=>absurd (gU.1 hb) (fun h=>by cases h)⟩⟩
  exact ⟨rfl,rfl,Nat.le_refl _,fun _=>(Option.none,0),fun i v hv=>by simp [ak,aA] at hv,fun q u l' hq=>by simp [ak] at hq,fun h=>(by cases h),fun _=> .inl ⟨rfl,rfl,rfl,fun _=>rfl⟩⟩
 ·cases h
theorem DZ {hp:HP} {t:Ty} {a:AV} {l:List t.T} {tc:List Nat} (h:jA hp (.one (.sl t)) [a]=some (l,[],tc,true)) {ax:iV} {W:World} {ρ:Env} {Kn:Nat->Prop} {Γ:HP} {w:World}
  (ht: ∀m∈tc,Γ m=hp m) (hst:St ax W ρ Kn Γ w) {ok:Nat->Prop} (hok:lD ok ρ Γ w tc): ∃y:Loc,dg ok w (.row t l 0) y/\ a.af ρ= .slice y.base y.len y.cap:=by
 obtain ⟨as,e,hs⟩:=kz (.one (.sl t)) _ _ _ _ h
 obtain ⟨xs,h1,h2⟩:=hs ax W ρ Kn Γ w ht hst ok hok 0
 match xs,h1 with
 | [y],h1=>
  refine ⟨y,h1.1,?_⟩
  have h3:=h2 (fun _=>y) fun i x hi=>by
   match i,hi with
   |0,hi=>cases hi;rfl
  rw [List.append_nil] at e
  subst e
  simp only [List.map_cons,List.map_nil] at h3
  have h4:=(List.cons.inj h3).1
  rw [h4];rfl
end
section
variable {P:Program} {tt:List (Nat×TI)} {specs:List (Nat×Spec)}
theorem av.VO (hT:br P tt) (hS:ah P specs) (hm:P.follows .mixedOrders=true) {f:FuncId} {fn:Func} (hf:P.funcs[f]? =some fn) (hn:ew (ids (bG fn))=true) {s:Tn}
  (h: ∀x,s.pre x-> ∀dH,∃lp dc,aD P fh dc/\ aB P fh (bG fn) lp/\ ET ⟨tt,specs,fh,lp,[],dc⟩ fn (FV s.p x) (rF s.p x dH) (Sy s.p dH (· =s.f x))):av P f (iH s):=by
 intro X args hp nm k hs
 unfold iH at hs
 split at hs
 rotate_left
 ·exact hs.elim
 rename_i a nT nF nG
 split at hs
 rotate_left
 ·exact hs.elim
 rename_i pl Aa b1 cT eT cF eF cG eG pe Xx Yh Yi
 split at hs
 rotate_left
 ·exact hs.elim
 rename_i l rr L Ew b2 Vt TW
 split at hs
 rotate_left
 ·exact hs.elim
 rename_i hc
 simp only [Bool.and_eq_true,decide_eq_true_eq] at hc
 obtain ⟨⟨⟨⟨⟨rfl,rfl⟩,rfl⟩,jL⟩,nE⟩,Nt⟩:=hc
 have hcG:=yI jL
 subst hcG
 have nE:=ie nE
 have Nt:=xB Nt
 obtain ⟨hb,hpre,hk⟩:=bh hs
 rw [Bool.and_eq_true] at hb
 obtain ⟨rfl,rfl⟩:=hb
 have hk:=hk _ rfl
 obtain ⟨hrs,WD⟩:=JR Vt
 refine ⟨_,⟨fun p fI=> ?_,?_⟩,hk⟩
 ·rcases List.mem_cons.1 fI with rfl|fI
  ·rw [Xx];exact fun h=>by cases h
  ·obtain ⟨q,hq,rfl⟩:=List.mem_map.1 fI
   have:=hrs q hq
   intro h
   dsimp only at h
   rw [h] at this;cases this
 intro ax W ρ Kn Γ w _ _ ht hfr hst
 have hin: ∀n∈(nT::nF::nG::rr),Γ n=hp n:=fun n hn=>ht n (List.mem_append.2 (.inl hn))
 have Up:Γ nT=some (.cells [cT] s.p.eT):=by rw [hin nT (by simp)];exact Xx
 have Un:Γ nF=some (.cells [cF] s.p.eF):=by rw [hin nF (by simp)];exact Yh
 have Uo:Γ nG=some (.cells [QF s.p.f nT nF nG] s.p.eG):=by rw [hin nG (by simp)];exact Yi
 have Ry: ∀r∈rr,(Γ r).isSome=true:=fun r hr=>by rw [hin r (by simp [hr])];exact hrs r hr
 have Cx: ∀n∈(nT::nF::nG::rr),(Γ n).isSome=true:=fun n hn=>by
  simp only [List.mem_cons] at hn
  rcases hn with rfl|rfl|rfl|hn
  ·rw [Up];rfl
  ·rw [Un];rfl
  ·rw [Uo];rfl
  ·exact Ry n hn
 have hok:lD (fun b=>bg w b/\ ¬Nq ρ (nT::nF::nG::rr) b) ρ Γ w (Aa++Ew):=by
  refine ⟨fun b hb=>⟨hb.1,fun ⟨n,n1,n2⟩=>hb.2 (.inl ⟨n,Cx n n1,n2⟩)⟩,fun m hm hs b hb hc=>⟨hc,fun ⟨n,n1,n2⟩=> ?_⟩⟩
  have:=hst.cW m n b hs (Cx n n1) hb n2
  exact Nt m hm (this▸n1)
 obtain ⟨y0,g0,c0⟩:=DZ pe (fun m hm=>ht m (List.mem_append.2 (.inr (List.mem_append.2 (.inl hm))))) hst (hok.sub fun m hm=>List.mem_append.2 (.inl hm))
 obtain ⟨y4,g4,c4⟩:=DZ TW (fun m hm=>ht m (List.mem_append.2 (.inr (List.mem_append.2 (.inr hm))))) hst (hok.sub fun m hm=>List.mem_append.2 (.inr hm))
 obtain ⟨yR,cR,gR,eR,bR⟩:=WD hst fun r hr=>hin r (by simp [hr])
 have hb:=St.Tv (x:=((pl,(L,l)):s.p.ty.T)) hst Up Un Uo Ry nE g0 g4 c4 cR gR bR eR
 obtain ⟨dH,lZ⟩: ∃dH,dH=L0 y0 (ρ nT) yR (ρ nF) y4 (ρ nG):=⟨_,rfl⟩
 rw [<- lZ] at hb
 obtain ⟨lp,dc,hi,hl,hfn⟩:=h _ hpre dH
 have key:=iC (ctx:=⟨tt,specs,fh,lp,[],dc⟩) hT ⟨hS,s9.nil P,hi⟩ (fh.ok _ w) hm hf (fun c hc=>by
  have:bG fn=c:=by unfold bG;rw [hc]
  subst this
  exact sO (eU hn) hl) hfn (fun y hy=>by
   simp only [FV,List.mem_cons,List.not_mem_nil,or_false] at hy
   rcases hy with rfl|rfl|rfl|rfl
   ·show 0<7;decide
   ·show 1<7;decide
   ·show 3<7;decide
   ·show 5<7;decide) hb
 have ea:(FV s.p ((pl,(L,l)):s.p.ty.T)).map (AV.af dH)= [a,.v (.one (.ptr nT 0)),.v (.one (.ptr nF 0)),.v (.one (.ptr nG 0))].map (AV.af ρ):=by
  have c0:a.af ρ= .slice y0.base y0.len y0.cap:=c0
  simp only [FV,List.map_cons,List.map_nil,AV.af,A0.af,Cell.af,addrOf,lZ,L0] at c0 ⊢
  rw [c0]
 rw [ea] at key
 refine key.mono ?_
 rintro e w' ⟨st,aY,v,rfl,hv,hR,lY⟩
 obtain ⟨rfl,m,z,k1,k3,k5,km,E3,hz⟩:=M0 hR
 have hpe:=(lY.at_ _ _ E3).2
 have e1:aY 1=ρ nT:=by rw [hpe 1 (by decide),lZ];rfl
 have e3:aY 3=ρ nF:=by rw [hpe 3 (by decide),lZ];rfl
 have e5:aY 5=ρ nG:=by rw [hpe 5 (by decide),lZ];rfl
 have e4:Cell.af aY (.full 4)=cF.af ρ:=by
  have c4:cF.af ρ= .slice y4.base y4.len y4.cap:=c4
  rw [c4]
  simp only [Cell.af,hpe 4 (by decide),lZ,L0]
 subst hz
 obtain ⟨ρ',r1,r2⟩:=St.X3 (nm:=nm) (tc:=(nT::nF::nG::rr)++(Aa++Ew)) hst Up Un Uo Ry nE (hfr 0 (by simp)) lY k1 k3 k5 km e1 e3 e5 e4
 exact ⟨ρ',rfl,r1,qD _,r2⟩
theorem av.trO (s:Tn) {i:Bool} (t:s.p.ty.T->Tr (List s.p.tb.T) i) (hT:br P tt) (hS:ah P specs) (hm:P.follows .mixedOrders=true) {n:FuncId} {fn:Func} (hk:(P.funcs[n]?,ew (ids (bG fn)))=(some fn,true))
  {dc:List (Nat×iL)} {lp:s.p.ty.T->List (Nat×cy)} (hits:aD P fh dc) (hl: ∀x,aB P fh (bG fn) (lp x)) (he: ∀x,(s.pre x,s.f x)=(Tr.pI i (t x).pre,(t x).val))
  (h: ∀x r0 Q,ET ⟨tt,specs,fh,lp x,[],dc⟩ fn (FV s.p x) (rF s.p x r0) (Sy s.p r0 Q)=(t x).wp Q [.env r0]):av P n (iH s):=by
 simp only [Prod.mk.injEq] at hk
 refine av.VO hT hS hm hk.1 hk.2 fun x hx r0=>⟨lp x,dc,hits,hl x,?_⟩
 have e:=he x
 simp only [Prod.mk.injEq] at e
 rw [h]
 exact Tr.Ia _ _ _ (by rw [<- e.1];exact hx) e.2.symm
end
namespace Tr
variable {τ:Type}
abbrev VO {i:Bool} (s:Tn) (x:s.p.ty.T) (k:List s.p.tb.T->Tr τ i):Tr τ true:= .call (s.pre x) (s.f x) k
end Tr
def UE (hp:HP):Cell->Bool
 | .full n=>match hp n with
  |some (.row _ _ rk)=>rk !=0
  |some (.alias m _ _)=>match hp m with
   |some (.row _ _ rk)=>rk !=0
   |_=>false
  |_=>false
 | .sl n _ _ _=>match hp n with
  |some (.cells _ _)=>true
  |_=>false
 | .raw (.slice none _ _)=>true
 |_=>false
def Br (hp:HP):(p:mF)->List A0->Option (p.ty.T×List A0)
 | .one t,l=>match l with
  | .one c::r=>if t.flat||UE hp c then (match b8 hp t [c] with
   |some (y,[],_)=>if t.shallow then some (y,r) else none
   |_=>none) else none
  |_=>none
 | .agg t,l=>match l with
  | .agg cs::r=>if t.flat then (match b8 hp t cs with
   |some (y,[],_)=>some (y,r)
   |_=>none) else none
  |_=>none
 | .pair a b,l=>match Br hp a l with
  |some (x,r)=>match Br hp b r with
   |some (y,r')=>some ((x,y),r')
   |none=>none
  |none=>none
 | .none,l=>some (false,l)
 |_,_=>none
def U3 (r:mF) (Q:r.ty.T->Prop) (v:AV) (st:AS):Prop:=match jn v with
 |some l=>match Br (aj st.heap) r l with
  |some (y,[])=>Q y
  |_=>False
 |none=>False
def vu (s:jh):Spec:=fun _ args hp nm k=>match jA hp s.p args with
 |some (x,[],tc,b)=>ob b (s.pre x/\ ∀y,y=s.f x->k {val:=iq (aT 0 nm s.r y).1,fresh:=(aT 0 nm s.r y).2,az:=tc})
 |_=>False
theorem xF (nm:Nat): ∀(cs:List cn),(∀c∈cs,∃v,c= .flat v)->(cl 0 nm cs).2= []
 | [],_=>rfl
 |c::r,h=>by
  obtain ⟨v,rfl⟩:=h c (by simp)
  simp only [cl]
  exact xF nm r fun c hc=>h c (by simp [hc])
theorem Pt {t:Ty} (h:t.flat=false) (hs:t.size=1): ∃u,t= .sl u:=by
 cases t with
 |sl u=>exact ⟨u,rfl⟩
 |prod a b=>have:=a.size_pos;have:=b.size_pos;simp [Ty.size] at hs;omega
 |int k=>cases h
 |bool=>cases h
 |str=>cases h
theorem ME {W w:World} {ρ:Env} {Kn:Nat->Prop} {h:List aG} (hst:St zC W ρ Kn (aj h) w) {c:Cell} (hc:UE (aj h) c=true) {a:Option Addr} {n m:Nat} (he:c.af ρ= .slice a n m) (hn:n≠0): ∀ad,a=some ad->W.heap.size<=ad.block:=by
 have own: ∀n b,(aj h n).isSome=true->(ρ n).bt=some b->W.heap.size<=b:=fun n b h1 h2=>(hst.own n b h1 h2).elim id fun h=>h.elim
 unfold UE at hc
 split at hc
 ·rename_i q
  simp only [Cell.af,Value.slice.injEq] at he
  obtain ⟨e1,e2,_⟩:=he
  split at hc
  ·rename_i u l rk hq
   obtain ⟨g1,g2,g3,sub,g4,g5,g6,g7⟩:=hst.at_ q _ hq
   rcases g7 (by simpa using hc) with ⟨_,h0,_,_⟩|⟨b,pre,rest,e,hb,hbase,_⟩
   ·omega
   ·intro ad had
    rw [<- e1,hbase] at had
    cases had
    exact own q b (by rw [hq];rfl) hb
  ·rename_i mm s q' hq
   split at hc
   ·rename_i u l rk hm
    obtain ⟨g1,g2,g3,g4,g5⟩:=hst.at_ q _ hq
    obtain ⟨k1,k2,k3,sub,k4,k5,k6,k7⟩:=hst.at_ mm _ hm
    intro ad had
    rw [<- e1,g5 (by omega)] at had
    rcases k7 (by simpa using hc) with ⟨_,h0,_,_⟩|⟨b,pre,rest,e,hb,hbase,_⟩
    ·have:ep (ρ mm).len s q'=0:=by
      rw [k1,h0]
      cases q'<;>simp [ep]
     omega
    ·rw [hbase] at had
     simp only [Option.map_some,Option.some.injEq] at had
     subst had
     rw [dz]
     exact own mm b (by rw [hm];rfl) hb
   ·cases hc
  ·cases hc
 ·rename_i q off len cap
  simp only [Cell.af,Value.slice.injEq] at he
  obtain ⟨e1,_,_⟩:=he
  split at hc
  ·rename_i cs e hq
   intro ad had
   rw [<- e1] at had
   unfold addrOf at had
   cases hb:(ρ q).bt with
   |none=>rw [hb] at had;cases had
   |some b=>
    rw [hb] at had
    cases had
    exact own q b (by rw [hq];rfl) hb
  ·cases hc
 ·simp only [Cell.af,Value.slice.injEq] at he
  obtain ⟨e1,_⟩:=he
  intro ad had
  rw [<- e1] at had;cases had
 ·cases hc
theorem xR {h:List aG} : ∀(p:mF) (l:List A0) (y:p.ty.T) (r:List A0),Br (aj h) p l=some (y,r)->
  ∃ys,l=ys++r/\ ∀W ρ Kn w,St zC W ρ Kn (aj h) w-> ∀nm,∃xs,bK (dg (fun b=>bg w b/\ W.heap.size<=b) w) (aT 0 nm p y).2 xs/\
   ∀aY:Env,(∀i x,xs[i]? =some x->aY (nm+i)=x)->ys.map (A0.af ρ)=(aT 0 nm p y).1.map (A0.af aY)
 | .one t,l,y,r,hd=>by
  simp only [Br] at hd
  split at hd<;>try (cases hd;done)
  rename_i c r1
  split at hd<;>try (cases hd;done)
  rename_i hc
  split at hd<;>try (cases hd;done)
  rename_i x tc h1
  split at hd<;>try (cases hd;done)
  rename_i hsh
  cases hd
  obtain ⟨ys,e,hl,hs⟩:=di _ t _ _ _ _ h1
  rw [List.append_nil] at e
  subst e
  refine ⟨[_],rfl,fun W ρ Kn w hst nm=> ?_⟩
  have hok:lD (fun b=>bg w b) ρ (aj h) w tc:=⟨fun b hb=>hb.1,fun m _ _ b _ hc=>hc⟩
  have Um:=hs zC W ρ Kn _ w (fun _ _=>rfl) hst _ hok
  by_cases hf:t.flat=true
  ·obtain ⟨xs,g1,g2⟩:=eO (ok:=fun b=>bg w b) _ _ nm Um
   have e2:(cl 0 nm (t.aI y)).2= []:=xF nm _ fun c hc=>cZ hf hc
   have exs:xs= []:=by rw [e2] at g1;match xs,g1 with| [],_=>rfl
   subst exs
   refine ⟨[],by show bK _ (cl 0 nm (t.aI y)).2 [];rw [e2];trivial,fun aY hr=> ?_⟩
   have:=g2 aY hr
   simp only [aT,List.map_cons,List.map_nil]
   simp only [List.map_cons,List.map_nil] at this
   obtain ⟨c',IP,e⟩: ∃c',(cl 0 nm (t.aI y)).1= [c']/\ c'.af aY=c.af ρ:=by
    match hm:(cl 0 nm (t.aI y)).1,this with
    | [c'],h=>simp only [List.map_cons,List.map_nil,List.cons.injEq,and_true] at h;exact ⟨c',rfl,h⟩
    | [],h=>simp at h
    |_::_::_,h=>simp at h
   rw [IP]
   simp only [nH,A0.af,e]
  ·have hf:t.flat=false:=by simpa using hf
   rw [hf,Bool.false_or] at hc
   obtain ⟨u,rfl⟩:=Pt hf (by simpa using hl.symm)
   simp only [Ty.aI,List.map_cons,List.map_nil] at Um
   obtain ⟨a,cp,e1,e2,vals,e3,e4⟩:=Um.1
   have Cy:u.flat=true:=hsh
   refine ⟨[{base:=a,len:=y.length,cap:=cp,es:=u.size}],⟨⟨rfl,⟨rfl,rfl⟩,rfl,rfl,e2,vals,?_,?_⟩,trivial⟩,fun aY hr=> ?_⟩
   ·have: ∀(cs:List cn) (vs:List Value),(∀c∈cs,∃v,c= .flat v)→bK (dk w fun b=>bg w b) cs vs→bK (dk w fun b=>bg w b∧W.heap.size≤b) cs vs:=by
     intro cs
     induction cs with
     |nil=>intro vs _ h;cases vs<;>exact h
     |cons c r ih=>
      intro vs hz h
      obtain ⟨v,rfl⟩:=hz c (by simp)
      match vs,h with
      |v'::vs,h=>exact ⟨h.1,ih vs (fun c hc=>hz c (by simp [hc])) h.2⟩
    exact this _ _ (fun c hc=>by
     obtain ⟨x2,_,h2⟩:=List.mem_flatMap.1 hc
     exact cZ Cy h2) e3
   ·intro i v hv
    obtain ⟨ad,k1,k2,k3⟩:=e4 i v hv
    refine ⟨ad,k1,k2,k3,ME hst hc e1 ?_ ad k1⟩
    intro h0
    have xM:=e3.length
    have h5:=(List.getElem?_eq_some_iff.1 hv).1
    rw [List.length_eq_zero_iff.1 h0] at xM
    simp [ak] at xM
    omega
   ·have h0:=hr 0 _ rfl
    rw [Nat.add_zero] at h0
    show [Cell.af ρ c]= [Cell.af aY (.full nm)]
    rw [e1]
    simp only [Cell.af,h0]
 | .agg t,l,y,r,hd=>by
  simp only [Br] at hd
  split at hd<;>try (cases hd;done)
  rename_i cs r1
  split at hd<;>try (cases hd;done)
  rename_i hf
  split at hd<;>try (cases hd;done)
  rename_i x tc h1
  cases hd
  obtain ⟨ys,e,hl,hs⟩:=di _ t _ _ _ _ h1
  rw [List.append_nil] at e
  subst e
  refine ⟨[_],rfl,fun W ρ Kn w hst nm=> ?_⟩
  have hok:lD (fun b=>bg w b) ρ (aj h) w tc:=⟨fun b hb=>hb.1,fun m _ _ b _ hc=>hc⟩
  obtain ⟨xs,g1,g2⟩:=eO (ok:=fun b=>bg w b) _ _ nm (hs zC W ρ Kn _ w (fun _ _=>rfl) hst _ hok)
  have e2:(cl 0 nm (t.aI y)).2= []:=xF nm _ fun c hc=>cZ hf hc
  have exs:xs= []:=by rw [e2] at g1;match xs,g1 with| [],_=>rfl
  subst exs
  refine ⟨[],by show bK _ (cl 0 nm (t.aI y)).2 [];rw [e2];trivial,fun aY hr=> ?_⟩
  have:=g2 aY hr
  simp only [aT,nH,List.map_cons,List.map_nil,A0.af,this]
 | .ptr t,l,y,r,hd=>by simp [Br] at hd
 | .kq f p,l,y,r,hd=>by simp [Br] at hd
 | .mv f agg t,l,y,r,hd=>by simp [Br] at hd
 | .pair a b,l,y,r,hd=>by
  simp only [Br] at hd
  split at hd<;>try (cases hd;done)
  rename_i x1 r1 h1
  split at hd<;>try (cases hd;done)
  rename_i x2 r2 h2
  cases hd
  obtain ⟨ys,e1,k1⟩:=xR a _ _ _ h1
  obtain ⟨zs,e2,k2⟩:=xR b _ _ _ h2
  refine ⟨ys++zs,by rw [e1,e2];simp,fun W ρ Kn w hst nm=> ?_⟩
  obtain ⟨xs,g1,g2⟩:=k1 W ρ Kn w hst nm
  obtain ⟨us,g3,g4⟩:=k2 W ρ Kn w hst (nm+(aT 0 nm a x1).2.length)
  refine ⟨xs++us,g1.append g3,fun aY hr=> ?_⟩
  have hl:=g1.length
  simp only [aT,List.map_append]
  rw [g2 aY fun i x hi=>hr i x (by rw [List.getElem?_append_left (List.getElem?_eq_some_iff.1 hi).1];exact hi),g4 aY fun i x hi=>by
   have:=hr (xs.length+i) x (by rw [List.getElem?_append_right (by omega)];simpa using hi)
   rwa [<- hl,<- Nat.add_assoc] at this]
 | .none,l,y,r,hd=>by
  simp only [Br,Option.some.injEq,Prod.mk.injEq] at hd
  obtain ⟨rfl,rfl⟩:=hd
  exact ⟨[],rfl,fun W ρ Kn w hst nm=>⟨[],trivial,fun _ _=>rfl⟩⟩
section
variable {P:Program} {tt:List (Nat×TI)} {specs:List (Nat×Spec)}
theorem av.fnN (hT:br P tt) (hS:ah P specs) (hm:P.follows .mixedOrders=true) {f:FuncId} {fn:Func} (hf:P.funcs[f]? =some fn) (hn:ew (ids (bG fn))=true) {s:jh}
  (h: ∀x,s.pre x-> ∃lp dc,aD P fh dc/\ aB P fh (bG fn) lp/\ ET ⟨tt,specs,fh,lp,[],dc⟩ fn (fH s.p x) (fW s.p x) (U3 s.r (· =s.f x))):av P f (vu s):=by
 intro X args hp nm k hs
 unfold vu at hs
 split at hs
 rotate_left
 ·exact hs.elim
 rename_i x tc b hd
 obtain ⟨rfl,hpre,hk⟩:=bh hs
 have hk:=hk _ rfl
 obtain ⟨as,e,hargs⟩:=mI s.p _ _ _ _ hd
 rw [List.append_nil] at e
 subst e
 refine ⟨_,⟨fun p fI=>absurd fI (by simp),?_⟩,hk⟩
 intro ax W ρ Kn Γ w _ _ ht hfr hst
 obtain ⟨xs,hg,hc⟩:=hargs ax W ρ Kn Γ w ht hst 0
 have hb:=St.begin hg
 obtain ⟨lp,dc,hi,hl,hfn⟩:=h x hpre
 have hcs:=hc (fun n=>xs.getD n {}) fun i y hy=>by simp [hy]
 have key:=iC (ctx:=⟨tt,specs,fh,lp,[],dc⟩) hT ⟨hS,s9.nil P,hi⟩ (fh.ok zC w) hm hf (fun c hc=>by
  have:bG fn=c:=by unfold bG;rw [hc]
  subst this
  exact sO (eU hn) hl) hfn (fun y hy=>by
   obtain ⟨a,ha,rfl⟩:=List.mem_map.1 hy
   exact A0.aZ (fun m hm=>by simpa [fW] using hm.2) a (gH 0 s.p x 0 a ha)) hb
 have ea:(fH s.p x).map (AV.af fun n=>xs.getD n {})=args.map (AV.af ρ):=by
  rw [hcs];simp [fH,AV.af,Function.comp_def]
 rw [ea] at key
 refine key.mono ?_
 rintro e w' ⟨st,aY,v,rfl,hv,hR,lY⟩
 unfold U3 at hR
 split at hR
 rotate_left
 ·exact hR.elim
 rename_i l rJ
 split at hR
 rotate_left
 ·exact hR.elim
 rename_i y Wd
 have hR:y=s.f x:=hR
 subst hR
 obtain ⟨ys,e1,Ot⟩:=xR s.r _ _ _ Wd
 rw [List.append_nil] at e1
 subst e1
 obtain ⟨us,YG,Yw⟩:=Ot w aY _ w' lY nm
 obtain ⟨ρ',r1,r2,r3⟩:=(hst.called lY.fr).J8 (v:=iq (aT 0 nm s.r (s.f x)).1) (tc:=tc) (G:= []) (nm:=nm) hfr YG (fun b hb=>by
  refine ⟨hb.1,fun h1=> ?_,fun m _ h2 h3=> ?_⟩
  ·have:=(hst.rH b h1).1
   have:=hb.2
   omega
  ·have:=hst.lt m b h2 h3
   have:=hb.2
   omega)
 refine ⟨ρ',?_,r1,?_,r3⟩
 ·congr 1
  rw [<- BH rJ]
  exact pC (Yw ρ' r2)
 ·exact wC fun c hc=>A0.aZ (fun m hm=> .inr (by simpa using hm)) c (gH 0 s.r (s.f x) nm c hc)
theorem av.trN (s:jh) {i:Bool} (t:s.p.ty.T->Tr s.r.ty.T i) (hT:br P tt) (hS:ah P specs) (hm:P.follows .mixedOrders=true) {n:FuncId} {fn:Func} (hk:(P.funcs[n]?,ew (ids (bG fn)))=(some fn,true))
  {dc:List (Nat×iL)} {lp:s.p.ty.T->List (Nat×cy)} (hits:aD P fh dc) (hl: ∀x,aB P fh (bG fn) (lp x)) (he: ∀x,(s.pre x,s.f x)=(Tr.pI i (t x).pre,(t x).val))
  (h: ∀x Q,ET ⟨tt,specs,fh,lp x,[],dc⟩ fn (fH s.p x) (fW s.p x) (U3 s.r Q)=(t x).wp Q []):av P n (vu s):=by
 simp only [Prod.mk.injEq] at hk
 refine av.fnN hT hS hm hk.1 hk.2 fun x hx=>⟨lp x,dc,hits,hl x,?_⟩
 have e:=he x
 simp only [Prod.mk.injEq] at e
 rw [h]
 exact Tr.Ia _ _ _ (by rw [<- e.1];exact hx) e.2.symm
end
end Go.Ev
