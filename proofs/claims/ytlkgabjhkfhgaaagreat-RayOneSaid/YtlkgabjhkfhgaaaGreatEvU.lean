/- A function that calls itself through a variable, and makes a row longer which another variable holds. -/
import Derived.Test.YtlkgabjhkfhgaaaGreatEvT
noncomputable section
set_option linter.unusedSectionVars false
set_option linter.unusedVariables false
set_option linter.unusedSimpArgs false
namespace Go.Ev
open Go.RowKit
structure Ax where
 tb:Ty
 tv:Ty
 f:FuncId
 eT:TypeId
 eF:TypeId
 eG:TypeId
@[reducible] def Ax.ty (d:Ax):Ty:= .prod (.sl (.int .i64)) (.prod (.sl d.tv) (.sl d.tb))
structure Wf where
 p:Ax
 pre:p.ty.T->Prop
 f:p.ty.T->List p.tb.T
def Tc (f:FuncId) (a b c:Nat):Cell:= .jS (.func f) [] [.loc a 0,.loc b 0,.loc c 0]
def Hv (d:Ax) (x:d.ty.T):List AV:= [.v (.one (.full 0)),.v (.one (.ptr 1 0)),.v (.one (.ptr 3 0)),.v (.one (.ptr 5 0))]
def rq (d:Ax) (x:d.ty.T) (ρ:Env):List aF:= [.row (.int .i64) x.1 0,.cells [.full 2] d.eT,.row d.tb x.2.2 2,.cells [.full 4] d.eF,.row d.tv x.2.1 0,.cells [Tc d.f 1 3 5] d.eG,.dO ρ 6]
def Cs (hp:HP) (t:Ty):Cell->Option (List t.T×List Nat)
 | .full r=>match hp r with
  |some (.row u l rk)=>if rk=2 then (match iy u t l with
   |some l'=>some (l',[r])
   |none=>none) else none
  |_=>none
 | .raw (.slice none 0 0)=>some ([],[])
 |_=>none
def isSelf (c:Cell) (f:FuncId) (a b d:Nat):Bool:=match c with
 | .jS (.func g) [] [.loc a' 0,.loc b' 0,.loc d' 0]=>decide (g=f)&&decide (a'=a)&&decide (b'=b)&&decide (d'=d)
 |_=>false
theorem yX {c:Cell} {f:FuncId} {a b d:Nat} (h:isSelf c f a b d=true):c=Tc f a b d:=by
 unfold isSelf at h
 split at h
 ·simp only [Bool.and_eq_true,decide_eq_true_eq] at h
  obtain ⟨⟨⟨rfl,rfl⟩,rfl⟩,rfl⟩:=h
  rfl
 ·cases h
def iq (s:Wf):Spec:=fun _ args hp nm k=>match args with
 | [a,.v (.one (.ptr nT 0)),.v (.one (.ptr nF 0)),.v (.one (.ptr nG 0))]=>match iG hp (.one (.sl (.int .i64))) [a],hp nT,hp nF,hp nG with
  |some (pl,[],Al,b1),some (.cells [cT] eT),some (.cells [cF] eF),some (.cells [cG] eG)=>match Cs hp s.p.tb cT,iG hp (.one (.sl s.p.tv)) [.v (.one cF)] with
   | some (l,rr),some (L,[],FE,b2)=>if decide (eT=s.p.eT)&&decide (eF=s.p.eF)&&decide (eG=s.p.eG)&&isSelf cG s.p.f nT nF nG&&gW (nT::nF::nG::rr)&&vp (Al++FE) (nT::nF::nG::rr) then
     ob (b1&&b2) (s.pre (pl,(L,l))/\ ∀y,y=s.f (pl,(L,l))->k {val:=qo,fresh:= [.row s.p.tb y 2],writes:=(nT,.cells [.full nm] s.p.eT)::rr.map fun r=>(r,.gone),aD:=(nT::nF::nG::rr)++(Al++FE)}) else False
   |_,_=>False
  |_,_,_,_=>False
 |_=>False
def Vj (d:Ax) (ρ:Env) (Q:List d.tb.T->Prop) (v:AV) (st:AS):Prop:=match v with
 | .oG []=>match aj st.heap 1,aj st.heap 3,aj st.heap 5 with
  |some (.cells [.full m] eT),some (.cells [.full 4] eF),some (.cells [cG] eG)=>if decide (eT=d.eT)&&decide (eF=d.eF)&&decide (eG=d.eG)&&isSelf cG d.f 1 3 5 then (match aj st.heap m with
   |some (.row u l rk)=>if rk=2 then (match iy u d.tb l with
    |some z=>rG (aj st.heap 6) ρ 6 (Q z)
    |none=>False) else False
   |_=>False) else False
  |_,_,_=>False
 |_=>False
theorem O5 {d:Ax} {ρ:Env} {Q:List d.tb.T->Prop} {v:AV} {st:AS} (h:Vj d ρ Q v st):v=qo/\ ∃m z,aj st.heap 1=some (.cells [.full m] d.eT)/\ aj st.heap 3=some (.cells [.full 4] d.eF)/\ aj st.heap 5=some (.cells [Tc d.f 1 3 5] d.eG)/\ aj st.heap m=some (.row d.tb z 2)/\ aj st.heap 6=some (.dO ρ 6)/\ Q z:=by
 unfold Vj at h
 split at h
 rotate_left
 ·exact h.elim
 split at h
 rotate_left
 ·exact h.elim
 rename_i m eT eF cG eG h1 h2 h3
 split at h
 rotate_left
 ·exact h.elim
 rename_i hc
 simp only [Bool.and_eq_true,decide_eq_true_eq] at hc
 obtain ⟨⟨⟨rfl,rfl⟩,rfl⟩,hs⟩:=hc
 split at h
 rotate_left
 ·exact h.elim
 rename_i u l rk hm
 split at h
 rotate_left
 ·exact h.elim
 rename_i oa
 subst oa
 split at h
 rotate_left
 ·exact h.elim
 rename_i z hz
 obtain ⟨e1,e2⟩:=cn hz
 subst e1
 dsimp only at e2
 subst e2
 obtain ⟨hp,hQ⟩:=fK h
 exact ⟨rfl,m,_,h1,h2,by rw [h3,yX hs],hm,hp,hQ⟩
def As (ρ:Env) (Wn:List Nat):Nat->Prop:=fun b=> ∃n∈Wn,(ρ n).has b
def NL (y0 yT yR yF y4 yG:Loc):Env:=fun i=>match i with
 |0=>y0
 |1=>yT
 |2=>yR
 |3=>yF
 |4=>y4
 |5=>yG
 |_=> {}
theorem ru {d:Ax} {x:d.ty.T} {ρ:Env} {n:Nat} {o:aF} (h:aj (rq d x ρ) n=some o):
  (n=0/\ o= .row (.int .i64) x.1 0)\/ (n=1/\ o= .cells [.full 2] d.eT)\/ (n=2/\ o= .row d.tb x.2.2 2)\/ (n=3/\ o= .cells [.full 4] d.eF)\/ (n=4/\ o= .row d.tv x.2.1 0)\/ (n=5/\ o= .cells [Tc d.f 1 3 5] d.eG)\/ (n=6/\ o= .dO ρ 6):=by
 have h:=nJ h
 match n,h with
 |0,h=>exact .inl ⟨rfl,by cases h;rfl⟩
 |1,h=>exact .inr (.inl ⟨rfl,by cases h;rfl⟩)
 |2,h=>exact .inr (.inr (.inl ⟨rfl,by cases h;rfl⟩))
 |3,h=>exact .inr (.inr (.inr (.inl ⟨rfl,by cases h;rfl⟩)))
 |4,h=>exact .inr (.inr (.inr (.inr (.inl ⟨rfl,by cases h;rfl⟩))))
 |5,h=>exact .inr (.inr (.inr (.inr (.inr (.inl ⟨rfl,by cases h;rfl⟩)))))
 |6,h=>exact .inr (.inr (.inr (.inr (.inr (.inr ⟨rfl,by cases h;rfl⟩)))))
 |n+7,h=>simp [rq] at h
section
variable {ay:iT} {W:World} {ρ:Env} {Kn:Nat->Prop} {Γ:HP} {w:World}
theorem q9 {ok fz pm:Nat->Prop} {b8:Env} {n:Nat} {o:aF} (h1:cV ok w o (b8 n)) (hok: ∀b,ok b->fz b):bg fz pm b8 n o w:=by
 obtain ⟨u,l,rfl⟩:=bF h1
 obtain ⟨_,g1,g2,g3,g4,vals,g5,g6⟩:=h1
 obtain ⟨e1,e2⟩:=ja g5
 refine ⟨g2,g3,g4,o8 vals,fun i v hv=> ?_,fun q u' l' hq=> ?_,fun _=>g1.1,fun h=>absurd rfl h⟩
 ·rw [e1] at hv
  obtain ⟨a,k1,k2,k3⟩:=g6 i v hv
  exact ⟨a,k1,k2,fun _=>hok _ k3⟩
 ·exact (e2 q u' l' hq).weak fun b hb=>⟨hok b hb,fun h=>by cases h⟩
theorem St.Wo {d:Ax} {x:d.ty.T} {nT nF nG:Nat} {rr:List Nat} {cT cF:Cell} {y0 y4 yR:Loc} (h:St ay W ρ Kn Γ w)
  (hT:Γ nT=some (.cells [cT] d.eT)) (hF:Γ nF=some (.cells [cF] d.eF)) (hG:Γ nG=some (.cells [Tc d.f nT nF nG] d.eG)) (hr: ∀r∈rr,(Γ r).isSome=true) (ke:(nT::nF::nG::rr).Nodup)
  (h0:cV (fun b=>aZ w b/\ ¬As ρ (nT::nF::nG::rr) b) w (.row (.int .i64) x.1 0) y0) (h4:cV (fun b=>aZ w b/\ ¬As ρ (nT::nF::nG::rr) b) w (.row d.tv x.2.1 0) y4)
  (hcF:cF.af ρ= .slice y4.base y4.len y4.cap) (hcT:cT.af ρ= .slice yR.base yR.len yR.cap)
  (hrow:bg (dQ ρ Γ w) (p7 ay W) (fun _=>yR) 2 (.row d.tb x.2.2 2) w) (hyb: ∀b,yR.has b-> ∃r∈rr,(ρ r).has b) (hye:yR.ik= []):
  St {wr:=As ρ (nT::nF::nG::rr),nw:=fun b=>dQ ρ Γ w b/\ p7 ay W b} w (NL y0 (ρ nT) yR (ρ nF) y4 (ρ nG)) (· <7) (aj (rq d x (NL y0 (ρ nT) yR (ρ nF) y4 (ρ nG)))) w:=by
 obtain ⟨b8,gH⟩: ∃b8,b8=NL y0 (ρ nT) yR (ρ nF) y4 (ρ nG):=⟨_,rfl⟩
 rw [<- gH]
 have e0:b8 0=y0:=by rw [gH];rfl
 have e1:b8 1=ρ nT:=by rw [gH];rfl
 have e2:b8 2=yR:=by rw [gH];rfl
 have e3:b8 3=ρ nF:=by rw [gH];rfl
 have e4:b8 4=y4:=by rw [gH];rfl
 have e5:b8 5=ρ nG:=by rw [gH];rfl
 have e6:(b8 6).bW=Option.none/\ (b8 6).ik= []:=by rw [gH];exact ⟨rfl,rfl⟩
 have qt: ∀n∈(nT::nF::nG::rr),(Γ n).isSome=true:=fun n hn=>by
  simp only [List.mem_cons] at hn
  rcases hn with rfl|rfl|rfl|hn
  ·rw [hT];rfl
  ·rw [hF];rfl
  ·rw [hG];rfl
  ·exact hr n hn
 have dU: ∀n b,(aj (rq d x b8) n).isSome=true->(b8 n).has b->(n=1/\ (ρ nT).has b)\/ (n=2/\ ∃r∈rr,(ρ r).has b)\/ (n=3/\ (ρ nF).has b)\/ (n=5/\ (ρ nG).has b):=fun n b hs hb=>by
  obtain ⟨o,ho⟩:=Option.isSome_iff_exists.1 hs
  rcases ru ho with ⟨rfl,_⟩|⟨rfl,_⟩|⟨rfl,_⟩|⟨rfl,_⟩|⟨rfl,_⟩|⟨rfl,_⟩|⟨rfl,_⟩
  ·rw [e0] at hb;exact (mS h0.2.1 hb).elim
  ·rw [e1] at hb;exact .inl ⟨rfl,hb⟩
  ·rw [e2] at hb;exact .inr (.inl ⟨rfl,hyb b hb⟩)
  ·rw [e3] at hb;exact .inr (.inr (.inl ⟨rfl,hb⟩))
  ·rw [e4] at hb;exact (mS h4.2.1 hb).elim
  ·rw [e5] at hb;exact .inr (.inr (.inr ⟨rfl,hb⟩))
  ·exact (mS e6 hb).elim
 have Zd: ∀n b,(aj (rq d x b8) n).isSome=true->(b8 n).has b->As ρ (nT::nF::nG::rr) b:=fun n b hs hb=>by
  rcases dU n b hs hb with ⟨_,k⟩|⟨_,r,k1,k2⟩|⟨_,k⟩|⟨_,k⟩
  ·exact ⟨nT,by simp,k⟩
  ·exact ⟨r,by simp [k1],k2⟩
  ·exact ⟨nF,by simp,k⟩
  ·exact ⟨nG,by simp,k⟩
 have yK: ∀b,¬HI (aj (rq d x b8)) b:=fun b ⟨m,S,k,_⟩=>by
  rcases ru k with ⟨_,e⟩|⟨_,e⟩|⟨_,e⟩|⟨_,e⟩|⟨_,e⟩|⟨_,e⟩|⟨_,e⟩<;>cases e
 have N3: ∀b,(aZ w b/\ ¬As ρ (nT::nF::nG::rr) b)->dQ b8 (aj (rq d x b8)) w b:=fun b hb=>⟨hb.1,by
  rintro (⟨m,k1,k2⟩|k)
  ·exact hb.2 (Zd m b k1 k2)
  ·exact yK b k⟩
 have hfz: ∀b,dQ ρ Γ w b->dQ b8 (aj (rq d x b8)) w b:=fun b hb=>N3 b ⟨hb.1,fun ⟨n,k1,k2⟩=>hb.2 (.inl ⟨n,qt n k1,k2⟩)⟩
 have AK: ∀ {n m:Nat} {c c':Cell} {e:TypeId},Γ n=some (.cells [c] e)->b8 m=ρ n->c'.af b8=c.af ρ->bg (dQ b8 (aj (rq d x b8)) w) (p7 {wr:=As ρ (nT::nF::nG::rr),nw:=fun b=>dQ ρ Γ w b/\ p7 ay W b} w) b8 m (.cells [c'] e) w:=fun {n m c c' e} hn hm hc=>by
  obtain ⟨b,b1,b2⟩:=h.at_ n _ hn
  exact ⟨b,by rw [hm];exact b1,by rw [b2];simp [hc]⟩
 simp only [List.nodup_cons,List.mem_cons,not_or] at ke
 obtain ⟨⟨d1,d2,d3⟩,⟨d4,d5⟩,d6,_⟩:=ke
 refine ⟨Fr.refl _ _,fun n o ho=> ?_,fun n o ho=> ?_,fun n m b lI Bm fQ fc=> ?_,fun n b lI fQ=> .inr (Zd n b lI fQ),fun b hb=>absurd hb (yK b),fun n o ho=> ?_⟩
 rotate_right
 ·have en: ∀ {n:Nat} {c:Cell} {e:TypeId},Γ n=some (.cells [c] e)→(ρ n).ik= []:=fun hn=>(h.s8 _ _ hn).elim (fun ⟨_,e⟩=>by cases e) id
  rcases ru ho with ⟨rfl,rfl⟩|⟨rfl,rfl⟩|⟨rfl,rfl⟩|⟨rfl,rfl⟩|⟨rfl,rfl⟩|⟨rfl,rfl⟩|⟨rfl,rfl⟩
  ·exact .inr (by rw [e0];exact h0.2.1.2)
  ·exact .inr (by rw [e1];exact en hT)
  ·exact .inr (by rw [e2];exact hye)
  ·exact .inr (by rw [e3];exact en hF)
  ·exact .inr (by rw [e4];exact h4.2.1.2)
  ·exact .inr (by rw [e5];exact en hG)
  ·exact .inr e6.2
 ·rcases ru ho with ⟨rfl,rfl⟩|⟨rfl,rfl⟩|⟨rfl,rfl⟩|⟨rfl,rfl⟩|⟨rfl,rfl⟩|⟨rfl,rfl⟩|⟨rfl,rfl⟩
  ·exact q9 (by rw [e0];exact h0) N3
  ·exact AK hT e1 (by rw [hcT];simp [Cell.af,e2])
  ·obtain ⟨g1,g2,g3,sub,g4,g5,g6,g7⟩:=hrow
   rw [bg,e2]
   exact ⟨g1,g2,g3,sub,fun i v hv=>by
    obtain ⟨a,k1,k2,_⟩:=g4 i v hv
    exact ⟨a,k1,k2,fun h=>by cases h⟩,fun q u' l' hq=>(g5 q u' l' hq).weak fun b hb=>⟨hfz b hb.1,fun _=>⟨.inr (.inr ⟨hb.1,(hb.2 rfl).1⟩),(hb.2 rfl).2⟩⟩,fun h=>(by cases h),g7⟩
  ·exact AK hF e3 (by rw [hcF];simp [Cell.af,e4])
  ·exact q9 (by rw [e4];exact h4) N3
  ·exact AK hG e5 (by simp [Tc,Cell.af,Ref.af,addrOf,e1,e3,e5])
  ·exact ⟨e6.1,fun m _=>rfl⟩
 ·rcases ru ho with ⟨rfl,rfl⟩|⟨rfl,rfl⟩|⟨rfl,rfl⟩|⟨rfl,rfl⟩|⟨rfl,rfl⟩|⟨rfl,rfl⟩|⟨rfl,rfl⟩
  ·exact ⟨by decide,trivial⟩
  ·exact ⟨by decide,fun c hc=>by simp only [List.mem_singleton] at hc;subst hc;show 2<7;decide⟩
  ·exact ⟨by decide,trivial⟩
  ·exact ⟨by decide,fun c hc=>by simp only [List.mem_singleton] at hc;subst hc;show 4<7;decide⟩
  ·exact ⟨by decide,trivial⟩
  ·refine ⟨by decide,fun c hc=> ?_⟩
   simp only [List.mem_singleton] at hc
   subst hc
   intro r hr
   simp only [List.mem_cons,List.not_mem_nil,or_false] at hr
   rcases hr with rfl|rfl|rfl
   ·show 1<7;decide
   ·show 3<7;decide
   ·show 5<7;decide
  ·exact ⟨by decide,fun m hm=>by omega⟩
 ·have inj: ∀n m,(Γ n).isSome=true→(Γ m).isSome=true→(ρ n).has b→(ρ m).has b→n=m:=fun n m k1 k2 k3 k4=>h.dV n m b k1 k2 k3 k4
  have kT:(Γ nT).isSome=true:=qt nT (by simp)
  have kF:(Γ nF).isSome=true:=qt nF (by simp)
  have kG:(Γ nG).isSome=true:=qt nG (by simp)
  have hmem: ∀n r,r∈rr->(Γ n).isSome=true->(ρ n).has b->(ρ r).has b->n∈rr:=fun n r hr' hn k k'=>by
   have:=inj n r hn (hr r hr') k k'
   rw [this];exact hr'
  rcases dU n b lI fQ with ⟨rfl,k⟩|⟨rfl,r,k1,k⟩|⟨rfl,k⟩|⟨rfl,k⟩
  ·rcases dU m b Bm fc with ⟨rfl,k'⟩|⟨rfl,r',Uo,k'⟩|⟨rfl,k'⟩|⟨rfl,k'⟩
   ·rfl
   ·exact absurd (hmem nT r' Uo kT k k') d3
   ·exact absurd (inj _ _ kT kF k k') d1
   ·exact absurd (inj _ _ kT kG k k') d2
  ·rcases dU m b Bm fc with ⟨rfl,k'⟩|⟨rfl,r',Uo,k'⟩|⟨rfl,k'⟩|⟨rfl,k'⟩
   ·exact absurd (hmem nT r k1 kT k' k) d3
   ·rfl
   ·exact absurd (hmem nF r k1 kF k' k) d5
   ·exact absurd (hmem nG r k1 kG k' k) d6
  ·rcases dU m b Bm fc with ⟨rfl,k'⟩|⟨rfl,r',Uo,k'⟩|⟨rfl,k'⟩|⟨rfl,k'⟩
   ·exact absurd (inj _ _ kT kF k' k) d1
   ·exact absurd (hmem nF r' Uo kF k k') d5
   ·rfl
   ·exact absurd (inj _ _ kF kG k k') d4
  ·rcases dU m b Bm fc with ⟨rfl,k'⟩|⟨rfl,r',Uo,k'⟩|⟨rfl,k'⟩|⟨rfl,k'⟩
   ·exact absurd (inj _ _ kT kG k' k) d2
   ·exact absurd (hmem nG r' Uo kG k k') d6
   ·exact absurd (inj _ _ kF kG k' k) d4
   ·rfl
theorem yY (x:Nat): ∀(rr:List Nat),cg (rr.map fun r=>(r,aF.gone)) x=if x∈rr then some .gone else Option.none
 | []=>rfl
 |r::rr=>by
  simp only [List.map_cons,cg,yY x rr,List.mem_cons]
  by_cases h:x∈rr
  ·simp [h]
  ·by_cases e:r=x
   ·subst e;simp [h]
   ·simp [h,e,Ne.symm e]
theorem DW {nT nm:Nat} {rr:List Nat} {o c:aF} (ho:live (some o)=some o) (hc:live (some c)=some c) (hnT:nT∉rr) {v:AV} {tc:List Nat} {x:Nat} {p:aF}
  (h:bX {val:=v,fresh:= [o],writes:=(nT,c)::rr.map fun r=>(r,aF.gone),aD:=tc} nm Γ x=some p):(x=nm/\ p=o)\/ (x≠nm/\ x=nT/\ p=c)\/ (x≠nm/\ x≠nT/\ x∉rr/\ Γ x=some p):=by
 simp only [bX,List.length_singleton] at h
 split at h
 ·have:x=nm:=by omega
  subst this
  rw [Nat.sub_self] at h
  rw [show ([o]:List aF)[0]? =some o from rfl,ho] at h
  cases h
  exact .inl ⟨rfl,rfl⟩
 ·have hx:x≠nm:=by omega
  simp only [cg,yY] at h
  by_cases hm:x∈rr
  ·rw [if_pos hm] at h;cases h
  ·rw [if_neg hm] at h
   by_cases e:nT=x
   ·subst e
    simp only [if_true] at h
    rw [hc] at h
    cases h
    exact .inr (.inl ⟨hx,rfl,rfl⟩)
   ·simp only [if_neg e] at h
    exact .inr (.inr ⟨hx,fun q=>e q.symm,hm,h⟩)
theorem St.aaF {d:Ax} {nT nF nG:Nat} {rr:List Nat} {cT cF:Cell} {bh:Env} {Kn1:Nat->Prop} {Py:HP} {w':World} {nm m:Nat} {z:List d.tb.T} {tc:List Nat} (h:St ay W ρ Kn Γ w)
  (hT:Γ nT=some (.cells [cT] d.eT)) (hF:Γ nF=some (.cells [cF] d.eF)) (hG:Γ nG=some (.cells [Tc d.f nT nF nG] d.eG)) (hr: ∀r∈rr,(Γ r).isSome=true) (ke:(nT::nF::nG::rr).Nodup) (hn: ¬Kn nm)
  (h1:St {wr:=As ρ (nT::nF::nG::rr),nw:=fun b=>dQ ρ Γ w b/\ p7 ay W b} w bh Kn1 Py w')
  (k1:Py 1=some (.cells [.full m] d.eT)) (k3:Py 3=some (.cells [.full 4] d.eF)) (k5:Py 5=some (.cells [Tc d.f 1 3 5] d.eG)) (km:Py m=some (.row d.tb z 2))
  (e1:bh 1=ρ nT) (e3:bh 3=ρ nF) (e5:bh 5=ρ nG) (e4:Cell.af bh (.full 4)=cF.af ρ):
  ∃ρ',(∀m,Kn m->ρ' m=ρ m)/\ St ay W ρ' (lK Kn nm {val:=qo,fresh:= [.row d.tb z 2],writes:=(nT,.cells [.full nm] d.eT)::rr.map fun r=>(r,aF.gone),aD:=tc}) (bX {val:=qo,fresh:= [.row d.tb z 2],writes:=(nT,.cells [.full nm] d.eT)::rr.map fun r=>(r,aF.gone),aD:=tc} nm Γ) w':=by
 obtain ⟨r,zL⟩: ∃r:Rec,r= {val:=qo,fresh:= [.row d.tb z 2],writes:=(nT,.cells [.full nm] d.eT)::rr.map fun r=>(r,aF.gone),aD:=tc} :=⟨_,rfl⟩
 rw [<- zL]
 have aep:=ke
 simp only [List.nodup_cons,List.mem_cons,not_or] at ke
 obtain ⟨⟨d1,d2,d3⟩,⟨d4,d5⟩,d6,_⟩:=ke
 have qt: ∀n∈(nT::nF::nG::rr),(Γ n).isSome=true:=fun n hn=>by
  simp only [List.mem_cons] at hn
  rcases hn with rfl|rfl|rfl|hn
  ·rw [hT];rfl
  ·rw [hF];rfl
  ·rw [hG];rfl
  ·exact hr n hn
 have hkn: ∀n,(Γ n).isSome=true->Kn n:=fun n hs=>by obtain ⟨o,ho⟩:=Option.isSome_iff_exists.1 hs;exact (h.kn n o ho).1
 have hnm: ∀n,(Γ n).isSome=true->n≠nm:=fun n hs e=>hn (e▸hkn n hs)
 have hold: ∀x,Kn x->bq ρ nm (bh m) x=ρ x:=ie hn
 have jb:bq ρ nm (bh m) nm=bh m:=by simp [bq]
 have bN: ∀x p,bX r nm Γ x=some p->(x=nm/\ p= .row d.tb z 2)\/ (x≠nm/\ x=nT/\ p= .cells [.full nm] d.eT)\/ (x≠nm/\ x≠nT/\ x∉rr/\ Γ x=some p):=fun x p hp=>by
  rw [zL] at hp
  exact DW rfl rfl d3 hp
 have hsz:=h.fr.size
 have N6:=h1.fr.size
 have hlt: ∀n o b,Γ n=some o->(ρ n).has b->b<w.heap.size:=fun n o b ho hb=>h.lt n b (by rw [ho];rfl) hb
 have QX: ∀b,As ρ (nT::nF::nG::rr) b->b<w.heap.size/\ (W.heap.size<=b\/ ay b):=fun b ⟨n,n1,n2⟩=>by
  obtain ⟨o,ho⟩:=Option.isSome_iff_exists.1 (qt n n1)
  exact ⟨hlt n o b ho n2,h.kq n b (qt n n1) n2⟩
 have hfw: ∀b,dQ ρ Γ w b-> ¬As ρ (nT::nF::nG::rr) b:=fun b hb ⟨n,n1,n2⟩=>hb.2 (.inl ⟨n,qt n n1,n2⟩)
 have hun: ∀b,b<w.heap.size-> ¬As ρ (nT::nF::nG::rr) b->w'.heap[b]? =w.heap[b]? :=fun b hb hq=>h1.fr.block b hb hq
 have hmb: ∀b,(bh m).has b->w.heap.size<=b\/ ∃q∈rr,(ρ q).has b:=fun b hb=>by
  rcases h1.kq m b (by rw [km];rfl) hb with h2|⟨n,n1,n2⟩
  ·exact .inl h2
  ·simp only [List.mem_cons] at n1
   rcases n1 with rfl|rfl|rfl|n1
   ·have:=h1.dV m 1 b (by rw [km];rfl) (by rw [k1];rfl) hb (by rw [e1];exact n2)
    rw [this,k1] at km;cases km
   ·have:=h1.dV m 3 b (by rw [km];rfl) (by rw [k3];rfl) hb (by rw [e3];exact n2)
    rw [this,k3] at km;cases km
   ·have:=h1.dV m 5 b (by rw [km];rfl) (by rw [k5];rfl) hb (by rw [e5];exact n2)
    rw [this,k5] at km;cases km
   ·exact .inr ⟨n,n1,n2⟩
 have hlo: ∀x b,(bX r nm Γ x).isSome=true->(bq ρ nm (bh m) x).has b->(x=nm/\ (bh m).has b)\/ (x≠nm/\ x∉rr/\ (Γ x).isSome=true/\ (ρ x).has b):=fun x b hs hb=>by
  obtain ⟨p,hp⟩:=Option.isSome_iff_exists.1 hs
  rcases bN x p hp with ⟨rfl,_⟩|⟨h2,rfl,_⟩|⟨h2,_,h3,h4⟩
  ·rw [jb] at hb;exact .inl ⟨rfl,hb⟩
  ·rw [hold _ (hkn _ (qt _ (by simp)))] at hb
   exact .inr ⟨h2,d3,qt _ (by simp),hb⟩
  ·have hs':(Γ x).isSome=true:=by rw [h4];rfl
   rw [hold _ (hkn _ hs')] at hb
   exact .inr ⟨h2,h3,hs',hb⟩
 have sV: ∀b,HI (bX r nm Γ) b->HI Γ b:=fun b ⟨x,S,h2,h3⟩=>by
  rcases bN x _ h2 with ⟨_,e⟩|⟨_,_,e⟩|⟨_,_,_,e⟩
  ·cases e
  ·cases e
  ·exact ⟨x,S,e,h3⟩
 have hfz: ∀b,dQ ρ Γ w b->dQ (bq ρ nm (bh m)) (bX r nm Γ) w' b/\ w'.heap[b]? =w.heap[b]? :=fun b hb=>by
  have e:=hun b hb.1.lt (hfw b hb)
  refine ⟨⟨hb.1.same e,?_⟩,e⟩
  rintro (⟨x,h2,h3⟩|h2)
  ·rcases hlo x b h2 h3 with ⟨_,h4⟩|⟨_,_,h4,h5⟩
   ·rcases hmb b h4 with h5|⟨q,h5,h6⟩
    ·have:=hb.1.lt;omega
    ·exact hb.2 (.inl ⟨q,hr q h5,h6⟩)
   ·exact hb.2 (.inl ⟨x,h4,h5⟩)
  ·exact hb.2 (.inr (sV b h2))
 have QM: ∀b,dQ bh Py w' b->p7 {wr:=As ρ (nT::nF::nG::rr),nw:=fun b=>dQ ρ Γ w b/\ p7 ay W b} w b->dQ (bq ρ nm (bh m)) (bX r nm Γ) w' b/\ p7 ay W b:=fun b hb hp=>by
  rcases hp with hp|hp|hp
  ·refine ⟨⟨hb.1,?_⟩,.inl (by omega)⟩
   rintro (⟨x,h2,h3⟩|h2)
   ·rcases hlo x b h2 h3 with ⟨_,h4⟩|⟨_,_,h4,h5⟩
    ·exact hb.2 (.inl ⟨m,by rw [km];rfl,h4⟩)
    ·obtain ⟨o,ho⟩:=Option.isSome_iff_exists.1 h4
     have:=hlt x o b ho h5;omega
   ·have:=(h.sW b (sV b h2)).1;omega
  ·have fA:As ρ (nT::nF::nG::rr) b:=hp
   obtain ⟨hl,ho⟩:=QX b fA
   obtain ⟨n,n1,n2⟩:=fA
   refine ⟨⟨hb.1,?_⟩,ho.imp_right .inl⟩
   simp only [List.mem_cons] at n1
   have hin:n∈rr:=by
    rcases n1 with rfl|rfl|rfl|n1
    ·exact absurd (.inl ⟨1,by rw [k1];rfl,by rw [e1];exact n2⟩) hb.2
    ·exact absurd (.inl ⟨3,by rw [k3];rfl,by rw [e3];exact n2⟩) hb.2
    ·exact absurd (.inl ⟨5,by rw [k5];rfl,by rw [e5];exact n2⟩) hb.2
    ·exact n1
   rintro (⟨x,h2,h3⟩|h2)
   ·rcases hlo x b h2 h3 with ⟨_,h4⟩|⟨_,h4,h5,h6⟩
    ·exact hb.2 (.inl ⟨m,by rw [km];rfl,h4⟩)
    ·have:=h.dV n x b (hr n hin) h5 n2 h6
     exact h4 (this▸hin)
   ·exact (h.sW b (sV b h2)).2 ⟨n,hr n hin,n2⟩
  ·have fA:dQ ρ Γ w b∧p7 ay W b:=hp
   exact ⟨(hfz b fA.1).1,fA.2⟩
 have AK: ∀ {n q:Nat} {c c':Cell} {e:TypeId},(Γ n).isSome=true->Py q=some (.cells [c] e)->bh q=ρ n->c'.af (bq ρ nm (bh m))=c.af bh->bg (dQ (bq ρ nm (bh m)) (bX r nm Γ) w') (p7 ay W) (bq ρ nm (bh m)) n (.cells [c'] e) w':=fun {n q c c' e} hs hq hρ hc=>by
  obtain ⟨b,b1,b2⟩:=h1.at_ q _ hq
  exact ⟨b,by rw [hold n (hkn n hs),<- hρ];exact b1,by rw [b2];simp [hc]⟩
 have kr:lK Kn nm r=Dj Kn nm:=by
  rw [zL]
  funext x
  simp only [lK,Dj,List.length_singleton]
  congr 1
  apply propext
  omega
 rw [kr]
 refine ⟨bq ρ nm (bh m),hold,⟨?_,fun x p hp=> ?_,fun x p hp=> ?_,fun x y b hx hy fQ fc=> ?_,fun x b hx hb=> ?_,fun b hh=> ?_,fun x p hp=> ?_⟩⟩
 rotate_right
 ·rcases bN x p hp with ⟨rfl,rfl⟩|⟨h2,rfl,rfl⟩|⟨h2,h3,h4,h5⟩
  ·exact .inr (by rw [jb];exact (h1.s8 m _ km).elim (fun ⟨_,e⟩=>by cases e) id)
  ·exact .inr (by rw [hold _ (hkn _ (qt _ (by simp)))];exact (h.s8 _ _ hT).elim (fun ⟨_,e⟩=>by cases e) id)
  ·rw [hold x (h.kn x p h5).1];exact h.s8 x p h5
 ·refine ⟨h1.fr.os.trans h.fr.os,h1.fr.tape.trans h.fr.tape,h1.fr.output.trans h.fr.output,Nat.le_trans hsz N6,fun k hk hnb=> ?_,Nat.le_trans h.fr.HR h1.fr.HR⟩
  rw [hun k (by omega) fun hq=>(QX k hq).2.elim (fun h=>by omega) hnb]
  exact h.fr.block k hk hnb
 ·rcases bN x p hp with ⟨rfl,rfl⟩|⟨h2,rfl,rfl⟩|⟨h2,h3,h4,h5⟩
  ·obtain ⟨g1,g2,g3,sub,g4,g5,g6,g7⟩:=h1.at_ m _ km
   rw [bg,jb]
   exact ⟨g1,g2,g3,sub,fun i v hv=>by
    obtain ⟨a,q1,q2,_⟩:=g4 i v hv
    exact ⟨a,q1,q2,fun h=>by cases h⟩,fun q u' l' hq=>(g5 q u' l' hq).weak fun b hb=>by
     obtain ⟨q1,q2⟩:=QM b hb.1 (hb.2 rfl).1
     exact ⟨q1,fun _=>⟨q2,(hb.2 rfl).2⟩⟩,fun h=>(by cases h),g7⟩
  ·exact AK (qt _ (by simp)) k1 e1 (by simp [Cell.af,jb])
  ·by_cases eF:x=nF
   ·subst eF
    rw [hF] at h5
    cases h5
    refine AK (qt _ (by simp)) k3 e3 ?_
    rw [e4]
    exact Cell.bH hold cF ((h.kn x _ hF).2 cF (by simp))
   ·by_cases eG:x=nG
    ·subst eG
     rw [hG] at h5
     cases h5
     refine AK (qt _ (by simp)) k5 e5 ?_
     simp [Tc,Cell.af,Ref.af,addrOf,e1,e3,e5,hold _ (hkn nT (qt nT (by simp))),hold _ (hkn nF (qt nF (by simp))),hold _ (hkn x (qt x (by simp)))]
    ·have hk:=h.kn x p h5
     refine cm (h.at_ x p h5) hold hk.1 hk.2 hfz (fun _ _ h=>h) fun b hb=>hun b (hlt x p b h5 hb) ?_
     rintro ⟨n,n1,n2⟩
     have:=h.dV x n b (by rw [h5];rfl) (qt n n1) hb n2
     subst this
     simp only [List.mem_cons] at n1
     rcases n1 with e|e|e|e
     ·exact h3 e
     ·exact eF e
     ·exact eG e
     ·exact h4 e
 ·rcases bN x p hp with ⟨rfl,rfl⟩|⟨h2,rfl,rfl⟩|⟨h2,h3,h4,h5⟩
  ·exact ⟨.inr rfl,trivial⟩
  ·exact ⟨.inl (hkn _ (qt _ (by simp))),fun c hc=>by simp only [List.mem_singleton] at hc;subst hc;exact .inr rfl⟩
  ·exact ⟨.inl (h.kn x p h5).1,aF.aT (fun _=> .inl) p (h.kn x p h5).2⟩
 ·rcases hlo x b hx fQ with ⟨rfl,h2⟩|⟨h2,h3,h4,h5⟩
  ·rcases hlo y b hy fc with ⟨rfl,_⟩|⟨q2,q3,q4,q5⟩
   ·rfl
   ·rcases hmb b h2 with h6|⟨q,h6,h7⟩
    ·obtain ⟨o,ho⟩:=Option.isSome_iff_exists.1 q4
     have:=hlt y o b ho q5;omega
    ·have:=h.dV q y b (hr q h6) q4 h7 q5
     exact absurd (this▸h6) q3
  ·rcases hlo y b hy fc with ⟨rfl,q2⟩|⟨q2,q3,q4,q5⟩
   ·rcases hmb b q2 with h6|⟨q,h6,h7⟩
    ·obtain ⟨o,ho⟩:=Option.isSome_iff_exists.1 h4
     have:=hlt x o b ho h5;omega
    ·have:=h.dV q x b (hr q h6) h4 h7 h5
     exact absurd (this▸h6) h3
   ·exact h.dV x y b h4 q4 h5 q5
 ·rcases hlo x b hx hb with ⟨rfl,h2⟩|⟨_,_,h4,h5⟩
  ·rcases hmb b h2 with h6|⟨q,h6,h7⟩
   ·exact .inl (by omega)
   ·exact h.kq q b (hr q h6) h7
  ·exact h.kq x b h4 h5
 ·obtain ⟨h2,h3⟩:=h.sW b (sV b hh)
  refine ⟨by omega,?_⟩
  rintro ⟨x,q1,q2⟩
  rcases hlo x b q1 q2 with ⟨_,h4⟩|⟨_,_,h4,h5⟩
  ·rcases hmb b h4 with h6|⟨q,h6,h7⟩
   ·omega
   ·exact h3 ⟨q,hr q h6,h7⟩
  ·exact h3 ⟨x,h4,h5⟩
theorem Ct {hp:HP} {t:Ty} {c:Cell} {l:List t.T} {rr:List Nat} (h:Cs hp t c=some (l,rr)):(∀r∈rr,(hp r).isSome=true)/\
  ∀ {ay W ρ Kn Γ w},St ay W ρ Kn Γ w->(∀r∈rr,Γ r=hp r)-> ∃y:Loc,c.af ρ= .slice y.base y.len y.cap/\ bg (dQ ρ Γ w) (p7 ay W) (fun _=>y) 2 (.row t l 2) w/\ y.ik= []/\ ∀b,y.has b-> ∃r∈rr,(ρ r).has b:=by
 unfold Cs at h
 split at h
 ·rename_i r
  split at h<;>try (cases h;done)
  rename_i u l0 rk hr
  split at h<;>try (cases h;done)
  rename_i oa
  subst oa
  split at h<;>try (cases h;done)
  rename_i l' hc
  cases h
  obtain ⟨e1,e2⟩:=cn hc
  subst e1
  dsimp only at e2
  subst e2
  refine ⟨fun q hq=>by simp only [List.mem_singleton] at hq;subst hq;rw [hr];rfl,fun {ay W ρ Kn Γ w} hst bN=>⟨ρ r,rfl,?_,?_,fun b hb=>⟨r,by simp,hb⟩⟩⟩
  ·exact hst.at_ r _ (by rw [bN r (by simp),hr])
  ·have Z8:=bN r (by simp)
   rw [hr] at Z8
   exact (hst.s8 r _ Z8).elim (fun ⟨_,e⟩=>by cases e) id
 ·cases h
  refine ⟨fun r hr=>(by cases hr),fun {ay W ρ Kn Γ w} hst bN=>⟨{es:=t.size},rfl,?_,rfl,fun b hb=>absurd (iA.1 hb) (fun h=>by cases h)⟩⟩
  exact ⟨rfl,rfl,Nat.le_refl _,fun _=>(Option.none,0),fun i v hv=>by simp [ax,aE] at hv,fun q u l' hq=>by simp [ax] at hq,fun h=>(by cases h),fun _=> .inl ⟨rfl,rfl,rfl,fun _=>rfl⟩⟩
 ·cases h
theorem yb {hp:HP} {t:Ty} {a:AV} {l:List t.T} {tc:List Nat} (h:iG hp (.one (.sl t)) [a]=some (l,[],tc,true)) {ay:iT} {W:World} {ρ:Env} {Kn:Nat->Prop} {Γ:HP} {w:World}
  (ht: ∀m∈tc,Γ m=hp m) (hst:St ay W ρ Kn Γ w) {ok:Nat->Prop} (hok:lX ok ρ Γ w tc): ∃y:Loc,cV ok w (.row t l 0) y/\ a.af ρ= .slice y.base y.len y.cap:=by
 obtain ⟨as,e,hs⟩:=j6 (.one (.sl t)) _ _ _ _ h
 obtain ⟨xs,h1,h2⟩:=hs ay W ρ Kn Γ w ht hst ok hok 0
 match xs,h1 with
 | [y],h1=>
  refine ⟨y,h1.1,?_⟩
  have h3:=h2 (fun _=>y) fun i x hi=>by
   match i,hi with
   |0,hi=>cases hi;rfl
  rw [List.append_nil] at e
  subst e
  simp only [List.map_cons,List.map_nil] at h3
  have h4:=(List.cons.inj h3).1
  rw [h4];rfl
end
section
variable {P:Program} {tt:List (Nat×TI)} {specs:List (Nat×Spec)}
theorem ak.Yq (hT:aO P tt) (hS:ah P specs) (hm:P.follows .mixedOrders=true) {f:FuncId} {fn:Func} (hf:P.funcs[f]? =some fn) (hn:ff (ids (cj fn))=true) {s:Wf}
  (h: ∀x,s.pre x-> ∀b8,∃lp dR,aA P lQ dR/\ aB P lQ (cj fn) lp/\ H6 ⟨tt,specs,lQ,lp,[],dR⟩ fn (Hv s.p x) (rq s.p x b8) (Vj s.p b8 (· =s.f x))):ak P f (iq s):=by
 intro X args hp nm k hs
 unfold iq at hs
 split at hs
 rotate_left
 ·exact hs.elim
 rename_i a nT nF nG
 split at hs
 rotate_left
 ·exact hs.elim
 rename_i pl Al b1 cT eT cF eF cG eG ri ZX hF1 hG1
 split at hs
 rotate_left
 ·exact hs.elim
 rename_i l rr L FE b2 JW Ee
 split at hs
 rotate_left
 ·exact hs.elim
 rename_i hc
 simp only [Bool.and_eq_true,decide_eq_true_eq] at hc
 obtain ⟨⟨⟨⟨⟨rfl,rfl⟩,rfl⟩,jb⟩,ke⟩,Ef⟩:=hc
 have hcG:=yX jb
 subst hcG
 have ke:=fD ke
 have Ef:=sK Ef
 obtain ⟨hb,hpre,hk⟩:=br hs
 rw [Bool.and_eq_true] at hb
 obtain ⟨rfl,rfl⟩:=hb
 have hk:=hk _ rfl
 obtain ⟨Y8,QU⟩:=Ct JW
 refine ⟨_,⟨fun p fA=> ?_,?_⟩,hk⟩
 ·rcases List.mem_cons.1 fA with rfl|fA
  ·rw [ZX];exact fun h=>by cases h
  ·obtain ⟨q,hq,rfl⟩:=List.mem_map.1 fA
   have:=Y8 q hq
   intro h
   dsimp only at h
   rw [h] at this;cases this
 intro ay W ρ Kn Γ w _ _ ht hfr hst
 have hin: ∀n∈(nT::nF::nG::rr),Γ n=hp n:=fun n hn=>ht n (List.mem_append.2 (.inl hn))
 have W9:Γ nT=some (.cells [cT] s.p.eT):=by rw [hin nT (by simp)];exact ZX
 have W7:Γ nF=some (.cells [cF] s.p.eF):=by rw [hin nF (by simp)];exact hF1
 have W8:Γ nG=some (.cells [Tc s.p.f nT nF nG] s.p.eG):=by rw [hin nG (by simp)];exact hG1
 have N5: ∀r∈rr,(Γ r).isSome=true:=fun r hr=>by rw [hin r (by simp [hr])];exact Y8 r hr
 have qt: ∀n∈(nT::nF::nG::rr),(Γ n).isSome=true:=fun n hn=>by
  simp only [List.mem_cons] at hn
  rcases hn with rfl|rfl|rfl|hn
  ·rw [W9];rfl
  ·rw [W7];rfl
  ·rw [W8];rfl
  ·exact N5 n hn
 have hok:lX (fun b=>aZ w b/\ ¬As ρ (nT::nF::nG::rr) b) ρ Γ w (Al++FE):=by
  refine ⟨fun b hb=>⟨hb.1,fun ⟨n,n1,n2⟩=>hb.2 (.inl ⟨n,qt n n1,n2⟩)⟩,fun m hm hs b hb hc=>⟨hc,fun ⟨n,n1,n2⟩=> ?_⟩⟩
  have:=hst.dV m n b hs (qt n n1) hb n2
  exact Ef m hm (this▸n1)
 obtain ⟨y0,g0,c0⟩:=yb ri (fun m hm=>ht m (List.mem_append.2 (.inr (List.mem_append.2 (.inl hm))))) hst (hok.sub fun m hm=>List.mem_append.2 (.inl hm))
 obtain ⟨y4,g4,c4⟩:=yb Ee (fun m hm=>ht m (List.mem_append.2 (.inr (List.mem_append.2 (.inr hm))))) hst (hok.sub fun m hm=>List.mem_append.2 (.inr hm))
 obtain ⟨yR,cR,gR,eR,bR⟩:=QU hst fun r hr=>hin r (by simp [hr])
 have hb:=St.Wo (x:=((pl,(L,l)):s.p.ty.T)) hst W9 W7 W8 N5 ke g0 g4 c4 cR gR bR eR
 obtain ⟨b8,gH⟩: ∃b8,b8=NL y0 (ρ nT) yR (ρ nF) y4 (ρ nG):=⟨_,rfl⟩
 rw [<- gH] at hb
 obtain ⟨lp,dR,hi,hl,hfn⟩:=h _ hpre b8
 have key:=ij (ctx:=⟨tt,specs,lQ,lp,[],dR⟩) hT ⟨hS,vh.nil P,hi⟩ (lQ.ok _ w) hm hf (fun c hc=>by
  have:cj fn=c:=by unfold cj;rw [hc]
  subst this
  exact sY (eJ hn) hl) hfn (fun y hy=>by
   simp only [Hv,List.mem_cons,List.not_mem_nil,or_false] at hy
   rcases hy with rfl|rfl|rfl|rfl
   ·show 0<7;decide
   ·show 1<7;decide
   ·show 3<7;decide
   ·show 5<7;decide) hb
 have ea:(Hv s.p ((pl,(L,l)):s.p.ty.T)).map (AV.af b8)= [a,.v (.one (.ptr nT 0)),.v (.one (.ptr nF 0)),.v (.one (.ptr nG 0))].map (AV.af ρ):=by
  have c0:a.af ρ= .slice y0.base y0.len y0.cap:=c0
  simp only [Hv,List.map_cons,List.map_nil,AV.af,A0.af,Cell.af,addrOf,gH,NL] at c0 ⊢
  rw [c0]
 rw [ea] at key
 refine key.mono ?_
 rintro e w' ⟨st,bh,v,rfl,hv,hR,rA⟩
 obtain ⟨rfl,m,z,k1,k3,k5,km,Bn,hz⟩:=O5 hR
 have hpe:=(rA.at_ _ _ Bn).2
 have e1:bh 1=ρ nT:=by rw [hpe 1 (by decide),gH];rfl
 have e3:bh 3=ρ nF:=by rw [hpe 3 (by decide),gH];rfl
 have e5:bh 5=ρ nG:=by rw [hpe 5 (by decide),gH];rfl
 have e4:Cell.af bh (.full 4)=cF.af ρ:=by
  have c4:cF.af ρ= .slice y4.base y4.len y4.cap:=c4
  rw [c4]
  simp only [Cell.af,hpe 4 (by decide),gH,NL]
 subst hz
 obtain ⟨ρ',r1,r2⟩:=St.aaF (nm:=nm) (tc:=(nT::nF::nG::rr)++(Al++FE)) hst W9 W7 W8 N5 ke (hfr 0 (by simp)) rA k1 k3 k5 km e1 e3 e5 e4
 exact ⟨ρ',rfl,r1,uY _,r2⟩
theorem ak.trO (s:Wf) {i:Bool} (t:s.p.ty.T->Tr (List s.p.tb.T) i) (hT:aO P tt) (hS:ah P specs) (hm:P.follows .mixedOrders=true) {n:FuncId} {fn:Func} (hk:(P.funcs[n]?,ff (ids (cj fn)))=(some fn,true))
  {dR:List (Nat×eV)} {lp:s.p.ty.T->List (Nat×iw)} (hits:aA P lQ dR) (hl: ∀x,aB P lQ (cj fn) (lp x)) (he: ∀x,(s.pre x,s.f x)=(Tr.pI i (t x).pre,(t x).val))
  (h: ∀x r0 Q,H6 ⟨tt,specs,lQ,lp x,[],dR⟩ fn (Hv s.p x) (rq s.p x r0) (Vj s.p r0 Q)=(t x).wp Q [.env r0]):ak P n (iq s):=by
 simp only [Prod.mk.injEq] at hk
 refine ak.Yq hT hS hm hk.1 hk.2 fun x hx r0=>⟨lp x,dR,hits,hl x,?_⟩
 have e:=he x
 simp only [Prod.mk.injEq] at e
 rw [h]
 exact Tr.Nd _ _ _ (by rw [<- e.1];exact hx) e.2.symm
end
namespace Tr
variable {τ:Type}
abbrev Yq {i:Bool} (s:Wf) (x:s.p.ty.T) (k:List s.p.tb.T->Tr τ i):Tr τ true:= .call (s.pre x) (s.f x) k
end Tr
section
variable {P:Program} {tt:List (Nat×TI)} {specs:List (Nat×Spec)}
end
end Go.Ev
