/- A function that calls itself through a variable, and makes a row longer which another variable holds. -/
import Derived.Test.YtngdehlpoomaiaaGreatEvT
noncomputable section
set_option linter.unusedSectionVars false
set_option linter.unusedVariables false
set_option linter.unusedSimpArgs false
namespace Go.Ev
open Go.RowKit
structure Ko where
 tb:Ty
 tv:Ty
 f:FuncId
 eT:TypeId
 eF:TypeId
 eG:TypeId
@[reducible] def Ko.ty (d:Ko):Ty:= .prod (.sl (.int .i64)) (.prod (.sl d.tv) (.sl d.tb))
structure FnO where
 p:Ko
 pre:p.ty.T->Prop
 f:p.ty.T->List p.tb.T
def clG (f:FuncId) (a b c:Nat):Cell:= .jO (.func f) [] [.loc a 0,.loc b 0,.loc c 0]
def UW (d:Ko) (x:d.ty.T):List AV:= [.v (.one (.full 0)),.v (.one (.ptr 1 0)),.v (.one (.ptr 3 0)),.v (.one (.ptr 5 0))]
def xP (d:Ko) (x:d.ty.T) (ρ:Env):List aD:= [.row (.int .i64) x.1 0,.cells [.full 2] d.eT,.row d.tb x.2.2 2,.cells [.full 4] d.eF,.row d.tv x.2.1 0,.cells [clG d.f 1 3 5] d.eG,.cg ρ 6]
def yN (hp:HP) (t:Ty):Cell->Option (List t.T×List Nat)
 | .full r=>match hp r with
  |some (.row u l rk)=>if rk=2 then (match jm u t l with
   |some l'=>some (l',[r])
   |none=>none) else none
  |_=>none
 | .raw (.slice none 0 0)=>some ([],[])
 |_=>none
def isSelf (c:Cell) (f:FuncId) (a b d:Nat):Bool:=match c with
 | .jO (.func g) [] [.loc a' 0,.loc b' 0,.loc d' 0]=>decide (g=f)&&decide (a'=a)&&decide (b'=b)&&decide (d'=d)
 |_=>false
theorem HC {c:Cell} {f:FuncId} {a b d:Nat} (h:isSelf c f a b d=true):c=clG f a b d:=by
 unfold isSelf at h
 split at h
 ·simp only [Bool.and_eq_true,decide_eq_true_eq] at h
  obtain ⟨⟨⟨rfl,rfl⟩,rfl⟩,rfl⟩:=h
  rfl
 ·cases h
def jP (s:FnO):Spec:=fun _ args hp nm k=>match args with
 | [a,.v (.one (.ptr nT 0)),.v (.one (.ptr nF 0)),.v (.one (.ptr nG 0))]=>match fJ hp (.one (.sl (.int .i64))) [a],hp nT,hp nF,hp nG with
  |some (pl,[],J8,b1),some (.cells [cT] eT),some (.cells [cF] eF),some (.cells [cG] eG)=>match yN hp s.p.tb cT,fJ hp (.one (.sl s.p.tv)) [.v (.one cF)] with
   | some (l,rr),some (L,[],w7,b2)=>if decide (eT=s.p.eT)&&decide (eF=s.p.eF)&&decide (eG=s.p.eG)&&isSelf cG s.p.f nT nF nG&&eV (nT::nF::nG::rr)&&ry (J8++w7) (nT::nF::nG::rr) then
     ob (b1&&b2) (s.pre (pl,L,l)/\ ∀y,y=s.f (pl,L,l)->k {val:=ck,fresh:= [.row s.p.tb y 2],writes:=(nT,.cells [.full nm] s.p.eT)::rr.map fun r=>(r,.gone),aF:=(nT::nF::nG::rr)++(J8++w7)}) else False
   |_,_=>False
  |_,_,_,_=>False
 |_=>False
def anr (d:Ko) (ρ:Env) (Q:List d.tb.T->Prop) (v:AV) (st:AS):Prop:=match v with
 | .pT []=>match ai st.heap 1,ai st.heap 3,ai st.heap 5 with
  |some (.cells [.full m] eT),some (.cells [.full 4] eF),some (.cells [cG] eG)=>if decide (eT=d.eT)&&decide (eF=d.eF)&&decide (eG=d.eG)&&isSelf cG d.f 1 3 5 then (match ai st.heap m with
   |some (.row u l rk)=>if rk=2 then (match jm u d.tb l with
    |some z=>rU (ai st.heap 6) ρ 6 (Q z)
    |none=>False) else False
   |_=>False) else False
  |_,_,_=>False
 |_=>False
theorem afL {d:Ko} {ρ:Env} {Q:List d.tb.T->Prop} {v:AV} {st:AS} (h:anr d ρ Q v st):v=ck/\ ∃m z,ai st.heap 1=some (.cells [.full m] d.eT)/\ ai st.heap 3=some (.cells [.full 4] d.eF)/\ ai st.heap 5=some (.cells [clG d.f 1 3 5] d.eG)/\ ai st.heap m=some (.row d.tb z 2)/\ ai st.heap 6=some (.cg ρ 6)/\ Q z:=by
 unfold anr at h
 split at h
 rotate_left
 ·exact h.elim
 split at h
 rotate_left
 ·exact h.elim
 rename_i m eT eF cG eG h1 h2 h3
 split at h
 rotate_left
 ·exact h.elim
 rename_i hc
 simp only [Bool.and_eq_true,decide_eq_true_eq] at hc
 obtain ⟨⟨⟨rfl,rfl⟩,rfl⟩,hs⟩:=hc
 split at h
 rotate_left
 ·exact h.elim
 rename_i u l rk hm
 split at h
 rotate_left
 ·exact h.elim
 rename_i sQ
 subst sQ
 split at h
 rotate_left
 ·exact h.elim
 rename_i z hz
 obtain ⟨e1,e2⟩:=cr hz
 subst e1
 dsimp only at e2
 subst e2
 obtain ⟨hp,hQ⟩:=dy h
 exact ⟨rfl,m,_,h1,h2,by rw [h3,HC hs],hm,hp,hQ⟩
def CS (ρ:Env) (Wn:List Nat):Nat->Prop:=fun b=> ∃n∈Wn,(ρ n).has b
def ad8 (y0 yT yR yF y4 yG:Loc):Env:=fun i=>match i with
 |0=>y0
 |1=>yT
 |2=>yR
 |3=>yF
 |4=>y4
 |5=>yG
 |_=> {}
theorem xQ {d:Ko} {x:d.ty.T} {ρ:Env} {n:Nat} {o:aD} (h:ai (xP d x ρ) n=some o):
  (n=0/\ o= .row (.int .i64) x.1 0)\/ (n=1/\ o= .cells [.full 2] d.eT)\/ (n=2/\ o= .row d.tb x.2.2 2)\/ (n=3/\ o= .cells [.full 4] d.eF)\/ (n=4/\ o= .row d.tv x.2.1 0)\/ (n=5/\ o= .cells [clG d.f 1 3 5] d.eG)\/ (n=6/\ o= .cg ρ 6):=by
 have h:=oo h
 match n,h with
 |0,h=>exact .inl ⟨rfl,by cases h;rfl⟩
 |1,h=>exact .inr (.inl ⟨rfl,by cases h;rfl⟩)
 |2,h=>exact .inr (.inr (.inl ⟨rfl,by cases h;rfl⟩))
 |3,h=>exact .inr (.inr (.inr (.inl ⟨rfl,by cases h;rfl⟩)))
 |4,h=>exact .inr (.inr (.inr (.inr (.inl ⟨rfl,by cases h;rfl⟩))))
 |5,h=>exact .inr (.inr (.inr (.inr (.inr (.inl ⟨rfl,by cases h;rfl⟩)))))
 |6,h=>exact .inr (.inr (.inr (.inr (.inr (.inr ⟨rfl,by cases h;rfl⟩)))))
 |n+7,h=>simp [xP] at h
section
variable {av:fG} {W:World} {ρ:Env} {Kn:Nat->Prop} {Γ:HP} {w:World}
theorem n6 {ok fz pm:Nat->Prop} {aW:Env} {n:Nat} {o:aD} (h1:cK ok w o (aW n)) (hok: ∀b,ok b->fz b):bp fz pm aW n o w:=by
 obtain ⟨u,l,rfl⟩:=bH h1
 obtain ⟨_,g1,g2,g3,g4,vals,g5,g6⟩:=h1
 obtain ⟨e1,e2⟩:=kS g5
 refine ⟨g2,g3,g4,uK vals,fun i v hv=> ?_,fun q u' l' hq=> ?_,fun _=>g1.1,fun h=>absurd rfl h⟩
 ·rw [e1] at hv
  obtain ⟨a,k1,k2,k3⟩:=g6 i v hv
  exact ⟨a,k1,k2,fun _=>hok _ k3⟩
 ·exact (e2 q u' l' hq).weak fun b hb=>⟨hok b hb,fun h=>by cases h⟩
theorem St.aoV {d:Ko} {x:d.ty.T} {nT nF nG:Nat} {rr:List Nat} {cT cF:Cell} {y0 y4 yR:Loc} (h:St av W ρ Kn Γ w)
  (hT:Γ nT=some (.cells [cT] d.eT)) (hF:Γ nF=some (.cells [cF] d.eF)) (hG:Γ nG=some (.cells [clG d.f nT nF nG] d.eG)) (hr: ∀r∈rr,(Γ r).isSome=true) (ja:(nT::nF::nG::rr).Nodup)
  (h0:cK (fun b=>bj w b/\ ¬CS ρ (nT::nF::nG::rr) b) w (.row (.int .i64) x.1 0) y0) (h4:cK (fun b=>bj w b/\ ¬CS ρ (nT::nF::nG::rr) b) w (.row d.tv x.2.1 0) y4)
  (hcF:cF.ae ρ= .slice y4.base y4.len y4.cap) (hcT:cT.ae ρ= .slice yR.base yR.len yR.cap)
  (hrow:bp (dV ρ Γ w) (uk av W) (fun _=>yR) 2 (.row d.tb x.2.2 2) w) (hyb: ∀b,yR.has b-> ∃r∈rr,(ρ r).has b) (hye:yR.jq= []):
  St {wr:=CS ρ (nT::nF::nG::rr),nw:=fun b=>dV ρ Γ w b/\ uk av W b} w (ad8 y0 (ρ nT) yR (ρ nF) y4 (ρ nG)) (· <7) (ai (xP d x (ad8 y0 (ρ nT) yR (ρ nF) y4 (ρ nG)))) w:=by
 obtain ⟨aW,ep⟩: ∃aW,aW=ad8 y0 (ρ nT) yR (ρ nF) y4 (ρ nG):=⟨_,rfl⟩
 rw [<- ep]
 have e0:aW 0=y0:=by rw [ep];rfl
 have e1:aW 1=ρ nT:=by rw [ep];rfl
 have e2:aW 2=yR:=by rw [ep];rfl
 have e3:aW 3=ρ nF:=by rw [ep];rfl
 have e4:aW 4=y4:=by rw [ep];rfl
 have e5:aW 5=ρ nG:=by rw [ep];rfl
 have e6:(aW 6).blk=Option.none/\ (aW 6).jq= []:=by rw [ep];exact ⟨rfl,rfl⟩
 have rQ: ∀n∈(nT::nF::nG::rr),(Γ n).isSome=true:=fun n hn=>by
  simp only [List.mem_cons] at hn
  rcases hn with rfl|rfl|rfl|hn
  ·rw [hT];rfl
  ·rw [hF];rfl
  ·rw [hG];rfl
  ·exact hr n hn
 have dS: ∀n b,(ai (xP d x aW) n).isSome=true->(aW n).has b->(n=1/\ (ρ nT).has b)\/ (n=2/\ ∃r∈rr,(ρ r).has b)\/ (n=3/\ (ρ nF).has b)\/ (n=5/\ (ρ nG).has b):=fun n b hs hb=>by
  obtain ⟨o,ho⟩:=Option.isSome_iff_exists.1 hs
  rcases xQ ho with ⟨rfl,_⟩|⟨rfl,_⟩|⟨rfl,_⟩|⟨rfl,_⟩|⟨rfl,_⟩|⟨rfl,_⟩|⟨rfl,_⟩
  ·rw [e0] at hb;exact (ot h0.2.1 hb).elim
  ·rw [e1] at hb;exact .inl ⟨rfl,hb⟩
  ·rw [e2] at hb;exact .inr (.inl ⟨rfl,hyb b hb⟩)
  ·rw [e3] at hb;exact .inr (.inr (.inl ⟨rfl,hb⟩))
  ·rw [e4] at hb;exact (ot h4.2.1 hb).elim
  ·rw [e5] at hb;exact .inr (.inr (.inr ⟨rfl,hb⟩))
  ·exact (ot e6 hb).elim
 have hwr: ∀n b,(ai (xP d x aW) n).isSome=true->(aW n).has b->CS ρ (nT::nF::nG::rr) b:=fun n b hs hb=>by
  rcases dS n b hs hb with ⟨_,k⟩|⟨_,r,k1,k2⟩|⟨_,k⟩|⟨_,k⟩
  ·exact ⟨nT,by simp,k⟩
  ·exact ⟨r,by simp [k1],k2⟩
  ·exact ⟨nF,by simp,k⟩
  ·exact ⟨nG,by simp,k⟩
 have xU: ∀b,¬HI (ai (xP d x aW)) b:=fun b ⟨m,S,k,_⟩=>by
  rcases xQ k with ⟨_,e⟩|⟨_,e⟩|⟨_,e⟩|⟨_,e⟩|⟨_,e⟩|⟨_,e⟩|⟨_,e⟩<;>cases e
 have Om: ∀b,(bj w b/\ ¬CS ρ (nT::nF::nG::rr) b)->dV aW (ai (xP d x aW)) w b:=fun b hb=>⟨hb.1,by
  rintro (⟨m,k1,k2⟩|k)
  ·exact hb.2 (hwr m b k1 k2)
  ·exact xU b k⟩
 have hfz: ∀b,dV ρ Γ w b->dV aW (ai (xP d x aW)) w b:=fun b hb=>Om b ⟨hb.1,fun ⟨n,k1,k2⟩=>hb.2 (.inl ⟨n,rQ n k1,k2⟩)⟩
 have KP: ∀ {n m:Nat} {c c':Cell} {e:TypeId},Γ n=some (.cells [c] e)->aW m=ρ n->c'.ae aW=c.ae ρ->bp (dV aW (ai (xP d x aW)) w) (uk {wr:=CS ρ (nT::nF::nG::rr),nw:=fun b=>dV ρ Γ w b/\ uk av W b} w) aW m (.cells [c'] e) w:=fun {n m c c' e} hn hm hc=>by
  obtain ⟨b,b1,b2⟩:=h.at_ n _ hn
  exact ⟨b,by rw [hm];exact b1,by rw [b2];simp [hc]⟩
 simp only [List.nodup_cons,List.mem_cons,not_or] at ja
 obtain ⟨⟨d1,d2,d3⟩,⟨d4,d5⟩,d6,_⟩:=ja
 refine ⟨Fr.refl _ _,fun n o ho=> ?_,fun n o ho=> ?_,fun n m b mD Lx gy dR=> ?_,fun n b mD gy=> .inr (hwr n b mD gy),fun b hb=>absurd hb (xU b),fun n o ho=> ?_⟩
 rotate_right
 ·have en: ∀ {n:Nat} {c:Cell} {e:TypeId},Γ n=some (.cells [c] e)→(ρ n).jq= []:=fun hn=>(h.wK _ _ hn).elim (fun ⟨_,e⟩=>by cases e) id
  rcases xQ ho with ⟨rfl,rfl⟩|⟨rfl,rfl⟩|⟨rfl,rfl⟩|⟨rfl,rfl⟩|⟨rfl,rfl⟩|⟨rfl,rfl⟩|⟨rfl,rfl⟩
  ·exact .inr (by rw [e0];exact h0.2.1.2)
  ·exact .inr (by rw [e1];exact en hT)
  ·exact .inr (by rw [e2];exact hye)
  ·exact .inr (by rw [e3];exact en hF)
  ·exact .inr (by rw [e4];exact h4.2.1.2)
  ·exact .inr (by rw [e5];exact en hG)
  ·exact .inr e6.2
 ·rcases xQ ho with ⟨rfl,rfl⟩|⟨rfl,rfl⟩|⟨rfl,rfl⟩|⟨rfl,rfl⟩|⟨rfl,rfl⟩|⟨rfl,rfl⟩|⟨rfl,rfl⟩
  ·exact n6 (by rw [e0];exact h0) Om
  ·exact KP hT e1 (by rw [hcT];simp [Cell.ae,e2])
  ·obtain ⟨g1,g2,g3,sub,g4,g5,g6,g7⟩:=hrow
   rw [bp,e2]
   exact ⟨g1,g2,g3,sub,fun i v hv=>by
    obtain ⟨a,k1,k2,_⟩:=g4 i v hv
    exact ⟨a,k1,k2,fun h=>by cases h⟩,fun q u' l' hq=>(g5 q u' l' hq).weak fun b hb=>⟨hfz b hb.1,fun _=>⟨.inr (.inr ⟨hb.1,(hb.2 rfl).1⟩),(hb.2 rfl).2⟩⟩,fun h=>(by cases h),g7⟩
  ·exact KP hF e3 (by rw [hcF];simp [Cell.ae,e4])
  ·exact n6 (by rw [e4];exact h4) Om
  ·exact KP hG e5 (by simp [clG,Cell.ae,Ref.ae,addrOf,e1,e3,e5])
  ·exact ⟨e6.1,fun m _=>rfl⟩
 ·rcases xQ ho with ⟨rfl,rfl⟩|⟨rfl,rfl⟩|⟨rfl,rfl⟩|⟨rfl,rfl⟩|⟨rfl,rfl⟩|⟨rfl,rfl⟩|⟨rfl,rfl⟩
  ·exact ⟨by decide,trivial⟩
  ·exact ⟨by decide,fun c hc=>by simp only [List.mem_singleton] at hc;subst hc;show 2<7;decide⟩
  ·exact ⟨by decide,trivial⟩
  ·exact ⟨by decide,fun c hc=>by simp only [List.mem_singleton] at hc;subst hc;show 4<7;decide⟩
  ·exact ⟨by decide,trivial⟩
  ·refine ⟨by decide,fun c hc=> ?_⟩
   simp only [List.mem_singleton] at hc
   subst hc
   intro r hr
   simp only [List.mem_cons,List.not_mem_nil,or_false] at hr
   rcases hr with rfl|rfl|rfl
   ·show 1<7;decide
   ·show 3<7;decide
   ·show 5<7;decide
  ·exact ⟨by decide,fun m hm=>by omega⟩
 ·have inj: ∀n m,(Γ n).isSome=true→(Γ m).isSome=true→(ρ n).has b→(ρ m).has b→n=m:=fun n m k1 k2 k3 k4=>h.dU n m b k1 k2 k3 k4
  have kT:(Γ nT).isSome=true:=rQ nT (by simp)
  have kF:(Γ nF).isSome=true:=rQ nF (by simp)
  have kG:(Γ nG).isSome=true:=rQ nG (by simp)
  have hmem: ∀n r,r∈rr->(Γ n).isSome=true->(ρ n).has b->(ρ r).has b->n∈rr:=fun n r hr' hn k k'=>by
   have:=inj n r hn (hr r hr') k k'
   rw [this];exact hr'
  rcases dS n b mD gy with ⟨rfl,k⟩|⟨rfl,r,k1,k⟩|⟨rfl,k⟩|⟨rfl,k⟩
  ·rcases dS m b Lx dR with ⟨rfl,k'⟩|⟨rfl,r',k1',k'⟩|⟨rfl,k'⟩|⟨rfl,k'⟩
   ·rfl
   ·exact absurd (hmem nT r' k1' kT k k') d3
   ·exact absurd (inj _ _ kT kF k k') d1
   ·exact absurd (inj _ _ kT kG k k') d2
  ·rcases dS m b Lx dR with ⟨rfl,k'⟩|⟨rfl,r',k1',k'⟩|⟨rfl,k'⟩|⟨rfl,k'⟩
   ·exact absurd (hmem nT r k1 kT k' k) d3
   ·rfl
   ·exact absurd (hmem nF r k1 kF k' k) d5
   ·exact absurd (hmem nG r k1 kG k' k) d6
  ·rcases dS m b Lx dR with ⟨rfl,k'⟩|⟨rfl,r',k1',k'⟩|⟨rfl,k'⟩|⟨rfl,k'⟩
   ·exact absurd (inj _ _ kT kF k' k) d1
   ·exact absurd (hmem nF r' k1' kF k k') d5
   ·rfl
   ·exact absurd (inj _ _ kF kG k k') d4
  ·rcases dS m b Lx dR with ⟨rfl,k'⟩|⟨rfl,r',k1',k'⟩|⟨rfl,k'⟩|⟨rfl,k'⟩
   ·exact absurd (inj _ _ kT kG k' k) d2
   ·exact absurd (hmem nG r' k1' kG k k') d6
   ·exact absurd (inj _ _ kF kG k' k) d4
   ·rfl
theorem HE (x:Nat): ∀(rr:List Nat),cm (rr.map fun r=>(r,aD.gone)) x=if x∈rr then some .gone else Option.none
 | []=>rfl
 |r::rr=>by
  simp only [List.map_cons,cm,HE x rr,List.mem_cons]
  by_cases h:x∈rr
  ·simp [h]
  ·by_cases e:r=x
   ·subst e;simp [h]
   ·simp [h,e,Ne.symm e]
theorem O0 {nT nm:Nat} {rr:List Nat} {o c:aD} (ho:live (some o)=some o) (hc:live (some c)=some c) (hnT:nT∉rr) {v:AV} {tc:List Nat} {x:Nat} {p:aD}
  (h:bV {val:=v,fresh:= [o],writes:=(nT,c)::rr.map fun r=>(r,aD.gone),aF:=tc} nm Γ x=some p):(x=nm/\ p=o)\/ (x≠nm/\ x=nT/\ p=c)\/ (x≠nm/\ x≠nT/\ x∉rr/\ Γ x=some p):=by
 simp only [bV,List.length_singleton] at h
 split at h
 ·have:x=nm:=by omega
  subst this
  rw [Nat.sub_self] at h
  rw [show ([o]:List aD)[0]? =some o from rfl,ho] at h
  cases h
  exact .inl ⟨rfl,rfl⟩
 ·have hx:x≠nm:=by omega
  simp only [cm,HE] at h
  by_cases hm:x∈rr
  ·rw [if_pos hm] at h;cases h
  ·rw [if_neg hm] at h
   by_cases e:nT=x
   ·subst e
    simp only [if_true] at h
    rw [hc] at h
    cases h
    exact .inr (.inl ⟨hx,rfl,rfl⟩)
   ·simp only [if_neg e] at h
    exact .inr (.inr ⟨hx,fun q=>e q.symm,hm,h⟩)
theorem St.at7 {d:Ko} {nT nF nG:Nat} {rr:List Nat} {cT cF:Cell} {aR:Env} {Kn1:Nat->Prop} {Γ1:HP} {w':World} {nm m:Nat} {z:List d.tb.T} {tc:List Nat} (h:St av W ρ Kn Γ w)
  (hT:Γ nT=some (.cells [cT] d.eT)) (hF:Γ nF=some (.cells [cF] d.eF)) (hG:Γ nG=some (.cells [clG d.f nT nF nG] d.eG)) (hr: ∀r∈rr,(Γ r).isSome=true) (ja:(nT::nF::nG::rr).Nodup) (hn: ¬Kn nm)
  (h1:St {wr:=CS ρ (nT::nF::nG::rr),nw:=fun b=>dV ρ Γ w b/\ uk av W b} w aR Kn1 Γ1 w')
  (k1:Γ1 1=some (.cells [.full m] d.eT)) (k3:Γ1 3=some (.cells [.full 4] d.eF)) (k5:Γ1 5=some (.cells [clG d.f 1 3 5] d.eG)) (km:Γ1 m=some (.row d.tb z 2))
  (e1:aR 1=ρ nT) (e3:aR 3=ρ nF) (e5:aR 5=ρ nG) (e4:Cell.ae aR (.full 4)=cF.ae ρ):
  ∃ρ',(∀m,Kn m->ρ' m=ρ m)/\ St av W ρ' (oI Kn nm {val:=ck,fresh:= [.row d.tb z 2],writes:=(nT,.cells [.full nm] d.eT)::rr.map fun r=>(r,aD.gone),aF:=tc}) (bV {val:=ck,fresh:= [.row d.tb z 2],writes:=(nT,.cells [.full nm] d.eT)::rr.map fun r=>(r,aD.gone),aF:=tc} nm Γ) w':=by
 obtain ⟨r,Jo⟩: ∃r:Rec,r= {val:=ck,fresh:= [.row d.tb z 2],writes:=(nT,.cells [.full nm] d.eT)::rr.map fun r=>(r,aD.gone),aF:=tc} :=⟨_,rfl⟩
 rw [<- Jo]
 have axK:=ja
 simp only [List.nodup_cons,List.mem_cons,not_or] at ja
 obtain ⟨⟨d1,d2,d3⟩,⟨d4,d5⟩,d6,_⟩:=ja
 have rQ: ∀n∈(nT::nF::nG::rr),(Γ n).isSome=true:=fun n hn=>by
  simp only [List.mem_cons] at hn
  rcases hn with rfl|rfl|rfl|hn
  ·rw [hT];rfl
  ·rw [hF];rfl
  ·rw [hG];rfl
  ·exact hr n hn
 have hkn: ∀n,(Γ n).isSome=true->Kn n:=fun n hs=>by obtain ⟨o,ho⟩:=Option.isSome_iff_exists.1 hs;exact (h.kn n o ho).1
 have hnm: ∀n,(Γ n).isSome=true->n≠nm:=fun n hs e=>hn (e▸hkn n hs)
 have hold: ∀x,Kn x->bA ρ nm (aR m) x=ρ x:=jL hn
 have ld:bA ρ nm (aR m) nm=aR m:=by simp [bA]
 have bQ: ∀x p,bV r nm Γ x=some p->(x=nm/\ p= .row d.tb z 2)\/ (x≠nm/\ x=nT/\ p= .cells [.full nm] d.eT)\/ (x≠nm/\ x≠nT/\ x∉rr/\ Γ x=some p):=fun x p hp=>by
  rw [Jo] at hp
  exact O0 rfl rfl d3 hp
 have hsz:=h.fr.size
 have aey:=h1.fr.size
 have hlt: ∀n o b,Γ n=some o->(ρ n).has b->b<w.heap.size:=fun n o b ho hb=>h.lt n b (by rw [ho];rfl) hb
 have aix: ∀b,CS ρ (nT::nF::nG::rr) b->b<w.heap.size/\ (W.heap.size<=b\/ av b):=fun b ⟨n,n1,n2⟩=>by
  obtain ⟨o,ho⟩:=Option.isSome_iff_exists.1 (rQ n n1)
  exact ⟨hlt n o b ho n2,h.lC n b (rQ n n1) n2⟩
 have hfw: ∀b,dV ρ Γ w b-> ¬CS ρ (nT::nF::nG::rr) b:=fun b hb ⟨n,n1,n2⟩=>hb.2 (.inl ⟨n,rQ n n1,n2⟩)
 have hun: ∀b,b<w.heap.size-> ¬CS ρ (nT::nF::nG::rr) b->w'.heap[b]? =w.heap[b]? :=fun b hb hq=>h1.fr.block b hb hq
 have hmb: ∀b,(aR m).has b->w.heap.size<=b\/ ∃q∈rr,(ρ q).has b:=fun b hb=>by
  rcases h1.lC m b (by rw [km];rfl) hb with h2|⟨n,n1,n2⟩
  ·exact .inl h2
  ·simp only [List.mem_cons] at n1
   rcases n1 with rfl|rfl|rfl|n1
   ·have:=h1.dU m 1 b (by rw [km];rfl) (by rw [k1];rfl) hb (by rw [e1];exact n2)
    rw [this,k1] at km;cases km
   ·have:=h1.dU m 3 b (by rw [km];rfl) (by rw [k3];rfl) hb (by rw [e3];exact n2)
    rw [this,k3] at km;cases km
   ·have:=h1.dU m 5 b (by rw [km];rfl) (by rw [k5];rfl) hb (by rw [e5];exact n2)
    rw [this,k5] at km;cases km
   ·exact .inr ⟨n,n1,n2⟩
 have hlo: ∀x b,(bV r nm Γ x).isSome=true->(bA ρ nm (aR m) x).has b->(x=nm/\ (aR m).has b)\/ (x≠nm/\ x∉rr/\ (Γ x).isSome=true/\ (ρ x).has b):=fun x b hs hb=>by
  obtain ⟨p,hp⟩:=Option.isSome_iff_exists.1 hs
  rcases bQ x p hp with ⟨rfl,_⟩|⟨h2,rfl,_⟩|⟨h2,_,h3,h4⟩
  ·rw [ld] at hb;exact .inl ⟨rfl,hb⟩
  ·rw [hold _ (hkn _ (rQ _ (by simp)))] at hb
   exact .inr ⟨h2,d3,rQ _ (by simp),hb⟩
  ·have hs':(Γ x).isSome=true:=by rw [h4];rfl
   rw [hold _ (hkn _ hs')] at hb
   exact .inr ⟨h2,h3,hs',hb⟩
 have z6: ∀b,HI (bV r nm Γ) b->HI Γ b:=fun b ⟨x,S,h2,h3⟩=>by
  rcases bQ x _ h2 with ⟨_,e⟩|⟨_,_,e⟩|⟨_,_,_,e⟩
  ·cases e
  ·cases e
  ·exact ⟨x,S,e,h3⟩
 have hfz: ∀b,dV ρ Γ w b->dV (bA ρ nm (aR m)) (bV r nm Γ) w' b/\ w'.heap[b]? =w.heap[b]? :=fun b hb=>by
  have e:=hun b hb.1.lt (hfw b hb)
  refine ⟨⟨hb.1.same e,?_⟩,e⟩
  rintro (⟨x,h2,h3⟩|h2)
  ·rcases hlo x b h2 h3 with ⟨_,h4⟩|⟨_,_,h4,h5⟩
   ·rcases hmb b h4 with h5|⟨q,h5,h6⟩
    ·have:=hb.1.lt;omega
    ·exact hb.2 (.inl ⟨q,hr q h5,h6⟩)
   ·exact hb.2 (.inl ⟨x,h4,h5⟩)
  ·exact hb.2 (.inr (z6 b h2))
 have air: ∀b,dV aR Γ1 w' b->uk {wr:=CS ρ (nT::nF::nG::rr),nw:=fun b=>dV ρ Γ w b/\ uk av W b} w b->dV (bA ρ nm (aR m)) (bV r nm Γ) w' b/\ uk av W b:=fun b hb hp=>by
  rcases hp with hp|hp|hp
  ·refine ⟨⟨hb.1,?_⟩,.inl (by omega)⟩
   rintro (⟨x,h2,h3⟩|h2)
   ·rcases hlo x b h2 h3 with ⟨_,h4⟩|⟨_,_,h4,h5⟩
    ·exact hb.2 (.inl ⟨m,by rw [km];rfl,h4⟩)
    ·obtain ⟨o,ho⟩:=Option.isSome_iff_exists.1 h4
     have:=hlt x o b ho h5;omega
   ·have:=(h.ru b (z6 b h2)).1;omega
  ·have fh:CS ρ (nT::nF::nG::rr) b:=hp
   obtain ⟨hl,ho⟩:=aix b fh
   obtain ⟨n,n1,n2⟩:=fh
   refine ⟨⟨hb.1,?_⟩,ho.imp_right .inl⟩
   simp only [List.mem_cons] at n1
   have hin:n∈rr:=by
    rcases n1 with rfl|rfl|rfl|n1
    ·exact absurd (.inl ⟨1,by rw [k1];rfl,by rw [e1];exact n2⟩) hb.2
    ·exact absurd (.inl ⟨3,by rw [k3];rfl,by rw [e3];exact n2⟩) hb.2
    ·exact absurd (.inl ⟨5,by rw [k5];rfl,by rw [e5];exact n2⟩) hb.2
    ·exact n1
   rintro (⟨x,h2,h3⟩|h2)
   ·rcases hlo x b h2 h3 with ⟨_,h4⟩|⟨_,h4,h5,h6⟩
    ·exact hb.2 (.inl ⟨m,by rw [km];rfl,h4⟩)
    ·have:=h.dU n x b (hr n hin) h5 n2 h6
     exact h4 (this▸hin)
   ·exact (h.ru b (z6 b h2)).2 ⟨n,hr n hin,n2⟩
  ·have fh:dV ρ Γ w b∧uk av W b:=hp
   exact ⟨(hfz b fh.1).1,fh.2⟩
 have KP: ∀ {n q:Nat} {c c':Cell} {e:TypeId},(Γ n).isSome=true->Γ1 q=some (.cells [c] e)->aR q=ρ n->c'.ae (bA ρ nm (aR m))=c.ae aR->bp (dV (bA ρ nm (aR m)) (bV r nm Γ) w') (uk av W) (bA ρ nm (aR m)) n (.cells [c'] e) w':=fun {n q c c' e} hs hq hρ hc=>by
  obtain ⟨b,b1,b2⟩:=h1.at_ q _ hq
  exact ⟨b,by rw [hold n (hkn n hs),<- hρ];exact b1,by rw [b2];simp [hc]⟩
 have kr:oI Kn nm r=Ob Kn nm:=by
  rw [Jo]
  funext x
  simp only [oI,Ob,List.length_singleton]
  congr 1
  apply propext
  omega
 rw [kr]
 refine ⟨bA ρ nm (aR m),hold,⟨?_,fun x p hp=> ?_,fun x p hp=> ?_,fun x y b hx hy gy dR=> ?_,fun x b hx hb=> ?_,fun b hh=> ?_,fun x p hp=> ?_⟩⟩
 rotate_right
 ·rcases bQ x p hp with ⟨rfl,rfl⟩|⟨h2,rfl,rfl⟩|⟨h2,h3,h4,h5⟩
  ·exact .inr (by rw [ld];exact (h1.wK m _ km).elim (fun ⟨_,e⟩=>by cases e) id)
  ·exact .inr (by rw [hold _ (hkn _ (rQ _ (by simp)))];exact (h.wK _ _ hT).elim (fun ⟨_,e⟩=>by cases e) id)
  ·rw [hold x (h.kn x p h5).1];exact h.wK x p h5
 ·refine ⟨h1.fr.os.trans h.fr.os,h1.fr.tape.trans h.fr.tape,h1.fr.output.trans h.fr.output,Nat.le_trans hsz aey,fun k hk hnb=> ?_,Nat.le_trans h.fr.Pd h1.fr.Pd⟩
  rw [hun k (by omega) fun hq=>(aix k hq).2.elim (fun h=>by omega) hnb]
  exact h.fr.block k hk hnb
 ·rcases bQ x p hp with ⟨rfl,rfl⟩|⟨h2,rfl,rfl⟩|⟨h2,h3,h4,h5⟩
  ·obtain ⟨g1,g2,g3,sub,g4,g5,g6,g7⟩:=h1.at_ m _ km
   rw [bp,ld]
   exact ⟨g1,g2,g3,sub,fun i v hv=>by
    obtain ⟨a,q1,q2,_⟩:=g4 i v hv
    exact ⟨a,q1,q2,fun h=>by cases h⟩,fun q u' l' hq=>(g5 q u' l' hq).weak fun b hb=>by
     obtain ⟨q1,q2⟩:=air b hb.1 (hb.2 rfl).1
     exact ⟨q1,fun _=>⟨q2,(hb.2 rfl).2⟩⟩,fun h=>(by cases h),g7⟩
  ·exact KP (rQ _ (by simp)) k1 e1 (by simp [Cell.ae,ld])
  ·by_cases eF:x=nF
   ·subst eF
    rw [hF] at h5
    cases h5
    refine KP (rQ _ (by simp)) k3 e3 ?_
    rw [e4]
    exact Cell.bu hold cF ((h.kn x _ hF).2 cF (by simp))
   ·by_cases eG:x=nG
    ·subst eG
     rw [hG] at h5
     cases h5
     refine KP (rQ _ (by simp)) k5 e5 ?_
     simp [clG,Cell.ae,Ref.ae,addrOf,e1,e3,e5,hold _ (hkn nT (rQ nT (by simp))),hold _ (hkn nF (rQ nF (by simp))),hold _ (hkn x (rQ x (by simp)))]
    ·have hk:=h.kn x p h5
     refine cx (h.at_ x p h5) hold hk.1 hk.2 hfz (fun _ _ h=>h) fun b hb=>hun b (hlt x p b h5 hb) ?_
     rintro ⟨n,n1,n2⟩
     have:=h.dU x n b (by rw [h5];rfl) (rQ n n1) hb n2
     subst this
     simp only [List.mem_cons] at n1
     rcases n1 with e|e|e|e
     ·exact h3 e
     ·exact eF e
     ·exact eG e
     ·exact h4 e
 ·rcases bQ x p hp with ⟨rfl,rfl⟩|⟨h2,rfl,rfl⟩|⟨h2,h3,h4,h5⟩
  ·exact ⟨.inr rfl,trivial⟩
  ·exact ⟨.inl (hkn _ (rQ _ (by simp))),fun c hc=>by simp only [List.mem_singleton] at hc;subst hc;exact .inr rfl⟩
  ·exact ⟨.inl (h.kn x p h5).1,aD.aT (fun _=> .inl) p (h.kn x p h5).2⟩
 ·rcases hlo x b hx gy with ⟨rfl,h2⟩|⟨h2,h3,h4,h5⟩
  ·rcases hlo y b hy dR with ⟨rfl,_⟩|⟨q2,q3,q4,q5⟩
   ·rfl
   ·rcases hmb b h2 with h6|⟨q,h6,h7⟩
    ·obtain ⟨o,ho⟩:=Option.isSome_iff_exists.1 q4
     have:=hlt y o b ho q5;omega
    ·have:=h.dU q y b (hr q h6) q4 h7 q5
     exact absurd (this▸h6) q3
  ·rcases hlo y b hy dR with ⟨rfl,q2⟩|⟨q2,q3,q4,q5⟩
   ·rcases hmb b q2 with h6|⟨q,h6,h7⟩
    ·obtain ⟨o,ho⟩:=Option.isSome_iff_exists.1 h4
     have:=hlt x o b ho h5;omega
    ·have:=h.dU q x b (hr q h6) h4 h7 h5
     exact absurd (this▸h6) h3
   ·exact h.dU x y b h4 q4 h5 q5
 ·rcases hlo x b hx hb with ⟨rfl,h2⟩|⟨_,_,h4,h5⟩
  ·rcases hmb b h2 with h6|⟨q,h6,h7⟩
   ·exact .inl (by omega)
   ·exact h.lC q b (hr q h6) h7
  ·exact h.lC x b h4 h5
 ·obtain ⟨h2,h3⟩:=h.ru b (z6 b hh)
  refine ⟨by omega,?_⟩
  rintro ⟨x,q1,q2⟩
  rcases hlo x b q1 q2 with ⟨_,h4⟩|⟨_,_,h4,h5⟩
  ·rcases hmb b h4 with h6|⟨q,h6,h7⟩
   ·omega
   ·exact h3 ⟨q,hr q h6,h7⟩
  ·exact h3 ⟨x,h4,h5⟩
theorem Cw {hp:HP} {t:Ty} {c:Cell} {l:List t.T} {rr:List Nat} (h:yN hp t c=some (l,rr)):(∀r∈rr,(hp r).isSome=true)/\
  ∀ {av W ρ Kn Γ w},St av W ρ Kn Γ w->(∀r∈rr,Γ r=hp r)-> ∃y:Loc,c.ae ρ= .slice y.base y.len y.cap/\ bp (dV ρ Γ w) (uk av W) (fun _=>y) 2 (.row t l 2) w/\ y.jq= []/\ ∀b,y.has b-> ∃r∈rr,(ρ r).has b:=by
 unfold yN at h
 split at h
 ·rename_i r
  split at h<;>try (cases h;done)
  rename_i u l0 rk hr
  split at h<;>try (cases h;done)
  rename_i sQ
  subst sQ
  split at h<;>try (cases h;done)
  rename_i l' hc
  cases h
  obtain ⟨e1,e2⟩:=cr hc
  subst e1
  dsimp only at e2
  subst e2
  refine ⟨fun q hq=>by simp only [List.mem_singleton] at hq;subst hq;rw [hr];rfl,fun {av W ρ Kn Γ w} hst bQ=>⟨ρ r,rfl,?_,?_,fun b hb=>⟨r,by simp,hb⟩⟩⟩
  ·exact hst.at_ r _ (by rw [bQ r (by simp),hr])
  ·have hr2:=bQ r (by simp)
   rw [hr] at hr2
   exact (hst.wK r _ hr2).elim (fun ⟨_,e⟩=>by cases e) id
 ·cases h
  refine ⟨fun r hr=>(by cases hr),fun {av W ρ Kn Γ w} hst bQ=>⟨{es:=t.size},rfl,?_,rfl,fun b hb=>absurd (j6.1 hb) (fun h=>by cases h)⟩⟩
  exact ⟨rfl,rfl,Nat.le_refl _,fun _=>(Option.none,0),fun i v hv=>by simp [ay,aJ] at hv,fun q u l' hq=>by simp [ay] at hq,fun h=>(by cases h),fun _=> .inl ⟨rfl,rfl,rfl,fun _=>rfl⟩⟩
 ·cases h
theorem uD {hp:HP} {t:Ty} {a:AV} {l:List t.T} {tc:List Nat} (h:fJ hp (.one (.sl t)) [a]=some (l,[],tc,true)) {av:fG} {W:World} {ρ:Env} {Kn:Nat->Prop} {Γ:HP} {w:World}
  (ht: ∀m∈tc,Γ m=hp m) (hst:St av W ρ Kn Γ w) {ok:Nat->Prop} (hok:nV ok ρ Γ w tc): ∃y:Loc,cK ok w (.row t l 0) y/\ a.ae ρ= .slice y.base y.len y.cap:=by
 obtain ⟨as,e,hs⟩:=mS (.one (.sl t)) _ _ _ _ h
 obtain ⟨xs,h1,h2⟩:=hs av W ρ Kn Γ w ht hst ok hok 0
 match xs,h1 with
 | [y],h1=>
  refine ⟨y,h1.1,?_⟩
  have h3:=h2 (fun _=>y) fun i x hi=>by
   match i,hi with
   |0,hi=>cases hi;rfl
  rw [List.append_nil] at e
  subst e
  simp only [List.map_cons,List.map_nil] at h3
  have h4:=(List.cons.inj h3).1
  rw [h4];rfl
end
section
variable {P:Program} {tt:List (Nat×TI)} {specs:List (Nat×Spec)}
theorem aq.fnO (hT:di P tt) (hS:aj P specs) (hm:P.follows .mixedOrders=true) {f:FuncId} {fn:Func} (hf:P.funcs[f]? =some fn) (hn:cZ (ids (aC fn))=true) {s:FnO}
  (h: ∀x,s.pre x-> ∀aW,∃lp its,aH P cf its/\ aK P cf (aC fn) lp/\ JD ⟨tt,specs,cf,lp,[],its⟩ fn (UW s.p x) (xP s.p x aW) (anr s.p aW (· =s.f x))):aq P f (jP s):=by
 intro X args hp nm k hs
 unfold jP at hs
 split at hs
 rotate_left
 ·exact hs.elim
 rename_i a nT nF nG
 split at hs
 rotate_left
 ·exact hs.elim
 rename_i pl J8 b1 cT eT cF eF cG eG xN hT1 hF1 hG1
 split at hs
 rotate_left
 ·exact hs.elim
 rename_i l rr L w7 b2 UF JJ
 split at hs
 rotate_left
 ·exact hs.elim
 rename_i hc
 simp only [Bool.and_eq_true,decide_eq_true_eq] at hc
 obtain ⟨⟨⟨⟨⟨rfl,rfl⟩,rfl⟩,ld⟩,ja⟩,FM⟩:=hc
 have hcG:=HC ld
 subst hcG
 have ja:=fq ja
 have FM:=qc FM
 obtain ⟨hb,hpre,hk⟩:=bh hs
 rw [Bool.and_eq_true] at hb
 obtain ⟨rfl,rfl⟩:=hb
 have hk:=hk _ rfl
 obtain ⟨hrs,VQ⟩:=Cw UF
 refine ⟨_,⟨fun p fh=> ?_,?_⟩,hk⟩
 ·rcases List.mem_cons.1 fh with rfl|fh
  ·rw [hT1];exact fun h=>by cases h
  ·obtain ⟨q,hq,rfl⟩:=List.mem_map.1 fh
   have:=hrs q hq
   intro h
   dsimp only at h
   rw [h] at this;cases this
 intro av W ρ Kn Γ w _ _ ht hfr hst
 have hin: ∀n∈(nT::nF::nG::rr),Γ n=hp n:=fun n hn=>ht n (List.mem_append.2 (.inl hn))
 have apW:Γ nT=some (.cells [cT] s.p.eT):=by rw [hin nT (by simp)];exact hT1
 have apU:Γ nF=some (.cells [cF] s.p.eF):=by rw [hin nF (by simp)];exact hF1
 have apV:Γ nG=some (.cells [clG s.p.f nT nF nG] s.p.eG):=by rw [hin nG (by simp)];exact hG1
 have VP: ∀r∈rr,(Γ r).isSome=true:=fun r hr=>by rw [hin r (by simp [hr])];exact hrs r hr
 have rQ: ∀n∈(nT::nF::nG::rr),(Γ n).isSome=true:=fun n hn=>by
  simp only [List.mem_cons] at hn
  rcases hn with rfl|rfl|rfl|hn
  ·rw [apW];rfl
  ·rw [apU];rfl
  ·rw [apV];rfl
  ·exact VP n hn
 have hok:nV (fun b=>bj w b/\ ¬CS ρ (nT::nF::nG::rr) b) ρ Γ w (J8++w7):=by
  refine ⟨fun b hb=>⟨hb.1,fun ⟨n,n1,n2⟩=>hb.2 (.inl ⟨n,rQ n n1,n2⟩)⟩,fun m hm hs b hb hc=>⟨hc,fun ⟨n,n1,n2⟩=> ?_⟩⟩
  have:=hst.dU m n b hs (rQ n n1) hb n2
  exact FM m hm (this▸n1)
 obtain ⟨y0,g0,c0⟩:=uD xN (fun m hm=>ht m (List.mem_append.2 (.inr (List.mem_append.2 (.inl hm))))) hst (hok.sub fun m hm=>List.mem_append.2 (.inl hm))
 obtain ⟨y4,g4,c4⟩:=uD JJ (fun m hm=>ht m (List.mem_append.2 (.inr (List.mem_append.2 (.inr hm))))) hst (hok.sub fun m hm=>List.mem_append.2 (.inr hm))
 obtain ⟨yR,cR,gR,eR,bR⟩:=VQ hst fun r hr=>hin r (by simp [hr])
 have hb:=St.aoV (x:=((pl,L,l):s.p.ty.T)) hst apW apU apV VP ja g0 g4 c4 cR gR bR eR
 obtain ⟨aW,ep⟩: ∃aW,aW=ad8 y0 (ρ nT) yR (ρ nF) y4 (ρ nG):=⟨_,rfl⟩
 rw [<- ep] at hb
 obtain ⟨lp,its,hi,hl,hfn⟩:=h _ hpre aW
 have key:=jN (ctx:=⟨tt,specs,cf,lp,[],its⟩) hT ⟨hS,o9.nil P,hi⟩ (cf.ok _ w) hm hf (fun c hc=>by
  have:aC fn=c:=by unfold aC;rw [hc]
  subst this
  exact Ae (ef hn) hl) hfn (fun y hy=>by
   simp only [UW,List.mem_cons,List.not_mem_nil,or_false] at hy
   rcases hy with rfl|rfl|rfl|rfl
   ·show 0<7;decide
   ·show 1<7;decide
   ·show 3<7;decide
   ·show 5<7;decide) hb
 have ea:(UW s.p ((pl,L,l):s.p.ty.T)).map (AV.ae aW)= [a,.v (.one (.ptr nT 0)),.v (.one (.ptr nF 0)),.v (.one (.ptr nG 0))].map (AV.ae ρ):=by
  have c0:a.ae ρ= .slice y0.base y0.len y0.cap:=c0
  simp only [UW,List.map_cons,List.map_nil,AV.ae,A0.ae,Cell.ae,addrOf,ep,ad8] at c0 ⊢
  rw [c0]
 rw [ea] at key
 refine key.mono ?_
 rintro e w' ⟨st,aR,v,rfl,hv,hR,pF⟩
 obtain ⟨rfl,m,z,k1,k3,k5,km,AO,hz⟩:=afL hR
 have hpe:=(pF.at_ _ _ AO).2
 have e1:aR 1=ρ nT:=by rw [hpe 1 (by decide),ep];rfl
 have e3:aR 3=ρ nF:=by rw [hpe 3 (by decide),ep];rfl
 have e5:aR 5=ρ nG:=by rw [hpe 5 (by decide),ep];rfl
 have e4:Cell.ae aR (.full 4)=cF.ae ρ:=by
  have c4:cF.ae ρ= .slice y4.base y4.len y4.cap:=c4
  rw [c4]
  simp only [Cell.ae,hpe 4 (by decide),ep,ad8]
 subst hz
 obtain ⟨ρ',r1,r2⟩:=St.at7 (nm:=nm) (tc:=(nT::nF::nG::rr)++(J8++w7)) hst apW apU apV VP ja (hfr 0 (by simp)) pF k1 k3 k5 km e1 e3 e5 e4
 exact ⟨ρ',rfl,r1,wF _,r2⟩
theorem aq.trO (s:FnO) {i:Bool} (t:s.p.ty.T->Tr (List s.p.tb.T) i) (hT:di P tt) (hS:aj P specs) (hm:P.follows .mixedOrders=true) {n:FuncId} {fn:Func} (hk:(P.funcs[n]?,cZ (ids (aC fn)))=(some fn,true))
  {its:List (Nat×cP)} {lp:s.p.ty.T->List (Nat×br)} (hits:aH P cf its) (hl: ∀x,aK P cf (aC fn) (lp x)) (he: ∀x,(s.pre x,s.f x)=(Tr.pI i (t x).pre,(t x).val))
  (h: ∀x r0 Q,JD ⟨tt,specs,cf,lp x,[],its⟩ fn (UW s.p x) (xP s.p x r0) (anr s.p r0 Q)=(t x).wp Q [.env r0]):aq P n (jP s):=by
 simp only [Prod.mk.injEq] at hk
 refine aq.fnO hT hS hm hk.1 hk.2 fun x hx r0=>⟨lp x,its,hits,hl x,?_⟩
 have e:=he x
 simp only [Prod.mk.injEq] at e
 rw [h]
 exact Tr.N6 _ _ _ (by rw [<- e.1];exact hx) e.2.symm
end
namespace Tr
variable {τ:Type}
abbrev fnO {i:Bool} (s:FnO) (x:s.p.ty.T) (k:List s.p.tb.T->Tr τ i):Tr τ true:= .call (s.pre x) (s.f x) k
end Tr
section
variable {P:Program} {tt:List (Nat×TI)} {specs:List (Nat×Spec)}
end
end Go.Ev
