/- A variable that holds two rows, one of which is built when it is asked for first: the contract's ends. -/
import Derived.Test.YtngdehlpoomaiaaGreatEvU
import Derived.Test.YtngdehlpoomaiaaGreatWb
noncomputable section
set_option linter.unusedSectionVars false
set_option linter.unusedVariables false
set_option linter.unusedSimpArgs false
namespace Go.Ev
open Go.RowKit
structure sX where
 tv:Ty
 tb:Ty
 eC:TypeId
 pre:List tv.T->Prop
 KX:List tv.T->List tb.T
def wR (cL cT:Cell) (u v q a b:Value):List Cell:= [cL,.raw u,.raw v,.raw q,cT,.raw a,.raw b]
def qL (d:sX) (L:List d.tv.T) (T:List d.tb.T) (u v q a b:Value) (ρ:Env):List aF:= [.cells (wR (.full 1) (.full 2) u v q a b) d.eC,.row d.tv L 0,.row d.tb T 2,.cw ρ 3]
def xb (n:Int) (p:Prop):Prop:=n=0->p
def jR {α:Type} (n:Int) (x y:α):α:=if n=0 then x else y
def Ds (d:sX):Spec:=fun _ args hp nm k=>match args with
 | [.v (.one (.ptr n 0))]=>match hp n with
  |some (.cells [cL,.raw (.int .u32 dn),.raw (.int .i32 s),.raw q,cT,.raw a,.raw b] e)=>match uV hp d.tb cT,fa hp (.one (.sl d.tv)) [.v (.one cL)] with
   | some (T,rr),some (L,[],tc,b0)=>if decide (e=d.eC)&&eB (n::rr)&&oL tc (n::rr) then
     ob (b0&&decide (s=0)&&(decide (dn=0)||decide (dn=1))) (xb dn (d.pre L)/\ ∀y,y=jR dn (d.KX L) T->k {val:= .v (.one (.full nm)),fresh:= [.row d.tb y 2],writes:=(n,.cells (wR cL (.full nm) (.int .u32 1) (.int .i32 0) q a b) d.eC)::rr.map fun r=>(r,.gone),aD:=(n::rr)++tc}) else False
   |_,_=>False
  |_=>False
 |_=>False
def RU (d:sX) (ρ:Env) (q a b:Value) (val:Nat->AV) (z:List d.tb.T) (v:AV) (st:AS):Prop:=match ai st.heap 0 with
 |some (.cells [.full k,.raw (.int .u32 u),.raw (.int .i32 s),.raw q',.full m,.raw a',.raw b'] e)=>match ai st.heap m with
  |some (.row t l rk)=>match iw t d.tb l with
   |some z'=>(k=1/\ u=1/\ s=0/\ q'=q/\ a'=a)/\ (b'=b/\ e=d.eC/\ v=val m/\ rk=2)/\ pE (ai st.heap 3) ρ 3 (z'=z)
   |none=>False
  |_=>False
 |_=>False
theorem Wy {d:sX} {ρ:Env} {q a b:Value} {val:Nat->AV} {z:List d.tb.T} {v:AV} {st:AS} (h:RU d ρ q a b val z v st):
  ∃m,v=val m/\ ai st.heap 0=some (.cells (wR (.full 1) (.full m) (.int .u32 1) (.int .i32 0) q a b) d.eC)/\ ai st.heap m=some (.row d.tb z 2)/\ ai st.heap 3=some (.cw ρ 3):=by
 unfold RU at h
 split at h
 rotate_left
 ·exact h.elim
 rename_i h1
 split at h
 rotate_left
 ·exact h.elim
 rename_i h2
 split at h
 rotate_left
 ·exact h.elim
 rename_i z' hz
 obtain ⟨⟨rfl,rfl,rfl,rfl,rfl⟩,⟨rfl,rfl,rfl,rfl⟩,h3⟩:=h
 obtain ⟨e1,e2⟩:=cg hz
 subst e1
 dsimp only at e2
 subst e2
 obtain ⟨hp,rfl⟩:=de h3
 exact ⟨_,rfl,h1,h2,hp⟩
def U9 (y0 y4 yR:Loc):Env:=fun i=>match i with
 |0=>y0
 |1=>y4
 |2=>yR
 |_=> {}
theorem tZ {d:sX} {L:List d.tv.T} {T:List d.tb.T} {u v q a b:Value} {ρ:Env} {n:Nat} {o:aF} (h:ai (qL d L T u v q a b ρ) n=some o):
  (n=0/\ o= .cells (wR (.full 1) (.full 2) u v q a b) d.eC)\/ (n=1/\ o= .row d.tv L 0)\/ (n=2/\ o= .row d.tb T 2)\/ (n=3/\ o= .cw ρ 3):=by
 have h:=mh h
 match n,h with
 |0,h=>exact .inl ⟨rfl,by cases h;rfl⟩
 |1,h=>exact .inr (.inl ⟨rfl,by cases h;rfl⟩)
 |2,h=>exact .inr (.inr (.inl ⟨rfl,by cases h;rfl⟩))
 |3,h=>exact .inr (.inr (.inr ⟨rfl,by cases h;rfl⟩))
 |n+4,h=>simp [qL] at h
section
variable {aq:e8} {W:World} {ρ:Env} {Kn:Nat->Prop} {Γ:HP} {w:World}
theorem Ez {ρ ρ':Env} {cL cT cL' cT':Cell} (h1:cL'.ae ρ'=cL.ae ρ) (h2:cT'.ae ρ'=cT.ae ρ) (u v q a b:Value):(wR cL' cT' u v q a b).map (Cell.ae ρ')=(wR cL cT u v q a b).map (Cell.ae ρ):=by
 simp only [wR,List.map_cons,List.map_nil,h1,h2];rfl
theorem St.afk {d:sX} {L:List d.tv.T} {T:List d.tb.T} {u v q a b:Value} {n:Nat} {rr:List Nat} {cL cT:Cell} {y4 yR:Loc} (h:St aq W ρ Kn Γ w)
  (hC:Γ n=some (.cells (wR cL cT u v q a b) d.eC)) (hr: ∀r∈rr,(Γ r).isSome=true) (ie:(n::rr).Nodup)
  (h4:cE (fun b=>bn w b/\ ¬yC ρ (n::rr) b) w (.row d.tv L 0) y4)
  (hcL:cL.ae ρ= .slice y4.base y4.len y4.cap) (hcT:cT.ae ρ= .slice yR.base yR.len yR.cap)
  (hrow:br (dM ρ Γ w) (qU aq W) (fun _=>yR) 2 (.row d.tb T 2) w) (hyb: ∀b,yR.has b-> ∃r∈rr,(ρ r).has b) (hye:yR.iB= []):
  St {wr:=yC ρ (n::rr),nw:=fun b=>dM ρ Γ w b/\ qU aq W b} w (U9 (ρ n) y4 yR) (· <4) (ai (qL d L T u v q a b (U9 (ρ n) y4 yR))) w:=by
 obtain ⟨aZ,dR⟩: ∃aZ,aZ=U9 (ρ n) y4 yR:=⟨_,rfl⟩
 rw [<- dR]
 have e0:aZ 0=ρ n:=by rw [dR];rfl
 have e4:aZ 1=y4:=by rw [dR];rfl
 have e2:aZ 2=yR:=by rw [dR];rfl
 have e6:(aZ 3).blk=Option.none/\ (aZ 3).iB= []:=by rw [dR];exact ⟨rfl,rfl⟩
 have pB: ∀m∈(n::rr),(Γ m).isSome=true:=fun m hm=>by
  rcases List.mem_cons.1 hm with rfl|hm
  ·rw [hC];rfl
  ·exact hr m hm
 have dJ: ∀m b',(ai (qL d L T u v q a b aZ) m).isSome=true->(aZ m).has b'->(m=0/\ (ρ n).has b')\/ (m=2/\ ∃r∈rr,(ρ r).has b'):=fun m b' hs hb=>by
  obtain ⟨o,ho⟩:=Option.isSome_iff_exists.1 hs
  rcases tZ ho with ⟨rfl,_⟩|⟨rfl,_⟩|⟨rfl,_⟩|⟨rfl,_⟩
  ·rw [e0] at hb;exact .inl ⟨rfl,hb⟩
  ·rw [e4] at hb;exact (mw h4.2.1 hb).elim
  ·rw [e2] at hb;exact .inr ⟨rfl,hyb b' hb⟩
  ·exact (mw e6 hb).elim
 have hwr: ∀m b',(ai (qL d L T u v q a b aZ) m).isSome=true->(aZ m).has b'->yC ρ (n::rr) b':=fun m b' hs hb=>by
  rcases dJ m b' hs hb with ⟨_,k⟩|⟨_,r,k1,k2⟩
  ·exact ⟨n,by simp,k⟩
  ·exact ⟨r,by simp [k1],k2⟩
 have uk: ∀b',¬HI (ai (qL d L T u v q a b aZ)) b':=fun b' ⟨m,S,k,_⟩=>by
  rcases tZ k with ⟨_,e⟩|⟨_,e⟩|⟨_,e⟩|⟨_,e⟩<;>cases e
 have HR: ∀b',(bn w b'/\ ¬yC ρ (n::rr) b')->dM aZ (ai (qL d L T u v q a b aZ)) w b':=fun b' hb=>⟨hb.1,by
  rintro (⟨m,k1,k2⟩|k)
  ·exact hb.2 (hwr m b' k1 k2)
  ·exact uk b' k⟩
 have hfz: ∀b',dM ρ Γ w b'->dM aZ (ai (qL d L T u v q a b aZ)) w b':=fun b' hb=>HR b' ⟨hb.1,fun ⟨m,k1,k2⟩=>hb.2 (.inl ⟨m,pB m k1,k2⟩)⟩
 simp only [List.nodup_cons] at ie
 refine ⟨Fr.refl _ _,fun m o ho=> ?_,fun m o ho=> ?_,fun m m' b' kQ Fe fK dI=> ?_,fun m b' kQ fK=> .inr (hwr m b' kQ fK),fun b' hb=>absurd hb (uk b'),fun m o ho=> ?_⟩
 rotate_right
 ·rcases tZ ho with ⟨rfl,rfl⟩|⟨rfl,rfl⟩|⟨rfl,rfl⟩|⟨rfl,rfl⟩
  ·exact .inr (by rw [e0];exact (h.sR _ _ hC).elim (fun ⟨_,e⟩=>by cases e) id)
  ·exact .inr (by rw [e4];exact h4.2.1.2)
  ·exact .inr (by rw [e2];exact hye)
  ·exact .inr e6.2
 ·rcases tZ ho with ⟨rfl,rfl⟩|⟨rfl,rfl⟩|⟨rfl,rfl⟩|⟨rfl,rfl⟩
  ·obtain ⟨b1,g1,g2⟩:=h.at_ n _ hC
   refine ⟨b1,by rw [e0];exact g1,?_⟩
   rw [g2,Ez (ρ:=ρ) (ρ':=aZ) (cL:=cL) (cT:=cT) (by rw [hcL];simp [Cell.ae,e4]) (by rw [hcT];simp [Cell.ae,e2])]
  ·exact l7 (by rw [e4];exact h4) HR
  ·obtain ⟨g1,g2,g3,sub,g4,g5,g6,g7⟩:=hrow
   rw [br,e2]
   exact ⟨g1,g2,g3,sub,fun i v hv=>by
    obtain ⟨a,k1,k2,_⟩:=g4 i v hv
    exact ⟨a,k1,k2,fun h=>by cases h⟩,fun q u' l' hq=>(g5 q u' l' hq).weak fun b hb=>⟨hfz b hb.1,fun _=>⟨.inr (.inr ⟨hb.1,(hb.2 rfl).1⟩),(hb.2 rfl).2⟩⟩,fun h=>(by cases h),g7⟩
  ·exact ⟨e6.1,fun m _=>rfl⟩
 ·rcases tZ ho with ⟨rfl,rfl⟩|⟨rfl,rfl⟩|⟨rfl,rfl⟩|⟨rfl,rfl⟩
  ·refine ⟨by decide,fun c hc=> ?_⟩
   simp only [wR,List.mem_cons,List.not_mem_nil,or_false] at hc
   rcases hc with rfl|rfl|rfl|rfl|rfl|rfl|rfl<;>first|trivial|(show _<4;decide)
  ·exact ⟨by decide,trivial⟩
  ·exact ⟨by decide,trivial⟩
  ·exact ⟨by decide,fun m hm=>by omega⟩
 ·have hmem: ∀r,r∈rr→(ρ n).has b'→(ρ r).has b'→n∈rr:=fun r hr' k k'=>by
   have:=h.dK n r b' (pB n (by simp)) (hr r hr') k k'
   rw [this];exact hr'
  rcases dJ m b' kQ fK with ⟨rfl,k⟩|⟨rfl,r,k1,k⟩
  ·rcases dJ m' b' Fe dI with ⟨rfl,k'⟩|⟨rfl,r',Xl,k'⟩
   ·rfl
   ·exact absurd (hmem r' Xl k k') ie.1
  ·rcases dJ m' b' Fe dI with ⟨rfl,k'⟩|⟨rfl,r',Xl,k'⟩
   ·exact absurd (hmem r k1 k' k) ie.1
   ·rfl
theorem St.ahW {d:sX} {n:Nat} {rr:List Nat} {cL cT:Cell} {u v u' v' q a b a' b':Value} {val:AV} {aX:Env} {Kn1:Nat->Prop} {Xn:HP} {w':World} {nm m:Nat} {z:List d.tb.T} {tc:List Nat} (h:St aq W ρ Kn Γ w)
  (hC:Γ n=some (.cells (wR cL cT u v q a b) d.eC)) (hr: ∀r∈rr,(Γ r).isSome=true) (ie:(n::rr).Nodup) (hn: ¬Kn nm)
  (h1:St {wr:=yC ρ (n::rr),nw:=fun b=>dM ρ Γ w b/\ qU aq W b} w aX Kn1 Xn w')
  (k1:Xn 0=some (.cells (wR (.full 1) (.full m) u' v' q a' b') d.eC)) (km:Xn m=some (.row d.tb z 2)) (e1:aX 0=ρ n) (e4:Cell.ae aX (.full 1)=cL.ae ρ):
  ∃ρ',(∀m,Kn m->ρ' m=ρ m)/\ ρ' nm=aX m/\ St aq W ρ' (mH Kn nm {val:=val,fresh:= [.row d.tb z 2],writes:=(n,.cells (wR cL (.full nm) u' v' q a' b') d.eC)::rr.map fun r=>(r,aF.gone),aD:=tc})
   (bU {val:=val,fresh:= [.row d.tb z 2],writes:=(n,.cells (wR cL (.full nm) u' v' q a' b') d.eC)::rr.map fun r=>(r,aF.gone),aD:=tc} nm Γ) w':=by
 obtain ⟨r,Di⟩: ∃r:Rec,r= {val:=val,fresh:= [.row d.tb z 2],writes:=(n,.cells (wR cL (.full nm) u' v' q a' b') d.eC)::rr.map fun r=>(r,aF.gone),aD:=tc} :=⟨_,rfl⟩
 rw [<- Di]
 simp only [List.nodup_cons] at ie
 have d3:=ie.1
 have pB: ∀m∈(n::rr),(Γ m).isSome=true:=fun m hm=>by
  rcases List.mem_cons.1 hm with rfl|hm
  ·rw [hC];rfl
  ·exact hr m hm
 have hkn: ∀n,(Γ n).isSome=true->Kn n:=fun n hs=>by obtain ⟨o,ho⟩:=Option.isSome_iff_exists.1 hs;exact (h.kn n o ho).1
 have hold: ∀x,Kn x->bw ρ nm (aX m) x=ρ x:=iP hn
 have jN:bw ρ nm (aX m) nm=aX m:=by simp [bw]
 have bQ: ∀x p,bU r nm Γ x=some p->(x=nm/\ p= .row d.tb z 2)\/ (x≠nm/\ x=n/\ p= .cells (wR cL (.full nm) u' v' q a' b') d.eC)\/ (x≠nm/\ x≠n/\ x∉rr/\ Γ x=some p):=fun x p hp=>by
  rw [Di] at hp
  exact Il rfl rfl d3 hp
 have hsz:=h.fr.size
 have VC:=h1.fr.size
 have hlt: ∀n o b,Γ n=some o->(ρ n).has b->b<w.heap.size:=fun n o b ho hb=>h.lt n b (by rw [ho];rfl) hb
 have Zi: ∀b,yC ρ (n::rr) b->b<w.heap.size/\ (W.heap.size<=b\/ aq b):=fun b ⟨n,n1,n2⟩=>by
  obtain ⟨o,ho⟩:=Option.isSome_iff_exists.1 (pB n n1)
  exact ⟨hlt n o b ho n2,h.jX n b (pB n n1) n2⟩
 have hfw: ∀b,dM ρ Γ w b-> ¬yC ρ (n::rr) b:=fun b hb ⟨n,n1,n2⟩=>hb.2 (.inl ⟨n,pB n n1,n2⟩)
 have hun: ∀b,b<w.heap.size-> ¬yC ρ (n::rr) b->w'.heap[b]? =w.heap[b]? :=fun b hb hq=>h1.fr.block b hb hq
 have hmb: ∀b,(aX m).has b->w.heap.size<=b\/ ∃q∈rr,(ρ q).has b:=fun b hb=>by
  rcases h1.jX m b (by rw [km];rfl) hb with h2|⟨n',n1,n2⟩
  ·exact .inl h2
  ·rcases List.mem_cons.1 n1 with rfl|n1
   ·have:=h1.dK m 0 b (by rw [km];rfl) (by rw [k1];rfl) hb (by rw [e1];exact n2)
    rw [this,k1] at km;cases km
   ·exact .inr ⟨n',n1,n2⟩
 have hlo: ∀x b,(bU r nm Γ x).isSome=true->(bw ρ nm (aX m) x).has b->(x=nm/\ (aX m).has b)\/ (x≠nm/\ x∉rr/\ (Γ x).isSome=true/\ (ρ x).has b):=fun x b hs hb=>by
  obtain ⟨p,hp⟩:=Option.isSome_iff_exists.1 hs
  rcases bQ x p hp with ⟨rfl,_⟩|⟨h2,rfl,_⟩|⟨h2,_,h3,h4⟩
  ·rw [jN] at hb;exact .inl ⟨rfl,hb⟩
  ·rw [hold _ (hkn _ (pB _ (by simp)))] at hb
   exact .inr ⟨h2,d3,pB _ (by simp),hb⟩
  ·have hs':(Γ x).isSome=true:=by rw [h4];rfl
   rw [hold _ (hkn _ hs')] at hb
   exact .inr ⟨h2,h3,hs',hb⟩
 have vU: ∀b,HI (bU r nm Γ) b->HI Γ b:=fun b ⟨x,S,h2,h3⟩=>by
  rcases bQ x _ h2 with ⟨_,e⟩|⟨_,_,e⟩|⟨_,_,_,e⟩
  ·cases e
  ·cases e
  ·exact ⟨x,S,e,h3⟩
 have hfz: ∀b,dM ρ Γ w b->dM (bw ρ nm (aX m)) (bU r nm Γ) w' b/\ w'.heap[b]? =w.heap[b]? :=fun b hb=>by
  have e:=hun b hb.1.lt (hfw b hb)
  refine ⟨⟨hb.1.same e,?_⟩,e⟩
  rintro (⟨x,h2,h3⟩|h2)
  ·rcases hlo x b h2 h3 with ⟨_,h4⟩|⟨_,_,h4,h5⟩
   ·rcases hmb b h4 with h5|⟨q,h5,h6⟩
    ·have:=hb.1.lt;omega
    ·exact hb.2 (.inl ⟨q,hr q h5,h6⟩)
   ·exact hb.2 (.inl ⟨x,h4,h5⟩)
  ·exact hb.2 (.inr (vU b h2))
 have Zd: ∀b,dM aX Xn w' b->qU {wr:=yC ρ (n::rr),nw:=fun b=>dM ρ Γ w b/\ qU aq W b} w b->dM (bw ρ nm (aX m)) (bU r nm Γ) w' b/\ qU aq W b:=fun b hb hp=>by
  rcases hp with hp|hp|hp
  ·refine ⟨⟨hb.1,?_⟩,.inl (by omega)⟩
   rintro (⟨x,h2,h3⟩|h2)
   ·rcases hlo x b h2 h3 with ⟨_,h4⟩|⟨_,_,h4,h5⟩
    ·exact hb.2 (.inl ⟨m,by rw [km];rfl,h4⟩)
    ·obtain ⟨o,ho⟩:=Option.isSome_iff_exists.1 h4
     have:=hlt x o b ho h5;omega
   ·have:=(h.oK b (vU b h2)).1;omega
  ·have eW:yC ρ (n::rr) b:=hp
   obtain ⟨hl,ho⟩:=Zi b eW
   obtain ⟨n',n1,n2⟩:=eW
   refine ⟨⟨hb.1,?_⟩,ho.imp_right .inl⟩
   have hin:n'∈rr:=by
    rcases List.mem_cons.1 n1 with rfl|n1
    ·exact absurd (.inl ⟨0,by rw [k1];rfl,by rw [e1];exact n2⟩) hb.2
    ·exact n1
   rintro (⟨x,h2,h3⟩|h2)
   ·rcases hlo x b h2 h3 with ⟨_,h4⟩|⟨_,h4,h5,h6⟩
    ·exact hb.2 (.inl ⟨m,by rw [km];rfl,h4⟩)
    ·have:=h.dK n' x b (hr n' hin) h5 n2 h6
     exact h4 (this▸hin)
   ·exact (h.oK b (vU b h2)).2 ⟨n',hr n' hin,n2⟩
  ·have eW:dM ρ Γ w b∧qU aq W b:=hp
   exact ⟨(hfz b eW.1).1,eW.2⟩
 have kr:mH Kn nm r=HD Kn nm:=by
  rw [Di]
  funext x
  simp only [mH,HD,List.length_singleton]
  congr 1
  apply propext
  omega
 have hcL:cL.ok Kn:=(h.kn n _ hC).2 cL (by simp [wR])
 rw [kr]
 refine ⟨bw ρ nm (aX m),hold,jN,⟨?_,fun x p hp=> ?_,fun x p hp=> ?_,fun x y b hx hy fK dI=> ?_,fun x b hx hb=> ?_,fun b hh=> ?_,fun x p hp=> ?_⟩⟩
 rotate_right
 ·rcases bQ x p hp with ⟨rfl,rfl⟩|⟨h2,rfl,rfl⟩|⟨h2,h3,h4,h5⟩
  ·exact .inr (by rw [jN];exact (h1.sR m _ km).elim (fun ⟨_,e⟩=>by cases e) id)
  ·exact .inr (by rw [hold _ (hkn _ (pB _ (by simp)))];exact (h.sR _ _ hC).elim (fun ⟨_,e⟩=>by cases e) id)
  ·rw [hold x (h.kn x p h5).1];exact h.sR x p h5
 ·refine ⟨h1.fr.os.trans h.fr.os,h1.fr.tape.trans h.fr.tape,h1.fr.output.trans h.fr.output,Nat.le_trans hsz VC,fun k hk hnb=> ?_,Nat.le_trans h.fr.IC h1.fr.IC⟩
  rw [hun k (by omega) fun hq=>(Zi k hq).2.elim (fun h=>by omega) hnb]
  exact h.fr.block k hk hnb
 ·rcases bQ x p hp with ⟨rfl,rfl⟩|⟨h2,rfl,rfl⟩|⟨h2,h3,h4,h5⟩
  ·obtain ⟨g1,g2,g3,sub,g4,g5,g6,g7⟩:=h1.at_ m _ km
   rw [br,jN]
   exact ⟨g1,g2,g3,sub,fun i v hv=>by
    obtain ⟨a,q1,q2,_⟩:=g4 i v hv
    exact ⟨a,q1,q2,fun h=>by cases h⟩,fun q u' l' hq=>(g5 q u' l' hq).weak fun b hb=>by
     obtain ⟨q1,q2⟩:=Zd b hb.1 (hb.2 rfl).1
     exact ⟨q1,fun _=>⟨q2,(hb.2 rfl).2⟩⟩,fun h=>(by cases h),g7⟩
  ·obtain ⟨b1,g1,g2⟩:=h1.at_ 0 _ k1
   refine ⟨b1,by rw [hold _ (hkn _ (pB _ (by simp))),<- e1];exact g1,?_⟩
   rw [g2,Ez (ρ:=bw ρ nm (aX m)) (ρ':=aX) (cL:=cL) (cT:= .full nm) (by rw [e4];exact (Cell.bt hold cL hcL).symm) (by simp [Cell.ae,jN])]
  ·have hk:=h.kn x p h5
   refine cq (h.at_ x p h5) hold hk.1 hk.2 hfz (fun _ _ h=>h) fun b hb=>hun b (hlt x p b h5 hb) ?_
   rintro ⟨n',n1,n2⟩
   have:=h.dK x n' b (by rw [h5];rfl) (pB n' n1) hb n2
   subst this
   rcases List.mem_cons.1 n1 with e|e
   ·exact h3 e
   ·exact h4 e
 ·rcases bQ x p hp with ⟨rfl,rfl⟩|⟨h2,rfl,rfl⟩|⟨h2,h3,h4,h5⟩
  ·exact ⟨.inr rfl,trivial⟩
  ·refine ⟨.inl (hkn _ (pB _ (by simp))),fun c hc=> ?_⟩
   simp only [wR,List.mem_cons,List.not_mem_nil,or_false] at hc
   rcases hc with rfl|rfl|rfl|rfl|rfl|rfl|rfl<;>first|trivial|exact .inr rfl|exact Cell.aV (fun _=> .inl) _ hcL
  ·exact ⟨.inl (h.kn x p h5).1,aF.aV (fun _=> .inl) p (h.kn x p h5).2⟩
 ·rcases hlo x b hx fK with ⟨rfl,h2⟩|⟨h2,h3,h4,h5⟩
  ·rcases hlo y b hy dI with ⟨rfl,_⟩|⟨q2,q3,q4,q5⟩
   ·rfl
   ·rcases hmb b h2 with h6|⟨q,h6,h7⟩
    ·obtain ⟨o,ho⟩:=Option.isSome_iff_exists.1 q4
     have:=hlt y o b ho q5;omega
    ·have:=h.dK q y b (hr q h6) q4 h7 q5
     exact absurd (this▸h6) q3
  ·rcases hlo y b hy dI with ⟨rfl,q2⟩|⟨q2,q3,q4,q5⟩
   ·rcases hmb b q2 with h6|⟨q,h6,h7⟩
    ·obtain ⟨o,ho⟩:=Option.isSome_iff_exists.1 h4
     have:=hlt x o b ho h5;omega
    ·have:=h.dK q x b (hr q h6) h4 h7 h5
     exact absurd (this▸h6) h3
   ·exact h.dK x y b h4 q4 h5 q5
 ·rcases hlo x b hx hb with ⟨rfl,h2⟩|⟨_,_,h4,h5⟩
  ·rcases hmb b h2 with h6|⟨q,h6,h7⟩
   ·exact .inl (by omega)
   ·exact h.jX q b (hr q h6) h7
  ·exact h.jX x b h4 h5
 ·obtain ⟨h2,h3⟩:=h.oK b (vU b hh)
  refine ⟨by omega,?_⟩
  rintro ⟨x,q1,q2⟩
  rcases hlo x b q1 q2 with ⟨_,h4⟩|⟨_,_,h4,h5⟩
  ·rcases hmb b h4 with h6|⟨q,h6,h7⟩
   ·omega
   ·exact h3 ⟨q,hr q h6,h7⟩
  ·exact h3 ⟨x,h4,h5⟩
variable {P:Program} {tt:List (Nat×TI)} {specs:List (Nat×Spec)}
theorem oM.X1 (hT:aK P tt) (hS:af P specs) (hm:P.follows .mixedOrders=true) {f:FuncId} {fn:Func} (hf:P.funcs[f]? =some fn) (hn:dy (ids (aG fn))=true) {d:sX}
  {its:List (Nat×cX)} (hi:av P cy its) {X:Addr->Value->Prop} {hp:HP} {nm n:Nat} {cL cT:Cell} {u v q a b a' b':Value} {T z:List d.tb.T} {L:List d.tv.T} {rr tc:List Nat} {ex:List AV} {val:Nat->AV}
  (YN:hp n=some (.cells (wR cL cT u v q a b) d.eC)) (Mu:uV hp d.tb cT=some (T,rr)) (DA:fa hp (.one (.sl d.tv)) [.v (.one cL)]=some (L,[],tc,true)) (ie:eB (n::rr)=true) (AY:oL tc (n::rr)=true)
  (hex: ∀x∈ex,(∀ρ ρ',x.ae ρ=x.ae ρ')/\ ∀Kn,x.ok Kn) (hval:(∀m m' ρ ρ',ρ m=ρ' m'->(val m).ae ρ=(val m').ae ρ')/\ ∀m (Kn:Nat->Prop),Kn m->(val m).ok Kn)
  (hfn: ∀aZ,HB ⟨tt,specs,cy,[],[],its⟩ fn (.v (.one (.ptr 0 0))::ex) (qL d L T u v q a b aZ) (RU d aZ q a' b' val z)):
  oM P f X (.v (.one (.ptr n 0))::ex) hp nm {val:=val nm,fresh:= [.row d.tb z 2],writes:=(n,.cells (wR cL (.full nm) (.int .u32 1) (.int .i32 0) q a' b') d.eC)::rr.map fun r=>(r,.gone),aD:=(n::rr)++tc} :=by
 have ie:=eX ie
 have AY:=nN AY
 obtain ⟨hrs,NI⟩:=yb Mu
 refine ⟨fun p eW=> ?_,?_⟩
 ·rcases List.mem_cons.1 eW with rfl|eW
  ·rw [YN];exact fun h=>by cases h
  ·obtain ⟨q,hq,rfl⟩:=List.mem_map.1 eW
   have:=hrs q hq
   intro h
   dsimp only at h
   rw [h] at this;cases this
 intro aq W ρ Kn Γ w _ _ ht hfr hst
 have hin: ∀m∈(n::rr),Γ m=hp m:=fun m hn=>ht m (List.mem_append.2 (.inl hn))
 have QX:Γ n=some (.cells (wR cL cT u v q a b) d.eC):=by rw [hin n (by simp)];exact YN
 have NH: ∀r∈rr,(Γ r).isSome=true:=fun r hr=>by rw [hin r (by simp [hr])];exact hrs r hr
 have pB: ∀m∈(n::rr),(Γ m).isSome=true:=fun m hm=>by
  rcases List.mem_cons.1 hm with rfl|hm
  ·rw [QX];rfl
  ·exact NH m hm
 have hok:lW (fun b=>bn w b/\ ¬yC ρ (n::rr) b) ρ Γ w tc:=by
  refine ⟨fun b hb=>⟨hb.1,fun ⟨n,n1,n2⟩=>hb.2 (.inl ⟨n,pB n n1,n2⟩)⟩,fun m hm hs b hb hc=>⟨hc,fun ⟨n',n1,n2⟩=> ?_⟩⟩
  have:=hst.dK m n' b hs (pB n' n1) hb n2
  exact AY m hm (this▸n1)
 obtain ⟨y4,g4,c4⟩:=qV DA (fun m hm=>ht m (List.mem_append.2 (.inr hm))) hst hok
 obtain ⟨yR,cR,gR,eR,bR⟩:=NI hst fun r hr=>hin r (by simp [hr])
 have c4:cL.ae ρ= .slice y4.base y4.len y4.cap:=c4
 have hb:=St.afk (d:=d) (L:=L) (T:=T) hst QX NH ie g4 c4 cR gR bR eR
 obtain ⟨aZ,dR⟩: ∃aZ,aZ=U9 (ρ n) y4 yR:=⟨_,rfl⟩
 rw [<- dR] at hb
 have key:=iS (ctx:=⟨tt,specs,cy,[],[],its⟩) hT ⟨hS,nW.nil P,hi⟩ (cy.ok _ w) hm hf (fun c hc=>by
  have:aG fn=c:=by unfold aG;rw [hc]
  subst this
  exact vZ (dQ hn) ax.nil) (hfn aZ) (fun y hy=>by
   rcases List.mem_cons.1 hy with rfl|hy
   ·show 0<4;decide
   ·exact (hex y hy).2 _) hb
 have ea:(AV.v (.one (.ptr 0 0))::ex).map (AV.ae aZ)=(AV.v (.one (.ptr n 0))::ex).map (AV.ae ρ):=by
  simp only [List.map_cons]
  rw [List.map_congr_left fun x hx=>(hex x hx).1 aZ ρ]
  congr 1
  simp only [AV.ae,A0.ae,Cell.ae,addrOf,dR,U9]
 rw [ea] at key
 refine key.mono ?_
 rintro e w' ⟨st,aX,v',rfl,hv,hR,m8⟩
 obtain ⟨m,rfl,k1,km,wJ⟩:=Wy hR
 have hpe:=(m8.at_ _ _ wJ).2
 have e1:aX 0=ρ n:=by rw [hpe 0 (by decide),dR];rfl
 have e4:Cell.ae aX (.full 1)=cL.ae ρ:=by
  rw [c4]
  simp only [Cell.ae,hpe 1 (by decide),dR,U9]
 obtain ⟨ρ',r1,r3,r2⟩:=St.ahW (nm:=nm) (tc:=(n::rr)++tc) (val:=val nm) hst QX NH ie (hfr 0 (by simp)) m8 k1 km e1 e4
 exact ⟨ρ',by rw [hval.1 m nm aX ρ' r3.symm],r1,hval.2 _ _ (.inr ⟨Nat.le_refl _,by simp⟩),r2⟩
theorem ah.fnC (hT:aK P tt) (hS:af P specs) (hm:P.follows .mixedOrders=true) {f:FuncId} {fn:Func} (hf:P.funcs[f]? =some fn) (hn:dy (ids (aG fn))=true) {d:sX}
  {its:List (Nat×cX)} (hi:av P cy its)
  (hfn: ∀(L:List d.tv.T) (T:List d.tb.T) (dn:Int) (q a b:Value) (aZ:Env),(dn=0\/ dn=1)->xb dn (d.pre L)->HB ⟨tt,specs,cy,[],[],its⟩ fn [.v (.one (.ptr 0 0))] (qL d L T (.int .u32 dn) (.int .i32 0) q a b aZ) (RU d aZ q a b (fun m=> .v (.one (.full m))) (jR dn (d.KX L) T))):ah P f (Ds d):=by
 intro X args hp nm k hs
 unfold Ds at hs
 split at hs
 rotate_left
 ·exact hs.elim
 rename_i n
 split at hs
 rotate_left
 ·exact hs.elim
 rename_i cL dn s q cT a b e YN
 split at hs
 rotate_left
 ·exact hs.elim
 rename_i T rr L tc b0 Mu DA
 split at hs
 rotate_left
 ·exact hs.elim
 rename_i hc
 simp only [Bool.and_eq_true,decide_eq_true_eq] at hc
 obtain ⟨⟨rfl,ie⟩,AY⟩:=hc
 obtain ⟨hb,hpre,hk⟩:=bk hs
 simp only [Bool.and_eq_true,decide_eq_true_eq,Bool.or_eq_true] at hb
 obtain ⟨⟨rfl,rfl⟩,hdn⟩:=hb
 exact ⟨_,oM.X1 (val:=fun m=> .v (.one (.full m))) hT hS hm hf hn hi YN Mu DA ie AY (fun x hx=>by cases hx) ⟨fun m m' ρ ρ' h=>by simp only [AV.ae,A0.ae,Cell.ae,h],fun m Kn h=>h⟩ fun aZ=>hfn L T dn q a b aZ hdn hpre,hk _ rfl⟩
def ptA (p:Int×(Int×Int)):AV:= .v (.agg [.raw (.int .i64 p.1),.raw (.int .i64 p.2.1),.raw (.int .i64 p.2.2)])
abbrev PtI:Type:=Int×(Int×Int)
structure ae4 where
 base:sX
 Wv:List base.tv.T->List base.tb.T->PtI×PtI->Prop
 ask:List base.tv.T->List base.tb.T->PtI×PtI->Bool×(Int×Int)
def mZ (z:Bool×(Int×Int)) (a n:Int):Int:=if z.2.2=0 then IntKind.wrap .i64 (a+n) else a
def KY (d:ae4):Spec:=fun _ args hp nm k=>match args with
 | [.v (.one (.ptr n 0)),.v (.agg [.raw (.int .i64 p0),.raw (.int .i64 p1),.raw (.int .i64 p2)]),.v (.agg [.raw (.int .i64 q0),.raw (.int .i64 q1),.raw (.int .i64 q2)])]=>match hp n with
  |some (.cells [cL,.raw (.int .u32 dn),.raw (.int .i32 s),.raw q,cT,.raw (.int .i64 a),.raw (.int .i64 b)] e)=>match uV hp d.base.tb cT,fa hp (.one (.sl d.base.tv)) [.v (.one cL)] with
   | some (T,rr),some (L,[],tc,b0)=>if decide (e=d.base.eC)&&eB (n::rr)&&oL tc (n::rr) then
     ob (b0&&decide (s=0)&&(decide (dn=0)||decide (dn=1))) (xb dn (d.base.pre L)/\ ∀y,y=jR dn (d.base.KX L) T->d.Wv L y ((p0,p1,p2),q0,q1,q2)/\ ∀z,z=d.ask L y ((p0,p1,p2),q0,q1,q2)->True/\ ∀a',a'=mZ z a 1->True/\ ∀b',b'=mZ z b z.2.1->
      k {val:= .nC [.one (.raw (.bool z.1)),.one (.raw (.int .i64 z.2.2))],fresh:= [.row d.base.tb y 2],writes:=(n,.cells (wR cL (.full nm) (.int .u32 1) (.int .i32 0) q (.int .i64 a') (.int .i64 b')) d.base.eC)::rr.map fun r=>(r,.gone),aD:=(n::rr)++tc}) else False
   |_,_=>False
  |_=>False
 |_=>False
theorem ah.fnD (hT:aK P tt) (hS:af P specs) (hm:P.follows .mixedOrders=true) {f:FuncId} {fn:Func} (hf:P.funcs[f]? =some fn) (hn:dy (ids (aG fn))=true) {d:ae4}
  (hfn: ∀(L:List d.base.tv.T) (T:List d.base.tb.T) (dn:Int) (q:Value) (a b:Int) (x:PtI×PtI) (aZ:Env),(dn=0\/ dn=1)->xb dn (d.base.pre L)->d.Wv L (jR dn (d.base.KX L) T) x->HB ⟨tt,specs,cy,[],[],[]⟩ fn [.v (.one (.ptr 0 0)),ptA x.1,ptA x.2] (qL d.base L T (.int .u32 dn) (.int .i32 0) q (.int .i64 a) (.int .i64 b) aZ)
   (RU d.base aZ q (.int .i64 (mZ (d.ask L (jR dn (d.base.KX L) T) x) a 1)) (.int .i64 (mZ (d.ask L (jR dn (d.base.KX L) T) x) b (d.ask L (jR dn (d.base.KX L) T) x).2.1)) (fun _=> .nC [.one (.raw (.bool (d.ask L (jR dn (d.base.KX L) T) x).1)),.one (.raw (.int .i64 (d.ask L (jR dn (d.base.KX L) T) x).2.2))]) (jR dn (d.base.KX L) T))):ah P f (KY d):=by
 intro X args hp nm k hs
 unfold KY at hs
 split at hs
 rotate_left
 ·exact hs.elim
 rename_i n p0 p1 p2 q0 q1 q2
 split at hs
 rotate_left
 ·exact hs.elim
 rename_i cL dn s q cT a b e YN
 split at hs
 rotate_left
 ·exact hs.elim
 rename_i T rr L tc b0 Mu DA
 split at hs
 rotate_left
 ·exact hs.elim
 rename_i hc
 simp only [Bool.and_eq_true,decide_eq_true_eq] at hc
 obtain ⟨⟨rfl,ie⟩,AY⟩:=hc
 obtain ⟨hb,hpre,hk⟩:=bk hs
 simp only [Bool.and_eq_true,decide_eq_true_eq,Bool.or_eq_true] at hb
 obtain ⟨⟨rfl,rfl⟩,hdn⟩:=hb
 obtain ⟨hp2,hk⟩:=hk _ rfl
 have hk:=((hk _ rfl).2 _ rfl).2 _ rfl
 have hpt: ∀p:PtI,(∀ρ ρ',(ptA p).ae ρ=(ptA p).ae ρ')/\ ∀Kn,(ptA p).ok Kn:=fun p=>⟨fun _ _=>rfl,fun Kn c hc=>by
  simp only [List.mem_cons,List.not_mem_nil,or_false] at hc
  rcases hc with rfl|rfl|rfl<;>trivial⟩
 exact ⟨_,oM.X1 (d:=d.base) (val:=fun _=> .nC _) hT hS hm hf hn (av.nil _ _) YN Mu DA ie AY (fun x hx=>by
  rcases List.mem_cons.1 hx with rfl|hx
  ·exact hpt (p0,p1,p2)
  ·rw [List.mem_singleton] at hx
   subst hx
   exact hpt (q0,q1,q2)) ⟨fun _ _ _ _ _=>rfl,fun _ _ _ x hx=>by
    simp only [List.mem_cons,List.not_mem_nil,or_false] at hx
    rcases hx with rfl|rfl<;>trivial⟩ fun aZ=>hfn L T dn q a b ((p0,p1,p2),q0,q1,q2) aZ hdn hpre hp2,hk⟩
end
end Go.Ev
