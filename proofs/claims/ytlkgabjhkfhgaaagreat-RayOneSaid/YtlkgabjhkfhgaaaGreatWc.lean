/- A variable that holds two rows, one of which is built when it is asked for first: the contract's ends. -/
import Derived.Test.YtlkgabjhkfhgaaaGreatEvU
import Derived.Test.YtlkgabjhkfhgaaaGreatWb
noncomputable section
set_option linter.unusedSectionVars false
set_option linter.unusedVariables false
set_option linter.unusedSimpArgs false
namespace Go.Ev
open Go.RowKit
structure Au where
 tv:Ty
 tb:Ty
 eC:TypeId
 pre:List tv.T->Prop
 qI:List tv.T->List tb.T
def Dq (cL cT:Cell) (u v q a b:Value):List Cell:= [cL,.raw u,.raw v,.raw q,cT,.raw a,.raw b]
def oO (d:Au) (L:List d.tv.T) (T:List d.tb.T) (u v q a b:Value) (ρ:Env):List aF:= [.cells (Dq (.full 1) (.full 2) u v q a b) d.eC,.row d.tv L 0,.row d.tb T 2,.dO ρ 3]
def jV (n:Int) (p:Prop):Prop:=n=0->p
def c5 {α:Type} (n:Int) (x y:α):α:=if n=0 then x else y
def zQ (d:Au):Spec:=fun _ args hp nm k=>match args with
 | [.v (.one (.ptr n 0))]=>match hp n with
  |some (.cells [cL,.raw (.int .u32 dn),.raw (.int .i32 s),.raw q,cT,.raw a,.raw b] e)=>match Cs hp d.tb cT,iG hp (.one (.sl d.tv)) [.v (.one cL)] with
   | some (T,rr),some (L,[],tc,b0)=>if decide (e=d.eC)&&gW (n::rr)&&vp tc (n::rr) then
     ob (b0&&decide (s=0)&&(decide (dn=0)||decide (dn=1))) (jV dn (d.pre L)/\ ∀y,y=c5 dn (d.qI L) T->k {val:= .v (.one (.full nm)),fresh:= [.row d.tb y 2],writes:=(n,.cells (Dq cL (.full nm) (.int .u32 1) (.int .i32 0) q a b) d.eC)::rr.map fun r=>(r,.gone),aD:=(n::rr)++tc}) else False
   |_,_=>False
  |_=>False
 |_=>False
def Lj (d:Au) (ρ:Env) (q a b:Value) (val:Nat->AV) (z:List d.tb.T) (v:AV) (st:AS):Prop:=match aj st.heap 0 with
 |some (.cells [.full k,.raw (.int .u32 u),.raw (.int .i32 s),.raw q',.full m,.raw a',.raw b'] e)=>match aj st.heap m with
  |some (.row t l rk)=>match iy t d.tb l with
   |some z'=>(k=1/\ u=1/\ s=0/\ q'=q/\ a'=a)/\ (b'=b/\ e=d.eC/\ v=val m/\ rk=2)/\ rG (aj st.heap 3) ρ 3 (z'=z)
   |none=>False
  |_=>False
 |_=>False
theorem O3 {d:Au} {ρ:Env} {q a b:Value} {val:Nat->AV} {z:List d.tb.T} {v:AV} {st:AS} (h:Lj d ρ q a b val z v st):
  ∃m,v=val m/\ aj st.heap 0=some (.cells (Dq (.full 1) (.full m) (.int .u32 1) (.int .i32 0) q a b) d.eC)/\ aj st.heap m=some (.row d.tb z 2)/\ aj st.heap 3=some (.dO ρ 3):=by
 unfold Lj at h
 split at h
 rotate_left
 ·exact h.elim
 rename_i h1
 split at h
 rotate_left
 ·exact h.elim
 rename_i h2
 split at h
 rotate_left
 ·exact h.elim
 rename_i z' hz
 obtain ⟨⟨rfl,rfl,rfl,rfl,rfl⟩,⟨rfl,rfl,rfl,rfl⟩,h3⟩:=h
 obtain ⟨e1,e2⟩:=cn hz
 subst e1
 dsimp only at e2
 subst e2
 obtain ⟨hp,rfl⟩:=fK h3
 exact ⟨_,rfl,h1,h2,hp⟩
def NK (y0 y4 yR:Loc):Env:=fun i=>match i with
 |0=>y0
 |1=>y4
 |2=>yR
 |_=> {}
theorem rj {d:Au} {L:List d.tv.T} {T:List d.tb.T} {u v q a b:Value} {ρ:Env} {n:Nat} {o:aF} (h:aj (oO d L T u v q a b ρ) n=some o):
  (n=0/\ o= .cells (Dq (.full 1) (.full 2) u v q a b) d.eC)\/ (n=1/\ o= .row d.tv L 0)\/ (n=2/\ o= .row d.tb T 2)\/ (n=3/\ o= .dO ρ 3):=by
 have h:=nJ h
 match n,h with
 |0,h=>exact .inl ⟨rfl,by cases h;rfl⟩
 |1,h=>exact .inr (.inl ⟨rfl,by cases h;rfl⟩)
 |2,h=>exact .inr (.inr (.inl ⟨rfl,by cases h;rfl⟩))
 |3,h=>exact .inr (.inr (.inr ⟨rfl,by cases h;rfl⟩))
 |n+4,h=>simp [oO] at h
section
variable {ay:iT} {W:World} {ρ:Env} {Kn:Nat->Prop} {Γ:HP} {w:World}
theorem HD {ρ ρ':Env} {cL cT cL' cT':Cell} (h1:cL'.af ρ'=cL.af ρ) (h2:cT'.af ρ'=cT.af ρ) (u v q a b:Value):(Dq cL' cT' u v q a b).map (Cell.af ρ')=(Dq cL cT u v q a b).map (Cell.af ρ):=by
 simp only [Dq,List.map_cons,List.map_nil,h1,h2];rfl
theorem St.Wl {d:Au} {L:List d.tv.T} {T:List d.tb.T} {u v q a b:Value} {n:Nat} {rr:List Nat} {cL cT:Cell} {y4 yR:Loc} (h:St ay W ρ Kn Γ w)
  (hC:Γ n=some (.cells (Dq cL cT u v q a b) d.eC)) (hr: ∀r∈rr,(Γ r).isSome=true) (ke:(n::rr).Nodup)
  (h4:cV (fun b=>aZ w b/\ ¬As ρ (n::rr) b) w (.row d.tv L 0) y4)
  (Z0:cL.af ρ= .slice y4.base y4.len y4.cap) (hcT:cT.af ρ= .slice yR.base yR.len yR.cap)
  (hrow:bg (dQ ρ Γ w) (p7 ay W) (fun _=>yR) 2 (.row d.tb T 2) w) (hyb: ∀b,yR.has b-> ∃r∈rr,(ρ r).has b) (hye:yR.ik= []):
  St {wr:=As ρ (n::rr),nw:=fun b=>dQ ρ Γ w b/\ p7 ay W b} w (NK (ρ n) y4 yR) (· <4) (aj (oO d L T u v q a b (NK (ρ n) y4 yR))) w:=by
 obtain ⟨b8,gH⟩: ∃b8,b8=NK (ρ n) y4 yR:=⟨_,rfl⟩
 rw [<- gH]
 have e0:b8 0=ρ n:=by rw [gH];rfl
 have e4:b8 1=y4:=by rw [gH];rfl
 have e2:b8 2=yR:=by rw [gH];rfl
 have e6:(b8 3).bW=Option.none/\ (b8 3).ik= []:=by rw [gH];exact ⟨rfl,rfl⟩
 have qt: ∀m∈(n::rr),(Γ m).isSome=true:=fun m hm=>by
  rcases List.mem_cons.1 hm with rfl|hm
  ·rw [hC];rfl
  ·exact hr m hm
 have dU: ∀m b',(aj (oO d L T u v q a b b8) m).isSome=true->(b8 m).has b'->(m=0/\ (ρ n).has b')\/ (m=2/\ ∃r∈rr,(ρ r).has b'):=fun m b' hs hb=>by
  obtain ⟨o,ho⟩:=Option.isSome_iff_exists.1 hs
  rcases rj ho with ⟨rfl,_⟩|⟨rfl,_⟩|⟨rfl,_⟩|⟨rfl,_⟩
  ·rw [e0] at hb;exact .inl ⟨rfl,hb⟩
  ·rw [e4] at hb;exact (mS h4.2.1 hb).elim
  ·rw [e2] at hb;exact .inr ⟨rfl,hyb b' hb⟩
  ·exact (mS e6 hb).elim
 have Zd: ∀m b',(aj (oO d L T u v q a b b8) m).isSome=true->(b8 m).has b'->As ρ (n::rr) b':=fun m b' hs hb=>by
  rcases dU m b' hs hb with ⟨_,k⟩|⟨_,r,k1,k2⟩
  ·exact ⟨n,by simp,k⟩
  ·exact ⟨r,by simp [k1],k2⟩
 have yK: ∀b',¬HI (aj (oO d L T u v q a b b8)) b':=fun b' ⟨m,S,k,_⟩=>by
  rcases rj k with ⟨_,e⟩|⟨_,e⟩|⟨_,e⟩|⟨_,e⟩<;>cases e
 have N3: ∀b',(aZ w b'/\ ¬As ρ (n::rr) b')->dQ b8 (aj (oO d L T u v q a b b8)) w b':=fun b' hb=>⟨hb.1,by
  rintro (⟨m,k1,k2⟩|k)
  ·exact hb.2 (Zd m b' k1 k2)
  ·exact yK b' k⟩
 have hfz: ∀b',dQ ρ Γ w b'->dQ b8 (aj (oO d L T u v q a b b8)) w b':=fun b' hb=>N3 b' ⟨hb.1,fun ⟨m,k1,k2⟩=>hb.2 (.inl ⟨m,qt m k1,k2⟩)⟩
 simp only [List.nodup_cons] at ke
 refine ⟨Fr.refl _ _,fun m o ho=> ?_,fun m o ho=> ?_,fun m m' b' lI Bm fQ fc=> ?_,fun m b' lI fQ=> .inr (Zd m b' lI fQ),fun b' hb=>absurd hb (yK b'),fun m o ho=> ?_⟩
 rotate_right
 ·rcases rj ho with ⟨rfl,rfl⟩|⟨rfl,rfl⟩|⟨rfl,rfl⟩|⟨rfl,rfl⟩
  ·exact .inr (by rw [e0];exact (h.s8 _ _ hC).elim (fun ⟨_,e⟩=>by cases e) id)
  ·exact .inr (by rw [e4];exact h4.2.1.2)
  ·exact .inr (by rw [e2];exact hye)
  ·exact .inr e6.2
 ·rcases rj ho with ⟨rfl,rfl⟩|⟨rfl,rfl⟩|⟨rfl,rfl⟩|⟨rfl,rfl⟩
  ·obtain ⟨b1,g1,g2⟩:=h.at_ n _ hC
   refine ⟨b1,by rw [e0];exact g1,?_⟩
   rw [g2,HD (ρ:=ρ) (ρ':=b8) (cL:=cL) (cT:=cT) (by rw [Z0];simp [Cell.af,e4]) (by rw [hcT];simp [Cell.af,e2])]
  ·exact q9 (by rw [e4];exact h4) N3
  ·obtain ⟨g1,g2,g3,sub,g4,g5,g6,g7⟩:=hrow
   rw [bg,e2]
   exact ⟨g1,g2,g3,sub,fun i v hv=>by
    obtain ⟨a,k1,k2,_⟩:=g4 i v hv
    exact ⟨a,k1,k2,fun h=>by cases h⟩,fun q u' l' hq=>(g5 q u' l' hq).weak fun b hb=>⟨hfz b hb.1,fun _=>⟨.inr (.inr ⟨hb.1,(hb.2 rfl).1⟩),(hb.2 rfl).2⟩⟩,fun h=>(by cases h),g7⟩
  ·exact ⟨e6.1,fun m _=>rfl⟩
 ·rcases rj ho with ⟨rfl,rfl⟩|⟨rfl,rfl⟩|⟨rfl,rfl⟩|⟨rfl,rfl⟩
  ·refine ⟨by decide,fun c hc=> ?_⟩
   simp only [Dq,List.mem_cons,List.not_mem_nil,or_false] at hc
   rcases hc with rfl|rfl|rfl|rfl|rfl|rfl|rfl<;>first|trivial|(show _<4;decide)
  ·exact ⟨by decide,trivial⟩
  ·exact ⟨by decide,trivial⟩
  ·exact ⟨by decide,fun m hm=>by omega⟩
 ·have hmem: ∀r,r∈rr→(ρ n).has b'→(ρ r).has b'→n∈rr:=fun r hr' k k'=>by
   have:=h.dV n r b' (qt n (by simp)) (hr r hr') k k'
   rw [this];exact hr'
  rcases dU m b' lI fQ with ⟨rfl,k⟩|⟨rfl,r,k1,k⟩
  ·rcases dU m' b' Bm fc with ⟨rfl,k'⟩|⟨rfl,r',Uo,k'⟩
   ·rfl
   ·exact absurd (hmem r' Uo k k') ke.1
  ·rcases dU m' b' Bm fc with ⟨rfl,k'⟩|⟨rfl,r',Uo,k'⟩
   ·exact absurd (hmem r k1 k' k) ke.1
   ·rfl
theorem St.aaE {d:Au} {n:Nat} {rr:List Nat} {cL cT:Cell} {u v u' v' q a b a' b':Value} {val:AV} {bh:Env} {Kn1:Nat->Prop} {Py:HP} {w':World} {nm m:Nat} {z:List d.tb.T} {tc:List Nat} (h:St ay W ρ Kn Γ w)
  (hC:Γ n=some (.cells (Dq cL cT u v q a b) d.eC)) (hr: ∀r∈rr,(Γ r).isSome=true) (ke:(n::rr).Nodup) (hn: ¬Kn nm)
  (h1:St {wr:=As ρ (n::rr),nw:=fun b=>dQ ρ Γ w b/\ p7 ay W b} w bh Kn1 Py w')
  (k1:Py 0=some (.cells (Dq (.full 1) (.full m) u' v' q a' b') d.eC)) (km:Py m=some (.row d.tb z 2)) (e1:bh 0=ρ n) (e4:Cell.af bh (.full 1)=cL.af ρ):
  ∃ρ',(∀m,Kn m->ρ' m=ρ m)/\ ρ' nm=bh m/\ St ay W ρ' (lK Kn nm {val:=val,fresh:= [.row d.tb z 2],writes:=(n,.cells (Dq cL (.full nm) u' v' q a' b') d.eC)::rr.map fun r=>(r,aF.gone),aD:=tc})
   (bX {val:=val,fresh:= [.row d.tb z 2],writes:=(n,.cells (Dq cL (.full nm) u' v' q a' b') d.eC)::rr.map fun r=>(r,aF.gone),aD:=tc} nm Γ) w':=by
 obtain ⟨r,zL⟩: ∃r:Rec,r= {val:=val,fresh:= [.row d.tb z 2],writes:=(n,.cells (Dq cL (.full nm) u' v' q a' b') d.eC)::rr.map fun r=>(r,aF.gone),aD:=tc} :=⟨_,rfl⟩
 rw [<- zL]
 simp only [List.nodup_cons] at ke
 have d3:=ke.1
 have qt: ∀m∈(n::rr),(Γ m).isSome=true:=fun m hm=>by
  rcases List.mem_cons.1 hm with rfl|hm
  ·rw [hC];rfl
  ·exact hr m hm
 have hkn: ∀n,(Γ n).isSome=true->Kn n:=fun n hs=>by obtain ⟨o,ho⟩:=Option.isSome_iff_exists.1 hs;exact (h.kn n o ho).1
 have hold: ∀x,Kn x->bq ρ nm (bh m) x=ρ x:=ie hn
 have jb:bq ρ nm (bh m) nm=bh m:=by simp [bq]
 have bN: ∀x p,bX r nm Γ x=some p->(x=nm/\ p= .row d.tb z 2)\/ (x≠nm/\ x=n/\ p= .cells (Dq cL (.full nm) u' v' q a' b') d.eC)\/ (x≠nm/\ x≠n/\ x∉rr/\ Γ x=some p):=fun x p hp=>by
  rw [zL] at hp
  exact DW rfl rfl d3 hp
 have hsz:=h.fr.size
 have N6:=h1.fr.size
 have hlt: ∀n o b,Γ n=some o->(ρ n).has b->b<w.heap.size:=fun n o b ho hb=>h.lt n b (by rw [ho];rfl) hb
 have QX: ∀b,As ρ (n::rr) b->b<w.heap.size/\ (W.heap.size<=b\/ ay b):=fun b ⟨n,n1,n2⟩=>by
  obtain ⟨o,ho⟩:=Option.isSome_iff_exists.1 (qt n n1)
  exact ⟨hlt n o b ho n2,h.kq n b (qt n n1) n2⟩
 have hfw: ∀b,dQ ρ Γ w b-> ¬As ρ (n::rr) b:=fun b hb ⟨n,n1,n2⟩=>hb.2 (.inl ⟨n,qt n n1,n2⟩)
 have hun: ∀b,b<w.heap.size-> ¬As ρ (n::rr) b->w'.heap[b]? =w.heap[b]? :=fun b hb hq=>h1.fr.block b hb hq
 have hmb: ∀b,(bh m).has b->w.heap.size<=b\/ ∃q∈rr,(ρ q).has b:=fun b hb=>by
  rcases h1.kq m b (by rw [km];rfl) hb with h2|⟨n',n1,n2⟩
  ·exact .inl h2
  ·rcases List.mem_cons.1 n1 with rfl|n1
   ·have:=h1.dV m 0 b (by rw [km];rfl) (by rw [k1];rfl) hb (by rw [e1];exact n2)
    rw [this,k1] at km;cases km
   ·exact .inr ⟨n',n1,n2⟩
 have hlo: ∀x b,(bX r nm Γ x).isSome=true->(bq ρ nm (bh m) x).has b->(x=nm/\ (bh m).has b)\/ (x≠nm/\ x∉rr/\ (Γ x).isSome=true/\ (ρ x).has b):=fun x b hs hb=>by
  obtain ⟨p,hp⟩:=Option.isSome_iff_exists.1 hs
  rcases bN x p hp with ⟨rfl,_⟩|⟨h2,rfl,_⟩|⟨h2,_,h3,h4⟩
  ·rw [jb] at hb;exact .inl ⟨rfl,hb⟩
  ·rw [hold _ (hkn _ (qt _ (by simp)))] at hb
   exact .inr ⟨h2,d3,qt _ (by simp),hb⟩
  ·have hs':(Γ x).isSome=true:=by rw [h4];rfl
   rw [hold _ (hkn _ hs')] at hb
   exact .inr ⟨h2,h3,hs',hb⟩
 have sV: ∀b,HI (bX r nm Γ) b->HI Γ b:=fun b ⟨x,S,h2,h3⟩=>by
  rcases bN x _ h2 with ⟨_,e⟩|⟨_,_,e⟩|⟨_,_,_,e⟩
  ·cases e
  ·cases e
  ·exact ⟨x,S,e,h3⟩
 have hfz: ∀b,dQ ρ Γ w b->dQ (bq ρ nm (bh m)) (bX r nm Γ) w' b/\ w'.heap[b]? =w.heap[b]? :=fun b hb=>by
  have e:=hun b hb.1.lt (hfw b hb)
  refine ⟨⟨hb.1.same e,?_⟩,e⟩
  rintro (⟨x,h2,h3⟩|h2)
  ·rcases hlo x b h2 h3 with ⟨_,h4⟩|⟨_,_,h4,h5⟩
   ·rcases hmb b h4 with h5|⟨q,h5,h6⟩
    ·have:=hb.1.lt;omega
    ·exact hb.2 (.inl ⟨q,hr q h5,h6⟩)
   ·exact hb.2 (.inl ⟨x,h4,h5⟩)
  ·exact hb.2 (.inr (sV b h2))
 have QM: ∀b,dQ bh Py w' b->p7 {wr:=As ρ (n::rr),nw:=fun b=>dQ ρ Γ w b/\ p7 ay W b} w b->dQ (bq ρ nm (bh m)) (bX r nm Γ) w' b/\ p7 ay W b:=fun b hb hp=>by
  rcases hp with hp|hp|hp
  ·refine ⟨⟨hb.1,?_⟩,.inl (by omega)⟩
   rintro (⟨x,h2,h3⟩|h2)
   ·rcases hlo x b h2 h3 with ⟨_,h4⟩|⟨_,_,h4,h5⟩
    ·exact hb.2 (.inl ⟨m,by rw [km];rfl,h4⟩)
    ·obtain ⟨o,ho⟩:=Option.isSome_iff_exists.1 h4
     have:=hlt x o b ho h5;omega
   ·have:=(h.sW b (sV b h2)).1;omega
  ·have fA:As ρ (n::rr) b:=hp
   obtain ⟨hl,ho⟩:=QX b fA
   obtain ⟨n',n1,n2⟩:=fA
   refine ⟨⟨hb.1,?_⟩,ho.imp_right .inl⟩
   have hin:n'∈rr:=by
    rcases List.mem_cons.1 n1 with rfl|n1
    ·exact absurd (.inl ⟨0,by rw [k1];rfl,by rw [e1];exact n2⟩) hb.2
    ·exact n1
   rintro (⟨x,h2,h3⟩|h2)
   ·rcases hlo x b h2 h3 with ⟨_,h4⟩|⟨_,h4,h5,h6⟩
    ·exact hb.2 (.inl ⟨m,by rw [km];rfl,h4⟩)
    ·have:=h.dV n' x b (hr n' hin) h5 n2 h6
     exact h4 (this▸hin)
   ·exact (h.sW b (sV b h2)).2 ⟨n',hr n' hin,n2⟩
  ·have fA:dQ ρ Γ w b∧p7 ay W b:=hp
   exact ⟨(hfz b fA.1).1,fA.2⟩
 have kr:lK Kn nm r=Dj Kn nm:=by
  rw [zL]
  funext x
  simp only [lK,Dj,List.length_singleton]
  congr 1
  apply propext
  omega
 have Z0:cL.ok Kn:=(h.kn n _ hC).2 cL (by simp [Dq])
 rw [kr]
 refine ⟨bq ρ nm (bh m),hold,jb,⟨?_,fun x p hp=> ?_,fun x p hp=> ?_,fun x y b hx hy fQ fc=> ?_,fun x b hx hb=> ?_,fun b hh=> ?_,fun x p hp=> ?_⟩⟩
 rotate_right
 ·rcases bN x p hp with ⟨rfl,rfl⟩|⟨h2,rfl,rfl⟩|⟨h2,h3,h4,h5⟩
  ·exact .inr (by rw [jb];exact (h1.s8 m _ km).elim (fun ⟨_,e⟩=>by cases e) id)
  ·exact .inr (by rw [hold _ (hkn _ (qt _ (by simp)))];exact (h.s8 _ _ hC).elim (fun ⟨_,e⟩=>by cases e) id)
  ·rw [hold x (h.kn x p h5).1];exact h.s8 x p h5
 ·refine ⟨h1.fr.os.trans h.fr.os,h1.fr.tape.trans h.fr.tape,h1.fr.output.trans h.fr.output,Nat.le_trans hsz N6,fun k hk hnb=> ?_,Nat.le_trans h.fr.HR h1.fr.HR⟩
  rw [hun k (by omega) fun hq=>(QX k hq).2.elim (fun h=>by omega) hnb]
  exact h.fr.block k hk hnb
 ·rcases bN x p hp with ⟨rfl,rfl⟩|⟨h2,rfl,rfl⟩|⟨h2,h3,h4,h5⟩
  ·obtain ⟨g1,g2,g3,sub,g4,g5,g6,g7⟩:=h1.at_ m _ km
   rw [bg,jb]
   exact ⟨g1,g2,g3,sub,fun i v hv=>by
    obtain ⟨a,q1,q2,_⟩:=g4 i v hv
    exact ⟨a,q1,q2,fun h=>by cases h⟩,fun q u' l' hq=>(g5 q u' l' hq).weak fun b hb=>by
     obtain ⟨q1,q2⟩:=QM b hb.1 (hb.2 rfl).1
     exact ⟨q1,fun _=>⟨q2,(hb.2 rfl).2⟩⟩,fun h=>(by cases h),g7⟩
  ·obtain ⟨b1,g1,g2⟩:=h1.at_ 0 _ k1
   refine ⟨b1,by rw [hold _ (hkn _ (qt _ (by simp))),<- e1];exact g1,?_⟩
   rw [g2,HD (ρ:=bq ρ nm (bh m)) (ρ':=bh) (cL:=cL) (cT:= .full nm) (by rw [e4];exact (Cell.bH hold cL Z0).symm) (by simp [Cell.af,jb])]
  ·have hk:=h.kn x p h5
   refine cm (h.at_ x p h5) hold hk.1 hk.2 hfz (fun _ _ h=>h) fun b hb=>hun b (hlt x p b h5 hb) ?_
   rintro ⟨n',n1,n2⟩
   have:=h.dV x n' b (by rw [h5];rfl) (qt n' n1) hb n2
   subst this
   rcases List.mem_cons.1 n1 with e|e
   ·exact h3 e
   ·exact h4 e
 ·rcases bN x p hp with ⟨rfl,rfl⟩|⟨h2,rfl,rfl⟩|⟨h2,h3,h4,h5⟩
  ·exact ⟨.inr rfl,trivial⟩
  ·refine ⟨.inl (hkn _ (qt _ (by simp))),fun c hc=> ?_⟩
   simp only [Dq,List.mem_cons,List.not_mem_nil,or_false] at hc
   rcases hc with rfl|rfl|rfl|rfl|rfl|rfl|rfl<;>first|trivial|exact .inr rfl|exact Cell.aT (fun _=> .inl) _ Z0
  ·exact ⟨.inl (h.kn x p h5).1,aF.aT (fun _=> .inl) p (h.kn x p h5).2⟩
 ·rcases hlo x b hx fQ with ⟨rfl,h2⟩|⟨h2,h3,h4,h5⟩
  ·rcases hlo y b hy fc with ⟨rfl,_⟩|⟨q2,q3,q4,q5⟩
   ·rfl
   ·rcases hmb b h2 with h6|⟨q,h6,h7⟩
    ·obtain ⟨o,ho⟩:=Option.isSome_iff_exists.1 q4
     have:=hlt y o b ho q5;omega
    ·have:=h.dV q y b (hr q h6) q4 h7 q5
     exact absurd (this▸h6) q3
  ·rcases hlo y b hy fc with ⟨rfl,q2⟩|⟨q2,q3,q4,q5⟩
   ·rcases hmb b q2 with h6|⟨q,h6,h7⟩
    ·obtain ⟨o,ho⟩:=Option.isSome_iff_exists.1 h4
     have:=hlt x o b ho h5;omega
    ·have:=h.dV q x b (hr q h6) h4 h7 h5
     exact absurd (this▸h6) h3
   ·exact h.dV x y b h4 q4 h5 q5
 ·rcases hlo x b hx hb with ⟨rfl,h2⟩|⟨_,_,h4,h5⟩
  ·rcases hmb b h2 with h6|⟨q,h6,h7⟩
   ·exact .inl (by omega)
   ·exact h.kq q b (hr q h6) h7
  ·exact h.kq x b h4 h5
 ·obtain ⟨h2,h3⟩:=h.sW b (sV b hh)
  refine ⟨by omega,?_⟩
  rintro ⟨x,q1,q2⟩
  rcases hlo x b q1 q2 with ⟨_,h4⟩|⟨_,_,h4,h5⟩
  ·rcases hmb b h4 with h6|⟨q,h6,h7⟩
   ·omega
   ·exact h3 ⟨q,hr q h6,h7⟩
  ·exact h3 ⟨x,h4,h5⟩
variable {P:Program} {tt:List (Nat×TI)} {specs:List (Nat×Spec)}
theorem vf.P5 (hT:aO P tt) (hS:ah P specs) (hm:P.follows .mixedOrders=true) {f:FuncId} {fn:Func} (hf:P.funcs[f]? =some fn) (hn:ff (ids (cj fn))=true) {d:Au}
  {dR:List (Nat×eV)} (hi:aA P lQ dR) {X:Addr->Value->Prop} {hp:HP} {nm n:Nat} {cL cT:Cell} {u v q a b a' b':Value} {T z:List d.tb.T} {L:List d.tv.T} {rr tc:List Nat} {ex:List AV} {val:Nat->AV}
  (XZ:hp n=some (.cells (Dq cL cT u v q a b) d.eC)) (JW:Cs hp d.tb cT=some (T,rr)) (Ee:iG hp (.one (.sl d.tv)) [.v (.one cL)]=some (L,[],tc,true)) (ke:gW (n::rr)=true) (Ef:vp tc (n::rr)=true)
  (hex: ∀x∈ex,(∀ρ ρ',x.af ρ=x.af ρ')/\ ∀Kn,x.ok Kn) (hval:(∀m m' ρ ρ',ρ m=ρ' m'->(val m).af ρ=(val m').af ρ')/\ ∀m (Kn:Nat->Prop),Kn m->(val m).ok Kn)
  (hfn: ∀b8,H6 ⟨tt,specs,lQ,[],[],dR⟩ fn (.v (.one (.ptr 0 0))::ex) (oO d L T u v q a b b8) (Lj d b8 q a' b' val z)):
  vf P f X (.v (.one (.ptr n 0))::ex) hp nm {val:=val nm,fresh:= [.row d.tb z 2],writes:=(n,.cells (Dq cL (.full nm) (.int .u32 1) (.int .i32 0) q a' b') d.eC)::rr.map fun r=>(r,.gone),aD:=(n::rr)++tc} :=by
 have ke:=fD ke
 have Ef:=sK Ef
 obtain ⟨Y8,QU⟩:=Ct JW
 refine ⟨fun p fA=> ?_,?_⟩
 ·rcases List.mem_cons.1 fA with rfl|fA
  ·rw [XZ];exact fun h=>by cases h
  ·obtain ⟨q,hq,rfl⟩:=List.mem_map.1 fA
   have:=Y8 q hq
   intro h
   dsimp only at h
   rw [h] at this;cases this
 intro ay W ρ Kn Γ w _ _ ht hfr hst
 have hin: ∀m∈(n::rr),Γ m=hp m:=fun m hn=>ht m (List.mem_append.2 (.inl hn))
 have W6:Γ n=some (.cells (Dq cL cT u v q a b) d.eC):=by rw [hin n (by simp)];exact XZ
 have N5: ∀r∈rr,(Γ r).isSome=true:=fun r hr=>by rw [hin r (by simp [hr])];exact Y8 r hr
 have qt: ∀m∈(n::rr),(Γ m).isSome=true:=fun m hm=>by
  rcases List.mem_cons.1 hm with rfl|hm
  ·rw [W6];rfl
  ·exact N5 m hm
 have hok:lX (fun b=>aZ w b/\ ¬As ρ (n::rr) b) ρ Γ w tc:=by
  refine ⟨fun b hb=>⟨hb.1,fun ⟨n,n1,n2⟩=>hb.2 (.inl ⟨n,qt n n1,n2⟩)⟩,fun m hm hs b hb hc=>⟨hc,fun ⟨n',n1,n2⟩=> ?_⟩⟩
  have:=hst.dV m n' b hs (qt n' n1) hb n2
  exact Ef m hm (this▸n1)
 obtain ⟨y4,g4,c4⟩:=yb Ee (fun m hm=>ht m (List.mem_append.2 (.inr hm))) hst hok
 obtain ⟨yR,cR,gR,eR,bR⟩:=QU hst fun r hr=>hin r (by simp [hr])
 have c4:cL.af ρ= .slice y4.base y4.len y4.cap:=c4
 have hb:=St.Wl (d:=d) (L:=L) (T:=T) hst W6 N5 ke g4 c4 cR gR bR eR
 obtain ⟨b8,gH⟩: ∃b8,b8=NK (ρ n) y4 yR:=⟨_,rfl⟩
 rw [<- gH] at hb
 have key:=ij (ctx:=⟨tt,specs,lQ,[],[],dR⟩) hT ⟨hS,vh.nil P,hi⟩ (lQ.ok _ w) hm hf (fun c hc=>by
  have:cj fn=c:=by unfold cj;rw [hc]
  subst this
  exact sY (eJ hn) aB.nil) (hfn b8) (fun y hy=>by
   rcases List.mem_cons.1 hy with rfl|hy
   ·show 0<4;decide
   ·exact (hex y hy).2 _) hb
 have ea:(AV.v (.one (.ptr 0 0))::ex).map (AV.af b8)=(AV.v (.one (.ptr n 0))::ex).map (AV.af ρ):=by
  simp only [List.map_cons]
  rw [List.map_congr_left fun x hx=>(hex x hx).1 b8 ρ]
  congr 1
  simp only [AV.af,A0.af,Cell.af,addrOf,gH,NK]
 rw [ea] at key
 refine key.mono ?_
 rintro e w' ⟨st,bh,v',rfl,hv,hR,rA⟩
 obtain ⟨m,rfl,k1,km,Bn⟩:=O3 hR
 have hpe:=(rA.at_ _ _ Bn).2
 have e1:bh 0=ρ n:=by rw [hpe 0 (by decide),gH];rfl
 have e4:Cell.af bh (.full 1)=cL.af ρ:=by
  rw [c4]
  simp only [Cell.af,hpe 1 (by decide),gH,NK]
 obtain ⟨ρ',r1,r3,r2⟩:=St.aaE (nm:=nm) (tc:=(n::rr)++tc) (val:=val nm) hst W6 N5 ke (hfr 0 (by simp)) rA k1 km e1 e4
 exact ⟨ρ',by rw [hval.1 m nm bh ρ' r3.symm],r1,hval.2 _ _ (.inr ⟨Nat.le_refl _,by simp⟩),r2⟩
theorem ak.fnC (hT:aO P tt) (hS:ah P specs) (hm:P.follows .mixedOrders=true) {f:FuncId} {fn:Func} (hf:P.funcs[f]? =some fn) (hn:ff (ids (cj fn))=true) {d:Au}
  {dR:List (Nat×eV)} (hi:aA P lQ dR)
  (hfn: ∀(L:List d.tv.T) (T:List d.tb.T) (dn:Int) (q a b:Value) (b8:Env),(dn=0\/ dn=1)->jV dn (d.pre L)->H6 ⟨tt,specs,lQ,[],[],dR⟩ fn [.v (.one (.ptr 0 0))] (oO d L T (.int .u32 dn) (.int .i32 0) q a b b8) (Lj d b8 q a b (fun m=> .v (.one (.full m))) (c5 dn (d.qI L) T))):ak P f (zQ d):=by
 intro X args hp nm k hs
 unfold zQ at hs
 split at hs
 rotate_left
 ·exact hs.elim
 rename_i n
 split at hs
 rotate_left
 ·exact hs.elim
 rename_i cL dn s q cT a b e XZ
 split at hs
 rotate_left
 ·exact hs.elim
 rename_i T rr L tc b0 JW Ee
 split at hs
 rotate_left
 ·exact hs.elim
 rename_i hc
 simp only [Bool.and_eq_true,decide_eq_true_eq] at hc
 obtain ⟨⟨rfl,ke⟩,Ef⟩:=hc
 obtain ⟨hb,hpre,hk⟩:=br hs
 simp only [Bool.and_eq_true,decide_eq_true_eq,Bool.or_eq_true] at hb
 obtain ⟨⟨rfl,rfl⟩,hdn⟩:=hb
 exact ⟨_,vf.P5 (val:=fun m=> .v (.one (.full m))) hT hS hm hf hn hi XZ JW Ee ke Ef (fun x hx=>by cases hx) ⟨fun m m' ρ ρ' h=>by simp only [AV.af,A0.af,Cell.af,h],fun m Kn h=>h⟩ fun b8=>hfn L T dn q a b b8 hdn hpre,hk _ rfl⟩
def XB (p:Int×(Int×Int)):AV:= .v (.agg [.raw (.int .i64 p.1),.raw (.int .i64 p.2.1),.raw (.int .i64 p.2.2)])
abbrev Tm:Type:=Int×(Int×Int)
structure Wd where
 base:Au
 wh:List base.tv.T->List base.tb.T->Tm×Tm->Prop
 ask:List base.tv.T->List base.tb.T->Tm×Tm->Bool×(Int×Int)
def dB (z:Bool×(Int×Int)) (a n:Int):Int:=if z.2.2=0 then IntKind.wrap .i64 (a+n) else a
def FQ (d:Wd):Spec:=fun _ args hp nm k=>match args with
 | [.v (.one (.ptr n 0)),.v (.agg [.raw (.int .i64 p0),.raw (.int .i64 p1),.raw (.int .i64 p2)]),.v (.agg [.raw (.int .i64 q0),.raw (.int .i64 q1),.raw (.int .i64 q2)])]=>match hp n with
  |some (.cells [cL,.raw (.int .u32 dn),.raw (.int .i32 s),.raw q,cT,.raw (.int .i64 a),.raw (.int .i64 b)] e)=>match Cs hp d.base.tb cT,iG hp (.one (.sl d.base.tv)) [.v (.one cL)] with
   | some (T,rr),some (L,[],tc,b0)=>if decide (e=d.base.eC)&&gW (n::rr)&&vp tc (n::rr) then
     ob (b0&&decide (s=0)&&(decide (dn=0)||decide (dn=1))) (jV dn (d.base.pre L)/\ ∀y,y=c5 dn (d.base.qI L) T->d.wh L y ((p0,(p1,p2)),(q0,(q1,q2)))/\ ∀z,z=d.ask L y ((p0,(p1,p2)),(q0,(q1,q2)))->True/\ ∀a',a'=dB z a 1->True/\ ∀b',b'=dB z b z.2.1->
      k {val:= .oG [.one (.raw (.bool z.1)),.one (.raw (.int .i64 z.2.2))],fresh:= [.row d.base.tb y 2],writes:=(n,.cells (Dq cL (.full nm) (.int .u32 1) (.int .i32 0) q (.int .i64 a') (.int .i64 b')) d.base.eC)::rr.map fun r=>(r,.gone),aD:=(n::rr)++tc}) else False
   |_,_=>False
  |_=>False
 |_=>False
theorem ak.fnD (hT:aO P tt) (hS:ah P specs) (hm:P.follows .mixedOrders=true) {f:FuncId} {fn:Func} (hf:P.funcs[f]? =some fn) (hn:ff (ids (cj fn))=true) {d:Wd}
  (hfn: ∀(L:List d.base.tv.T) (T:List d.base.tb.T) (dn:Int) (q:Value) (a b:Int) (x:Tm×Tm) (b8:Env),(dn=0\/ dn=1)->jV dn (d.base.pre L)->d.wh L (c5 dn (d.base.qI L) T) x->H6 ⟨tt,specs,lQ,[],[],[]⟩ fn [.v (.one (.ptr 0 0)),XB x.1,XB x.2] (oO d.base L T (.int .u32 dn) (.int .i32 0) q (.int .i64 a) (.int .i64 b) b8)
   (Lj d.base b8 q (.int .i64 (dB (d.ask L (c5 dn (d.base.qI L) T) x) a 1)) (.int .i64 (dB (d.ask L (c5 dn (d.base.qI L) T) x) b (d.ask L (c5 dn (d.base.qI L) T) x).2.1)) (fun _=> .oG [.one (.raw (.bool (d.ask L (c5 dn (d.base.qI L) T) x).1)),.one (.raw (.int .i64 (d.ask L (c5 dn (d.base.qI L) T) x).2.2))]) (c5 dn (d.base.qI L) T))):ak P f (FQ d):=by
 intro X args hp nm k hs
 unfold FQ at hs
 split at hs
 rotate_left
 ·exact hs.elim
 rename_i n p0 p1 p2 q0 q1 q2
 split at hs
 rotate_left
 ·exact hs.elim
 rename_i cL dn s q cT a b e XZ
 split at hs
 rotate_left
 ·exact hs.elim
 rename_i T rr L tc b0 JW Ee
 split at hs
 rotate_left
 ·exact hs.elim
 rename_i hc
 simp only [Bool.and_eq_true,decide_eq_true_eq] at hc
 obtain ⟨⟨rfl,ke⟩,Ef⟩:=hc
 obtain ⟨hb,hpre,hk⟩:=br hs
 simp only [Bool.and_eq_true,decide_eq_true_eq,Bool.or_eq_true] at hb
 obtain ⟨⟨rfl,rfl⟩,hdn⟩:=hb
 obtain ⟨hp2,hk⟩:=hk _ rfl
 have hk:=((hk _ rfl).2 _ rfl).2 _ rfl
 have hpt: ∀p:Tm,(∀ρ ρ',(XB p).af ρ=(XB p).af ρ')/\ ∀Kn,(XB p).ok Kn:=fun p=>⟨fun _ _=>rfl,fun Kn c hc=>by
  simp only [List.mem_cons,List.not_mem_nil,or_false] at hc
  rcases hc with rfl|rfl|rfl<;>trivial⟩
 exact ⟨_,vf.P5 (d:=d.base) (val:=fun _=> .oG _) hT hS hm hf hn (aA.nil _ _) XZ JW Ee ke Ef (fun x hx=>by
  rcases List.mem_cons.1 hx with rfl|hx
  ·exact hpt (p0,(p1,p2))
  ·rw [List.mem_singleton] at hx
   subst hx
   exact hpt (q0,(q1,q2))) ⟨fun _ _ _ _ _=>rfl,fun _ _ _ x hx=>by
    simp only [List.mem_cons,List.not_mem_nil,or_false] at hx
    rcases hx with rfl|rfl<;>trivial⟩ fun b8=>hfn L T dn q a b ((p0,(p1,p2)),(q0,(q1,q2))) b8 hdn hpre hp2,hk⟩
end
end Go.Ev
