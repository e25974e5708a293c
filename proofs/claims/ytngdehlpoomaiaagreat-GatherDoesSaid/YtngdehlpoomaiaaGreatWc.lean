/- A variable that holds two rows, one of which is built when it is asked for first: the contract's ends. -/
import Derived.Test.YtngdehlpoomaiaaGreatEvU
import Derived.Test.YtngdehlpoomaiaaGreatWb
noncomputable section
set_option linter.unusedSectionVars false
set_option linter.unusedVariables false
set_option linter.unusedSimpArgs false
namespace Go.Ev
open Go.RowKit
structure wT where
 tv:Ty
 tb:Ty
 eC:TypeId
 pre:List tv.T->Prop
 YO:List tv.T->List tb.T
def AU (cL cT:Cell) (u v q a b:Value):List Cell:= [cL,.raw u,.raw v,.raw q,cT,.raw a,.raw b]
def tW (d:wT) (L:List d.tv.T) (T:List d.tb.T) (u v q a b:Value) (ρ:Env):List aD:= [.cells (AU (.full 1) (.full 2) u v q a b) d.eC,.row d.tv L 0,.row d.tb T 2,.cg ρ 3]
def HL (n:Int) (p:Prop):Prop:=n=0->p
def o7 {α:Type} (n:Int) (x y:α):α:=if n=0 then x else y
def Jx (d:wT):Spec:=fun _ args hp nm k=>match args with
 | [.v (.one (.ptr n 0))]=>match hp n with
  |some (.cells [cL,.raw (.int .u32 dn),.raw (.int .i32 s),.raw q,cT,.raw a,.raw b] e)=>match yN hp d.tb cT,fJ hp (.one (.sl d.tv)) [.v (.one cL)] with
   | some (T,rr),some (L,[],tc,b0)=>if decide (e=d.eC)&&eV (n::rr)&&ry tc (n::rr) then
     ob (b0&&decide (s=0)&&(decide (dn=0)||decide (dn=1))) (HL dn (d.pre L)/\ ∀y,y=o7 dn (d.YO L) T->k {val:= .v (.one (.full nm)),fresh:= [.row d.tb y 2],writes:=(n,.cells (AU cL (.full nm) (.int .u32 1) (.int .i32 0) q a b) d.eC)::rr.map fun r=>(r,.gone),aF:=(n::rr)++tc}) else False
   |_,_=>False
  |_=>False
 |_=>False
def aaV (d:wT) (ρ:Env) (q a b:Value) (val:Nat->AV) (z:List d.tb.T) (v:AV) (st:AS):Prop:=match ai st.heap 0 with
 |some (.cells [.full k,.raw (.int .u32 u),.raw (.int .i32 s),.raw q',.full m,.raw a',.raw b'] e)=>match ai st.heap m with
  |some (.row t l rk)=>match jm t d.tb l with
   |some z'=>(k=1/\ u=1/\ s=0/\ q'=q/\ a'=a)/\ (b'=b/\ e=d.eC/\ v=val m/\ rk=2)/\ rU (ai st.heap 3) ρ 3 (z'=z)
   |none=>False
  |_=>False
 |_=>False
theorem afK {d:wT} {ρ:Env} {q a b:Value} {val:Nat->AV} {z:List d.tb.T} {v:AV} {st:AS} (h:aaV d ρ q a b val z v st):
  ∃m,v=val m/\ ai st.heap 0=some (.cells (AU (.full 1) (.full m) (.int .u32 1) (.int .i32 0) q a b) d.eC)/\ ai st.heap m=some (.row d.tb z 2)/\ ai st.heap 3=some (.cg ρ 3):=by
 unfold aaV at h
 split at h
 rotate_left
 ·exact h.elim
 rename_i h1
 split at h
 rotate_left
 ·exact h.elim
 rename_i h2
 split at h
 rotate_left
 ·exact h.elim
 rename_i z' hz
 obtain ⟨⟨rfl,rfl,rfl,rfl,rfl⟩,⟨rfl,rfl,rfl,rfl⟩,h3⟩:=h
 obtain ⟨e1,e2⟩:=cr hz
 subst e1
 dsimp only at e2
 subst e2
 obtain ⟨hp,rfl⟩:=dy h3
 exact ⟨_,rfl,h1,h2,hp⟩
def ad7 (y0 y4 yR:Loc):Env:=fun i=>match i with
 |0=>y0
 |1=>y4
 |2=>yR
 |_=> {}
theorem xO {d:wT} {L:List d.tv.T} {T:List d.tb.T} {u v q a b:Value} {ρ:Env} {n:Nat} {o:aD} (h:ai (tW d L T u v q a b ρ) n=some o):
  (n=0/\ o= .cells (AU (.full 1) (.full 2) u v q a b) d.eC)\/ (n=1/\ o= .row d.tv L 0)\/ (n=2/\ o= .row d.tb T 2)\/ (n=3/\ o= .cg ρ 3):=by
 have h:=oo h
 match n,h with
 |0,h=>exact .inl ⟨rfl,by cases h;rfl⟩
 |1,h=>exact .inr (.inl ⟨rfl,by cases h;rfl⟩)
 |2,h=>exact .inr (.inr (.inl ⟨rfl,by cases h;rfl⟩))
 |3,h=>exact .inr (.inr (.inr ⟨rfl,by cases h;rfl⟩))
 |n+4,h=>simp [tW] at h
section
variable {av:fG} {W:World} {ρ:Env} {Kn:Nat->Prop} {Γ:HP} {w:World}
theorem KR {ρ ρ':Env} {cL cT cL' cT':Cell} (h1:cL'.ae ρ'=cL.ae ρ) (h2:cT'.ae ρ'=cT.ae ρ) (u v q a b:Value):(AU cL' cT' u v q a b).map (Cell.ae ρ')=(AU cL cT u v q a b).map (Cell.ae ρ):=by
 simp only [AU,List.map_cons,List.map_nil,h1,h2];rfl
theorem St.aoT {d:wT} {L:List d.tv.T} {T:List d.tb.T} {u v q a b:Value} {n:Nat} {rr:List Nat} {cL cT:Cell} {y4 yR:Loc} (h:St av W ρ Kn Γ w)
  (hC:Γ n=some (.cells (AU cL cT u v q a b) d.eC)) (hr: ∀r∈rr,(Γ r).isSome=true) (ja:(n::rr).Nodup)
  (h4:cK (fun b=>bj w b/\ ¬CS ρ (n::rr) b) w (.row d.tv L 0) y4)
  (hcL:cL.ae ρ= .slice y4.base y4.len y4.cap) (hcT:cT.ae ρ= .slice yR.base yR.len yR.cap)
  (hrow:bp (dV ρ Γ w) (uk av W) (fun _=>yR) 2 (.row d.tb T 2) w) (hyb: ∀b,yR.has b-> ∃r∈rr,(ρ r).has b) (hye:yR.jq= []):
  St {wr:=CS ρ (n::rr),nw:=fun b=>dV ρ Γ w b/\ uk av W b} w (ad7 (ρ n) y4 yR) (· <4) (ai (tW d L T u v q a b (ad7 (ρ n) y4 yR))) w:=by
 obtain ⟨aW,ep⟩: ∃aW,aW=ad7 (ρ n) y4 yR:=⟨_,rfl⟩
 rw [<- ep]
 have e0:aW 0=ρ n:=by rw [ep];rfl
 have e4:aW 1=y4:=by rw [ep];rfl
 have e2:aW 2=yR:=by rw [ep];rfl
 have e6:(aW 3).blk=Option.none/\ (aW 3).jq= []:=by rw [ep];exact ⟨rfl,rfl⟩
 have rQ: ∀m∈(n::rr),(Γ m).isSome=true:=fun m hm=>by
  rcases List.mem_cons.1 hm with rfl|hm
  ·rw [hC];rfl
  ·exact hr m hm
 have dS: ∀m b',(ai (tW d L T u v q a b aW) m).isSome=true->(aW m).has b'->(m=0/\ (ρ n).has b')\/ (m=2/\ ∃r∈rr,(ρ r).has b'):=fun m b' hs hb=>by
  obtain ⟨o,ho⟩:=Option.isSome_iff_exists.1 hs
  rcases xO ho with ⟨rfl,_⟩|⟨rfl,_⟩|⟨rfl,_⟩|⟨rfl,_⟩
  ·rw [e0] at hb;exact .inl ⟨rfl,hb⟩
  ·rw [e4] at hb;exact (ot h4.2.1 hb).elim
  ·rw [e2] at hb;exact .inr ⟨rfl,hyb b' hb⟩
  ·exact (ot e6 hb).elim
 have hwr: ∀m b',(ai (tW d L T u v q a b aW) m).isSome=true->(aW m).has b'->CS ρ (n::rr) b':=fun m b' hs hb=>by
  rcases dS m b' hs hb with ⟨_,k⟩|⟨_,r,k1,k2⟩
  ·exact ⟨n,by simp,k⟩
  ·exact ⟨r,by simp [k1],k2⟩
 have xU: ∀b',¬HI (ai (tW d L T u v q a b aW)) b':=fun b' ⟨m,S,k,_⟩=>by
  rcases xO k with ⟨_,e⟩|⟨_,e⟩|⟨_,e⟩|⟨_,e⟩<;>cases e
 have Om: ∀b',(bj w b'/\ ¬CS ρ (n::rr) b')->dV aW (ai (tW d L T u v q a b aW)) w b':=fun b' hb=>⟨hb.1,by
  rintro (⟨m,k1,k2⟩|k)
  ·exact hb.2 (hwr m b' k1 k2)
  ·exact xU b' k⟩
 have hfz: ∀b',dV ρ Γ w b'->dV aW (ai (tW d L T u v q a b aW)) w b':=fun b' hb=>Om b' ⟨hb.1,fun ⟨m,k1,k2⟩=>hb.2 (.inl ⟨m,rQ m k1,k2⟩)⟩
 simp only [List.nodup_cons] at ja
 refine ⟨Fr.refl _ _,fun m o ho=> ?_,fun m o ho=> ?_,fun m m' b' mD Lx gy dR=> ?_,fun m b' mD gy=> .inr (hwr m b' mD gy),fun b' hb=>absurd hb (xU b'),fun m o ho=> ?_⟩
 rotate_right
 ·rcases xO ho with ⟨rfl,rfl⟩|⟨rfl,rfl⟩|⟨rfl,rfl⟩|⟨rfl,rfl⟩
  ·exact .inr (by rw [e0];exact (h.wK _ _ hC).elim (fun ⟨_,e⟩=>by cases e) id)
  ·exact .inr (by rw [e4];exact h4.2.1.2)
  ·exact .inr (by rw [e2];exact hye)
  ·exact .inr e6.2
 ·rcases xO ho with ⟨rfl,rfl⟩|⟨rfl,rfl⟩|⟨rfl,rfl⟩|⟨rfl,rfl⟩
  ·obtain ⟨b1,g1,g2⟩:=h.at_ n _ hC
   refine ⟨b1,by rw [e0];exact g1,?_⟩
   rw [g2,KR (ρ:=ρ) (ρ':=aW) (cL:=cL) (cT:=cT) (by rw [hcL];simp [Cell.ae,e4]) (by rw [hcT];simp [Cell.ae,e2])]
  ·exact n6 (by rw [e4];exact h4) Om
  ·obtain ⟨g1,g2,g3,sub,g4,g5,g6,g7⟩:=hrow
   rw [bp,e2]
   exact ⟨g1,g2,g3,sub,fun i v hv=>by
    obtain ⟨a,k1,k2,_⟩:=g4 i v hv
    exact ⟨a,k1,k2,fun h=>by cases h⟩,fun q u' l' hq=>(g5 q u' l' hq).weak fun b hb=>⟨hfz b hb.1,fun _=>⟨.inr (.inr ⟨hb.1,(hb.2 rfl).1⟩),(hb.2 rfl).2⟩⟩,fun h=>(by cases h),g7⟩
  ·exact ⟨e6.1,fun m _=>rfl⟩
 ·rcases xO ho with ⟨rfl,rfl⟩|⟨rfl,rfl⟩|⟨rfl,rfl⟩|⟨rfl,rfl⟩
  ·refine ⟨by decide,fun c hc=> ?_⟩
   simp only [AU,List.mem_cons,List.not_mem_nil,or_false] at hc
   rcases hc with rfl|rfl|rfl|rfl|rfl|rfl|rfl<;>first|trivial|(show _<4;decide)
  ·exact ⟨by decide,trivial⟩
  ·exact ⟨by decide,trivial⟩
  ·exact ⟨by decide,fun m hm=>by omega⟩
 ·have hmem: ∀r,r∈rr→(ρ n).has b'→(ρ r).has b'→n∈rr:=fun r hr' k k'=>by
   have:=h.dU n r b' (rQ n (by simp)) (hr r hr') k k'
   rw [this];exact hr'
  rcases dS m b' mD gy with ⟨rfl,k⟩|⟨rfl,r,k1,k⟩
  ·rcases dS m' b' Lx dR with ⟨rfl,k'⟩|⟨rfl,r',k1',k'⟩
   ·rfl
   ·exact absurd (hmem r' k1' k k') ja.1
  ·rcases dS m' b' Lx dR with ⟨rfl,k'⟩|⟨rfl,r',k1',k'⟩
   ·exact absurd (hmem r k1 k' k) ja.1
   ·rfl
theorem St.ary {d:wT} {n:Nat} {rr:List Nat} {cL cT:Cell} {u v u' v' q a b a' b':Value} {val:AV} {aR:Env} {Kn1:Nat->Prop} {Γ1:HP} {w':World} {nm m:Nat} {z:List d.tb.T} {tc:List Nat} (h:St av W ρ Kn Γ w)
  (hC:Γ n=some (.cells (AU cL cT u v q a b) d.eC)) (hr: ∀r∈rr,(Γ r).isSome=true) (ja:(n::rr).Nodup) (hn: ¬Kn nm)
  (h1:St {wr:=CS ρ (n::rr),nw:=fun b=>dV ρ Γ w b/\ uk av W b} w aR Kn1 Γ1 w')
  (k1:Γ1 0=some (.cells (AU (.full 1) (.full m) u' v' q a' b') d.eC)) (km:Γ1 m=some (.row d.tb z 2)) (e1:aR 0=ρ n) (e4:Cell.ae aR (.full 1)=cL.ae ρ):
  ∃ρ',(∀m,Kn m->ρ' m=ρ m)/\ ρ' nm=aR m/\ St av W ρ' (oI Kn nm {val:=val,fresh:= [.row d.tb z 2],writes:=(n,.cells (AU cL (.full nm) u' v' q a' b') d.eC)::rr.map fun r=>(r,aD.gone),aF:=tc})
   (bV {val:=val,fresh:= [.row d.tb z 2],writes:=(n,.cells (AU cL (.full nm) u' v' q a' b') d.eC)::rr.map fun r=>(r,aD.gone),aF:=tc} nm Γ) w':=by
 obtain ⟨r,Jo⟩: ∃r:Rec,r= {val:=val,fresh:= [.row d.tb z 2],writes:=(n,.cells (AU cL (.full nm) u' v' q a' b') d.eC)::rr.map fun r=>(r,aD.gone),aF:=tc} :=⟨_,rfl⟩
 rw [<- Jo]
 simp only [List.nodup_cons] at ja
 have d3:=ja.1
 have rQ: ∀m∈(n::rr),(Γ m).isSome=true:=fun m hm=>by
  rcases List.mem_cons.1 hm with rfl|hm
  ·rw [hC];rfl
  ·exact hr m hm
 have hkn: ∀n,(Γ n).isSome=true->Kn n:=fun n hs=>by obtain ⟨o,ho⟩:=Option.isSome_iff_exists.1 hs;exact (h.kn n o ho).1
 have hold: ∀x,Kn x->bA ρ nm (aR m) x=ρ x:=jL hn
 have ld:bA ρ nm (aR m) nm=aR m:=by simp [bA]
 have bQ: ∀x p,bV r nm Γ x=some p->(x=nm/\ p= .row d.tb z 2)\/ (x≠nm/\ x=n/\ p= .cells (AU cL (.full nm) u' v' q a' b') d.eC)\/ (x≠nm/\ x≠n/\ x∉rr/\ Γ x=some p):=fun x p hp=>by
  rw [Jo] at hp
  exact O0 rfl rfl d3 hp
 have hsz:=h.fr.size
 have aey:=h1.fr.size
 have hlt: ∀n o b,Γ n=some o->(ρ n).has b->b<w.heap.size:=fun n o b ho hb=>h.lt n b (by rw [ho];rfl) hb
 have aix: ∀b,CS ρ (n::rr) b->b<w.heap.size/\ (W.heap.size<=b\/ av b):=fun b ⟨n,n1,n2⟩=>by
  obtain ⟨o,ho⟩:=Option.isSome_iff_exists.1 (rQ n n1)
  exact ⟨hlt n o b ho n2,h.lC n b (rQ n n1) n2⟩
 have hfw: ∀b,dV ρ Γ w b-> ¬CS ρ (n::rr) b:=fun b hb ⟨n,n1,n2⟩=>hb.2 (.inl ⟨n,rQ n n1,n2⟩)
 have hun: ∀b,b<w.heap.size-> ¬CS ρ (n::rr) b->w'.heap[b]? =w.heap[b]? :=fun b hb hq=>h1.fr.block b hb hq
 have hmb: ∀b,(aR m).has b->w.heap.size<=b\/ ∃q∈rr,(ρ q).has b:=fun b hb=>by
  rcases h1.lC m b (by rw [km];rfl) hb with h2|⟨n',n1,n2⟩
  ·exact .inl h2
  ·rcases List.mem_cons.1 n1 with rfl|n1
   ·have:=h1.dU m 0 b (by rw [km];rfl) (by rw [k1];rfl) hb (by rw [e1];exact n2)
    rw [this,k1] at km;cases km
   ·exact .inr ⟨n',n1,n2⟩
 have hlo: ∀x b,(bV r nm Γ x).isSome=true->(bA ρ nm (aR m) x).has b->(x=nm/\ (aR m).has b)\/ (x≠nm/\ x∉rr/\ (Γ x).isSome=true/\ (ρ x).has b):=fun x b hs hb=>by
  obtain ⟨p,hp⟩:=Option.isSome_iff_exists.1 hs
  rcases bQ x p hp with ⟨rfl,_⟩|⟨h2,rfl,_⟩|⟨h2,_,h3,h4⟩
  ·rw [ld] at hb;exact .inl ⟨rfl,hb⟩
  ·rw [hold _ (hkn _ (rQ _ (by simp)))] at hb
   exact .inr ⟨h2,d3,rQ _ (by simp),hb⟩
  ·have hs':(Γ x).isSome=true:=by rw [h4];rfl
   rw [hold _ (hkn _ hs')] at hb
   exact .inr ⟨h2,h3,hs',hb⟩
 have z6: ∀b,HI (bV r nm Γ) b->HI Γ b:=fun b ⟨x,S,h2,h3⟩=>by
  rcases bQ x _ h2 with ⟨_,e⟩|⟨_,_,e⟩|⟨_,_,_,e⟩
  ·cases e
  ·cases e
  ·exact ⟨x,S,e,h3⟩
 have hfz: ∀b,dV ρ Γ w b->dV (bA ρ nm (aR m)) (bV r nm Γ) w' b/\ w'.heap[b]? =w.heap[b]? :=fun b hb=>by
  have e:=hun b hb.1.lt (hfw b hb)
  refine ⟨⟨hb.1.same e,?_⟩,e⟩
  rintro (⟨x,h2,h3⟩|h2)
  ·rcases hlo x b h2 h3 with ⟨_,h4⟩|⟨_,_,h4,h5⟩
   ·rcases hmb b h4 with h5|⟨q,h5,h6⟩
    ·have:=hb.1.lt;omega
    ·exact hb.2 (.inl ⟨q,hr q h5,h6⟩)
   ·exact hb.2 (.inl ⟨x,h4,h5⟩)
  ·exact hb.2 (.inr (z6 b h2))
 have air: ∀b,dV aR Γ1 w' b->uk {wr:=CS ρ (n::rr),nw:=fun b=>dV ρ Γ w b/\ uk av W b} w b->dV (bA ρ nm (aR m)) (bV r nm Γ) w' b/\ uk av W b:=fun b hb hp=>by
  rcases hp with hp|hp|hp
  ·refine ⟨⟨hb.1,?_⟩,.inl (by omega)⟩
   rintro (⟨x,h2,h3⟩|h2)
   ·rcases hlo x b h2 h3 with ⟨_,h4⟩|⟨_,_,h4,h5⟩
    ·exact hb.2 (.inl ⟨m,by rw [km];rfl,h4⟩)
    ·obtain ⟨o,ho⟩:=Option.isSome_iff_exists.1 h4
     have:=hlt x o b ho h5;omega
   ·have:=(h.ru b (z6 b h2)).1;omega
  ·have fh:CS ρ (n::rr) b:=hp
   obtain ⟨hl,ho⟩:=aix b fh
   obtain ⟨n',n1,n2⟩:=fh
   refine ⟨⟨hb.1,?_⟩,ho.imp_right .inl⟩
   have hin:n'∈rr:=by
    rcases List.mem_cons.1 n1 with rfl|n1
    ·exact absurd (.inl ⟨0,by rw [k1];rfl,by rw [e1];exact n2⟩) hb.2
    ·exact n1
   rintro (⟨x,h2,h3⟩|h2)
   ·rcases hlo x b h2 h3 with ⟨_,h4⟩|⟨_,h4,h5,h6⟩
    ·exact hb.2 (.inl ⟨m,by rw [km];rfl,h4⟩)
    ·have:=h.dU n' x b (hr n' hin) h5 n2 h6
     exact h4 (this▸hin)
   ·exact (h.ru b (z6 b h2)).2 ⟨n',hr n' hin,n2⟩
  ·have fh:dV ρ Γ w b∧uk av W b:=hp
   exact ⟨(hfz b fh.1).1,fh.2⟩
 have kr:oI Kn nm r=Ob Kn nm:=by
  rw [Jo]
  funext x
  simp only [oI,Ob,List.length_singleton]
  congr 1
  apply propext
  omega
 have hcL:cL.ok Kn:=(h.kn n _ hC).2 cL (by simp [AU])
 rw [kr]
 refine ⟨bA ρ nm (aR m),hold,ld,⟨?_,fun x p hp=> ?_,fun x p hp=> ?_,fun x y b hx hy gy dR=> ?_,fun x b hx hb=> ?_,fun b hh=> ?_,fun x p hp=> ?_⟩⟩
 rotate_right
 ·rcases bQ x p hp with ⟨rfl,rfl⟩|⟨h2,rfl,rfl⟩|⟨h2,h3,h4,h5⟩
  ·exact .inr (by rw [ld];exact (h1.wK m _ km).elim (fun ⟨_,e⟩=>by cases e) id)
  ·exact .inr (by rw [hold _ (hkn _ (rQ _ (by simp)))];exact (h.wK _ _ hC).elim (fun ⟨_,e⟩=>by cases e) id)
  ·rw [hold x (h.kn x p h5).1];exact h.wK x p h5
 ·refine ⟨h1.fr.os.trans h.fr.os,h1.fr.tape.trans h.fr.tape,h1.fr.output.trans h.fr.output,Nat.le_trans hsz aey,fun k hk hnb=> ?_,Nat.le_trans h.fr.Pd h1.fr.Pd⟩
  rw [hun k (by omega) fun hq=>(aix k hq).2.elim (fun h=>by omega) hnb]
  exact h.fr.block k hk hnb
 ·rcases bQ x p hp with ⟨rfl,rfl⟩|⟨h2,rfl,rfl⟩|⟨h2,h3,h4,h5⟩
  ·obtain ⟨g1,g2,g3,sub,g4,g5,g6,g7⟩:=h1.at_ m _ km
   rw [bp,ld]
   exact ⟨g1,g2,g3,sub,fun i v hv=>by
    obtain ⟨a,q1,q2,_⟩:=g4 i v hv
    exact ⟨a,q1,q2,fun h=>by cases h⟩,fun q u' l' hq=>(g5 q u' l' hq).weak fun b hb=>by
     obtain ⟨q1,q2⟩:=air b hb.1 (hb.2 rfl).1
     exact ⟨q1,fun _=>⟨q2,(hb.2 rfl).2⟩⟩,fun h=>(by cases h),g7⟩
  ·obtain ⟨b1,g1,g2⟩:=h1.at_ 0 _ k1
   refine ⟨b1,by rw [hold _ (hkn _ (rQ _ (by simp))),<- e1];exact g1,?_⟩
   rw [g2,KR (ρ:=bA ρ nm (aR m)) (ρ':=aR) (cL:=cL) (cT:= .full nm) (by rw [e4];exact (Cell.bu hold cL hcL).symm) (by simp [Cell.ae,ld])]
  ·have hk:=h.kn x p h5
   refine cx (h.at_ x p h5) hold hk.1 hk.2 hfz (fun _ _ h=>h) fun b hb=>hun b (hlt x p b h5 hb) ?_
   rintro ⟨n',n1,n2⟩
   have:=h.dU x n' b (by rw [h5];rfl) (rQ n' n1) hb n2
   subst this
   rcases List.mem_cons.1 n1 with e|e
   ·exact h3 e
   ·exact h4 e
 ·rcases bQ x p hp with ⟨rfl,rfl⟩|⟨h2,rfl,rfl⟩|⟨h2,h3,h4,h5⟩
  ·exact ⟨.inr rfl,trivial⟩
  ·refine ⟨.inl (hkn _ (rQ _ (by simp))),fun c hc=> ?_⟩
   simp only [AU,List.mem_cons,List.not_mem_nil,or_false] at hc
   rcases hc with rfl|rfl|rfl|rfl|rfl|rfl|rfl<;>first|trivial|exact .inr rfl|exact Cell.aT (fun _=> .inl) _ hcL
  ·exact ⟨.inl (h.kn x p h5).1,aD.aT (fun _=> .inl) p (h.kn x p h5).2⟩
 ·rcases hlo x b hx gy with ⟨rfl,h2⟩|⟨h2,h3,h4,h5⟩
  ·rcases hlo y b hy dR with ⟨rfl,_⟩|⟨q2,q3,q4,q5⟩
   ·rfl
   ·rcases hmb b h2 with h6|⟨q,h6,h7⟩
    ·obtain ⟨o,ho⟩:=Option.isSome_iff_exists.1 q4
     have:=hlt y o b ho q5;omega
    ·have:=h.dU q y b (hr q h6) q4 h7 q5
     exact absurd (this▸h6) q3
  ·rcases hlo y b hy dR with ⟨rfl,q2⟩|⟨q2,q3,q4,q5⟩
   ·rcases hmb b q2 with h6|⟨q,h6,h7⟩
    ·obtain ⟨o,ho⟩:=Option.isSome_iff_exists.1 h4
     have:=hlt x o b ho h5;omega
    ·have:=h.dU q x b (hr q h6) h4 h7 h5
     exact absurd (this▸h6) h3
   ·exact h.dU x y b h4 q4 h5 q5
 ·rcases hlo x b hx hb with ⟨rfl,h2⟩|⟨_,_,h4,h5⟩
  ·rcases hmb b h2 with h6|⟨q,h6,h7⟩
   ·exact .inl (by omega)
   ·exact h.lC q b (hr q h6) h7
  ·exact h.lC x b h4 h5
 ·obtain ⟨h2,h3⟩:=h.ru b (z6 b hh)
  refine ⟨by omega,?_⟩
  rintro ⟨x,q1,q2⟩
  rcases hlo x b q1 q2 with ⟨_,h4⟩|⟨_,_,h4,h5⟩
  ·rcases hmb b h4 with h6|⟨q,h6,h7⟩
   ·omega
   ·exact h3 ⟨q,hr q h6,h7⟩
  ·exact h3 ⟨x,h4,h5⟩
variable {P:Program} {tt:List (Nat×TI)} {specs:List (Nat×Spec)}
theorem rA.ahc (hT:di P tt) (hS:aj P specs) (hm:P.follows .mixedOrders=true) {f:FuncId} {fn:Func} (hf:P.funcs[f]? =some fn) (hn:cZ (ids (aC fn))=true) {d:wT}
  {its:List (Nat×cP)} (hi:aH P cf its) {X:Addr->Value->Prop} {hp:HP} {nm n:Nat} {cL cT:Cell} {u v q a b a' b':Value} {T z:List d.tb.T} {L:List d.tv.T} {rr tc:List Nat} {ex:List AV} {val:Nat->AV}
  (hC1:hp n=some (.cells (AU cL cT u v q a b) d.eC)) (UF:yN hp d.tb cT=some (T,rr)) (JJ:fJ hp (.one (.sl d.tv)) [.v (.one cL)]=some (L,[],tc,true)) (ja:eV (n::rr)=true) (FM:ry tc (n::rr)=true)
  (hex: ∀x∈ex,(∀ρ ρ',x.ae ρ=x.ae ρ')/\ ∀Kn,x.ok Kn) (hval:(∀m m' ρ ρ',ρ m=ρ' m'->(val m).ae ρ=(val m').ae ρ')/\ ∀m (Kn:Nat->Prop),Kn m->(val m).ok Kn)
  (hfn: ∀aW,JD ⟨tt,specs,cf,[],[],its⟩ fn (.v (.one (.ptr 0 0))::ex) (tW d L T u v q a b aW) (aaV d aW q a' b' val z)):
  rA P f X (.v (.one (.ptr n 0))::ex) hp nm {val:=val nm,fresh:= [.row d.tb z 2],writes:=(n,.cells (AU cL (.full nm) (.int .u32 1) (.int .i32 0) q a' b') d.eC)::rr.map fun r=>(r,.gone),aF:=(n::rr)++tc} :=by
 have ja:=fq ja
 have FM:=qc FM
 obtain ⟨hrs,VQ⟩:=Cw UF
 refine ⟨fun p fh=> ?_,?_⟩
 ·rcases List.mem_cons.1 fh with rfl|fh
  ·rw [hC1];exact fun h=>by cases h
  ·obtain ⟨q,hq,rfl⟩:=List.mem_map.1 fh
   have:=hrs q hq
   intro h
   dsimp only at h
   rw [h] at this;cases this
 intro av W ρ Kn Γ w _ _ ht hfr hst
 have hin: ∀m∈(n::rr),Γ m=hp m:=fun m hn=>ht m (List.mem_append.2 (.inl hn))
 have Zv:Γ n=some (.cells (AU cL cT u v q a b) d.eC):=by rw [hin n (by simp)];exact hC1
 have VP: ∀r∈rr,(Γ r).isSome=true:=fun r hr=>by rw [hin r (by simp [hr])];exact hrs r hr
 have rQ: ∀m∈(n::rr),(Γ m).isSome=true:=fun m hm=>by
  rcases List.mem_cons.1 hm with rfl|hm
  ·rw [Zv];rfl
  ·exact VP m hm
 have hok:nV (fun b=>bj w b/\ ¬CS ρ (n::rr) b) ρ Γ w tc:=by
  refine ⟨fun b hb=>⟨hb.1,fun ⟨n,n1,n2⟩=>hb.2 (.inl ⟨n,rQ n n1,n2⟩)⟩,fun m hm hs b hb hc=>⟨hc,fun ⟨n',n1,n2⟩=> ?_⟩⟩
  have:=hst.dU m n' b hs (rQ n' n1) hb n2
  exact FM m hm (this▸n1)
 obtain ⟨y4,g4,c4⟩:=uD JJ (fun m hm=>ht m (List.mem_append.2 (.inr hm))) hst hok
 obtain ⟨yR,cR,gR,eR,bR⟩:=VQ hst fun r hr=>hin r (by simp [hr])
 have c4:cL.ae ρ= .slice y4.base y4.len y4.cap:=c4
 have hb:=St.aoT (d:=d) (L:=L) (T:=T) hst Zv VP ja g4 c4 cR gR bR eR
 obtain ⟨aW,ep⟩: ∃aW,aW=ad7 (ρ n) y4 yR:=⟨_,rfl⟩
 rw [<- ep] at hb
 have key:=jN (ctx:=⟨tt,specs,cf,[],[],its⟩) hT ⟨hS,o9.nil P,hi⟩ (cf.ok _ w) hm hf (fun c hc=>by
  have:aC fn=c:=by unfold aC;rw [hc]
  subst this
  exact Ae (ef hn) aK.nil) (hfn aW) (fun y hy=>by
   rcases List.mem_cons.1 hy with rfl|hy
   ·show 0<4;decide
   ·exact (hex y hy).2 _) hb
 have ea:(AV.v (.one (.ptr 0 0))::ex).map (AV.ae aW)=(AV.v (.one (.ptr n 0))::ex).map (AV.ae ρ):=by
  simp only [List.map_cons]
  rw [List.map_congr_left fun x hx=>(hex x hx).1 aW ρ]
  congr 1
  simp only [AV.ae,A0.ae,Cell.ae,addrOf,ep,ad7]
 rw [ea] at key
 refine key.mono ?_
 rintro e w' ⟨st,aR,v',rfl,hv,hR,pF⟩
 obtain ⟨m,rfl,k1,km,AO⟩:=afK hR
 have hpe:=(pF.at_ _ _ AO).2
 have e1:aR 0=ρ n:=by rw [hpe 0 (by decide),ep];rfl
 have e4:Cell.ae aR (.full 1)=cL.ae ρ:=by
  rw [c4]
  simp only [Cell.ae,hpe 1 (by decide),ep,ad7]
 obtain ⟨ρ',r1,r3,r2⟩:=St.ary (nm:=nm) (tc:=(n::rr)++tc) (val:=val nm) hst Zv VP ja (hfr 0 (by simp)) pF k1 km e1 e4
 exact ⟨ρ',by rw [hval.1 m nm aR ρ' r3.symm],r1,hval.2 _ _ (.inr ⟨Nat.le_refl _,by simp⟩),r2⟩
theorem aq.fnC (hT:di P tt) (hS:aj P specs) (hm:P.follows .mixedOrders=true) {f:FuncId} {fn:Func} (hf:P.funcs[f]? =some fn) (hn:cZ (ids (aC fn))=true) {d:wT}
  {its:List (Nat×cP)} (hi:aH P cf its)
  (hfn: ∀(L:List d.tv.T) (T:List d.tb.T) (dn:Int) (q a b:Value) (aW:Env),(dn=0\/ dn=1)->HL dn (d.pre L)->JD ⟨tt,specs,cf,[],[],its⟩ fn [.v (.one (.ptr 0 0))] (tW d L T (.int .u32 dn) (.int .i32 0) q a b aW) (aaV d aW q a b (fun m=> .v (.one (.full m))) (o7 dn (d.YO L) T))):aq P f (Jx d):=by
 intro X args hp nm k hs
 unfold Jx at hs
 split at hs
 rotate_left
 ·exact hs.elim
 rename_i n
 split at hs
 rotate_left
 ·exact hs.elim
 rename_i cL dn s q cT a b e hC1
 split at hs
 rotate_left
 ·exact hs.elim
 rename_i T rr L tc b0 UF JJ
 split at hs
 rotate_left
 ·exact hs.elim
 rename_i hc
 simp only [Bool.and_eq_true,decide_eq_true_eq] at hc
 obtain ⟨⟨rfl,ja⟩,FM⟩:=hc
 obtain ⟨hb,hpre,hk⟩:=bh hs
 simp only [Bool.and_eq_true,decide_eq_true_eq,Bool.or_eq_true] at hb
 obtain ⟨⟨rfl,rfl⟩,hdn⟩:=hb
 exact ⟨_,rA.ahc (val:=fun m=> .v (.one (.full m))) hT hS hm hf hn hi hC1 UF JJ ja FM (fun x hx=>by cases hx) ⟨fun m m' ρ ρ' h=>by simp only [AV.ae,A0.ae,Cell.ae,h],fun m Kn h=>h⟩ fun aW=>hfn L T dn q a b aW hdn hpre,hk _ rfl⟩
def ptA (p:Int×(Int×Int)):AV:= .v (.agg [.raw (.int .i64 p.1),.raw (.int .i64 p.2.1),.raw (.int .i64 p.2.2)])
abbrev PtI:Type:=Int×(Int×Int)
structure aoG where
 base:wT
 anh:List base.tv.T->List base.tb.T->PtI×PtI->Prop
 ask:List base.tv.T->List base.tb.T->PtI×PtI->Bool×(Int×Int)
def AN (z:Bool×(Int×Int)) (a n:Int):Int:=if z.2.2=0 then IntKind.wrap .i64 (a+n) else a
def Sb (d:aoG):Spec:=fun _ args hp nm k=>match args with
 | [.v (.one (.ptr n 0)),.v (.agg [.raw (.int .i64 p0),.raw (.int .i64 p1),.raw (.int .i64 p2)]),.v (.agg [.raw (.int .i64 q0),.raw (.int .i64 q1),.raw (.int .i64 q2)])]=>match hp n with
  |some (.cells [cL,.raw (.int .u32 dn),.raw (.int .i32 s),.raw q,cT,.raw (.int .i64 a),.raw (.int .i64 b)] e)=>match yN hp d.base.tb cT,fJ hp (.one (.sl d.base.tv)) [.v (.one cL)] with
   | some (T,rr),some (L,[],tc,b0)=>if decide (e=d.base.eC)&&eV (n::rr)&&ry tc (n::rr) then
     ob (b0&&decide (s=0)&&(decide (dn=0)||decide (dn=1))) (HL dn (d.base.pre L)/\ ∀y,y=o7 dn (d.base.YO L) T->d.anh L y ((p0,p1,p2),q0,q1,q2)/\ ∀z,z=d.ask L y ((p0,p1,p2),q0,q1,q2)->True/\ ∀a',a'=AN z a 1->True/\ ∀b',b'=AN z b z.2.1->
      k {val:= .pT [.one (.raw (.bool z.1)),.one (.raw (.int .i64 z.2.2))],fresh:= [.row d.base.tb y 2],writes:=(n,.cells (AU cL (.full nm) (.int .u32 1) (.int .i32 0) q (.int .i64 a') (.int .i64 b')) d.base.eC)::rr.map fun r=>(r,.gone),aF:=(n::rr)++tc}) else False
   |_,_=>False
  |_=>False
 |_=>False
theorem aq.fnD (hT:di P tt) (hS:aj P specs) (hm:P.follows .mixedOrders=true) {f:FuncId} {fn:Func} (hf:P.funcs[f]? =some fn) (hn:cZ (ids (aC fn))=true) {d:aoG}
  (hfn: ∀(L:List d.base.tv.T) (T:List d.base.tb.T) (dn:Int) (q:Value) (a b:Int) (x:PtI×PtI) (aW:Env),(dn=0\/ dn=1)->HL dn (d.base.pre L)->d.anh L (o7 dn (d.base.YO L) T) x->JD ⟨tt,specs,cf,[],[],[]⟩ fn [.v (.one (.ptr 0 0)),ptA x.1,ptA x.2] (tW d.base L T (.int .u32 dn) (.int .i32 0) q (.int .i64 a) (.int .i64 b) aW)
   (aaV d.base aW q (.int .i64 (AN (d.ask L (o7 dn (d.base.YO L) T) x) a 1)) (.int .i64 (AN (d.ask L (o7 dn (d.base.YO L) T) x) b (d.ask L (o7 dn (d.base.YO L) T) x).2.1)) (fun _=> .pT [.one (.raw (.bool (d.ask L (o7 dn (d.base.YO L) T) x).1)),.one (.raw (.int .i64 (d.ask L (o7 dn (d.base.YO L) T) x).2.2))]) (o7 dn (d.base.YO L) T))):aq P f (Sb d):=by
 intro X args hp nm k hs
 unfold Sb at hs
 split at hs
 rotate_left
 ·exact hs.elim
 rename_i n p0 p1 p2 q0 q1 q2
 split at hs
 rotate_left
 ·exact hs.elim
 rename_i cL dn s q cT a b e hC1
 split at hs
 rotate_left
 ·exact hs.elim
 rename_i T rr L tc b0 UF JJ
 split at hs
 rotate_left
 ·exact hs.elim
 rename_i hc
 simp only [Bool.and_eq_true,decide_eq_true_eq] at hc
 obtain ⟨⟨rfl,ja⟩,FM⟩:=hc
 obtain ⟨hb,hpre,hk⟩:=bh hs
 simp only [Bool.and_eq_true,decide_eq_true_eq,Bool.or_eq_true] at hb
 obtain ⟨⟨rfl,rfl⟩,hdn⟩:=hb
 obtain ⟨hp2,hk⟩:=hk _ rfl
 have hk:=((hk _ rfl).2 _ rfl).2 _ rfl
 have hpt: ∀p:PtI,(∀ρ ρ',(ptA p).ae ρ=(ptA p).ae ρ')/\ ∀Kn,(ptA p).ok Kn:=fun p=>⟨fun _ _=>rfl,fun Kn c hc=>by
  simp only [List.mem_cons,List.not_mem_nil,or_false] at hc
  rcases hc with rfl|rfl|rfl<;>trivial⟩
 exact ⟨_,rA.ahc (d:=d.base) (val:=fun _=> .pT _) hT hS hm hf hn (aH.nil _ _) hC1 UF JJ ja FM (fun x hx=>by
  rcases List.mem_cons.1 hx with rfl|hx
  ·exact hpt (p0,p1,p2)
  ·rw [List.mem_singleton] at hx
   subst hx
   exact hpt (q0,q1,q2)) ⟨fun _ _ _ _ _=>rfl,fun _ _ _ x hx=>by
    simp only [List.mem_cons,List.not_mem_nil,or_false] at hx
    rcases hx with rfl|rfl<;>trivial⟩ fun aW=>hfn L T dn q a b ((p0,p1,p2),q0,q1,q2) aW hdn hpre hp2,hk⟩
end
end Go.Ev
