/- What is done to what is named. -/
import Derived.Test.YtlkgabjhkfhgaaaGreatEvD3
import Derived.MapKept
import Derived.Maps.RangeRun
noncomputable section
set_option linter.unusedSectionVars false
set_option linter.unusedVariables false
set_option linter.unusedSimpArgs false
namespace Go.Ev
open Go.RowKit
theorem St.less {ay:iT} {W w:World} {ρ:Env} {Kn G7:Nat->Prop} {Γ tC:HP} (h:St ay W ρ Kn Γ w) (hs: ∀m o,tC m=some o->Γ m=some o/\ G7 m/\ o.ok G7):St ay W ρ G7 tC w:=by
 have hsome: ∀n,(tC n).isSome=true->(Γ n).isSome=true:=fun n hn=>by
  obtain ⟨o,ho⟩:=Option.isSome_iff_exists.1 hn
  rw [(hs n o ho).1];rfl
 refine ⟨h.fr,fun n o ho=> ?_,fun n o ho=>(hs n o ho).2,fun n m b hn hm=>h.dV n m b (hsome n hn) (hsome m hm),fun n b hn=>h.kq n b (hsome n hn),fun b ⟨m,S,h1,h2⟩=> ?_,fun n o ho=>h.s8 n o (hs n o ho).1⟩
 rotate_right
 ·obtain ⟨h3,h4⟩:=h.sW b ⟨m,S,(hs m _ h1).1,h2⟩
  exact ⟨h3,fun ⟨n,h5,h6⟩=>h4 ⟨n,hsome n h5,h6⟩⟩
 have h1:=(hs n o ho).1
 refine cm (Kn:=Kn) (h.at_ n o h1) (fun _ _=>rfl) (h.kn n o h1).1 (h.kn n o h1).2 (fun b hb=>⟨⟨hb.1,?_⟩,rfl⟩) (fun _ _ h=>h) fun _ _=>rfl
 rintro (⟨m,h2,h3⟩|⟨m,S,h2,h3⟩)
 ·exact hb.2 (.inl ⟨m,hsome m h2,h3⟩)
 ·exact hb.2 (.inr ⟨m,S,(hs m _ h2).1,h3⟩)
theorem bt (h:List aF) (m:Nat):aj h m=live h[m]? :=by
 unfold aj live;split<;>simp_all
theorem eo {h:List aF} {n:Nat} {o:aF} (ho:aj h n=some o):n<h.length:=by
 rcases Nat.lt_or_ge n h.length with hn|hn
 ·exact hn
 ·simp [aj,List.getElem?_eq_none hn] at ho
theorem fK {o:Option aF} {ρ:Env} {n:Nat} {K:Prop} (h:rG o ρ n K):o=some (.dO ρ n)/\ K:=by
 unfold rG at h
 split at h
 ·obtain ⟨rfl,rfl,h⟩:=h;exact ⟨rfl,h⟩
 ·exact h.elim
theorem bS (hp:HP): ∀n,(iB hp n).length=n
 |0=>rfl
 |n+1=>by simp [iB,bS hp n]
theorem Bi (hp:HP): ∀n m,m<n->(iB hp n)[m]? =some (match hp m with|some o=>o|none=> .gone)
 |0,_,h=>by omega
 |n+1,m,h=>by
  simp only [iB]
  rcases Nat.lt_or_ge m n with h1|h1
  ·rw [List.getElem?_append_left (by rw [bS];exact h1),Bi hp n m h1]
  ·have:m=n:=by omega
   subst this
   rw [List.getElem?_append_right (by rw [bS];exact Nat.le_refl _),bS]
   simp only [Nat.sub_self,List.getElem?_cons_zero]
   cases hp m<;>rfl
theorem y6 {hp:HP} {n m:Nat} (hm:m<n) (hg:hp m≠some .gone):live ((iB hp n)[m]?)=hp m:=by
 rw [Bi hp n m hm]
 cases h:hp m with
 |none=>rfl
 |some o=>cases o<;>first|rfl|exact absurd h hg
theorem vC {hp:HP} {h:List aF} : ∀ {n:Nat} {p:Nat×aF},p∈Gi hp h n->hp p.1≠none
 |0,p,hm=>by simp [Gi] at hm
 |n+1,p,hm=>by
  simp only [Gi] at hm
  split at hm
  ·rename_i o ho
   rcases List.mem_append.1 hm with h1|h1
   ·exact vC h1
   ·simp only [List.mem_singleton] at h1;subst h1;simp [ho]
  ·exact vC hm
theorem Gn (a b:List (Nat×aF)) (m:Nat):cg (a++b) m=match cg b m with|some o=>some o|none=>cg a m:=by
 induction a with
 |nil=>simp [cg];cases cg b m<;>rfl
 |cons p r ih=>
  simp only [List.cons_append,cg,ih]
  cases cg b m with
  |some o=>rfl
  |none=>rfl
theorem uy {hp:HP} {h:List aF} {m:Nat} : ∀n,cg (Gi hp h n) m=if m<n/\ (hp m).isSome=true then some (match h[m]? with|some o=>o|none=> .gone) else none
 |0=>by simp [Gi,cg]
 |n+1=>by
  simp only [Gi]
  cases hn:hp n with
  |none=>
   dsimp only
   rw [uy n]
   by_cases e:m=n
   ·subst e;simp [hn]
   ·have:(m<n+1)=(m<n):=by apply propext;omega
    simp [this]
  |some o=>
   dsimp only
   rw [Gn,uy n]
   simp only [cg]
   by_cases e:n=m
   ·subst e
    simp [hn]
    cases h[n]? <;>rfl
   ·have:(m<n+1)=(m<n):=by apply propext;omega
    rw [if_neg e];simp [this]
theorem AF {hp:HP} {nm:Nat} {h:List aF} {v:AV} (hl:nm<h.length):(∀m o,bX (vo hp nm h v) nm hp m=some o->hp m≠some .gone->(∀m,(hp m).isSome=true->m<nm)->aj h m=some o)/\ lK (· <nm) nm (vo hp nm h v)=(· <h.length):=by
 constructor
 ·intro m o hm hg hk
  simp only [bX,vo,List.length_drop,List.length_set] at hm
  rw [bt]
  split at hm
  ·rename_i hc
   rw [List.getElem?_drop,show nm+(m- nm)=m by omega,List.getElem?_set] at hm
   split at hm
   ·rename_i e
    simp [live] at hm
   ·exact hm
  ·rw [uy] at hm
   by_cases hc:m<nm/\ (hp m).isSome=true
   ·rw [if_pos hc] at hm
    have:m<h.length:=by omega
    rw [List.getElem?_eq_getElem this] at hm ⊢
    exact hm
   ·rw [if_neg hc] at hm
    have:(hp m).isSome=true:=by simp [hm]
    exact absurd ⟨hk m this,this⟩ hc
 ·funext m
  simp only [lK,vo,List.length_drop,List.length_set]
  apply propext;omega
theorem St.pinned {ay:iT} {W w:World} {ρ:Env} {hp:HP} {nm:Nat} (hst:St ay W ρ (· <nm) hp w):
  ∃xB:Env,(∀m,m<nm->xB m=ρ m)/\ St ay W xB (· <nm+1) (aj (iB hp nm++ [.dO ρ nm])) w:=by
 have Eg: ∀m,hp m≠some .gone:=fun m e=>hst.at_ m _ e
 have XY:(iB hp nm++ [aF.dO ρ nm]).length=nm+1:=by simp [bS]
 have gC: ∀m,m<nm->bq ρ nm {} m=ρ m:=fun m hm=>by simp only [bq];rw [if_neg (by omega)]
 have DA: ∀m o,aj (iB hp nm++ [aF.dO ρ nm]) m=some o->(m<nm/\ hp m=some o)\/ (m=nm/\ o= .dO ρ nm):=by
  intro m o ho
  have hlt:=eo ho
  rw [bt] at ho
  rcases Nat.lt_or_ge m nm with h1|h1
  ·rw [List.getElem?_append_left (by rw [bS];exact h1),y6 h1 (Eg m)] at ho
   exact .inl ⟨h1,ho⟩
  ·have:m=nm:=by omega
   subst this
   rw [List.getElem?_append_right (by rw [bS];exact Nat.le_refl _),bS] at ho
   simp only [Nat.sub_self,List.getElem?_cons_zero,live,Option.some.injEq] at ho
   exact .inr ⟨rfl,ho.symm⟩
 have WR: ∀b,dQ ρ hp w b->dQ (bq ρ nm {}) (aj (iB hp nm++ [aF.dO ρ nm])) w b/\ w.heap[b]? =w.heap[b]? :=fun b hb=>by
  refine ⟨⟨hb.1,?_⟩,rfl⟩
  rintro (⟨m,h1,h2⟩|⟨m,S,h1,h2⟩)
  ·obtain ⟨o,ho⟩:=Option.isSome_iff_exists.1 h1
   rcases DA m o ho with ⟨h3,h4⟩|⟨rfl,rfl⟩
   ·rw [gC m h3] at h2
    exact hb.2 (.inl ⟨m,by simp [h4],h2⟩)
   ·simp [bq] at h2
  ·rcases DA m _ h1 with ⟨h3,h4⟩|⟨rfl,e⟩
   ·exact hb.2 (.inr ⟨m,S,h4,h2⟩)
   ·cases e
 refine ⟨bq ρ nm {},gC,hst.fr,fun m o ho=> ?_,fun m o ho=> ?_,fun m m' b hm hm' fQ fc=> ?_,fun m b hm hb=> ?_,fun b ⟨m,S,h1,h2⟩=> ?_,fun m o ho=> ?_⟩
 rotate_right
 ·rcases DA m o ho with ⟨h1,h2⟩|⟨rfl,rfl⟩
  ·rw [gC m h1];exact hst.s8 m o h2
  ·exact .inr (by simp [bq])
 rotate_right
 ·rcases DA m _ h1 with ⟨_,h4⟩|⟨_,e⟩
  ·obtain ⟨h5,h6⟩:=hst.sW b ⟨m,S,h4,h2⟩
   refine ⟨h5,fun ⟨n,h7,h8⟩=> ?_⟩
   obtain ⟨o,ho⟩:=Option.isSome_iff_exists.1 h7
   rcases DA n o ho with ⟨h9,Yu⟩|⟨rfl,rfl⟩
   ·rw [gC n h9] at h8
    exact h6 ⟨n,by simp [Yu],h8⟩
   ·simp [bq] at h8
  ·cases e
 ·rcases DA m o ho with ⟨h1,h2⟩|⟨rfl,rfl⟩
  ·have hk:=hst.kn m o h2
   exact cm (Kn:=(· <nm)) (hst.at_ m o h2) gC h1 hk.2 WR (fun _ _ h=>h) fun _ _=>rfl
  ·exact ⟨by simp [bq],gC⟩
 ·rcases DA m o ho with ⟨h1,h2⟩|⟨rfl,rfl⟩
  ·exact ⟨by omega,aF.aT (fun i hi=>by omega) o (hst.kn m o h2).2⟩
  ·exact ⟨by omega,fun i hi=>by omega⟩
 ·obtain ⟨o,ho⟩:=Option.isSome_iff_exists.1 hm
  obtain ⟨o',xE⟩:=Option.isSome_iff_exists.1 hm'
  rcases DA m o ho with ⟨h1,h2⟩|⟨rfl,rfl⟩
  ·rcases DA m' o' xE with ⟨h3,h4⟩|⟨rfl,rfl⟩
   ·rw [gC m h1] at fQ;rw [gC m' h3] at fc
    exact hst.dV m m' b (by simp [h2]) (by simp [h4]) fQ fc
   ·simp [bq] at fc
  ·simp [bq] at fQ
 ·obtain ⟨o,ho⟩:=Option.isSome_iff_exists.1 hm
  rcases DA m o ho with ⟨h1,h2⟩|⟨rfl,rfl⟩
  ·rw [gC m h1] at hb
   exact hst.kq m b (by simp [h2]) hb
  ·simp [bq] at hb
theorem St.diff {ay:iT} {W w:World} {ρ':Env} {hp:HP} {nm:Nat} {h:List aF} {v:AV} (hst:St ay W ρ' (· <h.length) (aj h) w) (hl:nm<h.length) (hg: ∀m,hp m≠some .gone) (hk: ∀m,(hp m).isSome=true->m<nm):
  St ay W ρ' (lK (· <nm) nm (vo hp nm h v)) (bX (vo hp nm h v) nm hp) w:=by
 obtain ⟨e1,e2⟩:=AF (hp:=hp) (v:=v) hl
 rw [e2]
 refine hst.less fun i o ho=> ?_
 have:=e1 i o ho (hg i) hk
 exact ⟨this,hst.kn i o this⟩
theorem St.VQ {ay:iT} {W w:World} {ρ:Env} {h:List aF} (hst:St ay W ρ (· <h.length) (aj h) w) (n:Nat):St ay W ρ (· <(h.set n .gone).length) (aj (h.set n .gone)) w:=by
 rw [List.length_set]
 refine hst.less fun i o ho=> ?_
 rw [bt,List.getElem?_set] at ho
 have:aj h i=some o:=by
  split at ho
  ·split at ho<;>simp [live] at ho
  ·rw [bt];exact ho
 exact ⟨this,hst.kn i o this⟩
end Go.Ev
namespace Go.Ev
open Go.RowKit
end Go.Ev
namespace Go.Ev
open Go.RowKit
section
variable {P:Program} {ctx:Ctx} {hp:HP} {nm:Nat} {k:Rec->Prop}
end
end Go.Ev
namespace Go.Ev
open Go.RowKit
section
variable {P:Program} {ctx:Ctx} {hp:HP} {nm:Nat} {k:Rec->Prop}
end
end Go.Ev
namespace Go.Ev
open Go.RowKit
section
variable {ka:Bool} {k u:Ty}
end
section
variable {ay:iT} {W:World} {ρ:Env} {Kn:Nat->Prop} {Γ:HP} {w:World}
end
section
variable {ay:iT} {W:World} {ρ:Env} {Kn:Nat->Prop} {Γ:HP} {w:World}
end
section
variable {P:Program} {ctx:Ctx} {hp:HP} {nm:Nat} {k:Rec->Prop}
theorem FU (hT:aO P ctx.tt) {b:Builtin} {Vx:Array TypeId} {args:List AV} (h:AJ ctx b Vx.toList args hp nm k) (ty:TypeId) (cs:Array Bool):
  ∃r,aM P ctx.X hp nm (fun Kn=> ∀x∈args,x.ok Kn) (fun ρ=>builtin b Vx ty cs (args.map (AV.af ρ)).toArray) (fun ρ=> .value (r.val.af ρ)) r/\ k r:=by
 unfold AJ at h
 split at h
 ·rename_i x
  split at h
  ·rename_i t r QW
   split at h
   ·rename_i i hi
    have ht0:Vx[0]? =some t:=by rw [<- Array.getElem?_toList,QW];rfl
    split at h
    ·rename_i hd
     refine ⟨_,aM.pure ?_,h⟩
     intro ay W ρ Kn Γ w _ _ _ _
     exact ⟨by simp [AV.af,A0.af,Cell.af,builtin,Builtin.len_,ht0,hT.u hi,hd,goInt,fT],trivial⟩
    ·rename_i e0 p0 hd
     obtain ⟨m,s,q,u,l,rk,len,tc,he,h,Bm,Tf,_,_,_,_,_,hall⟩:=nV h
     refine ⟨_,aM.pure ?_,h⟩
     intro ay W ρ Kn Γ w _ _ iC hst
     obtain ⟨_,_,_,g4,_⟩:=hall ay W ρ Kn Γ w iC hst
     exact ⟨by simp [AV.af,A0.af,Cell.af,builtin,Builtin.len_,ht0,hT.u hi,hd,goInt,fT,g4],trivial⟩
    ·rename_i hd
     refine ⟨_,aM.pure ?_,h⟩
     intro ay W ρ Kn Γ w _ _ _ _
     exact ⟨by simp [AV.af,A0.af,Cell.af,builtin,Builtin.len_,ht0,hT.u hi,hd,goInt,fT],trivial⟩
    ·rename_i hd
     refine ⟨_,aM.pure ?_,h⟩
     intro ay W ρ Kn Γ w _ _ _ _
     exact ⟨by simp [AV.af,A0.af,Cell.af,builtin,Builtin.len_,ht0,hT.u hi,hd,goInt,fT],trivial⟩
    ·exact h.elim
   ·exact h.elim
  ·exact h.elim
 ·rename_i kk a r
  split at h
  ·rename_i n hn
   refine ⟨_,aM.pure ?_,h⟩
   intro ay W ρ Kn Γ w _ _ _ _
   have:=pN (P:=P) fe Builtin.min2 (fun kk x k' y w=>by simp [Builtin.min2,fe]) ρ kk r a n hn w
   refine ⟨?_,trivial⟩
   simp [AV.af,A0.af,Cell.af,builtin,Builtin.min_,fT] at this ⊢
   rw [this];rfl
  ·exact h.elim
 ·rename_i kk a r
  split at h
  ·rename_i n hn
   refine ⟨_,aM.pure ?_,h⟩
   intro ay W ρ Kn Γ w _ _ _ _
   have:=pN (P:=P) eI Builtin.max2 (fun kk x k' y w=>by simp [Builtin.max2,eI]) ρ kk r a n hn w
   refine ⟨?_,trivial⟩
   simp [AV.af,A0.af,Cell.af,builtin,Builtin.max_,fT] at this ⊢
   rw [this];rfl
  ·exact h.elim
 ·rename_i x y
  split at h
  rotate_left
  ·exact h.elim
  rename_i t t' QW
  split at h
  rotate_left
  ·exact h.elim
  rename_i i i' hi hi'
  split at h
  rotate_left
  ·exact h.elim
  rename_i e e' hd hd'
  split at h
  rotate_left
  ·exact h.elim
  rename_i ei jR
  have key: ∃r,aM P ctx.X hp nm (fun Kn=>x.ok Kn/\ y.ok Kn) (fun ρ=>Builtin.append_ #[t,t'] ty #[x.af ρ,y.af ρ]) (fun ρ=>r.val.af ρ) r/\ k r:=by
   exact Hu (ty:=ty) (nm:=nm) hT (by rw [(hT t i hi).1,hd]) (by rw [(hT t' i' hi').1,hd']) jR h
  obtain ⟨r,hr,hk⟩:=key
  refine ⟨r,⟨hr.1,fun ay W ρ Kn Γ w hX hok ht hf hst=> ?_⟩,hk⟩
  obtain ⟨ρ',w',h1,h2⟩:=hr.2 ay W ρ Kn Γ w hX ⟨hok x (by simp),hok y (by simp)⟩ ht hf hst
  refine ⟨ρ',w',?_,h2⟩
  have et:Vx= #[t,t']:=by apply Array.ext';rw [QW]
  subst et
  simp only [List.map_cons,List.map_nil,builtin,Sem.run_bind]
  rw [h1];rfl
 ·rename_i x y
  split at h
  rotate_left
  ·exact h.elim
  rename_i t t' QW
  split at h
  rotate_left
  ·exact h.elim
  rename_i i hi
  split at h
  rotate_left
  ·exact h.elim
  rename_i e hd
  split at h
  rotate_left
  ·exact h.elim
  rename_i ei jR
  obtain ⟨r,hr,hk⟩:=Nx (ty:=ty) (t':=t') (nm:=nm) hT (by rw [(hT t i hi).1,hd]) jR h
  refine ⟨r,⟨hr.1,fun ay W ρ Kn Γ w hX hok ht hf hst=> ?_⟩,hk⟩
  obtain ⟨ρ',w',h1,h2⟩:=hr.2 ay W ρ Kn Γ w hX ⟨hok x (by simp),hok y (by simp)⟩ ht hf hst
  refine ⟨ρ',w',?_,h2⟩
  have et:Vx= #[t,t']:=by apply Array.ext';rw [QW]
  subst et
  simp only [List.map_cons,List.map_nil,builtin,Sem.run_bind]
  rw [h1];rfl
 ·exact h.elim
end
end Go.Ev
namespace Go.Ev
open Go.RowKit
section
variable {ka:Bool} {k u:Ty}
end
section
variable {ay:iT} {W:World} {ρ:Env} {Kn:Nat->Prop} {Γ:HP} {w:World}
end
end Go.Ev
