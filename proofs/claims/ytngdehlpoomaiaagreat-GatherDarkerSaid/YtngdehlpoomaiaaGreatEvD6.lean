/- What is done to what is named. -/
import Derived.Test.YtngdehlpoomaiaaGreatEvD3
import Derived.MapKept
import Derived.Maps.RangeRun
noncomputable section
set_option linter.unusedSectionVars false
set_option linter.unusedVariables false
set_option linter.unusedSimpArgs false
namespace Go.Ev
open Go.RowKit
theorem St.less {aq:e8} {W w:World} {ρ:Env} {Kn Mn:Nat->Prop} {Γ wO:HP} (h:St aq W ρ Kn Γ w) (hs: ∀m o,wO m=some o->Γ m=some o/\ Mn m/\ o.ok Mn):St aq W ρ Mn wO w:=by
 have hsome: ∀n,(wO n).isSome=true->(Γ n).isSome=true:=fun n hn=>by
  obtain ⟨o,ho⟩:=Option.isSome_iff_exists.1 hn
  rw [(hs n o ho).1];rfl
 refine ⟨h.fr,fun n o ho=> ?_,fun n o ho=>(hs n o ho).2,fun n m b hn hm=>h.dK n m b (hsome n hn) (hsome m hm),fun n b hn=>h.jX n b (hsome n hn),fun b ⟨m,S,h1,h2⟩=> ?_,fun n o ho=>h.sR n o (hs n o ho).1⟩
 rotate_right
 ·obtain ⟨h3,h4⟩:=h.oK b ⟨m,S,(hs m _ h1).1,h2⟩
  exact ⟨h3,fun ⟨n,h5,h6⟩=>h4 ⟨n,hsome n h5,h6⟩⟩
 have h1:=(hs n o ho).1
 refine cq (Kn:=Kn) (h.at_ n o h1) (fun _ _=>rfl) (h.kn n o h1).1 (h.kn n o h1).2 (fun b hb=>⟨⟨hb.1,?_⟩,rfl⟩) (fun _ _ h=>h) fun _ _=>rfl
 rintro (⟨m,h2,h3⟩|⟨m,S,h2,h3⟩)
 ·exact hb.2 (.inl ⟨m,hsome m h2,h3⟩)
 ·exact hb.2 (.inr ⟨m,S,(hs m _ h2).1,h3⟩)
theorem bu (h:List aF) (m:Nat):ai h m=live h[m]? :=by
 unfold ai live;split<;>simp_all
theorem eM {h:List aF} {n:Nat} {o:aF} (ho:ai h n=some o):n<h.length:=by
 rcases Nat.lt_or_ge n h.length with hn|hn
 ·exact hn
 ·simp [ai,List.getElem?_eq_none hn] at ho
theorem de {o:Option aF} {ρ:Env} {n:Nat} {K:Prop} (h:pE o ρ n K):o=some (.cw ρ n)/\ K:=by
 unfold pE at h
 split at h
 ·obtain ⟨rfl,rfl,h⟩:=h;exact ⟨rfl,h⟩
 ·exact h.elim
theorem bP (hp:HP): ∀n,(gY hp n).length=n
 |0=>rfl
 |n+1=>by simp [gY,bP hp n]
theorem E6 (hp:HP): ∀n m,m<n->(gY hp n)[m]? =some (match hp m with|some o=>o|none=> .gone)
 |0,_,h=>by omega
 |n+1,m,h=>by
  simp only [gY]
  rcases Nat.lt_or_ge m n with h1|h1
  ·rw [List.getElem?_append_left (by rw [bP];exact h1),E6 hp n m h1]
  ·have:m=n:=by omega
   subst this
   rw [List.getElem?_append_right (by rw [bP];exact Nat.le_refl _),bP]
   simp only [Nat.sub_self,List.getElem?_cons_zero]
   cases hp m<;>rfl
theorem Cu {hp:HP} {n m:Nat} (hm:m<n) (hg:hp m≠some .gone):live ((gY hp n)[m]?)=hp m:=by
 rw [E6 hp n m hm]
 cases h:hp m with
 |none=>rfl
 |some o=>cases o<;>first|rfl|exact absurd h hg
theorem zf {hp:HP} {h:List aF} : ∀ {n:Nat} {p:Nat×aF},p∈Lx hp h n->hp p.1≠none
 |0,p,hm=>by simp [Lx] at hm
 |n+1,p,hm=>by
  simp only [Lx] at hm
  split at hm
  ·rename_i o ho
   rcases List.mem_append.1 hm with h1|h1
   ·exact zf h1
   ·simp only [List.mem_singleton] at h1;subst h1;simp [ho]
  ·exact zf hm
theorem LI (a b:List (Nat×aF)) (m:Nat):bZ (a++b) m=match bZ b m with|some o=>some o|none=>bZ a m:=by
 induction a with
 |nil=>simp [bZ];cases bZ b m<;>rfl
 |cons p r ih=>
  simp only [List.cons_append,bZ,ih]
  cases bZ b m with
  |some o=>rfl
  |none=>rfl
theorem xU {hp:HP} {h:List aF} {m:Nat} : ∀n,bZ (Lx hp h n) m=if m<n/\ (hp m).isSome=true then some (match h[m]? with|some o=>o|none=> .gone) else none
 |0=>by simp [Lx,bZ]
 |n+1=>by
  simp only [Lx]
  cases hn:hp n with
  |none=>
   dsimp only
   rw [xU n]
   by_cases e:m=n
   ·subst e;simp [hn]
   ·have:(m<n+1)=(m<n):=by apply propext;omega
    simp [this]
  |some o=>
   dsimp only
   rw [LI,xU n]
   simp only [bZ]
   by_cases e:n=m
   ·subst e
    simp [hn]
    cases h[n]? <;>rfl
   ·have:(m<n+1)=(m<n):=by apply propext;omega
    rw [if_neg e];simp [this]
theorem El {hp:HP} {nm:Nat} {h:List aF} {v:AV} (hl:nm<h.length):(∀m o,bU (yP hp nm h v) nm hp m=some o->hp m≠some .gone->(∀m,(hp m).isSome=true->m<nm)->ai h m=some o)/\ mH (· <nm) nm (yP hp nm h v)=(· <h.length):=by
 constructor
 ·intro m o hm hg hk
  simp only [bU,yP,List.length_drop,List.length_set] at hm
  rw [bu]
  split at hm
  ·rename_i hc
   rw [List.getElem?_drop,show nm+(m- nm)=m by omega,List.getElem?_set] at hm
   split at hm
   ·rename_i e
    simp [live] at hm
   ·exact hm
  ·rw [xU] at hm
   by_cases hc:m<nm/\ (hp m).isSome=true
   ·rw [if_pos hc] at hm
    have:m<h.length:=by omega
    rw [List.getElem?_eq_getElem this] at hm ⊢
    exact hm
   ·rw [if_neg hc] at hm
    have:(hp m).isSome=true:=by simp [hm]
    exact absurd ⟨hk m this,this⟩ hc
 ·funext m
  simp only [mH,yP,List.length_drop,List.length_set]
  apply propext;omega
theorem St.pinned {aq:e8} {W w:World} {ρ:Env} {hp:HP} {nm:Nat} (hst:St aq W ρ (· <nm) hp w):
  ∃sO:Env,(∀m,m<nm->sO m=ρ m)/\ St aq W sO (· <nm+1) (ai (gY hp nm++ [.cw ρ nm])) w:=by
 have IT: ∀m,hp m≠some .gone:=fun m e=>hst.at_ m _ e
 have h3l:(gY hp nm++ [aF.cw ρ nm]).length=nm+1:=by simp [bP]
 have eV: ∀m,m<nm->bw ρ nm {} m=ρ m:=fun m hm=>by simp only [bw];rw [if_neg (by omega)]
 have DE: ∀m o,ai (gY hp nm++ [aF.cw ρ nm]) m=some o->(m<nm/\ hp m=some o)\/ (m=nm/\ o= .cw ρ nm):=by
  intro m o ho
  have hlt:=eM ho
  rw [bu] at ho
  rcases Nat.lt_or_ge m nm with h1|h1
  ·rw [List.getElem?_append_left (by rw [bP];exact h1),Cu h1 (IT m)] at ho
   exact .inl ⟨h1,ho⟩
  ·have:m=nm:=by omega
   subst this
   rw [List.getElem?_append_right (by rw [bP];exact Nat.le_refl _),bP] at ho
   simp only [Nat.sub_self,List.getElem?_cons_zero,live,Option.some.injEq] at ho
   exact .inr ⟨rfl,ho.symm⟩
 have af2: ∀b,dM ρ hp w b->dM (bw ρ nm {}) (ai (gY hp nm++ [aF.cw ρ nm])) w b/\ w.heap[b]? =w.heap[b]? :=fun b hb=>by
  refine ⟨⟨hb.1,?_⟩,rfl⟩
  rintro (⟨m,h1,h2⟩|⟨m,S,h1,h2⟩)
  ·obtain ⟨o,ho⟩:=Option.isSome_iff_exists.1 h1
   rcases DE m o ho with ⟨h3,h4⟩|⟨rfl,rfl⟩
   ·rw [eV m h3] at h2
    exact hb.2 (.inl ⟨m,by simp [h4],h2⟩)
   ·simp [bw] at h2
  ·rcases DE m _ h1 with ⟨h3,h4⟩|⟨rfl,e⟩
   ·exact hb.2 (.inr ⟨m,S,h4,h2⟩)
   ·cases e
 refine ⟨bw ρ nm {},eV,hst.fr,fun m o ho=> ?_,fun m o ho=> ?_,fun m m' b hm hm' fK dI=> ?_,fun m b hm hb=> ?_,fun b ⟨m,S,h1,h2⟩=> ?_,fun m o ho=> ?_⟩
 rotate_right
 ·rcases DE m o ho with ⟨h1,h2⟩|⟨rfl,rfl⟩
  ·rw [eV m h1];exact hst.sR m o h2
  ·exact .inr (by simp [bw])
 rotate_right
 ·rcases DE m _ h1 with ⟨_,h4⟩|⟨_,e⟩
  ·obtain ⟨h5,h6⟩:=hst.oK b ⟨m,S,h4,h2⟩
   refine ⟨h5,fun ⟨n,h7,h8⟩=> ?_⟩
   obtain ⟨o,ho⟩:=Option.isSome_iff_exists.1 h7
   rcases DE n o ho with ⟨h9,h10⟩|⟨rfl,rfl⟩
   ·rw [eV n h9] at h8
    exact h6 ⟨n,by simp [h10],h8⟩
   ·simp [bw] at h8
  ·cases e
 ·rcases DE m o ho with ⟨h1,h2⟩|⟨rfl,rfl⟩
  ·have hk:=hst.kn m o h2
   exact cq (Kn:=(· <nm)) (hst.at_ m o h2) eV h1 hk.2 af2 (fun _ _ h=>h) fun _ _=>rfl
  ·exact ⟨by simp [bw],eV⟩
 ·rcases DE m o ho with ⟨h1,h2⟩|⟨rfl,rfl⟩
  ·exact ⟨by omega,aF.aV (fun i hi=>by omega) o (hst.kn m o h2).2⟩
  ·exact ⟨by omega,fun i hi=>by omega⟩
 ·obtain ⟨o,ho⟩:=Option.isSome_iff_exists.1 hm
  obtain ⟨o',AZ⟩:=Option.isSome_iff_exists.1 hm'
  rcases DE m o ho with ⟨h1,h2⟩|⟨rfl,rfl⟩
  ·rcases DE m' o' AZ with ⟨h3,h4⟩|⟨rfl,rfl⟩
   ·rw [eV m h1] at fK;rw [eV m' h3] at dI
    exact hst.dK m m' b (by simp [h2]) (by simp [h4]) fK dI
   ·simp [bw] at dI
  ·simp [bw] at fK
 ·obtain ⟨o,ho⟩:=Option.isSome_iff_exists.1 hm
  rcases DE m o ho with ⟨h1,h2⟩|⟨rfl,rfl⟩
  ·rw [eV m h1] at hb
   exact hst.jX m b (by simp [h2]) hb
  ·simp [bw] at hb
theorem St.diff {aq:e8} {W w:World} {ρ':Env} {hp:HP} {nm:Nat} {h:List aF} {v:AV} (hst:St aq W ρ' (· <h.length) (ai h) w) (hl:nm<h.length) (hg: ∀m,hp m≠some .gone) (hk: ∀m,(hp m).isSome=true->m<nm):
  St aq W ρ' (mH (· <nm) nm (yP hp nm h v)) (bU (yP hp nm h v) nm hp) w:=by
 obtain ⟨e1,e2⟩:=El (hp:=hp) (v:=v) hl
 rw [e2]
 refine hst.less fun i o ho=> ?_
 have:=e1 i o ho (hg i) hk
 exact ⟨this,hst.kn i o this⟩
theorem St.Yh {aq:e8} {W w:World} {ρ:Env} {h:List aF} (hst:St aq W ρ (· <h.length) (ai h) w) (n:Nat):St aq W ρ (· <(h.set n .gone).length) (ai (h.set n .gone)) w:=by
 rw [List.length_set]
 refine hst.less fun i o ho=> ?_
 rw [bu,List.getElem?_set] at ho
 have:ai h i=some o:=by
  split at ho
  ·split at ho<;>simp [live] at ho
  ·rw [bu];exact ho
 exact ⟨this,hst.kn i o this⟩
end Go.Ev
namespace Go.Ev
open Go.RowKit
end Go.Ev
namespace Go.Ev
open Go.RowKit
section
variable {P:Program} {ctx:Ctx} {hp:HP} {nm:Nat} {k:Rec->Prop}
end
end Go.Ev
namespace Go.Ev
open Go.RowKit
section
variable {P:Program} {ctx:Ctx} {hp:HP} {nm:Nat} {k:Rec->Prop}
end
end Go.Ev
namespace Go.Ev
open Go.RowKit
section
variable {ka:Bool} {k u:Ty}
end
section
variable {aq:e8} {W:World} {ρ:Env} {Kn:Nat->Prop} {Γ:HP} {w:World}
end
section
variable {aq:e8} {W:World} {ρ:Env} {Kn:Nat->Prop} {Γ:HP} {w:World}
end
section
variable {P:Program} {ctx:Ctx} {hp:HP} {nm:Nat} {k:Rec->Prop}
theorem K0 (hT:aK P ctx.tt) {b:Builtin} {tys:Array TypeId} {args:List AV} (h:Ew ctx b tys.toList args hp nm k) (ty:TypeId) (cs:Array Bool):
  ∃r,aM P ctx.X hp nm (fun Kn=> ∀x∈args,x.ok Kn) (fun ρ=>builtin b tys ty cs (args.map (AV.ae ρ)).toArray) (fun ρ=> .value (r.val.ae ρ)) r/\ k r:=by
 unfold Ew at h
 split at h
 ·rename_i x
  split at h
  ·rename_i t r Zh
   split at h
   ·rename_i i hi
    have ht0:tys[0]? =some t:=by rw [<- Array.getElem?_toList,Zh];rfl
    split at h
    ·rename_i hd
     refine ⟨_,aM.pure ?_,h⟩
     intro aq W ρ Kn Γ w _ _ _ _
     exact ⟨by simp [AV.ae,A0.ae,Cell.ae,builtin,Builtin.len_,ht0,hT.u hi,hd,goInt,gp],trivial⟩
    ·rename_i e0 p0 hd
     obtain ⟨m,s,q,u,l,rk,len,tc,he,h,Fe,hm2,_,_,_,_,_,hall⟩:=pP h
     refine ⟨_,aM.pure ?_,h⟩
     intro aq W ρ Kn Γ w _ _ je hst
     obtain ⟨_,_,_,g4,_⟩:=hall aq W ρ Kn Γ w je hst
     exact ⟨by simp [AV.ae,A0.ae,Cell.ae,builtin,Builtin.len_,ht0,hT.u hi,hd,goInt,gp,g4],trivial⟩
    ·rename_i hd
     refine ⟨_,aM.pure ?_,h⟩
     intro aq W ρ Kn Γ w _ _ _ _
     exact ⟨by simp [AV.ae,A0.ae,Cell.ae,builtin,Builtin.len_,ht0,hT.u hi,hd,goInt,gp],trivial⟩
    ·rename_i hd
     refine ⟨_,aM.pure ?_,h⟩
     intro aq W ρ Kn Γ w _ _ _ _
     exact ⟨by simp [AV.ae,A0.ae,Cell.ae,builtin,Builtin.len_,ht0,hT.u hi,hd,goInt,gp],trivial⟩
    ·exact h.elim
   ·exact h.elim
  ·exact h.elim
 ·rename_i kk a r
  split at h
  ·rename_i n hn
   refine ⟨_,aM.pure ?_,h⟩
   intro aq W ρ Kn Γ w _ _ _ _
   have:=rO (P:=P) aY Builtin.min2 (fun kk x k' y w=>by simp [Builtin.min2,aY]) ρ kk r a n hn w
   refine ⟨?_,trivial⟩
   simp [AV.ae,A0.ae,Cell.ae,builtin,Builtin.min_,gp] at this ⊢
   rw [this];rfl
  ·exact h.elim
 ·rename_i kk a r
  split at h
  ·rename_i n hn
   refine ⟨_,aM.pure ?_,h⟩
   intro aq W ρ Kn Γ w _ _ _ _
   have:=rO (P:=P) aT Builtin.max2 (fun kk x k' y w=>by simp [Builtin.max2,aT]) ρ kk r a n hn w
   refine ⟨?_,trivial⟩
   simp [AV.ae,A0.ae,Cell.ae,builtin,Builtin.max_,gp] at this ⊢
   rw [this];rfl
  ·exact h.elim
 ·rename_i x y
  split at h
  rotate_left
  ·exact h.elim
  rename_i t t' Zh
  split at h
  rotate_left
  ·exact h.elim
  rename_i i i' hi hi'
  split at h
  rotate_left
  ·exact h.elim
  rename_i e e' hd hd'
  split at h
  rotate_left
  ·exact h.elim
  rename_i ei kN
  have key: ∃r,aM P ctx.X hp nm (fun Kn=>x.ok Kn/\ y.ok Kn) (fun ρ=>Builtin.append_ #[t,t'] ty #[x.ae ρ,y.ae ρ]) (fun ρ=>r.val.ae ρ) r/\ k r:=by
   exact MH (ty:=ty) (nm:=nm) hT (by rw [(hT t i hi).1,hd]) (by rw [(hT t' i' hi').1,hd']) kN h
  obtain ⟨r,hr,hk⟩:=key
  refine ⟨r,⟨hr.1,fun aq W ρ Kn Γ w hX hok ht hf hst=> ?_⟩,hk⟩
  obtain ⟨ρ',w',h1,h2⟩:=hr.2 aq W ρ Kn Γ w hX ⟨hok x (by simp),hok y (by simp)⟩ ht hf hst
  refine ⟨ρ',w',?_,h2⟩
  have et:tys= #[t,t']:=by apply Array.ext';rw [Zh]
  subst et
  simp only [List.map_cons,List.map_nil,builtin,Sem.run_bind]
  rw [h1];rfl
 ·rename_i x y
  split at h
  rotate_left
  ·exact h.elim
  rename_i t t' Zh
  split at h
  rotate_left
  ·exact h.elim
  rename_i i hi
  split at h
  rotate_left
  ·exact h.elim
  rename_i e hd
  split at h
  rotate_left
  ·exact h.elim
  rename_i ei kN
  obtain ⟨r,hr,hk⟩:=US (ty:=ty) (t':=t') (nm:=nm) hT (by rw [(hT t i hi).1,hd]) kN h
  refine ⟨r,⟨hr.1,fun aq W ρ Kn Γ w hX hok ht hf hst=> ?_⟩,hk⟩
  obtain ⟨ρ',w',h1,h2⟩:=hr.2 aq W ρ Kn Γ w hX ⟨hok x (by simp),hok y (by simp)⟩ ht hf hst
  refine ⟨ρ',w',?_,h2⟩
  have et:tys= #[t,t']:=by apply Array.ext';rw [Zh]
  subst et
  simp only [List.map_cons,List.map_nil,builtin,Sem.run_bind]
  rw [h1];rfl
 ·exact h.elim
end
end Go.Ev
namespace Go.Ev
open Go.RowKit
section
variable {ka:Bool} {k u:Ty}
end
section
variable {aq:e8} {W:World} {ρ:Env} {Kn:Nat->Prop} {Γ:HP} {w:World}
end
end Go.Ev
