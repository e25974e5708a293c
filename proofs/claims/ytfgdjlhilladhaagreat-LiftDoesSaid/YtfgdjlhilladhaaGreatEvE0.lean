/- What is done to what is named. -/
import Derived.Test.YtfgdjlhilladhaaGreatEvD3
noncomputable section
set_option linter.unusedSectionVars false
set_option linter.unusedVariables false
set_option linter.unusedSimpArgs false
namespace Go.Ev
open Go.RowKit
theorem St.less {aC:mY} {W w:World} {ρ:Env} {Kn SR:Nat->Prop} {Γ AI:HP} (h:St aC W ρ Kn Γ w) (hs: ∀m o,AI m=some o->Γ m=some o/\ SR m/\ o.ok SR):St aC W ρ SR AI w:=by
 have hsome: ∀n,(AI n).isSome=true->(Γ n).isSome=true:=fun n hn=>by
  obtain ⟨o,ho⟩:=Option.isSome_iff_exists.1 hn
  rw [(hs n o ho).1];rfl
 refine ⟨h.fr,fun n o ho=> ?_,fun n o ho=>(hs n o ho).2,fun n m b hn hm=>h.qC n m b (hsome n hn) (hsome m hm),fun n b hn=>h.yb n b (hsome n hn),fun b ⟨m,S,h1,h2⟩=> ?_,fun n o ho=>h.Nl n o (hs n o ho).1⟩
 rotate_right
 ·obtain ⟨h3,h4⟩:=h.F5 b ⟨m,S,(hs m _ h1).1,h2⟩
  exact ⟨h3,fun ⟨n,h5,h6⟩=>h4 ⟨n,hsome n h5,h6⟩⟩
 have h1:=(hs n o ho).1
 refine dj (Kn:=Kn) (h.at_ n o h1) (fun _ _=>rfl) (h.kn n o h1).1 (h.kn n o h1).2 (fun b hb=>⟨⟨hb.1,?_⟩,rfl⟩) (fun _ _ h=>h) fun _ _=>rfl
 rintro (⟨m,h2,h3⟩|⟨m,S,h2,h3⟩)
 ·exact hb.2 (.inl ⟨m,hsome m h2,h3⟩)
 ·exact hb.2 (.inr ⟨m,S,(hs m _ h2).1,h3⟩)
theorem bY (h:List aX) (m:Nat):aA h m=live h[m]? :=by
 unfold aA live;split<;>simp_all
theorem iX {h:List aX} {n:Nat} {o:aX} (ho:aA h n=some o):n<h.length:=by
 rcases Nat.lt_or_ge n h.length with hn|hn
 ·exact hn
 ·simp [aA,List.getElem?_eq_none hn] at ho
theorem qD {o:Option aX} {ρ:Env} {n:Nat} {K:Prop} (h:KC o ρ n K):o=some (.ji ρ n)/\ K:=by
 unfold KC at h
 split at h
 ·obtain ⟨rfl,rfl,h⟩:=h;exact ⟨rfl,h⟩
 ·exact h.elim
theorem bW (hp:HP): ∀n,(lY hp n).length=n
 |0=>rfl
 |n+1=>by simp [lY,bW hp n]
theorem Kk (hp:HP): ∀n m,m<n->(lY hp n)[m]? =some (match hp m with|some o=>o|none=> .gone)
 |0,_,h=>by omega
 |n+1,m,h=>by
  simp only [lY]
  rcases Nat.lt_or_ge m n with h1|h1
  ·rw [List.getElem?_append_left (by rw [bW];exact h1),Kk hp n m h1]
  ·have:m=n:=by omega
   subst this
   rw [List.getElem?_append_right (by rw [bW];exact Nat.le_refl _),bW]
   simp only [Nat.sub_self,List.getElem?_cons_zero]
   cases hp m<;>rfl
theorem Hj {hp:HP} {n m:Nat} (hm:m<n) (hg:hp m≠some .gone):live ((lY hp n)[m]?)=hp m:=by
 rw [Kk hp n m hm]
 cases h:hp m with
 |none=>rfl
 |some o=>cases o<;>first|rfl|exact absurd h hg
theorem C4 {hp:HP} {h:List aX} : ∀ {n:Nat} {p:Nat×aX},p∈Rk hp h n->hp p.1≠none
 |0,p,hm=>by simp [Rk] at hm
 |n+1,p,hm=>by
  simp only [Rk] at hm
  split at hm
  ·rename_i o ho
   rcases List.mem_append.1 hm with h1|h1
   ·exact C4 h1
   ·simp only [List.mem_singleton] at h1;subst h1;simp [ho]
  ·exact C4 hm
theorem Rp (a b:List (Nat×aX)) (m:Nat):dP (a++b) m=match dP b m with|some o=>some o|none=>dP a m:=by
 induction a with
 |nil=>simp [dP];cases dP b m<;>rfl
 |cons p r ih=>
  simp only [List.cons_append,dP,ih]
  cases dP b m with
  |some o=>rfl
  |none=>rfl
theorem BZ {hp:HP} {h:List aX} {m:Nat} : ∀n,dP (Rk hp h n) m=if m<n/\ (hp m).isSome=true then some (match h[m]? with|some o=>o|none=> .gone) else none
 |0=>by simp [Rk,dP]
 |n+1=>by
  simp only [Rk]
  cases hn:hp n with
  |none=>
   dsimp only
   rw [BZ n]
   by_cases e:m=n
   ·subst e;simp [hn]
   ·have:(m<n+1)=(m<n):=by apply propext;omega
    simp [this]
  |some o=>
   dsimp only
   rw [Rp,BZ n]
   simp only [dP]
   by_cases e:n=m
   ·subst e
    simp [hn]
    cases h[n]? <;>rfl
   ·have:(m<n+1)=(m<n):=by apply propext;omega
    rw [if_neg e];simp [this]
theorem JL {hp:HP} {nm:Nat} {h:List aX} {v:AV} (hl:nm<h.length):(∀m o,dO (CN hp nm h v) nm hp m=some o->hp m≠some .gone->(∀m,(hp m).isSome=true->m<nm)->aA h m=some o)/\ tP (· <nm) nm (CN hp nm h v)=(· <h.length):=by
 constructor
 ·intro m o hm hg hk
  simp only [dO,CN,List.length_drop,List.length_set] at hm
  rw [bY]
  split at hm
  ·rename_i hc
   rw [List.getElem?_drop,show nm+(m- nm)=m by omega,List.getElem?_set] at hm
   split at hm
   ·rename_i e
    simp [live] at hm
   ·exact hm
  ·rw [BZ] at hm
   by_cases hc:m<nm/\ (hp m).isSome=true
   ·rw [if_pos hc] at hm
    have:m<h.length:=by omega
    rw [List.getElem?_eq_getElem this] at hm ⊢
    exact hm
   ·rw [if_neg hc] at hm
    have:(hp m).isSome=true:=by simp [hm]
    exact absurd ⟨hk m this,this⟩ hc
 ·funext m
  simp only [tP,CN,List.length_drop,List.length_set]
  apply propext;omega
theorem St.pinned {aC:mY} {W w:World} {ρ:Env} {hp:HP} {nm:Nat} (hst:St aC W ρ (· <nm) hp w):
  ∃MZ:Env,(∀m,m<nm->MZ m=ρ m)/\ St aC W MZ (· <nm+1) (aA (lY hp nm++ [.ji ρ nm])) w:=by
 have Oo: ∀m,hp m≠some .gone:=fun m e=>hst.at_ m _ e
 have h3l:(lY hp nm++ [aX.ji ρ nm]).length=nm+1:=by simp [bW]
 have j9: ∀m,m<nm->b9 ρ nm {} m=ρ m:=fun m hm=>by simp only [b9];rw [if_neg (by omega)]
 have Nf: ∀m o,aA (lY hp nm++ [aX.ji ρ nm]) m=some o->(m<nm/\ hp m=some o)\/ (m=nm/\ o= .ji ρ nm):=by
  intro m o ho
  have hlt:=iX ho
  rw [bY] at ho
  rcases Nat.lt_or_ge m nm with h1|h1
  ·rw [List.getElem?_append_left (by rw [bW];exact h1),Hj h1 (Oo m)] at ho
   exact .inl ⟨h1,ho⟩
  ·have:m=nm:=by omega
   subst this
   rw [List.getElem?_append_right (by rw [bW];exact Nat.le_refl _),bW] at ho
   simp only [Nat.sub_self,List.getElem?_cons_zero,live,Option.some.injEq] at ho
   exact .inr ⟨rfl,ho.symm⟩
 have ajt: ∀b,lV ρ hp w b->lV (b9 ρ nm {}) (aA (lY hp nm++ [aX.ji ρ nm])) w b/\ w.heap[b]? =w.heap[b]? :=fun b hb=>by
  refine ⟨⟨hb.1,?_⟩,rfl⟩
  rintro (⟨m,h1,h2⟩|⟨m,S,h1,h2⟩)
  ·obtain ⟨o,ho⟩:=Option.isSome_iff_exists.1 h1
   rcases Nf m o ho with ⟨h3,h4⟩|⟨rfl,rfl⟩
   ·rw [j9 m h3] at h2
    exact hb.2 (.inl ⟨m,by simp [h4],h2⟩)
   ·simp [b9] at h2
  ·rcases Nf m _ h1 with ⟨h3,h4⟩|⟨rfl,e⟩
   ·exact hb.2 (.inr ⟨m,S,h4,h2⟩)
   ·cases e
 refine ⟨b9 ρ nm {},j9,hst.fr,fun m o ho=> ?_,fun m o ho=> ?_,fun m m' b hm hm' lX kH=> ?_,fun m b hm hb=> ?_,fun b ⟨m,S,h1,h2⟩=> ?_,fun m o ho=> ?_⟩
 rotate_right
 ·rcases Nf m o ho with ⟨h1,h2⟩|⟨rfl,rfl⟩
  ·rw [j9 m h1];exact hst.Nl m o h2
  ·exact .inr (by simp [b9])
 rotate_right
 ·rcases Nf m _ h1 with ⟨_,h4⟩|⟨_,e⟩
  ·obtain ⟨h5,h6⟩:=hst.F5 b ⟨m,S,h4,h2⟩
   refine ⟨h5,fun ⟨n,h7,h8⟩=> ?_⟩
   obtain ⟨o,ho⟩:=Option.isSome_iff_exists.1 h7
   rcases Nf n o ho with ⟨h9,h10⟩|⟨rfl,rfl⟩
   ·rw [j9 n h9] at h8
    exact h6 ⟨n,by simp [h10],h8⟩
   ·simp [b9] at h8
  ·cases e
 ·rcases Nf m o ho with ⟨h1,h2⟩|⟨rfl,rfl⟩
  ·have hk:=hst.kn m o h2
   exact dj (Kn:=(· <nm)) (hst.at_ m o h2) j9 h1 hk.2 ajt (fun _ _ h=>h) fun _ _=>rfl
  ·exact ⟨by simp [b9],j9⟩
 ·rcases Nf m o ho with ⟨h1,h2⟩|⟨rfl,rfl⟩
  ·exact ⟨by omega,aX.bG (fun i hi=>by omega) o (hst.kn m o h2).2⟩
  ·exact ⟨by omega,fun i hi=>by omega⟩
 ·obtain ⟨o,ho⟩:=Option.isSome_iff_exists.1 hm
  obtain ⟨o',Cx⟩:=Option.isSome_iff_exists.1 hm'
  rcases Nf m o ho with ⟨h1,h2⟩|⟨rfl,rfl⟩
  ·rcases Nf m' o' Cx with ⟨h3,h4⟩|⟨rfl,rfl⟩
   ·rw [j9 m h1] at lX;rw [j9 m' h3] at kH
    exact hst.qC m m' b (by simp [h2]) (by simp [h4]) lX kH
   ·simp [b9] at kH
  ·simp [b9] at lX
 ·obtain ⟨o,ho⟩:=Option.isSome_iff_exists.1 hm
  rcases Nf m o ho with ⟨h1,h2⟩|⟨rfl,rfl⟩
  ·rw [j9 m h1] at hb
   exact hst.yb m b (by simp [h2]) hb
  ·simp [b9] at hb
theorem St.diff {aC:mY} {W w:World} {ρ':Env} {hp:HP} {nm:Nat} {h:List aX} {v:AV} (hst:St aC W ρ' (· <h.length) (aA h) w) (hl:nm<h.length) (hg: ∀m,hp m≠some .gone) (hk: ∀m,(hp m).isSome=true->m<nm):
  St aC W ρ' (tP (· <nm) nm (CN hp nm h v)) (dO (CN hp nm h v) nm hp) w:=by
 obtain ⟨e1,e2⟩:=JL (hp:=hp) (v:=v) hl
 rw [e2]
 refine hst.less fun i o ho=> ?_
 have:=e1 i o ho (hg i) hk
 exact ⟨this,hst.kn i o this⟩
theorem St.akO {aC:mY} {W w:World} {ρ:Env} {h:List aX} (hst:St aC W ρ (· <h.length) (aA h) w) (n:Nat):St aC W ρ (· <(h.set n .gone).length) (aA (h.set n .gone)) w:=by
 rw [List.length_set]
 refine hst.less fun i o ho=> ?_
 rw [bY,List.getElem?_set] at ho
 have:aA h i=some o:=by
  split at ho
  ·split at ho<;>simp [live] at ho
  ·rw [bY];exact ho
 exact ⟨this,hst.kn i o this⟩
end Go.Ev
