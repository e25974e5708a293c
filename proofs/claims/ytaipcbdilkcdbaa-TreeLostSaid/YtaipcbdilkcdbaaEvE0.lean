/- What is done to what is named. -/
import Derived.Test.YtaipcbdilkcdbaaEvD3
noncomputable section
set_option linter.unusedSectionVars false
set_option linter.unusedVariables false
set_option linter.unusedSimpArgs false
namespace Go.Ev
open Go.RowKit
theorem St.less {ax:iV} {W w:World} {ρ:Env} {Kn Ag:Nat->Prop} {Γ ow:HP} (h:St ax W ρ Kn Γ w) (hs: ∀m o,ow m=some o->Γ m=some o/\ Ag m/\ o.ok Ag):St ax W ρ Ag ow w:=by
 have hsome: ∀n,(ow n).isSome=true->(Γ n).isSome=true:=fun n hn=>by
  obtain ⟨o,ho⟩:=Option.isSome_iff_exists.1 hn
  rw [(hs n o ho).1];rfl
 refine ⟨h.fr,fun n o ho=> ?_,fun n o ho=>(hs n o ho).2,fun n m b hn hm=>h.cW n m b (hsome n hn) (hsome m hm),fun n b hn=>h.jR n b (hsome n hn),fun b ⟨m,S,h1,h2⟩=> ?_,fun n o ho=>h.qI n o (hs n o ho).1⟩
 rotate_right
 ·obtain ⟨h3,h4⟩:=h.rH b ⟨m,S,(hs m _ h1).1,h2⟩
  exact ⟨h3,fun ⟨n,h5,h6⟩=>h4 ⟨n,hsome n h5,h6⟩⟩
 have h1:=(hs n o ho).1
 refine ct (Kn:=Kn) (h.at_ n o h1) (fun _ _=>rfl) (h.kn n o h1).1 (h.kn n o h1).2 (fun b hb=>⟨⟨hb.1,?_⟩,rfl⟩) (fun _ _ h=>h) fun _ _=>rfl
 rintro (⟨m,h2,h3⟩|⟨m,S,h2,h3⟩)
 ·exact hb.2 (.inl ⟨m,hsome m h2,h3⟩)
 ·exact hb.2 (.inr ⟨m,S,(hs m _ h2).1,h3⟩)
theorem bX (h:List aG) (m:Nat):aj h m=live h[m]? :=by
 unfold aj live;split<;>simp_all
theorem gw {h:List aG} {n:Nat} {o:aG} (ho:aj h n=some o):n<h.length:=by
 rcases Nat.lt_or_ge n h.length with hn|hn
 ·exact hn
 ·simp [aj,List.getElem?_eq_none hn] at ho
theorem jm {o:Option aG} {ρ:Env} {n:Nat} {K:Prop} (h:vJ o ρ n K):o=some (.de ρ n)/\ K:=by
 unfold vJ at h
 split at h
 ·obtain ⟨rfl,rfl,h⟩:=h;exact ⟨rfl,h⟩
 ·exact h.elim
theorem cq (hp:HP): ∀n,(jJ hp n).length=n
 |0=>rfl
 |n+1=>by simp [jJ,cq hp n]
theorem AY (hp:HP): ∀n m,m<n->(jJ hp n)[m]? =some (match hp m with|some o=>o|none=> .gone)
 |0,_,h=>by omega
 |n+1,m,h=>by
  simp only [jJ]
  rcases Nat.lt_or_ge m n with h1|h1
  ·rw [List.getElem?_append_left (by rw [cq];exact h1),AY hp n m h1]
  ·have:m=n:=by omega
   subst this
   rw [List.getElem?_append_right (by rw [cq];exact Nat.le_refl _),cq]
   simp only [Nat.sub_self,List.getElem?_cons_zero]
   cases hp m<;>rfl
theorem yL {hp:HP} {n m:Nat} (hm:m<n) (hg:hp m≠some .gone):live ((jJ hp n)[m]?)=hp m:=by
 rw [AY hp n m hm]
 cases h:hp m with
 |none=>rfl
 |some o=>cases o<;>first|rfl|exact absurd h hg
theorem vC {hp:HP} {h:List aG} : ∀ {n:Nat} {p:Nat×aG},p∈E2 hp h n->hp p.1≠none
 |0,p,hm=>by simp [E2] at hm
 |n+1,p,hm=>by
  simp only [E2] at hm
  split at hm
  ·rename_i o ho
   rcases List.mem_append.1 hm with h1|h1
   ·exact vC h1
   ·simp only [List.mem_singleton] at h1;subst h1;simp [ho]
  ·exact vC hm
theorem E9 (a b:List (Nat×aG)) (m:Nat):bW (a++b) m=match bW b m with|some o=>some o|none=>bW a m:=by
 induction a with
 |nil=>simp [bW];cases bW b m<;>rfl
 |cons p r ih=>
  simp only [List.cons_append,bW,ih]
  cases bW b m with
  |some o=>rfl
  |none=>rfl
theorem uv {hp:HP} {h:List aG} {m:Nat} : ∀n,bW (E2 hp h n) m=if m<n/\ (hp m).isSome=true then some (match h[m]? with|some o=>o|none=> .gone) else none
 |0=>by simp [E2,bW]
 |n+1=>by
  simp only [E2]
  cases hn:hp n with
  |none=>
   dsimp only
   rw [uv n]
   by_cases e:m=n
   ·subst e;simp [hn]
   ·have:(m<n+1)=(m<n):=by apply propext;omega
    simp [this]
  |some o=>
   dsimp only
   rw [E9,uv n]
   simp only [bW]
   by_cases e:n=m
   ·subst e
    simp [hn]
    cases h[n]? <;>rfl
   ·have:(m<n+1)=(m<n):=by apply propext;omega
    rw [if_neg e];simp [this]
theorem Ai {hp:HP} {nm:Nat} {h:List aG} {v:AV} (hl:nm<h.length):(∀m o,bB (vh hp nm h v) nm hp m=some o->hp m≠some .gone->(∀m,(hp m).isSome=true->m<nm)->aj h m=some o)/\ iQ (· <nm) nm (vh hp nm h v)=(· <h.length):=by
 constructor
 ·intro m o hm hg hk
  simp only [bB,vh,List.length_drop,List.length_set] at hm
  rw [bX]
  split at hm
  ·rename_i hc
   rw [List.getElem?_drop,show nm+(m- nm)=m by omega,List.getElem?_set] at hm
   split at hm
   ·rename_i e
    simp [live] at hm
   ·exact hm
  ·rw [uv] at hm
   by_cases hc:m<nm/\ (hp m).isSome=true
   ·rw [if_pos hc] at hm
    have:m<h.length:=by omega
    rw [List.getElem?_eq_getElem this] at hm ⊢
    exact hm
   ·rw [if_neg hc] at hm
    have:(hp m).isSome=true:=by simp [hm]
    exact absurd ⟨hk m this,this⟩ hc
 ·funext m
  simp only [iQ,vh,List.length_drop,List.length_set]
  apply propext;omega
theorem St.pinned {ax:iV} {W w:World} {ρ:Env} {hp:HP} {nm:Nat} (hst:St ax W ρ (· <nm) hp w):
  ∃Cw:Env,(∀m,m<nm->Cw m=ρ m)/\ St ax W Cw (· <nm+1) (aj (jJ hp nm++ [.de ρ nm])) w:=by
 have Df: ∀m,hp m≠some .gone:=fun m e=>hst.at_ m _ e
 have Vi:(jJ hp nm++ [aG.de ρ nm]).length=nm+1:=by simp [cq]
 have iP: ∀m,m<nm->aV ρ nm {} m=ρ m:=fun m hm=>by simp only [aV];rw [if_neg (by omega)]
 have xM: ∀m o,aj (jJ hp nm++ [aG.de ρ nm]) m=some o->(m<nm/\ hp m=some o)\/ (m=nm/\ o= .de ρ nm):=by
  intro m o ho
  have hlt:=gw ho
  rw [bX] at ho
  rcases Nat.lt_or_ge m nm with h1|h1
  ·rw [List.getElem?_append_left (by rw [cq];exact h1),yL h1 (Df m)] at ho
   exact .inl ⟨h1,ho⟩
  ·have:m=nm:=by omega
   subst this
   rw [List.getElem?_append_right (by rw [cq];exact Nat.le_refl _),cq] at ho
   simp only [Nat.sub_self,List.getElem?_cons_zero,live,Option.some.injEq] at ho
   exact .inr ⟨rfl,ho.symm⟩
 have T7: ∀b,eo ρ hp w b->eo (aV ρ nm {}) (aj (jJ hp nm++ [aG.de ρ nm])) w b/\ w.heap[b]? =w.heap[b]? :=fun b hb=>by
  refine ⟨⟨hb.1,?_⟩,rfl⟩
  rintro (⟨m,h1,h2⟩|⟨m,S,h1,h2⟩)
  ·obtain ⟨o,ho⟩:=Option.isSome_iff_exists.1 h1
   rcases xM m o ho with ⟨h3,h4⟩|⟨rfl,rfl⟩
   ·rw [iP m h3] at h2
    exact hb.2 (.inl ⟨m,by simp [h4],h2⟩)
   ·simp [aV] at h2
  ·rcases xM m _ h1 with ⟨h3,h4⟩|⟨rfl,e⟩
   ·exact hb.2 (.inr ⟨m,S,h4,h2⟩)
   ·cases e
 refine ⟨aV ρ nm {},iP,hst.fr,fun m o ho=> ?_,fun m o ho=> ?_,fun m m' b hm hm' fg fV=> ?_,fun m b hm hb=> ?_,fun b ⟨m,S,h1,h2⟩=> ?_,fun m o ho=> ?_⟩
 rotate_right
 ·rcases xM m o ho with ⟨h1,h2⟩|⟨rfl,rfl⟩
  ·rw [iP m h1];exact hst.qI m o h2
  ·exact .inr (by simp [aV])
 rotate_right
 ·rcases xM m _ h1 with ⟨_,h4⟩|⟨_,e⟩
  ·obtain ⟨h5,h6⟩:=hst.rH b ⟨m,S,h4,h2⟩
   refine ⟨h5,fun ⟨n,h7,h8⟩=> ?_⟩
   obtain ⟨o,ho⟩:=Option.isSome_iff_exists.1 h7
   rcases xM n o ho with ⟨h9,Mc⟩|⟨rfl,rfl⟩
   ·rw [iP n h9] at h8
    exact h6 ⟨n,by simp [Mc],h8⟩
   ·simp [aV] at h8
  ·cases e
 ·rcases xM m o ho with ⟨h1,h2⟩|⟨rfl,rfl⟩
  ·have hk:=hst.kn m o h2
   exact ct (Kn:=(· <nm)) (hst.at_ m o h2) iP h1 hk.2 T7 (fun _ _ h=>h) fun _ _=>rfl
  ·exact ⟨by simp [aV],iP⟩
 ·rcases xM m o ho with ⟨h1,h2⟩|⟨rfl,rfl⟩
  ·exact ⟨by omega,aG.aZ (fun i hi=>by omega) o (hst.kn m o h2).2⟩
  ·exact ⟨by omega,fun i hi=>by omega⟩
 ·obtain ⟨o,ho⟩:=Option.isSome_iff_exists.1 hm
  obtain ⟨o',tG⟩:=Option.isSome_iff_exists.1 hm'
  rcases xM m o ho with ⟨h1,h2⟩|⟨rfl,rfl⟩
  ·rcases xM m' o' tG with ⟨h3,h4⟩|⟨rfl,rfl⟩
   ·rw [iP m h1] at fg;rw [iP m' h3] at fV
    exact hst.cW m m' b (by simp [h2]) (by simp [h4]) fg fV
   ·simp [aV] at fV
  ·simp [aV] at fg
 ·obtain ⟨o,ho⟩:=Option.isSome_iff_exists.1 hm
  rcases xM m o ho with ⟨h1,h2⟩|⟨rfl,rfl⟩
  ·rw [iP m h1] at hb
   exact hst.jR m b (by simp [h2]) hb
  ·simp [aV] at hb
theorem St.diff {ax:iV} {W w:World} {ρ':Env} {hp:HP} {nm:Nat} {h:List aG} {v:AV} (hst:St ax W ρ' (· <h.length) (aj h) w) (hl:nm<h.length) (hg: ∀m,hp m≠some .gone) (hk: ∀m,(hp m).isSome=true->m<nm):
  St ax W ρ' (iQ (· <nm) nm (vh hp nm h v)) (bB (vh hp nm h v) nm hp) w:=by
 obtain ⟨e1,e2⟩:=Ai (hp:=hp) (v:=v) hl
 rw [e2]
 refine hst.less fun i o ho=> ?_
 have:=e1 i o ho (hg i) hk
 exact ⟨this,hst.kn i o this⟩
theorem St.VK {ax:iV} {W w:World} {ρ:Env} {h:List aG} (hst:St ax W ρ (· <h.length) (aj h) w) (n:Nat):St ax W ρ (· <(h.set n .gone).length) (aj (h.set n .gone)) w:=by
 rw [List.length_set]
 refine hst.less fun i o ho=> ?_
 rw [bX,List.getElem?_set] at ho
 have:aj h i=some o:=by
  split at ho
  ·split at ho<;>simp [live] at ho
  ·rw [bX];exact ho
 exact ⟨this,hst.kn i o this⟩
end Go.Ev
