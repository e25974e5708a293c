/- What is done to what is named. -/
import Derived.Test.YtojielnkfeoccaaGreatEvD3
noncomputable section
set_option linter.unusedSectionVars false
set_option linter.unusedVariables false
set_option linter.unusedSimpArgs false
namespace Go.Ev
open Go.RowKit
theorem St.less {ax:jh} {W w:World} {ρ:Env} {Kn Bc:Nat->Prop} {Γ mH:HP} (h:St ax W ρ Kn Γ w) (hs: ∀m o,mH m=some o->Γ m=some o/\ Bc m/\ o.ok Bc):St ax W ρ Bc mH w:=by
 have hsome: ∀n,(mH n).isSome=true->(Γ n).isSome=true:=fun n hn=>by
  obtain ⟨o,ho⟩:=Option.isSome_iff_exists.1 hn
  rw [(hs n o ho).1];rfl
 refine ⟨h.fr,fun n o ho=> ?_,fun n o ho=>(hs n o ho).2,fun n m b hn hm=>h.eS n m b (hsome n hn) (hsome m hm),fun n b hn=>h.mA n b (hsome n hn),fun b ⟨m,S,h1,h2⟩=> ?_,fun n o ho=>h.vX n o (hs n o ho).1⟩
 rotate_right
 ·obtain ⟨h3,h4⟩:=h.wZ b ⟨m,S,(hs m _ h1).1,h2⟩
  exact ⟨h3,fun ⟨n,h5,h6⟩=>h4 ⟨n,hsome n h5,h6⟩⟩
 have h1:=(hs n o ho).1
 refine cr (Kn:=Kn) (h.at_ n o h1) (fun _ _=>rfl) (h.kn n o h1).1 (h.kn n o h1).2 (fun b hb=>⟨⟨hb.1,?_⟩,rfl⟩) (fun _ _ h=>h) fun _ _=>rfl
 rintro (⟨m,h2,h3⟩|⟨m,S,h2,h3⟩)
 ·exact hb.2 (.inl ⟨m,hsome m h2,h3⟩)
 ·exact hb.2 (.inr ⟨m,S,(hs m _ h2).1,h3⟩)
theorem bP (h:List aQ) (m:Nat):av h m=live h[m]? :=by
 unfold av live;split<;>simp_all
theorem fV {h:List aQ} {n:Nat} {o:aQ} (ho:av h n=some o):n<h.length:=by
 rcases Nat.lt_or_ge n h.length with hn|hn
 ·exact hn
 ·simp [av,List.getElem?_eq_none hn] at ho
theorem nA {o:Option aQ} {ρ:Env} {n:Nat} {K:Prop} (h:Da o ρ n K):o=some (.eJ ρ n)/\ K:=by
 unfold Da at h
 split at h
 ·obtain ⟨rfl,rfl,h⟩:=h;exact ⟨rfl,h⟩
 ·exact h.elim
theorem bg (hp:HP): ∀n,(dM hp n).length=n
 |0=>rfl
 |n+1=>by simp [dM,bg hp n]
theorem vh (hp:HP): ∀n m,m<n->(dM hp n)[m]? =some (match hp m with|some o=>o|none=> .gone)
 |0,_,h=>by omega
 |n+1,m,h=>by
  simp only [dM]
  rcases Nat.lt_or_ge m n with h1|h1
  ·rw [List.getElem?_append_left (by rw [bg];exact h1),vh hp n m h1]
  ·have:m=n:=by omega
   subst this
   rw [List.getElem?_append_right (by rw [bg];exact Nat.le_refl _),bg]
   simp only [Nat.sub_self,List.getElem?_cons_zero]
   cases hp m<;>rfl
theorem oE {hp:HP} {n m:Nat} (hm:m<n) (hg:hp m≠some .gone):live ((dM hp n)[m]?)=hp m:=by
 rw [vh hp n m hm]
 cases h:hp m with
 |none=>rfl
 |some o=>cases o<;>first|rfl|exact absurd h hg
theorem w4 {hp:HP} {h:List aQ} : ∀ {n:Nat} {p:Nat×aQ},p∈HF hp h n->hp p.1≠none
 |0,p,hm=>by simp [HF] at hm
 |n+1,p,hm=>by
  simp only [HF] at hm
  split at hm
  ·rename_i o ho
   rcases List.mem_append.1 hm with h1|h1
   ·exact w4 h1
   ·simp only [List.mem_singleton] at h1;subst h1;simp [ho]
  ·exact w4 hm
theorem HQ (a b:List (Nat×aQ)) (m:Nat):ct (a++b) m=match ct b m with|some o=>some o|none=>ct a m:=by
 induction a with
 |nil=>simp [ct];cases ct b m<;>rfl
 |cons p r ih=>
  simp only [List.cons_append,ct,ih]
  cases ct b m with
  |some o=>rfl
  |none=>rfl
theorem vl {hp:HP} {h:List aQ} {m:Nat} : ∀n,ct (HF hp h n) m=if m<n/\ (hp m).isSome=true then some (match h[m]? with|some o=>o|none=> .gone) else none
 |0=>by simp [HF,ct]
 |n+1=>by
  simp only [HF]
  cases hn:hp n with
  |none=>
   dsimp only
   rw [vl n]
   by_cases e:m=n
   ·subst e;simp [hn]
   ·have:(m<n+1)=(m<n):=by apply propext;omega
    simp [this]
  |some o=>
   dsimp only
   rw [HQ,vl n]
   simp only [ct]
   by_cases e:n=m
   ·subst e
    simp [hn]
    cases h[n]? <;>rfl
   ·have:(m<n+1)=(m<n):=by apply propext;omega
    rw [if_neg e];simp [this]
theorem Ck {hp:HP} {nm:Nat} {h:List aQ} {v:AV} (hl:nm<h.length):(∀m o,cq (wC hp nm h v) nm hp m=some o->hp m≠some .gone->(∀m,(hp m).isSome=true->m<nm)->av h m=some o)/\ iK (· <nm) nm (wC hp nm h v)=(· <h.length):=by
 constructor
 ·intro m o hm hg hk
  simp only [cq,wC,List.length_drop,List.length_set] at hm
  rw [bP]
  split at hm
  ·rename_i hc
   rw [List.getElem?_drop,show nm+(m- nm)=m by omega,List.getElem?_set] at hm
   split at hm
   ·rename_i e
    simp [live] at hm
   ·exact hm
  ·rw [vl] at hm
   by_cases hc:m<nm/\ (hp m).isSome=true
   ·rw [if_pos hc] at hm
    have:m<h.length:=by omega
    rw [List.getElem?_eq_getElem this] at hm ⊢
    exact hm
   ·rw [if_neg hc] at hm
    have:(hp m).isSome=true:=by simp [hm]
    exact absurd ⟨hk m this,this⟩ hc
 ·funext m
  simp only [iK,wC,List.length_drop,List.length_set]
  apply propext;omega
theorem St.pinned {ax:jh} {W w:World} {ρ:Env} {hp:HP} {nm:Nat} (hst:St ax W ρ (· <nm) hp w):
  ∃Er:Env,(∀m,m<nm->Er m=ρ m)/\ St ax W Er (· <nm+1) (av (dM hp nm++ [.eJ ρ nm])) w:=by
 have Ar: ∀m,hp m≠some .gone:=fun m e=>hst.at_ m _ e
 have Zz:(dM hp nm++ [aQ.eJ ρ nm]).length=nm+1:=by simp [bg]
 have iX: ∀m,m<nm->aZ ρ nm {} m=ρ m:=fun m hm=>by simp only [aZ];rw [if_neg (by omega)]
 have BT: ∀m o,av (dM hp nm++ [aQ.eJ ρ nm]) m=some o->(m<nm/\ hp m=some o)\/ (m=nm/\ o= .eJ ρ nm):=by
  intro m o ho
  have hlt:=fV ho
  rw [bP] at ho
  rcases Nat.lt_or_ge m nm with h1|h1
  ·rw [List.getElem?_append_left (by rw [bg];exact h1),oE h1 (Ar m)] at ho
   exact .inl ⟨h1,ho⟩
  ·have:m=nm:=by omega
   subst this
   rw [List.getElem?_append_right (by rw [bg];exact Nat.le_refl _),bg] at ho
   simp only [Nat.sub_self,List.getElem?_cons_zero,live,Option.some.injEq] at ho
   exact .inr ⟨rfl,ho.symm⟩
 have Yp: ∀b,gW ρ hp w b->gW (aZ ρ nm {}) (av (dM hp nm++ [aQ.eJ ρ nm])) w b/\ w.heap[b]? =w.heap[b]? :=fun b hb=>by
  refine ⟨⟨hb.1,?_⟩,rfl⟩
  rintro (⟨m,h1,h2⟩|⟨m,S,h1,h2⟩)
  ·obtain ⟨o,ho⟩:=Option.isSome_iff_exists.1 h1
   rcases BT m o ho with ⟨h3,h4⟩|⟨rfl,rfl⟩
   ·rw [iX m h3] at h2
    exact hb.2 (.inl ⟨m,by simp [h4],h2⟩)
   ·simp [aZ] at h2
  ·rcases BT m _ h1 with ⟨h3,h4⟩|⟨rfl,e⟩
   ·exact hb.2 (.inr ⟨m,S,h4,h2⟩)
   ·cases e
 refine ⟨aZ ρ nm {},iX,hst.fr,fun m o ho=> ?_,fun m o ho=> ?_,fun m m' b hm hm' ik iW=> ?_,fun m b hm hb=> ?_,fun b ⟨m,S,h1,h2⟩=> ?_,fun m o ho=> ?_⟩
 rotate_right
 ·rcases BT m o ho with ⟨h1,h2⟩|⟨rfl,rfl⟩
  ·rw [iX m h1];exact hst.vX m o h2
  ·exact .inr (by simp [aZ])
 rotate_right
 ·rcases BT m _ h1 with ⟨_,h4⟩|⟨_,e⟩
  ·obtain ⟨h5,h6⟩:=hst.wZ b ⟨m,S,h4,h2⟩
   refine ⟨h5,fun ⟨n,h7,h8⟩=> ?_⟩
   obtain ⟨o,ho⟩:=Option.isSome_iff_exists.1 h7
   rcases BT n o ho with ⟨h9,Qm⟩|⟨rfl,rfl⟩
   ·rw [iX n h9] at h8
    exact h6 ⟨n,by simp [Qm],h8⟩
   ·simp [aZ] at h8
  ·cases e
 ·rcases BT m o ho with ⟨h1,h2⟩|⟨rfl,rfl⟩
  ·have hk:=hst.kn m o h2
   exact cr (Kn:=(· <nm)) (hst.at_ m o h2) iX h1 hk.2 Yp (fun _ _ h=>h) fun _ _=>rfl
  ·exact ⟨by simp [aZ],iX⟩
 ·rcases BT m o ho with ⟨h1,h2⟩|⟨rfl,rfl⟩
  ·exact ⟨by omega,aQ.bC (fun i hi=>by omega) o (hst.kn m o h2).2⟩
  ·exact ⟨by omega,fun i hi=>by omega⟩
 ·obtain ⟨o,ho⟩:=Option.isSome_iff_exists.1 hm
  obtain ⟨o',tY⟩:=Option.isSome_iff_exists.1 hm'
  rcases BT m o ho with ⟨h1,h2⟩|⟨rfl,rfl⟩
  ·rcases BT m' o' tY with ⟨h3,h4⟩|⟨rfl,rfl⟩
   ·rw [iX m h1] at ik;rw [iX m' h3] at iW
    exact hst.eS m m' b (by simp [h2]) (by simp [h4]) ik iW
   ·simp [aZ] at iW
  ·simp [aZ] at ik
 ·obtain ⟨o,ho⟩:=Option.isSome_iff_exists.1 hm
  rcases BT m o ho with ⟨h1,h2⟩|⟨rfl,rfl⟩
  ·rw [iX m h1] at hb
   exact hst.mA m b (by simp [h2]) hb
  ·simp [aZ] at hb
theorem St.diff {ax:jh} {W w:World} {ρ':Env} {hp:HP} {nm:Nat} {h:List aQ} {v:AV} (hst:St ax W ρ' (· <h.length) (av h) w) (hl:nm<h.length) (hg: ∀m,hp m≠some .gone) (hk: ∀m,(hp m).isSome=true->m<nm):
  St ax W ρ' (iK (· <nm) nm (wC hp nm h v)) (cq (wC hp nm h v) nm hp) w:=by
 obtain ⟨e1,e2⟩:=Ck (hp:=hp) (v:=v) hl
 rw [e2]
 refine hst.less fun i o ho=> ?_
 have:=e1 i o ho (hg i) hk
 exact ⟨this,hst.kn i o this⟩
theorem St.ZW {ax:jh} {W w:World} {ρ:Env} {h:List aQ} (hst:St ax W ρ (· <h.length) (av h) w) (n:Nat):St ax W ρ (· <(h.set n .gone).length) (av (h.set n .gone)) w:=by
 rw [List.length_set]
 refine hst.less fun i o ho=> ?_
 rw [bP,List.getElem?_set] at ho
 have:av h i=some o:=by
  split at ho
  ·split at ho<;>simp [live] at ho
  ·rw [bP];exact ho
 exact ⟨this,hst.kn i o this⟩
end Go.Ev
