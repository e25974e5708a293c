/- What is done to what is named. -/
import Derived.Test.YtngdehlpoomaiaaGreatEvD3
import Derived.MapKept
import Derived.Maps.RangeRun
noncomputable section
set_option linter.unusedSectionVars false
set_option linter.unusedVariables false
set_option linter.unusedSimpArgs false
namespace Go.Ev
open Go.RowKit
theorem St.less {av:fG} {W w:World} {ρ:Env} {Kn UC:Nat->Prop} {Γ AQ:HP} (h:St av W ρ Kn Γ w) (hs: ∀m o,AQ m=some o->Γ m=some o/\ UC m/\ o.ok UC):St av W ρ UC AQ w:=by
 have hsome: ∀n,(AQ n).isSome=true->(Γ n).isSome=true:=fun n hn=>by
  obtain ⟨o,ho⟩:=Option.isSome_iff_exists.1 hn
  rw [(hs n o ho).1];rfl
 refine ⟨h.fr,fun n o ho=> ?_,fun n o ho=>(hs n o ho).2,fun n m b hn hm=>h.dU n m b (hsome n hn) (hsome m hm),fun n b hn=>h.lC n b (hsome n hn),fun b ⟨m,S,h1,h2⟩=> ?_,fun n o ho=>h.wK n o (hs n o ho).1⟩
 rotate_right
 ·obtain ⟨h3,h4⟩:=h.ru b ⟨m,S,(hs m _ h1).1,h2⟩
  exact ⟨h3,fun ⟨n,h5,h6⟩=>h4 ⟨n,hsome n h5,h6⟩⟩
 have h1:=(hs n o ho).1
 refine cx (Kn:=Kn) (h.at_ n o h1) (fun _ _=>rfl) (h.kn n o h1).1 (h.kn n o h1).2 (fun b hb=>⟨⟨hb.1,?_⟩,rfl⟩) (fun _ _ h=>h) fun _ _=>rfl
 rintro (⟨m,h2,h3⟩|⟨m,S,h2,h3⟩)
 ·exact hb.2 (.inl ⟨m,hsome m h2,h3⟩)
 ·exact hb.2 (.inr ⟨m,S,(hs m _ h2).1,h3⟩)
theorem bz (h:List aD) (m:Nat):ai h m=live h[m]? :=by
 unfold ai live;split<;>simp_all
theorem e7 {h:List aD} {n:Nat} {o:aD} (ho:ai h n=some o):n<h.length:=by
 rcases Nat.lt_or_ge n h.length with hn|hn
 ·exact hn
 ·simp [ai,List.getElem?_eq_none hn] at ho
theorem dy {o:Option aD} {ρ:Env} {n:Nat} {K:Prop} (h:rU o ρ n K):o=some (.cg ρ n)/\ K:=by
 unfold rU at h
 split at h
 ·obtain ⟨rfl,rfl,h⟩:=h;exact ⟨rfl,h⟩
 ·exact h.elim
theorem bP (hp:HP): ∀n,(iZ hp n).length=n
 |0=>rfl
 |n+1=>by simp [iZ,bP hp n]
theorem Ln (hp:HP): ∀n m,m<n->(iZ hp n)[m]? =some (match hp m with|some o=>o|none=> .gone)
 |0,_,h=>by omega
 |n+1,m,h=>by
  simp only [iZ]
  rcases Nat.lt_or_ge m n with h1|h1
  ·rw [List.getElem?_append_left (by rw [bP];exact h1),Ln hp n m h1]
  ·have:m=n:=by omega
   subst this
   rw [List.getElem?_append_right (by rw [bP];exact Nat.le_refl _),bP]
   simp only [Nat.sub_self,List.getElem?_cons_zero]
   cases hp m<;>rfl
theorem HH {hp:HP} {n m:Nat} (hm:m<n) (hg:hp m≠some .gone):live ((iZ hp n)[m]?)=hp m:=by
 rw [Ln hp n m hm]
 cases h:hp m with
 |none=>rfl
 |some o=>cases o<;>first|rfl|exact absurd h hg
theorem Dn {hp:HP} {h:List aD} : ∀ {n:Nat} {p:Nat×aD},p∈SR hp h n->hp p.1≠none
 |0,p,hm=>by simp [SR] at hm
 |n+1,p,hm=>by
  simp only [SR] at hm
  split at hm
  ·rename_i o ho
   rcases List.mem_append.1 hm with h1|h1
   ·exact Dn h1
   ·simp only [List.mem_singleton] at h1;subst h1;simp [ho]
  ·exact Dn hm
theorem S4 (a b:List (Nat×aD)) (m:Nat):cm (a++b) m=match cm b m with|some o=>some o|none=>cm a m:=by
 induction a with
 |nil=>simp [cm];cases cm b m<;>rfl
 |cons p r ih=>
  simp only [List.cons_append,cm,ih]
  cases cm b m with
  |some o=>rfl
  |none=>rfl
theorem Cb {hp:HP} {h:List aD} {m:Nat} : ∀n,cm (SR hp h n) m=if m<n/\ (hp m).isSome=true then some (match h[m]? with|some o=>o|none=> .gone) else none
 |0=>by simp [SR,cm]
 |n+1=>by
  simp only [SR]
  cases hn:hp n with
  |none=>
   dsimp only
   rw [Cb n]
   by_cases e:m=n
   ·subst e;simp [hn]
   ·have:(m<n+1)=(m<n):=by apply propext;omega
    simp [this]
  |some o=>
   dsimp only
   rw [S4,Cb n]
   simp only [cm]
   by_cases e:n=m
   ·subst e
    simp [hn]
    cases h[n]? <;>rfl
   ·have:(m<n+1)=(m<n):=by apply propext;omega
    rw [if_neg e];simp [this]
theorem KD {hp:HP} {nm:Nat} {h:List aD} {v:AV} (hl:nm<h.length):(∀m o,bV (C5 hp nm h v) nm hp m=some o->hp m≠some .gone->(∀m,(hp m).isSome=true->m<nm)->ai h m=some o)/\ oI (· <nm) nm (C5 hp nm h v)=(· <h.length):=by
 constructor
 ·intro m o hm hg hk
  simp only [bV,C5,List.length_drop,List.length_set] at hm
  rw [bz]
  split at hm
  ·rename_i hc
   rw [List.getElem?_drop,show nm+(m- nm)=m by omega,List.getElem?_set] at hm
   split at hm
   ·rename_i e
    simp [live] at hm
   ·exact hm
  ·rw [Cb] at hm
   by_cases hc:m<nm/\ (hp m).isSome=true
   ·rw [if_pos hc] at hm
    have:m<h.length:=by omega
    rw [List.getElem?_eq_getElem this] at hm ⊢
    exact hm
   ·rw [if_neg hc] at hm
    have:(hp m).isSome=true:=by simp [hm]
    exact absurd ⟨hk m this,this⟩ hc
 ·funext m
  simp only [oI,C5,List.length_drop,List.length_set]
  apply propext;omega
theorem St.pinned {av:fG} {W w:World} {ρ:Env} {hp:HP} {nm:Nat} (hst:St av W ρ (· <nm) hp w):
  ∃wI:Env,(∀m,m<nm->wI m=ρ m)/\ St av W wI (· <nm+1) (ai (iZ hp nm++ [.cg ρ nm])) w:=by
 have Ps: ∀m,hp m≠some .gone:=fun m e=>hst.at_ m _ e
 have h3l:(iZ hp nm++ [aD.cg ρ nm]).length=nm+1:=by simp [bP]
 have ff: ∀m,m<nm->bA ρ nm {} m=ρ m:=fun m hm=>by simp only [bA];rw [if_neg (by omega)]
 have JN: ∀m o,ai (iZ hp nm++ [aD.cg ρ nm]) m=some o->(m<nm/\ hp m=some o)\/ (m=nm/\ o= .cg ρ nm):=by
  intro m o ho
  have hlt:=e7 ho
  rw [bz] at ho
  rcases Nat.lt_or_ge m nm with h1|h1
  ·rw [List.getElem?_append_left (by rw [bP];exact h1),HH h1 (Ps m)] at ho
   exact .inl ⟨h1,ho⟩
  ·have:m=nm:=by omega
   subst this
   rw [List.getElem?_append_right (by rw [bP];exact Nat.le_refl _),bP] at ho
   simp only [Nat.sub_self,List.getElem?_cons_zero,live,Option.some.injEq] at ho
   exact .inr ⟨rfl,ho.symm⟩
 have apA: ∀b,dV ρ hp w b->dV (bA ρ nm {}) (ai (iZ hp nm++ [aD.cg ρ nm])) w b/\ w.heap[b]? =w.heap[b]? :=fun b hb=>by
  refine ⟨⟨hb.1,?_⟩,rfl⟩
  rintro (⟨m,h1,h2⟩|⟨m,S,h1,h2⟩)
  ·obtain ⟨o,ho⟩:=Option.isSome_iff_exists.1 h1
   rcases JN m o ho with ⟨h3,h4⟩|⟨rfl,rfl⟩
   ·rw [ff m h3] at h2
    exact hb.2 (.inl ⟨m,by simp [h4],h2⟩)
   ·simp [bA] at h2
  ·rcases JN m _ h1 with ⟨h3,h4⟩|⟨rfl,e⟩
   ·exact hb.2 (.inr ⟨m,S,h4,h2⟩)
   ·cases e
 refine ⟨bA ρ nm {},ff,hst.fr,fun m o ho=> ?_,fun m o ho=> ?_,fun m m' b hm hm' gy dR=> ?_,fun m b hm hb=> ?_,fun b ⟨m,S,h1,h2⟩=> ?_,fun m o ho=> ?_⟩
 rotate_right
 ·rcases JN m o ho with ⟨h1,h2⟩|⟨rfl,rfl⟩
  ·rw [ff m h1];exact hst.wK m o h2
  ·exact .inr (by simp [bA])
 rotate_right
 ·rcases JN m _ h1 with ⟨_,h4⟩|⟨_,e⟩
  ·obtain ⟨h5,h6⟩:=hst.ru b ⟨m,S,h4,h2⟩
   refine ⟨h5,fun ⟨n,h7,h8⟩=> ?_⟩
   obtain ⟨o,ho⟩:=Option.isSome_iff_exists.1 h7
   rcases JN n o ho with ⟨h9,h10⟩|⟨rfl,rfl⟩
   ·rw [ff n h9] at h8
    exact h6 ⟨n,by simp [h10],h8⟩
   ·simp [bA] at h8
  ·cases e
 ·rcases JN m o ho with ⟨h1,h2⟩|⟨rfl,rfl⟩
  ·have hk:=hst.kn m o h2
   exact cx (Kn:=(· <nm)) (hst.at_ m o h2) ff h1 hk.2 apA (fun _ _ h=>h) fun _ _=>rfl
  ·exact ⟨by simp [bA],ff⟩
 ·rcases JN m o ho with ⟨h1,h2⟩|⟨rfl,rfl⟩
  ·exact ⟨by omega,aD.aT (fun i hi=>by omega) o (hst.kn m o h2).2⟩
  ·exact ⟨by omega,fun i hi=>by omega⟩
 ·obtain ⟨o,ho⟩:=Option.isSome_iff_exists.1 hm
  obtain ⟨o',FN⟩:=Option.isSome_iff_exists.1 hm'
  rcases JN m o ho with ⟨h1,h2⟩|⟨rfl,rfl⟩
  ·rcases JN m' o' FN with ⟨h3,h4⟩|⟨rfl,rfl⟩
   ·rw [ff m h1] at gy;rw [ff m' h3] at dR
    exact hst.dU m m' b (by simp [h2]) (by simp [h4]) gy dR
   ·simp [bA] at dR
  ·simp [bA] at gy
 ·obtain ⟨o,ho⟩:=Option.isSome_iff_exists.1 hm
  rcases JN m o ho with ⟨h1,h2⟩|⟨rfl,rfl⟩
  ·rw [ff m h1] at hb
   exact hst.lC m b (by simp [h2]) hb
  ·simp [bA] at hb
theorem St.diff {av:fG} {W w:World} {ρ':Env} {hp:HP} {nm:Nat} {h:List aD} {v:AV} (hst:St av W ρ' (· <h.length) (ai h) w) (hl:nm<h.length) (hg: ∀m,hp m≠some .gone) (hk: ∀m,(hp m).isSome=true->m<nm):
  St av W ρ' (oI (· <nm) nm (C5 hp nm h v)) (bV (C5 hp nm h v) nm hp) w:=by
 obtain ⟨e1,e2⟩:=KD (hp:=hp) (v:=v) hl
 rw [e2]
 refine hst.less fun i o ho=> ?_
 have:=e1 i o ho (hg i) hk
 exact ⟨this,hst.kn i o this⟩
theorem St.ahn {av:fG} {W w:World} {ρ:Env} {h:List aD} (hst:St av W ρ (· <h.length) (ai h) w) (n:Nat):St av W ρ (· <(h.set n .gone).length) (ai (h.set n .gone)) w:=by
 rw [List.length_set]
 refine hst.less fun i o ho=> ?_
 rw [bz,List.getElem?_set] at ho
 have:ai h i=some o:=by
  split at ho
  ·split at ho<;>simp [live] at ho
  ·rw [bz];exact ho
 exact ⟨this,hst.kn i o this⟩
end Go.Ev
namespace Go.Ev
open Go.RowKit
end Go.Ev
namespace Go.Ev
open Go.RowKit
section
variable {P:Program} {ctx:Ctx} {hp:HP} {nm:Nat} {k:Rec->Prop}
end
end Go.Ev
namespace Go.Ev
open Go.RowKit
section
variable {P:Program} {ctx:Ctx} {hp:HP} {nm:Nat} {k:Rec->Prop}
end
end Go.Ev
namespace Go.Ev
open Go.RowKit
section
variable {ka:Bool} {k u:Ty}
end
section
variable {av:fG} {W:World} {ρ:Env} {Kn:Nat->Prop} {Γ:HP} {w:World}
end
section
variable {av:fG} {W:World} {ρ:Env} {Kn:Nat->Prop} {Γ:HP} {w:World}
end
section
variable {P:Program} {ctx:Ctx} {hp:HP} {nm:Nat} {k:Rec->Prop}
theorem Sd (hT:di P ctx.tt) {b:Builtin} {tys:Array TypeId} {args:List AV} (h:KL ctx b tys.toList args hp nm k) (ty:TypeId) (cs:Array Bool):
  ∃r,aO P ctx.X hp nm (fun Kn=> ∀x∈args,x.ok Kn) (fun ρ=>builtin b tys ty cs (args.map (AV.ae ρ)).toArray) (fun ρ=> .value (r.val.ae ρ)) r/\ k r:=by
 unfold KL at h
 split at h
 ·rename_i x
  split at h
  ·rename_i t r aiw
   split at h
   ·rename_i i hi
    have ht0:tys[0]? =some t:=by rw [<- Array.getElem?_toList,aiw];rfl
    split at h
    ·rename_i hd
     refine ⟨_,aO.pure ?_,h⟩
     intro av W ρ Kn Γ w _ _ _ _
     exact ⟨by simp [AV.ae,A0.ae,Cell.ae,builtin,Builtin.len_,ht0,hT.u hi,hd,goInt,iA],trivial⟩
    ·rename_i e0 p0 hd
     obtain ⟨m,s,q,u,l,rk,len,tc,he,h,Lx,hm2,_,_,_,_,_,hall⟩:=sH h
     refine ⟨_,aO.pure ?_,h⟩
     intro av W ρ Kn Γ w _ _ j7 hst
     obtain ⟨_,_,_,g4,_⟩:=hall av W ρ Kn Γ w j7 hst
     exact ⟨by simp [AV.ae,A0.ae,Cell.ae,builtin,Builtin.len_,ht0,hT.u hi,hd,goInt,iA,g4],trivial⟩
    ·rename_i hd
     refine ⟨_,aO.pure ?_,h⟩
     intro av W ρ Kn Γ w _ _ _ _
     exact ⟨by simp [AV.ae,A0.ae,Cell.ae,builtin,Builtin.len_,ht0,hT.u hi,hd,goInt,iA],trivial⟩
    ·rename_i hd
     refine ⟨_,aO.pure ?_,h⟩
     intro av W ρ Kn Γ w _ _ _ _
     exact ⟨by simp [AV.ae,A0.ae,Cell.ae,builtin,Builtin.len_,ht0,hT.u hi,hd,goInt,iA],trivial⟩
    ·exact h.elim
   ·exact h.elim
  ·exact h.elim
 ·rename_i kk a r
  split at h
  ·rename_i n hn
   refine ⟨_,aO.pure ?_,h⟩
   intro av W ρ Kn Γ w _ _ _ _
   have:=vj (P:=P) bB Builtin.min2 (fun kk x k' y w=>by simp [Builtin.min2,bB]) ρ kk r a n hn w
   refine ⟨?_,trivial⟩
   simp [AV.ae,A0.ae,Cell.ae,builtin,Builtin.min_,iA] at this ⊢
   rw [this];rfl
  ·exact h.elim
 ·rename_i kk a r
  split at h
  ·rename_i n hn
   refine ⟨_,aO.pure ?_,h⟩
   intro av W ρ Kn Γ w _ _ _ _
   have:=vj (P:=P) bw Builtin.max2 (fun kk x k' y w=>by simp [Builtin.max2,bw]) ρ kk r a n hn w
   refine ⟨?_,trivial⟩
   simp [AV.ae,A0.ae,Cell.ae,builtin,Builtin.max_,iA] at this ⊢
   rw [this];rfl
  ·exact h.elim
 ·rename_i x y
  split at h
  rotate_left
  ·exact h.elim
  rename_i t t' aiw
  split at h
  rotate_left
  ·exact h.elim
  rename_i i i' hi hi'
  split at h
  rotate_left
  ·exact h.elim
  rename_i e e' hd hd'
  split at h
  rotate_left
  ·exact h.elim
  rename_i ei mC
  have key: ∃r,aO P ctx.X hp nm (fun Kn=>x.ok Kn/\ y.ok Kn) (fun ρ=>Builtin.append_ #[t,t'] ty #[x.ae ρ,y.ae ρ]) (fun ρ=>r.val.ae ρ) r/\ k r:=by
   exact UU (ty:=ty) (nm:=nm) hT (by rw [(hT t i hi).1,hd]) (by rw [(hT t' i' hi').1,hd']) mC h
  obtain ⟨r,hr,hk⟩:=key
  refine ⟨r,⟨hr.1,fun av W ρ Kn Γ w hX hok ht hf hst=> ?_⟩,hk⟩
  obtain ⟨ρ',w',h1,h2⟩:=hr.2 av W ρ Kn Γ w hX ⟨hok x (by simp),hok y (by simp)⟩ ht hf hst
  refine ⟨ρ',w',?_,h2⟩
  have et:tys= #[t,t']:=by apply Array.ext';rw [aiw]
  subst et
  simp only [List.map_cons,List.map_nil,builtin,Sem.run_bind]
  rw [h1];rfl
 ·rename_i x y
  split at h
  rotate_left
  ·exact h.elim
  rename_i t t' aiw
  split at h
  rotate_left
  ·exact h.elim
  rename_i i hi
  split at h
  rotate_left
  ·exact h.elim
  rename_i e hd
  split at h
  rotate_left
  ·exact h.elim
  rename_i ei mC
  obtain ⟨r,hr,hk⟩:=adS (ty:=ty) (t':=t') (nm:=nm) hT (by rw [(hT t i hi).1,hd]) mC h
  refine ⟨r,⟨hr.1,fun av W ρ Kn Γ w hX hok ht hf hst=> ?_⟩,hk⟩
  obtain ⟨ρ',w',h1,h2⟩:=hr.2 av W ρ Kn Γ w hX ⟨hok x (by simp),hok y (by simp)⟩ ht hf hst
  refine ⟨ρ',w',?_,h2⟩
  have et:tys= #[t,t']:=by apply Array.ext';rw [aiw]
  subst et
  simp only [List.map_cons,List.map_nil,builtin,Sem.run_bind]
  rw [h1];rfl
 ·exact h.elim
end
end Go.Ev
namespace Go.Ev
open Go.RowKit
section
variable {ka:Bool} {k u:Ty}
end
section
variable {av:fG} {W:World} {ρ:Env} {Kn:Nat->Prop} {Γ:HP} {w:World}
end
end Go.Ev
