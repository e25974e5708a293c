/- What is done to what is named. -/
import Derived.Test.YtngdehlpoomaiaaGreatEvD3
import Derived.MapKept
import Derived.Maps.RangeRun
noncomputable section
set_option linter.unusedSectionVars false
set_option linter.unusedVariables false
set_option linter.unusedSimpArgs false
namespace Go.Ev
open Go.RowKit
theorem St.less {au:eW} {W w:World} {ρ:Env} {Kn Nb:Nat->Prop} {Γ w9:HP} (h:St au W ρ Kn Γ w) (hs: ∀m o,w9 m=some o->Γ m=some o/\ Nb m/\ o.ok Nb):St au W ρ Nb w9 w:=by
 have hsome: ∀n,(w9 n).isSome=true->(Γ n).isSome=true:=fun n hn=>by
  obtain ⟨o,ho⟩:=Option.isSome_iff_exists.1 hn
  rw [(hs n o ho).1];rfl
 refine ⟨h.fr,fun n o ho=> ?_,fun n o ho=>(hs n o ho).2,fun n m b hn hm=>h.dz n m b (hsome n hn) (hsome m hm),fun n b hn=>h.jP n b (hsome n hn),fun b ⟨m,S,h1,h2⟩=> ?_,fun n o ho=>h.tg n o (hs n o ho).1⟩
 rotate_right
 ·obtain ⟨h3,h4⟩:=h.oX b ⟨m,S,(hs m _ h1).1,h2⟩
  exact ⟨h3,fun ⟨n,h5,h6⟩=>h4 ⟨n,hsome n h5,h6⟩⟩
 have h1:=(hs n o ho).1
 refine ck (Kn:=Kn) (h.at_ n o h1) (fun _ _=>rfl) (h.kn n o h1).1 (h.kn n o h1).2 (fun b hb=>⟨⟨hb.1,?_⟩,rfl⟩) (fun _ _ h=>h) fun _ _=>rfl
 rintro (⟨m,h2,h3⟩|⟨m,S,h2,h3⟩)
 ·exact hb.2 (.inl ⟨m,hsome m h2,h3⟩)
 ·exact hb.2 (.inr ⟨m,S,(hs m _ h2).1,h3⟩)
theorem br (h:List aG) (m:Nat):aj h m=live h[m]? :=by
 unfold aj live;split<;>simp_all
theorem eu {h:List aG} {n:Nat} {o:aG} (ho:aj h n=some o):n<h.length:=by
 rcases Nat.lt_or_ge n h.length with hn|hn
 ·exact hn
 ·simp [aj,List.getElem?_eq_none hn] at ho
theorem cZ {o:Option aG} {ρ:Env} {n:Nat} {K:Prop} (h:pR o ρ n K):o=some (.bT ρ n)/\ K:=by
 unfold pR at h
 split at h
 ·obtain ⟨rfl,rfl,h⟩:=h;exact ⟨rfl,h⟩
 ·exact h.elim
theorem bK (hp:HP): ∀n,(gQ hp n).length=n
 |0=>rfl
 |n+1=>by simp [gQ,bK hp n]
theorem FD (hp:HP): ∀n m,m<n->(gQ hp n)[m]? =some (match hp m with|some o=>o|none=> .gone)
 |0,_,h=>by omega
 |n+1,m,h=>by
  simp only [gQ]
  rcases Nat.lt_or_ge m n with h1|h1
  ·rw [List.getElem?_append_left (by rw [bK];exact h1),FD hp n m h1]
  ·have:m=n:=by omega
   subst this
   rw [List.getElem?_append_right (by rw [bK];exact Nat.le_refl _),bK]
   simp only [Nat.sub_self,List.getElem?_cons_zero]
   cases hp m<;>rfl
theorem CP {hp:HP} {n m:Nat} (hm:m<n) (hg:hp m≠some .gone):live ((gQ hp n)[m]?)=hp m:=by
 rw [FD hp n m hm]
 cases h:hp m with
 |none=>rfl
 |some o=>cases o<;>first|rfl|exact absurd h hg
theorem zy {hp:HP} {h:List aG} : ∀ {n:Nat} {p:Nat×aG},p∈Mc hp h n->hp p.1≠none
 |0,p,hm=>by simp [Mc] at hm
 |n+1,p,hm=>by
  simp only [Mc] at hm
  split at hm
  ·rename_i o ho
   rcases List.mem_append.1 hm with h1|h1
   ·exact zy h1
   ·simp only [List.mem_singleton] at h1;subst h1;simp [ho]
  ·exact zy hm
theorem Mm (a b:List (Nat×aG)) (m:Nat):bV (a++b) m=match bV b m with|some o=>some o|none=>bV a m:=by
 induction a with
 |nil=>simp [bV];cases bV b m<;>rfl
 |cons p r ih=>
  simp only [List.cons_append,bV,ih]
  cases bV b m with
  |some o=>rfl
  |none=>rfl
theorem yd {hp:HP} {h:List aG} {m:Nat} : ∀n,bV (Mc hp h n) m=if m<n/\ (hp m).isSome=true then some (match h[m]? with|some o=>o|none=> .gone) else none
 |0=>by simp [Mc,bV]
 |n+1=>by
  simp only [Mc]
  cases hn:hp n with
  |none=>
   dsimp only
   rw [yd n]
   by_cases e:m=n
   ·subst e;simp [hn]
   ·have:(m<n+1)=(m<n):=by apply propext;omega
    simp [this]
  |some o=>
   dsimp only
   rw [Mm,yd n]
   simp only [bV]
   by_cases e:n=m
   ·subst e
    simp [hn]
    cases h[n]? <;>rfl
   ·have:(m<n+1)=(m<n):=by apply propext;omega
    rw [if_neg e];simp [this]
theorem EN {hp:HP} {nm:Nat} {h:List aG} {v:AV} (hl:nm<h.length):(∀m o,bO (zf hp nm h v) nm hp m=some o->hp m≠some .gone->(∀m,(hp m).isSome=true->m<nm)->aj h m=some o)/\ mG (· <nm) nm (zf hp nm h v)=(· <h.length):=by
 constructor
 ·intro m o hm hg hk
  simp only [bO,zf,List.length_drop,List.length_set] at hm
  rw [br]
  split at hm
  ·rename_i hc
   rw [List.getElem?_drop,show nm+(m- nm)=m by omega,List.getElem?_set] at hm
   split at hm
   ·rename_i e
    simp [live] at hm
   ·exact hm
  ·rw [yd] at hm
   by_cases hc:m<nm/\ (hp m).isSome=true
   ·rw [if_pos hc] at hm
    have:m<h.length:=by omega
    rw [List.getElem?_eq_getElem this] at hm ⊢
    exact hm
   ·rw [if_neg hc] at hm
    have:(hp m).isSome=true:=by simp [hm]
    exact absurd ⟨hk m this,this⟩ hc
 ·funext m
  simp only [mG,zf,List.length_drop,List.length_set]
  apply propext;omega
theorem St.pinned {au:eW} {W w:World} {ρ:Env} {hp:HP} {nm:Nat} (hst:St au W ρ (· <nm) hp w):
  ∃ta:Env,(∀m,m<nm->ta m=ρ m)/\ St au W ta (· <nm+1) (aj (gQ hp nm++ [.bT ρ nm])) w:=by
 have Js: ∀m,hp m≠some .gone:=fun m e=>hst.at_ m _ e
 have h3l:(gQ hp nm++ [aG.bT ρ nm]).length=nm+1:=by simp [bK]
 have eK: ∀m,m<nm->bu ρ nm {} m=ρ m:=fun m hm=>by simp only [bu];rw [if_neg (by omega)]
 have D3: ∀m o,aj (gQ hp nm++ [aG.bT ρ nm]) m=some o->(m<nm/\ hp m=some o)\/ (m=nm/\ o= .bT ρ nm):=by
  intro m o ho
  have hlt:=eu ho
  rw [br] at ho
  rcases Nat.lt_or_ge m nm with h1|h1
  ·rw [List.getElem?_append_left (by rw [bK];exact h1),CP h1 (Js m)] at ho
   exact .inl ⟨h1,ho⟩
  ·have:m=nm:=by omega
   subst this
   rw [List.getElem?_append_right (by rw [bK];exact Nat.le_refl _),bK] at ho
   simp only [Nat.sub_self,List.getElem?_cons_zero,live,Option.some.injEq] at ho
   exact .inr ⟨rfl,ho.symm⟩
 have ag9: ∀b,dA ρ hp w b->dA (bu ρ nm {}) (aj (gQ hp nm++ [aG.bT ρ nm])) w b/\ w.heap[b]? =w.heap[b]? :=fun b hb=>by
  refine ⟨⟨hb.1,?_⟩,rfl⟩
  rintro (⟨m,h1,h2⟩|⟨m,S,h1,h2⟩)
  ·obtain ⟨o,ho⟩:=Option.isSome_iff_exists.1 h1
   rcases D3 m o ho with ⟨h3,h4⟩|⟨rfl,rfl⟩
   ·rw [eK m h3] at h2
    exact hb.2 (.inl ⟨m,by simp [h4],h2⟩)
   ·simp [bu] at h2
  ·rcases D3 m _ h1 with ⟨h3,h4⟩|⟨rfl,e⟩
   ·exact hb.2 (.inr ⟨m,S,h4,h2⟩)
   ·cases e
 refine ⟨bu ρ nm {},eK,hst.fr,fun m o ho=> ?_,fun m o ho=> ?_,fun m m' b hm hm' fC dI=> ?_,fun m b hm hb=> ?_,fun b ⟨m,S,h1,h2⟩=> ?_,fun m o ho=> ?_⟩
 rotate_right
 ·rcases D3 m o ho with ⟨h1,h2⟩|⟨rfl,rfl⟩
  ·rw [eK m h1];exact hst.tg m o h2
  ·exact .inr (by simp [bu])
 rotate_right
 ·rcases D3 m _ h1 with ⟨_,h4⟩|⟨_,e⟩
  ·obtain ⟨h5,h6⟩:=hst.oX b ⟨m,S,h4,h2⟩
   refine ⟨h5,fun ⟨n,h7,h8⟩=> ?_⟩
   obtain ⟨o,ho⟩:=Option.isSome_iff_exists.1 h7
   rcases D3 n o ho with ⟨h9,h10⟩|⟨rfl,rfl⟩
   ·rw [eK n h9] at h8
    exact h6 ⟨n,by simp [h10],h8⟩
   ·simp [bu] at h8
  ·cases e
 ·rcases D3 m o ho with ⟨h1,h2⟩|⟨rfl,rfl⟩
  ·have hk:=hst.kn m o h2
   exact ck (Kn:=(· <nm)) (hst.at_ m o h2) eK h1 hk.2 ag9 (fun _ _ h=>h) fun _ _=>rfl
  ·exact ⟨by simp [bu],eK⟩
 ·rcases D3 m o ho with ⟨h1,h2⟩|⟨rfl,rfl⟩
  ·exact ⟨by omega,aG.aR (fun i hi=>by omega) o (hst.kn m o h2).2⟩
  ·exact ⟨by omega,fun i hi=>by omega⟩
 ·obtain ⟨o,ho⟩:=Option.isSome_iff_exists.1 hm
  obtain ⟨o',Bk⟩:=Option.isSome_iff_exists.1 hm'
  rcases D3 m o ho with ⟨h1,h2⟩|⟨rfl,rfl⟩
  ·rcases D3 m' o' Bk with ⟨h3,h4⟩|⟨rfl,rfl⟩
   ·rw [eK m h1] at fC;rw [eK m' h3] at dI
    exact hst.dz m m' b (by simp [h2]) (by simp [h4]) fC dI
   ·simp [bu] at dI
  ·simp [bu] at fC
 ·obtain ⟨o,ho⟩:=Option.isSome_iff_exists.1 hm
  rcases D3 m o ho with ⟨h1,h2⟩|⟨rfl,rfl⟩
  ·rw [eK m h1] at hb
   exact hst.jP m b (by simp [h2]) hb
  ·simp [bu] at hb
theorem St.diff {au:eW} {W w:World} {ρ':Env} {hp:HP} {nm:Nat} {h:List aG} {v:AV} (hst:St au W ρ' (· <h.length) (aj h) w) (hl:nm<h.length) (hg: ∀m,hp m≠some .gone) (hk: ∀m,(hp m).isSome=true->m<nm):
  St au W ρ' (mG (· <nm) nm (zf hp nm h v)) (bO (zf hp nm h v) nm hp) w:=by
 obtain ⟨e1,e2⟩:=EN (hp:=hp) (v:=v) hl
 rw [e2]
 refine hst.less fun i o ho=> ?_
 have:=e1 i o ho (hg i) hk
 exact ⟨this,hst.kn i o this⟩
theorem St.YZ {au:eW} {W w:World} {ρ:Env} {h:List aG} (hst:St au W ρ (· <h.length) (aj h) w) (n:Nat):St au W ρ (· <(h.set n .gone).length) (aj (h.set n .gone)) w:=by
 rw [List.length_set]
 refine hst.less fun i o ho=> ?_
 rw [br,List.getElem?_set] at ho
 have:aj h i=some o:=by
  split at ho
  ·split at ho<;>simp [live] at ho
  ·rw [br];exact ho
 exact ⟨this,hst.kn i o this⟩
end Go.Ev
namespace Go.Ev
open Go.RowKit
end Go.Ev
namespace Go.Ev
open Go.RowKit
section
variable {P:Program} {ctx:Ctx} {hp:HP} {nm:Nat} {k:Rec->Prop}
end
end Go.Ev
namespace Go.Ev
open Go.RowKit
section
variable {P:Program} {ctx:Ctx} {hp:HP} {nm:Nat} {k:Rec->Prop}
end
end Go.Ev
namespace Go.Ev
open Go.RowKit
section
variable {ka:Bool} {k u:Ty}
end
section
variable {au:eW} {W:World} {ρ:Env} {Kn:Nat->Prop} {Γ:HP} {w:World}
end
section
variable {au:eW} {W:World} {ρ:Env} {Kn:Nat->Prop} {Γ:HP} {w:World}
end
section
variable {P:Program} {ctx:Ctx} {hp:HP} {nm:Nat} {k:Rec->Prop}
theorem LH (hT:cP P ctx.tt) {b:Builtin} {tys:Array TypeId} {args:List AV} (h:EX ctx b tys.toList args hp nm k) (ty:TypeId) (cs:Array Bool):
  ∃r,aL P ctx.X hp nm (fun Kn=> ∀x∈args,x.ok Kn) (fun ρ=>builtin b tys ty cs (args.map (AV.ae ρ)).toArray) (fun ρ=> .value (r.val.ae ρ)) r/\ k r:=by
 unfold EX at h
 split at h
 ·rename_i x
  split at h
  ·rename_i t r Z3
   split at h
   ·rename_i i hi
    have ht0:tys[0]? =some t:=by rw [<- Array.getElem?_toList,Z3];rfl
    split at h
    ·rename_i hd
     refine ⟨_,aL.pure ?_,h⟩
     intro au W ρ Kn Γ w _ _ _ _
     exact ⟨by simp [AV.ae,A0.ae,Cell.ae,builtin,Builtin.len_,ht0,hT.u hi,hd,goInt,gb],trivial⟩
    ·rename_i e0 p0 hd
     obtain ⟨m,s,q,u,l,rk,len,tc,he,h,FK,hm2,_,_,_,_,_,hall⟩:=qd h
     refine ⟨_,aL.pure ?_,h⟩
     intro au W ρ Kn Γ w _ _ ja hst
     obtain ⟨_,_,_,g4,_⟩:=hall au W ρ Kn Γ w ja hst
     exact ⟨by simp [AV.ae,A0.ae,Cell.ae,builtin,Builtin.len_,ht0,hT.u hi,hd,goInt,gb,g4],trivial⟩
    ·rename_i hd
     refine ⟨_,aL.pure ?_,h⟩
     intro au W ρ Kn Γ w _ _ _ _
     exact ⟨by simp [AV.ae,A0.ae,Cell.ae,builtin,Builtin.len_,ht0,hT.u hi,hd,goInt,gb],trivial⟩
    ·rename_i hd
     refine ⟨_,aL.pure ?_,h⟩
     intro au W ρ Kn Γ w _ _ _ _
     exact ⟨by simp [AV.ae,A0.ae,Cell.ae,builtin,Builtin.len_,ht0,hT.u hi,hd,goInt,gb],trivial⟩
    ·exact h.elim
   ·exact h.elim
  ·exact h.elim
 ·rename_i kk a r
  split at h
  ·rename_i n hn
   refine ⟨_,aL.pure ?_,h⟩
   intro au W ρ Kn Γ w _ _ _ _
   have:=rT (P:=P) bt Builtin.min2 (fun kk x k' y w=>by simp [Builtin.min2,bt]) ρ kk r a n hn w
   refine ⟨?_,trivial⟩
   simp [AV.ae,A0.ae,Cell.ae,builtin,Builtin.min_,gb] at this ⊢
   rw [this];rfl
  ·exact h.elim
 ·rename_i kk a r
  split at h
  ·rename_i n hn
   refine ⟨_,aL.pure ?_,h⟩
   intro au W ρ Kn Γ w _ _ _ _
   have:=rT (P:=P) bf Builtin.max2 (fun kk x k' y w=>by simp [Builtin.max2,bf]) ρ kk r a n hn w
   refine ⟨?_,trivial⟩
   simp [AV.ae,A0.ae,Cell.ae,builtin,Builtin.max_,gb] at this ⊢
   rw [this];rfl
  ·exact h.elim
 ·rename_i x y
  split at h
  rotate_left
  ·exact h.elim
  rename_i t t' Z3
  split at h
  rotate_left
  ·exact h.elim
  rename_i i i' hi hi'
  split at h
  rotate_left
  ·exact h.elim
  rename_i e e' hd hd'
  split at h
  rotate_left
  ·exact h.elim
  rename_i ei kH
  have key: ∃r,aL P ctx.X hp nm (fun Kn=>x.ok Kn/\ y.ok Kn) (fun ρ=>Builtin.append_ #[t,t'] ty #[x.ae ρ,y.ae ρ]) (fun ρ=>r.val.ae ρ) r/\ k r:=by
   exact Nx (ty:=ty) (nm:=nm) hT (by rw [(hT t i hi).1,hd]) (by rw [(hT t' i' hi').1,hd']) kH h
  obtain ⟨r,hr,hk⟩:=key
  refine ⟨r,⟨hr.1,fun au W ρ Kn Γ w hX hok ht hf hst=> ?_⟩,hk⟩
  obtain ⟨ρ',w',h1,h2⟩:=hr.2 au W ρ Kn Γ w hX ⟨hok x (by simp),hok y (by simp)⟩ ht hf hst
  refine ⟨ρ',w',?_,h2⟩
  have et:tys= #[t,t']:=by apply Array.ext';rw [Z3]
  subst et
  simp only [List.map_cons,List.map_nil,builtin,Sem.run_bind]
  rw [h1];rfl
 ·rename_i x y
  split at h
  rotate_left
  ·exact h.elim
  rename_i t t' Z3
  split at h
  rotate_left
  ·exact h.elim
  rename_i i hi
  split at h
  rotate_left
  ·exact h.elim
  rename_i e hd
  split at h
  rotate_left
  ·exact h.elim
  rename_i ei kH
  obtain ⟨r,hr,hk⟩:=VF (ty:=ty) (t':=t') (nm:=nm) hT (by rw [(hT t i hi).1,hd]) kH h
  refine ⟨r,⟨hr.1,fun au W ρ Kn Γ w hX hok ht hf hst=> ?_⟩,hk⟩
  obtain ⟨ρ',w',h1,h2⟩:=hr.2 au W ρ Kn Γ w hX ⟨hok x (by simp),hok y (by simp)⟩ ht hf hst
  refine ⟨ρ',w',?_,h2⟩
  have et:tys= #[t,t']:=by apply Array.ext';rw [Z3]
  subst et
  simp only [List.map_cons,List.map_nil,builtin,Sem.run_bind]
  rw [h1];rfl
 ·exact h.elim
end
end Go.Ev
namespace Go.Ev
open Go.RowKit
section
variable {ka:Bool} {k u:Ty}
end
section
variable {au:eW} {W:World} {ρ:Env} {Kn:Nat->Prop} {Γ:HP} {w:World}
end
end Go.Ev
