/- Maps of flat keys and slices of flat elements. -/
import Derived.Test.YtfgdjlhilladhaaGreatEvD4
noncomputable section
set_option linter.unusedSectionVars false
set_option linter.unusedVariables false
set_option linter.unusedSimpArgs false
namespace Go.Ev
open Go.RowKit
section
variable {ka:Bool} {k u:Ty}
end
section
variable {aC:mY} {W:World} {ρ:Env} {Kn:Nat->Prop} {Γ:HP} {w:World}
end
section
variable {aC:mY} {W:World} {ρ:Env} {Kn:Nat->Prop} {Γ:HP} {w:World}
end
section
variable {P:Program} {ctx:Ctx} {hp:HP} {nm:Nat} {k:Rec->Prop}
theorem QO (hT:aW P ctx.tt) {b:Builtin} {tys:Array TypeId} {args:List AV} (h:JR ctx b tys.toList args hp nm k) (ty:TypeId) (cs:Array Bool):
  ∃r,aS P ctx.X hp nm (fun Kn=> ∀x∈args,x.ok Kn) (fun ρ=>builtin b tys ty cs (args.map (AV.af ρ)).toArray) (fun ρ=> .value (r.val.af ρ)) r/\ k r:=by
 unfold JR at h
 split at h
 ·rename_i x
  split at h
  ·rename_i t r adV
   split at h
   ·rename_i i hi
    have ht0:tys[0]? =some t:=by rw [<- Array.getElem?_toList,adV];rfl
    split at h
    ·rename_i hd
     refine ⟨_,aS.pure ?_,h⟩
     intro aC W ρ Kn Γ w _ _ _ _
     exact ⟨by simp [AV.af,A0.af,Cell.af,builtin,Builtin.len_,ht0,hT.u hi,hd,goInt,iI],trivial⟩
    ·rename_i hd
     obtain ⟨m,s,q,u,l,rk,len,tc,he,h,hm1,hm2,_,_,_,_,_,pA⟩:=sI h
     refine ⟨_,aS.pure ?_,h⟩
     intro aC W ρ Kn Γ w _ _ kI hst
     obtain ⟨_,_,_,g4,_⟩:=pA aC W ρ Kn Γ w kI hst
     exact ⟨by simp [AV.af,A0.af,Cell.af,builtin,Builtin.len_,ht0,hT.u hi,hd,goInt,iI,g4],trivial⟩
    ·rename_i hd
     refine ⟨_,aS.pure ?_,h⟩
     intro aC W ρ Kn Γ w _ _ _ _
     exact ⟨by simp [AV.af,A0.af,Cell.af,builtin,Builtin.len_,ht0,hT.u hi,hd,goInt,iI],trivial⟩
    ·rename_i hd
     refine ⟨_,aS.pure ?_,h⟩
     intro aC W ρ Kn Γ w _ _ _ _
     exact ⟨by simp [AV.af,A0.af,Cell.af,builtin,Builtin.len_,ht0,hT.u hi,hd,goInt,iI],trivial⟩
    ·rename_i kt et n hd
     split at h<;>try (exact h.elim)
     rename_i ka va k0 v0 l hn
     refine ⟨_,aS.pure ?_,h⟩
     intro aC W ρ Kn Γ w _ _ kI hst
     obtain ⟨_,_,b,es,QS,hb,hh,he⟩:=hst.at_ n _ (by rw [kI n (by simp),hn])
     have hlen:es.size=l.length:=by have:=congrArg List.length he;simpa using this
     exact ⟨by simp [AV.af,A0.af,Cell.af,builtin,Builtin.len_,ht0,hT.u hi,hd,goInt,iI,hb,MapKept.run_getObj_map hh,hlen],trivial⟩
    ·exact h.elim
   ·exact h.elim
  ·exact h.elim
 ·rename_i kk a r
  split at h
  ·rename_i n hn
   refine ⟨_,aS.pure ?_,h⟩
   intro aC W ρ Kn Γ w _ _ _ _
   have:=uY (P:=P) aG Builtin.min2 (fun kk x k' y w=>by simp [Builtin.min2,aG]) ρ kk r a n hn w
   refine ⟨?_,trivial⟩
   simp [AV.af,A0.af,Cell.af,builtin,Builtin.min_,iI] at this ⊢
   rw [this];rfl
  ·exact h.elim
 ·rename_i kk a r
  split at h
  ·rename_i n hn
   refine ⟨_,aS.pure ?_,h⟩
   intro aC W ρ Kn Γ w _ _ _ _
   have:=uY (P:=P) aI Builtin.max2 (fun kk x k' y w=>by simp [Builtin.max2,aI]) ρ kk r a n hn w
   refine ⟨?_,trivial⟩
   simp [AV.af,A0.af,Cell.af,builtin,Builtin.max_,iI] at this ⊢
   rw [this];rfl
  ·exact h.elim
 ·rename_i x y
  split at h
  rotate_left
  ·exact h.elim
  rename_i t t' adV
  split at h
  rotate_left
  ·exact h.elim
  rename_i i i' hi hi'
  split at h
  rotate_left
  ·exact h.elim
  rename_i e e' hd hd'
  split at h
  rotate_left
  ·exact h.elim
  rename_i ei mW
  have key: ∃r,aS P ctx.X hp nm (fun Kn=>x.ok Kn/\ y.ok Kn) (fun ρ=>Builtin.append_ #[t,t'] ty #[x.af ρ,y.af ρ]) (fun ρ=>r.val.af ρ) r/\ k r:=by
   exact S1 (ty:=ty) (nm:=nm) hT (by rw [(hT t i hi).1,hd]) (by rw [(hT t' i' hi').1,hd']) mW h
  obtain ⟨r,hr,hk⟩:=key
  refine ⟨r,⟨hr.1,fun aC W ρ Kn Γ w hX hok ht hf hst=> ?_⟩,hk⟩
  obtain ⟨ρ',w',h1,h2⟩:=hr.2 aC W ρ Kn Γ w hX ⟨hok x (by simp),hok y (by simp)⟩ ht hf hst
  refine ⟨ρ',w',?_,h2⟩
  have et:tys= #[t,t']:=by apply Array.ext';rw [adV]
  subst et
  simp only [List.map_cons,List.map_nil,builtin,Sem.run_bind]
  rw [h1];rfl
 ·rename_i x y
  split at h
  rotate_left
  ·exact h.elim
  rename_i t t' adV
  split at h
  rotate_left
  ·exact h.elim
  rename_i i hi
  split at h
  rotate_left
  ·exact h.elim
  rename_i e hd
  split at h
  rotate_left
  ·exact h.elim
  rename_i ei mW
  obtain ⟨r,hr,hk⟩:=aak (ty:=ty) (t':=t') (nm:=nm) hT (by rw [(hT t i hi).1,hd]) mW h
  refine ⟨r,⟨hr.1,fun aC W ρ Kn Γ w hX hok ht hf hst=> ?_⟩,hk⟩
  obtain ⟨ρ',w',h1,h2⟩:=hr.2 aC W ρ Kn Γ w hX ⟨hok x (by simp),hok y (by simp)⟩ ht hf hst
  refine ⟨ρ',w',?_,h2⟩
  have et:tys= #[t,t']:=by apply Array.ext';rw [adV]
  subst et
  simp only [List.map_cons,List.map_nil,builtin,Sem.run_bind]
  rw [h1];rfl
 ·exact h.elim
end
end Go.Ev
