/- Deep rows: slices in a row's elements are read, and written. -/
import Derived.Test.YtleemdeodmdnkaaEvD4
noncomputable section
set_option linter.unusedSectionVars false
set_option linter.unusedVariables false
set_option linter.unusedSimpArgs false
namespace Go.Ev
open Go.RowKit
section
variable {P : Program} {ctx : Ctx} {hp : HP} {nm : Nat} {k : Rec → Prop}
theorem isSetO_spec {o : Option AObj} (h : isSetO o = true) : ∃ n,o = some (.set n) := by
 unfold isSetO at h
 split at h
 ·exact ⟨_,rfl⟩
 ·cases h
theorem withNv_spec {m : Nat} {kk : (n c j q:Nat) → (t : Ty) → List t.T → (st kn : Bool) → (u : Ty) → List u.T → Prop} (h : withNv hp m kk) :
  ∃ n c j q t l st kn u x g,hp m = some (.nv n c j q u) ∧ hp n = some (.dp t l c st kn) ∧ hp c = some (.set g) ∧ j < l.length ∧ (t.comps (gd t l j))[q]? = some (.sl u x) ∧ kk n c j q t l st kn u x := by
 unfold withNv at h
 split at h <;> try (exact h.elim)
 rename_i n c j q u he
 split at h <;> try (exact h.elim)
 rename_i t l c' st kn he2
 split at h <;> try (exact h.elim)
 rename_i hc
 obtain ⟨rfl,hset⟩ := hc
 obtain ⟨g,hg⟩ := isSetO_spec hset
 have hOb := ob_spec h
 clear h
 obtain ⟨hj,h⟩ := hOb
 split at h <;> try (exact h.elim)
 rename_i u' x hx
 split at h <;> try (exact h.elim)
 rename_i hu; subst hu
 exact ⟨n,c',j,q,t,l,st,kn,u',x,g,he,he2,hg,by simpa using hj,hx,h⟩
theorem entAt_fun {w : World} {x : Loc} (h : ∀ e ∈ x.ents,EntAt w e) {a : Addr} {v v' : Value} (hv : entAt x.ents a v) (hv' : entAt x.ents a v') : v = v' := by
 have := (entAt_cell h hv).1
 rw [(entAt_cell h hv').1] at this
 exact (Option.some.inj this).symm
theorem nv_at {bor : Bor} {W w : World} {ρ : Env} {Kn : Nat → Prop} {Γ : HP} (hst : St bor W ρ Kn Γ w) {m n c j q g : Nat} {t u : Ty} {l : List t.T} {st kn : Bool} {x : List u.T}
  (hm : Γ m = some (.nv n c j q u)) (hn : Γ n = some (.dp t l c st kn)) (hc : Γ c = some (.set g)) (hj : j < l.length) (hq : (t.comps (gd t l j))[q]? = some (.sl u x)) :
  u.flat = true ∧ (ρ m).len = x.length ∧ (ρ m).es = u.size ∧ x.length ≤ (ρ m).cap ∧ ∀ i v,(flatVals u x)[i]? = some v → ∃ a v',(ρ m).base = some a ∧ entAt (ρ c).ents (a.add i) v' ∧ (kn = true → v' = v) := by
 obtain ⟨_,_,o2,_,sub,rb,h0,h1,h2⟩ := hst.at_ n _ hn
 obtain ⟨_,p1,a,p2,p3⟩ := hst.at_ m _ hm
 obtain ⟨_,s1,_⟩ := hst.at_ c _ hc
 have hp := gd_mem hj hq
 rw [h0 (by rintro rfl; exact absurd hj (Nat.not_lt_zero _))] at p2
 cases p2
 have e := h1 (j * t.size + q) _ (by rw [valsFrom_get,hp]; rfl)
 rw [o2,add_mk,Nat.zero_add] at p3
 have e := entAt_fun s1 p3 e
 simp only [compVal,Value.slice.injEq,Nat.zero_add] at e
 obtain ⟨e1,e2,e3⟩ := e
 obtain ⟨g1,g2,g3⟩ := h2 _ u x hp
 refine ⟨g1,e2,p1,by rw [e3]; exact g2,fun i v hv => ?_⟩
 obtain ⟨a,v',f1,_,f3,f4⟩ := g3 i v hv
 exact ⟨a,v',by rw [e1]; exact f1,f3,f4⟩
theorem nvAddrE_loc (hT : TOk P ctx.tt) {t : TypeId} {i : TI} (ht : lookN ctx.tt t = some i) {x ix : AV} (h : nvAddrE ctx i x ix hp k) :
  ∃ r,SemLoc P ctx.X hp nm (fun Kn => x.ok Kn ∧ ix.ok Kn) (fun ρ => Instr.indexAt t (x.conc ρ) (ix.conc ρ)) (fun ρ => r.val.conc ρ) r ∧ k r := by
 unfold nvAddrE at h
 split at h <;> try (exact h.elim)
 rename_i kk j0 m
 split at h <;> try (exact h.elim)
 rename_i e hd
 split at h <;> try (exact h.elim)
 rename_i ei hei
 replace h := withNv_spec h
 obtain ⟨n,c,j,q,t',l,st,kn,u,y,g,hm,hn,hc,hj,hq,h⟩ := h
 have hOb := ob_spec h
 clear h
 obtain ⟨hj0,h⟩ := hOb
 have hj0 := inR_spec hj0
 split at h <;> try (exact h.elim)
 rename_i hsz
 refine ⟨_,SemLoc.pure fun bor W ρ Kn Γ w _ hk htc hst => ?_,h⟩
 obtain ⟨g1,g2,g3,g4,g5⟩ := nv_at hst (by rw [htc m (by simp),hm]) (by rw [htc n (by simp),hn]) (by rw [htc c (by simp),hc]) hj hq
 have hpos := u.size_pos
 obtain ⟨a,v',ha,_⟩ := g5 0 _ (List.getElem?_eq_getElem (by rw [flatVals_length]; exact Nat.mul_pos (by omega) hpos))
 refine ⟨?_,hk.1⟩
 rw [eptr_conc ha]
 simp [AV.conc,A0.conc,Cell.conc,ha,Instr.indexAt,asIntOf,hT.u ht,hd,g2,hj0,hT.sz hei,hsz,g3]
theorem dpLoadE_loc (hT : TOk P ctx.tt) {t : TypeId} {i : TI} (ht : lookN ctx.tt t = some i) {x : AV} (h : dpLoadE i x hp nm k) :
  ∃ r,SemLoc P ctx.X hp nm (fun Kn => x.ok Kn) (fun ρ => Instr.loadAt t (x.conc ρ)) (fun ρ => r.val.conc ρ) r ∧ k r := by
 unfold dpLoadE at h
 split at h <;> try (exact h.elim)
 rename_i n j q
 split at h <;> try (exact h.elim)
 ·rename_i t' l c st kn hn
  split at h <;> try (exact h.elim)
  rename_i hc
  obtain ⟨hset,hag⟩ := hc
  obtain ⟨g,hc⟩ := isSetO_spec hset
  have hOb := ob_spec h
  clear h
  obtain ⟨hj,h⟩ := hOb
  have hj : j < l.length := by simpa using hj
  split at h <;> try (exact h.elim)
  rename_i u z hq
  refine ⟨_,⟨fun p hp => absurd hp (by simp),?_⟩,h⟩
  intro bor W ρ Kn Γ w _ hk htc hfr hst
  have hnm : ¬ Kn nm := by simpa using hfr 0 (by simp)
  have hΓ : Γ n = some (.dp t' l c st kn) := by rw [htc n (by simp),hn]
  have hΓc : Γ c = some (.set g) := by rw [htc c (by simp),hc]
  obtain ⟨_,_,o2,_,sub,rb,h0,h1,h2⟩ := hst.at_ n _ hΓ
  obtain ⟨_,s1,_⟩ := hst.at_ c _ hΓc
  have hp := gd_mem hj hq
  have hb := h0 (by rintro rfl; exact absurd hj (Nat.not_lt_zero _))
  have e := h1 (j * t'.size + q) _ (by rw [valsFrom_get,hp]; rfl)
  simp only [compVal,Nat.zero_add] at e
  let X : Loc := { blk := none,base := (sub (j * t'.size + q)).1,len := z.length,cap := (sub (j * t'.size + q)).2,es := u.size }
  have hX : updE ρ nm X nm = X := by simp [updE]
  have hnn : updE ρ nm X n = ρ n := updE_old hnm n (hst.kn n _ hΓ).1
  have hcc : updE ρ nm X c = ρ c := updE_old hnm c (hst.kn c _ hΓc).1
  refine ⟨updE ρ nm X,w,?_,updE_old hnm,.inr (by simp),?_⟩
  ·show (Instr.loadAt t ((AV.v (.one (.eptr n j q))).conc ρ)).run P w = Result.ok (.slice (updE ρ nm X nm).base (updE ρ nm X nm).len (updE ρ nm X nm).cap) w
   rw [eptr_conc hb,add_mk,o2,hX]
   have hcell := (entAt_cell s1 e).1
   simp [Instr.loadAt,Instr.sureAddr,loadVar,hT.ag ht,hag,hcell,X]
  ·rw [knR_one]
   refine hst.swap (G := []) (o := .nv n c j q u) (x := X) hnm hst.fr (fun _ _ _ => rfl) (fun b hb => by cases hb) (fun m p hp => ?_) ⟨.inl (hst.kn n _ hΓ).1,.inl (hst.kn c _ hΓc).1⟩ (fun _ h => by cases h) fun _ _ => ?_
   ·simp only [appH,List.length_singleton,lastW] at hp
    split at hp
    ·rename_i h1
     rw [show m - nm = 0 by omega] at hp
     simp only [List.getElem?_cons_zero,live,Option.some.injEq] at hp
     exact .inl ⟨by omega,hp.symm⟩
    ·rename_i h1
     exact .inr ⟨by omega,by simp,hp⟩
   ·rw [objAt,hX,hnn,hcc]
    refine ⟨rfl,rfl,_,hb,?_⟩
    rw [add_mk,Nat.zero_add,o2]; exact e
 ·replace h := withNv_spec h
  obtain ⟨n',c,j',q',t',l,st,kn,u,y,g,hm,hn,hc,hj',hq',h⟩ := h
  split at h <;> try (exact h.elim)
  rename_i hsz
  have hOb := ob_spec h
  clear h
  obtain ⟨hkn,h⟩ := hOb
  have hOb := ob_spec h
  clear h
  obtain ⟨hj,h⟩ := hOb
  have hj : j < y.length := by simpa using hj
  generalize hvw : viewE 0 (compsAt u y j q i.size) = vw at h
  obtain ⟨cs,os⟩ := vw
  dsimp only at h
  split at h <;> try (exact h.elim)
  rename_i v hv
  refine ⟨_,SemLoc.pure fun bor W ρ Kn Γ w _ hk htc hst => ?_,h⟩
  have hΓc : Γ c = some (.set g) := by rw [htc c (by simp),hc]
  obtain ⟨huf,g2,g3,g4,g5⟩ := nv_at hst (by rw [htc n (by simp),hm]) (by rw [htc n' (by simp),hn]) hΓc hj' hq'
  obtain ⟨_,s1,_⟩ := hst.at_ c _ hΓc
  have hpos := u.size_pos
  obtain ⟨a,v0,ha,_⟩ := g5 0 _ (List.getElem?_eq_getElem (by rw [flatVals_length]; exact Nat.mul_pos (by omega) hpos))
  have hfl : ∀ x ∈ compsAt u y j q i.size,∃ v,x = .flat v := fun x hx => St.views.flat_comps u huf _ x (List.mem_of_mem_drop (List.mem_of_mem_take hx))
  rw [viewE_flat _ _ hfl] at hvw
  cases hvw
  have hcell : ∀ m v,((compsAt u y j q i.size).map compFlat)[m]? = some v → w.cell? ((a.add (j * u.size + q)).add m) = some v := fun m v hm => by
   rw [add_add']
   rw [List.getElem?_map] at hm
   obtain ⟨x,hx,rfl⟩ := Option.map_eq_some_iff.1 hm
   unfold compsAt at hx
   rw [List.getElem?_take] at hx
   split at hx
   ·rw [List.getElem?_drop] at hx
    have := gd_mem hj hx
    have h12 : (flatVals u y)[j * u.size + q + m]? = some (compFlat x) := by
     unfold flatVals
     rw [List.getElem?_map,show j * u.size + q + m = j * u.size + (q + m) by omega,this]; rfl
    obtain ⟨a',v',f1,f2,f3⟩ := g5 _ _ h12
    rw [ha] at f1; cases f1
    rw [f3 hkn] at f2
    exact (entAt_cell s1 f2).1
   ·cases hx
  have hlen : ((compsAt u y j q i.size).map compFlat).length = i.size := by simp [compsAt,comps_length]; omega
  have ex : (AV.v (.one (.eptr n j q))).conc ρ = .pointer (some (a.add (j * u.size + q))) := by rw [eptr_conc ha,g3]
  have hcc : ((compsAt u y j q i.size).map fun c => Cell.raw (compFlat c)).map (Cell.conc ρ) = (compsAt u y j q i.size).map compFlat := by
   rw [List.map_map]; rfl
  refine ⟨?_,?_⟩
  ·show (Instr.loadAt t ((AV.v (.one (.eptr n j q))).conc ρ)).run P w = _
   rw [ex]
   simp only [Instr.loadAt,Instr.sureAddr,Sem.run_bind,Sem.run_pure,Result.andThen_ok]
   unfold mkVal at hv
   split at hv
   ·rename_i hag
    cases hv
    have hl2 := run_loadCells_list (P := P) w (a.add (j * u.size + q)) _ hcell
    rw [hlen] at hl2
    simp [loadVar,hT.ag ht,hag,hT.sz ht,hl2,AV.conc,A0.conc,hcc]
   ·rename_i hag
    split at hv
    ·rename_i c0 hc0
     cases hv
     have hcc1 := hcc
     rw [hc0] at hcc1
     simp only [List.map_cons,List.map_nil] at hcc1
     have := hcell 0 (c0.conc ρ) (by rw [← hcc1]; rfl)
     rw [add_add',Nat.add_zero] at this
     simp [loadVar,hT.ag ht,hag,this,AV.conc,A0.conc]
    ·cases hv
  ·unfold mkVal at hv
   have hok : ∀ c ∈ (compsAt u y j q i.size).map fun c => Cell.raw (compFlat c),c.ok Kn := fun c hc => by
    obtain ⟨_,_,rfl⟩ := List.mem_map.1 hc; trivial
   split at hv
   ·cases hv; exact hok
   ·split at hv
    ·rename_i c0 hc0
     cases hv
     exact hok c0 (by rw [hc0]; simp)
    ·cases hv
def updEnt (b off:Nat) (y : Value) (e : Ent) : Ent := if e.blk = some b then { e with vals := e.vals.set off y } else e
theorem updEnt_blk (b off:Nat) (y : Value) (e : Ent) : (updEnt b off y e).blk = e.blk := by unfold updEnt; split <;> rfl
theorem entAt_upd {es : List Ent} {b off : Nat} {y : Value} {a : Addr} {v : Value} (h : entAt es a v) : ∃ v',entAt (es.map (updEnt b off y)) a v' ∧ (a ≠ ⟨b,off,none⟩ → v' = v) ∧ (a = ⟨b,off,none⟩ → v' = y) := by
 obtain ⟨e,b1,o1,h1,rfl,h2,h3⟩ := h
 by_cases hb : b1 = b
 ·subst hb
  by_cases ho : o1 = off
  ·subst ho
   refine ⟨y,⟨updEnt b1 o1 y e,b1,o1,List.mem_map_of_mem h1,rfl,by rw [updEnt_blk]; exact h2,?_⟩,fun h => absurd rfl h,fun _ => rfl⟩
   unfold updEnt
   rw [if_pos h2]
   exact List.getElem?_set_self (List.getElem?_eq_some_iff.1 h3).1
  ·refine ⟨v,⟨updEnt b1 off y e,b1,o1,List.mem_map_of_mem h1,rfl,by rw [updEnt_blk]; exact h2,?_⟩,fun _ => rfl,fun h => by injection h with _ h _; exact absurd h ho⟩
   unfold updEnt
   rw [if_pos h2]
   dsimp only
   rw [List.getElem?_set_ne (Ne.symm ho)]; exact h3
 ·refine ⟨v,⟨updEnt b off y e,b1,o1,List.mem_map_of_mem h1,rfl,by rw [updEnt_blk]; exact h2,?_⟩,fun _ => rfl,fun h => by injection h with h _ _; exact absurd h hb⟩
  unfold updEnt
  rw [if_neg (by rw [h2]; intro h; cases h; exact hb rfl)]; exact h3
theorem nestV_eq (t : Ty) (l : List t.T) : nestV t l = (rowComps t l).flatMap nestC := by
 unfold nestV rowComps; rw [List.flatMap_assoc]
theorem nestC_sl (u : Ty) (x : List u.T) : nestC (.sl u x) = flatVals u x := by
 unfold nestC flatVals rowComps; rw [List.map_flatMap]
theorem flatMap_nodup {α β : Type} {f : α → List β} : ∀ {L : List α} {p p' i i' : Nat} {a a' : α} {v : β},(L.flatMap f).Nodup → L[p]? = some a → L[p']? = some a' → (f a)[i]? = some v → (f a')[i']? = some v → p = p' ∧ i = i'
 | [],p,p',i,i',a,a',v,_,h,_,_,_ => by simp at h
 | c :: L,p,p',i,i',a,a',v,hn,h1,h2,h3,h4 => by
  rw [List.flatMap_cons,List.nodup_append] at hn
  obtain ⟨n1,n2,n3⟩ := hn
  have mem : ∀ {p : Nat} {a : α} {i : Nat},L[p]? = some a → (f a)[i]? = some v → v ∈ L.flatMap f := fun h h' => List.mem_flatMap.2 ⟨_,List.mem_of_getElem? h,List.mem_of_getElem? h'⟩
  cases p with
  | zero =>
   simp only [List.getElem?_cons_zero,Option.some.injEq] at h1; subst h1
   cases p' with
   | zero =>
    simp only [List.getElem?_cons_zero,Option.some.injEq] at h2; subst h2
    refine ⟨rfl,?_⟩
    obtain ⟨l3,e3⟩ := List.getElem?_eq_some_iff.1 h3
    obtain ⟨l4,e4⟩ := List.getElem?_eq_some_iff.1 h4
    have hpw := List.pairwise_iff_getElem.1 n1
    rcases Nat.lt_trichotomy i i' with h | h | h
    ·exact absurd (e3.trans e4.symm) (hpw i i' l3 l4 h)
    ·exact h
    ·exact absurd (e4.trans e3.symm) (hpw i' i l4 l3 h)
   | succ p' => exact absurd rfl (n3 v (List.mem_of_getElem? h3) v (mem (by simpa using h2) h4))
  | succ p =>
   cases p' with
   | zero =>
    simp only [List.getElem?_cons_zero,Option.some.injEq] at h2; subst h2
    exact absurd rfl (n3 v (List.mem_of_getElem? h4) v (mem (by simpa using h1) h3))
   | succ p' =>
    obtain ⟨e1,e2⟩ := flatMap_nodup n2 (by simpa using h1) (by simpa using h2) h3 h4
    exact ⟨by rw [e1],e2⟩
theorem rowComps_nest {t u : Ty} {l : List t.T} {j q : Nat} {x' : t.T} {z' : List u.T} (hj : j < l.length) (hq : q < t.size) (hx : t.comps x' = setCells (t.comps (gd t l j)) q [.sl u z']) (p:Nat) :
  (rowComps t (l.set j x'))[p]? = if p = j * t.size + q then some (.sl u z') else (rowComps t l)[p]? := by
 have hrl := rowComps_length t l
 have hjl : j * t.size + t.size ≤ l.length * t.size := by rw [← Nat.succ_mul]; exact Nat.mul_le_mul_right _ (by omega)
 rw [rowComps_set t x' l j hj,setCells_get _ _ _ _ (by rw [comps_length]; omega),comps_length,hx]
 by_cases h1 : j * t.size ≤ p ∧ p < j * t.size + t.size
 ·rw [if_pos h1,setCells_get _ _ _ _ (by rw [comps_length]; simp; omega)]
  by_cases h2 : p = j * t.size + q
  ·subst h2
   rw [if_pos rfl,if_pos (by constructor <;> simp <;> omega)]
   have : j * t.size + q - j * t.size - q = 0 := by omega
   rw [this]; rfl
  ·rw [if_neg (by simp; omega),if_neg h2]
   have := rowComps_get t l j _ (p - j * t.size) (gd_get hj) (by omega)
   rw [show j * t.size + (p - j * t.size) = p by omega] at this
   exact this.symm
 ·rw [if_neg h1,if_neg (by omega)]
theorem flatVals_int (l : List Int) : flatVals (.int .i64) l = l.map fun n => Value.int .i64 n := by
 unfold flatVals rowComps
 rw [List.map_flatMap]
 induction l with
 | nil => rfl
 | cons a r ih => rw [List.flatMap_cons,ih]; rfl
theorem setInt_spec {u : Ty} {x z : List u.T} {k0 : Nat} {y : Int} (h : setInt u x k0 y = some z) : u.size = 1 ∧ z.length = x.length ∧ flatVals u z = (flatVals u x).set k0 (.int .i64 y) := by
 cases u with
 | int kk =>
  cases kk with
  | i64 =>
   obtain rfl : List.set (show List Int from x) k0 y = z := Option.some.inj h
   refine ⟨rfl,List.length_set,(flatVals_int _).trans ?_⟩
   rw [List.map_set]
   exact congrArg (fun q : List Value => q.set k0 (.int .i64 y)) (flatVals_int _).symm
  | _ => cases h
 | _ => cases h
theorem dp_store {bor : Bor} {W w : World} {ρ : Env} {Kn : Nat → Prop} {Γ : HP} (hst : St bor W ρ Kn Γ w) {m n c j q g : Nat} {t u : Ty} {l l2 : List t.T} {st kn kn2 : Bool} {x : List u.T} {nm : Nat} {y : Value} {b off k0 : Nat} {cells : Array Value} {a0 : Addr}
  (hm : Γ m = some (.nv n c j q u)) (hn : Γ n = some (.dp t l c st kn)) (hc : Γ c = some (.set g)) (hj : j < l.length) (hq : (t.comps (gd t l j))[q]? = some (.sl u x)) (hnm : ¬ Kn nm)
  (hb : (ρ c).has b) (hbase : (ρ m).base = some a0) (hak : a0.add k0 = ⟨b,off,none⟩) (hset : ∀ e ∈ (ρ c).ents,EntAt (w.setRow b cells) (updEnt b off y e)) (hl2 : l2.length = l.length)
  (hh : ∀ i v,(∃ sub,(valsFrom sub 0 (rowComps t l2))[i]? = some v) → i < (rowComps t l).length) (hv : ∀ sub,valsFrom sub 0 (rowComps t l2) = valsFrom sub 0 (rowComps t l))
  (hN : ∀ sub : Nat → Option Addr × Nat,(sub (j * t.size + q)).1 = some a0 → (∀ p u' l',(rowComps t l)[p]? = some (.sl u' l') → u'.flat = true ∧ l'.length ≤ (sub p).2 ∧ ∀ i v,(flatVals u' l')[i]? = some v → ∃ a v',(sub p).1 = some a ∧ entAt (ρ c).ents (a.add i) v' ∧ (kn = true → v' = v)) →
   ∀ p u' l',(rowComps t l2)[p]? = some (.sl u' l') → u'.flat = true ∧ l'.length ≤ (sub p).2 ∧ ∀ i v,(flatVals u' l')[i]? = some v → ∃ a,(sub p).1 = some a ∧ (∃ v0,entAt (ρ c).ents (a.add i) v0) ∧ (kn2 = true → (a.add i ≠ ⟨b,off,none⟩ → entAt (ρ c).ents (a.add i) v) ∧ (a.add i = ⟨b,off,none⟩ → v = y))) (hk0 : k0 < (flatVals u x).length) :
  St bor W (updE ρ nm { ρ c with ents := (ρ c).ents.map (updEnt b off y) }) (knN Kn nm) (appH { val := und,fresh := [.set n],writes := [(n,.dp t l2 nm st kn2),(c,.gone),(m,.gone)],touch := [m,n,c] } nm Γ) (w.setRow b cells) := by
 obtain ⟨q1,q2,q3,q4,sub,rb,h0,h1,h2⟩ := hst.at_ n _ hn
 obtain ⟨s0,s1,s2⟩ := hst.at_ c _ hc
 obtain ⟨_,p1,a,p2,p3⟩ := hst.at_ m _ hm
 let X : Loc := { ρ c with ents := (ρ c).ents.map (updEnt b off y) }
 have hX : updE ρ nm X nm = X := by simp [updE]
 have hXb : ∀ b',X.has b' ↔ (ρ c).has b' := fun b' => by
  constructor
  ·rintro (h | ⟨e,h1,h2⟩)
   ·exact .inl h
   ·obtain ⟨e',h3,rfl⟩ := List.mem_map.1 h1
    rw [updEnt_blk] at h2
    exact .inr ⟨e',h3,h2⟩
  ·rintro (h | ⟨e,h1,h2⟩)
   ·exact .inl h
   ·exact .inr ⟨_,List.mem_map_of_mem h1,by rw [updEnt_blk]; exact h2⟩
 have hcn : c ≠ n := by rintro rfl; rw [hc] at hn; cases hn
 have hmn : m ≠ n := by rintro rfl; rw [hm] at hn; cases hn
 have hkn := (hst.kn n _ hn).1
 have hnn : n ≠ nm := by rintro rfl; exact hnm hkn
 let Γ1 : HP := fun z => if z = nm then some (.set n) else if z = c ∨ z = m then none else Γ z
 have hst1 : St bor W (updE ρ nm X) (knN Kn nm) Γ1 (w.setRow b cells) := by
  refine hst.swapH (G := [c,m]) (o := .set n) (x := X) hnm (hst.fr.setRow (hst.ownH c b (by rw [hc]; rfl) hb) _) (fun b' _ hx => setRow_other _ _ _ _ (by rintro rfl; exact hx ((hXb _).2 hb))) (fun b' hx => ⟨.inr ⟨c,by simp,by rw [hc]; rfl,(hXb b').1 hx⟩,hst.ownH c b' (by rw [hc]; rfl) ((hXb b').1 hx)⟩) (.inl ⟨_,rfl⟩) (fun z p hz => ?_) (.inl hkn) (fun _ h => by cases h) fun _ _ => ?_
  ·simp only [Γ1] at hz
   split at hz
   ·cases hz; exact .inl ⟨‹_›,rfl⟩
   ·split at hz
    ·cases hz
    ·rename_i e1 e2
     exact .inr ⟨e1,by simpa using e2,hz⟩
  ·rw [objAt,hX]
   refine ⟨s0,fun e he => ?_,?_⟩
   ·obtain ⟨e',h3,rfl⟩ := List.mem_map.1 he
    exact hset e' h3
   ·refine List.pairwise_map.2 (s2.imp fun h b' hb' => ?_)
    rw [updEnt_blk] at hb' ⊢
    exact h b' hb'
 have hne : l ≠ [] := fun h => by rw [h] at hj; exact absurd hj (Nat.not_lt_zero _)
 have hrb : b ≠ rb := by
  have hp := gd_mem hj hq
  have e := h1 (j * t.size + q) _ (by rw [valsFrom_get,hp]; rfl)
  rw [h0 hne] at p2
  cases p2
  rw [q3,add_mk,Nat.zero_add] at p3
  have e := entAt_fun s1 p3 e
  simp only [compVal,Value.slice.injEq,Nat.zero_add] at e
  obtain ⟨_,_,g3⟩ := h2 _ u x hp
  obtain ⟨a,v',f1,f2,f3,f4⟩ := g3 k0 _ (List.getElem?_eq_getElem hk0)
  rw [← e.1,hbase] at f1; cases f1
  have hbb : a0.block = b := by
   have := congrArg Addr.block hak
   rwa [add_block] at this
  rw [← hbb]; exact f2
 have hsub0 : (sub (j * t.size + q)).1 = some a0 := by
  have hp := gd_mem hj hq
  have e := h1 (j * t.size + q) _ (by rw [valsFrom_get,hp]; rfl)
  rw [h0 hne] at p2
  cases p2
  rw [q3,add_mk,Nat.zero_add] at p3
  have e := entAt_fun s1 p3 e
  simp only [compVal,Value.slice.injEq,Nat.zero_add] at e
  rw [← e.1]; exact hbase
 have hΓ1n : Γ1 n = some (.dp t l c st kn) := by simp only [Γ1]; rw [if_neg hnn,if_neg (fun h => h.elim (fun h => hcn h.symm) fun h => hmn h.symm)]; exact hn
 let Γ2 : HP := updH Γ1 n (.dp t l2 nm st kn2)
 have hsm : ∀ z,(Γ2 z).isSome = true → (Γ1 z).isSome = true := fun z hz => by
  simp only [Γ2,updH] at hz
  split at hz
  ·rename_i e; subst e; rw [hΓ1n]; rfl
  ·exact hz
 have hst2 : St bor W (updE ρ nm X) (knN Kn nm) Γ2 (w.setRow b cells) := by
  refine hst1.regroup (fun _ _ => rfl) (fun _ h => h) (fun z b' hz hb' => ⟨z,hsm z hz,hb'⟩) (fun z z' b' hz hz' h1 h2 => hst1.injH z z' b' (hsm z hz) (hsm z' hz') h1 h2) (fun b' ⟨z,S,h1,h2⟩ => ?_) fun z o hz => ?_
  ·simp only [Γ2,updH] at h1
   split at h1
   ·cases h1
   ·exact ⟨z,S,h1,h2⟩
  ·simp only [Γ2,updH] at hz
   split at hz
   rotate_left
   ·exact .inl hz
   rename_i e; subst e
   cases hz
   have hρn : updE ρ nm X z = ρ z := updE_old hnm z hkn
   refine .inr ⟨.inl hkn,.inr rfl,.inr (by rw [hρn]; exact ((hst.noe z _ hn).resolve_left (by rintro ⟨_,h⟩; cases h))),fun _ => ?_⟩
   rw [objAt,hρn,hX]
   refine ⟨q1,by rw [hl2]; exact q2,q3,by rw [hl2]; exact q4,sub,rb,fun _ => h0 hne,fun i v hi => ?_,fun p u' l' hp => ?_⟩
   ·rw [hv] at hi
    obtain ⟨v',e1,e2,_⟩ := entAt_upd (b := b) (off := off) (y := y) (h1 i v hi)
    rw [← e2 (by intro h; injection h with h _ _; exact hrb h.symm)]; exact e1
   ·have h2' : ∀ p u' l',(rowComps t l)[p]? = some (.sl u' l') → u'.flat = true ∧ l'.length ≤ (sub p).2 ∧ ∀ i v,(flatVals u' l')[i]? = some v → ∃ a v',(sub p).1 = some a ∧ entAt (ρ c).ents (a.add i) v' ∧ (kn = true → v' = v) := fun p u' l' hp => by
     obtain ⟨g1,g2,g3⟩ := h2 p u' l' hp
     refine ⟨g1,g2,fun i v hi => ?_⟩
     obtain ⟨a,v',f1,_,f3,f4⟩ := g3 i v hi
     exact ⟨a,v',f1,f3,f4⟩
    obtain ⟨g1,g2,g3⟩ := hN sub hsub0 h2' p u' l' hp
    refine ⟨g1,g2,fun i v hi => ?_⟩
    obtain ⟨a,f1,⟨v0,f2⟩,f3⟩ := g3 i v hi
    obtain ⟨v',e1,e2,e3⟩ := entAt_upd (b := b) (off := off) (y := y) f2
    refine ⟨a,v',f1,?_,e1,fun hk => ?_⟩
    ·-- the slice is not in the row's own block
     have hlp : (rowComps t l)[p]? ≠ none := by
      have := (List.getElem?_eq_some_iff.1 hp).1
      have e4 : (rowComps t l2).length = (rowComps t l).length := by rw [rowComps_length,rowComps_length,hl2]
      rw [e4] at this
      rw [List.getElem?_eq_getElem this]; exact fun h => by cases h
     obtain ⟨cc,hcc⟩ := Option.ne_none_iff_exists'.1 hlp
     have ev := congrArg (fun L : List Value => L[p]?) (hv sub)
     simp only [valsFrom_get,hp,hcc,Option.map_some,Nat.zero_add,Option.some.injEq] at ev
     cases cc with
     | flat v1 => exact (by
       have h5 := h1 p v1 (by rw [valsFrom_get,hcc]; rfl)
       have h6 := congrArg (fun L : List Value => L[p]?) (hv fun _ => (none,0))
       have h7 := congrArg (fun L : List Value => L[p]?) (hv fun _ => (some a,1))
       simp only [valsFrom_get,hp,hcc,Option.map_some,Nat.zero_add,Option.some.injEq,compVal] at h6 h7
       rw [← h6] at h7
       simp at h7)
     | sl u3 l3 =>
      simp only [compVal,Value.slice.injEq] at ev
      obtain ⟨_,_,g6⟩ := h2 p u3 l3 hcc
      by_cases hl3 : l3.length = 0
      ·rw [← ev.2.1] at hl3
       have : l' = [] := List.eq_nil_of_length_eq_zero hl3
       subst this
       simp [flatVals,rowComps] at hi
      ·obtain ⟨a',v5,f5,f6,_⟩ := g6 0 _ (List.getElem?_eq_getElem (by rw [flatVals_length]; exact Nat.mul_pos (by omega) u3.size_pos))
       rw [f1] at f5; cases f5; exact f6
    ·obtain ⟨f4,f5⟩ := f3 hk
     by_cases ha : a.add i = ⟨b,off,none⟩
     ·rw [e3 ha,f5 ha]
     ·rw [e2 ha,entAt_fun s1 f2 (f4 ha)]
 have happ : appH { val := und,fresh := [.set n],writes := [(n,.dp t l2 nm st kn2),(c,.gone),(m,.gone)],touch := [m,n,c] } nm Γ = Γ2 := by
  have hkc := (hst.kn c _ hc).1
  have hkm := (hst.kn m _ hm).1
  funext z
  simp only [appH,lastW,List.length_singleton,Γ2,updH,Γ1]
  by_cases e1 : z = nm
  ·subst e1
   rw [if_pos (by omega),if_neg (Ne.symm hnn),if_pos rfl]; simp [live]
  ·rw [if_neg (by omega)]
   by_cases e2 : m = z
   ·subst e2; simp [live,hmn,e1]
   ·by_cases e3 : c = z
    ·subst e3; simp [live,hcn,e1,e2]
    ·by_cases e4 : n = z
     ·subst e4; simp [live,e2,e3]
     ·simp [e1,e2,e3,e4,Ne.symm e2,Ne.symm e3,Ne.symm e4]
 rw [happ]; exact hst2
theorem dpStoreE_loc (hT : TOk P ctx.tt) {t : TypeId} {i : TI} (ht : lookN ctx.tt t = some i) {x y : AV} (h : dpStoreE i x y hp nm k) :
  ∃ r,SemLoc P ctx.X hp nm (fun Kn => x.ok Kn ∧ y.ok Kn) (fun ρ => Instr.storeAt t (x.conc ρ) (y.conc ρ)) (fun _ => ()) r ∧ r.val = und ∧ k r := by
 unfold dpStoreE at h
 split at h <;> try (exact h.elim)
 rename_i m k0 r0 ys hys
 replace h := withNv_spec h
 obtain ⟨n,c,j,q,t',l,st,kn,u,z,g,hm,hn,hc,hj,hq,h⟩ := h
 split at h <;> try (exact h.elim)
 rename_i y0 hy0
 split at h <;> try (exact h.elim)
 rename_i hcond
 obtain ⟨rfl,hsz⟩ := hcond
 split at h <;> try (exact h.elim)
 rename_i z' hz'
 have hOb := ob_spec h
 clear h
 obtain ⟨hk0,h⟩ := hOb
 have hk0 : k0 < z.length := by simpa using hk0
 obtain ⟨hu1,hzl,hzv⟩ := setInt_spec hz'
 have hy : ys = [.raw (.int .i64 y0)] := intCells_spec (fun _ => {}) ys [y0] hy0
 have hfl : k0 < (flatVals u z).length := by rw [flatVals_length,hu1]; omega
 have hqs : q < t'.size := by have := (List.getElem?_eq_some_iff.1 hq).1; rwa [comps_length] at this
 have main : ∀ (l2 : List t'.T) (kn2 : Bool),l2.length = l.length → (∀ sub,valsFrom sub 0 (rowComps t' l2) = valsFrom sub 0 (rowComps t' l)) →
   (∀ (es : List Ent) (b off:Nat) (a0 : Addr),a0.add k0 = ⟨b,off,none⟩ → (∀ a v v',entAt es a v → entAt es a v' → v = v') → ∀ sub : Nat → Option Addr × Nat,(sub (j * t'.size + q)).1 = some a0 → (∀ p u' l',(rowComps t' l)[p]? = some (.sl u' l') → u'.flat = true ∧ l'.length ≤ (sub p).2 ∧ ∀ i v,(flatVals u' l')[i]? = some v → ∃ a v',(sub p).1 = some a ∧ entAt es (a.add i) v' ∧ (kn = true → v' = v)) →
    ∀ p u' l',(rowComps t' l2)[p]? = some (.sl u' l') → u'.flat = true ∧ l'.length ≤ (sub p).2 ∧ ∀ i v,(flatVals u' l')[i]? = some v → ∃ a,(sub p).1 = some a ∧ (∃ v0,entAt es (a.add i) v0) ∧ (kn2 = true → (a.add i ≠ ⟨b,off,none⟩ → entAt es (a.add i) v) ∧ (a.add i = ⟨b,off,none⟩ → v = .int .i64 y0))) →
   SemLoc P ctx.X hp nm (fun Kn => (AV.v (.one (.eptr m k0 0))).ok Kn ∧ y.ok Kn) (fun ρ => Instr.storeAt t ((AV.v (.one (.eptr m k0 0))).conc ρ) (y.conc ρ)) (fun _ => ()) { val := und,fresh := [.set n],writes := [(n,.dp t' l2 nm st kn2),(c,.gone),(m,.gone)],touch := [m,n,c] } := by
  intro l2 kn2 hl2 hv2 hN
  refine ⟨fun p hp' => ?_,?_⟩
  ·simp only [List.mem_cons,List.not_mem_nil,or_false] at hp'
   rcases hp' with rfl | rfl | rfl
   ·rw [hn]; simp
   ·rw [hc]; simp
   ·rw [hm]; simp
  intro bor W ρ Kn Γ w _ hk htc hfr hst
  have hnm : ¬ Kn nm := by simpa using hfr 0 (by simp)
  have hΓm : Γ m = some (.nv n c j q u) := by rw [htc m (by simp),hm]
  have hΓn : Γ n = some (.dp t' l c st kn) := by rw [htc n (by simp),hn]
  have hΓc : Γ c = some (.set g) := by rw [htc c (by simp),hc]
  obtain ⟨huf,g2,g3,g4,g5⟩ := nv_at hst hΓm hΓn hΓc hj hq
  obtain ⟨s0,s1,s2⟩ := hst.at_ c _ hΓc
  obtain ⟨a0,v',ha0,⟨e,b,off,he,hak,heb,hev⟩,_⟩ := g5 k0 _ (List.getElem?_eq_getElem hfl)
  rcases s1 e he with ⟨h4,_⟩ | ⟨b',rest,tt',h4,h5,h6,h7,h8,h9⟩
  ·rw [h4] at heb; cases heb
  rw [h4] at heb; cases heb
  have hoff : off < e.vals.length := (List.getElem?_eq_some_iff.1 hev).1
  have hcat : (e.vals ++ rest).take (off + 0) ++ [Value.int .i64 y0] ++ (e.vals ++ rest).drop (off + 0 + 1) = e.vals.set off (.int .i64 y0) ++ rest := by
   rw [Nat.add_zero,List.take_append_of_le_length (by omega),List.drop_append_of_le_length (by omega),List.set_eq_take_append_cons_drop,if_pos hoff]
   simp
  have hrun : (Instr.storeAt t ((AV.v (.one (.eptr m k0 0))).conc ρ) (y.conc ρ)).run P w = .ok () (w.setRow b (e.vals.set off (.int .i64 y0) ++ rest).toArray) := by
   have hst' := run_storeCells_at P b off tt' [Value.int .i64 y0] 0 _ w h6 (by simp; omega) (fun v hv => by simp only [List.mem_singleton] at hv; subst hv; rfl)
   rw [eptr_conc ha0,g3,hu1,Nat.mul_one,Nat.add_zero,hak,run_storeAt hT ht (vs := [Value.int .i64 y0]) (by rw [AV.cells_conc hys ρ,hy]; rfl) (by simpa using hsz.symm),hst']
   congr 2
   rw [← hcat]; rfl
  refine ⟨updE ρ nm { ρ c with ents := (ρ c).ents.map (updEnt b off (.int .i64 y0)) },_,hrun,updE_old hnm,und_ok _,?_⟩
  have hkR : knR Kn nm { val := und,fresh := [.set n],writes := [(n,.dp t' l2 nm st kn2),(c,.gone),(m,.gone)],touch := [m,n,c] } = knN Kn nm := by
   funext z; simp only [knR,knN,List.length_singleton]; congr 1; apply propext; omega
  rw [hkR]
  have hh' := setRow_heap w b _ (e.vals.set off (.int .i64 y0) ++ rest).toArray _ _ h6
  refine dp_store hst hΓm hΓn hΓc hj hq hnm (.inr ⟨e,he,h4⟩) ha0 hak (fun e1 he1 => ?_) hl2 (fun i v ⟨sub,hi⟩ => ?_) hv2 (hN _ b off a0 hak fun a v v' h h' => entAt_fun s1 h h') hfl
  ·have hpw : e1 = e ∨ e1.blk ≠ some b := by
    by_cases h10 : e1 = e
    ·exact .inl h10
    ·right
     intro h11
     obtain ⟨p1,h12,h13⟩ := List.getElem_of_mem he1
     obtain ⟨p2,h14,h15⟩ := List.getElem_of_mem he
     have hpq := List.pairwise_iff_getElem.1 s2
     rcases Nat.lt_trichotomy p1 p2 with h | h | h
     ·exact hpq p1 p2 h12 h14 h b (by rw [h13]; exact h11) (by rw [h15]; exact h4)
     ·subst h; exact h10 (h13.symm.trans h15)
     ·exact hpq p2 p1 h14 h12 h b (by rw [h15]; exact h4) (by rw [h13]; exact h11)
   rcases hpw with rfl | hb1
   ·unfold updEnt
    rw [if_pos h4]
    exact .inr ⟨b,rest,tt',h4,h5,hh',h7,by simpa using h8,h9⟩
   ·unfold updEnt
    rw [if_neg hb1]
    rcases s1 e1 he1 with h10 | ⟨b1,rest1,t1,h10,h11,h12,h13⟩
    ·exact .inl h10
    ·exact .inr ⟨b1,rest1,t1,h10,h11,by rw [setRow_other _ _ _ _ (by rintro rfl; exact hb1 h10)]; exact h12,h13⟩
  ·have := (List.getElem?_eq_some_iff.1 hi).1
   rw [hv2,valsFrom_length] at this; exact this
 split at h
 ·refine ⟨_,main l false rfl (fun _ => rfl) (fun es b off a0 _ _ sub _ ho p u' l' hp => ?_),rfl,h⟩
  obtain ⟨g1,g2,g3⟩ := ho p u' l' hp
  refine ⟨g1,g2,fun i v hi => ?_⟩
  obtain ⟨a,v',f1,f2,_⟩ := g3 i v hi
  exact ⟨a,f1,⟨v',f2⟩,fun h => by cases h⟩
 ·split at h <;> try (exact h.elim)
  rename_i x' hx'
  have hOb := ob_spec h
  clear h
  obtain ⟨hkn,h⟩ := hOb
  obtain ⟨hnd,h⟩ := h
  have h := h _ rfl
  have hcx : t'.comps x' = setCells (t'.comps (gd t' l j)) q [.sl u z'] := by
   have := ofComps_spec t' _ _ _ hx'; rw [List.append_nil] at this; exact this.symm
  have hget := rowComps_nest hj hqs hcx
  have hp0 := gd_mem hj hq
  refine ⟨_,main (l.set j x') true (by simp) (fun sub => ?_) (fun es b off a0 hak hfun sub hsub0 ho p u' l' hp => ?_),rfl,h⟩
  ·apply List.ext_getElem?
   intro p
   rw [valsFrom_get,valsFrom_get,hget]
   split
   ·rename_i e; subst e
    rw [hp0]
    simp [compVal,hzl]
   ·rfl
  ·rw [nestV_eq] at hnd
   obtain ⟨i1,i2,i3⟩ := ho _ u z hp0
   have old : ∀ p u' l' i v a,(rowComps t' l)[p]? = some (.sl u' l') → (flatVals u' l')[i]? = some v → (sub p).1 = some a → a.add i = ⟨b,off,none⟩ → p = j * t'.size + q ∧ i = k0 := fun p u' l' i v a hp hi ha hab => by
    obtain ⟨a1,v1,f1,f2,f3⟩ := (ho p u' l' hp).2.2 i v hi
    rw [ha] at f1; cases f1
    obtain ⟨a2,v2,f4,f5,f6⟩ := i3 k0 _ (List.getElem?_eq_getElem hfl)
    rw [hsub0] at f4; cases f4
    rw [hab,← hak] at f2
    have e := hfun _ _ _ f2 f5
    rw [f3 hkn,f6 hkn] at e
    exact flatMap_nodup hnd hp hp0 (by rw [nestC_sl]; exact hi) (by rw [nestC_sl,e]; exact List.getElem?_eq_getElem hfl)
   rw [hget] at hp
   split at hp
   ·rename_i e; subst e
    cases hp
    refine ⟨i1,by rw [hzl]; exact i2,fun i v hi => ?_⟩
    rw [hzv,List.getElem?_set] at hi
    have hil : i < (flatVals u z).length := by
     split at hi
     ·rename_i e; subst e; exact hfl
     ·exact (List.getElem?_eq_some_iff.1 hi).1
    obtain ⟨a,v',f1,f2,f3⟩ := i3 i _ (List.getElem?_eq_getElem hil)
    refine ⟨a,f1,⟨v',f2⟩,fun _ => ⟨fun hne => ?_,fun heq => ?_⟩⟩
    ·split at hi
     ·rename_i e; subst e
      rw [hsub0] at f1; cases f1
      exact absurd hak hne
     ·rw [List.getElem?_eq_getElem hil] at hi
      cases hi
      rw [← f3 hkn]; exact f2
    ·obtain ⟨_,e⟩ := old _ u z i _ a hp0 (List.getElem?_eq_getElem hil) f1 heq
     rw [if_pos e.symm,if_pos hfl] at hi
     exact (Option.some.inj hi).symm
   ·rename_i hpn
    obtain ⟨g1,g2,g3⟩ := ho p u' l' hp
    refine ⟨g1,g2,fun i v hi => ?_⟩
    obtain ⟨a,v',f1,f2,f3⟩ := g3 i v hi
    refine ⟨a,f1,⟨v',f2⟩,fun _ => ⟨fun _ => by rw [← f3 hkn]; exact f2,fun heq => ?_⟩⟩
    exact absurd (old p u' l' i v a hp hi f1 heq).1 hpn
end
end Go.Ev
