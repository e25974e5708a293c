/- Functions that are lent a map of slices. -/
import Derived.Test.YtleemdeodmdnkaaEvX
noncomputable section
set_option linter.unusedSectionVars false
set_option linter.unusedVariables false
set_option linter.unusedSimpArgs false
namespace Go.Ev
open Go.RowKit
structure LPar where
 ka : Bool
 k : Ty
 u : Ty
 q : Par
@[reducible] def LPar.ty (d : LPar) : Ty := .prod (.sl (.prod d.k (.sl d.u))) d.q.ty
structure FnL where
 p : LPar
 r : Par
 pre : p.ty.T → Prop
 f : p.ty.T → r.ty.T × List (p.k.T × List p.u.T)
def argsL (d : LPar) (x : d.ty.T) : List AV := .v (.one (.mp 0)) :: (encP 0 2 d.q x.2).1.map .v
def rowsL (d : LPar) (x : d.ty.T) : List AObj := .grp d.ka d.k d.u x.1 1 none :: .set 0 :: (encP 0 2 d.q x.2).2
def heapL (d : LPar) (x : d.ty.T) (r0 : Env) : List AObj := rowsL d x ++ [.pin r0 (rowsL d x).length]
def fnSpecL (s : FnL) : Spec := fun _ args hp nm k => match args with
 | .v (.one (.mp n)) :: r => match hp n with
  | some (.grp ka k0 u0 l c none) => if ka = s.p.ka ∧ setOf (hp c) n = true then (match castG k0 u0 s.p.k s.p.u l with
   | some l' => match decP hp s.p.q r with
    | some (y,[],tc,b) => if disN tc [n,c] then ob b (s.pre (l',y) ∧ ∀ z,z = s.f (l',y) → k { val := resV (encP 2 nm s.r z.1).1,fresh := (encP 2 nm s.r z.1).2,writes := [(n,.grp s.p.ka s.p.k s.p.u z.2 c none),(c,.set n)],touch := n :: c :: tc }) else False
    | _ => False
   | none => False) else False
  | _ => False
 | _ => False
def retL (r : Par) (d : LPar) (x : d.ty.T) (ρ : Env) (Q : r.ty.T × List (d.k.T × List d.u.T) → Prop) (v : AV) (st : AS) : Prop := match partsV v with
 | some l => match decR (liveAt st.heap) r l with
  | some (y,[],ss) => if nodupL (ss.filterMap srcB ++ [0,1]) then (match liveAt st.heap 0 with
   | some (.grp ka k0 u0 l c none) => if ka = d.ka ∧ (Nat.beq c 1 = true ∧ setOf (liveAt st.heap 1) 0 = true) then (match castG k0 u0 d.k d.u l with
    | some l' => isPin (liveAt st.heap (rowsL d x).length) ρ (rowsL d x).length (Q (y,l'))
    | none => False) else False
   | _ => False) else False
  | _ => False
 | none => False
theorem castG_eq {k' u' k u : Ty} {l : List (k'.T × List u'.T)} {l' : List (k.T × List u.T)} (h : castG k' u' k u l = some l') (ka : Bool) (c:Nat) : AObj.grp ka k' u' l c none = .grp ka k u l' c none := by
 unfold castG at h
 obtain ⟨e1,e2⟩ := castL_eq h
 cases e1
 dsimp only at e2
 subst e2
 rfl
def recsL (d : LPar) (n c len:Nat) (l l' : List (d.k.T × List d.u.T)) : List WRec :=
 [⟨n,0,0,.grp d.ka d.k d.u l 1 none,.grp d.ka d.k d.u l c none,.grp d.ka d.k d.u l' (len + 1) none,.grp d.ka d.k d.u l' c none⟩,⟨c,0,1,.set 0,.set n,.set len,.set n⟩]
theorem retL_spec {r : Par} {d : LPar} {x : d.ty.T} {ρ0 : Env} {Q : r.ty.T × List (d.k.T × List d.u.T) → Prop} {v : AV} {st : AS} (h : retL r d x ρ0 Q v st) : ∃ y l',Q (y,l') ∧ liveAt st.heap (rowsL d x).length = some (.pin ρ0 (rowsL d x).length) ∧
  ∃ ss,ss.length = (encP 2 0 r y).2.length ∧ Ren (ss ++ [.same 0,.same 1]) ⟨[v],st.heap⟩ ⟨[resV (encP 2 0 r y).1],(encP 2 0 r y).2 ++ [.grp d.ka d.k d.u l' ((encP 2 0 r y).2.length + 1) none,.set (encP 2 0 r y).2.length]⟩ := by
 unfold retL at h
 split at h <;> try (exact h.elim)
 rename_i l hl
 split at h <;> try (exact h.elim)
 rename_i y ss hd
 split at h <;> try (exact h.elim)
 rename_i hn
 split at h <;> try (exact h.elim)
 rename_i ka k0 u0 l0 c h0
 split at h <;> try (exact h.elim)
 rename_i hk
 obtain ⟨rfl,hc,hs1⟩ := hk
 have hc := Nat.eq_of_beq_eq_true hc
 subst hc
 have hs1 := setOf_spec hs1
 split at h <;> try (exact h.elim)
 rename_i l' hl'
 rw [castG_eq hl'] at h0
 obtain ⟨hp,hQ⟩ := isPin_spec h
 obtain ⟨ys,e,hs⟩ := decR_spec r _ _ _ _ hd
 rw [List.append_nil] at e
 subst e
 have hlen := (hs ss 0 fun i s hi => by rwa [Nat.zero_add]).2.length
 refine ⟨y,l',hQ,hp,ss,hlen,?_⟩
 obtain ⟨h1,h2⟩ := hs (ss ++ [.same 0,.same 1]) 0 fun i s hi => by
  rw [Nat.zero_add,List.getElem?_append_left (List.getElem?_eq_some_iff.1 hi).1]; exact hi
 have g0 : (ss ++ [Src.same 0,.same 1])[(encP 2 0 r y).2.length]? = some (.same 0) := by rw [← hlen,List.getElem?_append_right (Nat.le_refl _),Nat.sub_self]; rfl
 have g1 : (ss ++ [Src.same 0,.same 1])[(encP 2 0 r y).2.length + 1]? = some (.same 1) := by rw [← hlen,List.getElem?_append_right (by omega),Nat.add_sub_cancel_left]; rfl
 have h3 : All2 (objR (ss ++ [.same 0,.same 1]) st.heap) (ss ++ [.same 0,.same 1]) ((encP 2 0 r y).2 ++ [.grp d.ka d.k d.u l' ((encP 2 0 r y).2.length + 1) none,.set (encP 2 0 r y).2.length]) :=
  h2.append ⟨⟨_,h0,by simp only [renO,renN,g1]⟩,⟨_,hs1,by simp only [renO,renN,g0]⟩,trivial⟩
 obtain ⟨h4,h5⟩ := heapR_of _ _ h3
 refine ⟨tmpsR_one (resV_key hl h1),h4,?_⟩
 show nodupL (srcs _ (_ ++ _)) = true
 rw [h5,List.filterMap_append]
 exact hn
section
variable {P : Program} {tt : List (Nat × TI)} {specs : List (Nat × Spec)}
theorem SpecOk.fnL (hT : TOk P tt) (hS : SpecsOk P specs) (hm : P.follows .mixedOrders = true) {f : FuncId} {fn : Func} (hf : P.funcs[f]? = some fn) (hn : nodupB (ids (bodyOf fn)) = true) {s : FnL} (hres : s.r.res = true)
  (h : ∀ x,s.pre x → ∀ ρ0,∃ lp its,ItsOk P noX its ∧ LpsOk P noX (bodyOf fn) lp ∧ fnE ⟨tt,specs,noX,lp,[],its⟩ fn (argsL s.p x) (heapL s.p x ρ0) (retL s.r s.p x ρ0 (· = s.f x))) : SpecOk P f (fnSpecL s) := by
 intro X args hp nm k hs
 unfold fnSpecL at hs
 split at hs <;> try (exact hs.elim)
 rename_i n r
 split at hs <;> try (exact hs.elim)
 rename_i ka k0 u0 l0 c hgn
 split at hs <;> try (exact hs.elim)
 rename_i hkc
 obtain ⟨rfl,hcc⟩ := hkc
 have hcc := setOf_spec hcc
 split at hs <;> try (exact hs.elim)
 rename_i l hl
 rw [castG_eq hl] at hgn
 split at hs <;> try (exact hs.elim)
 rename_i y tc b hd
 split at hs <;> try (exact hs.elim)
 rename_i hdj
 have hdj := disN_spec hdj
 obtain ⟨rfl,hpre,hk⟩ := ob_spec hs
 have hk := hk _ rfl
 obtain ⟨as,e,hargs⟩ := decP_specO s.p.q _ _ _ _ hd
 rw [List.append_nil] at e
 subst e
 have hnc : n ≠ c := by rintro rfl; rw [hgn] at hcc; cases hcc
 obtain ⟨x,hx⟩ : ∃ x : s.p.ty.T,x = (l,y) := ⟨_,rfl⟩
 rw [← hx] at hpre hk
 refine ⟨_,⟨fun p hp' => ?_,?_⟩,hk⟩
 ·simp only [List.mem_cons,List.mem_nil_iff,or_false] at hp'
  rcases hp' with rfl | rfl
  ·rw [hgn]; exact fun h => by cases h
  ·rw [hcc]; exact fun h => by cases h
 intro bor W ρ Kn Γ w _ _ ht hfr hst
 have hΓn : Γ n = some (.grp s.p.ka s.p.k s.p.u l c none) := by rw [ht n (by simp),hgn]
 have hΓc : Γ c = some (.set n) := by rw [ht c (by simp),hcc]
 obtain ⟨R0,hR0⟩ : ∃ R,R = recsL s.p n c 0 l l := ⟨_,rfl⟩
 have hmem : ∀ {q : WRec} {len : Nat} {l' : List (s.p.k.T × List s.p.u.T)},q ∈ recsL s.p n c len l l' → (q = ⟨n,0,0,.grp s.p.ka s.p.k s.p.u l 1 none,.grp s.p.ka s.p.k s.p.u l c none,.grp s.p.ka s.p.k s.p.u l' (len + 1) none,.grp s.p.ka s.p.k s.p.u l' c none⟩ ∨ q = ⟨c,0,1,.set 0,.set n,.set len,.set n⟩) := fun hq => by
  simpa [recsL] using hq
 have hΓq : ∀ {q : WRec} {len : Nat} {l' : List (s.p.k.T × List s.p.u.T)},q ∈ recsL s.p n c len l l' → Γ q.n = some q.b := fun hq => by
  rcases hmem hq with rfl | rfl
  ·exact hΓn
  ·exact hΓc
 obtain ⟨gf1,gf2,gnd,gb,ges,gclk,gblk,gheap,gR⟩ := hst.at_ n _ hΓn
 obtain ⟨sb,se,sp⟩ := hst.at_ c _ hΓc
 have hok : OkFor (fun b => cellsB w b ∧ ∀ q ∈ R0,¬ (ρ q.n).has b) ρ Γ w tc := by
  refine ⟨fun b hb => ⟨hb.1,fun q hq e => hb.2 (.inl ⟨q.n,?_,e⟩)⟩,fun m hm hs b hb hc => ⟨hc,fun q hq e => ?_⟩⟩
  ·rw [hR0] at hq; rw [hΓq hq]; rfl
  ·rw [hR0] at hq
   have := hst.injH m q.n b hs (by rw [hΓq hq]; rfl) hb e
   refine hdj m hm ?_
   rw [this]
   rcases hmem hq with rfl | rfl <;> simp
 obtain ⟨ys,hg,hc⟩ := hargs bor W ρ Kn Γ w (fun m hm => ht m (by simp [hm])) hst _ hok 2
 have hyl := hg.length
 obtain ⟨xs,hxs⟩ : ∃ xs,xs = ρ n :: ρ c :: ys := ⟨_,rfl⟩
 have hxl : xs.length = (rowsL s.p x).length := by rw [hxs,hx]; simp [rowsL,hyl]
 have hb := St.beginV (R := R0) (os := rowsL s.p x) hst hxl (fun q hq => by
  rw [hR0] at hq
  refine ⟨hΓq hq,?_⟩
  rcases hmem hq with rfl | rfl
  ·exact ⟨⟨fun S => by simp,by show 1 < _; simp [rowsL]⟩,.inr ((hst.noe n _ hΓn).elim (fun ⟨_,e⟩ => by cases e) id)⟩
  ·exact ⟨⟨fun S => by simp,by show 0 < _; simp [rowsL]⟩,.inl ⟨_,rfl⟩⟩) (fun q hq e fz pm => by
  rw [hR0] at hq
  rcases hmem hq with rfl | rfl
  ·rw [hxs]
   exact ⟨gf1,gf2,gnd,gb,ges,gclk,gblk,gheap,gR⟩
  ·rw [hxs]
   exact ⟨sb,se,sp⟩) (fun q hq q' hq' e => by
  rw [hR0] at hq hq'
  rcases hmem hq with rfl | rfl <;> rcases hmem hq' with rfl | rfl
  ·rfl
  ·exact absurd e hnc
  ·exact absurd e.symm hnc
  ·rfl) (fun i o hi => by
  match i with
  | 0 =>
   refine ⟨ρ n,by rw [hxs]; rfl,.inr ⟨⟨n,0,0,.grp s.p.ka s.p.k s.p.u l 1 none,.grp s.p.ka s.p.k s.p.u l c none,.grp s.p.ka s.p.k s.p.u l (0 + 1) none,.grp s.p.ka s.p.k s.p.u l c none⟩,by rw [hR0]; simp [recsL],rfl,?_,rfl⟩⟩
   rw [hx] at hi; simpa [rowsL] using hi.symm
  | 1 =>
   refine ⟨ρ c,by rw [hxs]; rfl,.inr ⟨⟨c,0,1,.set 0,.set n,.set 0,.set n⟩,by rw [hR0]; simp [recsL],rfl,?_,rfl⟩⟩
   simpa [rowsL] using hi.symm
  | j + 2 =>
   have hi : (encP 0 2 s.p.q x.2).2[j]? = some o := by simpa [rowsL] using hi
   rw [hx] at hi
   obtain ⟨q,h1,h2⟩ := hg.get j o hi
   exact ⟨q,by rw [hxs]; simpa using h1,.inl h2⟩)
 obtain ⟨ρ0,hρ0⟩ : ∃ ρ0 : Env,ρ0 = fun n => xs.getD n {} := ⟨_,rfl⟩
 rw [← hρ0] at hb
 have e0 : ρ0 0 = ρ n := by rw [hρ0,hxs]; rfl
 have e1 : ρ0 1 = ρ c := by rw [hρ0,hxs]; rfl
 obtain ⟨lp,its,hi,hlp,hfn⟩ := h x hpre ρ0
 have hcs := hc ρ0 fun i q hi => by rw [hρ0,hxs]; simp [show 2 + i = i + 1 + 1 by omega,hi]
 have key := calls_of_fnE (ctx := ⟨tt,specs,noX,lp,[],its⟩) hT ⟨hS,YsOk.nil P,hi⟩ (noX.ok _ w) hm hf (fun c hc => by
  have : bodyOf fn = c := by unfold bodyOf; rw [hc]
  subst this
  exact lpOk_of (nodupB_spec hn) hlp) hfn (fun a ha => by
   simp only [argsL,List.mem_cons] at ha
   rcases ha with rfl | ha
   ·show 0 < _
    simp [heapL,rowsL]
   ·obtain ⟨a0,h1,rfl⟩ := List.mem_map.1 ha
    exact A0.ok_mono (fun m hm => by simp [heapL,rowsL]; omega) a0 (encP_ok 0 s.p.q x.2 2 a0 h1)) hb
 have ea : (argsL s.p x).map (AV.conc ρ0) = (AV.v (.one (.mp n)) :: r).map (AV.conc ρ) := by
  rw [List.map_cons,hcs,hx]
  simp [argsL,AV.conc,A0.conc,Cell.conc,e0,Function.comp_def]
 rw [ea] at key
 refine key.mono ?_
 rintro e w' ⟨st,ρ1,v,rfl,hv,hR,hst1⟩
 obtain ⟨z,l',hyz,hpin,ss,hssl,hren⟩ := retL_spec hR
 obtain ⟨rfl,rfl⟩ : z = (s.f x).1 ∧ l' = (s.f x).2 := ⟨congrArg Prod.fst hyz,congrArg Prod.snd hyz⟩
 have hp1 := (hst1.at_ _ _ hpin).2
 have f0 : ρ1 0 = ρ n := by rw [hp1 0 (by simp [rowsL]),e0]
 have f1 : ρ1 1 = ρ c := by rw [hp1 1 (by simp [rowsL]),e1]
 have hat : AtS { wr := fun b => ∃ q ∈ R0,(ρ q.n).has b } w [] ⟨[v],st.heap⟩ ρ1 { tmps := #[v.conc ρ1],defers := [] } w' := by
  refine ⟨fun t _ => ?_,rfl,rfl,fun t => ?_,hst1⟩
  ·match t with
   | 0 => rfl
   | t + 1 => rfl
  ·match t with
   | 0 => exact hv
   | t + 1 => exact und_ok _
 have hat2 := hat.weakE hren
 obtain ⟨R,hRe⟩ : ∃ R,R = recsL s.p n c (encP 2 0 s.r (s.f x).1).2.length l (s.f x).2 := ⟨_,rfl⟩
 have hRc : R.map WRec.c = [.grp s.p.ka s.p.k s.p.u (s.f x).2 ((encP 2 0 s.r (s.f x).1).2.length + 1) none,.set (encP 2 0 s.r (s.f x).1).2.length] := by rw [hRe]; rfl
 rw [← hRc] at hat2
 obtain ⟨ρ2,hρ2⟩ : ∃ ρ2,ρ2 = renE (ss ++ [.same 0,.same 1]) (liveAt ((encP 2 0 s.r (s.f x).1).2 ++ R.map WRec.c)) ρ1 := ⟨_,rfl⟩
 have hB : (fun b => ∃ q ∈ R0,(ρ q.n).has b) = fun b => ∃ q ∈ R,(ρ q.n).has b := by
  funext b
  rw [hR0,hRe]; simp [recsL]
 have hat2 : AtS { wr := fun b => ∃ q ∈ R,(ρ q.n).has b } w [] ⟨[resV (encP 2 0 s.r (s.f x).1).1],(encP 2 0 s.r (s.f x).1).2 ++ R.map WRec.c⟩ ρ2 { tmps := #[v.conc ρ1],defers := [] } w' := by
  rw [hρ2,← hB]; exact hat2
 have g0 : ρ2 ((encP 2 0 s.r (s.f x).1).2.length) = ρ n := by
  rw [hρ2]; unfold renE
  rw [← hssl,List.getElem?_append_right (Nat.le_refl _),Nat.sub_self]
  exact f0
 have g1 : ρ2 ((encP 2 0 s.r (s.f x).1).2.length + 1) = ρ c := by
  rw [hρ2]; unfold renE
  rw [← hssl,List.getElem?_append_right (by omega),Nat.add_sub_cancel_left]
  exact f1
 have hρ2q : ∀ (i:Nat) (q : WRec),R[i]? = some q → ρ2 ((encP 2 0 s.r (s.f x).1).2.length + i) = ρ q.n := fun i q hi => by
  rw [hRe] at hi
  match i,hi with
  | 0,hi => simp only [recsL,List.getElem?_cons_zero,Option.some.injEq] at hi; subst hi; exact g0
  | 1,hi => simp only [recsL,List.getElem?_cons_succ,List.getElem?_cons_zero,Option.some.injEq] at hi; subst hi; exact g1
  | i + 2,hi => simp [recsL] at hi
 have hrows := encP_rows 2 s.r (s.f x).1 0 hres
 have he2 := fun d => (encP_shift 2 (ρ := ρ2) (ρ' := fun m => ρ2 (m - d)) (d := d) s.r (s.f x).1 0 hres fun i _ => by simp).2
 have hlen2 : (encP 2 nm s.r (s.f x).1).2 = (encP 2 0 s.r (s.f x).1).2 := by simpa using he2 nm
 obtain ⟨ρ',r1,r2,r3⟩ := St.growV (R := R) (v := resV (encP 2 nm s.r (s.f x).1).1) (tc := n :: c :: tc) (nm := nm) hst (fun i hi => hfr i (by rw [hlen2]; exact hi)) hrows (fun q hq => by
  rw [hRe] at hq
  refine ⟨hΓq hq,?_⟩
  rcases hmem hq with rfl | rfl
  ·exact ⟨⟨fun S => by simp,(hst.kn n _ hΓn).2,rfl,rfl⟩,.inr ((hst.noe n _ hΓn).elim (fun ⟨_,e⟩ => by cases e) id)⟩
  ·exact ⟨⟨fun S => by simp,(hst.kn c _ hΓc).2,rfl,rfl⟩,.inl ⟨_,rfl⟩⟩) (fun i q hi ρ' hold ho fz pm => by
  have hkn := (hst.kn n _ hΓn).1
  have hkc := (hst.kn c _ hΓc).1
  rw [hRe] at hi
  match i,hi with
  | 0,hi =>
   simp only [recsL,List.getElem?_cons_zero,Option.some.injEq] at hi; subst hi
   obtain ⟨a1,a2,a3,b,es,clk,a4,a5,a6⟩ := ho
   refine ⟨a1,a2,a3,b,es,clk,?_,a5,?_⟩
   ·show (ρ' n).blk = some b
    rw [hold n hkn,← g0]; exact a4
   ·show GrpR _ _ _ _ _ _ (ρ' c).ents ∧ Stp es clk
    rw [hold c hkc,← g1]; exact a6
  | 1,hi =>
   simp only [recsL,List.getElem?_cons_succ,List.getElem?_cons_zero,Option.some.injEq] at hi; subst hi
   show (ρ' c).blk = Option.none ∧ (∀ e ∈ (ρ' c).ents,EntAt w' e) ∧ (ρ' c).ents.Pairwise _
   rw [hold c hkc,← g1]; exact ho
  | i + 2,hi => simp [recsL] at hi) hat2.st hρ2q
 have hsh := (encP_shift 2 (ρ := ρ2) (ρ' := ρ') (d := nm) s.r (s.f x).1 0 hres fun i hi => by rw [Nat.zero_add]; exact r2 i hi).1
 rw [Nat.zero_add] at hsh
 refine ⟨ρ',?_,r1,?_,?_⟩
 ·congr 1
  have h1 := hat2.tmps 0 (by
   show resV _ ≠ _
   generalize (encP 2 0 s.r (s.f x).1).1 = l
   match l with
   | [] => exact fun h => by cases h
   | [_] => exact fun h => by cases h
   | _ :: _ :: _ => exact fun h => by cases h)
  have h2 : v.conc ρ1 = (resV (encP 2 0 s.r (s.f x).1).1).conc ρ2 := h1
  rw [h2]
  exact (resV_conc hsh).symm
 ·exact resV_ok fun c hc => A0.ok_mono (fun m hm => .inr (by simpa using hm)) c (encP_ok 2 s.r (s.f x).1 nm c hc)
 ·have : wwr R = [(n,.grp s.p.ka s.p.k s.p.u (s.f x).2 c none),(c,.set n)] := by rw [hRe]; rfl
  rw [hlen2,← this]; exact r3
theorem SpecOk.trL (s : FnL) {i : Bool} (t : s.p.ty.T → Tr (s.r.ty.T × List (s.p.k.T × List s.p.u.T)) i) (hT : TOk P tt) (hS : SpecsOk P specs) (hm : P.follows .mixedOrders = true) {n : FuncId} {fn : Func} (hk : (P.funcs[n]?,nodupB (ids (bodyOf fn)),s.r.res) = (some fn,true,true))
  {its : List (Nat × ISpec)} {lp : s.p.ty.T → List (Nat × LSpec)} (hits : ItsOk P noX its) (hl : ∀ x,LpsOk P noX (bodyOf fn) (lp x)) (he : ∀ x,(s.pre x,s.f x) = (Tr.pI i (t x).pre,(t x).val))
  (h : ∀ x r0 Q,fnE ⟨tt,specs,noX,lp x,[],its⟩ fn (argsL s.p x) (heapL s.p x r0) (retL s.r s.p x r0 Q) = (t x).wp Q [.env r0]) : SpecOk P n (fnSpecL s) := by
 simp only [Prod.mk.injEq] at hk
 refine SpecOk.fnL hT hS hm hk.1 hk.2.1 hk.2.2 fun x hx r0 => ⟨lp x,its,hits,hl x,?_⟩
 have e := he x
 simp only [Prod.mk.injEq] at e
 rw [h]
 exact Tr.wp_of _ _ _ (by rw [← e.1]; exact hx) e.2.symm
end
namespace Tr
variable {τ : Type}
abbrev fnL {i : Bool} (s : FnL) (x : s.p.ty.T) (k : s.r.ty.T × List (s.p.k.T × List s.p.u.T) → Tr τ i) : Tr τ true := .call (s.pre x) (s.f x) k
end Tr
end Go.Ev
