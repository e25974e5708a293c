/- Contracts of functions that write rows which they are handed. -/
import Derived.Test.YtaipcbdilkcdbaaEvS
noncomputable section
set_option linter.unusedSectionVars false
set_option linter.unusedVariables false
set_option linter.unusedSimpArgs false
namespace Go.Ev
open Go.RowKit

theorem nodupL_of : ∀ {l : List Nat},l.Nodup → nodupL l = true
 | [],_ => rfl
 | x :: r,h => by
  rw [List.nodup_cons] at h
  simp only [nodupL,Bool.and_eq_true,Bool.not_eq_true']
  exact ⟨Bool.eq_false_iff.2 fun e => h.1 (by simpa using e),nodupL_of h.2⟩
theorem disN_spec : ∀ {a b : List Nat},disN a b = true → ∀ m ∈ a,m ∉ b
 | [],_,_,_,hm => by cases hm
 | x :: r,b,h,m,hm => by
  simp only [disN,Bool.and_eq_true,Bool.not_eq_true'] at h
  rcases List.mem_cons.1 hm with rfl | hm
  ·exact fun e => Bool.eq_false_iff.1 h.1 (memN_iff.2 e)
  ·exact disN_spec h.2 m hm
def outD : (p : WPar) → p.out.T
 | .val _ => false
 | .row _ => []
 | .ptr t _ => t.d
 | .pair a b => (outD a,outD b)
theorem recsW_nm (p : WPar) : ∀ (x : p.ty.T) (z z' : p.out.T) (nm:Nat) (ws : List (Nat × Nat)),(recsW p x z nm ws).1.map (fun q => (q.n,q.m)) = (recsW p x z' nm ws).1.map (fun q => (q.n,q.m)) ∧ (recsW p x z nm ws).2 = (recsW p x z' nm ws).2 := by
 induction p with
 | val p => intro x z z' nm ws; exact ⟨rfl,rfl⟩
 | row t => intro x z z' nm ws; cases ws <;> exact ⟨rfl,rfl⟩
 | ptr t e => intro x z z' nm ws; cases ws <;> exact ⟨rfl,rfl⟩
 | pair a b iha ihb =>
  intro x z z' nm ws
  obtain ⟨h1,h2⟩ := iha x.1 z.1 z'.1 nm ws
  obtain ⟨h3,h4⟩ := ihb x.2 z.2 z'.2 (nm + (encW nm a x.1).2.length) (recsW a x.1 z.1 nm ws).2
  rw [h2] at h3 h4
  simp only [recsW,List.map_append,h1,h2,h3,h4,and_self]
theorem resV_key {π : List Src} {l0 l : List A0} {v : AV} (hl : partsV v = some l) (h1 : renAs π l0 = some l) : renV π (resV l0) = some v := by
 cases v with
 | v a =>
  simp only [partsV,Option.some.injEq] at hl
  subst hl
  match l0,h1 with
  | [],h1 => simp [renAs] at h1
  | [c],h1 =>
   simp only [renAs] at h1
   split at h1
   ·rename_i q m k1 k2
    simp only [Option.some.injEq,List.cons.injEq] at h1
    obtain ⟨rfl,_⟩ := h1
    simp only [resV,renV,k1]
   ·cases h1
  | _ :: _ :: _,h1 =>
   simp only [renAs] at h1
   split at h1
   ·rename_i k1 k2
    split at k2
    ·cases k2; simp at h1
    ·cases k2
   ·cases h1
 | tup l' =>
  simp only [partsV] at hl
  split at hl
  ·cases hl
  ·rename_i hne
   cases hl
   match l0,h1 with
   | [],h1 => simp only [resV,renV,h1]
   | [c],h1 =>
    simp only [renAs] at h1
    split at h1
    ·rename_i q m k1 k2
     cases k2
     cases h1
     exact absurd rfl (hne q)
    ·cases h1
   | _ :: _ :: _,h1 => simp only [resV,renV,h1]
 | dead => simp [partsV] at hl
theorem tmpsR_one {π : List Src} {u v : AV} (key : renV π u = some v) : tmpsR π [v] [u] := by
 cases u with
 | v a => exact ⟨key,trivial⟩
 | tup l => exact ⟨key,trivial⟩
 | dead => simp [renV] at key
theorem raws_ren {π : List Src} : ∀ {cs : List Cell},raws cs → renCs π cs = some cs
 | [],_ => rfl
 | c :: r,h => by
  obtain ⟨v,rfl⟩ := h c (by simp)
  have ih := raws_ren (π := π) (cs := r) fun c hc => h c (by simp [hc])
  simp only [renCs,renC,ih]
theorem WPc.ren {π : List Src} {q : WRec} (h : WPc q) : renO π q.c = some q.c := by
 rcases h with ⟨t,l,z,_,_,h1,_⟩ | ⟨cs,zs,e,h1,_,h2,_⟩
 ·rw [h1]; rfl
 ·rw [h2]; simp only [renO,raws_ren h1]
theorem rows_all2 {π : List Src} {h : List AObj} : ∀ (R : List WRec),(∀ r ∈ R,liveAt h r.m = some r.c ∧ WPc r) → All2 (objR π h) (R.map fun q => Src.same q.m) (R.map WRec.c)
 | [],_ => trivial
 | q :: r,hh => ⟨⟨_,(hh q (by simp)).1,(hh q (by simp)).2.ren⟩,rows_all2 r fun q hq => hh q (by simp [hq])⟩
theorem goodRowO_ne {ok : Nat → Prop} {w : World} {q : WRec} {y : Loc} (h : WP1 q) (hg : goodRowO ok w q.a y) : False := by
 rcases h with ⟨t,l,_,_,h,_⟩ | ⟨cs,e,_,h,_⟩
 ·rw [h] at hg; exact absurd hg.1 (by decide)
 ·rw [h] at hg; exact hg
theorem retW_spec {r : Par} {p : WPar} {x : p.ty.T} {ρ0 : Env} {Q : r.ty.T × p.out.T → Prop} {v : AV} {st : AS} (h : retW r p x ρ0 Q v st) : ∃ y z,Q (y,z) ∧ liveAt st.heap (encW 0 p x).2.length = some (.pin ρ0 (encW 0 p x).2.length) ∧ outW (liveAt st.heap) p x 0 = some (z,true) ∧ nodupL (wnames p x 0) = true ∧
  ∃ ss,ss.length = (encP 2 0 r y).2.length ∧ ∀ ws,(wnames p x 0).length ≤ ws.length → Ren (ss ++ (recsW p x z 0 ws).1.map fun q => Src.same q.m) ⟨[v],st.heap⟩ ⟨[resV (encP 2 0 r y).1],(encP 2 0 r y).2 ++ (recsW p x z 0 ws).1.map WRec.c⟩ := by
 unfold retW at h
 split at h
 rotate_left
 ·exact h.elim
 rename_i l hl
 split at h
 rotate_left
 ·exact h.elim
 rename_i y ss hd
 split at h
 rotate_left
 ·exact h.elim
 rename_i hn
 split at h
 rotate_left
 ·exact h.elim
 rename_i z f ho
 obtain ⟨hp,h⟩ := isPin_spec h
 obtain ⟨rfl,hQ⟩ := ob_spec h
 obtain ⟨ys,e,hs⟩ := decR_spec r _ _ _ _ hd
 rw [List.append_nil] at e
 subst e
 refine ⟨y,z,hQ,hp,ho,?_,ss,(hs ss 0 fun i s hi => by rwa [Nat.zero_add]).2.length,fun ws hw => ?_⟩
 ·have := nodupL_spec hn
  rw [List.nodup_append] at this
  exact nodupL_of this.2.1
 obtain ⟨h1,h2⟩ := hs (ss ++ (recsW p x z 0 ws).1.map fun q => Src.same q.m) 0 fun i s hi => by
  rw [Nat.zero_add,List.getElem?_append_left (List.getElem?_eq_some_iff.1 hi).1]; exact hi
 have h3 := h2.append (rows_all2 (π := ss ++ (recsW p x z 0 ws).1.map fun q => Src.same q.m) (recsW p x z 0 ws).1 fun q hq => recsW_out p x z 0 ws ho q hq)
 obtain ⟨h4,h5⟩ := heapR_of _ _ h3
 refine ⟨tmpsR_one (resV_key hl h1),h4,?_⟩
 show nodupL (srcs _ (_ ++ _)) = true
 rw [h5,List.filterMap_append]
 have : ((recsW p x z 0 ws).1.map fun q => Src.same q.m).filterMap srcB = wnames p x 0 := by
  rw [← (recsW_names p x z 0 ws hw).1,List.filterMap_map]
  induction (recsW p x z 0 ws).1 with
  | nil => rfl
  | cons q r ih => simp [srcB,ih]
 rw [this]; exact hn

section
variable {P : Program} {tt : List (Nat × TI)} {specs : List (Nat × Spec)}
theorem map_inj_of {α β : Type} [DecidableEq β] {f : α → β} : ∀ {l : List α},(l.map f).Nodup → ∀ a ∈ l,∀ b ∈ l,f a = f b → a = b
 | [],_,_,ha,_,_,_ => by cases ha
 | x :: r,hn,a,ha,b,hb,e => by
  rw [List.map_cons,List.nodup_cons] at hn
  rcases List.mem_cons.1 ha with rfl | ha' <;> rcases List.mem_cons.1 hb with rfl | hb'
  ·rfl
  ·exact absurd (show f a ∈ r.map f by rw [e]; exact List.mem_map.2 ⟨b,hb',rfl⟩) hn.1
  ·exact absurd (show f b ∈ r.map f by rw [← e]; exact List.mem_map.2 ⟨a,ha',rfl⟩) hn.1
  ·exact map_inj_of hn.2 a ha' b hb' e
theorem SpecOk.fnW (hT : TOk P tt) (hS : SpecsOk P specs) (hm : P.follows .mixedOrders = true) {f : FuncId} {fn : Func} (hf : P.funcs[f]? = some fn) (hn : nodupB (ids (bodyOf fn)) = true) {s : FnW} (hres : s.r.res = true)
  (h : ∀ x,s.pre x → ∀ ρ0,∃ lp its,ItsOk P noX its ∧ LpsOk P noX (bodyOf fn) lp ∧ fnE ⟨tt,specs,noX,lp,[],its⟩ fn (argsW s.p x) (heapW s.p x ρ0) (retW s.r s.p x ρ0 (· = s.f x))) : SpecOk P f (fnSpecW s) := by
 intro X args hp nm k hs
 unfold fnSpecW at hs
 split at hs
 rotate_left
 ·exact hs.elim
 rename_i x tc ws b hd
 split at hs
 rotate_left
 ·exact hs.elim
 rename_i hdis
 rw [Bool.and_eq_true] at hdis
 obtain ⟨hnd,hdj⟩ := hdis
 have hnd := nodupL_spec hnd
 have hdj := disN_spec hdj
 obtain ⟨rfl,hpre,hk⟩ := ob_spec hs
 have hk := hk _ rfl
 have hlen := decW_len s.p _ _ _ _ _ _ hd 0
 obtain ⟨bs,e,hargs⟩ := decW_spec s.p _ _ _ _ _ hd
 rw [List.append_nil] at e
 subst e
 have hrecs : ∀ z,∀ q ∈ (recsW s.p x z 0 ws).1,hp q.n = some q.b ∧ WP1 q := fun z q hq => decW_recs s.p _ _ _ _ _ hd z 0 [] q (by rw [List.append_nil]; exact hq)
 have hnames := fun z => recsW_names s.p x z 0 ws (by omega)
 have hns : ∀ z,(recsW s.p x z 0 ws).1.map (·.n) = ws.map (·.1) := fun z => by
  have := congrArg (List.map Prod.fst) (hnames z).2.2
  rw [List.map_map,hlen,List.take_length] at this
  exact this
 have hinn : ∀ z,∀ q ∈ (recsW s.p x z 0 ws).1,∀ q' ∈ (recsW s.p x z 0 ws).1,q.n = q'.n → q = q' := fun z => map_inj_of (f := WRec.n) (by
  rw [show List.map WRec.n (recsW s.p x z 0 ws).1 = ws.map (·.1) from hns z]; exact hnd)
 refine ⟨_,⟨fun p hp' => ?_,?_⟩,hk⟩
 ·obtain ⟨q,hq,rfl⟩ := List.mem_map.1 hp'
  rw [(hrecs _ q hq).1]; exact fun h => by cases h
 intro bor W ρ Kn Γ w _ _ ht hfr hst
 obtain ⟨R0,hR0⟩ : ∃ R,R = (recsW s.p x (outD s.p) 0 ws).1 := ⟨_,rfl⟩
 have hΓ : ∀ z,∀ q ∈ (recsW s.p x z 0 ws).1,Γ q.n = some q.b := fun z q hq => by
  rw [ht q.n (List.mem_append.2 (.inr (by show q.n ∈ ws.map (·.1); rw [← hns z]; exact List.mem_map.2 ⟨q,hq,rfl⟩)))]; exact (hrecs z q hq).1
 have hok : OkFor (fun b => cellsB w b ∧ ∀ q ∈ R0,(ρ q.n).blk ≠ some b) ρ Γ w tc := by
  refine ⟨fun b hb => ⟨hb.1,fun q hq e => hb.2 (.inl ⟨q.n,?_,e⟩)⟩,fun m hm hs b hb hc => ⟨hc,fun q hq e => ?_⟩⟩
  ·rw [hR0] at hq; rw [hΓ _ q hq]; rfl
  ·rw [hR0] at hq
   have := hst.inj m q.n b hs (by rw [hΓ _ q hq]; rfl) hb e
   exact hdj m hm (by rw [this,← hns (outD s.p)]; exact List.mem_map.2 ⟨q,hq,rfl⟩)
 obtain ⟨xs,hxl,hg,hc⟩ := hargs bor W ρ Kn Γ w (fun m hm => ht m (List.mem_append.2 (.inl hm))) hst _ hok (outD s.p) 0 []
 rw [List.append_nil,← hR0] at hg
 simp only [Nat.zero_add] at hg hc
 have hb := St.beginW (R := R0) hst hxl (fun q hq => by
  rw [hR0] at hq; exact ⟨hΓ _ q hq,(hrecs _ q hq).2⟩) (fun q hq q' hq' e => by
  rw [hR0] at hq hq'; rw [hinn _ q hq q' hq' e]) hg
 obtain ⟨ρ0,hρ0⟩ : ∃ ρ0 : Env,ρ0 = fun n => xs.getD n {} := ⟨_,rfl⟩
 rw [← hρ0] at hb
 obtain ⟨lp,its,hi,hl,hfn⟩ := h x hpre ρ0
 have hcs := hc ρ0 fun i y hy => by rw [hρ0]; simp [hy]
 have key := calls_of_fnE (ctx := ⟨tt,specs,noX,lp,[],its⟩) hT ⟨hS,YsOk.nil P,hi⟩ (noX.ok _ w) hm hf (fun c hc => by
  have : bodyOf fn = c := by unfold bodyOf; rw [hc]
  subst this
  exact lpOk_of (nodupB_spec hn) hl) hfn (fun y hy => by
   obtain ⟨a,ha,rfl⟩ := List.mem_map.1 hy
   exact A0.ok_mono (fun m hm => by simp only [heapW,List.length_append,List.length_singleton]; omega) a (encW_ok s.p x 0 a ha)) hb
 have ea : (argsW s.p x).map (AV.conc ρ0) = args.map (AV.conc ρ) := by
  rw [hcs]; simp [argsW,AV.conc,Function.comp_def]
 rw [ea] at key
 refine key.mono ?_
 rintro e w' ⟨st,ρ1,v,rfl,hv,hR,hst1⟩
 obtain ⟨y,z,hyz,hpin,hout,hwn,ss,hssl,hren⟩ := retW_spec hR
 have hren := hren ws (by omega)
 obtain ⟨rfl,rfl⟩ : y = (s.f x).1 ∧ z = (s.f x).2 := ⟨congrArg Prod.fst hyz,congrArg Prod.snd hyz⟩
 obtain ⟨R,hRe⟩ : ∃ R,R = (recsW s.p x (s.f x).2 0 ws).1 := ⟨_,rfl⟩
 rw [← hRe] at hren
 have hB : (fun b => ∃ q ∈ R0,(ρ q.n).blk = some b) = fun b => ∃ q ∈ R,(ρ q.n).blk = some b := by
  funext b
  refine propext ⟨?_,?_⟩
  ·rintro ⟨q,hq,e⟩
   have : q.n ∈ ws.map (·.1) := by rw [← hns (outD s.p),← hR0]; exact List.mem_map.2 ⟨q,hq,rfl⟩
   rw [← hns (s.f x).2,← hRe] at this
   obtain ⟨q',hq',e'⟩ := List.mem_map.1 this
   exact ⟨q',hq',by rw [e']; exact e⟩
  ·rintro ⟨q,hq,e⟩
   have : q.n ∈ ws.map (·.1) := by rw [← hns (s.f x).2,← hRe]; exact List.mem_map.2 ⟨q,hq,rfl⟩
   rw [← hns (outD s.p),← hR0] at this
   obtain ⟨q',hq',e'⟩ := List.mem_map.1 this
   exact ⟨q',hq',by rw [e']; exact e⟩
 have hinm : ∀ q ∈ R,∀ q' ∈ R,q.m = q'.m → q = q' := map_inj_of (f := WRec.m) (by
  rw [hRe,show List.map WRec.m (recsW s.p x (s.f x).2 0 ws).1 = wnames s.p x 0 from (hnames _).1]; exact nodupL_spec hwn)
 have hρq : ∀ q ∈ R,ρ1 q.m = ρ q.n := fun q hq => by
  have hq0 := hq
  rw [hRe] at hq0
  obtain ⟨_,m2,m3⟩ := recsW_m s.p x (s.f x).2 0 ws q hq0
  simp only [Nat.zero_add,Nat.sub_zero] at m2 m3
  rw [(hst1.at_ _ _ hpin).2 q.m m2]
  obtain ⟨y,y1,y2⟩ := hg q.m _ m3
  rcases y2 with y2 | ⟨q0,k1,k2,_,k4⟩
  ·exact (goodRowO_ne (hrecs _ q hq0).2 y2).elim
  ·rw [hρ0]
   simp only [List.getD_eq_getElem?_getD,y1,Option.getD_some]
   rw [k4]
   have : (q0.n,q0.m) ∈ R0.map fun q => (q.n,q.m) := List.mem_map.2 ⟨q0,k1,rfl⟩
   rw [hR0,(recsW_nm s.p x (outD s.p) (s.f x).2 0 ws).1,← hRe] at this
   obtain ⟨q',k5,k6⟩ := List.mem_map.1 this
   simp only [Prod.mk.injEq] at k6
   have := hinm q' k5 q hq (by omega)
   rw [← this,k6.1]
 have hat : AtS { wr := fun b => ∃ q ∈ R0,(ρ q.n).blk = some b } w [] ⟨[v],st.heap⟩ ρ1 { tmps := #[v.conc ρ1],defers := [] } w' := by
  refine ⟨fun t _ => ?_,rfl,rfl,fun t => ?_,hst1⟩
  ·match t with
   | 0 => rfl
   | t + 1 => rfl
  ·match t with
   | 0 => exact hv
   | t + 1 => exact und_ok _
 have hat2 := hat.weakE hren
 obtain ⟨ρ2,hρ2⟩ : ∃ ρ2,ρ2 = renE (ss ++ R.map fun q => Src.same q.m) (liveAt ((encP 2 0 s.r (s.f x).1).2 ++ R.map WRec.c)) ρ1 := ⟨_,rfl⟩
 have hat2 : AtS { wr := fun b => ∃ q ∈ R0,(ρ q.n).blk = some b } w [] ⟨[resV (encP 2 0 s.r (s.f x).1).1],(encP 2 0 s.r (s.f x).1).2 ++ R.map WRec.c⟩ ρ2 { tmps := #[v.conc ρ1],defers := [] } w' := by
  rw [hρ2]; exact hat2
 have hρ2q : ∀ (i:Nat) (q : WRec),R[i]? = some q → ρ2 ((encP 2 0 s.r (s.f x).1).2.length + i) = ρ q.n := fun i q hi => by
  rw [hρ2]
  unfold renE
  rw [← hssl,List.getElem?_append_right (by omega),Nat.add_sub_cancel_left,List.getElem?_map,hi]
  exact hρq q (List.mem_of_getElem? hi)
 have hrows := encP_rows 2 s.r (s.f x).1 0 hres
 have he2 := fun d => (encP_shift 2 (ρ := ρ2) (ρ' := fun m => ρ2 (m - d)) (d := d) s.r (s.f x).1 0 hres fun i _ => by simp).2
 have hlen2 : (encP 2 nm s.r (s.f x).1).2 = (encP 2 0 s.r (s.f x).1).2 := by simpa using he2 nm
 have hst2 := hat2.st
 rw [hB] at hst2
 obtain ⟨ρ',r1,r2,r3⟩ := St.growW (R := R) (v := resV (encP 2 nm s.r (s.f x).1).1) (tc := tc ++ ws.map (·.1)) (nm := nm) hst (fun i hi => hfr i (by rw [hlen2]; exact hi)) hrows (fun q hq => by
  rw [hRe] at hq
  exact ⟨hΓ _ q hq,WP2.of (hrecs _ q hq).2 (recsW_out s.p x _ 0 ws hout q hq).2⟩) hst2 hρ2q
 have hsh := (encP_shift 2 (ρ := ρ2) (ρ' := ρ') (d := nm) s.r (s.f x).1 0 hres fun i hi => by rw [Nat.zero_add]; exact r2 i hi).1
 rw [Nat.zero_add] at hsh
 refine ⟨ρ',?_,r1,?_,?_⟩
 ·congr 1
  have h1 := hat2.tmps 0 (by
   show resV _ ≠ _
   generalize (encP 2 0 s.r (s.f x).1).1 = l
   match l with
   | [] => exact fun h => by cases h
   | [_] => exact fun h => by cases h
   | _ :: _ :: _ => exact fun h => by cases h)
  have h2 : v.conc ρ1 = (resV (encP 2 0 s.r (s.f x).1).1).conc ρ2 := h1
  rw [h2]
  exact (resV_conc hsh).symm
 ·exact resV_ok fun c hc => A0.ok_mono (fun m hm => .inr (by simpa using hm)) c (encP_ok 2 s.r (s.f x).1 nm c hc)
 ·rw [hlen2,← hRe]; exact r3
theorem SpecOk.trW (s : FnW) {i : Bool} (t : s.p.ty.T → Tr (s.r.ty.T × s.p.out.T) i) (hT : TOk P tt) (hS : SpecsOk P specs) (hm : P.follows .mixedOrders = true) {n : FuncId} {fn : Func} (hk : (P.funcs[n]?,nodupB (ids (bodyOf fn)),s.r.res) = (some fn,true,true))
  {its : List (Nat × ISpec)} {lp : s.p.ty.T → List (Nat × LSpec)} (hits : ItsOk P noX its) (hl : ∀ x,LpsOk P noX (bodyOf fn) (lp x)) (he : ∀ x,(s.pre x,s.f x) = (Tr.pI i (t x).pre,(t x).val))
  (h : ∀ x r0 Q,fnE ⟨tt,specs,noX,lp x,[],its⟩ fn (argsW s.p x) (heapW s.p x r0) (retW s.r s.p x r0 Q) = (t x).wp Q [.env r0]) : SpecOk P n (fnSpecW s) := by
 simp only [Prod.mk.injEq] at hk
 refine SpecOk.fnW hT hS hm hk.1 hk.2.1 hk.2.2 fun x hx r0 => ⟨lp x,its,hits,hl x,?_⟩
 have e := he x
 simp only [Prod.mk.injEq] at e
 rw [h]
 exact Tr.wp_of _ _ _ (by rw [← e.1]; exact hx) e.2.symm
end
namespace Tr
variable {τ : Type}
abbrev fnW {i : Bool} (s : FnW) (x : s.p.ty.T) (k : s.r.ty.T × s.p.out.T → Tr τ i) : Tr τ true := .call (s.pre x) (s.f x) k
abbrev fnW0 {i : Bool} (s : FnW) (x : s.p.ty.T) (h : s.pre x) (k : s.r.ty.T × s.p.out.T → Tr τ i) : Tr τ i := .call0 (s.pre x) h (s.f x) k
end Tr
end Go.Ev
