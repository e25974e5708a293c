/- What the library's SortFunc does to a row of edges (two ints and a slice of ints), by a function that compares two. -/
import Derived.Test.YtleemdeodmdnkaaEvY
import Derived.Shelf.SlSortCmp.NoneTotal
noncomputable section
set_option linter.unusedSectionVars false
set_option linter.unusedVariables false
set_option linter.unusedSimpArgs false
namespace Go.Ev
open Go.RowKit
abbrev tE : Ty := .prod (.int .i64) (.prod (.int .i64) (.sl (.int .i64)))
abbrev EdgeV : Type := Int × (Int × List Int)
def ekey (x : EdgeV) : Int × Int := (x.1,x.2.1)
def ltE (x y : EdgeV) : Bool := decide (x.1 < y.1) || (decide (x.1 = y.1) && decide (x.2.1 < y.2.1))
def sortE (l : List EdgeV) : List EdgeV := l.mergeSort fun x y => !ltE y x
def sfSpec (g:Nat) : Spec := fun _ args hp nm k => match args with
 | [.v (.one (.full n)),.v (.one (.clo (.func g') [] []))] => match hp n with
  | some (.row (.prod (.int .i64) (.prod (.int .i64) (.sl (.int .i64)))) l rk) => if g' = g ∧ rk ≠ 0 ∧ rk ≠ 3 then ob (decide (l.length < 1099511627776)) ((l.map ekey).Nodup ∧ ∀ l',l' = sortE l → k { val := und,writes := [(n,.row tE l' rk)],touch := [n] }) else False
  | _ => False
 | _ => False
theorem flatMap_get {α β : Type} {f : α → List β} {k : Nat} (hk : ∀ x,(f x).length = k) : ∀ (l : List α) (j q:Nat),q < k → (l.flatMap f)[j * k + q]? = (l[j]?).bind fun x => (f x)[q]?
 | [],j,q,_ => by simp
 | a :: r,0,q,hq => by
  rw [List.flatMap_cons,Nat.zero_mul,Nat.zero_add,List.getElem?_append_left (by rw [hk]; exact hq)]; rfl
 | a :: r,j + 1,q,hq => by
  rw [List.flatMap_cons,Nat.succ_mul,List.getElem?_append_right (by rw [hk]; omega),hk,show j * k + k + q - k = j * k + q by omega,flatMap_get hk r j q hq]
  simp
theorem flatMap_len {α β : Type} {f : α → List β} {k : Nat} (hk : ∀ x,(f x).length = k) : ∀ (l : List α),(l.flatMap f).length = l.length * k
 | [] => by simp
 | a :: r => by rw [List.flatMap_cons,List.length_append,hk,flatMap_len hk r,List.length_cons,Nat.succ_mul]; omega
theorem flatK_list {α : Type} [Inhabited α] {enc : α → List Value} {k : Nat} (hk : ∀ x,(enc x).length = k) (h0 : 0 < k) (d : Array α) : (Sort.flatK enc k d).toList = d.toList.flatMap enc := by
 apply List.ext_getElem?
 intro t
 have hd := Nat.div_add_mod t k
 have hm := Nat.mod_lt t h0
 have e : (d.toList.flatMap enc)[t]? = (d.toList[t / k]?).bind fun x => (enc x)[t % k]? := by
  have := flatMap_get hk d.toList (t / k) (t % k) hm
  rwa [show t / k * k + t % k = t by rw [Nat.mul_comm]; exact hd] at this
 rw [e]
 unfold Sort.flatK
 by_cases ht : t < d.size * k
 ·have h1 : t / k < d.size := Nat.div_lt_of_lt_mul (by rw [Nat.mul_comm]; exact ht)
  have h2 : t % k < (enc d[t / k]).length := by rw [hk]; exact hm
  simp only [Array.toList_map,List.getElem?_map,Array.toList_range,List.getElem?_range ht,Option.map_some,Array.getElem?_toList]
  rw [Array.getElem?_eq_getElem h1,Option.bind_some,List.getElem?_eq_getElem h2,getElem!_pos d (t / k) h1,getElem!_pos (enc d[t / k]) (t % k) h2]
 ·have h1 : d.size ≤ t / k := by
   rcases Nat.lt_or_ge (t / k) d.size with h | h
   ·exfalso
    apply ht
    have := Nat.mul_le_mul_right k (Nat.succ_le_of_lt h)
    rw [Nat.succ_mul,Nat.mul_comm (t / k)] at this
    omega
   ·exact h
  rw [List.getElem?_eq_none (by simp; omega),List.getElem?_eq_none (by simpa using h1)]; rfl
theorem putRowV_heap {w : World} {b : Nat} {xs ys rest : List Value} {e : TypeId} {fr : Nat × Nat} (h : w.heap[b]? = some (.cells (xs ++ rest).toArray e fr)) (hl : ys.length = xs.length) :
  (Sort.putRow id w b 0 ys.toArray).heap[b]? = some (.cells (ys ++ rest).toArray e fr) := by
 unfold Sort.putRow Sort.mapBlock
 simp only [Array.getElem?_modify,if_true,h,Option.map_some,Sort.onCells,Option.some.injEq,Obj.cells.injEq,and_true]
 unfold Sort.putCells
 apply Array.ext_getElem?
 intro k
 rw [Array.getElem?_mapIdx]
 simp only [List.getElem?_toArray,Nat.zero_le,true_and,Nat.zero_add,List.size_toArray,Nat.sub_zero]
 by_cases hk : k < ys.length
 ·have hkx : k < xs.length := hl ▸ hk
  rw [List.getElem?_append_left hkx,List.getElem?_append_left hk]
  simp only [List.getElem?_eq_getElem hk,List.getElem?_eq_getElem hkx,Option.map_some,if_pos hk]
  rw [getElem!_pos ys.toArray k (by simpa using hk)]
  simp
 ·rw [List.getElem?_append_right (by omega),List.getElem?_append_right (by omega),hl]
  have hk' : ¬ k < xs.length := hl ▸ hk
  cases rest[k - xs.length]? <;> simp [hk']
theorem putRowV_ne {w : World} {b b' : Nat} {d : Array Value} (h : b' ≠ b) : (Sort.putRow id w b 0 d).heap[b']? = w.heap[b']? := by
 unfold Sort.putRow Sort.mapBlock
 simp only [Array.getElem?_modify]
 rw [if_neg (Ne.symm h)]
theorem holdsV {w : World} {b : Nat} {xs rest : List Value} {e : TypeId} (h : w.heap[b]? = some (.cells (xs ++ rest).toArray e (0,0))) : Sort.Holds id w b 0 xs.toArray := by
 intro j hj
 have hj : j < xs.length := by simpa using hj
 refine ⟨?_,by simp [World.frozen?,h]⟩
 rw [Nat.zero_add,cell_of_heap h,List.getElem?_append_left hj,List.getElem?_eq_getElem hj,getElem!_pos xs.toArray j (by simpa using hj)]
 simp
abbrev EdgeS : Type := EdgeV × (Option Addr × Nat)
def encE (x : EdgeS) : List Value := [.int .i64 x.1.1,.int .i64 x.1.2.1,.slice x.2.1 x.1.2.2.length x.2.2]
def hp2 (a b : List Int) : HP := fun n => if n = 0 then some (.row (.int .i64) a 0) else if n = 1 then some (.row (.int .i64) b 0) else none
def CmpE (P : Program) (g:Nat) (cf : EdgeV → EdgeV → Int) : Prop := ∀ a b : EdgeV,∃ s : Spec,SpecOk P g s ∧
 s noX [.v (.agg [.raw (.int .i64 a.1),.raw (.int .i64 a.2.1),.full 0]),.v (.agg [.raw (.int .i64 b.1),.raw (.int .i64 b.2.1),.full 1])] (hp2 a.2.2 b.2.2) 2 fun r => r.val = intV .i64 (cf a b)
theorem world_ext {w w' : World} (h1 : w'.os = w.os) (h2 : w'.tape = w.tape) (h3 : w'.output = w.output) (h4 : w.heap.size ≤ w'.heap.size) (h5 : ∀ k,k < w.heap.size → w'.heap[k]? = w.heap[k]?) (h6 : w.drawn ≤ w'.drawn) : ∃ q os,w' = Sort.grow (w.drewN q) os := by
 refine ⟨w'.drawn - w.drawn,w'.heap.extract w.heap.size w'.heap.size,?_⟩
 obtain ⟨hp,tp,dr,so,ou⟩ := w
 obtain ⟨hp',tp',dr',so',ou'⟩ := w'
 simp only at h1 h2 h3 h4 h5 h6
 subst h1; subst h2; subst h3
 unfold Sort.grow World.drewN
 simp only [World.mk.injEq,true_and,and_true]
 refine ⟨?_,by omega⟩
 apply Array.ext_getElem?
 intro k
 rcases Nat.lt_or_ge k hp.size with hk | hk
 ·rw [Array.getElem?_append_left hk]; exact h5 k hk
 ·rw [Array.getElem?_append_right hk,Array.getElem?_extract]
  by_cases hk2 : k - hp.size < hp'.size - hp.size
  ·rw [if_pos (by omega),show hp.size + (k - hp.size) = k by omega]
  ·rw [if_neg (by omega),Array.getElem?_eq_none (by omega)]
theorem cmpE_calls {P : Program} {g : Nat} {cf : EdgeV → EdgeV → Int} (h : CmpE P g cf) {x y : EdgeS} {w : World} (hx : NestAt w (fun _ => True) x.2 (.int .i64) x.1.2.2) (hy : NestAt w (fun _ => True) y.2 (.int .i64) y.1.2.2) :
  Calls P g #[.agg (encE x).toArray,.agg (encE y).toArray] w fun e w' => e = .returned (.int .i64 (cf x.1 y.1)) ∧ ∃ q os,w' = Sort.grow (w.drewN q) os := by
 obtain ⟨s,hs,hc⟩ := h x.1 y.1
 obtain ⟨r,hl,hv⟩ := hs _ _ _ _ _ hc
 let ρ : Env := fun n => if n = 0 then { base := x.2.1,len := x.1.2.2.length,cap := x.2.2,es := 1 } else { base := y.2.1,len := y.1.2.2.length,cap := y.2.2,es := 1 }
 have hno : ∀ m b,¬ (ρ m).has b := fun m b hb => by
  simp only [ρ] at hb
  split at hb <;> exact absurd (has_mk.1 hb) (fun h => by cases h)
 have hLO : ∀ b,¬ LO ρ (hp2 x.1.2.2 y.1.2.2) b := by
  rintro b (⟨m,_,h2⟩ | ⟨m,S,h1,_⟩)
  ·exact hno m b h2
  ·unfold hp2 at h1
   split at h1
   ·cases h1
   ·split at h1 <;> cases h1
 have hrow : ∀ (n:Nat) (z : EdgeS),NestAt w (fun _ => True) z.2 (.int .i64) z.1.2.2 → ρ n = { base := z.2.1,len := z.1.2.2.length,cap := z.2.2,es := 1 } → objAt (fzB ρ (hp2 x.1.2.2 y.1.2.2) w) (pmB noB w) ρ n (.row (.int .i64) z.1.2.2 0) w := fun n z hz e => by
  obtain ⟨_,z1,z2⟩ := hz
  rw [objAt,e]
  refine ⟨rfl,rfl,z1,fun _ => (none,0),fun i v hv => ?_,fun q u' l' hq => ?_,fun _ => rfl,fun q => absurd rfl q⟩
  ·rw [valsZ,← flatZ] at hv
   obtain ⟨a,a1,a2,_⟩ := z2 i v hv
   exact ⟨a,a1,a2,fun _ => ⟨by have := cellsB.of a2; rwa [add_block] at this,hLO _⟩⟩
  ·obtain ⟨v,hv⟩ := flat_row (t := .int .i64) rfl (List.mem_of_getElem? hq)
   cases hv
 have hst : St noB w ρ (· < 2) (hp2 x.1.2.2 y.1.2.2) w := by
  refine ⟨Fr.refl _ _,fun n o hn => ?_,fun n o hn => ?_,fun n m b _ _ h1 => absurd h1 (hno n b),fun n b _ h1 => absurd h1 (hno n b),fun b ⟨m,S,h1,_⟩ => ?_,fun n o hn => .inr (by simp only [ρ]; split <;> rfl)⟩
  ·unfold hp2 at hn
   split at hn
   ·rename_i e; subst e; cases hn
    exact hrow 0 x hx (by simp [ρ])
   ·split at hn
    ·rename_i e; subst e; cases hn
     exact hrow 1 y hy (by simp [ρ])
    ·cases hn
  ·unfold hp2 at hn
   split at hn
   ·rename_i e; subst e; cases hn; exact ⟨by decide,trivial⟩
   ·split at hn
    ·rename_i e; subst e; cases hn; exact ⟨by decide,trivial⟩
    ·cases hn
  ·unfold hp2 at h1
   split at h1
   ·cases h1
   ·split at h1 <;> cases h1
 have key := hl.2 noB w ρ (· < 2) (hp2 x.1.2.2 y.1.2.2) w (noX.ok noB w) (fun a ha => by
  simp only [List.mem_cons,List.not_mem_nil,or_false] at ha
  rcases ha with rfl | rfl
  ·intro c hc
   simp only [List.mem_cons,List.not_mem_nil,or_false] at hc
   rcases hc with rfl | rfl | rfl
   ·trivial
   ·trivial
   ·exact (by decide : 0 < 2)
  ·intro c hc
   simp only [List.mem_cons,List.not_mem_nil,or_false] at hc
   rcases hc with rfl | rfl | rfl
   ·trivial
   ·trivial
   ·exact (by decide : 1 < 2)) (fun _ _ => rfl) (fun i _ => by omega) hst
 refine key.mono ?_
 rintro e w' ⟨ρ',rfl,_,_,hst'⟩
 refine ⟨by rw [hv]; rfl,world_ext hst'.fr.os hst'.fr.tape hst'.fr.output hst'.fr.size (fun k hk => hst'.fr.block k hk id) hst'.fr.drw⟩
theorem ltE_iff (x y : EdgeV) : ltE x y = true ↔ x.1 < y.1 ∨ (x.1 = y.1 ∧ x.2.1 < y.2.1) := by
 unfold ltE; simp
theorem ltE_not (x y : EdgeV) : ltE x y = false ↔ ¬ (x.1 < y.1 ∨ (x.1 = y.1 ∧ x.2.1 < y.2.1)) := by
 rw [← ltE_iff]; simp
theorem rowE_vals (sub : Nat → Option Addr × Nat) (l : List EdgeV) : valsFrom sub 0 (rowComps tE l) = (List.finRange l.length).flatMap fun i => encE (l[i],sub (i.val * 3 + 2)) := by
 apply List.ext_getElem?
 intro t
 have hd := Nat.div_add_mod t 3
 have hm := Nat.mod_lt t (show 0 < 3 by decide)
 have e1 : (rowComps tE l)[t]? = (l[t / 3]?).bind fun x => (tE.comps x)[t % 3]? := by
  have := flatMap_get (f := tE.comps) (k := 3) (fun x => comps_length tE x) l (t / 3) (t % 3) hm
  rwa [show t / 3 * 3 + t % 3 = t by omega] at this
 have e2 : ((List.finRange l.length).flatMap fun i => encE (l[i],sub (i.val * 3 + 2)))[t]? = ((List.finRange l.length)[t / 3]?).bind fun i => (encE (l[i],sub (i.val * 3 + 2)))[t % 3]? := by
  have := flatMap_get (f := fun i : Fin l.length => encE (l[i],sub (i.val * 3 + 2))) (k := 3) (fun x => rfl) (List.finRange l.length) (t / 3) (t % 3) hm
  rwa [show t / 3 * 3 + t % 3 = t by omega] at this
 rw [valsFrom_get,e1,e2,Nat.zero_add]
 rcases Nat.lt_or_ge (t / 3) l.length with h | h
 ·have h2 : t / 3 < (List.finRange l.length).length := by simpa using h
  rw [List.getElem?_eq_getElem h,List.getElem?_eq_getElem h2,Option.bind_some,Option.bind_some,List.getElem_finRange]
  have hx : t % 3 = 0 ∨ t % 3 = 1 ∨ t % 3 = 2 := by omega
  rcases hx with hx | hx | hx
  ·rw [hx]; rfl
  ·rw [hx]; rfl
  ·have ht : t = t / 3 * 3 + 2 := by omega
   rw [hx]
   show some (compVal (sub t) (.sl (.int .i64) _)) = some _
   unfold compVal
   simp only [Fin.cast_mk,Fin.getElem_fin]
   rw [← ht]
 ·rw [List.getElem?_eq_none h,List.getElem?_eq_none (by simpa using h)]; rfl
theorem Fr.putV {bor : Bor} {W w : World} {b m : Nat} {d : Array Value} (h : Fr bor W w) (hb : W.heap.size ≤ b ∨ bor b) : Fr bor W (Sort.putRow id (Sort.ahead w m) b 0 d) :=
 ⟨h.os,h.tape,h.output,by rw [Sort.size_putRow]; exact h.size,fun k hk hn => by
  rw [putRowV_ne (by rintro rfl; exact hb.elim (by omega) hn)]; exact h.block k hk hn,Nat.le_trans h.drw (Nat.le_add_right _ _)⟩
theorem map_finRange (l : List EdgeV) : (List.finRange l.length).map (fun i => l[i]) = l := by
 apply List.ext_getElem?
 intro t
 rw [List.getElem?_map]
 rcases Nat.lt_or_ge t l.length with h | h
 ·rw [List.getElem?_eq_getElem h,List.getElem?_eq_getElem (by simpa using h),List.getElem_finRange]; rfl
 ·rw [List.getElem?_eq_none h,List.getElem?_eq_none (by simpa using h)]; rfl
open Go.Proofs Go.Shelf in
theorem sfSpec_ok {P : Program} {ρ0 : Go.Shelf.Ren} (L : SlLaysF0.n6 P ρ0) (aE : ∀ w,(isAgg (ρ0.t 24)).run P w = .ok true w) (zE : ∀ w,(Go.sizeOf (ρ0.t 24)).run P w = .ok 3 w) {g : Nat} (eg : ∀ args w,(callFunc g args).run P w = .ok (.enter g args) w)
  {cf : EdgeV → EdgeV → Int} (hc : CmpE P g cf) (hcf : ∀ x y,decide (cf x y < 0) = ltE x y) : SpecOk P (ρ0.f 6) (sfSpec g) := by
 intro X args hp nm k hs
 unfold sfSpec at hs
 split at hs <;> try (exact hs.elim)
 rename_i n g'
 split at hs <;> try (exact hs.elim)
 rename_i l rk he
 split at hs <;> try (exact hs.elim)
 rename_i hcond
 obtain ⟨rfl,hrk,hrk3⟩ := hcond
 obtain ⟨hlen,hnd,hk⟩ := ob_spec hs
 have hlen := of_decide_eq_true hlen
 refine ⟨_,⟨fun p hp' => ?_,?_⟩,hk _ rfl⟩
 ·simp only [List.mem_singleton] at hp'; subst hp'; rw [he]; simp
 intro bor W ρ Kn Γ w _ hok ht hfr hst
 have hΓ : Γ n = some (.row tE l rk) := by rw [ht n (by simp),he]
 obtain ⟨o1,o2,o3,sub,m1,m2,m3,m4⟩ := hst.at_ n _ hΓ
 have eSt : knR Kn nm { val := und,writes := [(n,AObj.row tE (sortE l) rk)],touch := [n] } = Kn := knR_nil _ _ _ _ _
 have hl' : (sortE l).length = l.length := List.length_mergeSort l
 have ea : ([AV.v (.one (.full n)),AV.v (.one (.clo (.func g') [] []))].map (AV.conc ρ)).toArray = #[.slice (ρ n).base (ρ n).len (ρ n).cap,.func (.func g') #[] #[]] := rfl
 have hempty : l = [] → Calls P (ρ0.f 6) ([AV.v (.one (.full n)),AV.v (.one (.clo (.func g') [] []))].map (AV.conc ρ)).toArray w fun e w' => ∃ ρ',e = .returned (und.conc ρ') ∧ (∀ m,Kn m → ρ' m = ρ m) ∧ und.ok (knR Kn nm { val := und,writes := [(n,AObj.row tE (sortE l) rk)],touch := [n] }) ∧ St bor W ρ' (knR Kn nm { val := und,writes := [(n,AObj.row tE (sortE l) rk)],touch := [n] }) (appH { val := und,writes := [(n,AObj.row tE (sortE l) rk)],touch := [n] } nm Γ) w' := fun h0 => by
  subst h0
  rw [ea,o1]
  refine (AnyF.slices_SortFunc_none L _ _ _ w).mono ?_
  rintro e w' ⟨rfl,rfl⟩
  refine ⟨ρ,rfl,fun _ _ => rfl,und_ok _,?_⟩
  rw [eSt,appH_write _ _ _ _ _ _ rfl]
  have e1 : sortE [] = [] := by simp [sortE]
  have : updH Γ n (.row tE (sortE []) rk) = Γ := by
   funext m; unfold updH; split
   ·rename_i e2; subst e2; rw [e1]; exact hΓ.symm
   ·rfl
  rw [this]; exact hst
 by_cases h0 : l = []
 ·exact hempty h0
 rcases (m4 hrk).old hrk3 with ⟨_,h2,_⟩ | ⟨b,rest,e0,h1,h2,h3,h4,h5⟩
 ·exact absurd h2 h0
 have hpos : 0 < l.length := List.length_pos_iff.2 h0
 haveI : Inhabited (Fin l.length) := ⟨⟨0,hpos⟩⟩
 let ed : Fin l.length → EdgeS := fun i => (l[i],sub (i.val * 3 + 2))
 let enc : Fin l.length → List Value := fun i => encE (ed i)
 let cf' : Fin l.length → Fin l.length → Int := fun i j => cf (ed i).1 (ed j).1
 have hken : ∀ x,(enc x).length = 3 := fun x => rfl
 have hvals := rowE_vals sub l
 have hlt : ∀ i j,ltOf cf' i j = ltE l[i] l[j] := fun i j => hcf _ _
 have hb := hst.lt n b (by rw [hΓ]; rfl) (.inl h1)
 have hown := hst.own n b (by rw [hΓ]; rfl) h1
 rw [hvals] at h3 h4
 have hfk : ∀ fs : List (Fin l.length),Sort.flatK enc 3 fs.toArray = (fs.flatMap enc).toArray := fun fs => Array.ext' (by rw [flatK_list hken (by decide)])
 have hfin : (List.finRange l.length).toArray.size = l.length := by simp
 have hH : Sort.HoldsK enc 3 w b 0 (List.finRange l.length).toArray := by
  unfold Sort.HoldsK
  rw [hfk]; exact holdsV h3
 have hnest : ∀ i : Fin l.length,NestAt w (fun b' => fzB ρ Γ w b' ∧ (rk = 2 → pmB bor W b' ∧ unf w b')) (ed i).2 (.int .i64) (ed i).1.2.2 := fun i => by
  have hq : (rowComps tE l)[i.val * 3 + 2]? = some (.sl (.int .i64) l[i].2.2) := by
   have := flatMap_get (f := tE.comps) (k := 3) (fun x => comps_length tE x) l i.val 2 (by decide)
   rw [List.getElem?_eq_getElem i.isLt] at this
   exact this
  exact m2 _ _ _ hq
 have hne : ∀ b',fzB ρ Γ w b' → b' ≠ b := fun b' hb' e => hb'.2 (.inl ⟨n,by rw [hΓ]; rfl,by rw [e]; exact .inl h1⟩)
 have hsw : ∀ (m:Nat) (dk : Array (Fin l.length)) (os : Array Obj) (b':Nat),b' < w.heap.size → b' ≠ b → (sortWorldK enc 3 w b 0 m dk os).heap[b']? = w.heap[b']? := fun m dk os b' hb' hbn => by
  unfold sortWorldK Sort.putRowK
  rw [grow_heap (by rw [Sort.size_putRow]; exact hb'),putRowV_ne hbn]; rfl
 have hcmp : CmpLays P g' #[] enc 3 cf' b 0 (List.finRange l.length).toArray.size w := fun m os dk hdk i j => by
  have hz : ∀ i : Fin l.length,NestAt (sortWorldK enc 3 w b 0 m dk os) (fun _ => True) (ed i).2 (.int .i64) (ed i).1.2.2 := fun i =>
   (hnest i).mono fun b' hb' => ⟨trivial,hsw m dk os b' hb'.1.1.lt (hne b' hb'.1)⟩
  have := cmpE_calls hc (hz i) (hz j)
  simpa using this
 have hO : Sort.SWO (ltOf cf') := by
  refine ⟨fun x => ?_,fun x y z h1 h2 => ?_,fun x y z h1 h2 => ?_⟩
  ·rw [hlt,ltE_not]; omega
  ·rw [hlt,ltE_iff] at *; omega
  ·rw [hlt,ltE_not] at *; omega
 have hT : ∀ x y,ltOf cf' x y = false → ltOf cf' y x = false → x = y := fun x y q1 q2 => by
  rw [hlt,ltE_not] at q1 q2
  have hkey : ekey l[x] = ekey l[y] := by
   unfold ekey
   rw [Prod.mk.injEq]
   exact ⟨by omega,by omega⟩
  have hpw := List.pairwise_iff_getElem.1 hnd
  rcases Nat.lt_trichotomy x.val y.val with h | h | h
  ·exact absurd (by simpa using hkey) (hpw x.val y.val (by simp) (by simp) h)
  ·exact Fin.ext h
  ·exact absurd (by simpa using hkey.symm) (hpw y.val x.val (by simp) (by simp) h)
 have hcall := AnyQ.slices_SortFunc_total L 3 aE zE enc hken (fun x v hv => by
  simp only [enc,encE,List.mem_cons,List.not_mem_nil,or_false] at hv
  rcases hv with rfl | rfl | rfl <;> rfl) cf' hO g' #[] b 0 (ρ n).cap (List.finRange l.length).toArray w eg hcmp hH hb (by rw [hfin]; omega) hT
 rw [hfin] at hcall
 rw [ea,o1,h2]
 refine hcall.mono ?_
 rintro e w' ⟨rfl,m,os,rfl⟩
 have hmap : ((List.finRange l.length).mergeSort (fun x y => !(ltOf cf') y x)).map (fun i : Fin l.length => l[i]) = sortE l := by
  rw [List.map_mergeSort (s := fun x y => !ltE y x) (fun a _ b _ => by rw [hlt]),map_finRange]; rfl
 have hfl0 : ((List.finRange l.length).mergeSort (fun x y => !(ltOf cf') y x)).length = l.length := by rw [List.length_mergeSort]; simp
 generalize hfs : (List.finRange l.length).mergeSort (fun x y => !(ltOf cf') y x) = fs at hmap hfl0 ⊢
 have hfs' : ((List.finRange l.length).toArray.toList.mergeSort fun x y => !(ltOf cf') y x) = fs := by rw [List.toList_toArray]; exact hfs
 try rw [hfs']
 have hfl : fs.length = l.length := hfl0
 have hcs : rowComps tE (sortE l) = fs.flatMap fun i : Fin l.length => tE.comps l[i] := by
  rw [← hmap]; unfold rowComps; rw [List.flatMap_map]
 refine ⟨ρ,rfl,fun _ _ => rfl,und_ok _,?_⟩
 rw [eSt,appH_write _ _ _ _ _ _ rfl]
 have hvl : (fs.flatMap enc).length = ((List.finRange l.length).flatMap enc).length := by rw [flatMap_len hken,flatMap_len hken,hfl]; simp
 have hput : (Sort.putRow id (Sort.ahead w m) b 0 (fs.flatMap enc).toArray).heap[b]? = some (.cells (fs.flatMap enc ++ rest).toArray e0 (0,0)) := putRowV_heap (w := Sort.ahead w m) h3 hvl
 have hst1 : St bor W ρ Kn (updH Γ n (.row tE (sortE l) rk)) (Sort.putRow id (Sort.ahead w m) b 0 (fs.flatMap enc).toArray) := by
  refine hst.writeW hΓ h1 trivial (fun _ h => by cases h) (hst.fr.putV hown) (fun b' hb' => putRowV_ne hb') (by rw [Sort.size_putRow]; exact Nat.le_refl _) fun hfz => ?_
  have hcomb : ∀ fs : List (Fin l.length),All2 (NestC (Sort.putRow id (Sort.ahead w m) b 0 ((List.mergeSort (List.finRange l.length) fun x y => !(ltOf cf') y x).flatMap enc).toArray) (fun b' => fzB ρ (updH Γ n (.row tE (sortE l) rk)) (Sort.putRow id (Sort.ahead w m) b 0 ((List.mergeSort (List.finRange l.length) fun x y => !(ltOf cf') y x).flatMap enc).toArray) b' ∧ (rk = 2 → pmB bor W b' ∧ unf (Sort.putRow id (Sort.ahead w m) b 0 ((List.mergeSort (List.finRange l.length) fun x y => !(ltOf cf') y x).flatMap enc).toArray) b'))) (fs.flatMap fun i : Fin l.length => tE.comps l[i]) (fs.flatMap enc) := by
   rw [hfs]
   intro fs'
   induction fs' with
   | nil => trivial
   | cons i r ih =>
    rw [List.flatMap_cons,List.flatMap_cons]
    refine All2.append ?_ ih
    exact ⟨rfl,rfl,⟨_,_,rfl,(hnest i).mono fun b' hb' => ⟨⟨(hfz b' hb'.1).1,fun e => ⟨(hb'.2 e).1,(hb'.2 e).2.same (hfz b' hb'.1).2⟩⟩,(hfz b' hb'.1).2⟩⟩,trivial⟩
  have hcomb := hcomb fs
  rw [hfs,← hcs] at hcomb
  obtain ⟨s1,s2⟩ := subOf_vals hcomb
  rw [objAt]
  refine ⟨by rw [hl']; exact o1,o2,by rw [hl']; exact o3,subOf (fs.flatMap enc),fun i v hv => ?_,s2,fun e => absurd e hrk,fun _ => OwnAt.new (.inr ⟨b,rest,e0,h1,h2,by rw [s1]; exact hput,?_,h5⟩)⟩
  ·rw [s1] at hv
   refine ⟨_,h2,?_,fun e => absurd e hrk⟩
   have e1 : (⟨b,0,none⟩ : Addr).add i = ⟨b,i,none⟩ := by unfold Addr.add; split <;> simp_all
   rw [e1,cell_of_heap hput,List.getElem?_append_left (List.getElem?_eq_some_iff.1 hv).1]; exact hv
  ·rw [s1,h4,List.length_append,List.length_append,hvl]
 unfold sortWorldK Sort.putRowK
 rw [hfk]
 exact hst1.world hst1.fr.growZ fun b' hb' => grow_heap hb'
end Go.Ev
