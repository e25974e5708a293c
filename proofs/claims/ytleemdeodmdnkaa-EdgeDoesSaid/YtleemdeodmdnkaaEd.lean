/- The library's SortFunc on edges: the kit's contract, laid by its tools. -/
import Derived.Test.YtleemdeodmdnkaaEvZ
import Derived.Test.YtleemdeodmdnkaaPu
noncomputable section
set_option linter.unusedSectionVars false
set_option linter.unusedVariables false
set_option linter.unusedSimpArgs false
namespace Go.Proofs
open Go.Shelf
def Try.lsf_ren : Go.Shelf.Ren := ⟨fun | 6 => 31 | 15 => 50 | 14 => 49 | 28 => 68 | 29 => 69 | 20 => 60 | 21 => 61 | 22 => 62 | 23 => 63 | 24 => 64 | 25 => 65 | 26 => 66 | 27 => 67 | 46 => 75 | 47 => 76 | 48 => 77 | 49 => 78 | 50 => 79 | 57 => 90 | n => n,fun | 22 => 27 | 24 => 39 | 25 => 62 | 3 => 3 | 39 => 77 | 0 => 0 | 53 => 99 | 55 => 101 | 4 => 4 | 46 => 92 | 45 => 91 | 50 => 96 | 5 => 5 | 9 => 9 | 66 => 109 | 70 => 113 | 76 => 121 | 77 => 122 | n => n,fun | n => n⟩
theorem Try.lsf : Go.Proofs.SlLaysF0.n6 Try.prog Try.lsf_ren := {
 mixed := by kernel_rfl
 f6 := ⟨Try.f31.name,by decide,Try.func31.trans (congrArg some (by kernel_rfl))⟩
 f14 := ⟨Try.f49.name,by decide,Try.func49.trans (congrArg some (by kernel_rfl))⟩
 f15 := Try.func50.trans (congrArg some (by kernel_rfl))
 f20 := ⟨Try.f60.name,by decide,Try.func60.trans (congrArg some (by kernel_rfl))⟩
 f21 := ⟨Try.f61.name,by decide,Try.func61.trans (congrArg some (by kernel_rfl))⟩
 f22 := ⟨Try.f62.name,by decide,Try.func62.trans (congrArg some (by kernel_rfl))⟩
 f23 := ⟨Try.f63.name,by decide,Try.func63.trans (congrArg some (by kernel_rfl))⟩
 f24 := ⟨Try.f64.name,by decide,Try.func64.trans (congrArg some (by kernel_rfl))⟩
 f25 := ⟨Try.f65.name,by decide,Try.func65.trans (congrArg some (by kernel_rfl))⟩
 f26 := ⟨Try.f66.name,by decide,Try.func66.trans (congrArg some (by kernel_rfl))⟩
 f27 := ⟨Try.f67.name,by decide,Try.func67.trans (congrArg some (by kernel_rfl))⟩
 f28 := Try.func68.trans (congrArg some (by kernel_rfl))
 f29 := Try.func69.trans (congrArg some (by kernel_rfl))
 f46 := ⟨Try.f75.name,by decide,Try.func75.trans (congrArg some (by kernel_rfl))⟩
 f47 := Try.func76.trans (congrArg some (by kernel_rfl))
 f48 := Try.func77.trans (congrArg some (by kernel_rfl))
 f49 := ⟨Try.f78.name,by decide,Try.func78.trans (congrArg some (by kernel_rfl))⟩
 f50 := ⟨Try.f79.name,by decide,Try.func79.trans (congrArg some (by kernel_rfl))⟩
 f57 := ⟨Try.f90.name,by decide,Try.func90.trans (congrArg some (by kernel_rfl))⟩
 t0 := Try.underlying0
 a0 := Try.isAgg0
 z0 := Try.sizeOf0
 v0 := Try.zeroValue0
 t3 := Try.underlying3
 a3 := Try.isAgg3
 z3 := Try.sizeOf3
 v3 := Try.zeroValue3
 t4 := Try.underlying4
 a4 := Try.isAgg4
 z4 := Try.sizeOf4
 v4 := Try.zeroValue4
 t5 := Try.underlying5
 a5 := Try.isAgg5
 z5 := Try.sizeOf5
 v5 := Try.zeroValue5
 t9 := Try.underlying9
 a9 := Try.isAgg9
 z9 := Try.sizeOf9
 v9 := Try.zeroValue9
 t22 := Try.underlying27
 a22 := Try.isAgg27
 z22 := Try.sizeOf27
 v22 := Try.zeroValue27
 t25 := Try.underlying62
 a25 := Try.isAgg62
 z25 := Try.sizeOf62
 v25 := Try.zeroValue62
 t39 := Try.underlying77
 a39 := Try.isAgg77
 z39 := Try.sizeOf77
 v39 := Try.zeroValue77
 t45 := Try.underlying91
 a45 := Try.isAgg91
 z45 := Try.sizeOf91
 v45 := Try.zeroValue91
 t46 := Try.underlying92
 a46 := Try.isAgg92
 z46 := Try.sizeOf92
 v46 := Try.zeroValue92
 t50 := Try.underlying96
 a50 := Try.isAgg96
 z50 := Try.sizeOf96
 v50 := Try.zeroValue96
 t53 := Try.underlying99
 a53 := Try.isAgg99
 z53 := Try.sizeOf99
 v53 := Try.zeroValue99
 t55 := Try.underlying101
 a55 := Try.isAgg101
 z55 := Try.sizeOf101
 v55 := Try.zeroValue101
 t66 := Try.underlying109
 a66 := Try.isAgg109
 z66 := Try.sizeOf109
 v66 := Try.zeroValue109
 t70 := Try.underlying113
 a70 := Try.isAgg113
 z70 := Try.sizeOf113
 v70 := Try.zeroValue113
 t76 := Try.underlying121
 a76 := Try.isAgg121
 z76 := Try.sizeOf121
 v76 := Try.zeroValue121
 t77 := Try.underlying122
 a77 := Try.isAgg122
 z77 := Try.sizeOf122
 v77 := Try.zeroValue122 }
end Go.Proofs
namespace Go.Proofs.Ytleemdeodmdnkaa
open Go Go.Ev Go.Proofs
theorem compare_v (a b:Int) : compare (a,b) = if a < b then -1 else if a > b then 1 else 0 := by
 have h : ∀ z : Int,isnan z = false := fun z => by unfold isnan; simp
 unfold compare
 dsimp only [letV]
 rw [h,h]
 simp
theorem cmpor_law2 (a b:Int) : cmpor_pre [a,b] ∧ cmpor [a,b] = if a ≠ 0 then a else b := by
 have key : TR (cmpor_l0_step [a,b]) (cmpor_l0_pre [a,b]) 0 (fun r => Sum.elim (fun a => a) (fun _ => (0:Int)) r = if a ≠ 0 then a else b) := by
  have p : ∀ i : Int,(i = 0 ∨ i = 1 ∨ i = 2) → cmpor_l0_pre [a,b] i := fun i h => by
   unfold cmpor_l0_pre
   intro hi
   rcases h with rfl | rfl | rfl
   ·exact ⟨⟨by decide,hi⟩,Nat.zero_lt_succ _,Nat.zero_lt_succ _⟩
   ·exact ⟨⟨by decide,hi⟩,Nat.lt_succ_self _,Nat.lt_succ_self _⟩
   ·exact absurd hi (by decide : ¬ ((2:Int) < 2))
  by_cases ha : a = 0
  ·subst ha
   refine TR.go (s' := 1) (p 0 (.inl rfl)) rfl ?_
   by_cases hb : b = 0
   ·subst hb
    refine TR.go (s' := 2) (p 1 (.inr (.inl rfl))) rfl ?_
    exact TR.stop (p 2 (.inr (.inr rfl))) (r := .inr ()) rfl rfl
   ·refine TR.stop (p 1 (.inr (.inl rfl))) (r := .inl b) ?_ rfl
    show (if ((b != 0) = true) then _ else _) = _
    rw [if_pos (by simp [hb])]; rfl
  ·refine TR.stop (p 0 (.inl rfl)) (r := .inl a) ?_ ?_
   ·show (if ((a != 0) = true) then _ else _) = _
    rw [if_pos (by simp [ha])]; rfl
   ·rw [if_pos ha]; rfl
 exact ⟨key.1,key.2⟩
theorem ecmp_law (x y : EdgeV) : ecmp_pre (x,y) ∧ decide (ecmp (x,y) < 0) = ltE x y := by
 obtain ⟨h1,h2⟩ := cmpor_law2 (compare (x.1,y.1)) (compare (x.2.1,y.2.1))
 refine ⟨h1,?_⟩
 show decide (cmpor [compare (x.1,y.1),compare (x.2.1,y.2.1)] < 0) = _
 rw [h2,compare_v,compare_v,Bool.eq_iff_iff,ltE_iff,decide_eq_true_iff]
 repeat (first | omega | split)
theorem ecmp_vc (a b : EdgeV) (Q : Rec → Prop) : fnSpec ecmp_S noX [.v (.agg [.raw (.int .i64 a.1),.raw (.int .i64 a.2.1),.full 0]),.v (.agg [.raw (.int .i64 b.1),.raw (.int .i64 b.2.1),.full 1])] (hp2 a.2.2 b.2.2) 2 Q =
  (ecmp_pre (a,b) ∧ ∀ y,y = ecmp (a,b) → Q { val := intV .i64 y,fresh := [],touch := [0,1] }) := by kernel_rfl
theorem ecmp_E : CmpE Try.prog 32 (fun a b => ecmp (a,b)) := fun a b => ⟨_,ecmp_ok,by
 rw [ecmp_vc]
 exact ⟨(ecmp_law a b).1,fun y hy => by rw [hy]⟩⟩
theorem esort_ok : SpecOk Try.prog 31 (sfSpec 32) :=
 sfSpec_ok Try.lsf (fun w => Try.isAgg39 w) (fun w => Try.sizeOf39 w) (Enters.of (fn := Try.f32) (by kernel_rfl) (by kernel_rfl) (by kernel_rfl)) ecmp_E fun x y => (ecmp_law x y).2
end Go.Proofs.Ytleemdeodmdnkaa

namespace Go.Proofs.Ytleemdeodmdnkaa
open Go Go.Ev Go.Proofs
def sp_esort : List (Nat × Ev.Spec) := (31,(sfSpec 32)) :: sp_eparts
theorem sp_esort_ok : SpecsOk Try.prog sp_esort := SpecsOk.add (fn := Try.f31) (by kernel_rfl) esort_ok sp_eparts_ok
def edIts : List (Nat × ISpec) := [(32,fun _ _ _ _ => False)]
theorem edIts_ok : ItsOk Try.prog noX edIts := ItsOk.cons (Enters.of (fn := Try.f32) (by kernel_rfl) (by kernel_rfl) (by kernel_rfl)) (fun _ _ _ _ h => h.elim) (ItsOk.nil _ _)
abbrev edP : Par := .agg (Ty.prod (Ty.sl yy3) (Ty.prod (Ty.sl yy2) (Ty.prod (Ty.sl yy3) (Ty.sl yy9))))
abbrev edR : Par := .pair (.one (.sl tE)) (.one yi)
abbrev MshE : Type := List I3 × (List I2 × (List I3 × List I9))
abbrev MpE : Type := List (I2 × List Int)
def toE (p : I2 × List Int) : EdgeV := (p.1.1,(p.1.2,p.2))
def edLoop : Code := cI (blk 0 (bodyOf Try.f11))
def tailC : Code → Code
 | .seq _ (.seq _ (.seq _ (.seq _ c))) => c
 | _ => .skip
def edC2 : Code := tailC (bodyOf Try.f11)
def edCS (es : Array MapEntry) (clk:Nat) (l : MpE) (cur : Option (I2 × Nat)) (out : List EdgeV) : AS :=
 ⟨[.dead,.dead,.dead,.dead,.v (.one (.full 0)),.dead,.dead,.dead,.dead,.dead,.dead,.dead,.v (.one (.ptr 1 0)),.dead,.dead,.dead,.dead,.dead,.dead,.dead,.dead,.dead,.dead,.dead,.dead,.dead,.dead,.dead,.dead,.dead],[.row tE out 2,.itr 2 3 es clk true yy2 yi l cur,.hmap es clk,.set 2,.gone]⟩
def edES (out : List EdgeV) : AS := ⟨[.dead,.dead,.dead,.dead,.v (.one (.full 0)),.dead,.dead,.dead,.dead,.dead,.dead,.dead,.dead,.dead,.dead,.dead,.dead,.dead,.dead,.dead,.dead,.dead,.dead,.dead,.dead,.dead,.dead,.dead,.dead,.dead],[.row tE out 2]⟩
def edX1 (es : Array MapEntry) (clk:Nat) (l : MpE) (cur : Option (I2 × Nat)) (out : List EdgeV) : AS :=
 ⟨[.dead,.dead,.dead,.dead,.v (.one (.full 0)),.dead,.dead,.dead,.dead,.dead,.dead,.dead,.v (.one (.ptr 1 0)),.tup [.one (.raw (.bool false))],boolV false,.dead,.dead,.dead,.dead,.dead,.dead,.dead,.dead,.dead,.dead,.dead,.dead,.dead,.dead,.dead],[.row tE out 2,.itr 2 3 es clk true yy2 yi l cur,.hmap es clk,.set 2,.gone]⟩
def kc (l : MpE) (i:Nat) : List Cell := [.raw (.int .i64 (keyAt (k := yy2) (u := yi) l i).1.1),.raw (.int .i64 (keyAt (k := yy2) (u := yi) l i).1.2)]
def edX2 (es : Array MapEntry) (clk:Nat) (l : MpE) (cur : Option (I2 × Nat)) (out : List EdgeV) (i:Nat) : AS :=
 ⟨[.dead,.dead,.dead,.dead,.v (.one (.full 9)),.v (.one (.ptr 7 0)),.v (.one (.full 6)),.dead,.dead,.dead,.dead,.dead,.v (.one (.ptr 1 0)),.tup [.one (.raw (.bool true)),.agg (kc l i),.one (.full 6)],boolV true,.tup [.agg (kc l i),.one (.full 6)],.v (.agg (kc l i)),.v (.one (.full 6)),.v (.one (.full 0)),.v (.one (.ptr 7 0)),intV .i64 (keyAt (k := yy2) (u := yi) l i).1.1,.v (.one (.ptr 7 1)),intV .i64 (keyAt (k := yy2) (u := yi) l i).1.2,.v (.one (.full 6)),.v (.agg (kc l i ++ [.full 6])),.v (.one (.sl 8 0 1 1)),.v (.one (.full 9)),.dead,.dead,.dead],
  [.gone,.itr 2 5 es clk true yy2 yi (l.eraseIdx i) (some ((keyAt (k := yy2) (u := yi) l i).1,6)),.hmap es clk,.gone,.gone,.set 2,.gone,.cells (kc l i) 58,.cells (kc l i ++ [.full 6]) 39,.row tE (out ++ [toE (keyAt (k := yy2) (u := yi) l i)]) 2]⟩
theorem edB_vc (es : Array MapEntry) (clk:Nat) (l : MpE) (cur : Option (I2 × Nat)) (out : List EdgeV) (K : Exit → AS → Prop) : codeE ⟨tt,sp_esort,noX,[],[],edIts⟩ edLoop (edCS es clk l cur out) K =
  (es = es ∧ clk = clk ∧ (l = [] → K (.exit 0) (edX1 es clk l cur out)) ∧ ∀ i,i < l.length → es = es ∧ clk = clk ∧ ob (decide (out.length + 1 < 1099511627776)) (K .normal (edX2 es clk l cur out i))) := by kernel_rfl
def edSp : LSpec := fun st K => ∃ es clk,∃ l : MpE,Weak st (edCS es clk l none []) ∧ l.length < 1099511627776 ∧ ∀ L' : MpE,L'.Perm l → K .normal (edES (L'.map toE))
theorem weak_x2 (es : Array MapEntry) (clk:Nat) (l : MpE) (cur : Option (I2 × Nat)) (out : List EdgeV) (i:Nat) : Weak (edX2 es clk l cur out i) (edCS es clk (l.eraseIdx i) (some ((keyAt (k := yy2) (u := yi) l i).1,4)) (out ++ [toE (keyAt (k := yy2) (u := yi) l i)])) :=
 ren_ok (π := [.same 9,.same 1,.same 2,.same 5,.same 6]) (And.intro rfl (And.intro rfl trivial)) (And.intro (ren_same rfl rfl) (And.intro (ren_same rfl rfl) (And.intro (ren_same rfl rfl) (And.intro (ren_same rfl rfl) trivial)))) rfl
theorem weak_x1 (es : Array MapEntry) (clk:Nat) (l : MpE) (cur : Option (I2 × Nat)) (out : List EdgeV) : Weak (edX1 es clk l cur out) (edES out) :=
 ren_ok (π := [.same 0]) (And.intro rfl trivial) (And.intro (ren_same rfl rfl) trivial) rfl
theorem erase_perm {α : Type} : ∀ {l : List α} {i : Nat} (h : i < l.length),(l[i] :: l.eraseIdx i).Perm l
 | a :: l,0,h => List.Perm.refl _
 | a :: l,i + 1,h => (List.Perm.swap a (l[i]'(by simpa using h)) (l.eraseIdx i)).trans ((erase_perm (l := l) (i := i) (by simpa using h)).cons a)
theorem keyAt_perm {l : MpE} {i : Nat} (h : i < l.length) : (keyAt (k := yy2) (u := yi) l i :: l.eraseIdx i).Perm l := by
 have e : keyAt (k := yy2) (u := yi) l i = l[i] := by
  unfold keyAt
  rw [List.getD_eq_getElem?_getD,List.getElem?_eq_getElem h]; rfl
 rw [e]
 exact erase_perm h
theorem edSp_ok (st : AS) (K : Exit → AS → Prop) (h : edSp st K) : codeE ⟨tt,sp_esort,noX,[],[],edIts⟩ (.loop edLoop) st (wrapB 0 (orWeak K)) := by
 obtain ⟨es,clk,l0,hw,hl,hK⟩ := h
 refine ⟨fun m st => ∃ l cur,∃ D : MpE,st = edCS es clk l cur (D.map toE) ∧ (D ++ l).Perm l0 ∧ m = l.length,⟨l0.length,_,hw,l0,none,[],rfl,List.Perm.refl _,rfl⟩,?_⟩
 rintro m st1 ⟨l,cur,D,rfl,hp,rfl⟩
 rw [edB_vc]
 have hlen := hp.length_eq
 rw [List.length_append] at hlen
 refine ⟨rfl,rfl,fun hl0 => ?_,fun i hi => ⟨rfl,rfl,ob_k (decide_eq_true (by rw [List.length_map]; omega)) ?_⟩⟩
 ·subst hl0
  show orWeak K .normal _
  rw [List.append_nil] at hp
  exact ⟨_,weak_x1 _ _ _ _ _,hK D hp⟩
 ·refine ⟨(l.eraseIdx i).length,_,by rw [List.length_eraseIdx_of_lt hi]; omega,weak_x2 _ _ _ _ _ _,_,_,D ++ [keyAt (k := yy2) (u := yi) l i],by rw [List.map_append]; rfl,?_,rfl⟩
  rw [List.append_assoc]
  exact (List.Perm.append_left D (keyAt_perm hi)).trans hp
def edT (x : MshE) (y : Bool) : List AV := [.v (.agg [.full 0,.full 1,.full 2,.full 3]),.v (.one (.ptr 4 0)),.v (.one (.raw (.slice none 0 0))),intV .i64 0,und,und,und,.v (.agg [.full 0,.full 1,.full 2,.full 3]),boolV y,boolV !y,und,und,und,und,und,und,und,und,und,und,und,und,und,und,und,und,und,und,und,und]
def edHp (x : MshE) : List AObj := [.row yy3 x.1 0,.row yy2 x.2.1 0,.row yy3 x.2.2.1 0,.row yy9 x.2.2.2 0,.cells [.full 0,.full 1,.full 2,.full 3] 26]
def edS0 (x : MshE) (y : Bool) (l : MpE) (es : Array MapEntry) (clk:Nat) : AS :=
 ⟨[.v (.agg [.full 0,.full 1,.full 2,.full 3]),.v (.one (.ptr 4 0)),.v (.one (.raw (.slice none 0 0))),intV .i64 0,.v (.one (.raw (.slice none 0 0))),und,und,.v (.agg [.full 0,.full 1,.full 2,.full 3]),boolV y,boolV !y,.v (.agg [.full 0,.full 1,.full 2,.full 3]),.v (.one (.mp 5)),.v (.one (.ptr 7 0)),und,und,und,und,und,und,und,und,und,und,und,und,und,und,und,und,und],[.row yy3 x.1 0,.row yy2 x.2.1 0,.row yy3 x.2.2.1 0,.row yy9 x.2.2.2 0,.cells [.full 0,.full 1,.full 2,.full 3] 26,.hmap es clk,.set 5,.itr 5 6 es clk true yy2 yi l none]⟩
theorem edA_vc (x : MshE) (L : LSpec) (K : Exit → AS → Prop) : codeE ⟨tt,sp_esort,noX,[(0,L)],[],edIts⟩ (bodyOf Try.f11) ⟨argsE edP x ++ List.replicate 29 und,heapE edP x⟩ K =
  (meshis_pre x ∧ ∀ y,y = meshis x → cB (!y) (K .ret ⟨(edT x y).set 3 (intV .i64 1),edHp x⟩) (etable_pre x ∧ ∀ l : MpE,l = etable x → ∀ es clk,L (edS0 x y l es clk) fun e st' => match e with | .normal => codeE ⟨tt,sp_esort,noX,[(0,L)],[],edIts⟩ edC2 st' K | e => K e st')) := by kernel_rfl
theorem edC_vc (out : List EdgeV) (L : LSpec) (K : Exit → AS → Prop) : codeE ⟨tt,sp_esort,noX,[(0,L)],[],edIts⟩ edC2 (edES out) K =
  ob (decide (out.length < 1099511627776)) ((out.map ekey).Nodup ∧ ∀ l',l' = sortE out → K .ret ⟨(((((edES out).tmps.set 27 (.v (.one (.full 0)))).set 28 und).set 29 (.v (.one (.full 0)))).set 2 (.v (.one (.full 0)))).set 3 (intV .i64 0),[.row tE l' 2]⟩) := by kernel_rfl
theorem weak_s0 (x : MshE) (y : Bool) (l : MpE) (es : Array MapEntry) (clk:Nat) : Weak (edS0 x y l es clk) (edCS es clk l none []) :=
 ren_ok (π := [.nil,.same 7,.same 5,.same 6,.nil]) (And.intro rfl (And.intro rfl trivial)) (And.intro ren_nil (And.intro (ren_same rfl rfl) (And.intro (ren_same rfl rfl) (And.intro (ren_same rfl rfl) trivial)))) rfl
theorem edR0 (x : MshE) (y : Bool) (Q : List EdgeV × Int → Prop) (specs : List (Nat × Ev.Spec)) (lp : List (Nat × LSpec)) : resE ⟨tt,specs,noX,lp,[],edIts⟩ Try.f11 ⟨(edT x y).set 3 (intV .i64 1),edHp x⟩ (retE edR Q) = Q ([],1) := by kernel_rfl
theorem edR1 (out l' : List EdgeV) (Q : List EdgeV × Int → Prop) (specs : List (Nat × Ev.Spec)) (lp : List (Nat × LSpec)) : resE ⟨tt,specs,noX,lp,[],edIts⟩ Try.f11 ⟨(((((edES out).tmps.set 27 (.v (.one (.full 0)))).set 28 und).set 29 (.v (.one (.full 0)))).set 2 (.v (.one (.full 0)))).set 3 (intV .i64 0),[.row tE l' 2]⟩ (retE edR Q) = Q (l',0) := by kernel_rfl
def eedges (x : MshE) : List EdgeV × Int := if meshis x = true then (sortE ((etable x).map toE),0) else ([],1)
def eedges_pre (x : MshE) : Prop := meshis_pre x ∧ (meshis x = true → etable_pre x ∧ (etable x).length < 1099511627776 ∧ ((etable x).map (·.1)).Nodup)
abbrev eedges_S : FnS := ⟨edP,edR,eedges_pre,eedges⟩
theorem sortE_perm {a b : List EdgeV} (h : a.Perm b) (hn : (b.map ekey).Nodup) : sortE a = sortE b := by
 have p1 : (sortE a).Perm (sortE b) := (List.mergeSort_perm _ _).trans (h.trans (List.mergeSort_perm _ _).symm)
 have nt : ∀ x y : EdgeV,(!ltE y x) = true ↔ ¬ (y.1 < x.1 ∨ (y.1 = x.1 ∧ y.2.1 < x.2.1)) := fun x y => by
  rw [← ltE_iff]; cases ltE y x <;> simp
 have tot : ∀ x y : EdgeV,(!ltE y x) = true ∨ (!ltE x y) = true := fun x y => by
  rw [nt,nt]; omega
 have tr : ∀ x y z : EdgeV,(!ltE y x) = true → (!ltE z y) = true → (!ltE z x) = true := fun x y z => by
  rw [nt,nt,nt]; omega
 have s1 : (sortE a).Pairwise fun x y => (!ltE y x) = true := List.pairwise_mergeSort (le := fun x y => !ltE y x) (fun x y z => tr x y z) (fun x y => by rcases tot x y with h | h <;> simp [h]) a
 have s2 : (sortE b).Pairwise fun x y => (!ltE y x) = true := List.pairwise_mergeSort (le := fun x y => !ltE y x) (fun x y z => tr x y z) (fun x y => by rcases tot x y with h | h <;> simp [h]) b
 have hnb : ((sortE b).map ekey).Nodup := (((List.mergeSort_perm b _).map ekey).nodup_iff).2 hn
 refine p1.eq_of_pairwise (le := fun x y => (!ltE y x) = true) (fun x y hx hy h1 h2 => ?_) s1 s2
 have hk : ekey x = ekey y := by
  simp only [Bool.not_eq_true',ltE_not] at h1 h2
  unfold ekey
  rw [Prod.mk.injEq]
  exact ⟨by omega,by omega⟩
 have hx' : x ∈ sortE b := p1.subset hx
 have := List.pairwise_iff_getElem.1 hnb
 obtain ⟨i,hi,e1⟩ := List.getElem_of_mem hx'
 obtain ⟨j,hj,e2⟩ := List.getElem_of_mem hy
 have hi2 : i < ((sortE b).map ekey).length := by simpa using hi
 have hj2 : j < ((sortE b).map ekey).length := by simpa using hj
 have f1 : ((sortE b).map ekey)[i] = ekey x := by rw [List.getElem_map,e1]
 have f2 : ((sortE b).map ekey)[j] = ekey y := by rw [List.getElem_map,e2]
 rcases Nat.lt_trichotomy i j with h | h | h
 ·exact absurd (f1.trans (hk.trans f2.symm)) (this i j hi2 hj2 h)
 ·subst h; rw [← e1,e2]
 ·exact absurd (f2.trans (hk.symm.trans f1.symm)) (this j i hj2 hi2 h)
theorem ekey_toE (L : MpE) : (L.map toE).map ekey = L.map (·.1) := by
 rw [List.map_map]; rfl
theorem cB_i {b : Bool} {p q : Prop} (h1 : b = true → p) (h2 : b = false → q) : cB b p q := by
 cases b with
 | true => exact h1 rfl
 | false => exact h2 rfl
theorem eedges_ok : SpecOk Try.prog 11 (fnSpec eedges_S) := by
 refine SpecOk.fnT (fn := Try.f11) (s := eedges_S) tt_ok sp_esort_ok mixed (by kernel_rfl) (by kernel_rfl) rfl fun x hx => ⟨[(0,edSp)],edIts,edIts_ok,?_,?_⟩
 ·exact LpsOk.cons tt_ok (SpecsOk.ctxI sp_esort_ok edIts_ok) mixed LpsOk.nil (by kernel_rfl) (show blkOf 0 (bodyOf Try.f11) = some (.loop edLoop) by kernel_rfl) edSp_ok
 ·obtain ⟨h1,h2⟩ := hx
  have key : codeE ⟨tt,sp_esort,noX,[(0,edSp)],[],edIts⟩ (bodyOf Try.f11) ⟨argsE edP x ++ List.replicate 29 und,heapE edP x⟩ (fun e st => match e with
    | .ret => resE ⟨tt,sp_esort,noX,[(0,edSp)],[],edIts⟩ Try.f11 st (retE edR (· = eedges x))
    | .normal => resE ⟨tt,sp_esort,noX,[(0,edSp)],[],edIts⟩ Try.f11 st (retE edR (· = eedges x))
    | _ => False) := by
   rw [edA_vc]
   refine ⟨h1,fun y hy => ?_⟩
   subst hy
   refine cB_i (fun hm => ?_) fun hm => ?_
   ·have hm : meshis x = false := by simpa using hm
    refine (edR0 x _ _ _ _).mpr ?_
    unfold eedges
    rw [hm,if_neg (by decide)]
   ·have hm : meshis x = true := by simpa using hm
    obtain ⟨h3,h4,h5⟩ := h2 hm
    refine ⟨h3,fun l hl es clk => ⟨es,clk,l,weak_s0 _ _ _ _ _,by rw [hl]; exact h4,fun L' hp => ?_⟩⟩
    subst hl
    have hnd : ((L'.map toE).map ekey).Nodup := by
     rw [ekey_toE]; exact ((hp.map (·.1)).nodup_iff).2 h5
    refine (edC_vc _ _ _).mpr (ob_k (decide_eq_true (by rw [List.length_map,hp.length_eq]; exact h4)) ⟨hnd,fun l' hl' => ?_⟩)
    refine (edR1 _ _ _ _ _).mpr ?_
    unfold eedges
    rw [hm,if_pos rfl,hl',sortE_perm (hp.map toE) (by rw [ekey_toE]; exact h5)]
  exact key
def sp_eedges2 : List (Nat × Ev.Spec) := (11,fnSpec eedges_S) :: sp_esort
theorem sp_eedges2_ok : SpecsOk Try.prog sp_eedges2 := SpecsOk.add (fn := Try.f11) (by kernel_rfl) eedges_ok sp_esort_ok
end Go.Proofs.Ytleemdeodmdnkaa
