/- smudge, by hand: what it is handed is given up. -/
import Derived.Test.YtleemdeodmdnkaaEl
import Derived.Test.YtleemdeodmdnkaaEvD8
import Derived.Test.YtleemdeodmdnkaaPu
noncomputable section
set_option linter.unusedSectionVars false
set_option linter.unusedVariables false
set_option linter.unusedSimpArgs false
namespace Go.Ev
open Go.RowKit
theorem St.lose {bor : Bor} {W w w' : World} {ρ : Env} {Kn : Nat → Prop} {Γ Γ' : HP} (h : St bor W ρ Kn Γ w) (G : List Nat) (hG : ∀ g ∈ G,(Γ g).isSome = true) (hf : Fr { wr := fun b => ∃ g ∈ G,(ρ g).has b } w w') (hs : ∀ m o,Γ' m = some o → m ∉ G ∧ Γ m = some o) : St bor W ρ Kn Γ' w' := by
 have hsm : ∀ m,(Γ' m).isSome = true → m ∉ G ∧ (Γ m).isSome = true := fun m hm => by
  obtain ⟨o,ho⟩ := Option.isSome_iff_exists.1 hm
  exact ⟨(hs m o ho).1,by rw [(hs m o ho).2]; rfl⟩
 have hHI : ∀ b,HI Γ' b → HI Γ b := fun b ⟨m,S,h1,h2⟩ => ⟨m,S,(hs m _ h1).2,h2⟩
 have hL : ∀ b,LO ρ Γ' b → LO ρ Γ b := fun b hb => hb.imp (fun ⟨m,h1,h2⟩ => ⟨m,(hsm m h1).2,h2⟩) (hHI b)
 have hsame : ∀ b,b < w.heap.size → (∀ g ∈ G,¬ (ρ g).has b) → w'.heap[b]? = w.heap[b]? := fun b hb hg => hf.block b hb fun ⟨g,h1,h2⟩ => hg g h1 h2
 have hfz : ∀ b,fzB ρ Γ w b → fzB ρ Γ' w' b ∧ w'.heap[b]? = w.heap[b]? := fun b hb => by
  have e := hsame b hb.1.lt fun g hg h2 => hb.2 (.inl ⟨g,hG g hg,h2⟩)
  exact ⟨⟨hb.1.same e,fun q => hb.2 (hL b q)⟩,e⟩
 refine ⟨⟨hf.os.trans h.fr.os,hf.tape.trans h.fr.tape,hf.output.trans h.fr.output,Nat.le_trans h.fr.size hf.size,fun k hk hn => ?_,Nat.le_trans h.fr.drw hf.drw⟩,fun n o ho => ?_,fun n o ho => h.kn n o (hs n o ho).2,fun n m b hn hm => h.injH n m b (hsm n hn).2 (hsm m hm).2,fun n b hn => h.ownH n b (hsm n hn).2,fun b hb => ?_,fun n o ho => h.noe n o (hs n o ho).2⟩
 ·rw [hf.block k (Nat.lt_of_lt_of_le hk h.fr.size) fun ⟨g,h1,h2⟩ => by
   rcases h.ownH g k (hG g h1) h2 with h3 | h3
   ·omega
   ·exact hn h3]
  exact h.fr.block k hk hn
 ·obtain ⟨h1,h2⟩ := hs n o ho
  refine objAt_keep (Kn := Kn) (h.at_ n o h2) (fun _ _ => rfl) (h.kn n o h2).1 (h.kn n o h2).2 hfz (fun _ _ h => h) fun b hb => hsame b (h.lt n b (by rw [h2]; rfl) hb) fun g hg hgb => h1 ?_
  rw [h.injH n g b (by rw [h2]; rfl) (hG g hg) hb hgb]; exact hg
 ·obtain ⟨h1,h2⟩ := h.hid b (hHI b hb)
  exact ⟨Nat.lt_of_lt_of_le h1 hf.size,fun ⟨m,h3,h4⟩ => h2 ⟨m,(hsm m h3).2,h4⟩⟩
theorem lose_call {P : Program} {tt : List (Nat × TI)} {specs : List (Nat × Spec)} {lp : List (Nat × LSpec)} {bor : Bor} {W w : World} {ρ : Env} {Kn : Nat → Prop} {Γ Γ' : HP} {f : FuncId} {fn : Func} {a b : AV} {o0 o1 p0 p1 : AObj} {g0 g1 : Nat} (hT : TOk P tt) (hS : SpecsOk P specs) (hm : P.follows .mixedOrders = true) (hf : P.funcs[f]? = some fn) (hn : nodupB (ids (bodyOf fn)) = true)
  (hl : LpsOk P noX (bodyOf fn) lp) (hE : fnE ⟨tt,specs,noX,lp,[],[]⟩ fn [a] [o0,o1] (fun v _ => v = .tup [])) (h : St bor W ρ Kn Γ w) (h0 : Γ g0 = some p0) (h1 : Γ g1 = some p1) (hne : g0 ≠ g1) (ho : ∀ S,o0 ≠ .hide S ∧ o1 ≠ .hide S) (hok : o0.ok (· < 2) ∧ o1.ok (· < 2) ∧ a.ok (· < 2))
  (hat : ∀ ρ0 : Env,ρ0 0 = ρ g0 → ρ0 1 = ρ g1 → ∀ fz pm,objAt fz pm ρ0 0 o0 w ∧ objAt fz pm ρ0 1 o1 w ∧ a.conc ρ0 = b.conc ρ) (hno : ((∃ m,o0 = .set m) ∨ (ρ g0).ents = []) ∧ ((∃ m,o1 = .set m) ∨ (ρ g1).ents = []))
  (hs : ∀ m o,Γ' m = some o → m ∉ [g0,g1] ∧ Γ m = some o) : Calls P f ([b].map (AV.conc ρ)).toArray w fun e w' => e = .returned (.tuple #[]) ∧ St bor W ρ Kn Γ' w' := by
 obtain ⟨ρ0,hρ⟩ : ∃ ρ0 : Env,ρ0 = fun i => if i = 0 then ρ g0 else ρ g1 := ⟨_,rfl⟩
 have e0 : ρ0 0 = ρ g0 := by rw [hρ]; rfl
 have e1 : ρ0 1 = ρ g1 := by rw [hρ]; rfl
 have hcase : ∀ i o,liveAt [o0,o1] i = some o → (i = 0 ∧ o = o0) ∨ (i = 1 ∧ o = o1) := fun i o hi => by
  unfold liveAt at hi
  match i with
  | 0 =>
   simp only [List.getElem?_cons_zero] at hi
   split at hi
   ·cases hi
   ·cases hi; exact .inl ⟨rfl,rfl⟩
  | 1 =>
   simp only [List.getElem?_cons_succ,List.getElem?_cons_zero] at hi
   split at hi
   ·cases hi
   ·cases hi; exact .inr ⟨rfl,rfl⟩
  | i + 2 => simp at hi
 have hc1 : ∀ i,(liveAt [o0,o1] i).isSome = true → i = 0 ∨ i = 1 := fun i hi => by
  obtain ⟨o,ho⟩ := Option.isSome_iff_exists.1 hi
  rcases hcase i o ho with ⟨e,_⟩ | ⟨e,_⟩
  ·exact .inl e
  ·exact .inr e
 have hst : St { wr := fun b => ∃ g ∈ [g0,g1],(ρ g).has b } w ρ0 (· < 2) (liveAt [o0,o1]) w := by
  refine ⟨Fr.refl _ _,fun n o hn => ?_,fun n o hn => ?_,fun n m c hn hm hb hc => ?_,fun n c hn hb => .inr ?_,fun c ⟨m,S,h2,_⟩ => ?_,fun n o hn => ?_⟩
  ·rcases hcase n o hn with ⟨rfl,rfl⟩ | ⟨rfl,rfl⟩
   ·exact (hat ρ0 e0 e1 _ _).1
   ·exact (hat ρ0 e0 e1 _ _).2.1
  ·rcases hcase n o hn with ⟨rfl,rfl⟩ | ⟨rfl,rfl⟩
   ·exact ⟨by decide,hok.1⟩
   ·exact ⟨by decide,hok.2.1⟩
  ·rcases hc1 n hn with rfl | rfl <;> rcases hc1 m hm with rfl | rfl
   ·rfl
   ·rw [e0] at hb; rw [e1] at hc
    exact absurd (h.injH g0 g1 c (by rw [h0]; rfl) (by rw [h1]; rfl) hb hc) hne
   ·rw [e1] at hb; rw [e0] at hc
    exact absurd (h.injH g0 g1 c (by rw [h0]; rfl) (by rw [h1]; rfl) hc hb) hne
   ·rfl
  ·rcases hc1 n hn with rfl | rfl
   ·exact ⟨g0,by simp,by rw [← e0]; exact hb⟩
   ·exact ⟨g1,by simp,by rw [← e1]; exact hb⟩
  ·rcases hcase m _ h2 with ⟨_,e⟩ | ⟨_,e⟩
   ·exact absurd e.symm (ho S).1
   ·exact absurd e.symm (ho S).2
  ·rcases hcase n o hn with ⟨rfl,rfl⟩ | ⟨rfl,rfl⟩
   ·rw [e0]; exact hno.1
   ·rw [e1]; exact hno.2
 have key := calls_of_fnE (ctx := ⟨tt,specs,noX,lp,[],[]⟩) hT ⟨hS,YsOk.nil P,ItsOk.nil P _⟩ (noX.ok _ w) hm hf (fun c hc => by
  have : bodyOf fn = c := by unfold bodyOf; rw [hc]
  subst this
  exact lpOk_of (nodupB_spec hn) hl) hE (fun x hx => by rw [List.mem_singleton] at hx; subst hx; exact hok.2.2) hst
 have ea : ([a].map (AV.conc ρ0)).toArray = ([b].map (AV.conc ρ)).toArray := by
  simp only [List.map_cons,List.map_nil,(hat ρ0 e0 e1 (fun _ => True) (fun _ => True)).2.2]
 rw [ea] at key
 refine key.mono ?_
 rintro e w' ⟨st,ρ',v,rfl,_,rfl,hst'⟩
 exact ⟨rfl,h.lose [g0,g1] (fun g hg => by
  simp only [List.mem_cons,List.not_mem_nil,or_false] at hg
  rcases hg with rfl | rfl
  ·rw [h0]; rfl
  ·rw [h1]; rfl) hst'.fr hs⟩
end Go.Ev
namespace Go.Proofs.Ytleemdeodmdnkaa
open Go Go.Ev Go.Proofs
def smB0 : Code := cI (blk 0 (bodyOf Try.f23))
def smB2 : Code := cI (blk 2 (bodyOf Try.f23))
def smX (l : List EdgeV) (i:Int) : List Int := (gd tE l i.toNat).2.2
def d6 (l : List AV) : List AV := .dead :: .dead :: .dead :: .dead :: .dead :: .dead :: l
def d9 : List AV := d6 [.dead,.dead,.dead]
def d23 : List AV := d6 (d6 (d6 [.dead,.dead,.dead,.dead,.dead]))
def smO (l : List EdgeV) (i:Int) (kn : Bool) : AS := ⟨.v (.one (.full 0)) :: .dead :: intV .i64 i :: .dead :: d23,[.dp tE l 1 false kn,.set 0]⟩
def smI (l : List EdgeV) (i k:Int) (kn : Bool) : AS := ⟨.v (.one (.full 0)) :: .dead :: intV .i64 i :: intV .i64 k :: d23,[.dp tE l 1 false kn,.set 0]⟩
def smL (l : List EdgeV) (i:Int) (kn : Bool) : AS := ⟨.v (.one (.full 0)) :: .dead :: intV .i64 i :: intV .i64 0 :: intV .i64 i :: .v (.one (.full 0)) :: intV .i64 (l.length:Nat) :: boolV (decide (i < ((l.length:Nat):Int))) :: .dead :: .dead :: .dead :: .dead :: .dead :: .dead :: .dead :: .dead :: .dead :: .dead :: d9,[.dp tE l 1 false kn,.set 0]⟩
def smM (l : List EdgeV) (i:Int) (kn : Bool) : AS := ⟨.v (.one (.full 0)) :: .dead :: intV .i64 i :: .dead :: intV .i64 i :: .v (.one (.full 0)) :: intV .i64 (l.length:Nat) :: boolV (decide (i < ((l.length:Nat):Int))) :: .dead :: .dead :: .dead :: .dead :: .dead :: .dead :: .dead :: .dead :: .dead :: .dead :: d9,[.dp tE l 1 false kn,.set 0]⟩
def smE (l : List EdgeV) (i k:Int) (kn : Bool) : AS := ⟨.v (.one (.full 0)) :: .dead :: intV .i64 i :: intV .i64 k :: d6 (intV .i64 k :: .v (.one (.full 0)) :: intV .i64 i :: .v (.one (.eptr 0 i.toNat 0)) :: .v (.one (.eptr 0 i.toNat 2)) :: .v (.one (.full 2)) :: intV .i64 ((smX l i).length:Nat) :: boolV (decide (k < (((smX l i).length:Nat):Int))) :: d9),[.dp tE l 1 false kn,.set 0,.nv 0 1 i.toNat 2 (.int .i64)]⟩
def smN (l : List EdgeV) (i k:Int) : AS := ⟨.v (.one (.full 0)) :: .dead :: intV .i64 i :: intV .i64 (IntKind.i64.wrap (k + 1)) :: d6 (intV .i64 k :: .v (.one (.full 0)) :: intV .i64 i :: .v (.one (.eptr 0 i.toNat 0)) :: .v (.one (.eptr 0 i.toNat 2)) :: .v (.one (.full 2)) :: intV .i64 ((smX l i).length:Nat) :: boolV (decide (k < (((smX l i).length:Nat):Int))) ::
 [intV .i64 k,intV .i64 (IntKind.i64.wrap (k + 1)),.v (.one (.full 0)),intV .i64 i,.v (.one (.eptr 0 i.toNat 0)),.v (.one (.eptr 0 i.toNat 2)),.v (.one (.full 3)),intV .i64 k,.v (.one (.eptr 3 k.toNat 0))]),[.dp tE l 4 false false,.gone,.nv 0 1 i.toNat 2 (.int .i64),.gone,.set 0]⟩
def obs (p : Bool) : Nat → Prop → Prop
 | 0,q => q
 | n + 1,q => ob p (obs p n q)
theorem smI_vc (l : List EdgeV) (i k:Int) (kn : Bool) (K : Exit → AS → Prop) : codeE ⟨tt,sp_r14all,noX,[],[],[]⟩ smB2 (smI l i k kn) K =
  ob (inR i l.length) (obs (decide (i.toNat < l.length)) 4 (cB (decide (k < (((smX l i).length:Nat):Int))) (ob (inR i l.length) (obs (decide (i.toNat < l.length)) 4 (ob (inR k (smX l i).length) (ob (decide (i.toNat < l.length)) (ob (decide (k.toNat < (smX l i).length)) (K .normal (smN l i k))))))) (K (.exit 2) (smE l i k kn)))) := by kernel_rfl
def lastC : Code → Code
 | .seq _ b => lastC b
 | c => c
def smR2 : Code := lastC smB0
def smF : AS := ⟨.dead :: .dead :: .dead :: .dead :: d23,[]⟩
def smA (i:Int) (a : AV) (h : List AObj) : AS := ⟨a :: .dead :: intV .i64 (IntKind.i64.wrap (i + 1)) :: .dead :: .dead :: .dead :: .dead :: .dead :: intV .i64 i :: intV .i64 (IntKind.i64.wrap (i + 1)) :: .dead :: .dead :: .dead :: .dead :: .dead :: .dead :: .dead :: .dead :: d9,h⟩
def smS (a : AV) (h : List AObj) : AS := ⟨a :: und :: intV .i64 0 :: List.replicate 24 und,h⟩
theorem smO_vc (l : List EdgeV) (i:Int) (kn : Bool) (L : LSpec) (K : Exit → AS → Prop) : codeE ⟨tt,sp_r14all,noX,[(2,L)],[],[]⟩ smB0 (smO l i kn) K =
  cB (decide (i < ((l.length:Nat):Int))) (L (smL l i kn) (wrapB 1 fun e st' => match e with | .normal => codeE ⟨tt,sp_r14all,noX,[(2,L)],[],[]⟩ smR2 st' K | e => K e st')) (K (.exit 0) (smM l i kn)) := by kernel_rfl
theorem smR_vc (l : List EdgeV) (i:Int) (kn : Bool) (L : LSpec) (K : Exit → AS → Prop) : codeE ⟨tt,sp_r14all,noX,[(2,L)],[],[]⟩ smR2 (smO l i kn) K = K .normal (smA i (.v (.one (.full 0))) [.dp tE l 1 false kn,.set 0]) := by kernel_rfl
theorem smS_vc (l : List EdgeV) (kn : Bool) (L L2 : LSpec) (R : AV → AS → Prop) : fnE ⟨tt,sp_r14all,noX,[(0,L),(2,L2)],[],[]⟩ Try.f23 [.v (.one (.full 0))] [.dp tE l 1 false kn,.set 0] R =
  L (smS (.v (.one (.full 0))) [.dp tE l 1 false kn,.set 0]) (fun e st => match e with | .ret => R (.tup []) st | .normal => R (.tup []) st | _ => False) := by kernel_rfl
def smallE (l : List EdgeV) : Bool := decide (l.length < 4611686018427387904) && l.all fun e => decide (e.2.2.length < 4611686018427387904)
theorem obs_k {p : Bool} (h : p = true) : ∀ (n:Nat) {q : Prop},q → obs p n q
 | 0,_,hq => hq
 | n + 1,_,hq => ob_k h (obs_k h n hq)
theorem cB_j {b : Bool} {p q : Prop} (h1 : b = true → p) (h2 : b = false → q) : cB b p q := by
 cases b with
 | true => exact h1 rfl
 | false => exact h2 rfl
theorem wrap_ok {k : Int} (h1 : 0 ≤ k) (h2 : k < 4611686018427387904) : IntKind.i64.wrap (k + 1) = k + 1 := by rw [IntKind.wrap_i64]; omega
theorem wrapB_n {id : Nat} {K : Exit → AS → Prop} {s : AS} : wrapB id K .normal s = K .normal s := rfl
def siS : LSpec := fun st K => ∃ l i kn,Weak st (smI l i 0 kn) ∧ smallE l = true ∧ 0 ≤ i ∧ i < ((l.length:Nat):Int) ∧ ∀ kn',K .normal (smO l i kn')
def soS : LSpec := fun st K => ∃ l kn,Weak st (smO l 0 kn) ∧ smallE l = true ∧ K .normal smF
theorem smX_len {l : List EdgeV} (h : smallE l = true) (i:Int) : (smX l i).length < 4611686018427387904 := by
 unfold smallE at h
 simp only [Bool.and_eq_true,List.all_eq_true,decide_eq_true_eq] at h
 unfold smX gd
 rcases Nat.lt_or_ge i.toNat l.length with h1 | h1
 ·have e : l.getD i.toNat (Ty.d tE) = l[i.toNat] := by rw [List.getD_eq_getElem?_getD,List.getElem?_eq_getElem h1]; rfl
  rw [e]
  exact h.2 _ (List.getElem_mem h1)
 ·have e : l.getD i.toNat (Ty.d tE) = Ty.d tE := by rw [List.getD_eq_getElem?_getD,List.getElem?_eq_none h1]; rfl
  rw [e]; decide
theorem weak_smN (l : List EdgeV) (i k:Int) : Weak (smN l i k) (smI l i (IntKind.i64.wrap (k + 1)) false) := ren_ok (π := [.same 0,.same 4]) (And.intro rfl (And.intro rfl (And.intro rfl trivial))) (And.intro (ren_same rfl rfl) (And.intro (ren_same rfl rfl) trivial)) rfl
theorem weak_smE (l : List EdgeV) (i k:Int) (kn : Bool) : Weak (smE l i k kn) (smO l i kn) := ren_ok (π := [.same 0,.same 1]) (And.intro rfl (And.intro rfl trivial)) (And.intro (ren_same rfl rfl) (And.intro (ren_same rfl rfl) trivial)) rfl
theorem weak_smL (l : List EdgeV) (i:Int) (kn : Bool) : Weak (smL l i kn) (smI l i 0 kn) := ren_ok (π := [.same 0,.same 1]) (And.intro rfl (And.intro rfl (And.intro rfl trivial))) (And.intro (ren_same rfl rfl) (And.intro (ren_same rfl rfl) trivial)) rfl
theorem weak_smM (l : List EdgeV) (i:Int) (kn : Bool) : Weak (smM l i kn) smF := ren_ok (π := []) trivial trivial rfl
theorem weak_smA (l : List EdgeV) (i:Int) (kn : Bool) : Weak (smA i (.v (.one (.full 0))) [.dp tE l 1 false kn,.set 0]) (smO l (IntKind.i64.wrap (i + 1)) kn) := ren_ok (π := [.same 0,.same 1]) (And.intro rfl (And.intro rfl trivial)) (And.intro (ren_same rfl rfl) (And.intro (ren_same rfl rfl) trivial)) rfl
theorem weak_smS (l : List EdgeV) (kn : Bool) : Weak (smS (.v (.one (.full 0))) [.dp tE l 1 false kn,.set 0]) (smO l 0 kn) := ren_ok (π := [.same 0,.same 1]) (And.intro rfl (And.intro rfl trivial)) (And.intro (ren_same rfl rfl) (And.intro (ren_same rfl rfl) trivial)) rfl
theorem siS_ok (st : AS) (K : Exit → AS → Prop) (h : siS st K) : codeE ⟨tt,sp_r14all,noX,[],[],[]⟩ (.loop smB2) st (wrapB 2 (orWeak K)) := by
 obtain ⟨l,i,kn0,hw,hl,hi0,hi,hK⟩ := h
 have hx := smX_len hl i
 have hir : inR i l.length = true := by unfold inR; simp [hi0,hi]
 have hin : decide (i.toNat < l.length) = true := decide_eq_true (by omega)
 refine ⟨fun m st => ∃ k kn,st = smI l i k kn ∧ 0 ≤ k ∧ k ≤ (((smX l i).length:Nat):Int) ∧ m = (((smX l i).length:Nat) - k).toNat,⟨_,_,hw,0,kn0,rfl,by omega,by omega,rfl⟩,?_⟩
 rintro m st1 ⟨k,kn,rfl,hk0,hk1,rfl⟩
 rw [smI_vc]
 refine ob_k hir (obs_k hin _ (cB_j (fun hc => ?_) fun _ => ?_))
 ·have hc : k < (((smX l i).length:Nat):Int) := by simpa using hc
  refine ob_k hir (obs_k hin _ (ob_k (by unfold inR; simp [hk0,hc]) (ob_k hin (ob_k (decide_eq_true (by omega)) ?_))))
  refine ⟨_,_,?_,weak_smN l i k,IntKind.i64.wrap (k + 1),false,rfl,?_,?_,rfl⟩
  all_goals rw [wrap_ok hk0 (by omega)]; omega
 ·exact ⟨_,weak_smE l i k kn,hK kn⟩
theorem soS_ok (st : AS) (K : Exit → AS → Prop) (h : soS st K) : codeE ⟨tt,sp_r14all,noX,[(2,siS)],[],[]⟩ (.loop smB0) st (wrapB 0 (orWeak K)) := by
 obtain ⟨l,kn0,hw,hl,hK⟩ := h
 have hll : l.length < 4611686018427387904 := by
  unfold smallE at hl
  simp only [Bool.and_eq_true,decide_eq_true_eq] at hl
  exact hl.1
 refine ⟨fun m st => ∃ i kn,st = smO l i kn ∧ 0 ≤ i ∧ i ≤ ((l.length:Nat):Int) ∧ m = (((l.length:Nat):Int) - i).toNat,⟨_,_,hw,0,kn0,rfl,by omega,by omega,rfl⟩,?_⟩
 rintro m st1 ⟨i,kn,rfl,hi0,hi1,rfl⟩
 rw [smO_vc]
 refine cB_j (fun hc => ?_) fun _ => ?_
 ·have hc : i < ((l.length:Nat):Int) := by simpa using hc
  refine ⟨l,i,kn,weak_smL l i kn,hl,hi0,hc,fun kn' => ?_⟩
  rw [wrapB_n]
  dsimp only
  rw [smR_vc]
  refine ⟨_,_,?_,weak_smA l i kn',IntKind.i64.wrap (i + 1),kn',rfl,?_,?_,rfl⟩
  all_goals rw [wrap_ok hi0 (by omega)]; omega
 ·exact ⟨_,weak_smM l i kn,hK⟩
def smP (a b i:Int) (v : List Int) : AS := ⟨.v (.one (.sl 0 0 1 1)) :: .dead :: intV .i64 i :: .dead :: d23,[.cells [.raw (.int .i64 a),.raw (.int .i64 b),.full 1] 39,.row (.int .i64) v 2]⟩
def smPI (a b i k:Int) (v : List Int) : AS := ⟨.v (.one (.sl 0 0 1 1)) :: .dead :: intV .i64 i :: intV .i64 k :: d23,[.cells [.raw (.int .i64 a),.raw (.int .i64 b),.full 1] 39,.row (.int .i64) v 2]⟩
def smPL (a b i:Int) (v : List Int) : AS := ⟨.v (.one (.sl 0 0 1 1)) :: .dead :: intV .i64 i :: intV .i64 0 :: intV .i64 i :: .v (.one (.sl 0 0 1 1)) :: intV .i64 1 :: boolV (decide (i < 1)) :: .dead :: .dead :: .dead :: .dead :: .dead :: .dead :: .dead :: .dead :: .dead :: .dead :: d9,[.cells [.raw (.int .i64 a),.raw (.int .i64 b),.full 1] 39,.row (.int .i64) v 2]⟩
def smPM (a b i:Int) (v : List Int) : AS := ⟨.v (.one (.sl 0 0 1 1)) :: .dead :: intV .i64 i :: .dead :: intV .i64 i :: .v (.one (.sl 0 0 1 1)) :: intV .i64 1 :: boolV (decide (i < 1)) :: .dead :: .dead :: .dead :: .dead :: .dead :: .dead :: .dead :: .dead :: .dead :: .dead :: d9,[.cells [.raw (.int .i64 a),.raw (.int .i64 b),.full 1] 39,.row (.int .i64) v 2]⟩
def smPE (a b i k:Int) (v : List Int) : AS := ⟨.v (.one (.sl 0 0 1 1)) :: .dead :: intV .i64 i :: intV .i64 k :: d6 (intV .i64 k :: .v (.one (.sl 0 0 1 1)) :: intV .i64 i :: .v (.one (.ptr 0 0)) :: .v (.one (.ptr 0 2)) :: .v (.one (.full 1)) :: intV .i64 (v.length:Nat) :: boolV (decide (k < ((v.length:Nat):Int))) :: d9),[.cells [.raw (.int .i64 a),.raw (.int .i64 b),.full 1] 39,.row (.int .i64) v 2]⟩
def smPN (a b i k:Int) (v l' : List Int) : AS := ⟨.v (.one (.sl 0 0 1 1)) :: .dead :: intV .i64 i :: intV .i64 (IntKind.i64.wrap (k + 1)) :: d6 (intV .i64 k :: .v (.one (.sl 0 0 1 1)) :: intV .i64 i :: .v (.one (.ptr 0 0)) :: .v (.one (.ptr 0 2)) :: .v (.one (.full 1)) :: intV .i64 (v.length:Nat) :: boolV (decide (k < ((v.length:Nat):Int))) ::
 [intV .i64 k,intV .i64 (IntKind.i64.wrap (k + 1)),.v (.one (.sl 0 0 1 1)),intV .i64 i,.v (.one (.ptr 0 0)),.v (.one (.ptr 0 2)),.v (.one (.full 1)),intV .i64 k,.v (.one (.eptr 1 k.toNat 0))]),[.cells [.raw (.int .i64 a),.raw (.int .i64 b),.full 1] 39,.row (.int .i64) l' 2]⟩
theorem smPI_vc (a b i k:Int) (v : List Int) (K : Exit → AS → Prop) : codeE ⟨tt,sp_r14all,noX,[],[],[]⟩ smB2 (smPI a b i k v) K =
  ob (inR i 1) (cB (decide (k < ((v.length:Nat):Int))) (ob (inR i 1) (ob (inR k v.length) (obs (decide (k.toNat < v.length)) 2 (True ∧ ∀ l' : List Int,l' = v.set k.toNat 77 → K .normal (smPN a b i k v l'))))) (K (.exit 2) (smPE a b i k v))) := by kernel_rfl
theorem smP_vc (a b i:Int) (v : List Int) (L : LSpec) (K : Exit → AS → Prop) : codeE ⟨tt,sp_r14all,noX,[(2,L)],[],[]⟩ smB0 (smP a b i v) K =
  cB (decide (i < 1)) (L (smPL a b i v) (wrapB 1 fun e st' => match e with | .normal => codeE ⟨tt,sp_r14all,noX,[(2,L)],[],[]⟩ smR2 st' K | e => K e st')) (K (.exit 0) (smPM a b i v)) := by kernel_rfl
theorem smPR_vc (a b i:Int) (v : List Int) (L : LSpec) (K : Exit → AS → Prop) : codeE ⟨tt,sp_r14all,noX,[(2,L)],[],[]⟩ smR2 (smP a b i v) K = K .normal (smA i (.v (.one (.sl 0 0 1 1))) (smP a b i v).heap) := by kernel_rfl
theorem smPS_vc (a b:Int) (v : List Int) (L L2 : LSpec) (R : AV → AS → Prop) : fnE ⟨tt,sp_r14all,noX,[(0,L),(2,L2)],[],[]⟩ Try.f23 [.v (.one (.sl 0 0 1 1))] (smP a b 0 v).heap R =
  L (smS (.v (.one (.sl 0 0 1 1))) (smP a b 0 v).heap) (fun e st => match e with | .ret => R (.tup []) st | .normal => R (.tup []) st | _ => False) := by kernel_rfl
def siP : LSpec := fun st K => ∃ a b i v,Weak st (smPI a b i 0 v) ∧ v.length < 4611686018427387904 ∧ i = 0 ∧ ∀ v' : List Int,v'.length = v.length → K .normal (smP a b i v')
def soP : LSpec := fun st K => ∃ a b v,Weak st (smP a b 0 v) ∧ v.length < 4611686018427387904 ∧ K .normal smF
theorem weak_smPN (a b i k:Int) (v l' : List Int) : Weak (smPN a b i k v l') (smPI a b i (IntKind.i64.wrap (k + 1)) l') := ren_ok (π := [.same 0,.same 1]) (And.intro rfl (And.intro rfl (And.intro rfl trivial))) (And.intro (ren_same rfl rfl) (And.intro (ren_same rfl rfl) trivial)) rfl
theorem weak_smPE (a b i k:Int) (v : List Int) : Weak (smPE a b i k v) (smP a b i v) := ren_ok (π := [.same 0,.same 1]) (And.intro rfl (And.intro rfl trivial)) (And.intro (ren_same rfl rfl) (And.intro (ren_same rfl rfl) trivial)) rfl
theorem weak_smPL (a b i:Int) (v : List Int) : Weak (smPL a b i v) (smPI a b i 0 v) := ren_ok (π := [.same 0,.same 1]) (And.intro rfl (And.intro rfl (And.intro rfl trivial))) (And.intro (ren_same rfl rfl) (And.intro (ren_same rfl rfl) trivial)) rfl
theorem weak_smPM (a b i:Int) (v : List Int) : Weak (smPM a b i v) smF := ren_ok (π := []) trivial trivial rfl
theorem weak_smPA (a b i:Int) (v : List Int) : Weak (smA i (.v (.one (.sl 0 0 1 1))) (smP a b i v).heap) (smP a b (IntKind.i64.wrap (i + 1)) v) := ren_ok (π := [.same 0,.same 1]) (And.intro rfl (And.intro rfl trivial)) (And.intro (ren_same rfl rfl) (And.intro (ren_same rfl rfl) trivial)) rfl
theorem weak_smPS (a b:Int) (v : List Int) : Weak (smS (.v (.one (.sl 0 0 1 1))) (smP a b 0 v).heap) (smP a b 0 v) := ren_ok (π := [.same 0,.same 1]) (And.intro rfl (And.intro rfl trivial)) (And.intro (ren_same rfl rfl) (And.intro (ren_same rfl rfl) trivial)) rfl
theorem siP_ok (st : AS) (K : Exit → AS → Prop) (h : siP st K) : codeE ⟨tt,sp_r14all,noX,[],[],[]⟩ (.loop smB2) st (wrapB 2 (orWeak K)) := by
 obtain ⟨a,b,i,v,hw,hl,rfl,hK⟩ := h
 refine ⟨fun m st => ∃ k v',st = smPI a b 0 k v' ∧ 0 ≤ k ∧ k ≤ ((v.length:Nat):Int) ∧ v'.length = v.length ∧ m = (((v.length:Nat):Int) - k).toNat,⟨_,_,hw,0,v,rfl,by omega,by omega,rfl,rfl⟩,?_⟩
 rintro m st1 ⟨k,v',rfl,hk0,hk1,hv,rfl⟩
 rw [smPI_vc]
 refine ob_k rfl (cB_j (fun hc => ?_) fun _ => ?_)
 ·have hc : k < ((v'.length:Nat):Int) := by simpa using hc
  refine ob_k rfl (ob_k (by unfold inR; simp [hk0,hc]) (obs_k (decide_eq_true (by omega)) _ ⟨trivial,fun l' hl' => ?_⟩))
  subst hl'
  refine ⟨_,_,?_,weak_smPN a b 0 k v' _,IntKind.i64.wrap (k + 1),_,rfl,?_,?_,by rw [List.length_set]; exact hv,rfl⟩
  all_goals rw [wrap_ok hk0 (by omega)]; omega
 ·exact ⟨_,weak_smPE a b 0 k v',hK v' hv⟩
theorem soP_ok (st : AS) (K : Exit → AS → Prop) (h : soP st K) : codeE ⟨tt,sp_r14all,noX,[(2,siP)],[],[]⟩ (.loop smB0) st (wrapB 0 (orWeak K)) := by
 obtain ⟨a,b,v,hw,hl,hK⟩ := h
 refine ⟨fun m st => ∃ i v',st = smP a b i v' ∧ v'.length = v.length ∧ ((i = 0 ∧ m = 1) ∨ (i = 1 ∧ m = 0)),⟨_,_,hw,0,v,rfl,rfl,.inl ⟨rfl,rfl⟩⟩,?_⟩
 rintro m st1 ⟨i,v',rfl,hv,hi⟩
 rw [smP_vc]
 rcases hi with ⟨rfl,rfl⟩ | ⟨rfl,rfl⟩
 ·refine ⟨a,b,0,v',weak_smPL a b 0 v',by omega,rfl,fun v2 hv2 => ?_⟩
  rw [wrapB_n]
  dsimp only
  rw [smPR_vc]
  exact ⟨0,_,by omega,weak_smPA a b 0 v2,1,v2,rfl,by omega,.inr ⟨rfl,rfl⟩⟩
 ·exact ⟨_,weak_smPM a b 1 v',hK⟩
def smudgeSpec : Ev.Spec := fun _ args hp nm k => match args with
 | [.v (.one (.full n))] => match hp n with
  | some (.dp (.prod (.int .i64) (.prod (.int .i64) (.sl (.int .i64)))) l c false _) => if isSetO (hp c) = true then ob (smallE l) (k { val := und,writes := [(n,.gone),(c,.gone)],touch := [n,c] }) else False
  | _ => False
 | [.v (.one (.sl m 0 1 1))] => match hp m with
  | some (.cells [.raw (.int .i64 _),.raw (.int .i64 _),.full q] e) => match hp q with
   | some (.row (.int .i64) v rk) => if e = 39 ∧ rk ≠ 0 ∧ rk ≠ 3 then ob (decide (v.length < 4611686018427387904)) (k { val := und,writes := [(m,.gone),(q,.gone)],touch := [m,q] }) else False
   | _ => False
  | _ => False
 | _ => False
theorem lose_app {Γ : HP} {nm g0 g1 : Nat} : ∀ m o,appH { val := und,writes := [(g0,.gone),(g1,.gone)],touch := [g0,g1] } nm Γ m = some o → m ∉ [g0,g1] ∧ Γ m = some o := by
 intro m o h
 simp only [appH,lastW,List.length_nil] at h
 rw [if_neg (by omega)] at h
 by_cases h1 : g1 = m
 ·simp [h1,live] at h
 ·by_cases h0 : g0 = m
  ·simp [h1,h0,live] at h
  ·simp [h1,h0] at h
   exact ⟨by simp [Ne.symm h0,Ne.symm h1],h⟩
theorem sm_lps {o i : LSpec} (ho : ∀ st K,o st K → codeE ⟨tt,sp_r14all,noX,[(2,i)],[],[]⟩ (.loop smB0) st (wrapB 0 (orWeak K))) (hi : ∀ st K,i st K → codeE ⟨tt,sp_r14all,noX,[],[],[]⟩ (.loop smB2) st (wrapB 2 (orWeak K))) : LpsOk Try.prog noX (bodyOf Try.f23) [(0,o),(2,i)] :=
 LpsOk.cons tt_ok (SpecsOk.ctx sp_r14all_ok) mixed (LpsOk.cons tt_ok (SpecsOk.ctx sp_r14all_ok) mixed LpsOk.nil (by kernel_rfl) (show blkOf 2 (bodyOf Try.f23) = some (.loop smB2) by kernel_rfl) hi) (by kernel_rfl) (show blkOf 0 (bodyOf Try.f23) = some (.loop smB0) by kernel_rfl) ho
theorem smudge_ok : SpecOk Try.prog 23 smudgeSpec := by
 intro X args hp nm k h
 unfold smudgeSpec at h
 split at h
 ·rename_i n
  split at h <;> try (exact h.elim)
  rename_i l c kn hn
  split at h <;> try (exact h.elim)
  rename_i hset
  obtain ⟨g,hc⟩ := isSetO_spec hset
  replace h := ob_spec h
  obtain ⟨hl,h⟩ := h
  have hne : n ≠ c := by rintro rfl; rw [hn] at hc; cases hc
  refine ⟨_,⟨fun p hp' => ?_,?_⟩,h⟩
  ·simp only [List.mem_cons,List.not_mem_nil,or_false] at hp'
   rcases hp' with rfl | rfl
   ·rw [hn]; exact fun h => by cases h
   ·rw [hc]; exact fun h => by cases h
  intro bor W ρ Kn Γ w _ _ ht _ hst
  have hΓn : Γ n = some (.dp tE l c false kn) := by rw [ht n (by simp),hn]
  have hΓc : Γ c = some (.set g) := by rw [ht c (by simp),hc]
  refine (lose_call (a := .v (.one (.full 0))) (b := .v (.one (.full n))) (o0 := .dp tE l 1 false kn) (o1 := .set 0) tt_ok sp_r14all_ok mixed (fn := Try.f23) (by kernel_rfl) (by kernel_rfl) (sm_lps soS_ok siS_ok) ((smS_vc l kn soS siS _).mpr ⟨l,kn,weak_smS l kn,hl,rfl⟩) hst hΓn hΓc hne (fun S => ⟨fun h => (by cases h),fun h => (by cases h)⟩) ⟨(by decide : 1 < 2),(by decide : 0 < 2),(by decide : 0 < 2)⟩ (fun ρ0 h0 h1 fz pm => ?_) ⟨.inr ((hst.noe n _ hΓn).resolve_left fun ⟨_,e⟩ => (by cases e)),.inl ⟨_,rfl⟩⟩ (lose_app (nm := nm))).mono ?_
  ·refine ⟨?_,?_,by simp only [AV.conc,A0.conc,Cell.conc,h0]⟩
   ·have := hst.at_ n _ hΓn
    rw [objAt] at this ⊢
    rw [h0,h1]; exact this
   ·have := hst.at_ c _ hΓc
    rw [objAt] at this ⊢
    rw [h1]; exact this
  ·rintro e w' ⟨rfl,hst'⟩
   exact ⟨ρ,rfl,fun _ _ => rfl,und_ok _,by rw [knR_nil]; exact hst'⟩
 ·rename_i m
  split at h <;> try (exact h.elim)
  rename_i a b q e hm
  split at h <;> try (exact h.elim)
  rename_i v rk hq
  split at h <;> try (exact h.elim)
  rename_i hrk
  obtain ⟨rfl,hrk⟩ := hrk
  replace h := ob_spec h
  obtain ⟨hl,h⟩ := h
  have hl := of_decide_eq_true hl
  have hne : m ≠ q := by rintro rfl; rw [hm] at hq; cases hq
  refine ⟨_,⟨fun p hp' => ?_,?_⟩,h⟩
  ·simp only [List.mem_cons,List.not_mem_nil,or_false] at hp'
   rcases hp' with rfl | rfl
   ·rw [hm]; exact fun h => by cases h
   ·rw [hq]; exact fun h => by cases h
  intro bor W ρ Kn Γ w _ _ ht _ hst
  have hΓm := (ht m (by simp)).trans hm
  have hΓq := (ht q (by simp)).trans hq
  refine (lose_call (a := .v (.one (.sl 0 0 1 1))) (b := .v (.one (.sl m 0 1 1))) (o0 := .cells [.raw (.int .i64 a),.raw (.int .i64 b),.full 1] 39) (o1 := .row (.int .i64) v 2) tt_ok sp_r14all_ok mixed (fn := Try.f23) (by kernel_rfl) (by kernel_rfl) (sm_lps soP_ok siP_ok) ((smPS_vc a b v soP siP _).mpr ⟨a,b,v,weak_smPS a b v,hl,rfl⟩) hst hΓm hΓq hne (fun S => ⟨fun h => (by cases h),fun h => (by cases h)⟩) ⟨?_,trivial,?_⟩ (fun ρ0 h0 h1 fz pm => ?_) ⟨.inr ((hst.noe m _ hΓm).resolve_left fun ⟨_,e⟩ => (by cases e)),.inr ((hst.noe q _ hΓq).resolve_left fun ⟨_,e⟩ => (by cases e))⟩ (lose_app (nm := nm))).mono ?_
  ·intro c hc
   simp only [List.mem_cons,List.not_mem_nil,or_false] at hc
   rcases hc with rfl | rfl | rfl
   ·trivial
   ·trivial
   ·exact (by decide : 1 < 2)
  ·exact (by decide : 0 < 2)
  ·refine ⟨?_,?_,by simp only [AV.conc,A0.conc,Cell.conc,addrOf,h0]⟩
   ·obtain ⟨bb,hb,hh⟩ := hst.at_ m _ hΓm
    exact ⟨bb,by rw [h0]; exact hb,by rw [hh]; simp only [List.map_cons,List.map_nil,Cell.conc,h1]⟩
   ·obtain ⟨g1,g2,g3,sub,g4,g5,g6,g7⟩ := hst.at_ q _ hΓq
    rw [objAt,h1]
    refine ⟨g1,g2,g3,sub,fun i x hi => ?_,fun j u' l' hj => ?_,fun e => absurd e (by decide),fun _ => (g7 hrk.1).to fun e => absurd e hrk.2⟩
    ·obtain ⟨a,e1,e2,_⟩ := g4 i x hi
     exact ⟨a,e1,e2,fun e => absurd e (by decide)⟩
    ·obtain ⟨v,hv⟩ := flat_row (t := .int .i64) rfl (List.mem_of_getElem? hj)
     cases hv
  ·rintro e w' ⟨rfl,hst'⟩
   exact ⟨ρ,rfl,fun _ _ => rfl,und_ok _,by rw [knR_nil]; exact hst'⟩
 ·exact h.elim
end Go.Proofs.Ytleemdeodmdnkaa
