/- Plain laws: shelves: what is packed. -/
import Derived.Test.YtbjfokijjefoeaaBa
namespace Go.Proofs.Ytbjfokijjefoeaa
open Go Go.Ev Go.Proofs
set_option linter.unusedVariables false
set_option linter.unusedSimpArgs false
abbrev Rct : Type := Int × (Int × (Int × Int))
abbrev zR : Rct := (0,(0,(0,0)))
def SkyH (w:Nat) (h:Int) (s : List Int) : Prop := s.length = w ∧ ∀ v ∈ s,0 ≤ v ∧ v ≤ h
theorem SkyH.sky {w : Nat} {h : Int} {s : List Int} (hs : SkyH w h s) (hw : w ≤ 256) (hh : h ≤ 256) : Sky s := ⟨by rw [hs.1]; exact hw,fun v hv => by have := hs.2 v hv; omega⟩
noncomputable def fnd (s : List Int) (p : Int × Int) (h:Int) : Int × (Int × Bool) := sfind (s,(p.1,(p.2,h)))
structure Fnd (s : List Int) (p : Int × Int) (h:Int) (w:Nat) (a low:Int) : Prop where
 a0 : 0 ≤ a
 aw : a + p.1 ≤ w
 l0 : 0 ≤ low
 lh : low + p.2 ≤ h
 eq : low = hi s p.1.toNat a.toNat
 least : ∀ x : Nat,(x:Int) + p.1 ≤ w → hi s p.1.toNat x + p.2 ≤ h → low ≤ hi s p.1.toNat x ∧ (x < a.toNat → low < hi s p.1.toNat x)
theorem fnd_law {w : Nat} {h : Int} {s : List Int} (hs : SkyH w h s) (hw : w ≤ 256) (hh : h ≤ 256) {p : Int × Int} (hp : In1 p.1 ∧ In1 p.2) :
  sfind_pre (s,(p.1,(p.2,h))) ∧ ((fnd s p h).2.2 = true → Fnd s p h w (fnd s p h).1 (fnd s p h).2.1) ∧ ((fnd s p h).2.2 = false → (fnd s p h).1 = 0 ∧ (fnd s p h).2.1 = 0 ∧ ∀ x : Nat,(x:Int) + p.1 ≤ w → ¬ hi s p.1.toNat x + p.2 ≤ h) := by
 have hS := hs.sky hw hh
 obtain ⟨⟨p1,p2⟩,q1,q2⟩ := hp
 have e : ((p.1.toNat:Nat):Int) = p.1 := by omega
 have hlen := hs.1
 have := sfind_law hS (w := p.1.toNat) (by omega) (by omega) (h := p.2) ⟨by omega,by omega⟩ h
 rw [e] at this
 refine ⟨this.1,fun q => ?_,fun q => ?_⟩
 ·obtain ⟨r1,r2,r3,r4,r5⟩ := this.2.1 q
  have hin := hi_in hS (w := p.1.toNat) (x := (fnd s p h).1.toNat) (by omega) (by unfold fnd; omega)
  refine ⟨r1,by unfold fnd; omega,?_,r4,r3,fun x hx hm => r5 x (by omega) hm⟩
  rw [show (fnd s p h).2.1 = hi s p.1.toNat (fnd s p h).1.toNat from r3]; exact hin.1
 ·obtain ⟨r1,r2,r3⟩ := this.2.2 q
  exact ⟨r1,r2,fun x hx => r3 x (by omega)⟩
noncomputable def packL (h:Int) : List Int → List (Int × Int) → Option (List Rct)
 | _,[] => some []
 | s,p :: r => if (fnd s p h).2.2 = true then (match packL h (rise s (fnd s p h).1.toNat p.1.toNat ((fnd s p h).2.1 + p.2)) r with
  | some q => some (((fnd s p h).1,((fnd s p h).2.1,p)) :: q)
  | none => none) else none
theorem SkyH.rise {w : Nat} {h : Int} {s : List Int} (hs : SkyH w h s) {p : Int × Int} (hp : In1 p.1 ∧ In1 p.2) {a low : Int} (hf : Fnd s p h w a low) : SkyH w h (rise s a.toNat p.1.toNat (low + p.2)) := by
 have h1 := hf.a0
 have h2 := hf.aw
 have h3 := hf.l0
 have h4 := hf.lh
 obtain ⟨⟨p1,p2⟩,q1,q2⟩ := hp
 have hlen := hs.1
 refine ⟨by rw [rise_len _ _ _ _ (by omega)]; exact hlen,fun v hv => ?_⟩
 rcases rise_mem hv with hv | hv
 ·exact hs.2 v hv
 ·omega
theorem poddc_law (p : Int × Int) : poddc_pre p ∧ (poddc p = false ↔ In1 p.1 ∧ In1 p.2) := by
 have h := swithin_law [p.1,p.2] (by simp)
 refine ⟨h.1,?_⟩
 unfold poddc letV
 rw [Bool.not_eq_false',h.2]
 simp
theorem containsP_law (l : List (Int × Int)) (hl : l.length < 4611686018427387904) : containsP_pre (l,false) ∧ containsP (l,false) = l.any poddc := by
 have h := index_loop l hl poddc (indexP_l0_step (l,false)) (indexP_l0_pre (l,false)) (fun i hi => by
   unfold indexP_l0_pre
   intro h
   simp only [Int.toNat_natCast]
   exact ⟨by dsimp only at h ⊢; omega,by dsimp only at h ⊢; omega,by dsimp only at h ⊢; omega,(poddc_law _).1⟩) (fun i x hx => by
   have hlt := lt_of_get hx
   unfold indexP_l0_step letV
   rw [if_pos (by dsimp only; omega),Int.toNat_natCast]
   dsimp only
   rw [getD_of hx]) (by
   unfold indexP_l0_step
   rw [if_neg (by dsimp only; omega)])
 refine ⟨h.1,?_⟩
 have e : indexP (l,false) = _ := h.2
 unfold containsP letV
 dsimp only
 rw [e]
 exact find_any l poddc
theorem pack_loop {w : Nat} {h : Int} (hw : w ≤ 256) (hh : h ≤ 256) (w':Int) (l : List (Int × Int)) (hl : l.length < 1099511627776) (hin : ∀ p ∈ l,In1 p.1 ∧ In1 p.2) :
  ∀ k i,i + k = l.length → ∀ (s : List Int) (out : List Rct),SkyH w h s → out.length = i → TR (pack_l0_step (w',(h,l))) (pack_l0_pre (w',(h,l))) (s,(out,(i:Int))) fun r => r = (match packL h s (l.drop i) with | some q => .inr (out ++ q) | none => .inl ()) := by
 intro k
 induction k with
 | zero =>
  intro i e s out hs ho
  have : i = l.length := by omega
  subst this
  refine TR.stop (r := .inr out) ?_ ?_ ?_
  ·unfold pack_l0_pre
   intro q
   dsimp only at q; omega
  ·unfold pack_l0_step
   dsimp only
   rw [if_neg (by omega)]
  ·rw [List.drop_length]; simp [packL]
 | succ k ih =>
  intro i e s out hs ho
  have hlt : i < l.length := by omega
  have hp := hin _ (getD_in hlt (0,0))
  have hd : l.drop i = l.getD i (0,0) :: l.drop (i + 1) := by
   rw [List.drop_eq_getElem_cons hlt,List.getD_eq_getElem?_getD,List.getElem?_eq_getElem hlt]; rfl
  rw [hd]
  generalize l.getD i (0,0) = p at hp hd
  have hgp : l.getD i (0,0) = p := by
   rw [List.getD_eq_getElem?_getD,← List.head?_drop,hd]; rfl
  obtain ⟨g1,g2,g3⟩ := fnd_law hs hw hh hp
  have hst : pack_l0_step (w',(h,l)) (s,(out,(i:Int))) = if (!(fnd s p h).2.2) = true then .inr (.inl ()) else .inl ((srise (s,((fnd s p h).1,(p.1,w64 ((fnd s p h).2.1 + p.2))))).2.1,(out ++ [((fnd s p h).1,((fnd s p h).2.1,p))],w64 ((i:Int) + 1))) := by
   unfold pack_l0_step letV
   dsimp only
   rw [if_pos (by omega),Int.toNat_natCast,hgp]
   rfl
  have hpr : ((fnd s p h).2.2 = true → srise_pre (s,((fnd s p h).1,(p.1,w64 ((fnd s p h).2.1 + p.2)))) ) → pack_l0_pre (w',(h,l)) (s,(out,(i:Int))) := fun hq => by
   unfold pack_l0_pre letP
   intro _
   dsimp only
   rw [Int.toNat_natCast,hgp]
   refine ⟨by omega,hlt,hlt,g1,fun q => ⟨hq ?_,by omega⟩⟩
   have : (!(fnd s p h).2.2) ≠ true := q
   simpa using this
  cases hf : (fnd s p h).2.2 with
  | false =>
   refine TR.stop (r := .inl ()) (hpr fun q => by rw [hf] at q; cases q) ?_ ?_
   ·rw [hst,hf]; rfl
   ·simp [packL,hf]
  | true =>
   have hF := g2 hf
   have h1 := hF.a0
   have h2 := hF.aw
   have h3 := hF.l0
   have h4 := hF.lh
   obtain ⟨⟨p1,p2⟩,q1,q2⟩ := hp
   have hlen := hs.1
   have ea : (((fnd s p h).1.toNat:Nat):Int) = (fnd s p h).1 := by omega
   have ew : ((p.1.toNat:Nat):Int) = p.1 := by omega
   have eto : w64 ((fnd s p h).2.1 + p.2) = (fnd s p h).2.1 + p.2 := w64_id (by omega) (by omega)
   have hr := srise_law (s := s) (by omega) (x := (fnd s p h).1.toNat) (w := p.1.toNat) (by omega) ((fnd s p h).2.1 + p.2)
   rw [ea,ew] at hr
   refine TR.go (hpr fun _ => by rw [eto]; exact hr.1) (s' := (rise s (fnd s p h).1.toNat p.1.toNat ((fnd s p h).2.1 + p.2),(out ++ [((fnd s p h).1,((fnd s p h).2.1,p))],((i + 1:Nat):Int)))) ?_ ?_
   ·rw [hst,hf,eto,hr.2,cntI hlt (by omega)]; rfl
   ·refine (ih (i + 1) (by omega) _ _ (hs.rise ⟨⟨p1,p2⟩,q1,q2⟩ hF) (by simp [ho])).mono fun r hr' => ?_
    rw [hr',packL,if_pos hf]
    cases packL h (rise s (fnd s p h).1.toNat p.1.toNat ((fnd s p h).2.1 + p.2)) (l.drop (i + 1)) with
    | none => rfl
    | some q => simp
theorem pack_law {w h : Int} (hw : In1 w) (hh : In1 h) (l : List (Int × Int)) (hl : l.length < 1099511627776) (hin : ∀ p ∈ l,In1 p.1 ∧ In1 p.2) :
  pack_pre (w,(h,l)) ∧ pack (w,(h,l)) = match packL h (List.replicate w.toNat 0) l with | some q => (q,0) | none => ([],9) := by
 obtain ⟨w1,w2⟩ := hw
 obtain ⟨h1,h2⟩ := hh
 have a1 := swithin_law [w,h] (by simp)
 have a2 : swithin [w,h] = true := a1.2.2 (by simp [In1]; omega)
 have b1 := containsP_law l (by omega)
 have b2 : containsP (l,false) = false := by
  rw [b1.2,List.any_eq_false]
  intro p hp
  rw [(poddc_law p).2.2 (hin p hp)]; simp
 have c := pack_loop (w := w.toNat) (h := h) (by omega) h2 w l hl hin l.length 0 (by omega) (List.replicate w.toNat 0) [] ⟨by simp,fun v hv => by have := List.eq_of_mem_replicate hv; omega⟩ rfl
 refine ⟨?_,?_⟩
 ·unfold pack_pre letP
  dsimp only
  exact ⟨a1.1,fun _ => ⟨b1.1,fun _ => ⟨⟨⟨by omega,Int.le_refl _⟩,by omega⟩,c.1⟩⟩⟩
 ·unfold pack letV
  dsimp only
  have e := c.2
  simp only [List.drop_zero,List.nil_append] at e
  rw [a2,b2]
  simp only [Bool.not_true,Bool.false_eq_true,if_false]
  rw [show ((0:Nat):Int) = 0 from rfl] at e
  rw [e]
  cases packL h (List.replicate w.toNat 0) l <;> rfl
def Inb (w h:Int) (r : Rct) : Prop := (1 ≤ r.2.2.1 ∧ 1 ≤ r.2.2.2) ∧ (0 ≤ r.1 ∧ 0 ≤ r.2.1) ∧ r.1 + r.2.2.1 ≤ w ∧ r.2.1 + r.2.2.2 ≤ h
def ApR (a b : Rct) : Prop := a.1 + a.2.2.1 ≤ b.1 ∨ b.1 + b.2.2.1 ≤ a.1 ∨ a.2.1 + a.2.2.2 ≤ b.2.1 ∨ b.2.1 + b.2.2.2 ≤ a.2.1
def Under (s : List Int) (r : Rct) : Prop := ∀ c : Nat,r.1 ≤ c → (c:Int) < r.1 + r.2.2.1 → r.2.1 + r.2.2.2 ≤ s.getD c 0
theorem packL_ok {w : Nat} {h : Int} (hw : w ≤ 256) (hh : h ≤ 256) : ∀ (l : List (Int × Int)) (s : List Int) (q : List Rct),(∀ p ∈ l,In1 p.1 ∧ In1 p.2) → SkyH w h s → packL h s l = some q →
  q.map (fun r => r.2.2) = l ∧ (∀ r ∈ q,Inb w h r) ∧ q.Pairwise ApR ∧ ∀ o : Rct,Inb w h o → Under s o → ∀ r ∈ q,ApR o r := by
 intro l
 induction l with
 | nil =>
  intro s q hl hs he
  simp only [packL,Option.some.injEq] at he
  subst he
  exact ⟨rfl,by simp,List.Pairwise.nil,by simp⟩
 | cons p l ih =>
  intro s q hl hs he
  have hp := hl p (by simp)
  obtain ⟨g1,g2,g3⟩ := fnd_law hs hw hh hp
  rw [packL] at he
  split at he
  rotate_left
  ·cases he
  rename_i hf
  have hF := g2 hf
  split at he
  rotate_left
  ·cases he
  rename_i q' hq
  cases he
  obtain ⟨i1,i2,i3,i4⟩ := ih _ q' (fun p hp => hl p (by simp [hp])) (hs.rise hp hF) hq
  have h1 := hF.a0
  have h2 := hF.aw
  have h3 := hF.l0
  have h4 := hF.lh
  have h5 := hF.eq
  obtain ⟨⟨p1,p2⟩,q1,q2⟩ := hp
  have hlen := hs.1
  have hin : Inb w h ((fnd s p h).1,((fnd s p h).2.1,p)) := ⟨⟨p1,q1⟩,⟨h1,h3⟩,h2,h4⟩
  have hun : Under (rise s (fnd s p h).1.toNat p.1.toNat ((fnd s p h).2.1 + p.2)) ((fnd s p h).1,((fnd s p h).2.1,p)) := fun c c1 c2 => by
   dsimp only at c1 c2 ⊢
   rw [rise_get _ _ _ _ (by omega),if_pos (by omega)]
   exact Int.le_refl _
  refine ⟨by simp [i1],fun r hr => ?_,List.pairwise_cons.2 ⟨fun r hr => i4 _ hin hun r hr,i3⟩,fun o ho hu r hr => ?_⟩
  ·rcases List.mem_cons.1 hr with rfl | hr
   ·exact hin
   ·exact i2 r hr
  ·rcases List.mem_cons.1 hr with rfl | hr
   ·-- o is under what is laid,or beside it
    by_cases c1 : o.1 + o.2.2.1 ≤ (fnd s p h).1
    ·exact .inl c1
    by_cases c2 : (fnd s p h).1 + p.1 ≤ o.1
    ·exact .inr (.inl c2)
    refine .inr (.inr (.inl ?_))
    obtain ⟨⟨o1,o2⟩,⟨o3,o4⟩,o5,o6⟩ := ho
    let c : Nat := (if o.1 ≤ (fnd s p h).1 then (fnd s p h).1 else o.1).toNat
    have hc : o.1 ≤ c ∧ (c:Int) < o.1 + o.2.2.1 ∧ (fnd s p h).1 ≤ c ∧ (c:Int) < (fnd s p h).1 + p.1 := by
     show o.1 ≤ (((if o.1 ≤ (fnd s p h).1 then (fnd s p h).1 else o.1).toNat:Nat):Int) ∧ (((if o.1 ≤ (fnd s p h).1 then (fnd s p h).1 else o.1).toNat:Nat):Int) < o.1 + o.2.2.1 ∧ (fnd s p h).1 ≤ (((if o.1 ≤ (fnd s p h).1 then (fnd s p h).1 else o.1).toNat:Nat):Int) ∧ (((if o.1 ≤ (fnd s p h).1 then (fnd s p h).1 else o.1).toNat:Nat):Int) < (fnd s p h).1 + p.1
     split <;> omega
    have hu' := hu c hc.1 hc.2.1
    have := hi_le (hs.sky hw hh) (w := p.1.toNat) (x := (fnd s p h).1.toNat) (c := c) (by omega) (by omega) ⟨by omega,by omega⟩
    show o.2.1 + o.2.2.2 ≤ (fnd s p h).2.1
    omega
   ·refine i4 o ho (fun c c1 c2 => ?_) r hr
    rw [rise_get _ _ _ _ (by omega)]
    have hu' := hu c c1 c2
    split
    ·rename_i hc
     have := hi_le (hs.sky hw hh) (w := p.1.toNat) (x := (fnd s p h).1.toNat) (c := c) (by omega) (by omega) ⟨by omega,by omega⟩
     omega
    ·exact hu'
theorem wrap64 {n : Int} (h1 : 0 ≤ n) (h2 : n < 18446744073709551616) : IntKind.wrap IntKind.u64 n = n := by
 unfold IntKind.wrap
 simp [IntKind.bits,IntKind.signed]
 omega
theorem behind_law {a n b : Int} (ha : 0 ≤ a) (hn : 0 ≤ n) (hb : 0 ≤ b) (ha2 : a < 1000) (hn2 : n < 1000) (hb2 : b < 1000) : behind (a,(n,b)) = decide (a + n ≤ b) := by
 unfold behind
 dsimp only
 by_cases h : b ≥ a
 ·rw [if_pos h,wrap64 hb (by omega),wrap64 ha (by omega),wrap64 hn (by omega),wrap64 (by omega) (by omega),decide_eq_decide]
  omega
 ·rw [if_neg h]; symm; exact decide_eq_false (by omega)
theorem sapart_law {w h : Int} (hw : In1 w) (hh : In1 h) {a b : Rct} (ha : Inb w h a) (hb : Inb w h b) : sapart (a,b) = true ↔ ApR a b := by
 obtain ⟨⟨a1,a2⟩,⟨a3,a4⟩,a5,a6⟩ := ha
 obtain ⟨⟨b1,b2⟩,⟨b3,b4⟩,b5,b6⟩ := hb
 obtain ⟨_,w2⟩ := hw
 obtain ⟨_,h2⟩ := hh
 have n1 : ¬ a.2.2.1 ≤ 0 := by omega
 have n2 : ¬ a.2.2.2 ≤ 0 := by omega
 have n3 : ¬ b.2.2.1 ≤ 0 := by omega
 have n4 : ¬ b.2.2.2 ≤ 0 := by omega
 have k1 := behind_law (a := a.1) (n := a.2.2.1) (b := b.1) (by omega) (by omega) (by omega) (by omega) (by omega) (by omega)
 have k2 := behind_law (a := b.1) (n := b.2.2.1) (b := a.1) (by omega) (by omega) (by omega) (by omega) (by omega) (by omega)
 have k3 := behind_law (a := a.2.1) (n := a.2.2.2) (b := b.2.1) (by omega) (by omega) (by omega) (by omega) (by omega) (by omega)
 have k4 := behind_law (a := b.2.1) (n := b.2.2.2) (b := a.2.1) (by omega) (by omega) (by omega) (by omega) (by omega) (by omega)
 unfold sapart sfree letV
 dsimp only
 rw [if_neg n1,if_neg n2,if_neg n3,if_neg n4,k1,k2,k3,k4]
 unfold ApR
 simp only [decide_eq_true_eq]
 by_cases c1 : a.1 + a.2.2.1 ≤ b.1
 ·simp [c1]
 ·by_cases c2 : b.1 + b.2.2.1 ≤ a.1
  ·simp [c1,c2]
  ·by_cases c3 : a.2.1 + a.2.2.2 ≤ b.2.1
   ·simp [c1,c2,c3]
   ·simp [c1,c2,c3]
theorem containsR_law (l : List Rct) (hl : l.length < 4611686018427387904) (r : Rct) : containsR_pre (l,r) ∧ containsR (l,r) = l.any fun o => nota (o,r) := by
 have h := index_loop l hl (fun o => nota (o,r)) (indexR_l0_step (l,r)) (indexR_l0_pre (l,r)) (fun i hi => by
   unfold indexR_l0_pre
   intro h
   simp only [Int.toNat_natCast]
   dsimp only at h ⊢; omega) (fun i x hx => by
   have hlt := lt_of_get hx
   unfold indexR_l0_step letV
   rw [if_pos (by dsimp only; omega),Int.toNat_natCast]
   dsimp only
   rw [getD_of hx]) (by
   unfold indexR_l0_step
   rw [if_neg (by dsimp only; omega)])
 refine ⟨h.1,?_⟩
 have e : indexR (l,r) = _ := h.2
 unfold containsR letV
 rw [e]
 exact find_any l _
def ShIs (w h:Int) (l : List Rct) : Prop := ∀ i,i < l.length → Inb w h (l.getD i zR) ∧ ∀ k,k < i → ApR (l.getD k zR) (l.getD i zR)
theorem shis_law {w h : Int} (hw : In1 w) (hh : In1 h) (l : List Rct) (hl : l.length < 4611686018427387904) : shis_pre (w,(h,l)) ∧ (shis (w,(h,l)) = true ↔ ShIs w h l) := by
 have key : TR (shis_l0_step (w,(h,l))) (shis_l0_pre (w,(h,l))) 0 fun r => (r = .inl () ∧ ¬ ShIs w h l) ∨ (r = .inr () ∧ ShIs w h l) := by
  refine for_loop l.length (fun i s => s = (i:Int) ∧ ∀ j,j < i → Inb w h (l.getD j zR) ∧ ∀ k,k < j → ApR (l.getD k zR) (l.getD j zR)) _ (fun i s hi hj => ?_) (fun s hj => ?_) ⟨rfl,fun j hj => absurd hj (Nat.not_lt_zero _)⟩
  ·obtain ⟨e,hJ⟩ := hj
   subst e
   have hbad : (¬ (Inb w h (l.getD i zR) ∧ ∀ k,k < i → ApR (l.getD k zR) (l.getD i zR))) → ¬ ShIs w h l := fun q q' => q (q' i hi)
   obtain ⟨c1,c2⟩ := containsR_law (l.take i) (by rw [List.length_take]; omega) (l.getD i zR)
   have m1 := minI_le (l.getD i zR).2.2.1 (l.getD i zR).2.2.2
   have m2 := minI_le (l.getD i zR).1 (l.getD i zR).2.1
   have hw' := hw
   have hh' := hh
   obtain ⟨w1,w2⟩ := hw
   obtain ⟨h1,h2⟩ := hh
   refine ⟨?_,?_⟩
   ·unfold shis_l0_pre
    intro _
    dsimp only
    rw [Int.toNat_natCast]
    exact ⟨by omega,hi,hi,fun _ _ _ _ _ _ => ⟨by omega,c1⟩⟩
   ·unfold shis_l0_step letV
    dsimp only
    rw [if_pos (by omega),Int.toNat_natCast]
    by_cases d1 : minI (l.getD i zR).2.2.1 (l.getD i zR).2.2.2 < 1
    ·rw [if_pos d1]
     exact .inr ⟨_,rfl,.inl ⟨rfl,hbad fun q => by have := q.1.1; omega⟩⟩
    rw [if_neg d1]
    by_cases d2 : minI (l.getD i zR).1 (l.getD i zR).2.1 < 0
    ·rw [if_pos d2]
     exact .inr ⟨_,rfl,.inl ⟨rfl,hbad fun q => by have := q.1.2.1; omega⟩⟩
    rw [if_neg d2]
    by_cases d3 : (l.getD i zR).2.2.1 > w
    ·rw [if_pos d3]
     exact .inr ⟨_,rfl,.inl ⟨rfl,hbad fun q => by have := q.1.2.2.1; have := q.1.2.1; omega⟩⟩
    rw [if_neg d3]
    by_cases d4 : (l.getD i zR).2.2.2 > h
    ·rw [if_pos d4]
     exact .inr ⟨_,rfl,.inl ⟨rfl,hbad fun q => by have := q.1.2.2.2; have := q.1.2.1; omega⟩⟩
    rw [if_neg d4,w64_id (n := w - (l.getD i zR).2.2.1) (by omega) (by omega)]
    by_cases d5 : (l.getD i zR).1 > w - (l.getD i zR).2.2.1
    ·rw [if_pos d5]
     exact .inr ⟨_,rfl,.inl ⟨rfl,hbad fun q => by have := q.1.2.2.1; omega⟩⟩
    rw [if_neg d5,w64_id (n := h - (l.getD i zR).2.2.2) (by omega) (by omega)]
    by_cases d6 : (l.getD i zR).2.1 > h - (l.getD i zR).2.2.2
    ·rw [if_pos d6]
     exact .inr ⟨_,rfl,.inl ⟨rfl,hbad fun q => by have := q.1.2.2.2; omega⟩⟩
    rw [if_neg d6,c2]
    have hin : Inb w h (l.getD i zR) := ⟨⟨by omega,by omega⟩,⟨by omega,by omega⟩,by omega,by omega⟩
    have hany : ((l.take i).any fun o => nota (o,l.getD i zR)) = false ↔ ∀ k,k < i → ApR (l.getD k zR) (l.getD i zR) := by
     rw [List.any_eq_false]
     constructor
     ·intro q k hk
      have hm : l.getD k zR ∈ l.take i := by
       have : l.getD k zR = (l.take i).getD k zR := by rw [List.getD_eq_getElem?_getD,List.getD_eq_getElem?_getD,List.getElem?_take,if_pos hk]
       rw [this]; exact getD_in (by rw [List.length_take]; omega) _
      have := q _ hm
      unfold nota letV at this
      exact (sapart_law hw' hh' (hJ k hk).1 hin).1 (by simpa using this)
     ·intro q o ho
      obtain ⟨k,hk,rfl⟩ := List.getElem_of_mem ho
      rw [List.length_take] at hk
      have e : (l.take i)[k] = l.getD k zR := by
       rw [List.getElem_take,List.getD_eq_getElem?_getD,List.getElem?_eq_getElem (by omega)]; rfl
      rw [e]
      unfold nota letV
      rw [(sapart_law hw' hh' (hJ k (by omega)).1 hin).2 (q k (by omega))]; simp
    cases hc : (l.take i).any fun o => nota (o,l.getD i zR) with
    | true =>
     rw [if_pos rfl]
     refine .inr ⟨_,rfl,.inl ⟨rfl,hbad fun q => ?_⟩⟩
     rw [hany.2 q.2] at hc; cases hc
    | false =>
     rw [if_neg (by decide)]
     refine .inl ⟨_,rfl,cntI hi hl,fun j hj => ?_⟩
     rcases Nat.lt_or_ge j i with hji | hji
     ·exact hJ j hji
     ·have : j = i := by omega
      subst this
      exact ⟨hin,hany.1 hc⟩
  ·obtain ⟨e,hJ⟩ := hj
   subst e
   refine ⟨?_,.inr (),?_,.inr ⟨rfl,hJ⟩⟩
   ·unfold shis_l0_pre
    intro q
    dsimp only at q; omega
   ·unfold shis_l0_step
    rw [if_neg (by dsimp only; omega)]
 refine ⟨key.1,?_⟩
 unfold shis letV
 rcases key.2 with ⟨e,hn⟩ | ⟨e,hy⟩
 ·rw [e]; exact ⟨fun q => (by cases q),fun q => absurd q hn⟩
 ·rw [e]; exact ⟨fun _ => hy,fun _ => rfl⟩
end Go.Proofs.Ytbjfokijjefoeaa
