/- Sorting, plain: pdqsort sorts. -/
import Derived.Test.YtaipcbdilkcdbaaTl
noncomputable section
set_option linter.unusedSectionVars false
set_option linter.unusedVariables false
set_option linter.unusedSimpArgs false
namespace Go.Proofs.Ytaipcbdilkcdbaa
open Go Go.Ev Go.Proofs
def Srt (r : RT) (d : List Int) (a b:Nat) (d' : List Int) : Prop := Out r d a b d' ∧ Sort.SortedIn (ltM r) a b d'.toArray
theorem Srt.from {r : RT} {d d' e : List Int} {a b : Nat} (h : Out r d a b d') (hs : Srt r d' a b e) : Srt r d a b e :=
 ⟨⟨Sort.permIn_trans _ _ _ _ _ h.1 hs.1.1,by rw [hs.1.2.1,h.2.1],hs.1.2.2⟩,hs.2⟩
section
variable [PdqSelf]
def Self (r : RT) (N:Nat) : Prop := ∀ (d : List Int) (a b:Nat) (lim:Int),Fine r d → a ≤ b → b ≤ d.length → b - a < N → Sort.Below (ltM r) a b d.toArray →
 pdqR_pre (d,((a:Int),((b:Int),(lim,r)))) ∧ Srt r d a b (pdqR (d,((a:Int),((b:Int),(lim,r))))).2.1
def Res (x : PX) (d : List Int) (a b:Nat) (v : PS ⊕ List Int) : Prop := match v with
 | .inl s' => TR (pdqM_l0_3_step x) (pdqM_l0_3_pre x) s' (Srt x.2.2.2.2 d a b)
 | .inr r' => Srt x.2.2.2.2 d a b r'
theorem TR.of {x : PX} {s : PS} {d : List Int} {a b : Nat} (hp : pdqM_l0_3_pre x s) (h : Res x d a b (pdqM_l0_3_step x s)) : TR (pdqM_l0_3_step x) (pdqM_l0_3_pre x) s (Srt x.2.2.2.2 d a b) := by
 cases e : pdqM_l0_3_step x s with
 | inl s' => rw [e] at h; exact TR.go hp e h
 | inr r' => rw [e] at h; exact TR.stop hp e h
theorem Res.from {x : PX} {d d' : List Int} {a b : Nat} (h : Out x.2.2.2.2 d a b d') {v : PS ⊕ List Int} (hs : Res x d' a b v) : Res x d a b v := by
 cases v with
 | inl s' => exact TR.mono hs fun r hr => Srt.from h hr
 | inr r' => exact Srt.from h hs
def Next (x : PX) (N:Nat) : Prop := ∀ (d : List Int) (a b:Nat) (lim:Int) (wb wp : Bool),Fine x.2.2.2.2 d → a ≤ b → b ≤ d.length → b - a < N → Sort.Below (ltM x.2.2.2.2) a b d.toArray →
 TR (pdqM_l0_3_step x) (pdqM_l0_3_pre x) (d,((a:Int),((b:Int),(lim,(wb,wp))))) (Srt x.2.2.2.2 d a b)
theorem part_res {x : PX} {a b pv : Nat} {d : List Int} (lim0 lim:Int) (wb wp : Bool) (hf : Fine x.2.2.2.2 d) (hb : b ≤ d.length) (hap : a ≤ pv) (hpb : pv < b) (hB : Sort.Below (ltM x.2.2.2.2) a b d.toArray)
  (hS : Self x.2.2.2.2 (b - a)) (hN : Next x (b - a)) (d0 : List Int) :
  partP x (d0,((a:Int),((b:Int),(lim0,(wb,wp))))) d (pv:Int) lim ∧ Res x d a b (partT x (d0,((a:Int),((b:Int),(lim0,(wb,wp))))) d (pv:Int) lim) := by
 have hl := hf.len
 obtain ⟨p1,p2,p3,p4,p5⟩ := pt_law hf hap hpb hb
 obtain ⟨m,hm⟩ : ∃ m,m = (Sort.partition (ltM x.2.2.2.2) d.toArray a b pv).1 := ⟨_,rfl⟩
 obtain ⟨k1,k2,k3,k4,k5⟩ := Sort.partition_holds (ltM x.2.2.2.2) (ltM_swo _) d.toArray a b pv hap hpb (by simpa using hb)
 obtain ⟨Y,hY⟩ : ∃ Y,Y = partM (d,((a:Int),((b:Int),((pv:Int),x.2.2.2.2)))) := ⟨_,rfl⟩
 rw [← hY] at p2 p3 p4 p5
 rw [← p3] at k3 k4 k5
 rw [← hm] at p2 k1 k2 k4 k5
 have e1 : w64 ((m:Int) - (a:Int)) = ((m - a:Nat):Int) := w64N (by omega) (by omega)
 have e2 : w64 ((b:Int) - (m:Int)) = ((b - m:Nat):Int) := w64N (by omega) (by omega)
 have e3 : w64 ((m:Int) + 1) = ((m + 1:Nat):Int) := w64N (by omega) (by omega)
 have hB' := below_perm (ltM_swo _) (by simpa using hb) hB k3
 have hBL : Sort.Below (ltM x.2.2.2.2) a m Y.2.1.toArray := hB'.imp_right fun h i i1 i2 => h i i1 (by omega)
 have hBR : Sort.Below (ltM x.2.2.2.2) (m + 1) b Y.2.1.toArray := .inr fun i i1 i2 => k5 i (by omega) i2
 obtain ⟨l1,l2⟩ := hS Y.2.1 a m lim p5 (by omega) (by omega) (by omega) hBL
 obtain ⟨r1,r2⟩ := hS Y.2.1 (m + 1) b lim p5 (by omega) (by omega) (by omega) hBR
 refine ⟨?_,?_⟩
 ·simp only [partP,letP,← hY,p2,e1,e2,e3]
  exact ⟨p1,fun _ => l1,fun _ => r1⟩
 ·simp only [partT,letV,← hY,p2,e1,e2,e3]
  split
  ·obtain ⟨E,hE⟩ : ∃ E,E = (pdqR (Y.2.1,((a:Int),((m:Int),(lim,x.2.2.2.2))))).2.1 := ⟨_,rfl⟩
   rw [← hE] at l2 ⊢
   have hBE : Sort.Below (ltM x.2.2.2.2) (m + 1) b E.toArray := .inr fun i i1 i2 => by
    rw [l2.1.1.2.1 i (.inr (by omega)),l2.1.1.2.1 (m + 1 - 1) (.inr (by omega))]
    exact k5 i (by omega) i2
   refine (hN E (m + 1) b lim _ _ l2.1.2.2 (by omega) (by rw [l2.1.2.1]; omega) (by omega) hBE).mono fun z hz => ?_
   have hsl : Sort.SortedIn (ltM x.2.2.2.2) a m z.toArray := fun i j i1 i2 i3 => by
    rw [hz.1.1.2.1 i (.inl (by omega)),hz.1.1.2.1 j (.inl (by omega))]; exact l2.2 i j i1 i2 i3
   obtain ⟨c1,c2⟩ := comb_part (ltM_swo x.2.2.2.2) (by simpa using hb) k1 k2 k3 k4 k5 l2.1.1 hz.1.1 hsl hz.2
   exact ⟨⟨c1,by rw [hz.1.2.1,l2.1.2.1,p4],hz.1.2.2⟩,c2⟩
  ·obtain ⟨E,hE⟩ : ∃ E,E = (pdqR (Y.2.1,(((m + 1:Nat):Int),((b:Int),(lim,x.2.2.2.2))))).2.1 := ⟨_,rfl⟩
   rw [← hE] at r2 ⊢
   have hBE : Sort.Below (ltM x.2.2.2.2) a m E.toArray := hBL.imp_right fun h i i1 i2 => by
    rw [r2.1.1.2.1 i (.inl (by omega)),r2.1.1.2.1 (a - 1) (.inl (by omega))]
    exact h i i1 i2
   refine (hN E a m lim _ _ r2.1.2.2 (by omega) (by rw [r2.1.2.1]; omega) (by omega) hBE).mono fun z hz => ?_
   have hsr : Sort.SortedIn (ltM x.2.2.2.2) (m + 1) b z.toArray := fun i j i1 i2 i3 => by
    rw [hz.1.1.2.1 i (.inr (by omega)),hz.1.1.2.1 j (.inr (by omega))]; exact r2.2 i j i1 i2 i3
   obtain ⟨c1,c2⟩ := comb_part2 (ltM_swo x.2.2.2.2) (by simpa using hb) k1 k2 k3 k4 k5 r2.1.1 hz.1.1 hz.2 hsr
   exact ⟨⟨c1,by rw [hz.1.2.1,r2.1.2.1,p4],hz.1.2.2⟩,c2⟩
theorem tail_res {x : PX} {a b pv : Nat} {d : List Int} (lim0 lim:Int) (wb wp : Bool) (hf : Fine x.2.2.2.2 d) (hb : b ≤ d.length) (hap : a ≤ pv) (hpb : pv < b) (hB : Sort.Below (ltM x.2.2.2.2) a b d.toArray)
  (hS : Self x.2.2.2.2 (b - a)) (hN : Next x (b - a)) (d0 : List Int) :
  tailP x (d0,((a:Int),((b:Int),(lim0,(wb,wp))))) d (pv:Int) lim ∧ Res x d a b (tailS x (d0,((a:Int),((b:Int),(lim0,(wb,wp))))) d (pv:Int) lim) := by
 have hl := hf.len
 obtain ⟨q1,q2⟩ := part_res lim0 lim wb wp hf hb hap hpb hB hS hN d0
 by_cases h0 : 0 < a
 ·have e1 : w64 ((a:Int) - 1) = ((a - 1:Nat):Int) := w64N (by omega) (by omega)
  obtain ⟨p1,p2,p3,p4,p5⟩ := pe_law hf hap hpb hb
  have hby := hf.by_ (i := a - 1) (j := pv) (by omega) (by omega)
  refine ⟨?_,?_⟩
  ·simp only [tailP,letP,e1,Int.toNat_natCast]
   exact ⟨fun _ => ⟨by omega,by omega,by omega,by omega,by omega,by omega,hby,fun _ => p1,fun _ => q1⟩,fun _ => q1⟩
  ·simp only [tailS,letV,e1,Int.toNat_natCast]
   rw [if_pos (by omega)]
   by_cases hlt : (!ltM x.2.2.2.2 (d.getD (a - 1) 0) (d.getD pv 0)) = true
   ·rw [if_pos ((nlt _ _ _).2 hlt)]
    have hlt' : ltM x.2.2.2.2 d.toArray[a - 1]! d.toArray[pv]! = false := by rw [getBang,getBang]; simpa using hlt
    have hall := below_all (ltM_swo x.2.2.2.2) h0 hB hlt'
    obtain ⟨k1,k2,k3,k4,k5⟩ := Sort.partitionEqual_holds (ltM x.2.2.2.2) (ltM_swo _) d.toArray a b pv hap hpb (by simpa using hb) hall
    obtain ⟨m,hm⟩ : ∃ m,m = (Sort.partitionEqual (ltM x.2.2.2.2) d.toArray a b pv).1 := ⟨_,rfl⟩
    obtain ⟨Y,hY⟩ : ∃ Y,Y = partEM (d,((a:Int),((b:Int),((pv:Int),x.2.2.2.2)))) := ⟨_,rfl⟩
    rw [← hY] at p2 p3 p4 p5
    rw [← p3] at k3 k4 k5
    rw [← hm] at p2 k1 k2 k4 k5
    rw [← hY,p2]
    have hc := fun z => comb_eq (ltM_swo x.2.2.2.2) (r' := z) (by simpa using hb) hall k1 k2 k3 k4 k5
    refine (hN Y.2.1 m b lim wb wp p5 k2 (by omega) (by omega) (hc d.toArray).1).mono fun z hz => ?_
    obtain ⟨c1,c2⟩ := (hc z.toArray).2 hz.1.1 hz.2
    exact ⟨⟨c1,by rw [hz.1.2.1,p4],hz.1.2.2⟩,c2⟩
   ·rw [if_neg (fun h => hlt ((nlt _ _ _).1 h))]
    exact q2
 ·refine ⟨?_,?_⟩
  ·simp only [tailP]
   exact ⟨fun h => absurd h (show ¬ ((a:Int) > 0) by omega),fun _ => q1⟩
  ·simp only [tailS]
   rw [if_neg (by omega)]
   exact q2
theorem try_res {x : PX} {a b pv : Nat} {d : List Int} (lim0 lim:Int) (wb wp : Bool) (hf : Fine x.2.2.2.2 d) (hb : b ≤ d.length) (hap : a ≤ pv) (hpb : pv < b) (hB : Sort.Below (ltM x.2.2.2.2) a b d.toArray)
  (hS : Self x.2.2.2.2 (b - a)) (hN : Next x (b - a)) (d0 : List Int) :
  tryP x (d0,((a:Int),((b:Int),(lim0,(wb,wp))))) d (pv:Int) lim ∧ Res x d a b (tryS x (d0,((a:Int),((b:Int),(lim0,(wb,wp))))) d (pv:Int) lim) := by
 obtain ⟨p1,p2,p3⟩ := ps_law hf (show a < b by omega) hb hB
 obtain ⟨Y,hY⟩ : ∃ Y,Y = pInsM (d,((a:Int),((b:Int),x.2.2.2.2))) := ⟨_,rfl⟩
 rw [← hY] at p2 p3
 have hB' := below_perm (ltM_swo _) (by simpa using hb) hB p2.1
 obtain ⟨q1,q2⟩ := tail_res lim0 lim wb wp p2.2.2 (by rw [p2.2.1]; exact hb) hap hpb hB' hS hN d0
 refine ⟨?_,?_⟩
 ·simp only [tryP,letP,← hY]
  exact ⟨p1,fun _ => q1⟩
 ·simp only [tryS,letV,← hY]
  split
  ·rename_i h
   exact ⟨p2,p3 h⟩
  ·exact Res.from p2 q2
theorem hint_res {x : PX} {a b : Nat} {d : List Int} (lim0 lim:Int) (wb wp : Bool) (hf : Fine x.2.2.2.2 d) (hab : a < b) (hb : b ≤ d.length) (hB : Sort.Below (ltM x.2.2.2.2) a b d.toArray)
  (hS : Self x.2.2.2.2 (b - a)) (hN : Next x (b - a)) (d0 : List Int) :
  hintP x (d0,((a:Int),((b:Int),(lim0,(wb,wp))))) d lim ∧ Res x d a b (hintS x (d0,((a:Int),((b:Int),(lim0,(wb,wp))))) d lim) := by
 have hl := hf.len
 obtain ⟨p1,p2,p3⟩ := piv_law hf hab hb
 obtain ⟨Y,hY⟩ : ∃ Y,Y = pivM (d,((a:Int),((b:Int),x.2.2.2.2))) := ⟨_,rfl⟩
 rw [← hY] at p2 p3
 obtain ⟨pv,hpv⟩ : ∃ pv : Nat,Y.1 = (pv:Int) := ⟨Y.1.toNat,by omega⟩
 rw [hpv] at p2 p3
 have e1 : w64 ((b:Int) - 1) = ((b - 1:Nat):Int) := w64N (by omega) (by omega)
 have e2 : w64 ((pv:Int) - (a:Int)) = ((pv - a:Nat):Int) := w64N (by omega) (by omega)
 have e3 : w64 (((b - 1:Nat):Int) - ((pv - a:Nat):Int)) = ((b - 1 - (pv - a):Nat):Int) := w64N (by omega) (by omega)
 obtain ⟨r1,r2⟩ := rev_law hf hab hb
 obtain ⟨Z,hZ⟩ : ∃ Z,Z = revM (d,((a:Int),((b:Int),x.2.2.2.2))) := ⟨_,rfl⟩
 rw [← hZ] at r2
 have hB' := below_perm (ltM_swo _) (by simpa using hb) hB r2.1
 have T1 := tail_res (pv := b - 1 - (pv - a)) lim0 lim wb wp r2.2.2 (by rw [r2.2.1]; exact hb) (by omega) (by omega) hB' hS hN d0
 have T2 := try_res (pv := b - 1 - (pv - a)) lim0 lim wb wp r2.2.2 (by rw [r2.2.1]; exact hb) (by omega) (by omega) hB' hS hN d0
 have T3 := tail_res (pv := pv) lim0 lim wb wp hf hb (by omega) (by omega) hB hS hN d0
 have T4 := try_res (pv := pv) lim0 lim wb wp hf hb (by omega) (by omega) hB hS hN d0
 refine ⟨?_,?_⟩
 ·simp only [hintP,letP,← hY,← hZ,hpv,e1,e2,e3]
  exact ⟨p1,fun _ => ⟨r1,fun _ => ⟨fun _ => T2.1,fun _ => T1.1⟩,fun _ => T1.1⟩,fun _ => ⟨fun _ => ⟨fun _ => ⟨fun _ => T4.1,fun _ => T3.1⟩,fun _ => T3.1⟩,fun _ => T3.1⟩⟩
 ·simp only [hintS,letV,← hY,← hZ,hpv,e1,e2,e3]
  split
  ·refine Res.from r2 ?_
   split
   ·split
    ·exact T2.2
    ·exact T1.2
   ·exact T1.2
  ·split
   ·split
    ·split
     ·exact T4.2
     ·exact T3.2
    ·exact T3.2
   ·exact T3.2
theorem pdq_next (x : PX) (N:Nat) (hS : Self x.2.2.2.2 N) : ∀ n,n ≤ N + 1 → Next x n := by
 intro n
 induction n with
 | zero => intro _ d a b lim wb wp _ _ _ h; omega
 | succ n ih =>
  intro hn d a b lim wb wp hf hab hb hlt hB
  have hl := hf.len
  have ih := ih (by omega)
  have hN : Next x (b - a) := fun d a2 b2 lim wb wp h1 h2 h3 h4 h5 => ih d a2 b2 lim wb wp h1 h2 h3 (by omega) h5
  have hS' : Self x.2.2.2.2 (b - a) := fun d a2 b2 lim h1 h2 h3 h4 h5 => hS d a2 b2 lim h1 h2 h3 (by omega) h5
  have e : w64 ((b:Int) - (a:Int)) = ((b - a:Nat):Int) := w64N (by omega) (by omega)
  obtain ⟨i1,i2,i3⟩ := ins_law hf hab hb
  obtain ⟨h1,h2,h3⟩ := heap_law hf hab hb
  obtain ⟨b1,b2⟩ := brk_law hf hab hb
  by_cases h12 : b - a ≤ 12
  ·refine TR.of ?_ ?_
   ·rw [pre_eq]
    simp only [letP,e]
    exact ⟨fun _ => i1,fun h => absurd (show ((b - a:Nat):Int) ≤ 12 by omega) h⟩
   ·rw [step_eq]
    simp only [letV,e]
    rw [if_pos (by omega)]
    exact ⟨i2,i3⟩
  ·have hB' := below_perm (ltM_swo _) (by simpa using hb) hB b2.1
   have T1 := hint_res lim (w64 (lim - 1)) wb wp b2.2.2 (by omega) (by rw [b2.2.1]; exact hb) hB' hS' hN d
   have T2 := hint_res lim lim wb wp hf (by omega) hb hB hS' hN d
   refine TR.of ?_ ?_
   ·rw [pre_eq]
    simp only [letP,e]
    exact ⟨fun h => absurd h (show ¬ ((b - a:Nat):Int) ≤ 12 by omega),fun _ => ⟨fun _ => h1,fun _ => ⟨fun _ => ⟨b1,T1.1⟩,fun _ => T2.1⟩⟩⟩
   ·rw [step_eq]
    simp only [letV,e]
    rw [if_neg (by omega)]
    split
    ·exact ⟨h2,h3⟩
    ·split
     ·exact Res.from b2 T1.2
     ·exact T2.2
theorem pdq_call {r : RT} {N : Nat} (hS : Self r N) {d : List Int} {a b : Nat} (lim:Int) (hf : Fine r d) (hab : a ≤ b) (hb : b ≤ d.length) (hn : b - a < N + 1) (hB : Sort.Below (ltM r) a b d.toArray) :
  pdqM_pre (d,((a:Int),((b:Int),(lim,r)))) ∧ Srt r d a b (pdqM (d,((a:Int),((b:Int),(lim,r))))).2.1 := by
 obtain ⟨h1,h2⟩ := pdq_next (d,((a:Int),((b:Int),(lim,r)))) N hS (N + 1) (Nat.le_refl _) d a b lim true true hf hab hb hn hB
 refine ⟨⟨h1,?_⟩,h2⟩
 exact h2.1.2.1
end
end Go.Proofs.Ytaipcbdilkcdbaa

namespace Go.Proofs.Ytaipcbdilkcdbaa
open Go Go.Ev Go.Proofs
theorem none_ok : SpecOk Try.prog 51 (fnSpecW ⟨pdqP,.none,fun _ => False,fun x => (false,(x.1,(false,(false,(false,false)))))⟩) := by
 intro X args hp nm k hs
 unfold fnSpecW at hs
 split at hs
 ·split at hs
  ·obtain ⟨_,h,_⟩ := ob_spec hs
   exact h.elim
  ·exact hs.elim
 ·exact hs.elim
@[reducible] noncomputable def pdqF : Nat → PdqSelf
 | 0 => ⟨fun _ => False,fun x => (false,(x.1,(false,(false,(false,false))))),none_ok⟩
 | n + 1 => ⟨@pdqM_pre (pdqF n),@pdqM (pdqF n),@pdqM_ok (pdqF n)⟩
theorem pdqF_self (r : RT) : ∀ n,@Self (pdqF n) r n := by
 intro n
 induction n with
 | zero => intro d a b lim _ _ _ h; omega
 | succ n ih =>
  intro d a b lim hf hab hb hn hB
  exact @pdq_call (pdqF n) r n ih d a b lim hf hab hb hn hB
def pdqT_pre (x : List Int × Int × Int × Int × RT) : Prop := @pdqR_pre (pdqF ((x.2.2.1 - x.2.1).toNat + 1)) x
def pdqT (x : List Int × Int × Int × Int × RT) : Bool × List Int × Bool × Bool × Bool × Bool := @pdqR (pdqF ((x.2.2.1 - x.2.1).toNat + 1)) x
abbrev pdqT_S : FnW := ⟨pdqP,.none,pdqT_pre,pdqT⟩
theorem pdqT_ok : SpecOk Try.prog 51 (fnSpecW pdqT_S) := by
 intro X args hp nm k hs
 unfold fnSpecW at hs
 split at hs
 rotate_left
 ·exact hs.elim
 rename_i x tc ws b hd
 refine (pdqF ((x.2.2.1 - x.2.1).toNat + 1)).ok X args hp nm k ?_
 unfold fnSpecW
 rw [show decW hp pdqP args = some (x,[],tc,ws,b) from hd]
 exact hs
theorem pdqT_law {r : RT} {d : List Int} {a b : Nat} (lim:Int) (hf : Fine r d) (hab : a ≤ b) (hb : b ≤ d.length) (hB : Sort.Below (ltM r) a b d.toArray) :
  pdqT_pre (d,((a:Int),((b:Int),(lim,r)))) ∧ Srt r d a b (pdqT (d,((a:Int),((b:Int),(lim,r))))).2.1 := by
 have e : (((b:Int) - (a:Int)).toNat + 1) = (b - a) + 1 := by omega
 show @pdqR_pre (pdqF (((b:Int) - (a:Int)).toNat + 1)) _ ∧ Srt r d a b (@pdqR (pdqF (((b:Int) - (a:Int)).toNat + 1)) _).2.1
 rw [e]
 exact pdqF_self r _ d a b lim hf hab hb (by omega) hB
end Go.Proofs.Ytaipcbdilkcdbaa

namespace Go.Proofs.Ytaipcbdilkcdbaa
open Go Go.Ev Go.Proofs
def sp_pdqT : List (Nat × Ev.Spec) := (51,fnSpecW pdqT_S) :: sp_pInsM
theorem sp_pdqT_ok : SpecsOk Try.prog sp_pdqT := SpecsOk.add (fn := Try.f51) (by kernel_rfl) pdqT_ok sp_pInsM_ok
def sortM (x : ((List Int) × ((List I9) × Int))) : (Bool × ((List Int) × Bool)) :=
 (letV (lenM (IntKind.wrap IntKind.u64 (x.1.length:Int))) fun y =>
 (letV (pdqT (x.1,((0:Int),((x.1.length:Int),(y,x.2))))) fun y_1 =>
 (false,(y_1.2.1,false))))
def sortM_pre (x : ((List Int) × ((List I9) × Int))) : Prop :=
 ((lenM_pre (IntKind.wrap IntKind.u64 (x.1.length:Int))) ∧
 letP (lenM (IntKind.wrap IntKind.u64 (x.1.length:Int))) fun y =>
 ((pdqT_pre (x.1,((0:Int),((x.1.length:Int),(y,x.2))))) ∧
 letP (pdqT (x.1,((0:Int),((x.1.length:Int),(y,x.2))))) fun y_1 =>
 ((List.length y_1.2.1) = (List.length x.1))))
def sortM_t (x : ((List Int) × ((List I9) × Int))) : Tr (Bool × ((List Int) × Bool)) true :=
 (.fn lenM_S (IntKind.wrap IntKind.u64 (nL x.1)) fun y =>
 (.fnW pdqT_S (x.1,(z0,((nL x.1),(y,x.2)))) fun y_1 =>
 (.pn 0 2
 (.og ((decide ((List.length y_1.2.1) = (List.length x.1))) && true) ((List.length y_1.2.1) = (List.length x.1)) (fun h => (and_t (decide_eq_true h) rfl))
 (.ret (false,(y_1.2.1,false)))))))
abbrev sortM_S : FnW := ⟨(.pair (.row yi) (.val cmpP)),.none,sortM_pre,sortM⟩
theorem sortM_ok : SpecOk Try.prog 38 (fnSpecW sortM_S) := SpecOk.trW sortM_S sortM_t (fn := Try.f38) tt_ok sp_pdqT_ok mixed (by kernel_rfl) (ItsOk.nil _ _) (fun x => LpsOk.nil) (fun x => (by kernel_rfl)) fun x r0 Q => (by kernel_rfl)
def sp_sortM : List (Nat × Ev.Spec) := (38,fnSpecW sortM_S) :: sp_pdqT
theorem sp_sortM_ok : SpecsOk Try.prog sp_sortM := SpecsOk.add (fn := Try.f38) (by kernel_rfl) sortM_ok sp_pdqT_ok
end Go.Proofs.Ytaipcbdilkcdbaa

namespace Go.Proofs.Ytaipcbdilkcdbaa
open Go Go.Ev Go.Proofs
theorem len_p (n:Nat) : len64M_pre (n:Int) := by
 simp only [len64M_pre,u8w]
 repeat' (first | with_reducible apply And.intro | intro _)
 all_goals omega
def srt (r : RT) (d : List Int) : List Int := d.mergeSort fun x y => !ltM r y x
theorem sort_law {r : RT} {d : List Int} (hf : Fine r d) : sortM_pre (d,r) ∧ (sortM (d,r)).2.1 = srt r d := by
 have hl := hf.len
 have e : IntKind.wrap IntKind.u64 ((d.length:Nat):Int) = ((d.length:Nat):Int) := by rw [u64w]; omega
 have h := fun lim => pdqT_law (d := d) (a := 0) (b := d.length) lim hf (Nat.zero_le _) (Nat.le_refl _) (.inl rfl)
 refine ⟨?_,?_⟩
 ·simp only [sortM_pre,letP,e]
  exact ⟨len_p _,(h _).1,(h _).2.1.2.1⟩
 ·simp only [sortM,letV,e]
  have h2 := (h (lenM ((d.length:Nat):Int))).2
  have := Sort.sorted_unique_holds (ltM_swo r) (ltM_total r) d.toArray _ (by simpa using h2.1.1) (by simpa using h2.2)
  simpa [srt] using this
theorem srt_perm (r : RT) (d : List Int) : (srt r d).Perm d := List.mergeSort_perm _ _
end Go.Proofs.Ytaipcbdilkcdbaa
