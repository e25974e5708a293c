/- Where the rows that come in are of bulk at most 1048576, RayMore returns true, and each argument reads behind the call as it read before: no further condition. -/
import Derived.Test.YtlkgabjhkfhgaaaGreatRows
import Derived.Test.YtlkgabjhkfhgaaaGreatRu
import Derived.Test.YtlkgabjhkfhgaaaGreatZm
import Derived.Test.YtlkgabjhkfhgaaaGreatRo
import Derived.ProofKit
noncomputable section
set_option linter.unusedSectionVars false
set_option linter.unusedVariables false
set_option linter.unusedSimpArgs false
namespace Go.Proofs.YtlkgabjhkfhgaaaGreat
open Go Go.Ev Go.Proofs Go.ChangeShapes Go.WideShapes Go.ChangeAt Go.RowKit
theorem HB {H:Type} : ∀l:List (DataW H),l.length<=Rows.uptoBulkAll l
 | []=>Nat.le_refl _
 |d::r=>by
  have h1:1<=Rows.uptoBulk d:=by cases d<;>first|(simp only [Rows.uptoBulk];omega)|(rename_i x;cases x<;>simp only [Rows.uptoBulk]<;>omega)
  have h2:=HB r
  simp only [List.length_cons,Rows.uptoBulkAll];omega
theorem Cr {H:Type} {enc:TypeId×Value->H} {P:Program} {w:World} {b0:Nat} {sp:Nat->Bool} {hd:Bool} {t e:TypeId} {a:Option Addr} {len cap:Nat} {d:DataW H} {p:List MemPlace} (ht:P.underlying t=some (.slice e))
  (h:DataW.Trod enc P w b0 sp hd t (.slice a len cap) d p):len<=Rows.uptoBulk d:=by
 obtain ⟨fuel,h⟩:=h
 rcases DataW.trod_slice ht h with ⟨h1,_⟩|⟨a',len',cap',el,rest,n,_,h1,h2,_,_,_,h3,_⟩
 ·simp only [Value.cells] at h1
  cases h1
  exact Nat.zero_le _
 ·simp only [Value.cells] at h1
  cases h1
  cases h2
  have:=HB (el.map (·.1))
  rw [List.length_map] at this
  simp only [Rows.uptoBulk];omega
set_option maxRecDepth 100000 in
theorem rayMore_lifted (os:Os) (started:os.Started) (H:Type) (enc:TypeId×Value->H) (F:Stop.Interp):
  ReturnsInHanded {} Tryz.checked os 5 .any ((Rows.OpenSpec.upto Rows.rayMoreSpec).pre6 enc Tryz.prog Tryz.f5 Rows.rayMoreUptoRow.domain false) (((Rows.OpenSpec.upto Rows.rayMoreSpec).at F).post enc Tryz.prog Tryz.f5 false true false false):=by
 refine returnsInHanded_of_cond (C:=Tryz.checked) (s:=Rows.OpenSpec.upto Rows.rayMoreSpec) (k:=Rows.uptoSmall) rfl own started (by kernel_rfl) Tryz.func5
  (OpenSpec.witness (enc:=enc) (C:=Tryz.checked) (s:=Rows.OpenSpec.upto Rows.rayMoreSpec) (k:=Rows.uptoSmall) rfl false ⟨#[],#[.slice none 0 0,.slice none 0 0,.agg #[.int .i64 0,.int .i64 0,.int .i64 0],.agg #[.int .i64 0,.int .i64 0,.int .i64 0]],[]⟩ 8 (by kernel_rfl) (by kernel_rfl) (by kernel_rfl)
   (x:=([.nil,.nil,.agg [.lit (.int .i64 0),.lit (.int .i64 0),.lit (.int .i64 0)],.agg [.lit (.int .i64 0),.lit (.int .i64 0),.lit (.int .i64 0)]],[],[])) (by kernel_rfl) rfl rfl) ?_
 intro W base args ds gs before hval hW _ hk _
 refine DE (S:=xU) aC KR (fun x=>x.1.length+x.2.1.length<=4611686018427387904) (fun x h=>(y3 x h).1) (fun x h nm ρ=>congrArg (fun z:Bool=>AV.af ρ (vb z)) (y3 x h).2) (tc:= [0,1]) (by kernel_rfl) (fun x=>by kernel_rfl) laidOut (by kernel_rfl) rfl
  (fun H ds h=>by
   match ds,h with
   | [d0,d1,d2,d3],_=>rfl) (by kernel_rfl) (tb:=4) (by kernel_rfl) W base args ds gs before hval hW ?_
 intro x xs Md pR
 obtain ⟨p,q,hA,_,_⟩:=hW
 have ep:Tryz.f5.params.toList= [22,22,39,39]:=by kernel_rfl
 rw [ep] at hA
 match xs,Md,pR with
 | [y0,y1],Md,pR=>
  have g0:y0.len=x.1.length:=Md.1.2.2.1
  have g1:y1.len=x.2.1.length:=Md.2.1.2.2.1
  have ea:args.toList= [.slice y0.base y0.len y0.cap,.slice y1.base y1.len y1.cap,.agg #[.int .i64 x.2.2.1.1,.int .i64 x.2.2.1.2.1,.int .i64 x.2.2.1.2.2],.agg #[.int .i64 x.2.2.2.1,.int .i64 x.2.2.2.2.1,.int .i64 x.2.2.2.2.2]]:=pR.symm
  rw [ea] at hA
  obtain ⟨_,_,d0,ds',p0,q0,e1,rfl,rfl,h1,h2⟩:=trodAll_cons hA
  cases e1
  obtain ⟨_,_,d1,aaC,p1,q1,e2,rfl,rfl,h3,h4⟩:=trodAll_cons h2
  cases e2
  have u:Tryz.prog.underlying 22=some (.slice 71):=by kernel_rfl
  have b0:=Cr u h1
  have b1:=Cr u h3
  have hk:Rows.uptoBulkAll ((d0::d1::aaC)++gs)<=1048576:=of_decide_eq_true hk
  simp only [List.cons_append,Rows.uptoBulkAll] at hk
  omega
theorem rayMore_holds:Rows.RayMoreUptoSaid:=
 OpenClaim.holds_of_cond 5 Tryz.f5 rfl rfl rfl rfl rfl rfl rfl ⟨rfl,rfl,rfl,rfl,rfl⟩ rfl rfl rfl rfl rfl (by kernel_rfl) Tryz.func5 (by kernel_rfl)
  (of_decide_eq_true (by kernel_rfl)) (by unfold Func.isWrapper;first|(rw [if_pos (by decide+kernel)];kernel_rfl)|(rw [if_neg (by decide+kernel)];exact ⟨rfl,rfl⟩))
  (fun os started H enc _ F=>rayMore_lifted os started H enc F)
#print axioms rayMore_holds
end Go.Proofs.YtlkgabjhkfhgaaaGreat
