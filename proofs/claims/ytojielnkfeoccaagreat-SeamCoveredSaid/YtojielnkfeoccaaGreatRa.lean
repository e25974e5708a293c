/- From the reading of a row's arguments to typed values; from a contract to the row. -/
import Derived.Test.YtojielnkfeoccaaGreatEvR
import Derived.Carry
import Derived.OpenShut
import Derived.JoinedOf
import Derived.JoinedAt
import Derived.ChangeMaps5
noncomputable section
set_option linter.unusedSectionVars false
set_option linter.unusedVariables false
set_option linter.unusedSimpArgs false
namespace Go.Ev
open Go.RowKit Go.ChangeShapes Go.WideShapes Go.ChangeAt
def vals:(y:Ty)->y.T->List Value
 | .int k,n=> [.int k n]
 | .bool,b=> [.bool b]
 | .str,s=> [.string s]
 | .prod a b,x=>vals a x.1++vals b x.2
 | .sl _,_=> []
def DS (tt:List (Nat×TI)) (t:TypeId) (a:Ty):Bool:=match aG tt t with
 |some i=>Nat.beq i.size a.size
 |none=>false
def jX (tt:List (Nat×TI)) (f:TypeId->Ty->Bool):List Field->Nat->Ty->Bool
 | [],_,_=>false
 | [fl],o,y=>Nat.beq fl.offset o&&DS tt fl.type y&&f fl.type y
 |fl::r,o,.prod a b=>Nat.beq fl.offset o&&DS tt fl.type a&&f fl.type a&&jX tt f r (o+a.size) b
 |_,_,_=>false
def oV (tt:List (Nat×TI)) (f:TypeId->Ty->Bool) (e:TypeId):Nat->Ty->Bool
 |0,_=>false
 |1,y=>DS tt e y&&f e y
 |n+1,.prod a b=>DS tt e a&&f e a&&oV tt f e n b
 |_,_=>false
section
variable {H:Type} {enc:TypeId×Value->H} {P:Program} {w:World} {base:Nat} {sp:Nat->Bool} {hd:Bool} {tt:List (Nat×TI)}
theorem aX.cells (h:aX P tt) {t:TypeId} {i:TI} (ht:aG tt t=some i):P.cellsOf t=i.size:=by
 obtain ⟨_,_,inf,h1,h2,_⟩:=h t i ht
 simp [Program.cellsOf,h1,h2]
theorem jJ (h:aX P tt) {t:TypeId} {a:Ty} (hb:DS tt t a=true):P.cellsOf t=a.size:=by
 unfold DS at hb
 split at hb
 ·rename_i i hi
  rw [h.cells hi];exact Nat.eq_of_beq_eq_true hb
 ·cases hb
theorem j6 {α β:Type} {f:α->Option β} {a:α} {l:List α} {ys:List β} (h:(a::l).mapM f=some ys): ∃y ys',f a=some y/\ l.mapM f=some ys'/\ ys=y::ys':=by
 rw [List.mapM_cons] at h
 cases ha:f a with
 |none=>rw [ha] at h;cases h
 |some y=>
  rw [ha] at h
  cases hl:l.mapM f with
  |none=>rw [hl] at h;cases h
  |some ys'=>
   rw [hl] at h
   exact ⟨y,ys',rfl,rfl,(Option.some.inj h).symm⟩
structure aea (ρ:Env) (nm:Nat) (p:nX) (x:p.ty.T) (vs:List Value):Prop where
 vals:vs=(bV 0 nm p x).1.map (A0.ae ρ)
 none:(bV 0 nm p x).2= []
 ok: ∀a∈(bV 0 nm p x).1,AV.ok (fun _=>False) (.v a)
end
section
variable {H:Type} {enc:TypeId×Value->H} {P:Program} {tt:List (Nat×TI)}
theorem uN (hl:laidOutB P=true) {W W':World} (hb:Below W.heap.size W W'): ∀(ts:List TypeId) (vs:List Value) (ds:List (DataW H)) (ps:List MemPlace),(ts.all fun t=>P.readableRec t&&decide (t<P.types.size))=true->
  (∀x∈ps,x.block<W.heap.size)->DataW.TrodAll enc P W 0 (fun _=>true) true ts vs ds ps->DataW.TrodAll enc P W' 0 (fun b=>decide (b<W.heap.size)) true ts vs ds ps
 | [],vs,ds,ps,_,_,h=>by
  obtain ⟨rfl,rfl,rfl⟩:=trodAll_nil h
  exact trodAll_mk0
 |t::ts,vs,ds,ps,hr,hlt,h=>by
  simp only [List.all_cons,Bool.and_eq_true,decide_eq_true_eq] at hr
  obtain ⟨v,vs',d,ds',p0,q0,rfl,rfl,rfl,h1,h2⟩:=trodAll_cons h
  exact trodAll_cons_mk (Below.trod hl hr.1.1 hr.1.2 h1 hb fun x hx=>hlt x (List.mem_append_left _ hx)) (uN hl hb ts vs' ds' q0 hr.2 (fun x hx=>hlt x (List.mem_append_right _ hx)) h2)
theorem A5 {W:World} {base:Nat} {sp:Nat->Bool} {hd:Bool} : ∀(ts:List TypeId) (vs:List Value) (ds:List (DataW H)) (ps:List MemPlace),DataW.TrodAll enc P W base sp hd ts vs ds ps->ds.length=ts.length
 | [],vs,ds,ps,h=>by
  obtain ⟨rfl,rfl,rfl⟩:=trodAll_nil h
  rfl
 |t::ts,vs,ds,ps,h=>by
  obtain ⟨v,vs',d,ds',p0,q0,rfl,rfl,rfl,h1,h2⟩:=trodAll_cons h
  simp [A5 ts vs' ds' q0 h2]
theorem Fr.below {ax:jh} {W w:World} (h:Fr ax W w) (hn: ∀k,¬ax k):Below W.heap.size W w:=⟨h.os,h.tape,h.output,h.size,fun k hk=>h.block k hk (hn k)⟩
end
end Go.Ev
