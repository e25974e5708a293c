import Derived.Test.YtngdehlpoomaiaaGreatRows
import Derived.Test.YtngdehlpoomaiaaGreatChecked
import Derived.Test.YtngdehlpoomaiaaGreatRg
import Derived.ProofKit
import Derived.JoinedCond
import Derived.Test.YtngdehlpoomaiaaGreatMk
/- What rows take of the program. -/
noncomputable section
set_option linter.unusedSectionVars false
set_option linter.unusedVariables false
set_option linter.unusedSimpArgs false
namespace Go.Proofs.YtngdehlpoomaiaaGreat
open Go Go.Ev Go.Proofs Go.ChangeShapes Go.WideShapes Go.ChangeAt Go.RowKit
theorem own:ownKnob Tryz.prog.godebug=none:=by kernel_rfl
theorem laidOut:laidOutB Tryz.prog=true:=by kernel_rfl
end Go.Proofs.YtngdehlpoomaiaaGreat
end
/- Rows of laws that ask for arguments which are not too large. -/
noncomputable section
set_option linter.unusedSectionVars false
set_option linter.unusedVariables false
set_option linter.unusedSimpArgs false
namespace Go.Ev
open Go.RowKit Go.ChangeShapes Go.WideShapes Go.ChangeAt
section
variable {H:Type} {enc:TypeId×Value->H} {P:Program} {tt:List (Nat×TI)}
theorem IC (hT:cP P tt) {n:FuncId} {fn:Func} {s:ChangeSpec} {S:bY} {tb:TypeId} {tc:List Nat} (hS:ai P n (ak S)) (B:S.p.ty.T->Prop) (hpre: ∀x,B x->S.pre x) (hf: ∀x,B x-> ∀nm ρ,AV.ae ρ (ji (aW 2 nm S.r (S.f x)).1)= .bool true)
  (hp:DH tt fn.params.toList S.p=true) (ag6: ∀x,eY (aj (c9 S.p x)) S.p (cq S.p x)=some (x,[],tc,true))
  (hl:laidOutB P=true) (hr:(fn.params.toList.all fun t=>P.readableRec t&&decide (t<P.types.size))=true) (hv:s.vars= [])
  (hs: ∀(H:Type) (ds:List (DataW H)),ds.length=fn.params.toList.length->s.fn H ds= {results:= [.lit (.bool true)],args:=ds})
  (hres:fn.resultTypes= #[tb]) (hb:P.underlying tb=some .bool)
  (W:World) (base:Nat) (args:Array Value) (ds gs:List (DataW H)) (before:List MemPlace)
  (hval: ∀(j:Nat) t v,fn.params[j]? =some t->args[j]? =some v->Value.okWide P W .any base t v)
  (hW:DataW.Whole enc P fn.params.toList s.vars false W args.toList ds gs before)
  (hB: ∀x xs,bG (rW W) (aW 0 0 S.p x).2 xs->(aW 0 0 S.p x).1.map (A0.ae fun n=>xs.getD n {})=args.toList->B x):
  Calls P n args W fun e W'=> ∃v,e= .returned v/\ s.post enc P fn false true false false W args v W':=by
 have hW':=hW
 obtain ⟨p,q,hA,hV,rfl,hfz,gU⟩:=hW
 rw [hv] at hV
 obtain ⟨rfl,rfl⟩:=trodVars_none hV
 rw [List.append_nil] at hW'
 obtain ⟨x,xs,hx1,Z5⟩:=EO hT fn.params.toList S.p 0 args.toList ds p hp (fun j t v h1 h2=>hval j t v (by simpa using h1) (by simpa using h2)) hA
 have hst:=St.begin hx1
 have hargs:=Z5 (fun n=>xs.getD n {}) fun i y hi=>by
  rw [Nat.zero_add,List.getD_eq_getElem?_getD,hi];rfl
 have hBx:=hB x xs hx1 hargs
 obtain ⟨r,⟨_,hc⟩,hk⟩:=hS cf (cq S.p x) (aj (c9 S.p x)) (c9 S.p x).length (fun r=> ∀ρ,AV.ae ρ r.val= .bool true) (by
  unfold ak
  rw [ag6 x]
  exact ⟨hpre x hBx,fun y hy ρ=>by rw [hy];exact hf x hBx _ ρ⟩)
 have ZE:=hc xw W _ _ _ W (fun a v h=>h.elim) (fun a ha=>by
  obtain ⟨a0,h1,rfl⟩:=List.mem_map.1 ha
  exact A0.aR (fun m hm=>by simpa [c9] using hm.2) a0 (gW 0 S.p x 0 a0 h1)) (fun _ _=>rfl) (fun i _ h=>by
   have h:(c9 S.p x).length+i<(c9 S.p x).length:=h
   omega) hst
 have e:((cq S.p x).map (AV.ae fun n=>xs.getD n {})).toArray=args:=by
  unfold cq
  rw [List.map_map]
  have:(AV.ae fun n=>xs.getD n {})∘AV.v=A0.ae fun n=>xs.getD n {} :=rfl
  rw [this,hargs]
 rw [e] at ZE
 refine ZE.mono fun e' W' ⟨ρ',he,_,_,hst⟩=> ?_
 rw [hk ρ'] at he
 have ZD:=hst.fr.below fun _ h=>h
 have hlen:=Dn _ _ _ _ hA
 refine ⟨_,he,ds,[],p,[],p,[],hW',?_,?_,?_,ZD.frame _,fun h=>by cases h⟩
 ·rw [List.append_nil,hs H ds hlen,hres]
  exact trodAll_mk1 (shut_bool hb true)
 ·rw [List.append_nil,hs H ds hlen]
  exact xO hl ZD _ _ _ _ hr (fun y hy=>by simpa using hW'.lt y hy) hA
 ·rw [List.append_nil,hs H ds hlen,hv]
  rfl
end
end Go.Ev
end
/- Where the rows that come in are of bulk at most 1048576, GatherEach returns true, and each argument reads behind the call as it read before: no further condition. -/
noncomputable section
set_option linter.unusedSectionVars false
set_option linter.unusedVariables false
set_option linter.unusedSimpArgs false
namespace Go.Proofs.YtngdehlpoomaiaaGreat
open Go Go.Ev Go.Proofs Go.ChangeShapes Go.WideShapes Go.ChangeAt Go.RowKit
theorem NG {H:Type} : ∀l:List (DataW H),l.length<=Rows.uptoBulkAll l
 | []=>Nat.le_refl _
 |d::r=>by
  have h1:1<=Rows.uptoBulk d:=by cases d<;>first|(simp only [Rows.uptoBulk];omega)|(rename_i x;cases x<;>simp only [Rows.uptoBulk]<;>omega)
  have h2:=NG r
  simp only [List.length_cons,Rows.uptoBulkAll];omega
theorem GI {H:Type} {enc:TypeId×Value->H} {P:Program} {w:World} {b0:Nat} {sp:Nat->Bool} {hd:Bool} {t e:TypeId} {a:Option Addr} {len cap:Nat} {d:DataW H} {p:List MemPlace} (ht:P.underlying t=some (.slice e))
  (h:DataW.Trod enc P w b0 sp hd t (.slice a len cap) d p):len<=Rows.uptoBulk d:=by
 obtain ⟨fuel,h⟩:=h
 rcases DataW.trod_slice ht h with ⟨h1,_⟩|⟨a',len',cap',el,rest,n,_,h1,h2,_,_,_,h3,_⟩
 ·simp only [Value.cells] at h1
  cases h1
  exact Nat.zero_le _
 ·simp only [Value.cells] at h1
  cases h1
  cases h2
  have:=NG (el.map (·.1))
  rw [List.length_map] at this
  simp only [Rows.uptoBulk];omega
set_option maxRecDepth 100000 in
theorem gatherEach_lifted (os:Os) (started:os.Started) (H:Type) (enc:TypeId×Value->H) (F:Stop.Interp):
  ReturnsInHanded {} Tryz.checked os 6 .any ((Rows.OpenSpec.upto Rows.gatherEachSpec).pre6 enc Tryz.prog Tryz.f6 Rows.gatherEachUptoRow.domain false) (((Rows.OpenSpec.upto Rows.gatherEachSpec).at F).post enc Tryz.prog Tryz.f6 false true false false):=by
 refine returnsInHanded_of_cond (C:=Tryz.checked) (s:=Rows.OpenSpec.upto Rows.gatherEachSpec) (k:=Rows.uptoSmall) rfl own started (by kernel_rfl) Tryz.func6
  (OpenSpec.witness (enc:=enc) (C:=Tryz.checked) (s:=Rows.OpenSpec.upto Rows.gatherEachSpec) (k:=Rows.uptoSmall) rfl false ⟨#[],#[.slice none 0 0,.agg #[.int .i64 0,.int .i64 0,.int .i64 0,.int .i64 0,.slice none 0 0],.slice none 0 0,.slice none 0 0],[]⟩ 8 (by kernel_rfl) (by kernel_rfl) (by kernel_rfl)
   (x:=([.nil,.agg [.lit (.int .i64 0),.lit (.int .i64 0),.lit (.int .i64 0),.lit (.int .i64 0),.nil],.nil,.nil],[],[])) (by kernel_rfl) rfl rfl) ?_
 intro W base args ds gs before hval hW _ hk _
 refine IC (S:=BR) aA Sb (fun x=>x.2.2.1.length+x.2.2.2.length<=4611686018427387904) (fun x h=>(CO x h).1) (fun x h nm ρ=>congrArg (fun z:Bool=>AV.ae ρ (vb z)) (CO x h).2) (tc:= [0,1,2,3]) (by kernel_rfl) (fun x=>by kernel_rfl) laidOut (by kernel_rfl) rfl
  (fun H ds h=>by
   match ds,h with
   | [d0,d1,d2,d3],_=>rfl) (by kernel_rfl) (tb:=4) (by kernel_rfl) W base args ds gs before hval hW ?_
 intro x xs hx1 Z5
 obtain ⟨p,q,hA,_,_⟩:=hW
 have ep:Tryz.f6.params.toList= [22,25,50,50]:=by kernel_rfl
 rw [ep] at hA
 match xs,hx1,Z5 with
 | [y0,y1,y2,y3],hx1,Z5=>
  have g2:y2.len=x.2.2.1.length:=hx1.2.2.1.2.2.1
  have g3:y3.len=x.2.2.2.length:=hx1.2.2.2.1.2.2.1
  have ea:args.toList= [.slice y0.base y0.len y0.cap,.agg #[.int .i64 x.2.1.1,.int .i64 x.2.1.2.1,.int .i64 x.2.1.2.2.1,.int .i64 x.2.1.2.2.2.1,.slice y1.base y1.len y1.cap],.slice y2.base y2.len y2.cap,.slice y3.base y3.len y3.cap]:=Z5.symm
  rw [ea] at hA
  obtain ⟨_,_,d0,ds',p0,q0,e1,rfl,rfl,h1,h2⟩:=trodAll_cons hA
  cases e1
  obtain ⟨_,_,d1,aor,p1,q1,e2,rfl,rfl,h3,h4⟩:=trodAll_cons h2
  cases e2
  obtain ⟨_,_,d2,ds3,p2,q2,e3,rfl,rfl,h5,h6⟩:=trodAll_cons h4
  cases e3
  obtain ⟨_,_,d3,ds4,p3,q3,e4,rfl,rfl,h7,h8⟩:=trodAll_cons h6
  cases e4
  have u:Tryz.prog.underlying 50=some (.slice 97):=by kernel_rfl
  have b0:=GI u h5
  have b1:=GI u h7
  have hk:Rows.uptoBulkAll ((d0::d1::d2::d3::ds4)++gs)<=1048576:=of_decide_eq_true hk
  simp only [List.cons_append,Rows.uptoBulkAll] at hk
  omega
theorem gatherEach_holds:Rows.GatherEachUptoSaid:=
 OpenClaim.holds_of_cond 6 Tryz.f6 rfl rfl rfl rfl rfl rfl rfl ⟨rfl,rfl,rfl,rfl,rfl⟩ rfl rfl rfl rfl rfl (by kernel_rfl) Tryz.func6 (by kernel_rfl)
  (of_decide_eq_true (by kernel_rfl)) (by unfold Func.isWrapper;first|(rw [if_pos (by decide+kernel)];kernel_rfl)|(rw [if_neg (by decide+kernel)];exact ⟨rfl,rfl⟩))
  (fun os started H enc _ F=>gatherEach_lifted os started H enc F)
#print axioms gatherEach_holds
end Go.Proofs.YtngdehlpoomaiaaGreat
end
