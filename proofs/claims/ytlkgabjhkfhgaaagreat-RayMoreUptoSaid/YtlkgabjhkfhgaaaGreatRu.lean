/- Rows of laws that ask for arguments which are not too large. -/
import Derived.Test.YtlkgabjhkfhgaaaGreatRg
import Derived.JoinedCond
noncomputable section
set_option linter.unusedSectionVars false
set_option linter.unusedVariables false
set_option linter.unusedSimpArgs false
namespace Go.Ev
open Go.RowKit Go.ChangeShapes Go.WideShapes Go.ChangeAt
section
variable {H:Type} {enc:TypeId×Value->H} {P:Program} {tt:List (Nat×TI)}
theorem DE (hT:aO P tt) {n:FuncId} {fn:Func} {s:ChangeSpec} {S:dS} {tb:TypeId} {tc:List Nat} (hS:ak P n (av S)) (B:S.p.ty.T->Prop) (hpre: ∀x,B x->S.pre x) (hf: ∀x,B x-> ∀nm ρ,AV.af ρ (jo (aW 2 nm S.r (S.f x)).1)= .bool true)
  (hp:x8 tt fn.params.toList S.p=true) (Qy: ∀x,iG (aj (jx S.p x)) S.p (kW S.p x)=some (x,[],tc,true))
  (hl:laidOutB P=true) (hr:(fn.params.toList.all fun t=>P.readableRec t&&decide (t<P.types.size))=true) (hv:s.vars= [])
  (hs: ∀(H:Type) (ds:List (DataW H)),ds.length=fn.params.toList.length->s.fn H ds= {results:= [.lit (.bool true)],args:=ds})
  (hres:fn.resultTypes= #[tb]) (hb:P.underlying tb=some .bool)
  (W:World) (base:Nat) (args:Array Value) (ds gs:List (DataW H)) (before:List MemPlace)
  (hval: ∀(j:Nat) t v,fn.params[j]? =some t->args[j]? =some v->Value.okWide P W .any base t v)
  (hW:DataW.Whole enc P fn.params.toList s.vars false W args.toList ds gs before)
  (hB: ∀x xs,bK (pO W) (aW 0 0 S.p x).2 xs->(aW 0 0 S.p x).1.map (A0.af fun n=>xs.getD n {})=args.toList->B x):
  Calls P n args W fun e W'=> ∃v,e= .returned v/\ s.post enc P fn false true false false W args v W':=by
 have WD:=hW
 obtain ⟨p,q,hA,hV,rfl,hfz,ke⟩:=hW
 rw [hv] at hV
 obtain ⟨rfl,rfl⟩:=trodVars_none hV
 rw [List.append_nil] at WD
 obtain ⟨x,xs,Md,pR⟩:=ud hT fn.params.toList S.p 0 args.toList ds p hp (fun j t v h1 h2=>hval j t v (by simpa using h1) (by simpa using h2)) hA
 have hst:=St.begin Md
 have hargs:=pR (fun n=>xs.getD n {}) fun i y hi=>by
  rw [Nat.zero_add,List.getD_eq_getElem?_getD,hi];rfl
 have hBx:=hB x xs Md hargs
 obtain ⟨r,⟨_,hc⟩,hk⟩:=hS lQ (kW S.p x) (aj (jx S.p x)) (jx S.p x).length (fun r=> ∀ρ,AV.af ρ r.val= .bool true) (by
  unfold av
  rw [Qy x]
  exact ⟨hpre x hBx,fun y hy ρ=>by rw [hy];exact hf x hBx _ ρ⟩)
 have Be:=hc K2 W _ _ _ W (fun a v h=>h.elim) (fun a ha=>by
  obtain ⟨a0,h1,rfl⟩:=List.mem_map.1 ha
  exact A0.aT (fun m hm=>by simpa [jx] using hm.2) a0 (js 0 S.p x 0 a0 h1)) (fun _ _=>rfl) (fun i _ h=>by
   have h:(jx S.p x).length+i<(jx S.p x).length:=h
   omega) hst
 have e:((kW S.p x).map (AV.af fun n=>xs.getD n {})).toArray=args:=by
  unfold kW
  rw [List.map_map]
  have:(AV.af fun n=>xs.getD n {})∘AV.v=A0.af fun n=>xs.getD n {} :=rfl
  rw [this,hargs]
 rw [e] at Be
 refine Be.mono fun e' W' ⟨ρ',he,_,_,hst⟩=> ?_
 rw [hk ρ'] at he
 have Bb:=hst.fr.below fun _ h=>h
 have hlen:=sy _ _ _ _ hA
 refine ⟨_,he,ds,[],p,[],p,[],WD,?_,?_,?_,Bb.frame _,fun h=>by cases h⟩
 ·rw [List.append_nil,hs H ds hlen,hres]
  exact trodAll_mk1 (shut_bool hb true)
 ·rw [List.append_nil,hs H ds hlen]
  exact oD hl Bb _ _ _ _ hr (fun y hy=>by simpa using WD.lt y hy) hA
 ·rw [List.append_nil,hs H ds hlen,hv]
  rfl
end
end Go.Ev
