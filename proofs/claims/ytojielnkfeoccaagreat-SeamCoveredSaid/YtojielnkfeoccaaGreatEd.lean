/- Edges, by hand: the map's entries come in any order, and are sorted. -/
import Derived.Test.YtojielnkfeoccaaGreatMa
import Derived.Test.YtojielnkfeoccaaGreatEs
noncomputable section
set_option linter.unusedSectionVars false
set_option linter.unusedVariables false
set_option linter.unusedSimpArgs false
namespace Go.Proofs.YtojielnkfeoccaaGreat
open Go Go.Ev Go.Proofs
def jg:List (Nat×Ev.Spec):=(49,(Iz 50))::mQ
theorem sS:af Tryz.prog jg:=af.add (fn:=Tryz.f49) (by kernel_rfl) Si mG
def qU:List (Nat×iu):= [(50,fun _ _ _ _=>False)]
theorem Jt:aA Tryz.prog cT qU:=aA.cons (Enters.of (fn:=Tryz.f50) (by kernel_rfl) (by kernel_rfl) (by kernel_rfl)) (fun _ _ _ _ h=>h.elim) (aA.nil _ _)
abbrev Z3:nX:= .agg (Ty.prod (Ty.sl cj) (Ty.prod (Ty.sl aH) (Ty.prod (Ty.sl cj) (Ty.sl kB))))
abbrev Z4:nX:= .pair (.one (.sl tE)) (.one yi)
abbrev IZ:Type:=List I3×(List I2×List I3×List I9)
abbrev Lr:Type:=List (I2×List Int)
def Vm (p:I2×List Int):cA:=(p.1.1,p.1.2,p.2)
def LQ:Code:=cI (blk 0 (bh Tryz.f26))
def abT:Code->Code
 | .seq _ (.seq _ (.seq _ (.seq _ c)))=>c
 |_=> .skip
def Z1:Code:=abT (bh Tryz.f26)
def R9 (es:Array MapEntry) (ck:Nat) (l:Lr) (cur:Option (I2×Nat)) (out:List cA):AS:=
 ⟨[.dead,.dead,.dead,.dead,.v (.one (.full 0)),.dead,.dead,.dead,.dead,.dead,.dead,.dead,.v (.one (.ptr 1 0)),.dead,.dead,.dead,.dead,.dead,.dead,.dead,.dead,.dead,.dead,.dead,.dead,.dead,.dead,.dead,.dead,.dead],[.row tE out 2,.rj 2 3 es ck true aH yi l cur,.hmap es ck,.set 2,.gone]⟩
def Sb (out:List cA):AS:=⟨[.dead,.dead,.dead,.dead,.v (.one (.full 0)),.dead,.dead,.dead,.dead,.dead,.dead,.dead,.dead,.dead,.dead,.dead,.dead,.dead,.dead,.dead,.dead,.dead,.dead,.dead,.dead,.dead,.dead,.dead,.dead,.dead],[.row tE out 2]⟩
def Z6 (es:Array MapEntry) (ck:Nat) (l:Lr) (cur:Option (I2×Nat)) (out:List cA):AS:=
 ⟨[.dead,.dead,.dead,.dead,.v (.one (.full 0)),.dead,.dead,.dead,.dead,.dead,.dead,.dead,.v (.one (.ptr 1 0)),.lZ [.one (.raw (.bool false))],bH false,.dead,.dead,.dead,.dead,.dead,.dead,.dead,.dead,.dead,.dead,.dead,.dead,.dead,.dead,.dead],[.row tE out 2,.rj 2 3 es ck true aH yi l cur,.hmap es ck,.set 2,.gone]⟩
def kc (l:Lr) (i:Nat):List Cell:= [.raw (.int .i64 (lQ (k:=aH) (u:=yi) l i).1.1),.raw (.int .i64 (lQ (k:=aH) (u:=yi) l i).1.2)]
def Z7 (es:Array MapEntry) (ck:Nat) (l:Lr) (cur:Option (I2×Nat)) (out:List cA) (i:Nat):AS:=
 ⟨[.dead,.dead,.dead,.dead,.v (.one (.full 9)),.v (.one (.ptr 7 0)),.v (.one (.full 6)),.dead,.dead,.dead,.dead,.dead,.v (.one (.ptr 1 0)),.lZ [.one (.raw (.bool true)),.agg (kc l i),.one (.full 6)],bH true,.lZ [.agg (kc l i),.one (.full 6)],.v (.agg (kc l i)),.v (.one (.full 6)),.v (.one (.full 0)),.v (.one (.ptr 7 0)),eu .i64 (lQ (k:=aH) (u:=yi) l i).1.1,.v (.one (.ptr 7 1)),eu .i64 (lQ (k:=aH) (u:=yi) l i).1.2,.v (.one (.full 6)),.v (.agg (kc l i++ [.full 6])),.v (.one (.sl 8 0 1 1)),.v (.one (.full 9)),.dead,.dead,.dead],
  [.gone,.rj 2 5 es ck true aH yi (l.eraseIdx i) (some ((lQ (k:=aH) (u:=yi) l i).1,6)),.hmap es ck,.gone,.gone,.set 2,.gone,.cells (kc l i) 117,.cells (kc l i++ [.full 6]) 78,.row tE (out++ [Vm (lQ (k:=aH) (u:=yi) l i)]) 2]⟩
theorem Ya (es:Array MapEntry) (ck:Nat) (l:Lr) (cur:Option (I2×Nat)) (out:List cA) (K:Exit->AS->Prop):cK ⟨tt,jg,cT,[],[],qU⟩ LQ (R9 es ck l cur out) K=
  (es=es/\ ck=ck/\ (l= []->K (.exit 0) (Z6 es ck l cur out))/\ ∀i,i<l.length->es=es/\ ck=ck/\ ob (decide (out.length+1<1099511627776)) (K .normal (Z7 es ck l cur out i))):=by kernel_rfl
def Sc:bE:=fun st K=> ∃es ck,∃l:Lr,mS st (R9 es ck l none [])/\ l.length<1099511627776/\ ∀L':Lr,L'.Perm l->K .normal (Sb (L'.map Vm))
theorem W8 (es:Array MapEntry) (ck:Nat) (l:Lr) (cur:Option (I2×Nat)) (out:List cA) (i:Nat):mS (Z7 es ck l cur out i) (R9 es ck (l.eraseIdx i) (some ((lQ (k:=aH) (u:=yi) l i).1,4)) (out++ [Vm (lQ (k:=aH) (u:=yi) l i)])):=
 ej (π:= [.same 9,.same 1,.same 2,.same 5,.same 6]) (And.intro rfl (And.intro rfl trivial)) (And.intro (ah rfl rfl) (And.intro (ah rfl rfl) (And.intro (ah rfl rfl) (And.intro (ah rfl rfl) trivial)))) rfl
theorem W7 (es:Array MapEntry) (ck:Nat) (l:Lr) (cur:Option (I2×Nat)) (out:List cA):mS (Z6 es ck l cur out) (Sb out):=
 ej (π:= [.same 0]) (And.intro rfl trivial) (And.intro (ah rfl rfl) trivial) rfl
theorem CJ {α:Type} : ∀ {l:List α} {i:Nat} (h:i<l.length),(l[i]::l.eraseIdx i).Perm l
 |a::l,0,h=>List.Perm.refl _
 |a::l,i+1,h=>(List.Perm.swap a (l[i]'(by simpa using h)) (l.eraseIdx i)).trans ((CJ (l:=l) (i:=i) (by simpa using h)).cons a)
theorem MD {l:Lr} {i:Nat} (h:i<l.length):(lQ (k:=aH) (u:=yi) l i::l.eraseIdx i).Perm l:=by
 have e:lQ (k:=aH) (u:=yi) l i=l[i]:=by
  unfold lQ
  rw [List.getD_eq_getElem?_getD,List.getElem?_eq_getElem h];rfl
 rw [e]
 exact CJ h
theorem VM (st:AS) (K:Exit->AS->Prop) (h:Sc st K):cK ⟨tt,jg,cT,[],[],qU⟩ (.loop LQ) st (jK 0 (ja K)):=by
 obtain ⟨es,ck,l0,hw,hl,hK⟩:=h
 refine ⟨fun m st=> ∃l cur,∃D:Lr,st=R9 es ck l cur (D.map Vm)/\ (D++l).Perm l0/\ m=l.length,⟨l0.length,_,hw,l0,none,[],rfl,List.Perm.refl _,rfl⟩,?_⟩
 rintro m st1 ⟨l,cur,D,rfl,hp,rfl⟩
 rw [Ya]
 have hlen:=hp.length_eq
 rw [List.length_append] at hlen
 refine ⟨rfl,rfl,fun hl0=> ?_,fun i hi=>⟨rfl,rfl,kN (decide_eq_true (by rw [List.length_map];omega)) ?_⟩⟩
 ·subst hl0
  show ja K .normal _
  rw [List.append_nil] at hp
  exact ⟨_,W7 _ _ _ _ _,hK D hp⟩
 ·refine ⟨(l.eraseIdx i).length,_,by rw [List.length_eraseIdx_of_lt hi];omega,W8 _ _ _ _ _ _,_,_,D++ [lQ (k:=aH) (u:=yi) l i],by rw [List.map_append];rfl,?_,rfl⟩
  rw [List.append_assoc]
  exact (List.Perm.append_left D (MD hi)).trans hp
def edT (x:IZ) (y:Bool):List AV:= [.v (.agg [.full 0,.full 1,.full 2,.full 3]),.v (.one (.ptr 4 0)),.v (.one (.raw (.slice none 0 0))),eu .i64 0,aT,aT,aT,.v (.agg [.full 0,.full 1,.full 2,.full 3]),bH y,bH !y,aT,aT,aT,aT,aT,aT,aT,aT,aT,aT,aT,aT,aT,aT,aT,aT,aT,aT,aT,aT]
def Z2 (x:IZ):List aQ:= [.row cj x.1 0,.row aH x.2.1 0,.row cj x.2.2.1 0,.row kB x.2.2.2 0,.cells [.full 0,.full 1,.full 2,.full 3] 41]
def Z5 (x:IZ) (y:Bool) (l:Lr) (es:Array MapEntry) (ck:Nat):AS:=
 ⟨[.v (.agg [.full 0,.full 1,.full 2,.full 3]),.v (.one (.ptr 4 0)),.v (.one (.raw (.slice none 0 0))),eu .i64 0,.v (.one (.raw (.slice none 0 0))),aT,aT,.v (.agg [.full 0,.full 1,.full 2,.full 3]),bH y,bH !y,.v (.agg [.full 0,.full 1,.full 2,.full 3]),.v (.one (.mp 5)),.v (.one (.ptr 7 0)),aT,aT,aT,aT,aT,aT,aT,aT,aT,aT,aT,aT,aT,aT,aT,aT,aT],[.row cj x.1 0,.row aH x.2.1 0,.row cj x.2.2.1 0,.row kB x.2.2.2 0,.cells [.full 0,.full 1,.full 2,.full 3] 41,.hmap es ck,.set 5,.rj 5 6 es ck true aH yi l none]⟩
theorem X9 (x:IZ) (L:bE) (K:Exit->AS->Prop):cK ⟨tt,jg,cT,[(0,L)],[],qU⟩ (bh Tryz.f26) ⟨jy Z3 x++List.replicate 29 aT,jB Z3 x⟩ K=
  (kL x/\ ∀y,y=pe x->cB (!y) (K .ret ⟨(edT x y).set 3 (eu .i64 1),Z2 x⟩) (ng x/\ ∀l:Lr,l=jq x-> ∀es ck,L (Z5 x y l es ck) fun e st'=>match e with| .normal=>cK ⟨tt,jg,cT,[(0,L)],[],qU⟩ Z1 st' K|e=>K e st')):=by kernel_rfl
theorem Yb (out:List cA) (L:bE) (K:Exit->AS->Prop):cK ⟨tt,jg,cT,[(0,L)],[],qU⟩ Z1 (Sb out) K=
  ob (decide (out.length<1099511627776)) ((out.map qm).Nodup/\ ∀l',l'=eM out->K .ret ⟨(((((Sb out).tmps.set 27 (.v (.one (.full 0)))).set 28 aT).set 29 (.v (.one (.full 0)))).set 2 (.v (.one (.full 0)))).set 3 (eu .i64 0),[.row tE l' 2]⟩):=by kernel_rfl
theorem W6 (x:IZ) (y:Bool) (l:Lr) (es:Array MapEntry) (ck:Nat):mS (Z5 x y l es ck) (R9 es ck l none []):=
 ej (π:= [.nil,.same 7,.same 5,.same 6,.nil]) (And.intro rfl (And.intro rfl trivial)) (And.intro WN (And.intro (ah rfl rfl) (And.intro (ah rfl rfl) (And.intro (ah rfl rfl) trivial)))) rfl
theorem acH (x:IZ) (y:Bool) (Q:List cA×Int->Prop) (specs:List (Nat×Ev.Spec)) (lp:List (Nat×bE)):EM ⟨tt,specs,cT,lp,[],qU⟩ Tryz.f26 ⟨(edT x y).set 3 (eu .i64 1),Z2 x⟩ (vB Z4 Q)=Q ([],1):=by kernel_rfl
theorem acI (out l':List cA) (Q:List cA×Int->Prop) (specs:List (Nat×Ev.Spec)) (lp:List (Nat×bE)):EM ⟨tt,specs,cT,lp,[],qU⟩ Tryz.f26 ⟨(((((Sb out).tmps.set 27 (.v (.one (.full 0)))).set 28 aT).set 29 (.v (.one (.full 0)))).set 2 (.v (.one (.full 0)))).set 3 (eu .i64 0),[.row tE l' 2]⟩ (vB Z4 Q)=Q (l',0):=by kernel_rfl
def iZ (x:IZ):List cA×Int:=if pe x=true then (eM ((jq x).map Vm),0) else ([],1)
def ql (x:IZ):Prop:=kL x/\ (pe x=true->ng x/\ (jq x).length<1099511627776/\ ((jq x).map (·.1)).Nodup)
abbrev wD:fg:=⟨Z3,Z4,ql,iZ⟩
theorem Nn {a b:List cA} (h:a.Perm b) (hn:(b.map qm).Nodup):eM a=eM b:=by
 have p1:(eM a).Perm (eM b):=(List.mergeSort_perm _ _).trans (h.trans (List.mergeSort_perm _ _).symm)
 have nt: ∀x y:cA,(!FG y x)=true↔ ¬(y.1<x.1\/ (y.1=x.1/\ y.2.1<x.2.1)):=fun x y=>by
  rw [<- BZ];cases FG y x<;>simp
 have tot: ∀x y:cA,(!FG y x)=true\/ (!FG x y)=true:=fun x y=>by
  rw [nt,nt];omega
 have tr: ∀x y z:cA,(!FG y x)=true->(!FG z y)=true->(!FG z x)=true:=fun x y z=>by
  rw [nt,nt,nt];omega
 have s1:(eM a).Pairwise fun x y=>(!FG y x)=true:=List.pairwise_mergeSort (le:=fun x y=> !FG y x) (fun x y z=>tr x y z) (fun x y=>by rcases tot x y with h|h<;>simp [h]) a
 have s2:(eM b).Pairwise fun x y=>(!FG y x)=true:=List.pairwise_mergeSort (le:=fun x y=> !FG y x) (fun x y z=>tr x y z) (fun x y=>by rcases tot x y with h|h<;>simp [h]) b
 have hnb:((eM b).map qm).Nodup:=(((List.mergeSort_perm b _).map qm).nodup_iff).2 hn
 refine p1.eq_of_pairwise (le:=fun x y=>(!FG y x)=true) (fun x y hx hy h1 h2=> ?_) s1 s2
 have hk:qm x=qm y:=by
  simp only [Bool.not_eq_true',B0] at h1 h2
  unfold qm
  rw [Prod.mk.injEq]
  exact ⟨by omega,by omega⟩
 have hx':x∈eM b:=p1.subset hx
 have:=List.pairwise_iff_getElem.1 hnb
 obtain ⟨i,hi,e1⟩:=List.getElem_of_mem hx'
 obtain ⟨j,hj,e2⟩:=List.getElem_of_mem hy
 have hi2:i<((eM b).map qm).length:=by simpa using hi
 have hj2:j<((eM b).map qm).length:=by simpa using hj
 have f1:((eM b).map qm)[i]=qm x:=by rw [List.getElem_map,e1]
 have f2:((eM b).map qm)[j]=qm y:=by rw [List.getElem_map,e2]
 rcases Nat.lt_trichotomy i j with h|h|h
 ·exact absurd (f1.trans (hk.trans f2.symm)) (this i j hi2 hj2 h)
 ·subst h;rw [<- e1,e2]
 ·exact absurd (f2.trans (hk.symm.trans f1.symm)) (this j i hj2 hi2 h)
theorem Jv (L:Lr):(L.map Vm).map qm=L.map (·.1):=by
 rw [List.map_map];rfl
theorem acE {b:Bool} {p q:Prop} (h1:b=true->p) (h2:b=false->q):cB b p q:=by
 cases b with
 |true=>exact h1 rfl
 |false=>exact h2 rfl
theorem P0:ak Tryz.prog 26 (aq wD):=by
 refine ak.fnT (fn:=Tryz.f26) (s:=wD) aD sS mixed (by kernel_rfl) (by kernel_rfl) rfl fun x hx=>⟨[(0,Sc)],qU,Jt,?_,?_⟩
 ·exact ay.cons aD (af.eO sS Jt) mixed ay.nil (by kernel_rfl) (show bF 0 (bh Tryz.f26)=some (.loop LQ) by kernel_rfl) VM
 ·obtain ⟨h1,h2⟩:=hx
  have key:cK ⟨tt,jg,cT,[(0,Sc)],[],qU⟩ (bh Tryz.f26) ⟨jy Z3 x++List.replicate 29 aT,jB Z3 x⟩ (fun e st=>match e with
    | .ret=>EM ⟨tt,jg,cT,[(0,Sc)],[],qU⟩ Tryz.f26 st (vB Z4 (· =iZ x))
    | .normal=>EM ⟨tt,jg,cT,[(0,Sc)],[],qU⟩ Tryz.f26 st (vB Z4 (· =iZ x))
    |_=>False):=by
   rw [X9]
   refine ⟨h1,fun y hy=> ?_⟩
   subst hy
   refine acE (fun hm=> ?_) fun hm=> ?_
   ·have hm:pe x=false:=by simpa using hm
    refine (acH x _ _ _ _).mpr ?_
    unfold iZ
    rw [hm,if_neg (by decide)]
   ·have hm:pe x=true:=by simpa using hm
    obtain ⟨h3,h4,h5⟩:=h2 hm
    refine ⟨h3,fun l hl es ck=>⟨es,ck,l,W6 _ _ _ _ _,by rw [hl];exact h4,fun L' hp=> ?_⟩⟩
    subst hl
    have ur:((L'.map Vm).map qm).Nodup:=by
     rw [Jv];exact ((hp.map (·.1)).nodup_iff).2 h5
    refine (Yb _ _ _).mpr (kN (decide_eq_true (by rw [List.length_map,hp.length_eq];exact h4)) ⟨ur,fun l' hl'=> ?_⟩)
    refine (acI _ _ _ _ _).mpr ?_
    unfold iZ
    rw [hm,if_pos rfl,hl',Nn (hp.map Vm) (by rw [Jv];exact h5)]
  exact key
def DX:List (Nat×Ev.Spec):=(26,aq wD)::jg
theorem EU:af Tryz.prog DX:=af.add (fn:=Tryz.f26) (by kernel_rfl) P0 sS
end Go.Proofs.YtojielnkfeoccaaGreat
