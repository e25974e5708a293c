/- Functions that write rows which they are handed. -/
import Derived.Test.YtojielnkfeoccaaGreatEvR
import Derived.Sort.Grow
import Derived.Lib.SlicesCompact
noncomputable section
set_option linter.unusedSectionVars false
set_option linter.unusedVariables false
set_option linter.unusedSimpArgs false
namespace Go.Ev
open Go.RowKit
inductive Pm
 |val (p:nX)
 |row (t:Ty)
 |ptr (t:Ty) (e:TypeId)
 |pair (a b:Pm)
@[reducible] def Pm.ty:Pm->Ty
 | .val p=>p.ty
 | .row t=> .sl t
 | .ptr t _=>t
 | .pair a b=> .prod a.ty b.ty
@[reducible] def Pm.out:Pm->Ty
 | .val _=> .bool
 | .row t=> .sl t
 | .ptr t _=>t
 | .pair a b=> .prod a.out b.out
structure ae8 where
 n:Nat
 rk:Nat
 m:Nat
 a:aQ
 b:aQ
 c:aQ
 d:aQ
structure FnW where
 p:Pm
 r:nX
 pre:p.ty.T->Prop
 f:p.ty.T->r.ty.T×p.out.T
end Go.Ev
namespace Go.Ev
open Go.RowKit
section
variable {P:Program} {tt:List (Nat×TI)} {specs:List (Nat×Spec)}
end
namespace Tr
variable {τ:Type}
end Tr
end Go.Ev
namespace Go.Ev
open Go.RowKit
structure XW where
 tb:Ty
 tv:Ty
 f:FuncId
 eT:TypeId
 eF:TypeId
 eG:TypeId
@[reducible] def XW.ty (d:XW):Ty:= .prod (.sl (.int .i64)) (.prod (.sl d.tv) (.sl d.tb))
structure FnO where
 p:XW
 pre:p.ty.T->Prop
 f:p.ty.T->List p.tb.T
section
variable {ax:jh} {W:World} {ρ:Env} {Kn:Nat->Prop} {Γ:HP} {w:World}
end
section
variable {P:Program} {tt:List (Nat×TI)} {specs:List (Nat×Spec)}
end
namespace Tr
variable {τ:Type}
end Tr
section
variable {P:Program} {tt:List (Nat×TI)} {specs:List (Nat×Spec)}
end
end Go.Ev
namespace Go.Ev
open Go.RowKit
structure XT where
 ka:Bool
 k:Ty
 u:Ty
structure ZP where
 p:nX
 r:XT
 pre:p.ty.T->Prop
 f:p.ty.T->List (r.k.T×List r.u.T)
def Xg (k' u' k u:Ty) (l:List (k'.T×List u'.T)):Option (List (k.T×List u.T)):=jU (.prod k' (.sl u')) (.prod k (.sl u)) l
def wT (s:ZP):Spec:=fun _ args hp nm k=>match wB hp s.p args with
 |some (x,[],tc,b)=>ob b (s.pre x/\ ∀y,y=s.f x->k {val:= .v (.one (.mp nm)),fresh:= [.jO s.r.ka s.r.k s.r.u y (nm+1) none,.set nm],aB:=tc})
 |_=>False
def setOf (o:Option aQ) (n:Nat):Bool:=match o with
 |some (.set m)=>Nat.beq m n
 |_=>false
theorem Nh {o:Option aQ} {n:Nat} (h:setOf o n=true):o=some (.set n):=by
 unfold setOf at h
 split at h
 ·rw [Nat.eq_of_beq_eq_true h]
 ·cases h
def Zh (r:XT) (Q:List (r.k.T×List r.u.T)->Prop) (v:AV) (st:AS):Prop:=match v with
 | .v (.one (.mp n))=>match av st.heap n with
  |some (.jO ka k u l c none)=>if ka=r.ka/\ setOf (av st.heap c) n=true then (match Xg k u r.k r.u l with
   |some l'=>Q l'
   |none=>False) else False
  |_=>False
 |_=>False
theorem St.aaj {ax:jh} {W:World} {ρ cJ:Env} {Kn Kn1:Nat->Prop} {Γ uP:HP} {w w':World} {nm n c:Nat} {ka:Bool} {k u:Ty} {l:List (k.T×List u.T)} {v:AV} {tc:List Nat} (h:St ax W ρ Kn Γ w) (Mb: ¬Kn nm) (yP: ¬Kn (nm+1))
  (h1:St Kg w cJ Kn1 uP w') (hg:uP n=some (.jO ka k u l c Option.none)) (hc:uP c=some (.set n)):
  ∃ρ',(∀m,Kn m->ρ' m=ρ m)/\ ρ' nm=cJ n/\ St ax W ρ' (iK Kn nm {val:=v,fresh:= [.jO ka k u l (nm+1) Option.none,.set nm],aB:=tc}) (cq {val:=v,fresh:= [.jO ka k u l (nm+1) Option.none,.set nm],aB:=tc} nm Γ) w':=by
 let ρ':Env:=fun m=>if m=nm then cJ n else if m=nm+1 then cJ c else ρ m
 have hnc:n≠c:=by rintro rfl;rw [hg] at hc;cases hc
 have r0:ρ' nm=cJ n:=by simp [ρ']
 have r1:ρ' (nm+1)=cJ c:=by simp [ρ']
 have hold: ∀m,Kn m->ρ' m=ρ m:=fun m hm=>by
  have a1:m≠nm:=by rintro rfl;exact Mb hm
  have a2:m≠nm+1:=by rintro rfl;exact yP hm
  simp [ρ',a1,a2]
 obtain ⟨r,hr⟩: ∃r:Rec,r= {val:=v,fresh:= [.jO ka k u l (nm+1) Option.none,.set nm],aB:=tc} :=⟨_,rfl⟩
 rw [<- hr]
 have cm: ∀m o,cq r nm Γ m=some o->(m=nm/\ o= .jO ka k u l (nm+1) Option.none)\/ (m=nm+1/\ o= .set nm)\/ (m≠nm/\ m≠nm+1/\ Γ m=some o/\ Kn m):=by
  intro m o ho
  rw [hr] at ho
  simp only [cq,ct,List.length_cons,List.length_nil] at ho
  by_cases e0:m=nm
  ·subst e0
   rw [if_pos (by omega)] at ho
   simp only [Nat.sub_self,List.getElem?_cons_zero,live,Option.some.injEq] at ho
   exact .inl ⟨rfl,ho.symm⟩
  ·by_cases e1:m=nm+1
   ·subst e1
    rw [if_pos (by omega)] at ho
    simp only [show nm+1- nm=1 by omega,List.getElem?_cons_succ,List.getElem?_cons_zero,live,Option.some.injEq] at ho
    exact .inr (.inl ⟨rfl,ho.symm⟩)
   ·rw [if_neg (by omega)] at ho
    exact .inr (.inr ⟨e0,e1,ho,(h.kn m o ho).1⟩)
 have kK: ∀m,iK Kn nm r m↔Kn m\/ m=nm\/ m=nm+1:=fun m=>by
  rw [hr]
  simp only [iK,List.length_cons,List.length_nil]
  constructor
  ·rintro (h|h)
   ·exact .inl h
   ·exact .inr (by omega)
  ·rintro (h|h)
   ·exact .inl h
   ·exact .inr (by omega)
 have hgs:(uP n).isSome=true:=by rw [hg];rfl
 have hcs:(uP c).isSome=true:=by rw [hc];rfl
 have Yo: ∀b,b<w.heap.size->w'.heap[b]? =w.heap[b]? :=fun b hb=>h1.fr.block b hb id
 have hnb: ∀m b,(uP m).isSome=true->(cJ m).has b->w.heap.size<=b:=fun m b hs hb=>(h1.mA m b hs hb).elim id fun e=>e.elim
 have mw: ∀m o b,Γ m=some o->(ρ m).has b->b<w.heap.size:=fun m o b ho hb=>h.lt m b (by rw [ho];rfl) hb
 have who: ∀m b,(cq r nm Γ m).isSome=true->(ρ' m).has b->(m=nm/\ (cJ n).has b/\ w.heap.size<=b)\/ (m=nm+1/\ (cJ c).has b/\ w.heap.size<=b)\/ ((Γ m).isSome=true/\ (ρ m).has b/\ b<w.heap.size):=fun m b hm hb=>by
  obtain ⟨o,ho⟩:=Option.isSome_iff_exists.1 hm
  rcases cm m o ho with ⟨rfl,_⟩|⟨rfl,_⟩|⟨_,_,h3,h4⟩
  ·rw [r0] at hb;exact .inl ⟨rfl,hb,hnb _ b hgs hb⟩
  ·rw [r1] at hb;exact .inr (.inl ⟨rfl,hb,hnb _ b hcs hb⟩)
  ·rw [hold m h4] at hb;exact .inr (.inr ⟨by rw [h3];rfl,hb,mw m o b h3 hb⟩)
 have Bj: ∀b,HI (cq r nm Γ) b->HI Γ b:=fun b ⟨m,S,h2,h3⟩=>by
  rcases cm m _ h2 with ⟨_,e⟩|⟨_,e⟩|⟨_,_,e,_⟩
  ·cases e
  ·cases e
  ·exact ⟨m,S,e,h3⟩
 have hsz:=h.fr.size
 have adC:=h1.fr.size
 have hfz: ∀b,gW ρ Γ w b->gW ρ' (cq r nm Γ) w' b/\ w'.heap[b]? =w.heap[b]? :=fun b hb=>by
  have hlt:=hb.1.lt
  refine ⟨⟨hb.1.same (Yo b hlt),?_⟩,Yo b hlt⟩
  rintro (⟨m,h2,h3⟩|h2)
  ·rcases who m b h2 h3 with ⟨_,_,h4⟩|⟨_,_,h4⟩|⟨h4,h5,_⟩
   ·omega
   ·omega
   ·exact hb.2 (.inl ⟨m,h4,h5⟩)
  ·exact hb.2 (.inr (Bj b h2))
 refine ⟨ρ',hold,r0,⟨h.fr.trans h1.fr.Oy,fun m o ho=> ?_,fun m o ho=> ?_,fun m m' b hm hm' ik iW=> ?_,fun m b hm hb=> ?_,fun b hh=> ?_,fun m o ho=> ?_⟩⟩
 ·rcases cm m o ho with ⟨rfl,rfl⟩|⟨rfl,rfl⟩|⟨_,_,h3,h4⟩
  ·have:=h1.at_ n _ hg
   rw [bu] at this ⊢
   rw [r0,r1];exact this
  ·have:=h1.at_ c _ hc
   rw [bu] at this ⊢
   rw [r1];exact this
  ·exact cr (Kn:=Kn) (h.at_ m o h3) hold h4 (h.kn m o h3).2 hfz (fun _ _ h=>h) fun b hb=>Yo b (mw m o b h3 hb)
 ·rcases cm m o ho with ⟨rfl,rfl⟩|⟨rfl,rfl⟩|⟨_,_,h3,h4⟩
  ·exact ⟨(kK _).2 (.inr (.inl rfl)),(kK _).2 (.inr (.inr rfl))⟩
  ·exact ⟨(kK _).2 (.inr (.inr rfl)),(kK _).2 (.inr (.inl rfl))⟩
  ·exact ⟨(kK _).2 (.inl h4),aQ.bC (fun y hy=>(kK y).2 (.inl hy)) o (h.kn m o h3).2⟩
 ·rcases who m b hm ik with ⟨e,h2,h3⟩|⟨e,h2,h3⟩|⟨h2,h3,h4⟩
  ·rcases who m' b hm' iW with ⟨e',L5,Bi⟩|⟨e',L5,Bi⟩|⟨L5,Bi,Li⟩
   ·rw [e,e']
   ·exact absurd (h1.eS n c b hgs hcs h2 L5) hnc
   ·omega
  ·rcases who m' b hm' iW with ⟨e',L5,Bi⟩|⟨e',L5,Bi⟩|⟨L5,Bi,Li⟩
   ·exact absurd (h1.eS n c b hgs hcs L5 h2) hnc
   ·rw [e,e']
   ·omega
  ·rcases who m' b hm' iW with ⟨e',L5,Bi⟩|⟨e',L5,Bi⟩|⟨L5,Bi,Li⟩
   ·omega
   ·omega
   ·exact h.eS m m' b h2 L5 h3 Bi
 ·rcases who m b hm hb with ⟨e,h2,h3⟩|⟨e,h2,h3⟩|⟨h2,h3,h4⟩
  ·exact .inl (by omega)
  ·exact .inl (by omega)
  ·exact h.mA m b h2 h3
 ·obtain ⟨h2,h3⟩:=h.wZ b (Bj b hh)
  refine ⟨by omega,?_⟩
  rintro ⟨m,h4,h5⟩
  rcases who m b h4 h5 with ⟨_,_,h6⟩|⟨_,_,h6⟩|⟨h6,h7,_⟩
  ·omega
  ·omega
  ·exact h3 ⟨m,h6,h7⟩
 ·rcases cm m o ho with ⟨rfl,rfl⟩|⟨rfl,rfl⟩|⟨_,_,h3,h4⟩
  ·rw [r0]
   exact .inr ((h1.vX n _ hg).elim (fun ⟨_,e⟩=>by cases e) id)
  ·exact .inl ⟨_,rfl⟩
  ·rw [hold m h4];exact h.vX m o h3
section
variable {P:Program} {tt:List (Nat×TI)} {specs:List (Nat×Spec)}
theorem ak.fnG (hT:aX P tt) (hS:af P specs) (hm:P.follows .mixedOrders=true) {f:FuncId} {fn:Func} (hf:P.funcs[f]? =some fn) (hn:fG (ids (bh fn))=true) {s:ZP}
  (h: ∀x,s.pre x-> ∃lp its,aA P cT its/\ ay P cT (bh fn) lp/\ N1 ⟨tt,specs,cT,lp,[],its⟩ fn (jy s.p x) (jB s.p x) (Zh s.r (· =s.f x))):ak P f (wT s):=by
 intro X args hp nm k hs
 unfold wT at hs
 split at hs
 rotate_left
 ·exact hs.elim
 rename_i x tc b hd
 obtain ⟨rfl,hpre,hk⟩:=br hs
 have hk:=hk _ rfl
 obtain ⟨as,e,hargs⟩:=pJ s.p _ _ _ _ hd
 rw [List.append_nil] at e
 subst e
 refine ⟨_,⟨fun p gN=>absurd gN (by simp),?_⟩,hk⟩
 intro ax W ρ Kn Γ w _ _ ht hfr hst
 obtain ⟨xs,hg,hc⟩:=hargs ax W ρ Kn Γ w ht hst 0
 have hb:=St.begin hg
 obtain ⟨lp,its,hi,hl,hfn⟩:=h x hpre
 have hcs:=hc (fun n=>xs.getD n {}) fun i y hy=>by simp [hy]
 have key:=mm (ctx:=⟨tt,specs,cT,lp,[],its⟩) hT ⟨hS,rh.nil P,hi⟩ (cT.ok Kg w) hm hf (fun c hc=>by
  have:bh fn=c:=by unfold bh;rw [hc]
  subst this
  exact BX (iM hn) hl) hfn (fun y hy=>by
   obtain ⟨a,ha,rfl⟩:=List.mem_map.1 hy
   exact A0.bC (fun m hm=>by simpa [jB] using hm.2) a (mq 0 s.p x 0 a ha)) hb
 have ea:(jy s.p x).map (AV.ae fun n=>xs.getD n {})=args.map (AV.ae ρ):=by
  rw [hcs];simp [jy,AV.ae,Function.comp_def]
 rw [ea] at key
 refine key.mono ?_
 rintro e w' ⟨st,cJ,v,rfl,hv,hR,sn⟩
 unfold Zh at hR
 split at hR<;>try (exact hR.elim)
 rename_i n
 split at hR<;>try (exact hR.elim)
 rename_i ka k0 u0 l c hgn
 split at hR<;>try (exact hR.elim)
 rename_i hkc
 obtain ⟨rfl,HD⟩:=hkc
 have HD:=Nh HD
 split at hR<;>try (exact hR.elim)
 rename_i l' N2
 unfold Xg at N2
 obtain ⟨e1,e2⟩:=dV N2
 have hR:l'=s.f x:=hR
 obtain ⟨p,⟨ka,k1,u1⟩,pre,f0⟩:=s
 cases e1
 dsimp only at e2
 have e2:l=l':=e2
 subst e2
 have hR:l=f0 x:=hR
 obtain ⟨ρ',r1,r2,r3⟩:=St.aaj (v:= .v (.one (.mp nm))) (tc:=tc) (nm:=nm) hst (by simpa using hfr 0 (by simp)) (hfr 1 (by simp)) sn hgn HD
 refine ⟨ρ',?_,r1,.inr (by simp),?_⟩
 ·simp only [AV.ae,A0.ae,Cell.ae,r2]
 ·dsimp only
  rw [<- hR];exact r3
theorem ak.trG (s:ZP) {i:Bool} (t:s.p.ty.T->Tr (List (s.r.k.T×List s.r.u.T)) i) (hT:aX P tt) (hS:af P specs) (hm:P.follows .mixedOrders=true) {n:FuncId} {fn:Func} (hk:(P.funcs[n]?,fG (ids (bh fn)))=(some fn,true))
  {its:List (Nat×iu)} {lp:s.p.ty.T->List (Nat×bE)} (hits:aA P cT its) (hl: ∀x,ay P cT (bh fn) (lp x)) (he: ∀x,(s.pre x,s.f x)=(Tr.pI i (t x).pre,(t x).val))
  (h: ∀x Q,N1 ⟨tt,specs,cT,lp x,[],its⟩ fn (jy s.p x) (jB s.p x) (Zh s.r Q)=(t x).wp Q []):ak P n (wT s):=by
 simp only [Prod.mk.injEq] at hk
 refine ak.fnG hT hS hm hk.1 hk.2 fun x hx=>⟨lp x,its,hits,hl x,?_⟩
 have e:=he x
 simp only [Prod.mk.injEq] at e
 rw [h]
 exact Tr.Lf _ _ _ (by rw [<- e.1];exact hx) e.2.symm
end
namespace Tr
variable {τ:Type}
abbrev fnG {i:Bool} (s:ZP) (x:s.p.ty.T) (k:List (s.r.k.T×List s.r.u.T)->Tr τ i):Tr τ true:= .call (s.pre x) (s.f x) k
end Tr
end Go.Ev
namespace Go.Ev
open Go.RowKit
inductive Pk
 |ty (t:Ty)
 |rp (u:Ty)
 |ref (v:Pk)
 |pair (a b:Pk)
@[reducible] def Pk.ty':Pk->Ty
 | .ty t=>t
 | .rp u=>u
 | .ref v=>v.ty'
 | .pair a b=> .prod a.ty' b.ty'
inductive Lt
 |arg (p:nX)
 |var (v:Pk)
 |pair (a b:Lt)
 |eN (f:FuncId) (a:Lt)
 |mv (f:FuncId) (v:Pk)
@[reducible] def Lt.ty:Lt->Ty
 | .arg p=>p.ty
 | .var v=>v.ty'
 | .pair a b=> .prod a.ty b.ty
 | .eN _ a=>a.ty
 | .mv _ v=>v.ty'
def Lt.cap:Lt->Bool
 | .arg p=>p.cap
 | .var _=>true
 | .pair a b=>a.cap&&b.cap
 |_=>false
structure FnQ where
 p:Lt
 r:nX
 pre:p.ty.T->Prop
 f:p.ty.T->r.ty.T
section
variable {P:Program} {tt:List (Nat×TI)} {specs:List (Nat×Spec)}
end
namespace Tr
variable {τ:Type}
end Tr
end Go.Ev
namespace Go.Ev
open Go.RowKit
abbrev tI:Ty:= .int .i64
abbrev Z8:Int->Value:=Value.int .i64
theorem aaf (l:List Int):aI tI l=l.map Z8:=by
 induction l with
 |nil=>rfl
 |cons x r ih=>
  have:aI tI (x::r)=Z8 x::aI tI r:=rfl
  rw [this,ih];rfl
theorem zm {w:World} {os:Array Obj} {b:Nat} (h:b<w.heap.size):(Sort.grow w os).heap[b]? =w.heap[b]? :=by
 unfold Sort.grow
 exact Array.getElem?_append_left h
section
variable {P:Program} {f:FuncId}
theorem Fr.aak {ax:jh} {W w:World} {os:Array Obj} (h:Fr ax W w):Fr ax W (Sort.grow w os):=
 ⟨h.os,h.tape,h.output,by have:=h.size;simp only [Sort.grow,Array.size_append];omega,fun k hk hn=>by rw [zm (by have:=h.size;omega)];exact h.block k hk hn,h.Ez⟩
end
end Go.Ev
namespace Go.Ev
open Go.RowKit
structure XV where
 ka:Bool
 k:Ty
 u:Ty
 q:nX
@[reducible] def XV.ty (d:XV):Ty:= .prod (.sl (.prod d.k (.sl d.u))) d.q.ty
structure FnL where
 p:XV
 r:nX
 pre:p.ty.T->Prop
 f:p.ty.T->r.ty.T×List (p.k.T×List p.u.T)
section
variable {P:Program} {tt:List (Nat×TI)} {specs:List (Nat×Spec)}
end
namespace Tr
variable {τ:Type}
end Tr
end Go.Ev
