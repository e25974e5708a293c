/- Contracts of functions that write rows which they are handed. -/
import Derived.Test.YtlkgabjhkfhgaaaGreatEvS
noncomputable section
set_option linter.unusedSectionVars false
set_option linter.unusedVariables false
set_option linter.unusedSimpArgs false
namespace Go.Ev
open Go.RowKit
theorem EK: ∀ {l:List Nat},l.Nodup->gW l=true
 | [],_=>rfl
 |x::r,h=>by
  rw [List.nodup_cons] at h
  simp only [gW,Bool.and_eq_true,Bool.not_eq_true']
  exact ⟨Bool.eq_false_iff.2 fun e=>h.1 (by simpa using e),EK h.2⟩
theorem sK: ∀ {a b:List Nat},vp a b=true-> ∀m∈a,m∉b
 | [],_,_,_,hm=>by cases hm
 |x::r,b,h,m,hm=>by
  simp only [vp,Bool.and_eq_true,Bool.not_eq_true'] at h
  rcases List.mem_cons.1 hm with rfl|hm
  ·exact fun e=>Bool.eq_false_iff.1 h.1 (BM.2 e)
  ·exact sK h.2 m hm
def IG:(p:lN)->p.out.T
 | .val _=>false
 | .row _=> []
 | .ptr t _=>t.d
 | .pair a b=>(IG a,IG b)
theorem Se (p:lN): ∀(x:p.ty.T) (z z':p.out.T) (nm:Nat) (ws:List (Nat×Nat)),(bU p x z nm ws).1.map (fun q=>(q.n,q.m))=(bU p x z' nm ws).1.map (fun q=>(q.n,q.m))/\ (bU p x z nm ws).2=(bU p x z' nm ws).2:=by
 induction p with
 |val p=>intro x z z' nm ws;exact ⟨rfl,rfl⟩
 |row t=>intro x z z' nm ws;cases ws<;>exact ⟨rfl,rfl⟩
 |ptr t e=>intro x z z' nm ws;cases ws<;>exact ⟨rfl,rfl⟩
 |pair a b Gj Gk=>
  intro x z z' nm ws
  obtain ⟨h1,h2⟩:=Gj x.1 z.1 z'.1 nm ws
  obtain ⟨h3,h4⟩:=Gk x.2 z.2 z'.2 (nm+(eS nm a x.1).2.length) (bU a x.1 z.1 nm ws).2
  rw [h2] at h3 h4
  simp only [bU,List.map_append,h1,h2,h3,h4,and_self]
theorem Si {π:List Src} {l0 l:List A0} {v:AV} (hl:jJ v=some l) (h1:fX π l0=some l):qb π (jo l0)=some v:=by
 cases v with
 |v a=>
  simp only [jJ,Option.some.injEq] at hl
  subst hl
  match l0,h1 with
  | [],h1=>simp [fX] at h1
  | [c],h1=>
   simp only [fX] at h1
   split at h1
   ·rename_i q m k1 k2
    simp only [Option.some.injEq,List.cons.injEq] at h1
    obtain ⟨rfl,_⟩:=h1
    simp only [jo,qb,k1]
   ·cases h1
  |_::_::_,h1=>
   simp only [fX] at h1
   split at h1
   ·rename_i k1 k2
    split at k2
    ·cases k2;simp at h1
    ·cases k2
   ·cases h1
 |oG l'=>
  simp only [jJ] at hl
  split at hl
  ·cases hl
  ·rename_i hne
   cases hl
   match l0,h1 with
   | [],h1=>simp only [jo,qb,h1]
   | [c],h1=>
    simp only [fX] at h1
    split at h1
    ·rename_i q m k1 k2
     cases k2
     cases h1
     exact absurd rfl (hne q)
    ·cases h1
   |_::_::_,h1=>simp only [jo,qb,h1]
 |dead=>simp [jJ] at hl
theorem Po {π:List Src} {u v:AV} (key:qb π u=some v):FF π [v] [u]:=by
 cases u with
 |v a=>exact ⟨key,trivial⟩
 |oG l=>exact ⟨key,trivial⟩
 |dead=>simp [qb] at key
theorem IT {π:List Src} : ∀ {cs:List Cell},Sd cs->gF π cs=some cs
 | [],_=>rfl
 |c::r,h=>by
  obtain ⟨v,rfl⟩:=h c (by simp)
  have ih:=IT (π:=π) (cs:=r) fun c hc=>h c (by simp [hc])
  simp only [gF,iM,ih]
theorem Yh.ren {π:List Src} {q:fx} (h:Yh q):fB π q.c=some q.c:=by
 rcases h with ⟨t,l,z,_,_,h1,_⟩|⟨cs,zs,e,h1,_,h2,_⟩
 ·rw [h1];rfl
 ·rw [h2];simp only [fB,IT h1]
theorem E2 {π:List Src} {h:List aF} : ∀(R:List fx),(∀r∈R,aj h r.m=some r.c/\ Yh r)->bK (BS π h) (R.map fun q=>Src.same q.m) (R.map fx.c)
 | [],_=>trivial
 |q::r,hh=>⟨⟨_,(hh q (by simp)).1,(hh q (by simp)).2.ren⟩,E2 r fun q hq=>hh q (by simp [hq])⟩
theorem H8 {ok:Nat->Prop} {w:World} {q:fx} {y:Loc} (h:Tn q) (hg:cV ok w q.a y):False:=by
 rcases h with ⟨t,l,_,_,h,_⟩|⟨cs,e,_,h,_⟩
 ·rw [h] at hg;exact absurd hg.1 (by decide)
 ·rw [h] at hg;exact hg
theorem O6 {r:nn} {p:lN} {x:p.ty.T} {b8:Env} {Q:r.ty.T×p.out.T->Prop} {v:AV} {st:AS} (h:Vk r p x b8 Q v st): ∃y z,Q (y,z)/\ aj st.heap (eS 0 p x).2.length=some (.dO b8 (eS 0 p x).2.length)/\ II (aj st.heap) p x 0=some (z,true)/\ gW (dX p x 0)=true/\
  ∃ss,ss.length=(aW 2 0 r y).2.length/\ ∀ws,(dX p x 0).length<=ws.length->Ren (ss++(bU p x z 0 ws).1.map fun q=>Src.same q.m) ⟨[v],st.heap⟩ ⟨[jo (aW 2 0 r y).1],(aW 2 0 r y).2++(bU p x z 0 ws).1.map fx.c⟩:=by
 unfold Vk at h
 split at h
 rotate_left
 ·exact h.elim
 rename_i l hl
 split at h
 rotate_left
 ·exact h.elim
 rename_i y ss hd
 split at h
 rotate_left
 ·exact h.elim
 rename_i hn
 split at h
 rotate_left
 ·exact h.elim
 rename_i z f ho
 obtain ⟨hp,h⟩:=fK h
 obtain ⟨rfl,hQ⟩:=br h
 obtain ⟨ys,e,hs⟩:=sJ r _ _ _ _ hd
 rw [List.append_nil] at e
 subst e
 refine ⟨y,z,hQ,hp,ho,?_,ss,(hs ss 0 fun i s hi=>by rwa [Nat.zero_add]).2.length,fun ws hw=> ?_⟩
 ·have:=fD hn
  rw [List.nodup_append] at this
  exact EK this.2.1
 obtain ⟨h1,h2⟩:=hs (ss++(bU p x z 0 ws).1.map fun q=>Src.same q.m) 0 fun i s hi=>by
  rw [Nat.zero_add,List.getElem?_append_left (List.getElem?_eq_some_iff.1 hi).1];exact hi
 have h3:=h2.append (E2 (π:=ss++(bU p x z 0 ws).1.map fun q=>Src.same q.m) (bU p x z 0 ws).1 fun q hq=>EV p x z 0 ws ho q hq)
 obtain ⟨h4,h5⟩:=Bj _ _ h3
 refine ⟨Po (Si hl h1),h4,?_⟩
 show gW (tw _ (_++_))=true
 rw [h5,List.filterMap_append]
 have:((bU p x z 0 ws).1.map fun q=>Src.same q.m).filterMap yj=dX p x 0:=by
  rw [<- (nP p x z 0 ws hw).1,List.filterMap_map]
  induction (bU p x z 0 ws).1 with
  |nil=>rfl
  |cons q r ih=>simp [yj,ih]
 rw [this];exact hn
section
variable {P:Program} {tt:List (Nat×TI)} {specs:List (Nat×Spec)}
theorem uC {α β:Type} [DecidableEq β] {f:α->β} : ∀ {l:List α},(l.map f).Nodup-> ∀a∈l,∀b∈l,f a=f b->a=b
 | [],_,_,ha,_,_,_=>by cases ha
 |x::r,hn,a,ha,b,hb,e=>by
  rw [List.map_cons,List.nodup_cons] at hn
  rcases List.mem_cons.1 ha with rfl|ha'<;>rcases List.mem_cons.1 hb with rfl|hb'
  ·rfl
  ·exact absurd (show f a∈r.map f by rw [e];exact List.mem_map.2 ⟨b,hb',rfl⟩) hn.1
  ·exact absurd (show f b∈r.map f by rw [<- e];exact List.mem_map.2 ⟨a,ha',rfl⟩) hn.1
  ·exact uC hn.2 a ha' b hb' e
theorem ak.cz (hT:aO P tt) (hS:ah P specs) (hm:P.follows .mixedOrders=true) {f:FuncId} {fn:Func} (hf:P.funcs[f]? =some fn) (hn:ff (ids (cj fn))=true) {s:Dh} (hres:s.r.res=true)
  (h: ∀x,s.pre x-> ∀b8,∃lp dR,aA P lQ dR/\ aB P lQ (cj fn) lp/\ H6 ⟨tt,specs,lQ,lp,[],dR⟩ fn (LP s.p x) (QD s.p x b8) (Vk s.r s.p x b8 (· =s.f x))):ak P f (bf s):=by
 intro X args hp nm k hs
 unfold bf at hs
 split at hs
 rotate_left
 ·exact hs.elim
 rename_i x tc ws b hd
 split at hs
 rotate_left
 ·exact hs.elim
 rename_i NZ
 rw [Bool.and_eq_true] at NZ
 obtain ⟨ke,Ef⟩:=NZ
 have ke:=fD ke
 have Ef:=sK Ef
 obtain ⟨rfl,hpre,hk⟩:=br hs
 have hk:=hk _ rfl
 have hlen:=qU s.p _ _ _ _ _ _ hd 0
 obtain ⟨bs,e,hargs⟩:=NH s.p _ _ _ _ _ hd
 rw [List.append_nil] at e
 subst e
 have Ij: ∀z,∀q∈(bU s.p x z 0 ws).1,hp q.n=some q.b/\ Tn q:=fun z q hq=>NG s.p _ _ _ _ _ hd z 0 [] q (by rw [List.append_nil];exact hq)
 have QL:=fun z=>nP s.p x z 0 ws (by omega)
 have He: ∀z,(bU s.p x z 0 ws).1.map (·.n)=ws.map (·.1):=fun z=>by
  have:=congrArg (List.map Prod.fst) (QL z).2.2
  rw [List.map_map,hlen,List.take_length] at this
  exact this
 have abg: ∀z,∀q∈(bU s.p x z 0 ws).1,∀q'∈(bU s.p x z 0 ws).1,q.n=q'.n->q=q':=fun z=>uC (f:=fx.n) (by
  rw [show List.map fx.n (bU s.p x z 0 ws).1=ws.map (·.1) from He z];exact ke)
 refine ⟨_,⟨fun p fA=> ?_,?_⟩,hk⟩
 ·obtain ⟨q,hq,rfl⟩:=List.mem_map.1 fA
  rw [(Ij _ q hq).1];exact fun h=>by cases h
 intro ay W ρ Kn Γ w _ _ ht hfr hst
 obtain ⟨R0,VT⟩: ∃R,R=(bU s.p x (IG s.p) 0 ws).1:=⟨_,rfl⟩
 have bN: ∀z,∀q∈(bU s.p x z 0 ws).1,Γ q.n=some q.b:=fun z q hq=>by
  rw [ht q.n (List.mem_append.2 (.inr (by show q.n∈ws.map (·.1);rw [<- He z];exact List.mem_map.2 ⟨q,hq,rfl⟩)))];exact (Ij z q hq).1
 have hok:lX (fun b=>aZ w b/\ ∀q∈R0,¬(ρ q.n).has b) ρ Γ w tc:=by
  refine ⟨fun b hb=>⟨hb.1,fun q hq e=>hb.2 (.inl ⟨q.n,?_,e⟩)⟩,fun m hm hs b hb hc=>⟨hc,fun q hq e=> ?_⟩⟩
  ·rw [VT] at hq;rw [bN _ q hq];rfl
  ·rw [VT] at hq
   have:=hst.dV m q.n b hs (by rw [bN _ q hq];rfl) hb e
   exact Ef m hm (by rw [this,<- He (IG s.p)];exact List.mem_map.2 ⟨q,hq,rfl⟩)
 obtain ⟨xs,hxl,hg,hc⟩:=hargs ay W ρ Kn Γ w (fun m hm=>ht m (List.mem_append.2 (.inl hm))) hst _ hok (IG s.p) 0 []
 rw [List.append_nil,<- VT] at hg
 simp only [Nat.zero_add] at hg hc
 have hb:=St.Wq (R:=R0) hst hxl (fun q hq=>by
  rw [VT] at hq;exact ⟨bN _ q hq,(Ij _ q hq).2⟩) (fun q hq q' z8 e=>by
  rw [VT] at hq z8;rw [abg _ q hq q' z8 e]) hg
 obtain ⟨b8,gH⟩: ∃b8:Env,b8=fun n=>xs.getD n {} :=⟨_,rfl⟩
 rw [<- gH] at hb
 obtain ⟨lp,dR,hi,hl,hfn⟩:=h x hpre b8
 have hcs:=hc b8 fun i y hy=>by rw [gH];simp [hy]
 have key:=ij (ctx:=⟨tt,specs,lQ,lp,[],dR⟩) hT ⟨hS,vh.nil P,hi⟩ (lQ.ok _ w) hm hf (fun c hc=>by
  have:cj fn=c:=by unfold cj;rw [hc]
  subst this
  exact sY (eJ hn) hl) hfn (fun y hy=>by
   obtain ⟨a,ha,rfl⟩:=List.mem_map.1 hy
   exact A0.aT (fun m hm=>by simp only [QD,List.length_append,List.length_singleton];omega) a (TH s.p x 0 a ha)) hb
 have ea:(LP s.p x).map (AV.af b8)=args.map (AV.af ρ):=by
  rw [hcs];simp [LP,AV.af,Function.comp_def]
 rw [ea] at key
 refine key.mono ?_
 rintro e w' ⟨st,bh,v,rfl,hv,hR,rA⟩
 obtain ⟨y,z,hyz,Bn,hout,hwn,ss,abD,Ua⟩:=O6 hR
 have Ua:=Ua ws (by omega)
 obtain ⟨rfl,rfl⟩:y=(s.f x).1/\ z=(s.f x).2:=⟨congrArg Prod.fst hyz,congrArg Prod.snd hyz⟩
 obtain ⟨R,VU⟩: ∃R,R=(bU s.p x (s.f x).2 0 ws).1:=⟨_,rfl⟩
 rw [<- VU] at Ua
 have hB:(fun b=> ∃q∈R0,(ρ q.n).has b)=fun b=> ∃q∈R,(ρ q.n).has b:=by
  funext b
  refine propext ⟨?_,?_⟩
  ·rintro ⟨q,hq,e⟩
   have:q.n∈ws.map (·.1):=by rw [<- He (IG s.p),<- VT];exact List.mem_map.2 ⟨q,hq,rfl⟩
   rw [<- He (s.f x).2,<- VU] at this
   obtain ⟨q',z8,e'⟩:=List.mem_map.1 this
   exact ⟨q',z8,by rw [e'];exact e⟩
  ·rintro ⟨q,hq,e⟩
   have:q.n∈ws.map (·.1):=by rw [<- He (s.f x).2,<- VU];exact List.mem_map.2 ⟨q,hq,rfl⟩
   rw [<- He (IG s.p),<- VT] at this
   obtain ⟨q',z8,e'⟩:=List.mem_map.1 this
   exact ⟨q',z8,by rw [e'];exact e⟩
 have abf: ∀q∈R,∀q'∈R,q.m=q'.m->q=q':=uC (f:=fx.m) (by
  rw [VU,show List.map fx.m (bU s.p x (s.f x).2 0 ws).1=dX s.p x 0 from (QL _).1];exact fD hwn)
 have abQ: ∀q∈R,bh q.m=ρ q.n:=fun q hq=>by
  have Px:=hq
  rw [VU] at Px
  obtain ⟨_,m2,m3⟩:=Ve s.p x (s.f x).2 0 ws q Px
  simp only [Nat.zero_add,Nat.sub_zero] at m2 m3
  rw [(rA.at_ _ _ Bn).2 q.m m2]
  obtain ⟨y,y1,y2⟩:=hg q.m _ m3
  rcases y2 with y2|⟨q0,k1,k2,_,k4⟩
  ·exact (H8 (Ij _ q Px).2 y2).elim
  ·rw [gH]
   simp only [List.getD_eq_getElem?_getD,y1,Option.getD_some]
   rw [k4]
   have:(q0.n,q0.m)∈R0.map fun q=>(q.n,q.m):=List.mem_map.2 ⟨q0,k1,rfl⟩
   rw [VT,(Se s.p x (IG s.p) (s.f x).2 0 ws).1,<- VU] at this
   obtain ⟨q',k5,k6⟩:=List.mem_map.1 this
   simp only [Prod.mk.injEq] at k6
   have:=abf q' k5 q hq (by omega)
   rw [<- this,k6.1]
 have bB:mG {wr:=fun b=> ∃q∈R0,(ρ q.n).has b} w [] ⟨[v],st.heap⟩ bh {tmps:= #[v.af bh],defers:= []} w':=by
  refine ⟨fun t _=> ?_,rfl,rfl,fun t=> ?_,rA⟩
  ·match t with
   |0=>rfl
   |t+1=>rfl
  ·match t with
   |0=>exact hv
   |t+1=>exact uY _
 have pQ:=bB.Wc Ua
 obtain ⟨ni,Zh⟩: ∃ni,ni=jn (ss++R.map fun q=>Src.same q.m) (aj ((aW 2 0 s.r (s.f x).1).2++R.map fx.c)) bh:=⟨_,rfl⟩
 have pQ:mG {wr:=fun b=> ∃q∈R0,(ρ q.n).has b} w [] ⟨[jo (aW 2 0 s.r (s.f x).1).1],(aW 2 0 s.r (s.f x).1).2++R.map fx.c⟩ ni {tmps:= #[v.af bh],defers:= []} w':=by
  rw [Zh];exact pQ
 have Zi: ∀(i:Nat) (q:fx),R[i]? =some q->ni ((aW 2 0 s.r (s.f x).1).2.length+i)=ρ q.n:=fun i q hi=>by
  rw [Zh]
  unfold jn
  rw [<- abD,List.getElem?_append_right (by omega),Nat.add_sub_cancel_left,List.getElem?_map,hi]
  exact abQ q (List.mem_of_getElem? hi)
 have QS:=sO 2 s.r (s.f x).1 0 hres
 have G8:=fun d=>(j8 2 (ρ:=ni) (ρ':=fun m=>ni (m- d)) (d:=d) s.r (s.f x).1 0 hres fun i _=>by simp).2
 have Ei:(aW 2 nm s.r (s.f x).1).2=(aW 2 0 s.r (s.f x).1).2:=by simpa using G8 nm
 have xS:=pQ.st
 rw [hB] at xS
 obtain ⟨ρ',r1,r2,r3⟩:=St.Yt (R:=R) (v:=jo (aW 2 nm s.r (s.f x).1).1) (tc:=tc++ws.map (·.1)) (nm:=nm) hst (fun i hi=>hfr i (by rw [Ei];exact hi)) QS (fun q hq=>by
  rw [VU] at hq
  exact ⟨bN _ q hq,VM.of (Ij _ q hq).2 (EV s.p x _ 0 ws hout q hq).2⟩) xS Zi
 have hsh:=(j8 2 (ρ:=ni) (ρ':=ρ') (d:=nm) s.r (s.f x).1 0 hres fun i hi=>by rw [Nat.zero_add];exact r2 i hi).1
 rw [Nat.zero_add] at hsh
 refine ⟨ρ',?_,r1,?_,?_⟩
 ·congr 1
  have h1:=pQ.tmps 0 (by
   show jo _≠_
   generalize (aW 2 0 s.r (s.f x).1).1=l
   match l with
   | []=>exact fun h=>by cases h
   | [_]=>exact fun h=>by cases h
   |_::_::_=>exact fun h=>by cases h)
  have h2:v.af bh=(jo (aW 2 0 s.r (s.f x).1).1).af ni:=h1
  rw [h2]
  exact (ya hsh).symm
 ·exact GJ fun c hc=>A0.aT (fun m hm=> .inr (by simpa using hm)) c (js 2 s.r (s.f x).1 nm c hc)
 ·rw [Ei,<- VU];exact r3
theorem ak.Ly (s:Dh) {i:Bool} (t:s.p.ty.T->Tr (s.r.ty.T×s.p.out.T) i) (hT:aO P tt) (hS:ah P specs) (hm:P.follows .mixedOrders=true) {n:FuncId} {fn:Func} (hk:(P.funcs[n]?,ff (ids (cj fn)),s.r.res)=(some fn,true,true))
  {dR:List (Nat×eV)} {lp:s.p.ty.T->List (Nat×iw)} (hits:aA P lQ dR) (hl: ∀x,aB P lQ (cj fn) (lp x)) (he: ∀x,(s.pre x,s.f x)=(Tr.pI i (t x).pre,(t x).val))
  (h: ∀x r0 Q,H6 ⟨tt,specs,lQ,lp x,[],dR⟩ fn (LP s.p x) (QD s.p x r0) (Vk s.r s.p x r0 Q)=(t x).wp Q [.env r0]):ak P n (bf s):=by
 simp only [Prod.mk.injEq] at hk
 refine ak.cz hT hS hm hk.1 hk.2.1 hk.2.2 fun x hx r0=>⟨lp x,dR,hits,hl x,?_⟩
 have e:=he x
 simp only [Prod.mk.injEq] at e
 rw [h]
 exact Tr.Nd _ _ _ (by rw [<- e.1];exact hx) e.2.symm
end
namespace Tr
variable {τ:Type}
abbrev cz {i:Bool} (s:Dh) (x:s.p.ty.T) (k:s.r.ty.T×s.p.out.T->Tr τ i):Tr τ true:= .call (s.pre x) (s.f x) k
abbrev aaI {i:Bool} (s:Dh) (x:s.p.ty.T) (h:s.pre x) (k:s.r.ty.T×s.p.out.T->Tr τ i):Tr τ i:= .LU (s.pre x) h (s.f x) k
end Tr
end Go.Ev
