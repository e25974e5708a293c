/- Contracts of functions that write rows which they are handed. -/
import Derived.Test.YtaipcbdilkcdbaaEvS
noncomputable section
set_option linter.unusedSectionVars false
set_option linter.unusedVariables false
set_option linter.unusedSimpArgs false
namespace Go.Ev
open Go.RowKit
theorem DC: ∀ {l:List Nat},l.Nodup->iT l=true
 | [],_=>rfl
 |x::r,h=>by
  rw [List.nodup_cons] at h
  simp only [iT,Bool.and_eq_true,Bool.not_eq_true']
  exact ⟨Bool.eq_false_iff.2 fun e=>h.1 (by simpa using e),DC h.2⟩
theorem xB: ∀ {a b:List Nat},AB a b=true-> ∀m∈a,m∉b
 | [],_,_,_,hm=>by cases hm
 |x::r,b,h,m,hm=>by
  simp only [AB,Bool.and_eq_true,Bool.not_eq_true'] at h
  rcases List.mem_cons.1 hm with rfl|hm
  ·exact fun e=>Bool.eq_false_iff.1 h.1 (Bp.2 e)
  ·exact xB h.2 m hm
def G6:(p:lV)->p.out.T
 | .val _=>false
 | .row _=> []
 | .ptr t _=>t.d
 | .pair a b=>(G6 a,G6 b)
theorem P4 (p:lV): ∀(x:p.ty.T) (z z':p.out.T) (nm:Nat) (ws:List (Nat×Nat)),(bY p x z nm ws).1.map (fun q=>(q.n,q.m))=(bY p x z' nm ws).1.map (fun q=>(q.n,q.m))/\ (bY p x z nm ws).2=(bY p x z' nm ws).2:=by
 induction p with
 |val p=>intro x z z' nm ws;exact ⟨rfl,rfl⟩
 |row t=>intro x z z' nm ws;cases ws<;>exact ⟨rfl,rfl⟩
 |ptr t e=>intro x z z' nm ws;cases ws<;>exact ⟨rfl,rfl⟩
 |pair a b CM CN=>
  intro x z z' nm ws
  obtain ⟨h1,h2⟩:=CM x.1 z.1 z'.1 nm ws
  obtain ⟨h3,h4⟩:=CN x.2 z.2 z'.2 (nm+(ff nm a x.1).2.length) (bY a x.1 z.1 nm ws).2
  rw [h2] at h3 h4
  simp only [bY,List.map_append,h1,h2,h3,h4,and_self]
theorem P8 {π:List Src} {l0 l:List A0} {v:AV} (hl:jn v=some l) (h1:fZ π l0=some l):qn π (iq l0)=some v:=by
 cases v with
 |v a=>
  simp only [jn,Option.some.injEq] at hl
  subst hl
  match l0,h1 with
  | [],h1=>simp [fZ] at h1
  | [c],h1=>
   simp only [fZ] at h1
   split at h1
   ·rename_i q m k1 k2
    simp only [Option.some.injEq,List.cons.injEq] at h1
    obtain ⟨rfl,_⟩:=h1
    simp only [iq,qn,k1]
   ·cases h1
  |_::_::_,h1=>
   simp only [fZ] at h1
   split at h1
   ·rename_i k1 k2
    split at k2
    ·cases k2;simp at h1
    ·cases k2
   ·cases h1
 |oP l'=>
  simp only [jn] at hl
  split at hl
  ·cases hl
  ·rename_i hne
   cases hl
   match l0,h1 with
   | [],h1=>simp only [iq,qn,h1]
   | [c],h1=>
    simp only [fZ] at h1
    split at h1
    ·rename_i q m k1 k2
     cases k2
     cases h1
     exact absurd rfl (hne q)
    ·cases h1
   |_::_::_,h1=>simp only [iq,qn,h1]
 |dead=>simp [jn] at hl
theorem Nl {π:List Src} {u v:AV} (key:qn π u=some v):Cp π [v] [u]:=by
 cases u with
 |v a=>exact ⟨key,trivial⟩
 |oP l=>exact ⟨key,trivial⟩
 |dead=>simp [qn] at key
theorem Hl {π:List Src} : ∀ {cs:List Cell},P0 cs->gM π cs=some cs
 | [],_=>rfl
 |c::r,h=>by
  obtain ⟨v,rfl⟩:=h c (by simp)
  have ih:=Hl (π:=π) (cs:=r) fun c hc=>h c (by simp [hc])
  simp only [gM,iZ,ih]
theorem VF.ren {π:List Src} {q:fD} (h:VF q):fA π q.c=some q.c:=by
 rcases h with ⟨t,l,z,_,_,h1,_⟩|⟨cs,zs,e,h1,_,h2,_⟩
 ·rw [h1];rfl
 ·rw [h2];simp only [fA,Hl h1]
theorem D1 {π:List Src} {h:List aG} : ∀(R:List fD),(∀r∈R,aj h r.m=some r.c/\ VF r)->bK (zD π h) (R.map fun q=>Src.same q.m) (R.map fD.c)
 | [],_=>trivial
 |q::r,hh=>⟨⟨_,(hh q (by simp)).1,(hh q (by simp)).2.ren⟩,D1 r fun q hq=>hh q (by simp [hq])⟩
theorem Gh {ok:Nat->Prop} {w:World} {q:fD} {y:Loc} (h:QX q) (hg:dg ok w q.a y):False:=by
 rcases h with ⟨t,l,_,_,h,_⟩|⟨cs,e,_,h,_⟩
 ·rw [h] at hg;exact absurd hg.1 (by decide)
 ·rw [h] at hg;exact hg
theorem M1 {r:mF} {p:lV} {x:p.ty.T} {dH:Env} {Q:r.ty.T×p.out.T->Prop} {v:AV} {st:AS} (h:Sz r p x dH Q v st): ∃y z,Q (y,z)/\ aj st.heap (ff 0 p x).2.length=some (.de dH (ff 0 p x).2.length)/\ G7 (aj st.heap) p x 0=some (z,true)/\ iT (eB p x 0)=true/\
  ∃ss,ss.length=(aT 2 0 r y).2.length/\ ∀ws,(eB p x 0).length<=ws.length->XV (ss++(bY p x z 0 ws).1.map fun q=>Src.same q.m) ⟨[v],st.heap⟩ ⟨[iq (aT 2 0 r y).1],(aT 2 0 r y).2++(bY p x z 0 ws).1.map fD.c⟩:=by
 unfold Sz at h
 split at h
 rotate_left
 ·exact h.elim
 rename_i l hl
 split at h
 rotate_left
 ·exact h.elim
 rename_i y ss hd
 split at h
 rotate_left
 ·exact h.elim
 rename_i hn
 split at h
 rotate_left
 ·exact h.elim
 rename_i z f ho
 obtain ⟨hp,h⟩:=jm h
 obtain ⟨rfl,hQ⟩:=bh h
 obtain ⟨ys,e,hs⟩:=sy r _ _ _ _ hd
 rw [List.append_nil] at e
 subst e
 refine ⟨y,z,hQ,hp,ho,?_,ss,(hs ss 0 fun i s hi=>by rwa [Nat.zero_add]).2.length,fun ws hw=> ?_⟩
 ·have:=ie hn
  rw [List.nodup_append] at this
  exact DC this.2.1
 obtain ⟨h1,h2⟩:=hs (ss++(bY p x z 0 ws).1.map fun q=>Src.same q.m) 0 fun i s hi=>by
  rw [Nat.zero_add,List.getElem?_append_left (List.getElem?_eq_some_iff.1 hi).1];exact hi
 have h3:=h2.append (D1 (π:=ss++(bY p x z 0 ws).1.map fun q=>Src.same q.m) (bY p x z 0 ws).1 fun q hq=>DQ p x z 0 ws ho q hq)
 obtain ⟨h4,h5⟩:=AZ _ _ h3
 refine ⟨Nl (P8 hl h1),h4,?_⟩
 show iT (sj _ (_++_))=true
 rw [h5,List.filterMap_append]
 have:((bY p x z 0 ws).1.map fun q=>Src.same q.m).filterMap x6=eB p x 0:=by
  rw [<- (oa p x z 0 ws hw).1,List.filterMap_map]
  induction (bY p x z 0 ws).1 with
  |nil=>rfl
  |cons q r ih=>simp [x6,ih]
 rw [this];exact hn
section
variable {P:Program} {tt:List (Nat×TI)} {specs:List (Nat×Spec)}
theorem uy {α β:Type} [DecidableEq β] {f:α->β} : ∀ {l:List α},(l.map f).Nodup-> ∀a∈l,∀b∈l,f a=f b->a=b
 | [],_,_,ha,_,_,_=>by cases ha
 |x::r,hn,a,ha,b,hb,e=>by
  rw [List.map_cons,List.nodup_cons] at hn
  rcases List.mem_cons.1 ha with rfl|ZT<;>rcases List.mem_cons.1 hb with rfl|hb'
  ·rfl
  ·exact absurd (show f a∈r.map f by rw [e];exact List.mem_map.2 ⟨b,hb',rfl⟩) hn.1
  ·exact absurd (show f b∈r.map f by rw [<- e];exact List.mem_map.2 ⟨a,ZT,rfl⟩) hn.1
  ·exact uy hn.2 a ZT b hb' e
theorem av.cV (hT:br P tt) (hS:ah P specs) (hm:P.follows .mixedOrders=true) {f:FuncId} {fn:Func} (hf:P.funcs[f]? =some fn) (hn:ew (ids (bG fn))=true) {s:Cz} (hres:s.r.res=true)
  (h: ∀x,s.pre x-> ∀dH,∃lp dc,aD P fh dc/\ aB P fh (bG fn) lp/\ ET ⟨tt,specs,fh,lp,[],dc⟩ fn (J9 s.p x) (Ov s.p x dH) (Sz s.r s.p x dH (· =s.f x))):av P f (bC s):=by
 intro X args hp nm k hs
 unfold bC at hs
 split at hs
 rotate_left
 ·exact hs.elim
 rename_i x tc ws b hd
 split at hs
 rotate_left
 ·exact hs.elim
 rename_i Mh
 rw [Bool.and_eq_true] at Mh
 obtain ⟨nE,Nt⟩:=Mh
 have nE:=ie nE
 have Nt:=xB Nt
 obtain ⟨rfl,hpre,hk⟩:=bh hs
 have hk:=hk _ rfl
 have hlen:=rf s.p _ _ _ _ _ _ hd 0
 obtain ⟨bs,e,hargs⟩:=LS s.p _ _ _ _ _ hd
 rw [List.append_nil] at e
 subst e
 have Gv: ∀z,∀q∈(bY s.p x z 0 ws).1,hp q.n=some q.b/\ QX q:=fun z q hq=>LR s.p _ _ _ _ _ hd z 0 [] q (by rw [List.append_nil];exact hq)
 have OG:=fun z=>oa s.p x z 0 ws (by omega)
 have FL: ∀z,(bY s.p x z 0 ws).1.map (·.n)=ws.map (·.1):=fun z=>by
  have:=congrArg (List.map Prod.fst) (OG z).2.2
  rw [List.map_map,hlen,List.take_length] at this
  exact this
 have YJ: ∀z,∀q∈(bY s.p x z 0 ws).1,∀q'∈(bY s.p x z 0 ws).1,q.n=q'.n->q=q':=fun z=>uy (f:=fD.n) (by
  rw [show List.map fD.n (bY s.p x z 0 ws).1=ws.map (·.1) from FL z];exact nE)
 refine ⟨_,⟨fun p fI=> ?_,?_⟩,hk⟩
 ·obtain ⟨q,hq,rfl⟩:=List.mem_map.1 fI
  rw [(Gv _ q hq).1];exact fun h=>by cases h
 intro ax W ρ Kn Γ w _ _ ht hfr hst
 obtain ⟨R0,SX⟩: ∃R,R=(bY s.p x (G6 s.p) 0 ws).1:=⟨_,rfl⟩
 have bV: ∀z,∀q∈(bY s.p x z 0 ws).1,Γ q.n=some q.b:=fun z q hq=>by
  rw [ht q.n (List.mem_append.2 (.inr (by show q.n∈ws.map (·.1);rw [<- FL z];exact List.mem_map.2 ⟨q,hq,rfl⟩)))];exact (Gv z q hq).1
 have hok:lD (fun b=>bg w b/\ ∀q∈R0,¬(ρ q.n).has b) ρ Γ w tc:=by
  refine ⟨fun b hb=>⟨hb.1,fun q hq e=>hb.2 (.inl ⟨q.n,?_,e⟩)⟩,fun m hm hs b hb hc=>⟨hc,fun q hq e=> ?_⟩⟩
  ·rw [SX] at hq;rw [bV _ q hq];rfl
  ·rw [SX] at hq
   have:=hst.cW m q.n b hs (by rw [bV _ q hq];rfl) hb e
   exact Nt m hm (by rw [this,<- FL (G6 s.p)];exact List.mem_map.2 ⟨q,hq,rfl⟩)
 obtain ⟨xs,hxl,hg,hc⟩:=hargs ax W ρ Kn Γ w (fun m hm=>ht m (List.mem_append.2 (.inl hm))) hst _ hok (G6 s.p) 0 []
 rw [List.append_nil,<- SX] at hg
 simp only [Nat.zero_add] at hg hc
 have hb:=St.Tx (R:=R0) hst hxl (fun q hq=>by
  rw [SX] at hq;exact ⟨bV _ q hq,(Gv _ q hq).2⟩) (fun q hq q' uq e=>by
  rw [SX] at hq uq;rw [YJ _ q hq q' uq e]) hg
 obtain ⟨dH,lZ⟩: ∃dH:Env,dH=fun n=>xs.getD n {} :=⟨_,rfl⟩
 rw [<- lZ] at hb
 obtain ⟨lp,dc,hi,hl,hfn⟩:=h x hpre dH
 have hcs:=hc dH fun i y hy=>by rw [lZ];simp [hy]
 have key:=iC (ctx:=⟨tt,specs,fh,lp,[],dc⟩) hT ⟨hS,s9.nil P,hi⟩ (fh.ok _ w) hm hf (fun c hc=>by
  have:bG fn=c:=by unfold bG;rw [hc]
  subst this
  exact sO (eU hn) hl) hfn (fun y hy=>by
   obtain ⟨a,ha,rfl⟩:=List.mem_map.1 hy
   exact A0.aZ (fun m hm=>by simp only [Ov,List.length_append,List.length_singleton];omega) a (Ri s.p x 0 a ha)) hb
 have ea:(J9 s.p x).map (AV.af dH)=args.map (AV.af ρ):=by
  rw [hcs];simp [J9,AV.af,Function.comp_def]
 rw [ea] at key
 refine key.mono ?_
 rintro e w' ⟨st,aY,v,rfl,hv,hR,lY⟩
 obtain ⟨y,z,hyz,E3,hout,hwn,ss,Y4,Rx⟩:=M1 hR
 have Rx:=Rx ws (by omega)
 obtain ⟨rfl,rfl⟩:y=(s.f x).1/\ z=(s.f x).2:=⟨congrArg Prod.fst hyz,congrArg Prod.snd hyz⟩
 obtain ⟨R,SY⟩: ∃R,R=(bY s.p x (s.f x).2 0 ws).1:=⟨_,rfl⟩
 rw [<- SY] at Rx
 have hB:(fun b=> ∃q∈R0,(ρ q.n).has b)=fun b=> ∃q∈R,(ρ q.n).has b:=by
  funext b
  refine propext ⟨?_,?_⟩
  ·rintro ⟨q,hq,e⟩
   have:q.n∈ws.map (·.1):=by rw [<- FL (G6 s.p),<- SX];exact List.mem_map.2 ⟨q,hq,rfl⟩
   rw [<- FL (s.f x).2,<- SY] at this
   obtain ⟨q',uq,e'⟩:=List.mem_map.1 this
   exact ⟨q',uq,by rw [e'];exact e⟩
  ·rintro ⟨q,hq,e⟩
   have:q.n∈ws.map (·.1):=by rw [<- FL (s.f x).2,<- SY];exact List.mem_map.2 ⟨q,hq,rfl⟩
   rw [<- FL (G6 s.p),<- SX] at this
   obtain ⟨q',uq,e'⟩:=List.mem_map.1 this
   exact ⟨q',uq,by rw [e'];exact e⟩
 have YI: ∀q∈R,∀q'∈R,q.m=q'.m->q=q':=uy (f:=fD.m) (by
  rw [SY,show List.map fD.m (bY s.p x (s.f x).2 0 ws).1=eB s.p x 0 from (OG _).1];exact ie hwn)
 have Zh: ∀q∈R,aY q.m=ρ q.n:=fun q hq=>by
  have Nv:=hq
  rw [SY] at Nv
  obtain ⟨_,m2,m3⟩:=Ss s.p x (s.f x).2 0 ws q Nv
  simp only [Nat.zero_add,Nat.sub_zero] at m2 m3
  rw [(lY.at_ _ _ E3).2 q.m m2]
  obtain ⟨y,y1,y2⟩:=hg q.m _ m3
  rcases y2 with y2|⟨q0,k1,k2,_,k4⟩
  ·exact (Gh (Gv _ q Nv).2 y2).elim
  ·rw [lZ]
   simp only [List.getD_eq_getElem?_getD,y1,Option.getD_some]
   rw [k4]
   have:(q0.n,q0.m)∈R0.map fun q=>(q.n,q.m):=List.mem_map.2 ⟨q0,k1,rfl⟩
   rw [SX,(P4 s.p x (G6 s.p) (s.f x).2 0 ws).1,<- SY] at this
   obtain ⟨q',k5,k6⟩:=List.mem_map.1 this
   simp only [Prod.mk.injEq] at k6
   have:=YI q' k5 q hq (by omega)
   rw [<- this,k6.1]
 have bz:nD {wr:=fun b=> ∃q∈R0,(ρ q.n).has b} w [] ⟨[v],st.heap⟩ aY {tmps:= #[v.af aY],defers:= []} w':=by
  refine ⟨fun t _=> ?_,rfl,rfl,fun t=> ?_,lY⟩
  ·match t with
   |0=>rfl
   |t+1=>rfl
  ·match t with
   |0=>exact hv
   |t+1=>exact qD _
 have lX:=bz.Tm Rx
 obtain ⟨mc,WO⟩: ∃mc,mc=jC (ss++R.map fun q=>Src.same q.m) (aj ((aT 2 0 s.r (s.f x).1).2++R.map fD.c)) aY:=⟨_,rfl⟩
 have lX:nD {wr:=fun b=> ∃q∈R0,(ρ q.n).has b} w [] ⟨[iq (aT 2 0 s.r (s.f x).1).1],(aT 2 0 s.r (s.f x).1).2++R.map fD.c⟩ mc {tmps:= #[v.af aY],defers:= []} w':=by
  rw [WO];exact lX
 have WQ: ∀(i:Nat) (q:fD),R[i]? =some q->mc ((aT 2 0 s.r (s.f x).1).2.length+i)=ρ q.n:=fun i q hi=>by
  rw [WO]
  unfold jC
  rw [<- Y4,List.getElem?_append_right (by omega),Nat.add_sub_cancel_left,List.getElem?_map,hi]
  exact Zh q (List.mem_of_getElem? hi)
 have Gw:=o8 2 s.r (s.f x).1 0 hres
 have vy:=fun d=>(fM 2 (ρ:=mc) (ρ':=fun m=>mc (m- d)) (d:=d) s.r (s.f x).1 0 hres fun i _=>by simp).2
 have A3:(aT 2 nm s.r (s.f x).1).2=(aT 2 0 s.r (s.f x).1).2:=by simpa using vy nm
 have my:=lX.st
 rw [hB] at my
 obtain ⟨ρ',r1,r2,r3⟩:=St.VS (R:=R) (v:=iq (aT 2 nm s.r (s.f x).1).1) (tc:=tc++ws.map (·.1)) (nm:=nm) hst (fun i hi=>hfr i (by rw [A3];exact hi)) Gw (fun q hq=>by
  rw [SY] at hq
  exact ⟨bV _ q hq,SO.of (Gv _ q hq).2 (DQ s.p x _ 0 ws hout q hq).2⟩) my WQ
 have hsh:=(fM 2 (ρ:=mc) (ρ':=ρ') (d:=nm) s.r (s.f x).1 0 hres fun i hi=>by rw [Nat.zero_add];exact r2 i hi).1
 rw [Nat.zero_add] at hsh
 refine ⟨ρ',?_,r1,?_,?_⟩
 ·congr 1
  have h1:=lX.tmps 0 (by
   show iq _≠_
   generalize (aT 2 0 s.r (s.f x).1).1=l
   match l with
   | []=>exact fun h=>by cases h
   | [_]=>exact fun h=>by cases h
   |_::_::_=>exact fun h=>by cases h)
  have h2:v.af aY=(iq (aT 2 0 s.r (s.f x).1).1).af mc:=h1
  rw [h2]
  exact (pC hsh).symm
 ·exact wC fun c hc=>A0.aZ (fun m hm=> .inr (by simpa using hm)) c (gH 2 s.r (s.f x).1 nm c hc)
 ·rw [A3,<- SY];exact r3
theorem av.Ln (s:Cz) {i:Bool} (t:s.p.ty.T->Tr (s.r.ty.T×s.p.out.T) i) (hT:br P tt) (hS:ah P specs) (hm:P.follows .mixedOrders=true) {n:FuncId} {fn:Func} (hk:(P.funcs[n]?,ew (ids (bG fn)),s.r.res)=(some fn,true,true))
  {dc:List (Nat×iL)} {lp:s.p.ty.T->List (Nat×cy)} (hits:aD P fh dc) (hl: ∀x,aB P fh (bG fn) (lp x)) (he: ∀x,(s.pre x,s.f x)=(Tr.pI i (t x).pre,(t x).val))
  (h: ∀x r0 Q,ET ⟨tt,specs,fh,lp x,[],dc⟩ fn (J9 s.p x) (Ov s.p x r0) (Sz s.r s.p x r0 Q)=(t x).wp Q [.env r0]):av P n (bC s):=by
 simp only [Prod.mk.injEq] at hk
 refine av.cV hT hS hm hk.1 hk.2.1 hk.2.2 fun x hx r0=>⟨lp x,dc,hits,hl x,?_⟩
 have e:=he x
 simp only [Prod.mk.injEq] at e
 rw [h]
 exact Tr.Ia _ _ _ (by rw [<- e.1];exact hx) e.2.symm
end
namespace Tr
variable {τ:Type}
abbrev cV {i:Bool} (s:Cz) (x:s.p.ty.T) (k:s.r.ty.T×s.p.out.T->Tr τ i):Tr τ true:= .call (s.pre x) (s.f x) k
abbrev X7 {i:Bool} (s:Cz) (x:s.p.ty.T) (h:s.pre x) (k:s.r.ty.T×s.p.out.T->Tr τ i):Tr τ i:= .Kf (s.pre x) h (s.f x) k
end Tr
end Go.Ev
