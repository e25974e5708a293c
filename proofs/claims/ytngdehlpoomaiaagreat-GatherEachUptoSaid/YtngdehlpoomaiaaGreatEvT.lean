/- Contracts of functions that write rows which they are handed. -/
import Derived.Test.YtngdehlpoomaiaaGreatEvS
noncomputable section
set_option linter.unusedSectionVars false
set_option linter.unusedVariables false
set_option linter.unusedSimpArgs false
namespace Go.Ev
open Go.RowKit
theorem J2: ∀ {l:List Nat},l.Nodup->dY l=true
 | [],_=>rfl
 |x::r,h=>by
  rw [List.nodup_cons] at h
  simp only [dY,Bool.and_eq_true,Bool.not_eq_true']
  exact ⟨Bool.eq_false_iff.2 fun e=>h.1 (by simpa using e),J2 h.2⟩
theorem nR: ∀ {a b:List Nat},oZ a b=true-> ∀m∈a,m∉b
 | [],_,_,_,hm=>by cases hm
 |x::r,b,h,m,hm=>by
  simp only [oZ,Bool.and_eq_true,Bool.not_eq_true'] at h
  rcases List.mem_cons.1 hm with rfl|hm
  ·exact fun e=>Bool.eq_false_iff.1 h.1 (Ga.2 e)
  ·exact nR h.2 m hm
def Pa:(p:mT)->p.out.T
 | .val _=>false
 | .row _=> []
 | .ptr t _=>t.d
 | .pair a b=>(Pa a,Pa b)
theorem abh (p:mT): ∀(x:p.ty.T) (z z':p.out.T) (nm:Nat) (ws:List (Nat×Nat)),(bM p x z nm ws).1.map (fun q=>(q.n,q.m))=(bM p x z' nm ws).1.map (fun q=>(q.n,q.m))/\ (bM p x z nm ws).2=(bM p x z' nm ws).2:=by
 induction p with
 |val p=>intro x z z' nm ws;exact ⟨rfl,rfl⟩
 |row t=>intro x z z' nm ws;cases ws<;>exact ⟨rfl,rfl⟩
 |ptr t e=>intro x z z' nm ws;cases ws<;>exact ⟨rfl,rfl⟩
 |pair a b Mf Mg=>
  intro x z z' nm ws
  obtain ⟨h1,h2⟩:=Mf x.1 z.1 z'.1 nm ws
  obtain ⟨h3,h4⟩:=Mg x.2 z.2 z'.2 (nm+(e9 nm a x.1).2.length) (bM a x.1 z.1 nm ws).2
  rw [h2] at h3 h4
  simp only [bM,List.map_append,h1,h2,h3,h4,and_self]
theorem abl {π:List Src} {l0 l:List A0} {v:AV} (hl:kj v=some l) (h1:gp π l0=some l):sK π (ji l0)=some v:=by
 cases v with
 |v a=>
  simp only [kj,Option.some.injEq] at hl
  subst hl
  match l0,h1 with
  | [],h1=>simp [gp] at h1
  | [c],h1=>
   simp only [gp] at h1
   split at h1
   ·rename_i q m k1 k2
    simp only [Option.some.injEq,List.cons.injEq] at h1
    obtain ⟨rfl,_⟩:=h1
    simp only [ji,sK,k1]
   ·cases h1
  |_::_::_,h1=>
   simp only [gp] at h1
   split at h1
   ·rename_i k1 k2
    split at k2
    ·cases k2;simp at h1
    ·cases k2
   ·cases h1
 |nC l'=>
  simp only [kj] at hl
  split at hl
  ·cases hl
  ·rename_i hne
   cases hl
   match l0,h1 with
   | [],h1=>simp only [ji,sK,h1]
   | [c],h1=>
    simp only [gp] at h1
    split at h1
    ·rename_i q m k1 k2
     cases k2
     cases h1
     exact absurd rfl (hne q)
    ·cases h1
   |_::_::_,h1=>simp only [ji,sK,h1]
 |dead=>simp [kj] at hl
theorem XG {π:List Src} {u v:AV} (key:sK π u=some v):HE π [v] [u]:=by
 cases u with
 |v a=>exact ⟨key,trivial⟩
 |nC l=>exact ⟨key,trivial⟩
 |dead=>simp [sK] at key
theorem Pm {π:List Src} : ∀ {cs:List Cell},abg cs->gX π cs=some cs
 | [],_=>rfl
 |c::r,h=>by
  obtain ⟨v,rfl⟩:=h c (by simp)
  have ih:=Pm (π:=π) (cs:=r) fun c hc=>h c (by simp [hc])
  simp only [gX,jh,ih]
theorem WPc.ren {π:List Src} {q:fG} (h:WPc q):fA π q.c=some q.c:=by
 rcases h with ⟨t,l,z,_,_,h1,_⟩|⟨cs,zs,e,h1,_,h2,_⟩
 ·rw [h1];rfl
 ·rw [h2];simp only [fA,Pm h1]
theorem Kp {π:List Src} {h:List aG} : ∀(R:List fG),(∀r∈R,aj h r.m=some r.c/\ WPc r)->bG (DG π h) (R.map fun q=>Src.same q.m) (R.map fG.c)
 | [],_=>trivial
 |q::r,hh=>⟨⟨_,(hh q (by simp)).1,(hh q (by simp)).2.ren⟩,Kp r fun q hq=>hh q (by simp [hq])⟩
theorem Oj {ok:Nat->Prop} {w:World} {q:fG} {y:Loc} (h:WP1 q) (hg:cw ok w q.a y):False:=by
 rcases h with ⟨t,l,_,_,h,_⟩|⟨cs,e,_,h,_⟩
 ·rw [h] at hg;exact absurd hg.1 (by decide)
 ·rw [h] at hg;exact hg
theorem Xj {r:kK} {p:mT} {x:p.ty.T} {aV:Env} {Q:r.ty.T×p.out.T->Prop} {v:AV} {st:AS} (h:ae2 r p x aV Q v st): ∃y z,Q (y,z)/\ aj st.heap (e9 0 p x).2.length=some (.bT aV (e9 0 p x).2.length)/\ Pb (aj st.heap) p x 0=some (z,true)/\ dY (dZ p x 0)=true/\
  ∃ss,ss.length=(aW 2 0 r y).2.length/\ ∀ws,(dZ p x 0).length<=ws.length->Ren (ss++(bM p x z 0 ws).1.map fun q=>Src.same q.m) ⟨[v],st.heap⟩ ⟨[ji (aW 2 0 r y).1],(aW 2 0 r y).2++(bM p x z 0 ws).1.map fG.c⟩:=by
 unfold ae2 at h
 split at h
 rotate_left
 ·exact h.elim
 rename_i l hl
 split at h
 rotate_left
 ·exact h.elim
 rename_i y ss hd
 split at h
 rotate_left
 ·exact h.elim
 rename_i hn
 split at h
 rotate_left
 ·exact h.elim
 rename_i z f ho
 obtain ⟨hp,h⟩:=cZ h
 obtain ⟨rfl,hQ⟩:=bg h
 obtain ⟨ys,e,hs⟩:=vY r _ _ _ _ hd
 rw [List.append_nil] at e
 subst e
 refine ⟨y,z,hQ,hp,ho,?_,ss,(hs ss 0 fun i s hi=>by rwa [Nat.zero_add]).2.length,fun ws hw=> ?_⟩
 ·have:=eM hn
  rw [List.nodup_append] at this
  exact J2 this.2.1
 obtain ⟨h1,h2⟩:=hs (ss++(bM p x z 0 ws).1.map fun q=>Src.same q.m) 0 fun i s hi=>by
  rw [Nat.zero_add,List.getElem?_append_left (List.getElem?_eq_some_iff.1 hi).1];exact hi
 have h3:=h2.append (Kp (π:=ss++(bM p x z 0 ws).1.map fun q=>Src.same q.m) (bM p x z 0 ws).1 fun q hq=>Kg p x z 0 ws ho q hq)
 obtain ⟨h4,h5⟩:=FE _ _ h3
 refine ⟨XG (abl hl h1),h4,?_⟩
 show dY (vJ _ (_++_))=true
 rw [h5,List.filterMap_append]
 have:((bM p x z 0 ws).1.map fun q=>Src.same q.m).filterMap Cg=dZ p x 0:=by
  rw [<- (pZ p x z 0 ws hw).1,List.filterMap_map]
  induction (bM p x z 0 ws).1 with
  |nil=>rfl
  |cons q r ih=>simp [Cg,ih]
 rw [this];exact hn
section
variable {P:Program} {tt:List (Nat×TI)} {specs:List (Nat×Spec)}
theorem ye {α β:Type} [DecidableEq β] {f:α->β} : ∀ {l:List α},(l.map f).Nodup-> ∀a∈l,∀b∈l,f a=f b->a=b
 | [],_,_,ha,_,_,_=>by cases ha
 |x::r,hn,a,ha,b,hb,e=>by
  rw [List.map_cons,List.nodup_cons] at hn
  rcases List.mem_cons.1 ha with rfl|ha'<;>rcases List.mem_cons.1 hb with rfl|hb'
  ·rfl
  ·exact absurd (show f a∈r.map f by rw [e];exact List.mem_map.2 ⟨b,hb',rfl⟩) hn.1
  ·exact absurd (show f b∈r.map f by rw [<- e];exact List.mem_map.2 ⟨a,ha',rfl⟩) hn.1
  ·exact ye hn.2 a ha' b hb' e
theorem ai.fnW (hT:cP P tt) (hS:ah P specs) (hm:P.follows .mixedOrders=true) {f:FuncId} {fn:Func} (hf:P.funcs[f]? =some fn) (hn:dg (ids (aD fn))=true) {s:FnW} (hres:s.r.res=true)
  (h: ∀x,s.pre x-> ∀aV,∃lp its,ax P cf its/\ ay P cf (aD fn) lp/\ Ie ⟨tt,specs,cf,lp,[],its⟩ fn (Ts s.p x) (ZP s.p x aV) (ae2 s.r s.p x aV (· =s.f x))):ai P f (jZ s):=by
 intro X args hp nm k hs
 unfold jZ at hs
 split at hs
 rotate_left
 ·exact hs.elim
 rename_i x tc ws b hd
 split at hs
 rotate_left
 ·exact hs.elim
 rename_i Wh
 rw [Bool.and_eq_true] at Wh
 obtain ⟨gU,Bj⟩:=Wh
 have gU:=eM gU
 have Bj:=nR Bj
 obtain ⟨rfl,hpre,hk⟩:=bg hs
 have hk:=hk _ rfl
 have hlen:=tY s.p _ _ _ _ _ _ hd 0
 obtain ⟨bs,e,hargs⟩:=VN s.p _ _ _ _ _ hd
 rw [List.append_nil] at e
 subst e
 have Oz: ∀z,∀q∈(bM s.p x z 0 ws).1,hp q.n=some q.b/\ WP1 q:=fun z q hq=>VM s.p _ _ _ _ _ hd z 0 [] q (by rw [List.append_nil];exact hq)
 have ZW:=fun z=>pZ s.p x z 0 ws (by omega)
 have Nf: ∀z,(bM s.p x z 0 ws).1.map (·.n)=ws.map (·.1):=fun z=>by
  have:=congrArg (List.map Prod.fst) (ZW z).2.2
  rw [List.map_map,hlen,List.take_length] at this
  exact this
 have al6: ∀z,∀q∈(bM s.p x z 0 ws).1,∀q'∈(bM s.p x z 0 ws).1,q.n=q'.n->q=q':=fun z=>ye (f:=fG.n) (by
  rw [show List.map fG.n (bM s.p x z 0 ws).1=ws.map (·.1) from Nf z];exact gU)
 refine ⟨_,⟨fun p eL=> ?_,?_⟩,hk⟩
 ·obtain ⟨q,hq,rfl⟩:=List.mem_map.1 eL
  rw [(Oz _ q hq).1];exact fun h=>by cases h
 intro au W ρ Kn Γ w _ _ ht hfr hst
 obtain ⟨R0,hR0⟩: ∃R,R=(bM s.p x (Pa s.p) 0 ws).1:=⟨_,rfl⟩
 have bL: ∀z,∀q∈(bM s.p x z 0 ws).1,Γ q.n=some q.b:=fun z q hq=>by
  rw [ht q.n (List.mem_append.2 (.inr (by show q.n∈ws.map (·.1);rw [<- Nf z];exact List.mem_map.2 ⟨q,hq,rfl⟩)))];exact (Oz z q hq).1
 have hok:lY (fun b=>bh w b/\ ∀q∈R0,¬(ρ q.n).has b) ρ Γ w tc:=by
  refine ⟨fun b hb=>⟨hb.1,fun q hq e=>hb.2 (.inl ⟨q.n,?_,e⟩)⟩,fun m hm hs b hb hc=>⟨hc,fun q hq e=> ?_⟩⟩
  ·rw [hR0] at hq;rw [bL _ q hq];rfl
  ·rw [hR0] at hq
   have:=hst.dz m q.n b hs (by rw [bL _ q hq];rfl) hb e
   exact Bj m hm (by rw [this,<- Nf (Pa s.p)];exact List.mem_map.2 ⟨q,hq,rfl⟩)
 obtain ⟨xs,hxl,hg,hc⟩:=hargs au W ρ Kn Γ w (fun m hm=>ht m (List.mem_append.2 (.inl hm))) hst _ hok (Pa s.p) 0 []
 rw [List.append_nil,<- hR0] at hg
 simp only [Nat.zero_add] at hg hc
 have hb:=St.agA (R:=R0) hst hxl (fun q hq=>by
  rw [hR0] at hq;exact ⟨bL _ q hq,(Oz _ q hq).2⟩) (fun q hq q' D5 e=>by
  rw [hR0] at hq D5;rw [al6 _ q hq q' D5 e]) hg
 obtain ⟨aV,dL⟩: ∃aV:Env,aV=fun n=>xs.getD n {} :=⟨_,rfl⟩
 rw [<- dL] at hb
 obtain ⟨lp,its,hi,hl,hfn⟩:=h x hpre aV
 have hcs:=hc aV fun i y hy=>by rw [dL];simp [hy]
 have key:=iO (ctx:=⟨tt,specs,cf,lp,[],its⟩) hT ⟨hS,mU.nil P,hi⟩ (cf.ok _ w) hm hf (fun c hc=>by
  have:aD fn=c:=by unfold aD;rw [hc]
  subst this
  exact wD (dJ hn) hl) hfn (fun y hy=>by
   obtain ⟨a,ha,rfl⟩:=List.mem_map.1 hy
   exact A0.aR (fun m hm=>by simp only [ZP,List.length_append,List.length_singleton];omega) a (adq s.p x 0 a ha)) hb
 have ea:(Ts s.p x).map (AV.ae aV)=args.map (AV.ae ρ):=by
  rw [hcs];simp [Ts,AV.ae,Function.comp_def]
 rw [ea] at key
 refine key.mono ?_
 rintro e w' ⟨st,aQ,v,rfl,hv,hR,m9⟩
 obtain ⟨y,z,hyz,wZ,hout,hwn,ss,amx,aei⟩:=Xj hR
 have aei:=aei ws (by omega)
 obtain ⟨rfl,rfl⟩:y=(s.f x).1/\ z=(s.f x).2:=⟨congrArg Prod.fst hyz,congrArg Prod.snd hyz⟩
 obtain ⟨R,hRe⟩: ∃R,R=(bM s.p x (s.f x).2 0 ws).1:=⟨_,rfl⟩
 rw [<- hRe] at aei
 have hB:(fun b=> ∃q∈R0,(ρ q.n).has b)=fun b=> ∃q∈R,(ρ q.n).has b:=by
  funext b
  refine propext ⟨?_,?_⟩
  ·rintro ⟨q,hq,e⟩
   have:q.n∈ws.map (·.1):=by rw [<- Nf (Pa s.p),<- hR0];exact List.mem_map.2 ⟨q,hq,rfl⟩
   rw [<- Nf (s.f x).2,<- hRe] at this
   obtain ⟨q',D5,e'⟩:=List.mem_map.1 this
   exact ⟨q',D5,by rw [e'];exact e⟩
  ·rintro ⟨q,hq,e⟩
   have:q.n∈ws.map (·.1):=by rw [<- Nf (s.f x).2,<- hRe];exact List.mem_map.2 ⟨q,hq,rfl⟩
   rw [<- Nf (Pa s.p),<- hR0] at this
   obtain ⟨q',D5,e'⟩:=List.mem_map.1 this
   exact ⟨q',D5,by rw [e'];exact e⟩
 have al5: ∀q∈R,∀q'∈R,q.m=q'.m->q=q':=ye (f:=fG.m) (by
  rw [hRe,show List.map fG.m (bM s.p x (s.f x).2 0 ws).1=dZ s.p x 0 from (ZW _).1];exact eM hwn)
 have amF: ∀q∈R,aQ q.m=ρ q.n:=fun q hq=>by
  have Wo:=hq
  rw [hRe] at Wo
  obtain ⟨_,m2,m3⟩:=aeY s.p x (s.f x).2 0 ws q Wo
  simp only [Nat.zero_add,Nat.sub_zero] at m2 m3
  rw [(m9.at_ _ _ wZ).2 q.m m2]
  obtain ⟨y,y1,y2⟩:=hg q.m _ m3
  rcases y2 with y2|⟨q0,k1,k2,_,k4⟩
  ·exact (Oj (Oz _ q Wo).2 y2).elim
  ·rw [dL]
   simp only [List.getD_eq_getElem?_getD,y1,Option.getD_some]
   rw [k4]
   have:(q0.n,q0.m)∈R0.map fun q=>(q.n,q.m):=List.mem_map.2 ⟨q0,k1,rfl⟩
   rw [hR0,(abh s.p x (Pa s.p) (s.f x).2 0 ws).1,<- hRe] at this
   obtain ⟨q',k5,k6⟩:=List.mem_map.1 this
   simp only [Prod.mk.injEq] at k6
   have:=al5 q' k5 q hq (by omega)
   rw [<- this,k6.1]
 have aO:kJ {wr:=fun b=> ∃q∈R0,(ρ q.n).has b} w [] ⟨[v],st.heap⟩ aQ {tmps:= #[v.ae aQ],defers:= []} w':=by
  refine ⟨fun t _=> ?_,rfl,rfl,fun t=> ?_,m9⟩
  ·match t with
   |0=>rfl
   |t+1=>rfl
  ·match t with
   |0=>exact hv
   |t+1=>exact s7 _
 have eI:=aO.age aei
 obtain ⟨iY,aj3⟩: ∃iY,iY=jQ (ss++R.map fun q=>Src.same q.m) (aj ((aW 2 0 s.r (s.f x).1).2++R.map fG.c)) aQ:=⟨_,rfl⟩
 have eI:kJ {wr:=fun b=> ∃q∈R0,(ρ q.n).has b} w [] ⟨[ji (aW 2 0 s.r (s.f x).1).1],(aW 2 0 s.r (s.f x).1).2++R.map fG.c⟩ iY {tmps:= #[v.ae aQ],defers:= []} w':=by
  rw [aj3];exact eI
 have aj4: ∀(i:Nat) (q:fG),R[i]? =some q->iY ((aW 2 0 s.r (s.f x).1).2.length+i)=ρ q.n:=fun i q hi=>by
  rw [aj3]
  unfold jQ
  rw [<- amx,List.getElem?_append_right (by omega),Nat.add_sub_cancel_left,List.getElem?_map,hi]
  exact amF q (List.mem_of_getElem? hi)
 have OA:=qN 2 s.r (s.f x).1 0 hres
 have Jr:=fun d=>(iu 2 (ρ:=iY) (ρ':=fun m=>iY (m- d)) (d:=d) s.r (s.f x).1 0 hres fun i _=>by simp).2
 have Ju:(aW 2 nm s.r (s.f x).1).2=(aW 2 0 s.r (s.f x).1).2:=by simpa using Jr nm
 have BO:=eI.st
 rw [hB] at BO
 obtain ⟨ρ',r1,r2,r3⟩:=St.aje (R:=R) (v:=ji (aW 2 nm s.r (s.f x).1).1) (tc:=tc++ws.map (·.1)) (nm:=nm) hst (fun i hi=>hfr i (by rw [Ju];exact hi)) OA (fun q hq=>by
  rw [hRe] at hq
  exact ⟨bL _ q hq,WP2.of (Oz _ q hq).2 (Kg s.p x _ 0 ws hout q hq).2⟩) BO aj4
 have hsh:=(iu 2 (ρ:=iY) (ρ':=ρ') (d:=nm) s.r (s.f x).1 0 hres fun i hi=>by rw [Nat.zero_add];exact r2 i hi).1
 rw [Nat.zero_add] at hsh
 refine ⟨ρ',?_,r1,?_,?_⟩
 ·congr 1
  have h1:=eI.tmps 0 (by
   show ji _≠_
   generalize (aW 2 0 s.r (s.f x).1).1=l
   match l with
   | []=>exact fun h=>by cases h
   | [_]=>exact fun h=>by cases h
   |_::_::_=>exact fun h=>by cases h)
  have h2:v.ae aQ=(ji (aW 2 0 s.r (s.f x).1).1).ae iY:=h1
  rw [h2]
  exact (wP hsh).symm
 ·exact Eg fun c hc=>A0.aR (fun m hm=> .inr (by simpa using hm)) c (gW 2 s.r (s.f x).1 nm c hc)
 ·rw [Ju,<- hRe];exact r3
theorem ai.trW (s:FnW) {i:Bool} (t:s.p.ty.T->Tr (s.r.ty.T×s.p.out.T) i) (hT:cP P tt) (hS:ah P specs) (hm:P.follows .mixedOrders=true) {n:FuncId} {fn:Func} (hk:(P.funcs[n]?,dg (ids (aD fn)),s.r.res)=(some fn,true,true))
  {its:List (Nat×cD)} {lp:s.p.ty.T->List (Nat×bw)} (hits:ax P cf its) (hl: ∀x,ay P cf (aD fn) (lp x)) (he: ∀x,(s.pre x,s.f x)=(Tr.pI i (t x).pre,(t x).val))
  (h: ∀x r0 Q,Ie ⟨tt,specs,cf,lp x,[],its⟩ fn (Ts s.p x) (ZP s.p x r0) (ae2 s.r s.p x r0 Q)=(t x).wp Q [.env r0]):ai P n (jZ s):=by
 simp only [Prod.mk.injEq] at hk
 refine ai.fnW hT hS hm hk.1 hk.2.1 hk.2.2 fun x hx r0=>⟨lp x,its,hits,hl x,?_⟩
 have e:=he x
 simp only [Prod.mk.injEq] at e
 rw [h]
 exact Tr.Ib _ _ _ (by rw [<- e.1];exact hx) e.2.symm
end
namespace Tr
variable {τ:Type}
abbrev fnW {i:Bool} (s:FnW) (x:s.p.ty.T) (k:s.r.ty.T×s.p.out.T->Tr τ i):Tr τ true:= .call (s.pre x) (s.f x) k
end Tr
end Go.Ev
