/- Contracts of functions that write rows which they are handed. -/
import Derived.Test.YtngdehlpoomaiaaGreatEvS
noncomputable section
set_option linter.unusedSectionVars false
set_option linter.unusedVariables false
set_option linter.unusedSimpArgs false
namespace Go.Ev
open Go.RowKit
theorem Jr: ∀ {l:List Nat},l.Nodup->eB l=true
 | [],_=>rfl
 |x::r,h=>by
  rw [List.nodup_cons] at h
  simp only [eB,Bool.and_eq_true,Bool.not_eq_true']
  exact ⟨Bool.eq_false_iff.2 fun e=>h.1 (by simpa using e),Jr h.2⟩
theorem nN: ∀ {a b:List Nat},oL a b=true-> ∀m∈a,m∉b
 | [],_,_,_,hm=>by cases hm
 |x::r,b,h,m,hm=>by
  simp only [oL,Bool.and_eq_true,Bool.not_eq_true'] at h
  rcases List.mem_cons.1 hm with rfl|hm
  ·exact fun e=>Bool.eq_false_iff.1 h.1 (FD.2 e)
  ·exact nN h.2 m hm
def Oh:(p:mT)->p.out.T
 | .val _=>false
 | .row _=> []
 | .ptr t _=>t.d
 | .pair a b=>(Oh a,Oh b)
theorem aam (p:mT): ∀(x:p.ty.T) (z z':p.out.T) (nm:Nat) (ws:List (Nat×Nat)),(bS p x z nm ws).1.map (fun q=>(q.n,q.m))=(bS p x z' nm ws).1.map (fun q=>(q.n,q.m))/\ (bS p x z nm ws).2=(bS p x z' nm ws).2:=by
 induction p with
 |val p=>intro x z z' nm ws;exact ⟨rfl,rfl⟩
 |row t=>intro x z z' nm ws;cases ws<;>exact ⟨rfl,rfl⟩
 |ptr t e=>intro x z z' nm ws;cases ws<;>exact ⟨rfl,rfl⟩
 |pair a b LA LB=>
  intro x z z' nm ws
  obtain ⟨h1,h2⟩:=LA x.1 z.1 z'.1 nm ws
  obtain ⟨h3,h4⟩:=LB x.2 z.2 z'.2 (nm+(fe nm a x.1).2.length) (bS a x.1 z.1 nm ws).2
  rw [h2] at h3 h4
  simp only [bS,List.map_append,h1,h2,h3,h4,and_self]
theorem aaq {π:List Src} {l0 l:List A0} {v:AV} (hl:kD v=some l) (h1:gy π l0=some l):sv π (jo l0)=some v:=by
 cases v with
 |v a=>
  simp only [kD,Option.some.injEq] at hl
  subst hl
  match l0,h1 with
  | [],h1=>simp [gy] at h1
  | [c],h1=>
   simp only [gy] at h1
   split at h1
   ·rename_i q m k1 k2
    simp only [Option.some.injEq,List.cons.injEq] at h1
    obtain ⟨rfl,_⟩:=h1
    simp only [jo,sv,k1]
   ·cases h1
  |_::_::_,h1=>
   simp only [gy] at h1
   split at h1
   ·rename_i k1 k2
    split at k2
    ·cases k2;simp at h1
    ·cases k2
   ·cases h1
 |nC l'=>
  simp only [kD] at hl
  split at hl
  ·cases hl
  ·rename_i hne
   cases hl
   match l0,h1 with
   | [],h1=>simp only [jo,sv,h1]
   | [c],h1=>
    simp only [gy] at h1
    split at h1
    ·rename_i q m k1 k2
     cases k2
     cases h1
     exact absurd rfl (hne q)
    ·cases h1
   |_::_::_,h1=>simp only [jo,sv,h1]
 |dead=>simp [kD] at hl
theorem WV {π:List Src} {u v:AV} (key:sv π u=some v):GZ π [v] [u]:=by
 cases u with
 |v a=>exact ⟨key,trivial⟩
 |nC l=>exact ⟨key,trivial⟩
 |dead=>simp [sv] at key
theorem Ou {π:List Src} : ∀ {cs:List Cell},aal cs->hO π cs=some cs
 | [],_=>rfl
 |c::r,h=>by
  obtain ⟨v,rfl⟩:=h c (by simp)
  have ih:=Ou (π:=π) (cs:=r) fun c hc=>h c (by simp [hc])
  simp only [hO,jn,ih]
theorem WPc.ren {π:List Src} {q:fN} (h:WPc q):fH π q.c=some q.c:=by
 rcases h with ⟨t,l,z,_,_,h1,_⟩|⟨cs,zs,e,h1,_,h2,_⟩
 ·rw [h1];rfl
 ·rw [h2];simp only [fH,Ou h1]
theorem JL {π:List Src} {h:List aF} : ∀(R:List fN),(∀r∈R,ai h r.m=some r.c/\ WPc r)->bN (Dk π h) (R.map fun q=>Src.same q.m) (R.map fN.c)
 | [],_=>trivial
 |q::r,hh=>⟨⟨_,(hh q (by simp)).1,(hh q (by simp)).2.ren⟩,JL r fun q hq=>hh q (by simp [hq])⟩
theorem Nm {ok:Nat->Prop} {w:World} {q:fN} {y:Loc} (h:WP1 q) (hg:cE ok w q.a y):False:=by
 rcases h with ⟨t,l,_,_,h,_⟩|⟨cs,e,_,h,_⟩
 ·rw [h] at hg;exact absurd hg.1 (by decide)
 ·rw [h] at hg;exact hg
theorem WA {r:lF} {p:mT} {x:p.ty.T} {aZ:Env} {Q:r.ty.T×p.out.T->Prop} {v:AV} {st:AS} (h:adS r p x aZ Q v st): ∃y z,Q (y,z)/\ ai st.heap (fe 0 p x).2.length=some (.cw aZ (fe 0 p x).2.length)/\ Oi (ai st.heap) p x 0=some (z,true)/\ eB (eJ p x 0)=true/\
  ∃ss,ss.length=(bf 2 0 r y).2.length/\ ∀ws,(eJ p x 0).length<=ws.length->Ren (ss++(bS p x z 0 ws).1.map fun q=>Src.same q.m) ⟨[v],st.heap⟩ ⟨[jo (bf 2 0 r y).1],(bf 2 0 r y).2++(bS p x z 0 ws).1.map fN.c⟩:=by
 unfold adS at h
 split at h
 rotate_left
 ·exact h.elim
 rename_i l hl
 split at h
 rotate_left
 ·exact h.elim
 rename_i y ss hd
 split at h
 rotate_left
 ·exact h.elim
 rename_i hn
 split at h
 rotate_left
 ·exact h.elim
 rename_i z f ho
 obtain ⟨hp,h⟩:=de h
 obtain ⟨rfl,hQ⟩:=bk h
 obtain ⟨ys,e,hs⟩:=vF r _ _ _ _ hd
 rw [List.append_nil] at e
 subst e
 refine ⟨y,z,hQ,hp,ho,?_,ss,(hs ss 0 fun i s hi=>by rwa [Nat.zero_add]).2.length,fun ws hw=> ?_⟩
 ·have:=eX hn
  rw [List.nodup_append] at this
  exact Jr this.2.1
 obtain ⟨h1,h2⟩:=hs (ss++(bS p x z 0 ws).1.map fun q=>Src.same q.m) 0 fun i s hi=>by
  rw [Nat.zero_add,List.getElem?_append_left (List.getElem?_eq_some_iff.1 hi).1];exact hi
 have h3:=h2.append (JL (π:=ss++(bS p x z 0 ws).1.map fun q=>Src.same q.m) (bS p x z 0 ws).1 fun q hq=>JD p x z 0 ws ho q hq)
 obtain ⟨h4,h5⟩:=E7 _ _ h3
 refine ⟨WV (aaq hl h1),h4,?_⟩
 show eB (vo _ (_++_))=true
 rw [h5,List.filterMap_append]
 have:((bS p x z 0 ws).1.map fun q=>Src.same q.m).filterMap BT=eJ p x 0:=by
  rw [<- (pK p x z 0 ws hw).1,List.filterMap_map]
  induction (bS p x z 0 ws).1 with
  |nil=>rfl
  |cons q r ih=>simp [BT,ih]
 rw [this];exact hn
section
variable {P:Program} {tt:List (Nat×TI)} {specs:List (Nat×Spec)}
theorem xY {α β:Type} [DecidableEq β] {f:α->β} : ∀ {l:List α},(l.map f).Nodup-> ∀a∈l,∀b∈l,f a=f b->a=b
 | [],_,_,ha,_,_,_=>by cases ha
 |x::r,hn,a,ha,b,hb,e=>by
  rw [List.map_cons,List.nodup_cons] at hn
  rcases List.mem_cons.1 ha with rfl|ha'<;>rcases List.mem_cons.1 hb with rfl|hb'
  ·rfl
  ·exact absurd (show f a∈r.map f by rw [e];exact List.mem_map.2 ⟨b,hb',rfl⟩) hn.1
  ·exact absurd (show f b∈r.map f by rw [<- e];exact List.mem_map.2 ⟨a,ha',rfl⟩) hn.1
  ·exact xY hn.2 a ha' b hb' e
theorem ah.fnW (hT:aK P tt) (hS:af P specs) (hm:P.follows .mixedOrders=true) {f:FuncId} {fn:Func} (hf:P.funcs[f]? =some fn) (hn:dy (ids (aG fn))=true) {s:FnW} (hres:s.r.res=true)
  (h: ∀x,s.pre x-> ∀aZ,∃lp its,av P cy its/\ ax P cy (aG fn) lp/\ HB ⟨tt,specs,cy,lp,[],its⟩ fn (SI s.p x) (Y5 s.p x aZ) (adS s.r s.p x aZ (· =s.f x))):ah P f (kg s):=by
 intro X args hp nm k hs
 unfold kg at hs
 split at hs
 rotate_left
 ·exact hs.elim
 rename_i x tc ws b hd
 split at hs
 rotate_left
 ·exact hs.elim
 rename_i Vu
 rw [Bool.and_eq_true] at Vu
 obtain ⟨ie,AY⟩:=Vu
 have ie:=eX ie
 have AY:=nN AY
 obtain ⟨rfl,hpre,hk⟩:=bk hs
 have hk:=hk _ rfl
 have hlen:=tH s.p _ _ _ _ _ _ hd 0
 obtain ⟨bs,e,hargs⟩:=U4 s.p _ _ _ _ _ hd
 rw [List.append_nil] at e
 subst e
 have NF: ∀z,∀q∈(bS s.p x z 0 ws).1,hp q.n=some q.b/\ WP1 q:=fun z q hq=>U0 s.p _ _ _ _ _ hd z 0 [] q (by rw [List.append_nil];exact hq)
 have Zc:=fun z=>pK s.p x z 0 ws (by omega)
 have Mt: ∀z,(bS s.p x z 0 ws).1.map (·.n)=ws.map (·.1):=fun z=>by
  have:=congrArg (List.map Prod.fst) (Zc z).2.2
  rw [List.map_map,hlen,List.take_length] at this
  exact this
 have akU: ∀z,∀q∈(bS s.p x z 0 ws).1,∀q'∈(bS s.p x z 0 ws).1,q.n=q'.n->q=q':=fun z=>xY (f:=fN.n) (by
  rw [show List.map fN.n (bS s.p x z 0 ws).1=ws.map (·.1) from Mt z];exact ie)
 refine ⟨_,⟨fun p eW=> ?_,?_⟩,hk⟩
 ·obtain ⟨q,hq,rfl⟩:=List.mem_map.1 eW
  rw [(NF _ q hq).1];exact fun h=>by cases h
 intro aq W ρ Kn Γ w _ _ ht hfr hst
 obtain ⟨R0,hR0⟩: ∃R,R=(bS s.p x (Oh s.p) 0 ws).1:=⟨_,rfl⟩
 have bQ: ∀z,∀q∈(bS s.p x z 0 ws).1,Γ q.n=some q.b:=fun z q hq=>by
  rw [ht q.n (List.mem_append.2 (.inr (by show q.n∈ws.map (·.1);rw [<- Mt z];exact List.mem_map.2 ⟨q,hq,rfl⟩)))];exact (NF z q hq).1
 have hok:lW (fun b=>bn w b/\ ∀q∈R0,¬(ρ q.n).has b) ρ Γ w tc:=by
  refine ⟨fun b hb=>⟨hb.1,fun q hq e=>hb.2 (.inl ⟨q.n,?_,e⟩)⟩,fun m hm hs b hb hc=>⟨hc,fun q hq e=> ?_⟩⟩
  ·rw [hR0] at hq;rw [bQ _ q hq];rfl
  ·rw [hR0] at hq
   have:=hst.dK m q.n b hs (by rw [bQ _ q hq];rfl) hb e
   exact AY m hm (by rw [this,<- Mt (Oh s.p)];exact List.mem_map.2 ⟨q,hq,rfl⟩)
 obtain ⟨xs,hxl,hg,hc⟩:=hargs aq W ρ Kn Γ w (fun m hm=>ht m (List.mem_append.2 (.inl hm))) hst _ hok (Oh s.p) 0 []
 rw [List.append_nil,<- hR0] at hg
 simp only [Nat.zero_add] at hg hc
 have hb:=St.afo (R:=R0) hst hxl (fun q hq=>by
  rw [hR0] at hq;exact ⟨bQ _ q hq,(NF _ q hq).2⟩) (fun q hq q' DF e=>by
  rw [hR0] at hq DF;rw [akU _ q hq q' DF e]) hg
 obtain ⟨aZ,dR⟩: ∃aZ:Env,aZ=fun n=>xs.getD n {} :=⟨_,rfl⟩
 rw [<- dR] at hb
 obtain ⟨lp,its,hi,hl,hfn⟩:=h x hpre aZ
 have hcs:=hc aZ fun i y hy=>by rw [dR];simp [hy]
 have key:=iS (ctx:=⟨tt,specs,cy,lp,[],its⟩) hT ⟨hS,nW.nil P,hi⟩ (cy.ok _ w) hm hf (fun c hc=>by
  have:aG fn=c:=by unfold aG;rw [hc]
  subst this
  exact vZ (dQ hn) hl) hfn (fun y hy=>by
   obtain ⟨a,ha,rfl⟩:=List.mem_map.1 hy
   exact A0.aV (fun m hm=>by simp only [Y5,List.length_append,List.length_singleton];omega) a (aci s.p x 0 a ha)) hb
 have ea:(SI s.p x).map (AV.ae aZ)=args.map (AV.ae ρ):=by
  rw [hcs];simp [SI,AV.ae,Function.comp_def]
 rw [ea] at key
 refine key.mono ?_
 rintro e w' ⟨st,aX,v,rfl,hv,hR,m8⟩
 obtain ⟨y,z,hyz,wJ,hout,hwn,ss,alk,ac5⟩:=WA hR
 have ac5:=ac5 ws (by omega)
 obtain ⟨rfl,rfl⟩:y=(s.f x).1/\ z=(s.f x).2:=⟨congrArg Prod.fst hyz,congrArg Prod.snd hyz⟩
 obtain ⟨R,hRe⟩: ∃R,R=(bS s.p x (s.f x).2 0 ws).1:=⟨_,rfl⟩
 rw [<- hRe] at ac5
 have hB:(fun b=> ∃q∈R0,(ρ q.n).has b)=fun b=> ∃q∈R,(ρ q.n).has b:=by
  funext b
  refine propext ⟨?_,?_⟩
  ·rintro ⟨q,hq,e⟩
   have:q.n∈ws.map (·.1):=by rw [<- Mt (Oh s.p),<- hR0];exact List.mem_map.2 ⟨q,hq,rfl⟩
   rw [<- Mt (s.f x).2,<- hRe] at this
   obtain ⟨q',DF,e'⟩:=List.mem_map.1 this
   exact ⟨q',DF,by rw [e'];exact e⟩
  ·rintro ⟨q,hq,e⟩
   have:q.n∈ws.map (·.1):=by rw [<- Mt (s.f x).2,<- hRe];exact List.mem_map.2 ⟨q,hq,rfl⟩
   rw [<- Mt (Oh s.p),<- hR0] at this
   obtain ⟨q',DF,e'⟩:=List.mem_map.1 this
   exact ⟨q',DF,by rw [e'];exact e⟩
 have akT: ∀q∈R,∀q'∈R,q.m=q'.m->q=q':=xY (f:=fN.m) (by
  rw [hRe,show List.map fN.m (bS s.p x (s.f x).2 0 ws).1=eJ s.p x 0 from (Zc _).1];exact eX hwn)
 have alv: ∀q∈R,aX q.m=ρ q.n:=fun q hq=>by
  have VA:=hq
  rw [hRe] at VA
  obtain ⟨_,m2,m3⟩:=adN s.p x (s.f x).2 0 ws q VA
  simp only [Nat.zero_add,Nat.sub_zero] at m2 m3
  rw [(m8.at_ _ _ wJ).2 q.m m2]
  obtain ⟨y,y1,y2⟩:=hg q.m _ m3
  rcases y2 with y2|⟨q0,k1,k2,_,k4⟩
  ·exact (Nm (NF _ q VA).2 y2).elim
  ·rw [dR]
   simp only [List.getD_eq_getElem?_getD,y1,Option.getD_some]
   rw [k4]
   have:(q0.n,q0.m)∈R0.map fun q=>(q.n,q.m):=List.mem_map.2 ⟨q0,k1,rfl⟩
   rw [hR0,(aam s.p x (Oh s.p) (s.f x).2 0 ws).1,<- hRe] at this
   obtain ⟨q',k5,k6⟩:=List.mem_map.1 this
   simp only [Prod.mk.injEq] at k6
   have:=akT q' k5 q hq (by omega)
   rw [<- this,k6.1]
 have aR:lV {wr:=fun b=> ∃q∈R0,(ρ q.n).has b} w [] ⟨[v],st.heap⟩ aX {tmps:= #[v.ae aX],defers:= []} w':=by
  refine ⟨fun t _=> ?_,rfl,rfl,fun t=> ?_,m8⟩
  ·match t with
   |0=>rfl
   |t+1=>rfl
  ·match t with
   |0=>exact hv
   |t+1=>exact sM _
 have fF:=aR.ae2 ac5
 obtain ⟨jb,aiU⟩: ∃jb,jb=jY (ss++R.map fun q=>Src.same q.m) (ai ((bf 2 0 s.r (s.f x).1).2++R.map fN.c)) aX:=⟨_,rfl⟩
 have fF:lV {wr:=fun b=> ∃q∈R0,(ρ q.n).has b} w [] ⟨[jo (bf 2 0 s.r (s.f x).1).1],(bf 2 0 s.r (s.f x).1).2++R.map fN.c⟩ jb {tmps:= #[v.ae aX],defers:= []} w':=by
  rw [aiU];exact fF
 have aiV: ∀(i:Nat) (q:fN),R[i]? =some q->jb ((bf 2 0 s.r (s.f x).1).2.length+i)=ρ q.n:=fun i q hi=>by
  rw [aiU]
  unfold jY
  rw [<- alk,List.getElem?_append_right (by omega),Nat.add_sub_cancel_left,List.getElem?_map,hi]
  exact alv q (List.mem_of_getElem? hi)
 have NG:=qE 2 s.r (s.f x).1 0 hres
 have IS:=fun d=>(iA 2 (ρ:=jb) (ρ':=fun m=>jb (m- d)) (d:=d) s.r (s.f x).1 0 hres fun i _=>by simp).2
 have IV:(bf 2 nm s.r (s.f x).1).2=(bf 2 0 s.r (s.f x).1).2:=by simpa using IS nm
 have Bp:=fF.st
 rw [hB] at Bp
 obtain ⟨ρ',r1,r2,r3⟩:=St.ah7 (R:=R) (v:=jo (bf 2 nm s.r (s.f x).1).1) (tc:=tc++ws.map (·.1)) (nm:=nm) hst (fun i hi=>hfr i (by rw [IV];exact hi)) NG (fun q hq=>by
  rw [hRe] at hq
  exact ⟨bQ _ q hq,WP2.of (NF _ q hq).2 (JD s.p x _ 0 ws hout q hq).2⟩) Bp aiV
 have hsh:=(iA 2 (ρ:=jb) (ρ':=ρ') (d:=nm) s.r (s.f x).1 0 hres fun i hi=>by rw [Nat.zero_add];exact r2 i hi).1
 rw [Nat.zero_add] at hsh
 refine ⟨ρ',?_,r1,?_,?_⟩
 ·congr 1
  have h1:=fF.tmps 0 (by
   show jo _≠_
   generalize (bf 2 0 s.r (s.f x).1).1=l
   match l with
   | []=>exact fun h=>by cases h
   | [_]=>exact fun h=>by cases h
   |_::_::_=>exact fun h=>by cases h)
  have h2:v.ae aX=(jo (bf 2 0 s.r (s.f x).1).1).ae jb:=h1
  rw [h2]
  exact (wz hsh).symm
 ·exact DR fun c hc=>A0.aV (fun m hm=> .inr (by simpa using hm)) c (iU 2 s.r (s.f x).1 nm c hc)
 ·rw [IV,<- hRe];exact r3
theorem ah.trW (s:FnW) {i:Bool} (t:s.p.ty.T->Tr (s.r.ty.T×s.p.out.T) i) (hT:aK P tt) (hS:af P specs) (hm:P.follows .mixedOrders=true) {n:FuncId} {fn:Func} (hk:(P.funcs[n]?,dy (ids (aG fn)),s.r.res)=(some fn,true,true))
  {its:List (Nat×cX)} {lp:s.p.ty.T->List (Nat×bC)} (hits:av P cy its) (hl: ∀x,ax P cy (aG fn) (lp x)) (he: ∀x,(s.pre x,s.f x)=(Tr.pI i (t x).pre,(t x).val))
  (h: ∀x r0 Q,HB ⟨tt,specs,cy,lp x,[],its⟩ fn (SI s.p x) (Y5 s.p x r0) (adS s.r s.p x r0 Q)=(t x).wp Q [.env r0]):ah P n (kg s):=by
 simp only [Prod.mk.injEq] at hk
 refine ah.fnW hT hS hm hk.1 hk.2.1 hk.2.2 fun x hx r0=>⟨lp x,its,hits,hl x,?_⟩
 have e:=he x
 simp only [Prod.mk.injEq] at e
 rw [h]
 exact Tr.Hz _ _ _ (by rw [<- e.1];exact hx) e.2.symm
end
namespace Tr
variable {τ:Type}
abbrev fnW {i:Bool} (s:FnW) (x:s.p.ty.T) (k:s.r.ty.T×s.p.out.T->Tr τ i):Tr τ true:= .call (s.pre x) (s.f x) k
end Tr
end Go.Ev
