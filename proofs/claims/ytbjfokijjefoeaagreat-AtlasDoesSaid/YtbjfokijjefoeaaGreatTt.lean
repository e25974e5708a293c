/- Contracts of functions that write rows which they are handed. -/
import Derived.Test.YtbjfokijjefoeaaGreatEvS
import Derived.Test.YtbjfokijjefoeaaGreatEvR
import Derived.Test.YtbjfokijjefoeaaGreatChecked
noncomputable section
set_option linter.unusedSectionVars false
set_option linter.unusedVariables false
set_option linter.unusedSimpArgs false
namespace Go.Ev
open Go.RowKit
theorem KT: ∀ {l:List Nat},l.Nodup->kB l=true
 | [],_=>rfl
 |x::r,h=>by
  rw [List.nodup_cons] at h
  simp only [kB,Bool.and_eq_true,Bool.not_eq_true']
  exact ⟨Bool.eq_false_iff.2 fun e=>h.1 (by simpa using e),KT h.2⟩
theorem Kf: ∀ {a b:List Nat},Jr a b=true-> ∀m∈a,m∉b
 | [],_,_,_,hm=>by cases hm
 |x::r,b,h,m,hm=>by
  simp only [Jr,Bool.and_eq_true,Bool.not_eq_true'] at h
  rcases List.mem_cons.1 hm with rfl|hm
  ·exact fun e=>Bool.eq_false_iff.1 h.1 (Hg.2 e)
  ·exact Kf h.2 m hm
def Pc:(p:oV)->p.out.T
 | .val _=>false
 | .row _=> []
 | .ptr t _=>t.d
 | .pair a b=>(Pc a,Pc b)
theorem Z2 (p:oV): ∀(x:p.ty.T) (z z':p.out.T) (nm:Nat) (ws:List (Nat×Nat)),(bQ p x z nm ws).1.map (fun q=>(q.n,q.m))=(bQ p x z' nm ws).1.map (fun q=>(q.n,q.m))/\ (bQ p x z nm ws).2=(bQ p x z' nm ws).2:=by
 induction p with
 |val p=>intro x z z' nm ws;exact ⟨rfl,rfl⟩
 |row t=>intro x z z' nm ws;cases ws<;>exact ⟨rfl,rfl⟩
 |ptr t e=>intro x z z' nm ws;cases ws<;>exact ⟨rfl,rfl⟩
 |pair a b JA JB=>
  intro x z z' nm ws
  obtain ⟨h1,h2⟩:=JA x.1 z.1 z'.1 nm ws
  obtain ⟨h3,h4⟩:=JB x.2 z.2 z'.2 (nm+(fD nm a x.1).2.length) (bQ a x.1 z.1 nm ws).2
  rw [h2] at h3 h4
  simp only [bQ,List.map_append,h1,h2,h3,h4,and_self]
theorem Z6 {π:List Src} {l0 l:List A0} {v:AV} (hl:lK v=some l) (h1:iq π l0=some l):uy π (jJ l0)=some v:=by
 cases v with
 |v a=>
  simp only [lK,Option.some.injEq] at hl
  subst hl
  match l0,h1 with
  | [],h1=>simp [iq] at h1
  | [c],h1=>
   simp only [iq] at h1
   split at h1
   ·rename_i q m k1 k2
    simp only [Option.some.injEq,List.cons.injEq] at h1
    obtain ⟨rfl,_⟩:=h1
    simp only [jJ,uy,k1]
   ·cases h1
  |_::_::_,h1=>
   simp only [iq] at h1
   split at h1
   ·rename_i k1 k2
    split at k2
    ·cases k2;simp at h1
    ·cases k2
   ·cases h1
 |r7 l'=>
  simp only [lK] at hl
  split at hl
  ·cases hl
  ·rename_i hne
   cases hl
   match l0,h1 with
   | [],h1=>simp only [jJ,uy,h1]
   | [c],h1=>
    simp only [iq] at h1
    split at h1
    ·rename_i q m k1 k2
     cases k2
     cases h1
     exact absurd rfl (hne q)
    ·cases h1
   |_::_::_,h1=>simp only [jJ,uy,h1]
 |dead=>simp [lK] at hl
theorem Xt {π:List Src} {u v:AV} (key:uy π u=some v):Ja π [v] [u]:=by
 cases u with
 |v a=>exact ⟨key,trivial⟩
 |r7 l=>exact ⟨key,trivial⟩
 |dead=>simp [uy] at key
theorem P0 {π:List Src} : ∀ {cs:List Cell},Z1 cs->iO π cs=some cs
 | [],_=>rfl
 |c::r,h=>by
  obtain ⟨v,rfl⟩:=h c (by simp)
  have ih:=P0 (π:=π) (cs:=r) fun c hc=>h c (by simp [hc])
  simp only [iO,jU,ih]
theorem WPc.ren {π:List Src} {q:gy} (h:WPc q):gg π q.c=some q.c:=by
 rcases h with ⟨t,l,z,_,_,h1,_⟩|⟨cs,zs,e,h1,_,h2,_⟩
 ·rw [h1];rfl
 ·rw [h2];simp only [gg,P0 h1]
theorem Lv {π:List Src} {h:List aI} : ∀(R:List gy),(∀r∈R,aq h r.m=some r.c/\ WPc r)->bK (C7 π h) (R.map fun q=>Src.same q.m) (R.map gy.c)
 | [],_=>trivial
 |q::r,hh=>⟨⟨_,(hh q (by simp)).1,(hh q (by simp)).2.ren⟩,Lv r fun q hq=>hh q (by simp [hq])⟩
theorem OA {ok:Nat->Prop} {w:World} {q:gy} {y:Loc} (h:WP1 q) (hg:fP ok w q.a y):False:=by
 rcases h with ⟨t,l,_,_,h,_⟩|⟨cs,e,_,h,_⟩
 ·rw [h] at hg;exact absurd hg.1 (by decide)
 ·rw [h] at hg;exact hg
theorem Xh {r:qw} {p:oV} {x:p.ty.T} {jD:Env} {Q:r.ty.T×p.out.T->Prop} {v:AV} {st:AS} (h:acn r p x jD Q v st): ∃y z,Q (y,z)/\ aq st.heap (fD 0 p x).2.length=some (.gU jD (fD 0 p x).2.length)/\ Pd (aq st.heap) p x 0=some (z,true)/\ kB (eO p x 0)=true/\
  ∃ss,ss.length=(aT 2 0 r y).2.length/\ ∀ws,(eO p x 0).length<=ws.length->Ren (ss++(bQ p x z 0 ws).1.map fun q=>Src.same q.m) ⟨[v],st.heap⟩ ⟨[jJ (aT 2 0 r y).1],(aT 2 0 r y).2++(bQ p x z 0 ws).1.map gy.c⟩:=by
 unfold acn at h
 split at h
 rotate_left
 ·exact h.elim
 rename_i l hl
 split at h
 rotate_left
 ·exact h.elim
 rename_i y ss hd
 split at h
 rotate_left
 ·exact h.elim
 rename_i hn
 split at h
 rotate_left
 ·exact h.elim
 rename_i z f ho
 obtain ⟨hp,h⟩:=mL h
 obtain ⟨rfl,hQ⟩:=bn h
 obtain ⟨ys,e,hs⟩:=xd r _ _ _ _ hd
 rw [List.append_nil] at e
 subst e
 refine ⟨y,z,hQ,hp,ho,?_,ss,(hs ss 0 fun i s hi=>by rwa [Nat.zero_add]).2.length,fun ws hw=> ?_⟩
 ·have:=kL hn
  rw [List.nodup_append] at this
  exact KT this.2.1
 obtain ⟨h1,h2⟩:=hs (ss++(bQ p x z 0 ws).1.map fun q=>Src.same q.m) 0 fun i s hi=>by
  rw [Nat.zero_add,List.getElem?_append_left (List.getElem?_eq_some_iff.1 hi).1];exact hi
 have h3:=h2.append (Lv (π:=ss++(bQ p x z 0 ws).1.map fun q=>Src.same q.m) (bQ p x z 0 ws).1 fun q hq=>Ll p x z 0 ws ho q hq)
 obtain ⟨h4,h5⟩:=GI _ _ h3
 refine ⟨Xt (Z6 hl h1),h4,?_⟩
 show kB (wW _ (_++_))=true
 rw [h5,List.filterMap_append]
 have:((bQ p x z 0 ws).1.map fun q=>Src.same q.m).filterMap Dq=eO p x 0:=by
  rw [<- (qX p x z 0 ws hw).1,List.filterMap_map]
  induction (bQ p x z 0 ws).1 with
  |nil=>rfl
  |cons q r ih=>simp [Dq,ih]
 rw [this];exact hn
section
variable {P:Program} {tt:List (Nat×TI)} {specs:List (Nat×Spec)}
theorem zC {α β:Type} [DecidableEq β] {f:α->β} : ∀ {l:List α},(l.map f).Nodup-> ∀a∈l,∀b∈l,f a=f b->a=b
 | [],_,_,ha,_,_,_=>by cases ha
 |x::r,hn,a,ha,b,hb,e=>by
  rw [List.map_cons,List.nodup_cons] at hn
  rcases List.mem_cons.1 ha with rfl|ha'<;>rcases List.mem_cons.1 hb with rfl|hb'
  ·rfl
  ·exact absurd (show f a∈r.map f by rw [e];exact List.mem_map.2 ⟨b,hb',rfl⟩) hn.1
  ·exact absurd (show f b∈r.map f by rw [<- e];exact List.mem_map.2 ⟨a,ha',rfl⟩) hn.1
  ·exact zC hn.2 a ha' b hb' e
theorem ah.fnW (hT:aU P tt) (hS:ae P specs) (hm:P.follows .mixedOrders=true) {f:FuncId} {fn:Func} (hf:P.funcs[f]? =some fn) (hn:fS (ids (bV fn))=true) {s:FnW} (hres:s.r.res=true)
  (h: ∀x,s.pre x-> ∀jD,∃lp dL,av P iE dL/\ au P iE (bV fn) lp/\ ML ⟨tt,specs,iE,lp,[],dL⟩ fn (TL s.p x) (YA s.p x jD) (acn s.r s.p x jD (· =s.f x))):ah P f (lq s):=by
 intro X args hp nm k hs
 unfold lq at hs
 split at hs
 rotate_left
 ·exact hs.elim
 rename_i x tc ws b hd
 split at hs
 rotate_left
 ·exact hs.elim
 rename_i VQ
 rw [Bool.and_eq_true] at VQ
 obtain ⟨zq,hdj⟩:=VQ
 have zq:=kL zq
 have hdj:=Kf hdj
 obtain ⟨rfl,hpre,hk⟩:=bn hs
 have hk:=hk _ rfl
 have hlen:=vE s.p _ _ _ _ _ _ hd 0
 obtain ⟨bs,e,hargs⟩:=Vw s.p _ _ _ _ _ hd
 rw [List.append_nil] at e
 subst e
 have OH: ∀z,∀q∈(bQ s.p x z 0 ws).1,hp q.n=some q.b/\ WP1 q:=fun z q hq=>Vv s.p _ _ _ _ _ hd z 0 [] q (by rw [List.append_nil];exact hq)
 have YJ:=fun z=>qX s.p x z 0 ws (by omega)
 have NY: ∀z,(bQ s.p x z 0 ws).1.map (·.n)=ws.map (·.1):=fun z=>by
  have:=congrArg (List.map Prod.fst) (YJ z).2.2
  rw [List.map_map,hlen,List.take_length] at this
  exact this
 have ah6: ∀z,∀q∈(bQ s.p x z 0 ws).1,∀q'∈(bQ s.p x z 0 ws).1,q.n=q'.n->q=q':=fun z=>zC (f:=gy.n) (by
  rw [show List.map gy.n (bQ s.p x z 0 ws).1=ws.map (·.1) from NY z];exact zq)
 refine ⟨_,⟨fun p eo=> ?_,?_⟩,hk⟩
 ·obtain ⟨q,hq,rfl⟩:=List.mem_map.1 eo
  rw [(OH _ q hq).1];exact fun h=>by cases h
 intro ax W ρ Kn Γ w _ _ ht hfr hst
 obtain ⟨R0,hR0⟩: ∃R,R=(bQ s.p x (Pc s.p) 0 ws).1:=⟨_,rfl⟩
 have cj: ∀z,∀q∈(bQ s.p x z 0 ws).1,Γ q.n=some q.b:=fun z q hq=>by
  rw [ht q.n (List.mem_append.2 (.inr (by show q.n∈ws.map (·.1);rw [<- NY z];exact List.mem_map.2 ⟨q,hq,rfl⟩)))];exact (OH z q hq).1
 have hok:r8 (fun b=>bA w b/\ ∀q∈R0,¬(ρ q.n).has b) ρ Γ w tc:=by
  refine ⟨fun b hb=>⟨hb.1,fun q hq e=>hb.2 (.inl ⟨q.n,?_,e⟩)⟩,fun m hm hs b hb hc=>⟨hc,fun q hq e=> ?_⟩⟩
  ·rw [hR0] at hq;rw [cj _ q hq];rfl
  ·rw [hR0] at hq
   have:=hst.dK m q.n b hs (by rw [cj _ q hq];rfl) hb e
   exact hdj m hm (by rw [this,<- NY (Pc s.p)];exact List.mem_map.2 ⟨q,hq,rfl⟩)
 obtain ⟨xs,hxl,hg,hc⟩:=hargs ax W ρ Kn Γ w (fun m hm=>ht m (List.mem_append.2 (.inl hm))) hst _ hok (Pc s.p) 0 []
 rw [List.append_nil,<- hR0] at hg
 simp only [Nat.zero_add] at hg hc
 have hb:=St.adz (R:=R0) hst hxl (fun q hq=>by
  rw [hR0] at hq;exact ⟨cj _ q hq,(OH _ q hq).2⟩) (fun q hq q' VR e=>by
  rw [hR0] at hq VR;rw [ah6 _ q hq q' VR e]) hg
 obtain ⟨jD,MR⟩: ∃jD:Env,jD=fun n=>xs.getD n {} :=⟨_,rfl⟩
 rw [<- MR] at hb
 obtain ⟨lp,dL,hi,hl,hfn⟩:=h x hpre jD
 have hcs:=hc jD fun i y hy=>by rw [MR];simp [hy]
 have key:=oX (ctx:=⟨tt,specs,iE,lp,[],dL⟩) hT ⟨hS,y9.nil P,hi⟩ (iE.ok _ w) hm hf (fun c hc=>by
  have:bV fn=c:=by unfold bV;rw [hc]
  subst this
  exact Fx (je hn) hl) hfn (fun y hy=>by
   obtain ⟨a,ha,rfl⟩:=List.mem_map.1 hy
   exact A0.bg (fun m hm=>by simp only [YA,List.length_append,List.length_singleton];omega) a (abg s.p x 0 a ha)) hb
 have ea:(TL s.p x).map (AV.af jD)=args.map (AV.af ρ):=by
  rw [hcs];simp [TL,AV.af,Function.comp_def]
 rw [ea] at key
 refine key.mono ?_
 rintro e w' ⟨st,bu,v,rfl,hv,hR,tx⟩
 obtain ⟨y,z,hyz,RA,hout,hwn,ss,aim,abz⟩:=Xh hR
 have abz:=abz ws (by omega)
 obtain ⟨rfl,rfl⟩:y=(s.f x).1/\ z=(s.f x).2:=⟨congrArg Prod.fst hyz,congrArg Prod.snd hyz⟩
 obtain ⟨R,hRe⟩: ∃R,R=(bQ s.p x (s.f x).2 0 ws).1:=⟨_,rfl⟩
 rw [<- hRe] at abz
 have hB:(fun b=> ∃q∈R0,(ρ q.n).has b)=fun b=> ∃q∈R,(ρ q.n).has b:=by
  funext b
  refine propext ⟨?_,?_⟩
  ·rintro ⟨q,hq,e⟩
   have:q.n∈ws.map (·.1):=by rw [<- NY (Pc s.p),<- hR0];exact List.mem_map.2 ⟨q,hq,rfl⟩
   rw [<- NY (s.f x).2,<- hRe] at this
   obtain ⟨q',VR,e'⟩:=List.mem_map.1 this
   exact ⟨q',VR,by rw [e'];exact e⟩
  ·rintro ⟨q,hq,e⟩
   have:q.n∈ws.map (·.1):=by rw [<- NY (s.f x).2,<- hRe];exact List.mem_map.2 ⟨q,hq,rfl⟩
   rw [<- NY (Pc s.p),<- hR0] at this
   obtain ⟨q',VR,e'⟩:=List.mem_map.1 this
   exact ⟨q',VR,by rw [e'];exact e⟩
 have ah5: ∀q∈R,∀q'∈R,q.m=q'.m->q=q':=zC (f:=gy.m) (by
  rw [hRe,show List.map gy.m (bQ s.p x (s.f x).2 0 ws).1=eO s.p x 0 from (YJ _).1];exact kL hwn)
 have aiy: ∀q∈R,bu q.m=ρ q.n:=fun q hq=>by
  have hq0:=hq
  rw [hRe] at hq0
  obtain ⟨_,m2,m3⟩:=ach s.p x (s.f x).2 0 ws q hq0
  simp only [Nat.zero_add,Nat.sub_zero] at m2 m3
  rw [(tx.at_ _ _ RA).2 q.m m2]
  obtain ⟨y,y1,y2⟩:=hg q.m _ m3
  rcases y2 with y2|⟨q0,k1,k2,_,k4⟩
  ·exact (OA (OH _ q hq0).2 y2).elim
  ·rw [MR]
   simp only [List.getD_eq_getElem?_getD,y1,Option.getD_some]
   rw [k4]
   have:(q0.n,q0.m)∈R0.map fun q=>(q.n,q.m):=List.mem_map.2 ⟨q0,k1,rfl⟩
   rw [hR0,(Z2 s.p x (Pc s.p) (s.f x).2 0 ws).1,<- hRe] at this
   obtain ⟨q',k5,k6⟩:=List.mem_map.1 this
   simp only [Prod.mk.injEq] at k6
   have:=ah5 q' k5 q hq (by omega)
   rw [<- this,k6.1]
 have br:qv {wr:=fun b=> ∃q∈R0,(ρ q.n).has b} w [] ⟨[v],st.heap⟩ bu {tmps:= #[v.af bu],defers:= []} w':=by
  refine ⟨fun t _=> ?_,rfl,rfl,fun t=> ?_,tx⟩
  ·match t with
   |0=>rfl
   |t+1=>rfl
  ·match t with
   |0=>exact hv
   |t+1=>exact w4 _
 have oD:=br.adr abz
 obtain ⟨oN,agu⟩: ∃oN,oN=kW (ss++R.map fun q=>Src.same q.m) (aq ((aT 2 0 s.r (s.f x).1).2++R.map gy.c)) bu:=⟨_,rfl⟩
 have oD:qv {wr:=fun b=> ∃q∈R0,(ρ q.n).has b} w [] ⟨[jJ (aT 2 0 s.r (s.f x).1).1],(aT 2 0 s.r (s.f x).1).2++R.map gy.c⟩ oN {tmps:= #[v.af bu],defers:= []} w':=by
  rw [agu];exact oD
 have agv: ∀(i:Nat) (q:gy),R[i]? =some q->oN ((aT 2 0 s.r (s.f x).1).2.length+i)=ρ q.n:=fun i q hi=>by
  rw [agu]
  unfold kW
  rw [<- aim,List.getElem?_append_right (by omega),Nat.add_sub_cancel_left,List.getElem?_map,hi]
  exact aiy q (List.mem_of_getElem? hi)
 have OJ:=sq 2 s.r (s.f x).1 0 hres
 have AH:=fun d=>(gF 2 (ρ:=oN) (ρ':=fun m=>oN (m- d)) (d:=d) s.r (s.f x).1 0 hres fun i _=>by simp).2
 have YG:(aT 2 nm s.r (s.f x).1).2=(aT 2 0 s.r (s.f x).1).2:=by simpa using AH nm
 have oZ:=oD.st
 rw [hB] at oZ
 obtain ⟨ρ',r1,r2,r3⟩:=St.afv (R:=R) (v:=jJ (aT 2 nm s.r (s.f x).1).1) (tc:=tc++ws.map (·.1)) (nm:=nm) hst (fun i hi=>hfr i (by rw [YG];exact hi)) OJ (fun q hq=>by
  rw [hRe] at hq
  exact ⟨cj _ q hq,WP2.of (OH _ q hq).2 (Ll s.p x _ 0 ws hout q hq).2⟩) oZ agv
 have hsh:=(gF 2 (ρ:=oN) (ρ':=ρ') (d:=nm) s.r (s.f x).1 0 hres fun i hi=>by rw [Nat.zero_add];exact r2 i hi).1
 rw [Nat.zero_add] at hsh
 refine ⟨ρ',?_,r1,?_,?_⟩
 ·congr 1
  have h1:=oD.tmps 0 (by
   show jJ _≠_
   generalize (aT 2 0 s.r (s.f x).1).1=l
   match l with
   | []=>exact fun h=>by cases h
   | [_]=>exact fun h=>by cases h
   |_::_::_=>exact fun h=>by cases h)
  have h2:v.af bu=(jJ (aT 2 0 s.r (s.f x).1).1).af oN:=h1
  rw [h2]
  exact (xV hsh).symm
 ·exact FM fun c hc=>A0.bg (fun m hm=> .inr (by simpa using hm)) c (jY 2 s.r (s.f x).1 nm c hc)
 ·rw [YG,<- hRe];exact r3
theorem ah.trW (s:FnW) {i:Bool} (t:s.p.ty.T->Tr (s.r.ty.T×s.p.out.T) i) (hT:aU P tt) (hS:ae P specs) (hm:P.follows .mixedOrders=true) {n:FuncId} {fn:Func} (hk:(P.funcs[n]?,fS (ids (bV fn)),s.r.res)=(some fn,true,true))
  {dL:List (Nat×jM)} {lp:s.p.ty.T->List (Nat×bR)} (hits:av P iE dL) (hl: ∀x,au P iE (bV fn) (lp x)) (he: ∀x,(s.pre x,s.f x)=(Tr.pI i (t x).pre,(t x).val))
  (h: ∀x r0 Q,ML ⟨tt,specs,iE,lp x,[],dL⟩ fn (TL s.p x) (YA s.p x r0) (acn s.r s.p x r0 Q)=(t x).wp Q [.env r0]):ah P n (lq s):=by
 simp only [Prod.mk.injEq] at hk
 refine ah.fnW hT hS hm hk.1 hk.2.1 hk.2.2 fun x hx r0=>⟨lp x,dL,hits,hl x,?_⟩
 have e:=he x
 simp only [Prod.mk.injEq] at e
 rw [h]
 exact Tr.aaL _ _ _ (by rw [<- e.1];exact hx) e.2.symm
end
namespace Tr
variable {τ:Type}
abbrev fnW {i:Bool} (s:FnW) (x:s.p.ty.T) (k:s.r.ty.T×s.p.out.T->Tr τ i):Tr τ true:= .call (s.pre x) (s.f x) k
end Tr
end Go.Ev
namespace Go.Proofs.YtbjfokijjefoeaaGreat
open Go Go.Ev Go.Proofs
abbrev z0:Int:=0
abbrev z1:Int:=1
abbrev tN (i:Int):Nat:=Int.toNat i
abbrev gI (l:List Int) (i:Int):Int:=List.getD l i.toNat (0:Int)
abbrev gT {α:Type} (l:List α) (i:Int) (d:α):α:=List.getD l i.toNat d
abbrev nL {α:Type} (l:List α):Int:=((List.length l:Nat):Int)
abbrev _root_.Go.Ev.Tr.oI1 {τ α:Type} {i:Bool} (j:Int) (l:List α) (t:Tr τ i):Tr τ true:= .oR j ((List.length l:Nat):Int) (.od (Int.toNat j<List.length l) t)
abbrev _root_.Go.Ev.Tr.gK {τ α:Type} {i:Bool} (j:Int) (l:List α) (t:Tr τ i):Tr τ true:= .oR j ((List.length l:Nat):Int) (.od (Int.toNat j<List.length l) (.od (Int.toNat j<List.length l) t))
abbrev _root_.Go.Ev.Tr.zF {τ α:Type} {i:Bool} (j:Int) (l:List α) (t:Tr τ i):Tr τ true:= .oR j ((List.length l:Nat):Int) (.od (Int.toNat j<List.length l) (.od (Int.toNat j<List.length l) (.od (Int.toNat j<List.length l) t)))
abbrev w1 (i:Int):Int:=az (i+(1:Int))
abbrev wm (i:Int):Int:=az (i- (1:Int))
abbrev zI:Value:=Value.int IntKind.i64 0
def tt:List (Nat×TI):=
 [(1,⟨(TypeDesc.func #[] #[] Bool.false),1,8,Value.nilFunc,none⟩),
 (2,⟨(TypeDesc.int IntKind.i64),1,8,zI,some yi⟩),
 (3,⟨(TypeDesc.int IntKind.i64),1,8,zI,some yi⟩),
 (4,⟨TypeDesc.bool,1,1,(Value.bool Bool.false),some .bool⟩),
 (5,⟨(TypeDesc.int IntKind.u8),1,1,(Value.int IntKind.u8 (0:Int)),some (.int .u8)⟩),
 (6,⟨(TypeDesc.int IntKind.u8),1,1,(Value.int IntKind.u8 (0:Int)),some (.int .u8)⟩),
 (7,⟨(TypeDesc.struct #[(Field.mk "x" 2 0 Bool.false "" "runtime" 0),(Field.mk "y" 3 1 Bool.false "" "runtime" 8),(Field.mk "signed" 4 2 Bool.false "" "runtime" 16),(Field.mk "code" 6 3 Bool.false "" "runtime" 17)]),4,24,(Value.agg #[zI,zI,(Value.bool Bool.false),(Value.int IntKind.u8 (0:Int))]),some (.prod yi (.prod yi (.prod .bool (.int .u8))))⟩),
 (8,⟨(TypeDesc.struct #[(Field.mk "x" 2 0 Bool.false "" "runtime" 0),(Field.mk "y" 3 1 Bool.false "" "runtime" 8),(Field.mk "signed" 4 2 Bool.false "" "runtime" 16),(Field.mk "code" 6 3 Bool.false "" "runtime" 17)]),4,24,(Value.agg #[zI,zI,(Value.bool Bool.false),(Value.int IntKind.u8 (0:Int))]),some (.prod yi (.prod yi (.prod .bool (.int .u8))))⟩),
 (9,⟨TypeDesc.string,1,16,(Value.string (ByteArray.mk #[])),some .str⟩),
 (10,⟨TypeDesc.string,1,16,(Value.string (ByteArray.mk #[])),some .str⟩),
 (11,⟨TypeDesc.string,1,16,(Value.string (ByteArray.mk #[])),some .str⟩),
 (12,⟨(TypeDesc.int IntKind.u64),1,8,(Value.int IntKind.u64 (0:Int)),some (.int .u64)⟩),
 (15,⟨(TypeDesc.pointer 179),1,8,(Value.pointer Option.none),none⟩),
 (16,⟨(TypeDesc.pointer 182),1,8,(Value.pointer Option.none),none⟩),
 (17,⟨(TypeDesc.pointer 191),1,8,(Value.pointer Option.none),none⟩),
 (21,⟨(TypeDesc.int IntKind.i32),1,4,(Value.int IntKind.i32 (0:Int)),some (.int .i32)⟩),
 (22,⟨(TypeDesc.slice 45),1,24,(Value.slice Option.none 0 0),some (.sl (.prod (.sl yi) (.prod (.sl (.prod aS (.prod aS aS))) aS)))⟩),
 (23,⟨(TypeDesc.slice 63),1,24,(Value.slice Option.none 0 0),some (.sl (.prod yi cq))⟩),
 (24,⟨(TypeDesc.struct #[(Field.mk "W" 3 0 false "" "" 0),(Field.mk "H" 3 1 false "" "" 8),(Field.mk "Pad" 3 2 false "" "" 16),(Field.mk "Patches" 22 3 false "" "" 24),(Field.mk "Rects" 23 4 false "" "" 48)]),5,72,(Value.agg #[zI,zI,zI,(Value.slice Option.none 0 0),(Value.slice Option.none 0 0)]),some (.prod yi (.prod yi (.prod yi (.prod (.sl (.prod (.sl yi) (.prod (.sl (.prod aS (.prod aS aS))) aS))) (.sl (.prod yi cq))))))⟩),
 (25,⟨(TypeDesc.struct #[(Field.mk "W" 3 0 false "" "" 0),(Field.mk "H" 3 1 false "" "" 8),(Field.mk "Pad" 3 2 false "" "" 16),(Field.mk "Patches" 22 3 false "" "" 24),(Field.mk "Rects" 23 4 false "" "" 48)]),5,72,(Value.agg #[zI,zI,zI,(Value.slice Option.none 0 0),(Value.slice Option.none 0 0)]),some (.prod yi (.prod yi (.prod yi (.prod (.sl (.prod (.sl yi) (.prod (.sl (.prod aS (.prod aS aS))) aS))) (.sl (.prod yi cq))))))⟩),
 (26,⟨(TypeDesc.func #[22] #[4] Bool.false),1,8,Value.nilFunc,none⟩),
 (27,⟨(TypeDesc.func #[25] #[25] Bool.false),1,8,Value.nilFunc,none⟩),
 (28,⟨(TypeDesc.int IntKind.i64),1,8,zI,some yi⟩),
 (30,⟨(TypeDesc.func #[3,3,3,22] #[25,28] Bool.true),1,8,Value.nilFunc,none⟩),
 (31,⟨(TypeDesc.func #[3,3,3,22] #[25,28] Bool.false),1,8,Value.nilFunc,none⟩),
 (32,⟨(TypeDesc.slice 38),1,24,(Value.slice Option.none 0 0),some (.sl (.prod aS (.prod aS aS)))⟩),
 (33,⟨(TypeDesc.slice 3),1,24,(Value.slice Option.none 0 0),some (.sl yi)⟩),
 (35,⟨(TypeDesc.func #[25] #[32,33,28] Bool.false),1,8,Value.nilFunc,none⟩),
 (36,⟨(TypeDesc.struct #[(Field.mk "X" 3 0 false "" "" 0),(Field.mk "Y" 3 1 false "" "" 8)]),2,16,(Value.agg #[zI,zI]),some aS⟩),
 (37,⟨(TypeDesc.struct #[(Field.mk "X" 3 0 false "" "" 0),(Field.mk "Y" 3 1 false "" "" 8)]),2,16,(Value.agg #[zI,zI]),some aS⟩),
 (38,⟨(TypeDesc.array 3 37),6,48,(Value.agg #[zI,zI,zI,zI,zI,zI]),some (.prod aS (.prod aS aS))⟩),
 (40,⟨(TypeDesc.func #[25,3] #[38,4] Bool.false),1,8,Value.nilFunc,none⟩),
 (41,⟨(TypeDesc.func #[25,25] #[4] Bool.false),1,8,Value.nilFunc,none⟩),
 (42,⟨(TypeDesc.func #[32,32] #[4] Bool.false),1,8,Value.nilFunc,none⟩),
 (43,⟨(TypeDesc.func #[33,33] #[4] Bool.false),1,8,Value.nilFunc,none⟩),
 (44,⟨(TypeDesc.struct #[(Field.mk "Tris" 33 0 false "" "" 0),(Field.mk "UV" 32 1 false "" "" 24),(Field.mk "W" 3 2 false "" "" 48),(Field.mk "H" 3 3 false "" "" 56)]),4,64,(Value.agg #[(Value.slice Option.none 0 0),(Value.slice Option.none 0 0),zI,zI]),some (.prod (.sl yi) (.prod (.sl (.prod aS (.prod aS aS))) aS))⟩),
 (45,⟨(TypeDesc.struct #[(Field.mk "Tris" 33 0 false "" "" 0),(Field.mk "UV" 32 1 false "" "" 24),(Field.mk "W" 3 2 false "" "" 48),(Field.mk "H" 3 3 false "" "" 56)]),4,64,(Value.agg #[(Value.slice Option.none 0 0),(Value.slice Option.none 0 0),zI,zI]),some (.prod (.sl yi) (.prod (.sl (.prod aS (.prod aS aS))) aS))⟩),
 (46,⟨(TypeDesc.func #[] #[4] Bool.false),1,8,Value.nilFunc,none⟩),
 (47,⟨(TypeDesc.func #[22] #[33] Bool.false),1,8,Value.nilFunc,none⟩),
 (48,⟨(TypeDesc.func #[25] #[4] Bool.false),1,8,Value.nilFunc,none⟩),
 (49,⟨(TypeDesc.func #[3,3,3,22,25,3] #[4] Bool.false),1,8,Value.nilFunc,none⟩),
 (50,⟨(TypeDesc.func #[45] #[4] Bool.false),1,8,Value.nilFunc,none⟩),
 (51,⟨(TypeDesc.func #[23] #[23] Bool.false),1,8,Value.nilFunc,none⟩),
 (52,⟨(TypeDesc.func #[45] #[45] Bool.false),1,8,Value.nilFunc,none⟩),
 (53,⟨(TypeDesc.func #[3,3,3] #[4] Bool.false),1,8,Value.nilFunc,none⟩),
 (54,⟨(TypeDesc.slice 45),1,24,(Value.slice Option.none 0 0),some (.sl (.prod (.sl yi) (.prod (.sl (.prod aS (.prod aS aS))) aS)))⟩),
 (55,⟨(TypeDesc.slice 37),1,24,(Value.slice Option.none 0 0),some (.sl aS)⟩),
 (56,⟨(TypeDesc.struct #[(Field.mk "Patch" 45 0 Bool.true "" "" 0),(Field.mk "pad" 3 4 Bool.false "" "limewash/atlas" 64)]),5,72,(Value.agg #[(Value.slice Option.none 0 0),(Value.slice Option.none 0 0),zI,zI,zI]),some (.prod (.prod (.sl yi) (.prod (.sl (.prod aS (.prod aS aS))) aS)) yi)⟩),
 (57,⟨(TypeDesc.struct #[(Field.mk "Patch" 45 0 Bool.true "" "" 0),(Field.mk "pad" 3 4 Bool.false "" "limewash/atlas" 64)]),5,72,(Value.agg #[(Value.slice Option.none 0 0),(Value.slice Option.none 0 0),zI,zI,zI]),some (.prod (.prod (.sl yi) (.prod (.sl (.prod aS (.prod aS aS))) aS)) yi)⟩),
 (58,⟨(TypeDesc.func #[] #[37] Bool.false),1,8,Value.nilFunc,none⟩),
 (60,⟨(TypeDesc.func #[3,3,55] #[23,28] Bool.true),1,8,Value.nilFunc,none⟩),
 (61,⟨(TypeDesc.func #[] #[45] Bool.false),1,8,Value.nilFunc,none⟩),
 (62,⟨(TypeDesc.struct #[(Field.mk "X" 3 0 false "" "" 0),(Field.mk "Y" 3 1 false "" "" 8),(Field.mk "W" 3 2 false "" "" 16),(Field.mk "H" 3 3 false "" "" 24)]),4,32,(Value.agg #[zI,zI,zI,zI]),some (.prod yi cq)⟩),
 (63,⟨(TypeDesc.struct #[(Field.mk "X" 3 0 false "" "" 0),(Field.mk "Y" 3 1 false "" "" 8),(Field.mk "W" 3 2 false "" "" 16),(Field.mk "H" 3 3 false "" "" 24)]),4,32,(Value.agg #[zI,zI,zI,zI]),some (.prod yi cq)⟩),
 (64,⟨(TypeDesc.func #[3,3,55] #[23,28] Bool.false),1,8,Value.nilFunc,none⟩),
 (66,⟨(TypeDesc.func #[45,37] #[32,28] Bool.false),1,8,Value.nilFunc,none⟩),
 (67,⟨(TypeDesc.func #[33,3] #[33] Bool.false),1,8,Value.nilFunc,none⟩),
 (68,⟨(TypeDesc.func #[33,3] #[3] Bool.false),1,8,Value.nilFunc,none⟩),
 (69,⟨(TypeDesc.func #[25] #[33] Bool.false),1,8,Value.nilFunc,none⟩),
 (70,⟨(TypeDesc.func #[23,23] #[4] Bool.false),1,8,Value.nilFunc,none⟩),
 (71,⟨(TypeDesc.func #[45,45] #[4] Bool.false),1,8,Value.nilFunc,none⟩),
 (72,⟨(TypeDesc.func #[3,3,3] #[45] Bool.false),1,8,Value.nilFunc,none⟩),
 (73,⟨(TypeDesc.func #[33,74] #[] Bool.false),1,8,Value.nilFunc,none⟩),
 (74,⟨(TypeDesc.func #[3,3] #[3] Bool.false),1,8,Value.nilFunc,none⟩),
 (75,⟨(TypeDesc.func #[3,3,23] #[4] Bool.true),1,8,Value.nilFunc,none⟩),
 (76,⟨(TypeDesc.func #[3,3,23] #[4] Bool.false),1,8,Value.nilFunc,none⟩),
 (77,⟨(TypeDesc.func #[33] #[33] Bool.false),1,8,Value.nilFunc,none⟩),
 (78,⟨(TypeDesc.map 3 4),1,8,(Value.map Option.none),none⟩),
 (79,⟨(TypeDesc.func #[33] #[4] Bool.true),1,8,Value.nilFunc,none⟩),
 (80,⟨(TypeDesc.func #[37] #[4] Bool.false),1,8,Value.nilFunc,none⟩),
 (81,⟨(TypeDesc.func #[55,80] #[4] Bool.false),1,8,Value.nilFunc,none⟩),
 (82,⟨(TypeDesc.slice 3),1,24,(Value.slice Option.none 0 0),some (.sl yi)⟩),
 (84,⟨(TypeDesc.func #[3,3,3] #[3,3,4] Bool.false),1,8,Value.nilFunc,none⟩),
 (85,⟨(TypeDesc.func #[3,3,3] #[] Bool.false),1,8,Value.nilFunc,none⟩),
 (86,⟨(TypeDesc.func #[32] #[32] Bool.false),1,8,Value.nilFunc,none⟩),
 (87,⟨(TypeDesc.func #[3] #[4] Bool.false),1,8,Value.nilFunc,none⟩),
 (88,⟨(TypeDesc.func #[33,3,3,3] #[3,3,4] Bool.false),1,8,Value.nilFunc,none⟩),
 (90,⟨(TypeDesc.func #[33,63] #[33,28] Bool.false),1,8,Value.nilFunc,none⟩),
 (91,⟨(TypeDesc.func #[32,92] #[32] Bool.false),1,8,Value.nilFunc,none⟩),
 (92,⟨(TypeDesc.func #[37] #[37] Bool.false),1,8,Value.nilFunc,none⟩),
 (93,⟨(TypeDesc.int IntKind.u64),1,8,(Value.int IntKind.u64 (0:Int)),some (.int .u64)⟩),
 (95,⟨(TypeDesc.func #[93,93] #[93,93] Bool.false),1,8,Value.nilFunc,none⟩),
 (96,⟨(TypeDesc.func #[33,3,3,3,74] #[] Bool.false),1,8,Value.nilFunc,none⟩),
 (97,⟨(TypeDesc.func #[93] #[3] Bool.false),1,8,Value.nilFunc,none⟩),
 (98,⟨(TypeDesc.func #[33] #[3] Bool.true),1,8,Value.nilFunc,none⟩),
 (99,⟨(TypeDesc.func #[23,101] #[4] Bool.false),1,8,Value.nilFunc,none⟩),
 (100,⟨(TypeDesc.func #[63,63] #[4] Bool.false),1,8,Value.nilFunc,none⟩),
 (101,⟨(TypeDesc.func #[63] #[4] Bool.false),1,8,Value.nilFunc,none⟩),
 (102,⟨(TypeDesc.func #[3,3,63] #[4] Bool.false),1,8,Value.nilFunc,none⟩),
 (103,⟨(TypeDesc.func #[38] #[4] Bool.false),1,8,Value.nilFunc,none⟩),
 (104,⟨(TypeDesc.func #[32,103] #[4] Bool.false),1,8,Value.nilFunc,none⟩),
 (106,⟨(TypeDesc.func #[32] #[37,37,28] Bool.true),1,8,Value.nilFunc,none⟩),
 (108,⟨(TypeDesc.func #[37] #[3,3] Bool.false),1,8,Value.nilFunc,none⟩),
 (109,⟨(TypeDesc.func #[32] #[4] Bool.false),1,8,Value.nilFunc,none⟩),
 (110,⟨(TypeDesc.func #[55,80] #[3] Bool.false),1,8,Value.nilFunc,none⟩),
 (111,⟨(TypeDesc.func #[82] #[3] Bool.false),1,8,Value.nilFunc,none⟩),
 (112,⟨(TypeDesc.func #[32] #[37,37,28] Bool.false),1,8,Value.nilFunc,none⟩),
 (114,⟨(TypeDesc.func #[3] #[3,28] Bool.false),1,8,Value.nilFunc,none⟩),
 (115,⟨(TypeDesc.func #[33] #[4] Bool.false),1,8,Value.nilFunc,none⟩),
 (116,⟨(TypeDesc.func #[33,3,3] #[3] Bool.false),1,8,Value.nilFunc,none⟩),
 (117,⟨(TypeDesc.int IntKind.u32),1,4,(Value.int IntKind.u32 (0:Int)),some (.int .u32)⟩),
 (119,⟨(TypeDesc.func #[117,117] #[117,117] Bool.false),1,8,Value.nilFunc,none⟩),
 (120,⟨(TypeDesc.int IntKind.u64),1,8,(Value.int IntKind.u64 (0:Int)),some (.int .u64)⟩),
 (122,⟨(TypeDesc.func #[120,120] #[120,120] Bool.false),1,8,Value.nilFunc,none⟩),
 (123,⟨(TypeDesc.func #[33,3,3,74] #[] Bool.false),1,8,Value.nilFunc,none⟩),
 (124,⟨(TypeDesc.int IntKind.i64),1,8,zI,some yi⟩),
 (126,⟨(TypeDesc.func #[33,3,3,74] #[3,124] Bool.false),1,8,Value.nilFunc,none⟩),
 (127,⟨(TypeDesc.func #[33,3,3,74] #[4] Bool.false),1,8,Value.nilFunc,none⟩),
 (128,⟨(TypeDesc.func #[33,3,3,3,74] #[3] Bool.false),1,8,Value.nilFunc,none⟩),
 (130,⟨(TypeDesc.func #[33,3,3,3,74] #[3,4] Bool.false),1,8,Value.nilFunc,none⟩),
 (131,⟨(TypeDesc.func #[117] #[3] Bool.false),1,8,Value.nilFunc,none⟩),
 (132,⟨(TypeDesc.func #[120] #[3] Bool.false),1,8,Value.nilFunc,none⟩),
 (133,⟨(TypeDesc.func #[23,101] #[3] Bool.false),1,8,Value.nilFunc,none⟩),
 (134,⟨(TypeDesc.func #[3,3,3,3] #[4] Bool.false),1,8,Value.nilFunc,none⟩),
 (135,⟨(TypeDesc.func #[37,37,37] #[3,28] Bool.false),1,8,Value.nilFunc,none⟩),
 (136,⟨(TypeDesc.func #[32,103] #[3] Bool.false),1,8,Value.nilFunc,none⟩),
 (137,⟨(TypeDesc.func #[80] #[] Bool.false),1,8,Value.nilFunc,none⟩),
 (138,⟨(TypeDesc.func #[80] #[] Bool.false),1,8,Value.nilFunc,none⟩),
 (139,⟨(TypeDesc.func #[32] #[138] Bool.false),1,8,Value.nilFunc,none⟩),
 (140,⟨(TypeDesc.func #[55] #[4] Bool.true),1,8,Value.nilFunc,none⟩),
 (142,⟨(TypeDesc.func #[38,38] #[4,28] Bool.false),1,8,Value.nilFunc,none⟩),
 (143,⟨(TypeDesc.int IntKind.u64),1,8,(Value.int IntKind.u64 (0:Int)),some (.int .u64)⟩),
 (144,⟨(TypeDesc.func #[3] #[93] Bool.false),1,8,Value.nilFunc,none⟩),
 (145,⟨(TypeDesc.func #[] #[120] Bool.false),1,8,Value.nilFunc,none⟩),
 (146,⟨(TypeDesc.func #[33,3,147,74] #[3] Bool.false),1,8,Value.nilFunc,none⟩),
 (147,⟨(TypeDesc.pointer 3),1,8,(Value.pointer Option.none),none⟩),
 (148,⟨(TypeDesc.func #[33,3,3,3,147,74] #[3] Bool.false),1,8,Value.nilFunc,none⟩),
 (149,⟨(TypeDesc.array 3 37),6,48,(Value.agg #[zI,zI,zI,zI,zI,zI]),some (.prod aS (.prod aS aS))⟩),
 (150,⟨(TypeDesc.func #[] #[3,28] Bool.false),1,8,Value.nilFunc,none⟩),
 (151,⟨(TypeDesc.func #[3,33] #[4] Bool.true),1,8,Value.nilFunc,none⟩),
 (152,⟨(TypeDesc.func #[38,38,3] #[4,28] Bool.false),1,8,Value.nilFunc,none⟩),
 (153,⟨(TypeDesc.func #[37,37] #[3,28] Bool.false),1,8,Value.nilFunc,none⟩),
 (154,⟨(TypeDesc.func #[37,37] #[37] Bool.false),1,8,Value.nilFunc,none⟩),
 (155,⟨(TypeDesc.func #[38,55,4] #[4] Bool.false),1,8,Value.nilFunc,none⟩),
 (156,⟨(TypeDesc.pointer 143),1,8,(Value.pointer Option.none),none⟩),
 (157,⟨(TypeDesc.func #[33,3,3,147,74] #[3,3] Bool.false),1,8,Value.nilFunc,none⟩),
 (158,⟨(TypeDesc.struct #[(Field.mk "Below" 4 0 false "" "" 0),(Field.mk "D" 33 1 false "" "" 8)]),2,32,(Value.agg #[(Value.bool Bool.false),(Value.slice Option.none 0 0)]),some (.prod .bool (.sl yi))⟩),
 (159,⟨(TypeDesc.struct #[(Field.mk "Below" 4 0 false "" "" 0),(Field.mk "D" 33 1 false "" "" 8)]),2,32,(Value.agg #[(Value.bool Bool.false),(Value.slice Option.none 0 0)]),some (.prod .bool (.sl yi))⟩),
 (160,⟨(TypeDesc.func #[159,159] #[159] Bool.false),1,8,Value.nilFunc,none⟩),
 (161,⟨(TypeDesc.func #[3] #[159] Bool.false),1,8,Value.nilFunc,none⟩),
 (162,⟨(TypeDesc.func #[159,159] #[4] Bool.false),1,8,Value.nilFunc,none⟩),
 (163,⟨(TypeDesc.func #[38,3,55] #[4] Bool.true),1,8,Value.nilFunc,none⟩),
 (164,⟨(TypeDesc.func #[38,3,55] #[3] Bool.false),1,8,Value.nilFunc,none⟩),
 (165,⟨(TypeDesc.func #[4,33] #[159] Bool.false),1,8,Value.nilFunc,none⟩),
 (166,⟨(TypeDesc.func #[159,159] #[33] Bool.false),1,8,Value.nilFunc,none⟩),
 (167,⟨(TypeDesc.func #[159,159] #[3] Bool.false),1,8,Value.nilFunc,none⟩),
 (168,⟨(TypeDesc.func #[159] #[159] Bool.false),1,8,Value.nilFunc,none⟩),
 (169,⟨(TypeDesc.func #[175] #[] Bool.false),1,8,Value.nilFunc,none⟩),
 (170,⟨(TypeDesc.func #[175] #[] Bool.false),1,8,Value.nilFunc,none⟩),
 (171,⟨(TypeDesc.func #[38] #[170] Bool.false),1,8,Value.nilFunc,none⟩),
 (172,⟨(TypeDesc.func #[37] #[3] Bool.false),1,8,Value.nilFunc,none⟩),
 (173,⟨(TypeDesc.func #[38,3,37] #[3] Bool.false),1,8,Value.nilFunc,none⟩),
 (174,⟨(TypeDesc.func #[159,3] #[3] Bool.false),1,8,Value.nilFunc,none⟩),
 (175,⟨(TypeDesc.func #[172] #[4] Bool.false),1,8,Value.nilFunc,none⟩),
 (176,⟨(TypeDesc.func #[3] #[3] Bool.false),1,8,Value.nilFunc,none⟩),
 (177,⟨(TypeDesc.func #[] #[9] Bool.false),1,8,Value.nilFunc,none⟩),
 (183,⟨(TypeDesc.func #[] #[3] Bool.false),1,8,Value.nilFunc,none⟩),
 (184,⟨(TypeDesc.int IntKind.u8),1,1,(Value.int IntKind.u8 (0:Int)),some (.int .u8)⟩),
 (185,⟨(TypeDesc.int IntKind.u8),1,1,(Value.int IntKind.u8 (0:Int)),some (.int .u8)⟩),
 (186,⟨(TypeDesc.func #[192,192] #[4] Bool.false),1,8,Value.nilFunc,none⟩),
 (187,⟨(TypeDesc.pointer 5),1,8,(Value.pointer Option.none),none⟩),
 (188,⟨(TypeDesc.int IntKind.i32),1,4,(Value.int IntKind.i32 (0:Int)),some (.int .i32)⟩),
 (189,⟨(TypeDesc.int IntKind.i32),1,4,(Value.int IntKind.i32 (0:Int)),some (.int .i32)⟩),
 (192,⟨TypeDesc.unsafePointer,1,8,(Value.pointer Option.none),none⟩)]
set_option maxRecDepth 100000 in
theorem ay:aU Tryz.prog tt:=
 aU.cons (by kernel_rfl) (by decide) (by kernel_rfl) (by kernel_rfl) (
 aU.cons (by kernel_rfl) (by decide) (by kernel_rfl) (by kernel_rfl) (
 aU.cons (by kernel_rfl) (by decide) (by kernel_rfl) (by kernel_rfl) (
 aU.cons (by kernel_rfl) (by decide) (by kernel_rfl) (by kernel_rfl) (
 aU.cons (by kernel_rfl) (by decide) (by kernel_rfl) (by kernel_rfl) (
 aU.cons (by kernel_rfl) (by decide) (by kernel_rfl) (by kernel_rfl) (
 aU.cons (by kernel_rfl) (by decide) (by kernel_rfl) (by kernel_rfl) (
 aU.cons (by kernel_rfl) (by decide) (by kernel_rfl) (by kernel_rfl) (
 aU.cons (by kernel_rfl) (by decide) (by kernel_rfl) (by kernel_rfl) (
 aU.cons (by kernel_rfl) (by decide) (by kernel_rfl) (by kernel_rfl) (
 aU.cons (by kernel_rfl) (by decide) (by kernel_rfl) (by kernel_rfl) (
 aU.cons (by kernel_rfl) (by decide) (by kernel_rfl) (by kernel_rfl) (
 aU.cons (by kernel_rfl) (by decide) (by kernel_rfl) (by kernel_rfl) (
 aU.cons (by kernel_rfl) (by decide) (by kernel_rfl) (by kernel_rfl) (
 aU.cons (by kernel_rfl) (by decide) (by kernel_rfl) (by kernel_rfl) (
 aU.cons (by kernel_rfl) (by decide) (by kernel_rfl) (by kernel_rfl) (
 aU.cons (by kernel_rfl) (by decide) (by kernel_rfl) (by kernel_rfl) (
 aU.cons (by kernel_rfl) (by decide) (by kernel_rfl) (by kernel_rfl) (
 aU.cons (by kernel_rfl) (by decide) (by kernel_rfl) (by kernel_rfl) (
 aU.cons (by kernel_rfl) (by decide) (by kernel_rfl) (by kernel_rfl) (
 aU.cons (by kernel_rfl) (by decide) (by kernel_rfl) (by kernel_rfl) (
 aU.cons (by kernel_rfl) (by decide) (by kernel_rfl) (by kernel_rfl) (
 aU.cons (by kernel_rfl) (by decide) (by kernel_rfl) (by kernel_rfl) (
 aU.cons (by kernel_rfl) (by decide) (by kernel_rfl) (by kernel_rfl) (
 aU.cons (by kernel_rfl) (by decide) (by kernel_rfl) (by kernel_rfl) (
 aU.cons (by kernel_rfl) (by decide) (by kernel_rfl) (by kernel_rfl) (
 aU.cons (by kernel_rfl) (by decide) (by kernel_rfl) (by kernel_rfl) (
 aU.cons (by kernel_rfl) (by decide) (by kernel_rfl) (by kernel_rfl) (
 aU.cons (by kernel_rfl) (by decide) (by kernel_rfl) (by kernel_rfl) (
 aU.cons (by kernel_rfl) (by decide) (by kernel_rfl) (by kernel_rfl) (
 aU.cons (by kernel_rfl) (by decide) (by kernel_rfl) (by kernel_rfl) (
 aU.cons (by kernel_rfl) (by decide) (by kernel_rfl) (by kernel_rfl) (
 aU.cons (by kernel_rfl) (by decide) (by kernel_rfl) (by kernel_rfl) (
 aU.cons (by kernel_rfl) (by decide) (by kernel_rfl) (by kernel_rfl) (
 aU.cons (by kernel_rfl) (by decide) (by kernel_rfl) (by kernel_rfl) (
 aU.cons (by kernel_rfl) (by decide) (by kernel_rfl) (by kernel_rfl) (
 aU.cons (by kernel_rfl) (by decide) (by kernel_rfl) (by kernel_rfl) (
 aU.cons (by kernel_rfl) (by decide) (by kernel_rfl) (by kernel_rfl) (
 aU.cons (by kernel_rfl) (by decide) (by kernel_rfl) (by kernel_rfl) (
 aU.cons (by kernel_rfl) (by decide) (by kernel_rfl) (by kernel_rfl) (
 aU.cons (by kernel_rfl) (by decide) (by kernel_rfl) (by kernel_rfl) (
 aU.cons (by kernel_rfl) (by decide) (by kernel_rfl) (by kernel_rfl) (
 aU.cons (by kernel_rfl) (by decide) (by kernel_rfl) (by kernel_rfl) (
 aU.cons (by kernel_rfl) (by decide) (by kernel_rfl) (by kernel_rfl) (
 aU.cons (by kernel_rfl) (by decide) (by kernel_rfl) (by kernel_rfl) (
 aU.cons (by kernel_rfl) (by decide) (by kernel_rfl) (by kernel_rfl) (
 aU.cons (by kernel_rfl) (by decide) (by kernel_rfl) (by kernel_rfl) (
 aU.cons (by kernel_rfl) (by decide) (by kernel_rfl) (by kernel_rfl) (
 aU.cons (by kernel_rfl) (by decide) (by kernel_rfl) (by kernel_rfl) (
 aU.cons (by kernel_rfl) (by decide) (by kernel_rfl) (by kernel_rfl) (
 aU.cons (by kernel_rfl) (by decide) (by kernel_rfl) (by kernel_rfl) (
 aU.cons (by kernel_rfl) (by decide) (by kernel_rfl) (by kernel_rfl) (
 aU.cons (by kernel_rfl) (by decide) (by kernel_rfl) (by kernel_rfl) (
 aU.cons (by kernel_rfl) (by decide) (by kernel_rfl) (by kernel_rfl) (
 aU.cons (by kernel_rfl) (by decide) (by kernel_rfl) (by kernel_rfl) (
 aU.cons (by kernel_rfl) (by decide) (by kernel_rfl) (by kernel_rfl) (
 aU.cons (by kernel_rfl) (by decide) (by kernel_rfl) (by kernel_rfl) (
 aU.cons (by kernel_rfl) (by decide) (by kernel_rfl) (by kernel_rfl) (
 aU.cons (by kernel_rfl) (by decide) (by kernel_rfl) (by kernel_rfl) (
 aU.cons (by kernel_rfl) (by decide) (by kernel_rfl) (by kernel_rfl) (
 aU.cons (by kernel_rfl) (by decide) (by kernel_rfl) (by kernel_rfl) (
 aU.cons (by kernel_rfl) (by decide) (by kernel_rfl) (by kernel_rfl) (
 aU.cons (by kernel_rfl) (by decide) (by kernel_rfl) (by kernel_rfl) (
 aU.cons (by kernel_rfl) (by decide) (by kernel_rfl) (by kernel_rfl) (
 aU.cons (by kernel_rfl) (by decide) (by kernel_rfl) (by kernel_rfl) (
 aU.cons (by kernel_rfl) (by decide) (by kernel_rfl) (by kernel_rfl) (
 aU.cons (by kernel_rfl) (by decide) (by kernel_rfl) (by kernel_rfl) (
 aU.cons (by kernel_rfl) (by decide) (by kernel_rfl) (by kernel_rfl) (
 aU.cons (by kernel_rfl) (by decide) (by kernel_rfl) (by kernel_rfl) (
 aU.cons (by kernel_rfl) (by decide) (by kernel_rfl) (by kernel_rfl) (
 aU.cons (by kernel_rfl) (by decide) (by kernel_rfl) (by kernel_rfl) (
 aU.cons (by kernel_rfl) (by decide) (by kernel_rfl) (by kernel_rfl) (
 aU.cons (by kernel_rfl) (by decide) (by kernel_rfl) (by kernel_rfl) (
 aU.cons (by kernel_rfl) (by decide) (by kernel_rfl) (by kernel_rfl) (
 aU.cons (by kernel_rfl) (by decide) (by kernel_rfl) (by kernel_rfl) (
 aU.cons (by kernel_rfl) (by decide) (by kernel_rfl) (by kernel_rfl) (
 aU.cons (by kernel_rfl) (by decide) (by kernel_rfl) (by kernel_rfl) (
 aU.cons (by kernel_rfl) (by decide) (by kernel_rfl) (by kernel_rfl) (
 aU.cons (by kernel_rfl) (by decide) (by kernel_rfl) (by kernel_rfl) (
 aU.cons (by kernel_rfl) (by decide) (by kernel_rfl) (by kernel_rfl) (
 aU.cons (by kernel_rfl) (by decide) (by kernel_rfl) (by kernel_rfl) (
 aU.cons (by kernel_rfl) (by decide) (by kernel_rfl) (by kernel_rfl) (
 aU.cons (by kernel_rfl) (by decide) (by kernel_rfl) (by kernel_rfl) (
 aU.cons (by kernel_rfl) (by decide) (by kernel_rfl) (by kernel_rfl) (
 aU.cons (by kernel_rfl) (by decide) (by kernel_rfl) (by kernel_rfl) (
 aU.cons (by kernel_rfl) (by decide) (by kernel_rfl) (by kernel_rfl) (
 aU.cons (by kernel_rfl) (by decide) (by kernel_rfl) (by kernel_rfl) (
 aU.cons (by kernel_rfl) (by decide) (by kernel_rfl) (by kernel_rfl) (
 aU.cons (by kernel_rfl) (by decide) (by kernel_rfl) (by kernel_rfl) (
 aU.cons (by kernel_rfl) (by decide) (by kernel_rfl) (by kernel_rfl) (
 aU.cons (by kernel_rfl) (by decide) (by kernel_rfl) (by kernel_rfl) (
 aU.cons (by kernel_rfl) (by decide) (by kernel_rfl) (by kernel_rfl) (
 aU.cons (by kernel_rfl) (by decide) (by kernel_rfl) (by kernel_rfl) (
 aU.cons (by kernel_rfl) (by decide) (by kernel_rfl) (by kernel_rfl) (
 aU.cons (by kernel_rfl) (by decide) (by kernel_rfl) (by kernel_rfl) (
 aU.cons (by kernel_rfl) (by decide) (by kernel_rfl) (by kernel_rfl) (
 aU.cons (by kernel_rfl) (by decide) (by kernel_rfl) (by kernel_rfl) (
 aU.cons (by kernel_rfl) (by decide) (by kernel_rfl) (by kernel_rfl) (
 aU.cons (by kernel_rfl) (by decide) (by kernel_rfl) (by kernel_rfl) (
 aU.cons (by kernel_rfl) (by decide) (by kernel_rfl) (by kernel_rfl) (
 aU.cons (by kernel_rfl) (by decide) (by kernel_rfl) (by kernel_rfl) (
 aU.cons (by kernel_rfl) (by decide) (by kernel_rfl) (by kernel_rfl) (
 aU.cons (by kernel_rfl) (by decide) (by kernel_rfl) (by kernel_rfl) (
 aU.cons (by kernel_rfl) (by decide) (by kernel_rfl) (by kernel_rfl) (
 aU.cons (by kernel_rfl) (by decide) (by kernel_rfl) (by kernel_rfl) (
 aU.cons (by kernel_rfl) (by decide) (by kernel_rfl) (by kernel_rfl) (
 aU.cons (by kernel_rfl) (by decide) (by kernel_rfl) (by kernel_rfl) (
 aU.cons (by kernel_rfl) (by decide) (by kernel_rfl) (by kernel_rfl) (
 aU.cons (by kernel_rfl) (by decide) (by kernel_rfl) (by kernel_rfl) (
 aU.cons (by kernel_rfl) (by decide) (by kernel_rfl) (by kernel_rfl) (
 aU.cons (by kernel_rfl) (by decide) (by kernel_rfl) (by kernel_rfl) (
 aU.cons (by kernel_rfl) (by decide) (by kernel_rfl) (by kernel_rfl) (
 aU.cons (by kernel_rfl) (by decide) (by kernel_rfl) (by kernel_rfl) (
 aU.cons (by kernel_rfl) (by decide) (by kernel_rfl) (by kernel_rfl) (
 aU.cons (by kernel_rfl) (by decide) (by kernel_rfl) (by kernel_rfl) (
 aU.cons (by kernel_rfl) (by decide) (by kernel_rfl) (by kernel_rfl) (
 aU.cons (by kernel_rfl) (by decide) (by kernel_rfl) (by kernel_rfl) (
 aU.cons (by kernel_rfl) (by decide) (by kernel_rfl) (by kernel_rfl) (
 aU.cons (by kernel_rfl) (by decide) (by kernel_rfl) (by kernel_rfl) (
 aU.cons (by kernel_rfl) (by decide) (by kernel_rfl) (by kernel_rfl) (
 aU.cons (by kernel_rfl) (by decide) (by kernel_rfl) (by kernel_rfl) (
 aU.cons (by kernel_rfl) (by decide) (by kernel_rfl) (by kernel_rfl) (
 aU.cons (by kernel_rfl) (by decide) (by kernel_rfl) (by kernel_rfl) (
 aU.cons (by kernel_rfl) (by decide) (by kernel_rfl) (by kernel_rfl) (
 aU.cons (by kernel_rfl) (by decide) (by kernel_rfl) (by kernel_rfl) (
 aU.cons (by kernel_rfl) (by decide) (by kernel_rfl) (by kernel_rfl) (
 aU.cons (by kernel_rfl) (by decide) (by kernel_rfl) (by kernel_rfl) (
 aU.cons (by kernel_rfl) (by decide) (by kernel_rfl) (by kernel_rfl) (
 aU.cons (by kernel_rfl) (by decide) (by kernel_rfl) (by kernel_rfl) (
 aU.cons (by kernel_rfl) (by decide) (by kernel_rfl) (by kernel_rfl) (
 aU.cons (by kernel_rfl) (by decide) (by kernel_rfl) (by kernel_rfl) (
 aU.cons (by kernel_rfl) (by decide) (by kernel_rfl) (by kernel_rfl) (
 aU.cons (by kernel_rfl) (by decide) (by kernel_rfl) (by kernel_rfl) (
 aU.cons (by kernel_rfl) (by decide) (by kernel_rfl) (by kernel_rfl) (
 aU.cons (by kernel_rfl) (by decide) (by kernel_rfl) (by kernel_rfl) (
 aU.cons (by kernel_rfl) (by decide) (by kernel_rfl) (by kernel_rfl) (
 aU.cons (by kernel_rfl) (by decide) (by kernel_rfl) (by kernel_rfl) (
 aU.cons (by kernel_rfl) (by decide) (by kernel_rfl) (by kernel_rfl) (
 aU.cons (by kernel_rfl) (by decide) (by kernel_rfl) (by kernel_rfl) (
 aU.cons (by kernel_rfl) (by decide) (by kernel_rfl) (by kernel_rfl) (
 aU.cons (by kernel_rfl) (by decide) (by kernel_rfl) (by kernel_rfl) (
 aU.cons (by kernel_rfl) (by decide) (by kernel_rfl) (by kernel_rfl) (
 aU.cons (by kernel_rfl) (by decide) (by kernel_rfl) (by kernel_rfl) (
 aU.cons (by kernel_rfl) (by decide) (by kernel_rfl) (by kernel_rfl) (
 aU.cons (by kernel_rfl) (by decide) (by kernel_rfl) (by kernel_rfl) (
 aU.cons (by kernel_rfl) (by decide) (by kernel_rfl) (by kernel_rfl) (
 aU.cons (by kernel_rfl) (by decide) (by kernel_rfl) (by kernel_rfl) (
 aU.cons (by kernel_rfl) (by decide) (by kernel_rfl) (by kernel_rfl) (
 aU.cons (by kernel_rfl) (by decide) (by kernel_rfl) (by kernel_rfl) (
 aU.cons (by kernel_rfl) (by decide) (by kernel_rfl) (by kernel_rfl) (
 aU.cons (by kernel_rfl) (by decide) (by kernel_rfl) (by kernel_rfl) (
 aU.cons (by kernel_rfl) (by decide) (by kernel_rfl) (by kernel_rfl) (
 aU.cons (by kernel_rfl) (by decide) (by kernel_rfl) (by kernel_rfl) (
 aU.cons (by kernel_rfl) (by decide) (by kernel_rfl) (by kernel_rfl) (
 aU.cons (by kernel_rfl) (by decide) (by kernel_rfl) (by kernel_rfl) (
 aU.cons (by kernel_rfl) (by decide) (by kernel_rfl) (by kernel_rfl) (
 aU.cons (by kernel_rfl) (by decide) (by kernel_rfl) (by kernel_rfl) (
 aU.cons (by kernel_rfl) (by decide) (by kernel_rfl) (by kernel_rfl) (
 aU.cons (by kernel_rfl) (by decide) (by kernel_rfl) (by kernel_rfl) (
 aU.cons (by kernel_rfl) (by decide) (by kernel_rfl) (by kernel_rfl) (
 aU.cons (by kernel_rfl) (by decide) (by kernel_rfl) (by kernel_rfl) (
 aU.cons (by kernel_rfl) (by decide) (by kernel_rfl) (by kernel_rfl) (
 aU.cons (by kernel_rfl) (by decide) (by kernel_rfl) (by kernel_rfl) (
 aU.cons (by kernel_rfl) (by decide) (by kernel_rfl) (by kernel_rfl) (
 aU.nil))))))))))))))))))))))))))))))))))))))))))))))))))))))))))))))))))))))))))))))))))))))))))))))))))))))))))))))))))))))))))))))))))))))))))))))))))))))))))))))))))))
theorem mixed:Tryz.prog.follows .mixedOrders=true:=by kernel_rfl
end Go.Proofs.YtbjfokijjefoeaaGreat
