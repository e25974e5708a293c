/- Contracts of functions that write rows which they are handed. -/
import Derived.Test.YtngdehlpoomaiaaGreatEvS
noncomputable section
set_option linter.unusedSectionVars false
set_option linter.unusedVariables false
set_option linter.unusedSimpArgs false
namespace Go.Ev
open Go.RowKit
theorem Qd: ∀ {l:List Nat},l.Nodup->eV l=true
 | [],_=>rfl
 |x::r,h=>by
  rw [List.nodup_cons] at h
  simp only [eV,Bool.and_eq_true,Bool.not_eq_true']
  exact ⟨Bool.eq_false_iff.2 fun e=>h.1 (by simpa using e),Qd h.2⟩
theorem qc: ∀ {a b:List Nat},ry a b=true-> ∀m∈a,m∉b
 | [],_,_,_,hm=>by cases hm
 |x::r,b,h,m,hm=>by
  simp only [ry,Bool.and_eq_true,Bool.not_eq_true'] at h
  rcases List.mem_cons.1 hm with rfl|hm
  ·exact fun e=>Bool.eq_false_iff.1 h.1 (LW.2 e)
  ·exact qc h.2 m hm
def Wp:(p:o8)->p.out.T
 | .val _=>false
 | .row _=> []
 | .ptr t _=>t.d
 | .pair a b=>(Wp a,Wp b)
theorem ajP (p:o8): ∀(x:p.ty.T) (z z':p.out.T) (nm:Nat) (ws:List (Nat×Nat)),(bT p x z nm ws).1.map (fun q=>(q.n,q.m))=(bT p x z' nm ws).1.map (fun q=>(q.n,q.m))/\ (bT p x z nm ws).2=(bT p x z' nm ws).2:=by
 induction p with
 |val p=>intro x z z' nm ws;exact ⟨rfl,rfl⟩
 |row t=>intro x z z' nm ws;cases ws<;>exact ⟨rfl,rfl⟩
 |ptr t e=>intro x z z' nm ws;cases ws<;>exact ⟨rfl,rfl⟩
 |pair a b SV SW=>
  intro x z z' nm ws
  obtain ⟨h1,h2⟩:=SV x.1 z.1 z'.1 nm ws
  obtain ⟨h3,h4⟩:=SW x.2 z.2 z'.2 (nm+(fQ nm a x.1).2.length) (bT a x.1 z.1 nm ws).2
  rw [h2] at h3 h4
  simp only [bT,List.map_append,h1,h2,h3,h4,and_self]
theorem ajT {π:List Src} {l0 l:List A0} {v:AV} (hl:lU v=some l) (h1:iI π l0=some l):v8 π (kp l0)=some v:=by
 cases v with
 |v a=>
  simp only [lU,Option.some.injEq] at hl
  subst hl
  match l0,h1 with
  | [],h1=>simp [iI] at h1
  | [c],h1=>
   simp only [iI] at h1
   split at h1
   ·rename_i q m k1 k2
    simp only [Option.some.injEq,List.cons.injEq] at h1
    obtain ⟨rfl,_⟩:=h1
    simp only [kp,v8,k1]
   ·cases h1
  |_::_::_,h1=>
   simp only [iI] at h1
   split at h1
   ·rename_i k1 k2
    split at k2
    ·cases k2;simp at h1
    ·cases k2
   ·cases h1
 |pT l'=>
  simp only [lU] at hl
  split at hl
  ·cases hl
  ·rename_i hne
   cases hl
   match l0,h1 with
   | [],h1=>simp only [kp,v8,h1]
   | [c],h1=>
    simp only [iI] at h1
    split at h1
    ·rename_i q m k1 k2
     cases k2
     cases h1
     exact absurd rfl (hne q)
    ·cases h1
   |_::_::_,h1=>simp only [kp,v8,h1]
 |dead=>simp [lU] at hl
theorem af7 {π:List Src} {u v:AV} (key:v8 π u=some v):NH π [v] [u]:=by
 cases u with
 |v a=>exact ⟨key,trivial⟩
 |pT l=>exact ⟨key,trivial⟩
 |dead=>simp [v8] at key
theorem Xb {π:List Src} : ∀ {cs:List Cell},ajO cs->je π cs=some cs
 | [],_=>rfl
 |c::r,h=>by
  obtain ⟨v,rfl⟩:=h c (by simp)
  have ih:=Xb (π:=π) (cs:=r) fun c hc=>h c (by simp [hc])
  simp only [je,ko,ih]
theorem WPc.ren {π:List Src} {q:gF} (h:WPc q):gu π q.c=some q.c:=by
 rcases h with ⟨t,l,z,_,_,h1,_⟩|⟨cs,zs,e,h1,_,h2,_⟩
 ·rw [h1];rfl
 ·rw [h2];simp only [gu,Xb h1]
theorem QF {π:List Src} {h:List aD} : ∀(R:List gF),(∀r∈R,ai h r.m=some r.c/\ WPc r)->bN (Jp π h) (R.map fun q=>Src.same q.m) (R.map gF.c)
 | [],_=>trivial
 |q::r,hh=>⟨⟨_,(hh q (by simp)).1,(hh q (by simp)).2.ren⟩,QF r fun q hq=>hh q (by simp [hq])⟩
theorem VA {ok:Nat->Prop} {w:World} {q:gF} {y:Loc} (h:WP1 q) (hg:cK ok w q.a y):False:=by
 rcases h with ⟨t,l,_,_,h,_⟩|⟨cs,e,_,h,_⟩
 ·rw [h] at hg;exact absurd hg.1 (by decide)
 ·rw [h] at hg;exact hg
theorem afM {r:mG} {p:o8} {x:p.ty.T} {aW:Env} {Q:r.ty.T×p.out.T->Prop} {v:AV} {st:AS} (h:ans r p x aW Q v st): ∃y z,Q (y,z)/\ ai st.heap (fQ 0 p x).2.length=some (.cg aW (fQ 0 p x).2.length)/\ Wq (ai st.heap) p x 0=some (z,true)/\ eV (eW p x 0)=true/\
  ∃ss,ss.length=(aY 2 0 r y).2.length/\ ∀ws,(eW p x 0).length<=ws.length->Ren (ss++(bT p x z 0 ws).1.map fun q=>Src.same q.m) ⟨[v],st.heap⟩ ⟨[kp (aY 2 0 r y).1],(aY 2 0 r y).2++(bT p x z 0 ws).1.map gF.c⟩:=by
 unfold ans at h
 split at h
 rotate_left
 ·exact h.elim
 rename_i l hl
 split at h
 rotate_left
 ·exact h.elim
 rename_i y ss hd
 split at h
 rotate_left
 ·exact h.elim
 rename_i hn
 split at h
 rotate_left
 ·exact h.elim
 rename_i z f ho
 obtain ⟨hp,h⟩:=dy h
 obtain ⟨rfl,hQ⟩:=bh h
 obtain ⟨ys,e,hs⟩:=zM r _ _ _ _ hd
 rw [List.append_nil] at e
 subst e
 refine ⟨y,z,hQ,hp,ho,?_,ss,(hs ss 0 fun i s hi=>by rwa [Nat.zero_add]).2.length,fun ws hw=> ?_⟩
 ·have:=fq hn
  rw [List.nodup_append] at this
  exact Qd this.2.1
 obtain ⟨h1,h2⟩:=hs (ss++(bT p x z 0 ws).1.map fun q=>Src.same q.m) 0 fun i s hi=>by
  rw [Nat.zero_add,List.getElem?_append_left (List.getElem?_eq_some_iff.1 hi).1];exact hi
 have h3:=h2.append (QF (π:=ss++(bT p x z 0 ws).1.map fun q=>Src.same q.m) (bT p x z 0 ws).1 fun q hq=>Qx p x z 0 ws ho q hq)
 obtain ⟨h4,h5⟩:=Lp _ _ h3
 refine ⟨af7 (ajT hl h1),h4,?_⟩
 show eV (zn _ (_++_))=true
 rw [h5,List.filterMap_append]
 have:((bT p x z 0 ws).1.map fun q=>Src.same q.m).filterMap GZ=eW p x 0:=by
  rw [<- (sy p x z 0 ws hw).1,List.filterMap_map]
  induction (bT p x z 0 ws).1 with
  |nil=>rfl
  |cons q r ih=>simp [GZ,ih]
 rw [this];exact hn
section
variable {P:Program} {tt:List (Nat×TI)} {specs:List (Nat×Spec)}
theorem Cd {α β:Type} [DecidableEq β] {f:α->β} : ∀ {l:List α},(l.map f).Nodup-> ∀a∈l,∀b∈l,f a=f b->a=b
 | [],_,_,ha,_,_,_=>by cases ha
 |x::r,hn,a,ha,b,hb,e=>by
  rw [List.map_cons,List.nodup_cons] at hn
  rcases List.mem_cons.1 ha with rfl|ha'<;>rcases List.mem_cons.1 hb with rfl|hb'
  ·rfl
  ·exact absurd (show f a∈r.map f by rw [e];exact List.mem_map.2 ⟨b,hb',rfl⟩) hn.1
  ·exact absurd (show f b∈r.map f by rw [<- e];exact List.mem_map.2 ⟨a,ha',rfl⟩) hn.1
  ·exact Cd hn.2 a ha' b hb' e
theorem aq.fnW (hT:di P tt) (hS:aj P specs) (hm:P.follows .mixedOrders=true) {f:FuncId} {fn:Func} (hf:P.funcs[f]? =some fn) (hn:cZ (ids (aC fn))=true) {s:FnW} (hres:s.r.res=true)
  (h: ∀x,s.pre x-> ∀aW,∃lp its,aH P cf its/\ aK P cf (aC fn) lp/\ JD ⟨tt,specs,cf,lp,[],its⟩ fn (abJ s.p x) (aii s.p x aW) (ans s.r s.p x aW (· =s.f x))):aq P f (lN s):=by
 intro X args hp nm k hs
 unfold lN at hs
 split at hs
 rotate_left
 ·exact hs.elim
 rename_i x tc ws b hd
 split at hs
 rotate_left
 ·exact hs.elim
 rename_i aep
 rw [Bool.and_eq_true] at aep
 obtain ⟨ja,FM⟩:=aep
 have ja:=fq ja
 have FM:=qc FM
 obtain ⟨rfl,hpre,hk⟩:=bh hs
 have hk:=hk _ rfl
 have hlen:=xu s.p _ _ _ _ _ _ hd 0
 obtain ⟨bs,e,hargs⟩:=ad1 s.p _ _ _ _ _ hd
 rw [List.append_nil] at e
 subst e
 have VN: ∀z,∀q∈(bT s.p x z 0 ws).1,hp q.n=some q.b/\ WP1 q:=fun z q hq=>adZ s.p _ _ _ _ _ hd z 0 [] q (by rw [List.append_nil];exact hq)
 have aiq:=fun z=>sy s.p x z 0 ws (by omega)
 have UE: ∀z,(bT s.p x z 0 ws).1.map (·.n)=ws.map (·.1):=fun z=>by
  have:=congrArg (List.map Prod.fst) (aiq z).2.2
  rw [List.map_map,hlen,List.take_length] at this
  exact this
 have auI: ∀z,∀q∈(bT s.p x z 0 ws).1,∀q'∈(bT s.p x z 0 ws).1,q.n=q'.n->q=q':=fun z=>Cd (f:=gF.n) (by
  rw [show List.map gF.n (bT s.p x z 0 ws).1=ws.map (·.1) from UE z];exact ja)
 refine ⟨_,⟨fun p fh=> ?_,?_⟩,hk⟩
 ·obtain ⟨q,hq,rfl⟩:=List.mem_map.1 fh
  rw [(VN _ q hq).1];exact fun h=>by cases h
 intro av W ρ Kn Γ w _ _ ht hfr hst
 obtain ⟨R0,hR0⟩: ∃R,R=(bT s.p x (Wp s.p) 0 ws).1:=⟨_,rfl⟩
 have bQ: ∀z,∀q∈(bT s.p x z 0 ws).1,Γ q.n=some q.b:=fun z q hq=>by
  rw [ht q.n (List.mem_append.2 (.inr (by show q.n∈ws.map (·.1);rw [<- UE z];exact List.mem_map.2 ⟨q,hq,rfl⟩)))];exact (VN z q hq).1
 have hok:nV (fun b=>bj w b/\ ∀q∈R0,¬(ρ q.n).has b) ρ Γ w tc:=by
  refine ⟨fun b hb=>⟨hb.1,fun q hq e=>hb.2 (.inl ⟨q.n,?_,e⟩)⟩,fun m hm hs b hb hc=>⟨hc,fun q hq e=> ?_⟩⟩
  ·rw [hR0] at hq;rw [bQ _ q hq];rfl
  ·rw [hR0] at hq
   have:=hst.dU m q.n b hs (by rw [bQ _ q hq];rfl) hb e
   exact FM m hm (by rw [this,<- UE (Wp s.p)];exact List.mem_map.2 ⟨q,hq,rfl⟩)
 obtain ⟨xs,hxl,hg,hc⟩:=hargs av W ρ Kn Γ w (fun m hm=>ht m (List.mem_append.2 (.inl hm))) hst _ hok (Wp s.p) 0 []
 rw [List.append_nil,<- hR0] at hg
 simp only [Nat.zero_add] at hg hc
 have hb:=St.aoX (R:=R0) hst hxl (fun q hq=>by
  rw [hR0] at hq;exact ⟨bQ _ q hq,(VN _ q hq).2⟩) (fun q hq q' JO e=>by
  rw [hR0] at hq JO;rw [auI _ q hq q' JO e]) hg
 obtain ⟨aW,ep⟩: ∃aW:Env,aW=fun n=>xs.getD n {} :=⟨_,rfl⟩
 rw [<- ep] at hb
 obtain ⟨lp,its,hi,hl,hfn⟩:=h x hpre aW
 have hcs:=hc aW fun i y hy=>by rw [ep];simp [hy]
 have key:=jN (ctx:=⟨tt,specs,cf,lp,[],its⟩) hT ⟨hS,o9.nil P,hi⟩ (cf.ok _ w) hm hf (fun c hc=>by
  have:aC fn=c:=by unfold aC;rw [hc]
  subst this
  exact Ae (ef hn) hl) hfn (fun y hy=>by
   obtain ⟨a,ha,rfl⟩:=List.mem_map.1 hy
   exact A0.aT (fun m hm=>by simp only [aii,List.length_append,List.length_singleton];omega) a (alV s.p x 0 a ha)) hb
 have ea:(abJ s.p x).map (AV.ae aW)=args.map (AV.ae ρ):=by
  rw [hcs];simp [abJ,AV.ae,Function.comp_def]
 rw [ea] at key
 refine key.mono ?_
 rintro e w' ⟨st,aR,v,rfl,hv,hR,pF⟩
 obtain ⟨y,z,hyz,AO,hout,hwn,ss,au6,amF⟩:=afM hR
 have amF:=amF ws (by omega)
 obtain ⟨rfl,rfl⟩:y=(s.f x).1/\ z=(s.f x).2:=⟨congrArg Prod.fst hyz,congrArg Prod.snd hyz⟩
 obtain ⟨R,hRe⟩: ∃R,R=(bT s.p x (s.f x).2 0 ws).1:=⟨_,rfl⟩
 rw [<- hRe] at amF
 have hB:(fun b=> ∃q∈R0,(ρ q.n).has b)=fun b=> ∃q∈R,(ρ q.n).has b:=by
  funext b
  refine propext ⟨?_,?_⟩
  ·rintro ⟨q,hq,e⟩
   have:q.n∈ws.map (·.1):=by rw [<- UE (Wp s.p),<- hR0];exact List.mem_map.2 ⟨q,hq,rfl⟩
   rw [<- UE (s.f x).2,<- hRe] at this
   obtain ⟨q',JO,e'⟩:=List.mem_map.1 this
   exact ⟨q',JO,by rw [e'];exact e⟩
  ·rintro ⟨q,hq,e⟩
   have:q.n∈ws.map (·.1):=by rw [<- UE (s.f x).2,<- hRe];exact List.mem_map.2 ⟨q,hq,rfl⟩
   rw [<- UE (Wp s.p),<- hR0] at this
   obtain ⟨q',JO,e'⟩:=List.mem_map.1 this
   exact ⟨q',JO,by rw [e'];exact e⟩
 have auH: ∀q∈R,∀q'∈R,q.m=q'.m->q=q':=Cd (f:=gF.m) (by
  rw [hRe,show List.map gF.m (bT s.p x (s.f x).2 0 ws).1=eW s.p x 0 from (aiq _).1];exact fq hwn)
 have avd: ∀q∈R,aR q.m=ρ q.n:=fun q hq=>by
  have hq0:=hq
  rw [hRe] at hq0
  obtain ⟨_,m2,m3⟩:=ano s.p x (s.f x).2 0 ws q hq0
  simp only [Nat.zero_add,Nat.sub_zero] at m2 m3
  rw [(pF.at_ _ _ AO).2 q.m m2]
  obtain ⟨y,y1,y2⟩:=hg q.m _ m3
  rcases y2 with y2|⟨q0,k1,k2,_,k4⟩
  ·exact (VA (VN _ q hq0).2 y2).elim
  ·rw [ep]
   simp only [List.getD_eq_getElem?_getD,y1,Option.getD_some]
   rw [k4]
   have:(q0.n,q0.m)∈R0.map fun q=>(q.n,q.m):=List.mem_map.2 ⟨q0,k1,rfl⟩
   rw [hR0,(ajP s.p x (Wp s.p) (s.f x).2 0 ws).1,<- hRe] at this
   obtain ⟨q',k5,k6⟩:=List.mem_map.1 this
   simp only [Prod.mk.injEq] at k6
   have:=auH q' k5 q hq (by omega)
   rw [<- this,k6.1]
 have aQ:mF {wr:=fun b=> ∃q∈R0,(ρ q.n).has b} w [] ⟨[v],st.heap⟩ aR {tmps:= #[v.ae aR],defers:= []} w':=by
  refine ⟨fun t _=> ?_,rfl,rfl,fun t=> ?_,pF⟩
  ·match t with
   |0=>rfl
   |t+1=>rfl
  ·match t with
   |0=>exact hv
   |t+1=>exact wF _
 have fc:=aQ.aoD amF
 obtain ⟨jZ,asA⟩: ∃jZ,jZ=lD (ss++R.map fun q=>Src.same q.m) (ai ((aY 2 0 s.r (s.f x).1).2++R.map gF.c)) aR:=⟨_,rfl⟩
 have fc:mF {wr:=fun b=> ∃q∈R0,(ρ q.n).has b} w [] ⟨[kp (aY 2 0 s.r (s.f x).1).1],(aY 2 0 s.r (s.f x).1).2++R.map gF.c⟩ jZ {tmps:= #[v.ae aR],defers:= []} w':=by
  rw [asA];exact fc
 have asB: ∀(i:Nat) (q:gF),R[i]? =some q->jZ ((aY 2 0 s.r (s.f x).1).2.length+i)=ρ q.n:=fun i q hi=>by
  rw [asA]
  unfold lD
  rw [<- au6,List.getElem?_append_right (by omega),Nat.add_sub_cancel_left,List.getElem?_map,hi]
  exact avd q (List.mem_of_getElem? hi)
 have VO:=tO 2 s.r (s.f x).1 0 hres
 have Pr:=fun d=>(jo 2 (ρ:=jZ) (ρ':=fun m=>jZ (m- d)) (d:=d) s.r (s.f x).1 0 hres fun i _=>by simp).2
 have Pu:(aY 2 nm s.r (s.f x).1).2=(aY 2 0 s.r (s.f x).1).2:=by simpa using Pr nm
 have Gi:=fc.st
 rw [hB] at Gi
 obtain ⟨ρ',r1,r2,r3⟩:=St.arH (R:=R) (v:=kp (aY 2 nm s.r (s.f x).1).1) (tc:=tc++ws.map (·.1)) (nm:=nm) hst (fun i hi=>hfr i (by rw [Pu];exact hi)) VO (fun q hq=>by
  rw [hRe] at hq
  exact ⟨bQ _ q hq,WP2.of (VN _ q hq).2 (Qx s.p x _ 0 ws hout q hq).2⟩) Gi asB
 have hsh:=(jo 2 (ρ:=jZ) (ρ':=ρ') (d:=nm) s.r (s.f x).1 0 hres fun i hi=>by rw [Nat.zero_add];exact r2 i hi).1
 rw [Nat.zero_add] at hsh
 refine ⟨ρ',?_,r1,?_,?_⟩
 ·congr 1
  have h1:=fc.tmps 0 (by
   show kp _≠_
   generalize (aY 2 0 s.r (s.f x).1).1=l
   match l with
   | []=>exact fun h=>by cases h
   | [_]=>exact fun h=>by cases h
   |_::_::_=>exact fun h=>by cases h)
  have h2:v.ae aR=(kp (aY 2 0 s.r (s.f x).1).1).ae jZ:=h1
  rw [h2]
  exact (AB hsh).symm
 ·exact J3 fun c hc=>A0.aT (fun m hm=> .inr (by simpa using hm)) c (jc 2 s.r (s.f x).1 nm c hc)
 ·rw [Pu,<- hRe];exact r3
theorem aq.trW (s:FnW) {i:Bool} (t:s.p.ty.T->Tr (s.r.ty.T×s.p.out.T) i) (hT:di P tt) (hS:aj P specs) (hm:P.follows .mixedOrders=true) {n:FuncId} {fn:Func} (hk:(P.funcs[n]?,cZ (ids (aC fn)),s.r.res)=(some fn,true,true))
  {its:List (Nat×cP)} {lp:s.p.ty.T->List (Nat×br)} (hits:aH P cf its) (hl: ∀x,aK P cf (aC fn) (lp x)) (he: ∀x,(s.pre x,s.f x)=(Tr.pI i (t x).pre,(t x).val))
  (h: ∀x r0 Q,JD ⟨tt,specs,cf,lp x,[],its⟩ fn (abJ s.p x) (aii s.p x r0) (ans s.r s.p x r0 Q)=(t x).wp Q [.env r0]):aq P n (lN s):=by
 simp only [Prod.mk.injEq] at hk
 refine aq.fnW hT hS hm hk.1 hk.2.1 hk.2.2 fun x hx r0=>⟨lp x,its,hits,hl x,?_⟩
 have e:=he x
 simp only [Prod.mk.injEq] at e
 rw [h]
 exact Tr.N6 _ _ _ (by rw [<- e.1];exact hx) e.2.symm
end
namespace Tr
variable {τ:Type}
abbrev fnW {i:Bool} (s:FnW) (x:s.p.ty.T) (k:s.r.ty.T×s.p.out.T->Tr τ i):Tr τ true:= .call (s.pre x) (s.f x) k
end Tr
end Go.Ev
