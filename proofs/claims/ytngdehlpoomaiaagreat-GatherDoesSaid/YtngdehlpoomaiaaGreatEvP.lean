/- Proofs of printed conditions: how the parts are joined. -/
import Derived.Test.YtngdehlpoomaiaaGreatEvL
noncomputable section
set_option linter.unusedSectionVars false
set_option linter.unusedVariables false
set_option linter.unusedSimpArgs false
namespace Go.Ev
abbrev I2:Type:=Int×Int
abbrev I3:Type:=Int×(Int×Int)
abbrev I9:Type:=(Int×Int×Int)×((Int×Int×Int)×Int×Int×Int)
abbrev uQ:Int×Int:=((0:Int),(0:Int))
abbrev bn:Int×(Int×Int):=((0:Int),(0:Int),(0:Int))
abbrev Ju:(Int×Int×Int)×((Int×Int×Int)×Int×Int×Int):=(((0:Int),(0:Int),(0:Int)),((0:Int),(0:Int),(0:Int)),(0:Int),(0:Int),(0:Int))
abbrev yi:Ty:= .int .i64
abbrev dh:Ty:=Ty.prod (Ty.int IntKind.i64) (Ty.int IntKind.i64)
abbrev aG:Ty:=Ty.prod (Ty.int IntKind.i64) (Ty.prod (Ty.int IntKind.i64) (Ty.int IntKind.i64))
abbrev cO:Ty:=Ty.prod (Ty.prod (Ty.int IntKind.i64) (Ty.prod (Ty.int IntKind.i64) (Ty.int IntKind.i64))) (Ty.prod (Ty.prod (Ty.int IntKind.i64) (Ty.prod (Ty.int IntKind.i64) (Ty.int IntKind.i64))) (Ty.prod (Ty.int IntKind.i64) (Ty.prod (Ty.int IntKind.i64) (Ty.int IntKind.i64))))
def Xj (ps:List Nat):Code->Option (Code×Code)
 | .seq a b=>match Xj ps a with|some q=>some q|none=>Xj ps b
 | .cond _ a b=>match Xj ps a with|some q=>some q|none=>Xj ps b
 | .loop c=>Xj ps c
 | .block _ c=>Xj ps c
 | .rangeFunc _ qs a b=>if qs.toList=ps then some (a,b) else none
 |_=>none
def rfA (ps:List Nat) (c:Code):Code:=match Xj ps c with|some q=>q.1|none=> .skip
def rfB (ps:List Nat) (c:Code):Code:=match Xj ps c with|some q=>q.2|none=> .skip
def ak {α β:Type} (a:α) (f:α->β):β:=f a
def az {α:Type} (a:α) (f:α->Prop):Prop:=f a
theorem adL {α:Type} {Q:α->Prop} {p:Prop} [Decidable p] {x y:α} {t1 t2:Prop} (hq:Q (if p then x else y)) (h1:p->Q x->t1) (h2: ¬p->Q y->t2):cB (decide p) t1 t2:=by
 by_cases h:p
 ·rw [if_pos h] at hq;rw [decide_eq_true h];exact h1 h hq
 ·rw [if_neg h] at hq;rw [decide_eq_false h];exact h2 h hq
theorem at3 {α:Type} {Q:α->Prop} {b:Bool} {x y:α} {t1 t2:Prop} (hq:Q (if b=true then x else y)) (h1:b=true->Q x->t1) (h2: ¬b=true->Q y->t2):cB b t1 t2:=by
 cases b with
 |true=>exact h1 rfl hq
 |false=>exact h2 (by simp) hq
theorem Wj {b:Bool} {t:Prop} (h:b=true) (ht:t):ob b t:=by subst h;exact ht
theorem iu {b c:Bool} (h1:b=true) (h2:c=true):(b&&c)=true:=by rw [h1,h2];rfl
theorem acs {α β:Type} {Q:β->Prop} {g:α} {F:α->β} {P t:α->Prop} (hp:az g P) (hq:Q (ak g F)) (h: ∀y,P y->Q (F y)->t y): ∀y,y=g->t y:=by
 rintro y rfl;exact h _ hp hq
theorem asI {α β:Type} {Q:β->Prop} {g:α} {F:α->β} {t:α->Prop} (hq:Q (ak g F)) (h: ∀y,Q (F y)->t y): ∀y,y=g->t y:=by
 rintro y rfl;exact h _ hq
theorem aaS {π:List Src} {st st':AS} (h1:NH π st.tmps st'.tmps) (h2:wJ π st.heap π st'.heap) (h3:eV (zn π st'.heap)=true):uS st st':=⟨π,h1,h2,h3⟩
theorem cD {π:List Src} {h:List aD} {m:Nat} {o p:aD} (h1:ai h m=some p) (h2:gu π o=some p):Jp π h (.same m) o:=⟨p,h1,h2⟩
theorem aj.F0 {P:Program} {tt:List (Nat×TI)} {specs:List (Nat×Spec)} {X:Addr->Value->Prop} {lp:List (Nat×br)} {its:List (Nat×cP)} (h:aj P specs) (hi:aH P X its):e8 P ⟨tt,specs,X,lp,[],its⟩:=⟨h,o9.nil P,hi⟩
structure Vc (p:Prop):Prop where
 h:p
theorem Vc.eq {p q:Prop} (e:p=q) (h:q):Vc p:=⟨e▸h⟩
def Ui:List aD->Nat->Nat->Nat
 | [],_,b=>b
 | .cg _ _::r,i,_=>Ui r (i+1) (i+1)
 |_::r,i,b=>Ui r (i+1) b
def agT (l:List (Nat×br)):br:=fun st K=>match aL l (Ui st.heap 0 0) with
 |some sp=>sp st K
 |none=>False
def KF (i:Nat) (f:Loop->br):br:=fun st K=>match st.heap[i]? with
 |some (.loop r _ _)=>f r st K
 |_=>False
def UY (i:Nat) (f:Env->br):br:=fun st K=>match st.heap[i]? with
 |some (.cg ρ _)=>f ρ st K
 |_=>False
structure RW (ctx:Ctx) (c:Code) (id:Nat) (sp:br):Prop where
 h: ∀st K,sp st K->cJ ctx c st (lA id (kN K))
def an8 (ctx:Ctx) (c:Code) (id:Nat) {T:Type} (sp:T->br):br:=fun st K=> ∃t:T,RW ctx c id (sp t)/\ sp t st K
def ysE (n:Nat) (tmps:List AV) (r:Loop) (aW:Env) (ps:List Nat) (co:Ctx) (fn:Func):List (Nat×Spec):= [(n,anY cf n tmps r aW ps.toArray (cJ co (rfA ps (aC fn))) (cJ co (rfB ps (aC fn))))]
def Kk (ctx:Ctx) (c:Code) (id:Nat) (sp:br):Prop:= ∀st K,sp st K->Vc (cJ ctx c st (lA id (kN K)))
section
variable {ctx:Ctx} {c:Code} {id:Nat}
theorem Kk.nil:Kk ctx c id (agT []):=fun _ _ h=>h.elim
theorem Kk.cons {n:Nat} {sp:br} {l:List (Nat×br)} (h:Kk ctx c id sp) (hl:Kk ctx c id (agT l)):Kk ctx c id (agT ((n,sp)::l)):=fun st K hk=>by
 unfold agT aL at hk
 by_cases e:n=Ui st.heap 0 0
 ·rw [if_pos e] at hk;exact h st K hk
 ·rw [if_neg e] at hk;exact hl st K hk
theorem Kk.KF {i:Nat} {f:Loop->br} (h: ∀r,Kk ctx c id (f r)):Kk ctx c id (KF i f):=fun st K hk=>by
 unfold Ev.KF at hk
 split at hk
 ·exact h _ st K hk
 ·exact hk.elim
theorem Kk.UY {i:Nat} {f:Env->br} (h: ∀r,Kk ctx c id (f r)):Kk ctx c id (UY i f):=fun st K hk=>by
 unfold Ev.UY at hk
 split at hk
 ·exact h _ st K hk
 ·exact hk.elim
theorem Kk.cert {T:Type} {sp:T->br} :Kk ctx c id (an8 ctx c id sp):=fun st K ⟨_,h,hs⟩=>⟨h.h st K hs⟩
theorem Kk.ao4 {sp:br} (h:Kk ctx c id sp):RW ctx c id sp:=⟨fun st K hs=>(h st K hs).h⟩
end
section
variable {P:Program} {tt:List (Nat×TI)} {specs:List (Nat×Spec)}
theorem aq.aub (hT:di P tt) (hS:aj P specs) (hm:P.follows .mixedOrders=true) {n:FuncId} {fn:Func} (hf:P.funcs[n]? =some fn) (hn:cZ (ids (aC fn))=true) (p r:mG) (pre:p.ty.T->Prop) (f:p.ty.T->r.ty.T) (hres:r.res=true)
  (h: ∀x,pre x-> ∃lp its,aH P cf its/\ aK P cf (aC fn) lp/\ Vc (JD ⟨tt,specs,cf,lp,[],its⟩ fn (cy p x) (da p x) (l9 r (· =f x)))):aq P n (ah ⟨p,r,pre,f⟩):=
 aq.fnT (s:=⟨p,r,pre,f⟩) hT hS hm hf hn hres fun x hx=>by
  obtain ⟨lp,its,h1,h2,h3⟩:=h x hx
  exact ⟨lp,its,h1,h2,h3.h⟩
theorem aK.aru (hT:di P tt) {X:Addr->Value->Prop} {lp:List (Nat×br)} {ys:List (Nat×Spec)} {its:List (Nat×cP)} (hC:e8 P ⟨tt,specs,X,lp,ys,its⟩) (hm:P.follows .mixedOrders=true) {c b:Code} {id:Nat} {sp:br} (hl:aK P X c lp) (hn':cZ (ids c)=true) (hb:bD id c=some b)
  (h:Kk ⟨tt,specs,X,lp,ys,its⟩ b id sp):aK P X c ((id,sp)::lp):=aK.cons hT hC hm hl hn' hb fun st K hk=>(h st K hk).h
theorem ZS {S R:Type} [Inhabited R] {ctx:Ctx} {c:Code} {id:Nat} {tm:S->AS} {step:S->S⊕R} {pre:S->Prop} {out:R->(Exit->AS->Prop)->Prop}
  (hr: ∀s K KN,pre s->adr tm out K KN (step s)->Vc (cJ ctx c (tm s) (KB id K KN))) (st:AS) (K:Exit->AS->Prop) (h:ZR tm step pre out st K):Vc (cJ ctx (.loop c) st (lA id (kN K))):=⟨aeU (fun s K KN h1 h2=>(hr s K KN h1 h2).h) st K h⟩
end
end Go.Ev
namespace Go.Ev
open Go.RowKit
def Tj (hp:HP) (n:Nat):Bool:=match hp n with
 |some (.row _ _ rk)=>rk !=0
 |some (.alias _ _ _)=>true
 |some (.cells _ _)=>true
 |some (.set _)=>true
 |_=>false
def yj (hp:HP):List Nat->List Nat
 | []=> []
 |n::r=>if Tj hp n then n::yj hp r else yj hp r
def JE (s:bF):Spec:=fun _ args hp nm k=>match fJ hp s.p args with
 |some (x,[],tc,b)=>ob b (s.pre x/\ ∀y,y=s.f x->k {val:=kp (aY 0 nm s.r y).1,fresh:=(aY 0 nm s.r y).2,writes:=(yj hp tc).map fun n=>(n,.gone),aF:=tc})
 |_=>False
def xp (hp:HP):(p:mG)->List A0->Option (p.ty.T×List A0)
 | .one t,l=>match l with
  | .one c::r=>match ct hp t [c] with
   |some (y,[],_)=>some (y,r)
   |_=>none
  |_=>none
 | .agg t,l=>match l with
  | .agg cs::r=>match ct hp t cs with
   |some (y,[],_)=>some (y,r)
   |_=>none
  |_=>none
 | .ptr _,_=>none
 | .jO _ _,_=>none
 | .mv _ _ _,_=>none
 | .pair a b,l=>match xp hp a l with
  |some (x,r)=>match xp hp b r with
   |some (y,r')=>some ((x,y),r')
   |none=>none
  |none=>none
 | .none,l=>some (false,l)
def SM (S:Nat->Prop) (K:Prop):List aD->Prop
 | []=>False
 |o::r=>match o with
  | .hide S'=>S'=S/\ K
  |_=>SM S K r
def acS (r:mG) (S:Nat->Prop) (Q:r.ty.T->Prop) (v:AV) (st:AS):Prop:=match lU v with
 |some l=>match xp (ai st.heap) r l with
  |some (y,[])=>SM S (Q y) st.heap
  |_=>False
 |none=>False
theorem Ht {S:Nat->Prop} {K:Prop} : ∀ {h:List aD},SM S K h->K/\ ∃n,ai h n=some (.hide S)
 | [],h=>h.elim
 |o::r,h=>by
  have main:SM S K r->K/\ ∃n,ai (o::r) n=some (.hide S):=fun h=>by
   obtain ⟨h1,n,h2⟩:=Ht h
   exact ⟨h1,n+1,by simpa [ai] using h2⟩
  cases o with
  |hide S'=>obtain ⟨rfl,h⟩:=h;exact ⟨h,0,by simp [ai]⟩
  |_=>exact main h
def cK (ok:Nat->Prop) (w:World):aD->Loc->Prop
 | .row u l rk,x=>rk=0/\ (x.blk=none/\ x.jq= [])/\ x.len=l.length/\ x.es=u.size/\ l.length<=x.cap/\ mH w ok x.base u l
 |_,_=>False
theorem jn {ok:Nat->Prop} {w:World} : ∀(cs:List cw) (vals:List Value) (nm:Nat),bN (Kp w ok) cs vals->
  ∃xs,bN (cK ok w) (cA 0 nm cs).2 xs/\ ∀aR:Env,(∀i x,xs[i]? =some x->aR (nm+i)=x)->(cA 0 nm cs).1.map (Cell.ae aR)=vals
 | [],[],nm,_=>⟨[],trivial,fun _ _=>rfl⟩
 | [],_::_,_,h=>h.elim
 |_::_,[],_,h=>h.elim
 | .flat v::r,v'::vr,nm,h=>by
  obtain ⟨xs,h1,h2⟩:=jn r vr nm h.2
  refine ⟨xs,h1,fun aR hr=> ?_⟩
  have:=h2 aR hr
  have hv:v'=v:=h.1
  simp only [cA,List.map_cons,this,hv];rfl
 | .sl u l::r,v'::vr,nm,h=>by
  obtain ⟨xs,h1,h2⟩:=jn r vr (nm+1) h.2
  obtain ⟨a,c,hv,hc,hr⟩:=h.1
  refine ⟨{blk:=none,base:=a,len:=l.length,cap:=c,es:=u.size} ::xs,⟨⟨rfl,⟨rfl,rfl⟩,rfl,rfl,hc,hr⟩,h1⟩,fun aR hr=> ?_⟩
  have:=h2 aR fun i x hi=>by
   have:=hr (i+1) x (by simpa using hi)
   rwa [show nm+(i+1)=nm+1+i by omega] at this
  have h0:=hr 0 _ rfl
  rw [Nat.add_zero] at h0
  simp only [cA,List.map_cons,this,hv,Cell.ae,h0]
theorem mS {hp:HP} : ∀(p:mG) (args:List AV) (x:p.ty.T) (r:List AV) (tc:List Nat),fJ hp p args=some (x,r,tc,true)->
  ∃as,args=as++r/\ ∀av W ρ Kn Γ w,(∀m∈tc,Γ m=hp m)->St av W ρ Kn Γ w-> ∀ok,nV ok ρ Γ w tc-> ∀nm,∃xs,bN (cK ok w) (aY 0 nm p x).2 xs/\
   ∀aR:Env,(∀i x,xs[i]? =some x->aR (nm+i)=x)->as.map (AV.ae ρ)=(aY 0 nm p x).1.map (A0.ae aR)
 | .one t,args,x,r,tc,h=>by
  simp only [fJ] at h
  split at h<;>try (cases h;done)
  rename_i c r'
  split at h<;>try (cases h;done)
  rename_i y CN hd
  cases h
  obtain ⟨ys,e,hl,hs⟩:=eB hp t _ _ _ _ hd
  rw [List.append_nil] at e
  subst e
  refine ⟨[_],rfl,fun av W ρ Kn Γ w ht hst ok hok nm=> ?_⟩
  obtain ⟨xs,h1,h2⟩:=jn _ _ nm (hs av W ρ Kn Γ w ht hst ok hok)
  refine ⟨xs,h1,fun aR hr=> ?_⟩
  have:=h2 aR hr
  simp only [aY,List.map_cons,List.map_nil]
  simp only [List.map_cons,List.map_nil] at this
  obtain ⟨c',Jj,e⟩: ∃c',(cA 0 nm (t.aU x)).1= [c']/\ c'.ae aR=c.ae ρ:=by
   match hm:(cA 0 nm (t.aU x)).1,this with
   | [c'],h=>simp only [List.map_cons,List.map_nil,List.cons.injEq,and_true] at h;exact ⟨c',rfl,h⟩
   | [],h=>simp at h
   |_::_::_,h=>simp at h
  rw [Jj]
  simp only [wW,AV.ae,A0.ae,e]
 | .agg t,args,x,r,tc,h=>by
  simp only [fJ] at h
  split at h<;>try (cases h;done)
  rename_i cs r'
  split at h<;>try (cases h;done)
  rename_i y CN hd
  cases h
  obtain ⟨ys,e,hl,hs⟩:=eB hp t _ _ _ _ hd
  rw [List.append_nil] at e
  subst e
  refine ⟨[_],rfl,fun av W ρ Kn Γ w ht hst ok hok nm=> ?_⟩
  obtain ⟨xs,h1,h2⟩:=jn _ _ nm (hs av W ρ Kn Γ w ht hst ok hok)
  refine ⟨xs,h1,fun aR hr=> ?_⟩
  have:=h2 aR hr
  simp only [aY,wW,List.map_cons,List.map_nil,AV.ae,A0.ae,this]
 | .ptr t,args,x,r,tc,h=>by
  simp only [fJ] at h
  split at h
  ·rename_i n off r'
   split at h<;>try (cases h;done)
   rename_i cs e he
   split at h<;>try (cases h;done)
   rename_i y CN hd
   split at h<;>try (cases h;done)
   rename_i hsh
   cases h
   obtain ⟨ys,e1,hl,hs⟩:=eB hp t _ _ _ _ hd
   rw [List.append_nil] at e1
   refine ⟨[_],rfl,fun av W ρ Kn Γ w ht hst ok hok nm=> ?_⟩
   have hall:=zu t x _ hsh (hs av W ρ Kn Γ w (fun m hm=>ht m (by simp [hm])) hst ok (hok.sub fun m hm=>by simp [hm]))
   obtain ⟨b,hb,hh⟩:=hst.at_ n _ (by rw [ht n (by simp),he])
   refine ⟨[{blk:=none,base:=addrOf ρ n off,len:=1,cap:=1,es:=t.size}],⟨⟨rfl,⟨rfl,rfl⟩,rfl,rfl,by simp,ys.map (Cell.ae ρ),?_,fun i v hv=> ?_⟩,trivial⟩,fun aR hr=> ?_⟩
   ·simpa [ay] using hall
   ·refine ⟨⟨b,off,none⟩,by simp [addrOf,hb],?_,?_⟩
    ·rw [R2,bL (by simpa using hh)]
     rw [<- e1,List.map_take,List.map_drop,List.getElem?_take] at hv
     split at hv
     ·rwa [List.getElem?_drop] at hv
     ·cases hv
    ·exact hok.2 n (by simp) (by rw [ht n (by simp),he];rfl) b (.inl hb) ⟨_,_,_,hh⟩
   ·have h0:=hr 0 _ rfl
    rw [Nat.add_zero] at h0
    simp only [aY,List.map_cons,List.map_nil,AV.ae,A0.ae,Cell.ae,h0]
    cases addrOf ρ n off<;>simp [add_zero']
  ·rename_i n j r'
   split at h<;>try (cases h;done)
   rename_i u l rk he
   split at h<;>try (cases h;done)
   rename_i l' hl'
   simp only [Option.some.injEq,Prod.mk.injEq,decide_eq_true_eq] at h
   obtain ⟨rfl,rfl,rfl,hj⟩:=h
   obtain ⟨e,e2⟩:=cr hl'
   subst e
   dsimp only at e2
   subst e2
   refine ⟨[_],rfl,fun av W ρ Kn Γ w ht hst ok hok nm=> ?_⟩
   have bQ:Γ n=some (.row u l rk):=by rw [ht n (by simp),he]
   have hra:=hst.Mz bQ hok (by simp)
   have hes:(ρ n).es=u.size:=(hst.at_ n _ bQ).2.1
   have hp:=hra.part (a':=(ρ n).base.map (·.add (j*u.size))) j (some 1) fun _=>rfl
   have Aa:ov l j (some 1)= [gd u l j]:=by
    simp only [ov,gd,List.getD_eq_getElem?_getD,List.getElem?_eq_getElem hj,Option.getD_some]
    rw [List.drop_eq_getElem_cons hj];rfl
   rw [Aa] at hp
   refine ⟨[{blk:=none,base:=(ρ n).base.map (·.add (j*u.size)),len:=1,cap:=1,es:=u.size}],⟨⟨rfl,⟨rfl,rfl⟩,rfl,rfl,by simp,hp⟩,trivial⟩,fun aR hr=> ?_⟩
   have h0:=hr 0 _ rfl
   rw [Nat.add_zero] at h0
   simp only [aY,List.map_cons,List.map_nil,AV.ae,A0.ae,Cell.ae,h0,hes]
   cases (ρ n).base<;>simp [add_zero']
  ·cases h
 | .jO f p,args,x,r,tc,h=>by
  simp only [fJ] at h
  split at h<;>try (cases h;done)
  rename_i g cap r'
  split at h<;>try (cases h;done)
  rename_i hg
  split at h<;>try (cases h;done)
  rename_i x1 J8 b1 h1
  simp only [Option.some.injEq,Prod.mk.injEq,Bool.and_eq_true] at h
  obtain ⟨rfl,rfl,rfl,hc,rfl⟩:=h
  subst hg
  obtain ⟨as,e1,k1⟩:=mS p _ _ _ _ h1
  rw [List.append_nil] at e1
  refine ⟨[_],rfl,fun av W ρ Kn Γ w ht hst ok hok nm=> ?_⟩
  obtain ⟨xs,g1,g2⟩:=k1 av W ρ Kn Γ w ht hst ok hok nm
  refine ⟨xs,g1,fun aR hr=> ?_⟩
  have h2:=g2 aR hr
  have e2:cap.map (Ref.ae ρ)=((aY 0 nm p x1).1.map Xe).map (Ref.ae aR):=by
   rw [Qy p hc,<- h2,<- e1,List.map_map]
   exact List.map_congr_left fun q _=>(vw ρ q).symm
  simp only [aY,List.map_cons,List.map_nil,AV.ae,A0.ae,Cell.ae,e2]
 | .mv f agg t,args,x,r,tc,h=>by
  simp only [fJ] at h
  split at h<;>try (cases h;done)
  rename_i g aoO rs r'
  split at h<;>try (cases h;done)
  rename_i hg
  split at h<;>try (cases h;done)
  rename_i y CN hd
  cases h
  obtain ⟨rfl,rfl⟩:=hg
  obtain ⟨ys,e,hl,hs⟩:=eB hp t _ _ _ _ hd
  rw [List.append_nil] at e
  refine ⟨[_],rfl,fun av W ρ Kn Γ w ht hst ok hok nm=> ?_⟩
  obtain ⟨xs,h1,h2⟩:=jn _ _ nm (hs av W ρ Kn Γ w ht hst ok hok)
  refine ⟨xs,h1,fun aR hr=> ?_⟩
  have h3:=h2 aR hr
  have e2:rs.map (Ref.ae ρ)=((cA 0 nm (t.aU x)).1.map ajR).map (Ref.ae aR):=by
   rw [Ay,h3,<- e,List.map_map]
   exact List.map_congr_left fun q _=>(pP ρ q).symm
  simp only [aY,List.map_cons,List.map_nil,AV.ae,A0.ae,Cell.ae,e2]
 | .pair a b,args,x,r,tc,h=>by
  simp only [fJ] at h
  split at h<;>try (cases h;done)
  rename_i x1 r1 J8 f1 h1
  split at h<;>try (cases h;done)
  rename_i x2 r2 w7 f2 h2
  simp only [Option.some.injEq,Prod.mk.injEq,Bool.and_eq_true] at h
  obtain ⟨rfl,rfl,rfl,rfl,rfl⟩:=h
  obtain ⟨as,e1,k1⟩:=mS a _ _ _ _ h1
  obtain ⟨bs,e2,k2⟩:=mS b _ _ _ _ h2
  refine ⟨as++bs,by rw [e1,e2];simp,fun av W ρ Kn Γ w ht hst ok hok nm=> ?_⟩
  obtain ⟨xs,g1,g2⟩:=k1 av W ρ Kn Γ w (fun m hm=>ht m (by simp [hm])) hst ok (hok.sub fun m hm=>by simp [hm]) nm
  obtain ⟨ys,g3,g4⟩:=k2 av W ρ Kn Γ w (fun m hm=>ht m (by simp [hm])) hst ok (hok.sub fun m hm=>by simp [hm]) (nm+(aY 0 nm a x1).2.length)
  refine ⟨xs++ys,g1.append g3,fun aR hr=> ?_⟩
  have hl:=g1.length
  simp only [aY,List.map_append]
  rw [g2 aR fun i x hi=>hr i x (by rw [List.getElem?_append_left (List.getElem?_eq_some_iff.1 hi).1];exact hi),g4 aR fun i x hi=>by
   have:=hr (xs.length+i) x (by rw [List.getElem?_append_right (by omega)];simpa using hi)
   rwa [<- hl,<- Nat.add_assoc] at this]
 | .none,args,x,r,tc,h=>by
  simp only [fJ,Option.some.injEq,Prod.mk.injEq,and_true] at h
  obtain ⟨rfl,rfl,rfl⟩:=h
  exact ⟨[],rfl,fun av W ρ Kn Γ w ht hst ok hok nm=>⟨[],trivial,fun _ _=>rfl⟩⟩
where R2 {b off m:Nat} :(⟨b,off,none⟩:Addr).add m=⟨b,off+m,none⟩:=by unfold Addr.add;split<;>simp_all
theorem bH {ok:Nat->Prop} {w:World} {o:aD} {x:Loc} (h:cK ok w o x): ∃u,∃l:List u.T,o= .row u l 0:=by
 cases o<;>first|exact h.elim|(obtain ⟨rfl,_⟩:=h;exact ⟨_,_,rfl⟩)
theorem oo {h:List aD} {n:Nat} {o:aD} (ho:ai h n=some o):h[n]? =some o:=by
 unfold ai at ho
 split at ho
 ·cases ho
 ·exact ho
theorem St.aoU {ok S:Nat->Prop} {w:World} {os:List aD} {xs:List Loc} (h:bN (cK ok w) os xs) (hok: ∀b,ok b->bj w b/\ ¬S b) (hS: ∀b,S b->b<w.heap.size):
  St A6 w (fun n=>xs.getD n {}) (· <(os++ [aD.hide S]).length) (ai (os++ [aD.hide S])) w:=by
 have hl:=h.length
 have hx: ∀n o,ai (os++ [aD.hide S]) n=some o->(cK ok w o (xs.getD n {})/\ n<os.length)\/ (n=os.length/\ o= .hide S):=fun n o ho=>by
  have h1:=oo ho
  rcases Nat.lt_or_ge n os.length with h2|h2
  ·rw [List.getElem?_append_left h2] at h1
   obtain ⟨x,h3,h4⟩:=h.get n o h1
   exact .inl ⟨by simpa [h3] using h4,h2⟩
  ·rw [List.getElem?_append_right h2] at h1
   have:n- os.length=0:=by
    rcases Nat.eq_zero_or_pos (n- os.length) with h3|h3
    ·exact h3
    ·rw [List.getElem?_eq_none (by simp;omega)] at h1;cases h1
   rw [this] at h1
   simp only [List.getElem?_cons_zero,Option.some.injEq] at h1
   exact .inr ⟨by omega,h1.symm⟩
 have dS: ∀n,(ai (os++ [aD.hide S]) n).isSome=true->(xs.getD n {}).blk=Option.none/\ (xs.getD n {}).jq= []:=fun n hn=>by
  obtain ⟨o,ho⟩:=Option.isSome_iff_exists.1 hn
  rcases hx n o ho with ⟨h1,_⟩|⟨rfl,_⟩
  ·obtain ⟨u,l,rfl⟩:=bH h1
   exact h1.2.1
  ·simp [List.getD,List.getElem?_eq_none (show xs.length<=os.length by omega)]
 refine ⟨Fr.refl _ _,fun n o ho=> ?_,fun n o ho=> ?_,fun n m b hn hm hb=> ?_,fun n b hn hb=> ?_,fun b ⟨m,S',h1,h2⟩=> ?_,fun n o ho=> .inr (dS n (by rw [ho];rfl)).2⟩
 rotate_right
 ·rcases hx m _ h1 with ⟨h3,_⟩|⟨_,e⟩
  ·obtain ⟨u,l,e⟩:=bH h3
   cases e
  ·cases e
   refine ⟨hS b h2,?_⟩
   rintro ⟨n,h3,h4⟩
   exact ot (dS n h3) h4
 ·rcases hx n o ho with ⟨hg,_⟩|⟨rfl,rfl⟩
  ·obtain ⟨u,l,rfl⟩:=bH hg
   obtain ⟨_,h1,h2,h3,h4,vals,h5,h6⟩:=hg
   obtain ⟨e1,e2⟩:=kS h5
   have hfz: ∀b,ok b->dV (fun n=>xs.getD n {}) (ai (os++ [aD.hide S])) w b:=fun b hb=>⟨(hok b hb).1,by
    rintro (⟨m,g1,g2⟩|⟨m,S',g1,g2⟩)
    ·exact ot (dS m g1) g2
    ·rcases hx m _ g1 with ⟨g3,_⟩|⟨_,e⟩
     ·obtain ⟨u,l,e⟩:=bH g3
      cases e
     ·cases e;exact (hok b hb).2 g2⟩
   refine ⟨h2,h3,h4,uK vals,fun i v hv=> ?_,fun q u' l' hq=> ?_,fun _=>h1.1,fun h=>absurd rfl h⟩
   ·rw [e1] at hv
    obtain ⟨a,g1,g2,g3⟩:=h6 i v hv
    exact ⟨a,g1,g2,fun _=>hfz _ g3⟩
   ·exact (e2 q u' l' hq).weak fun b hb=>⟨hfz b hb,fun h=>by cases h⟩
  ·exact (dS _ (by rw [ho];rfl)).1
 ·rcases hx n o ho with ⟨hg,hlt⟩|⟨rfl,rfl⟩
  ·obtain ⟨u,l,rfl⟩:=bH hg
   exact ⟨by simp;omega,trivial⟩
  ·exact ⟨by simp,trivial⟩
 ·exact (ot (dS n hn) hb).elim
 ·exact (ot (dS n hn) hb).elim
theorem BV {h:List aD} : ∀(p:mG) (l:List A0) (y:p.ty.T) (r:List A0),xp (ai h) p l=some (y,r)->
  ∃ys,l=ys++r/\ ∀av W ρ Kn w,St av W ρ Kn (ai h) w-> ∀ok,(∀b,dV ρ (ai h) w b->ok b)->(∀m,(ai h m).isSome=true-> ∀b,(ρ m).has b->bj w b->ok b)-> ∀nm,∃xs,bN (cK ok w) (aY 0 nm p y).2 xs/\
   ∀aR:Env,(∀i x,xs[i]? =some x->aR (nm+i)=x)->ys.map (A0.ae ρ)=(aY 0 nm p y).1.map (A0.ae aR)
 | .one t,l,y,r,hd=>by
  simp only [xp] at hd
  split at hd<;>try (cases hd;done)
  rename_i c r1
  split at hd<;>try (cases hd;done)
  rename_i x tc h1
  cases hd
  obtain ⟨ys,e,hl,hs⟩:=eB _ t _ _ _ _ h1
  rw [List.append_nil] at e
  subst e
  refine ⟨[_],rfl,fun av W ρ Kn w hst ok hf ho nm=> ?_⟩
  obtain ⟨xs,g1,g2⟩:=jn (ok:=ok) _ _ nm (hs av W ρ Kn _ w (fun _ _=>rfl) hst ok ⟨hf,fun m _=>ho m⟩)
  refine ⟨xs,g1,fun aR hr=> ?_⟩
  have:=g2 aR hr
  simp only [aY,List.map_cons,List.map_nil]
  simp only [List.map_cons,List.map_nil] at this
  obtain ⟨c',Jj,e⟩: ∃c',(cA 0 nm (t.aU y)).1= [c']/\ c'.ae aR=c.ae ρ:=by
   match hm:(cA 0 nm (t.aU y)).1,this with
   | [c'],h=>simp only [List.map_cons,List.map_nil,List.cons.injEq,and_true] at h;exact ⟨c',rfl,h⟩
   | [],h=>simp at h
   |_::_::_,h=>simp at h
  rw [Jj]
  simp only [wW,A0.ae,e]
 | .agg t,l,y,r,hd=>by
  simp only [xp] at hd
  split at hd<;>try (cases hd;done)
  rename_i cs r1
  split at hd<;>try (cases hd;done)
  rename_i x tc h1
  cases hd
  obtain ⟨ys,e,hl,hs⟩:=eB _ t _ _ _ _ h1
  rw [List.append_nil] at e
  subst e
  refine ⟨[_],rfl,fun av W ρ Kn w hst ok hf ho nm=> ?_⟩
  obtain ⟨xs,g1,g2⟩:=jn (ok:=ok) _ _ nm (hs av W ρ Kn _ w (fun _ _=>rfl) hst ok ⟨hf,fun m _=>ho m⟩)
  refine ⟨xs,g1,fun aR hr=> ?_⟩
  have:=g2 aR hr
  simp only [aY,wW,List.map_cons,List.map_nil,A0.ae,this]
 | .ptr t,l,y,r,hd=>by simp [xp] at hd
 | .jO f p,l,y,r,hd=>by simp [xp] at hd
 | .mv f agg t,l,y,r,hd=>by simp [xp] at hd
 | .pair a b,l,y,r,hd=>by
  simp only [xp] at hd
  split at hd<;>try (cases hd;done)
  rename_i x1 r1 h1
  split at hd<;>try (cases hd;done)
  rename_i x2 r2 h2
  cases hd
  obtain ⟨ys,e1,k1⟩:=BV a _ _ _ h1
  obtain ⟨zs,e2,k2⟩:=BV b _ _ _ h2
  refine ⟨ys++zs,by rw [e1,e2];simp,fun av W ρ Kn w hst ok hf ho nm=> ?_⟩
  obtain ⟨xs,g1,g2⟩:=k1 av W ρ Kn w hst ok hf ho nm
  obtain ⟨us,g3,g4⟩:=k2 av W ρ Kn w hst ok hf ho (nm+(aY 0 nm a x1).2.length)
  refine ⟨xs++us,g1.append g3,fun aR hr=> ?_⟩
  have hl:=g1.length
  simp only [aY,List.map_append]
  rw [g2 aR fun i x hi=>hr i x (by rw [List.getElem?_append_left (List.getElem?_eq_some_iff.1 hi).1];exact hi),g4 aR fun i x hi=>by
   have:=hr (xs.length+i) x (by rw [List.getElem?_append_right (by omega)];simpa using hi)
   rwa [<- hl,<- Nat.add_assoc] at this]
 | .none,l,y,r,hd=>by
  simp only [xp,Option.some.injEq,Prod.mk.injEq] at hd
  obtain ⟨rfl,rfl⟩:=hd
  exact ⟨[],rfl,fun av W ρ Kn w hst ok hf ho nm=>⟨[],trivial,fun _ _=>rfl⟩⟩
theorem St.alA {av:fG} {W w:World} {ρ:Env} {Kn:Nat->Prop} {Γ:HP} {ok:Nat->Prop} {nm:Nat} {os:List aD} {xs:List Loc} {v:AV} {tc G:List Nat} (h:St av W ρ Kn Γ w) (hn: ∀i,i<os.length-> ¬Kn (nm+i)) (hg:bN (cK ok w) os xs)
  (hok: ∀b,ok b->bj w b/\ ¬HI Γ b/\ ∀m,m∉G->(Γ m).isSome=true-> ¬(ρ m).has b):
  ∃ρ',(∀m,Kn m->ρ' m=ρ m)/\ (∀i x,xs[i]? =some x->ρ' (nm+i)=x)/\ St av W ρ' (oI Kn nm {val:=v,fresh:=os,writes:=G.map fun n=>(n,.gone),aF:=tc}) (bV {val:=v,fresh:=os,writes:=G.map fun n=>(n,.gone),aF:=tc} nm Γ) w:=by
 have hlen:=hg.length
 let ρ':Env:=fun m=>if nm<=m/\ m<nm+os.length then xs.getD (m- nm) {} else ρ m
 have hold: ∀m,Kn m->ρ' m=ρ m:=fun m hm=>by
  simp only [ρ']
  rw [if_neg]
  rintro ⟨h2,h3⟩
  exact hn (m- nm) (by omega) (by rw [show nm+(m- nm)=m by omega];exact hm)
 have hnew: ∀i x,xs[i]? =some x->ρ' (nm+i)=x:=fun i x hi=>by
  have:=(List.getElem?_eq_some_iff.1 hi).1
  simp only [ρ']
  rw [if_pos (by omega),show nm+i- nm=i by omega]
  simp [hi]
 have bQ: ∀m o,bV {val:=v,fresh:=os,writes:=G.map fun n=>(n,.gone),aF:=tc} nm Γ m=some o->(∃i x,m=nm+i/\ i<os.length/\ xs[i]? =some x/\ cK ok w o x)\/ (Γ m=some o/\ m∉G/\ Kn m):=by
  intro m o ho
  simp only [bV] at ho
  split at ho
  ·rename_i hc
   have hlt:m- nm<os.length:=by omega
   rw [List.getElem?_eq_getElem hlt] at ho
   obtain ⟨x,h1,h2⟩:=hg.get (m- nm) _ (List.getElem?_eq_getElem hlt)
   obtain ⟨u,l,e⟩:=bH h2
   rw [e] at ho h2
   simp only [live,Option.some.injEq] at ho
   subst ho
   exact .inl ⟨m- nm,x,by omega,hlt,h1,h2⟩
  ·rw [LL] at ho
   by_cases hm:m∈G
   ·rw [if_pos hm] at ho;simp [live] at ho
   ·rw [if_neg hm] at ho
    exact .inr ⟨ho,hm,(h.kn m o ho).1⟩
 have dS: ∀m b,(bV {val:=v,fresh:=os,writes:=G.map fun n=>(n,.gone),aF:=tc} nm Γ m).isSome=true->(ρ' m).has b->(Γ m).isSome=true/\ m∉G/\ (ρ m).has b:=fun m b h1 h2=>by
  obtain ⟨o,ho⟩:=Option.isSome_iff_exists.1 h1
  rcases bQ m o ho with ⟨i,x,rfl,_,h3,h4⟩|⟨h3,h4,h5⟩
  ·rw [hnew i x h3] at h2
   obtain ⟨u,l,rfl⟩:=bH h4
   exact (ot h4.2.1 h2).elim
  ·rw [hold m h5] at h2
   exact ⟨by rw [h3];rfl,h4,h2⟩
 have z6: ∀b,HI (bV {val:=v,fresh:=os,writes:=G.map fun n=>(n,.gone),aF:=tc} nm Γ) b->HI Γ b:=fun b ⟨m,S,h1,h2⟩=>by
  rcases bQ m _ h1 with ⟨i,x,_,_,_,h4⟩|⟨h3,_,_⟩
  ·obtain ⟨u,l,e⟩:=bH h4
   cases e
  ·exact ⟨m,S,h3,h2⟩
 have hfz: ∀b,dV ρ Γ w b->dV ρ' (bV {val:=v,fresh:=os,writes:=G.map fun n=>(n,.gone),aF:=tc} nm Γ) w b/\ w.heap[b]? =w.heap[b]? :=fun b hb=>by
  refine ⟨⟨hb.1,?_⟩,rfl⟩
  rintro (⟨m,h1,h2⟩|hh)
  ·obtain ⟨h3,_,h4⟩:=dS m b h1 h2
   exact hb.2 (.inl ⟨m,h3,h4⟩)
  ·exact hb.2 (.inr (z6 b hh))
 have VJ: ∀b,ok b->dV ρ' (bV {val:=v,fresh:=os,writes:=G.map fun n=>(n,.gone),aF:=tc} nm Γ) w b:=fun b hb=>by
  obtain ⟨k1,k2,k3⟩:=hok b hb
  refine ⟨k1,?_⟩
  rintro (⟨m,h1,h2⟩|hh)
  ·obtain ⟨h3,h4,h5⟩:=dS m b h1 h2
   exact k3 m h4 h3 h5
  ·exact k2 (z6 b hh)
 refine ⟨ρ',hold,hnew,h.fr,fun m o ho=> ?_,fun m o ho=> ?_,fun m m' b hm hm' gy dR=> ?_,fun m b hm hb=> ?_,fun b hh=> ?_,fun m o ho=> ?_⟩
 rotate_right
 ·rcases bQ m o ho with ⟨i,x,rfl,hi,h3,h4⟩|⟨h3,_,h5⟩
  ·obtain ⟨u,l,rfl⟩:=bH h4
   exact .inr (by rw [hnew i x h3];exact h4.2.1.2)
  ·rw [hold m h5];exact h.wK m o h3
 ·rcases bQ m o ho with ⟨i,x,rfl,hi,h3,h4⟩|⟨h3,_,h5⟩
  ·obtain ⟨u,l,rfl⟩:=bH h4
   obtain ⟨_,g1,g2,g3,g4,vals,g5,g6⟩:=h4
   obtain ⟨e1,e2⟩:=kS g5
   rw [bp,hnew i x h3]
   refine ⟨g2,g3,g4,uK vals,fun i v hv=> ?_,fun q u' l' hq=> ?_,fun _=>g1.1,fun h=>absurd rfl h⟩
   ·rw [e1] at hv
    obtain ⟨a,k1,k2,k3⟩:=g6 i v hv
    exact ⟨a,k1,k2,fun _=>VJ _ k3⟩
   ·exact (e2 q u' l' hq).weak fun b hb=>⟨VJ b hb,fun h=>by cases h⟩
  ·exact cx (Kn:=Kn) (h.at_ m o h3) hold h5 (h.kn m o h3).2 hfz (fun _ _ h=>h) fun _ _=>rfl
 ·rcases bQ m o ho with ⟨i,x,rfl,hi,h3,h4⟩|⟨h3,_,h5⟩
  ·obtain ⟨u,l,rfl⟩:=bH h4
   exact ⟨.inr (by simp only [];omega),trivial⟩
  ·exact ⟨.inl h5,aD.aT (fun _=> .inl) o (h.kn m o h3).2⟩
 ·obtain ⟨h1,_,h2⟩:=dS m b hm gy
  obtain ⟨h3,_,h4⟩:=dS m' b hm' dR
  exact h.dU m m' b h1 h3 h2 h4
 ·obtain ⟨h1,_,h2⟩:=dS m b hm hb
  exact h.lC m b h1 h2
 ·obtain ⟨h1,h2⟩:=h.ru b (z6 b hh)
  refine ⟨h1,?_⟩
  rintro ⟨m,h3,h4⟩
  obtain ⟨h5,_,h6⟩:=dS m b h3 h4
  exact h2 ⟨m,h5,h6⟩
theorem Z8 {v:AV} {l:List A0} (h:lU v=some l):kp l=v:=by
 cases v with
 |v a=>simp only [lU,Option.some.injEq] at h;subst h;rfl
 |pT l'=>
  simp only [lU] at h
  split at h
  ·cases h
  ·rename_i hne
   cases h
   match l,hne with
   | [],_=>rfl
   | [a],hne=>exact absurd rfl (hne a)
   |_::_::_,_=>rfl
 |dead=>simp [lU] at h
theorem Ag {hp:HP} : ∀ {l:List Nat} {n:Nat},n∈yj hp l↔n∈l/\ Tj hp n=true
 | [],n=>by simp [yj]
 |m::r,n=>by
  simp only [yj]
  split
  ·rename_i h
   simp only [List.mem_cons,Ag (l:=r)]
   constructor
   ·rintro (rfl|⟨h1,h2⟩)
    ·exact ⟨.inl rfl,h⟩
    ·exact ⟨.inr h1,h2⟩
   ·rintro ⟨rfl|h1,h2⟩
    ·exact .inl rfl
    ·exact .inr ⟨h1,h2⟩
  ·rename_i h
   simp only [List.mem_cons,Ag (l:=r)]
   constructor
   ·rintro ⟨h1,h2⟩;exact ⟨.inr h1,h2⟩
   ·rintro ⟨rfl|h1,h2⟩
    ·exact absurd h2 h
    ·exact ⟨h1,h2⟩
section
variable {P:Program} {tt:List (Nat×TI)} {specs:List (Nat×Spec)}
theorem aq.fnR (hT:di P tt) (hS:aj P specs) (hm:P.follows .mixedOrders=true) {f:FuncId} {fn:Func} (hf:P.funcs[f]? =some fn) (hn:cZ (ids (aC fn))=true) (p r:mG) (pre:p.ty.T->Prop) (g:p.ty.T->r.ty.T)
  (h: ∀x,pre x-> ∀S,∃lp its,aH P cf its/\ aK P cf (aC fn) lp/\ Vc (JD ⟨tt,specs,cf,lp,[],its⟩ fn (cy p x) (da p x++ [.hide S]) (acS r S (· =g x)))):aq P f (JE ⟨p,r,pre,g⟩):=by
 intro X args hp nm k hs
 unfold JE at hs
 split at hs
 rotate_left
 ·exact hs.elim
 rename_i x tc b hd
 obtain ⟨rfl,hpre,hk⟩:=bh hs
 have hk:=hk _ rfl
 obtain ⟨as,e,hargs⟩:=mS p _ _ _ _ hd
 rw [List.append_nil] at e
 subst e
 refine ⟨_,⟨fun q hq=> ?_,?_⟩,hk⟩
 ·obtain ⟨n,mD,rfl⟩:=List.mem_map.1 hq
  have:=(Ag.1 mD).2
  unfold Tj at this
  intro h0
  simp only [h0] at this
  cases this
 intro av W ρ Kn Γ w _ _ ht hfr hst
 obtain ⟨S,hSd⟩: ∃S:Nat->Prop,S=fun b=>HI Γ b\/ ∃m,m∉yj hp tc/\ (Γ m).isSome=true/\ (ρ m).has b:=⟨_,rfl⟩
 have aun: ∀b,S b->b<w.heap.size:=fun b hb=>by
  rw [hSd] at hb
  rcases hb with hb|⟨m,_,h1,h2⟩
  ·exact (hst.ru b hb).1
  ·exact hst.lt m b h1 h2
 have hok:nV (fun b=>bj w b/\ ¬S b) ρ Γ w tc:=by
  refine ⟨fun b hb=>⟨hb.1,fun hs=> ?_⟩,fun m hm h1 b hb hc=>⟨hc,fun hs=> ?_⟩⟩
  ·rw [hSd] at hs
   rcases hs with hs|⟨m,_,h1,h2⟩
   ·exact hb.2 (.inr hs)
   ·exact hb.2 (.inl ⟨m,h1,h2⟩)
  ·rw [hSd] at hs
   rcases hs with hs|⟨m',h2,h3,h4⟩
   ·exact (hst.ru b hs).2 ⟨m,h1,hb⟩
   ·have:=hst.dU m' m b h3 h1 h4 hb
    subst this
    refine h2 (Ag.2 ⟨hm,?_⟩)
    obtain ⟨o,ho⟩:=Option.isSome_iff_exists.1 h1
    have aQ:=hst.at_ m' o ho
    have hb:(ρ m').blk=some b\/ ∃g,o= .set g:=(hst.wK m' o ho).elim .inr fun h=> .inl ((Lm h).1 hb)
    rw [ht m' hm] at ho
    unfold Tj
    rw [ho]
    rcases hb with hb|⟨g,rfl⟩
    rotate_left
    ·rfl
    cases o with
    |cells cs e=>rfl
    |row t l rk=>
     obtain ⟨_,_,_,sub,_,_,h5,_⟩:=aQ
     by_cases e:rk=0
     ·rw [h5 e] at hb;cases hb
     ·simpa using e
    |alias=>rfl
    |gone=>exact aQ.elim
    |loop r' s j=>
     obtain ⟨b',hb',hh⟩:=aQ
     rw [hb] at hb';cases hb'
     obtain ⟨_,_,_,h6⟩:=hc
     rw [hh] at h6;cases h6
    |cg=>rw [aQ.1] at hb;cases hb
    |hide=>rw [show (ρ m').blk=Option.none from aQ] at hb;cases hb
    |map ka va k v l=>
     obtain ⟨_,_,b',es,pB,hb',hh,_⟩:=aQ
     rw [hb] at hb';cases hb'
     obtain ⟨_,_,_,h6⟩:=hc
     rw [hh] at h6;cases h6
    |Pp ka k u l c q=>
     obtain ⟨_,_,_,b',es,pB,hb',hh,_⟩:=aQ
     rw [hb] at hb';cases hb'
     obtain ⟨_,_,_,h6⟩:=hc
     rw [hh] at h6;cases h6
    |set=>rfl
    |gv=>rw [aQ.1] at hb;cases hb
    |dp=>rw [aQ.1] at hb;cases hb
    |nv=>rw [aQ.1] at hb;cases hb
    |rc=>rw [aQ.1] at hb;cases hb
    |hmap es pB=>
     obtain ⟨b',hb',hh⟩:=aQ
     rw [hb] at hb';cases hb'
     obtain ⟨_,_,_,h6⟩:=hc
     rw [hh] at h6;cases h6
    |V2 g c es pB ka k u l cur=>
     obtain ⟨_,_,_,b',_,_,_,hb',hh,_⟩:=aQ
     rw [hb] at hb';cases hb'
     obtain ⟨_,_,_,h6⟩:=hc
     rw [hh] at h6;cases h6
 obtain ⟨xs,hg,hc⟩:=hargs av W ρ Kn Γ w ht hst _ hok 0
 have hb:=St.aoU hg (fun b hb=>hb) aun
 obtain ⟨lp,its,hi,hl,hfn⟩:=h x hpre S
 have hcs:=hc (fun n=>xs.getD n {}) fun i y hy=>by simp [hy]
 have key:=jN (ctx:=⟨tt,specs,cf,lp,[],its⟩) hT ⟨hS,o9.nil P,hi⟩ (cf.ok A6 w) hm hf (fun c hc=>by
  have:aC fn=c:=by unfold aC;rw [hc]
  subst this
  exact Ae (ef hn) hl) hfn.h (fun y hy=>by
   obtain ⟨a,ha,rfl⟩:=List.mem_map.1 hy
   exact A0.aT (fun m hm=>by simp [da] at hm ⊢;omega) a (jc 0 p x 0 a ha)) hb
 have ea:(cy p x).map (AV.ae fun n=>xs.getD n {})=args.map (AV.ae ρ):=by
  rw [hcs];simp [cy,AV.ae,Function.comp_def]
 rw [ea] at key
 refine key.mono ?_
 rintro e w' ⟨st,aR,v,rfl,hv,hR,pF⟩
 unfold acS at hR
 split at hR
 rotate_left
 ·exact hR.elim
 rename_i l Aa
 split at hR
 rotate_left
 ·exact hR.elim
 rename_i y hdr
 obtain ⟨rfl,nh,hh⟩:=Ht hR
 obtain ⟨ys,e1,apx⟩:=BV r _ _ _ hdr
 rw [List.append_nil] at e1
 subst e1
 obtain ⟨us,hgu,hcu⟩:=apx A6 w aR _ w' pF (fun b=>bj w' b/\ ¬S b) (fun b hb=>⟨hb.1,fun hs=>hb.2 (.inr ⟨nh,S,hh,hs⟩)⟩) (fun m h1 b h2 h3=>⟨h3,fun hs=>(pF.ru b ⟨nh,S,hh,hs⟩).2 ⟨m,h1,h2⟩⟩) nm
 obtain ⟨ρ',r1,r2,r3⟩:=(hst.called pF.fr).alA (v:=kp (aY 0 nm r (g x)).1) (tc:=tc) (G:=yj hp tc) (nm:=nm) hfr hgu (fun b hb=>by
  refine ⟨hb.1,fun h1=>hb.2 (by rw [hSd];exact .inl h1),fun m h1 h2 h3=>hb.2 (by rw [hSd];exact .inr ⟨m,h1,h2,h3⟩)⟩)
 refine ⟨ρ',?_,r1,?_,r3⟩
 ·congr 1
  rw [<- Z8 Aa]
  exact AB (hcu ρ' r2)
 ·exact J3 fun c hc=>A0.aT (fun m hm=> .inr (by simpa using hm)) c (jc 0 r (g x) nm c hc)
end
def zD (p:mG) (s1 s2:Spec):Spec:=fun X args hp nm k=>match fJ hp p args with
 |some _=>s1 X args hp nm k
 |none=>s2 X args hp nm k
theorem uT {P:Program} {f:FuncId} {p:mG} {s1 s2:Spec} (h1:aq P f s1) (h2:aq P f s2):aq P f (zD p s1 s2):=by
 intro X args hp nm k h
 unfold zD at h
 split at h
 ·exact h1 X args hp nm k h
 ·exact h2 X args hp nm k h
def ahi:cP:=fun _ _ _ _=>False
theorem adW {P:Program} {X:Addr->Value->Prop} {f:FuncId} :gM P X f ahi:=fun _ _ _ _ h=>h.elim
end Go.Ev
