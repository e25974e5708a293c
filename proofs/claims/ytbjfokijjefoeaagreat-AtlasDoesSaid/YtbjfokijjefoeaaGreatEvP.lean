/- Proofs of printed conditions: how the parts are joined. -/
import Derived.Test.YtbjfokijjefoeaaGreatEvL
noncomputable section
set_option linter.unusedSectionVars false
set_option linter.unusedVariables false
set_option linter.unusedSimpArgs false
namespace Go.Ev
abbrev I2:Type:=Int×Int
abbrev I3:Type:=Int×(Int×Int)
abbrev I6:Type:=(Int×Int)×((Int×Int)×Int×Int)
abbrev iR:Int×Int:=((0:Int),(0:Int))
abbrev rX:Int×(Int×Int):=((0:Int),(0:Int),(0:Int))
abbrev aW:(Int×Int)×((Int×Int)×Int×Int):=(((0:Int),(0:Int)),((0:Int),(0:Int)),(0:Int),(0:Int))
abbrev yi:Ty:= .int .i64
abbrev aS:Ty:=Ty.prod (Ty.int IntKind.i64) (Ty.int IntKind.i64)
abbrev cq:Ty:=Ty.prod (Ty.int IntKind.i64) (Ty.prod (Ty.int IntKind.i64) (Ty.int IntKind.i64))
abbrev aV:Ty:=Ty.prod (Ty.prod (Ty.int IntKind.i64) (Ty.int IntKind.i64)) (Ty.prod (Ty.prod (Ty.int IntKind.i64) (Ty.int IntKind.i64)) (Ty.prod (Ty.int IntKind.i64) (Ty.int IntKind.i64)))
def Qa (ps:List Nat):Code->Option (Code×Code)
 | .seq a b=>match Qa ps a with|some q=>some q|none=>Qa ps b
 | .cond _ a b=>match Qa ps a with|some q=>some q|none=>Qa ps b
 | .loop c=>Qa ps c
 | .block _ c=>Qa ps c
 | .rangeFunc _ qs a b=>if qs.toList=ps then some (a,b) else none
 |_=>none
def rfA (ps:List Nat) (c:Code):Code:=match Qa ps c with|some q=>q.1|none=> .skip
def rfB (ps:List Nat) (c:Code):Code:=match Qa ps c with|some q=>q.2|none=> .skip
def ai {α β:Type} (a:α) (f:α->β):β:=f a
def aA {α:Type} (a:α) (f:α->Prop):Prop:=f a
theorem X1 {α:Type} {Q:α->Prop} {p:Prop} [Decidable p] {x y:α} {t1 t2:Prop} (hq:Q (if p then x else y)) (h1:p->Q x->t1) (h2: ¬p->Q y->t2):cB (decide p) t1 t2:=by
 by_cases h:p
 ·rw [if_pos h] at hq;rw [decide_eq_true h];exact h1 h hq
 ·rw [if_neg h] at hq;rw [decide_eq_false h];exact h2 h hq
theorem Mx {α:Type} {Q:α->Prop} {b:Bool} {x y:α} {t1 t2:Prop} (hq:Q (if b=true then x else y)) (h1:b=true->Q x->t1) (h2: ¬b=true->Q y->t2):cB b t1 t2:=by
 cases b with
 |true=>exact h1 rfl hq
 |false=>exact h2 (by simp) hq
theorem sF {b:Bool} {t:Prop} (h:b=true) (ht:t):ob b t:=by subst h;exact ht
theorem cX {b c:Bool} (h1:b=true) (h2:c=true):(b&&c)=true:=by rw [h1,h2];rfl
theorem DY {α β:Type} {Q:β->Prop} {g:α} {F:α->β} {P t:α->Prop} (hp:aA g P) (hq:Q (ai g F)) (h: ∀y,P y->Q (F y)->t y): ∀y,y=g->t y:=by
 rintro y rfl;exact h _ hp hq
theorem G5 {α β:Type} {Q:β->Prop} {g:α} {F:α->β} {t:α->Prop} (hq:Q (ai g F)) (h: ∀y,Q (F y)->t y): ∀y,y=g->t y:=by
 rintro y rfl;exact h _ hq
theorem ahw {A B β:Type} {Q:β->Prop} {r:A⊕B} {F:A->β} {G:B->β} {P:A->Prop} {P':B->Prop} {t:A->Prop} {t':B->Prop} (hp:cS r P P') (hq:Q (Sum.elim F G r)) (h1: ∀a,P a->Q (F a)->t a) (h2: ∀b,P' b->Q (G b)->t' b):cS r t t':=by
 cases r with
 |inl a=>exact h1 a hp hq
 |inr b=>exact h2 b hp hq
theorem l6 {π:List Src} {st st':AS} (h1:Ja π st.tmps st'.tmps) (h2:uW π st.heap π st'.heap) (h3:kB (wW π st'.heap)=true):vn st st':=⟨π,h1,h2,h3⟩
theorem aE {π:List Src} {h:List aI} {m:Nat} {o p:aI} (h1:aq h m=some p) (h2:gg π o=some p):C7 π h (.same m) o:=⟨p,h1,h2⟩
theorem ack {π:List Src} {h:List aI} {t:Ty} :C7 π h .nil (.row t [] 2):=⟨t,2,rfl,by decide⟩
theorem ae.bS {P:Program} {tt:List (Nat×TI)} {specs:List (Nat×Spec)} {X:Addr->Value->Prop} {lp:List (Nat×bR)} {dL:List (Nat×jM)} (h:ae P specs) (hi:av P X dL):qx P ⟨tt,specs,X,lp,[],dL⟩:=⟨h,y9.nil P,hi⟩
structure Vc (p:Prop):Prop where
 h:p
theorem Vc.eq {p q:Prop} (e:p=q) (h:q):Vc p:=⟨e▸h⟩
def Jd:List aI->Nat->Nat->Nat
 | [],_,b=>b
 | .gU _ _::r,i,_=>Jd r (i+1) (i+1)
 |_::r,i,b=>Jd r (i+1) b
def F1 (l:List (Nat×bR)):bR:=fun st K=>match aG l (Jd st.heap 0 0) with
 |some sp=>sp st K
 |none=>False
def F5 (i:Nat) (f:Loop->bR):bR:=fun st K=>match st.heap[i]? with
 |some (.loop r _ _)=>f r st K
 |_=>False
def N7 (i:Nat) (f:Env->bR):bR:=fun st K=>match st.heap[i]? with
 |some (.gU ρ _)=>f ρ st K
 |_=>False
structure Mm (ctx:Ctx) (c:Code) (id:Nat) (sp:bR):Prop where
 h: ∀st K,sp st K->dx ctx c st (mA id (lJ K))
def acP (ctx:Ctx) (c:Code) (id:Nat) {T:Type} (sp:T->bR):bR:=fun st K=> ∃t:T,Mm ctx c id (sp t)/\ sp t st K
def ysE (n:Nat) (tmps:List AV) (r:Loop) (jD:Env) (ps:List Nat) (co:Ctx) (fn:Func):List (Nat×Spec):= [(n,acG iE n tmps r jD ps.toArray (dx co (rfA ps (bV fn))) (dx co (rfB ps (bV fn))))]
def FY (ctx:Ctx) (c:Code) (id:Nat) (sp:bR):Prop:= ∀st K,sp st K->Vc (dx ctx c st (mA id (lJ K)))
section
variable {ctx:Ctx} {c:Code} {id:Nat}
theorem FY.nil:FY ctx c id (F1 []):=fun _ _ h=>h.elim
theorem FY.cons {n:Nat} {sp:bR} {l:List (Nat×bR)} (h:FY ctx c id sp) (hl:FY ctx c id (F1 l)):FY ctx c id (F1 ((n,sp)::l)):=fun st K hk=>by
 unfold F1 aG at hk
 by_cases e:n=Jd st.heap 0 0
 ·rw [if_pos e] at hk;exact h st K hk
 ·rw [if_neg e] at hk;exact hl st K hk
theorem FY.F5 {i:Nat} {f:Loop->bR} (h: ∀r,FY ctx c id (f r)):FY ctx c id (F5 i f):=fun st K hk=>by
 unfold Ev.F5 at hk
 split at hk
 ·exact h _ st K hk
 ·exact hk.elim
theorem FY.N7 {i:Nat} {f:Env->bR} (h: ∀r,FY ctx c id (f r)):FY ctx c id (N7 i f):=fun st K hk=>by
 unfold Ev.N7 at hk
 split at hk
 ·exact h _ st K hk
 ·exact hk.elim
theorem FY.cert {T:Type} {sp:T->bR} :FY ctx c id (acP ctx c id sp):=fun st K ⟨_,h,hs⟩=>⟨h.h st K hs⟩
theorem FY.adF {sp:bR} (h:FY ctx c id sp):Mm ctx c id sp:=⟨fun st K hs=>(h st K hs).h⟩
end
section
variable {P:Program} {tt:List (Nat×TI)} {specs:List (Nat×Spec)}
theorem ah.ahA (hT:aU P tt) (hS:ae P specs) (hm:P.follows .mixedOrders=true) {n:FuncId} {fn:Func} (hf:P.funcs[n]? =some fn) (hn:fS (ids (bV fn))=true) (p r:qw) (pre:p.ty.T->Prop) (f:p.ty.T->r.ty.T) (hres:r.res=true)
  (h: ∀x,pre x-> ∃lp dL,av P iE dL/\ au P iE (bV fn) lp/\ Vc (ML ⟨tt,specs,iE,lp,[],dL⟩ fn (gB p x) (gC p x) (S5 r (· =f x)))):ah P n (aj ⟨p,r,pre,f⟩):=
 ah.fnT (s:=⟨p,r,pre,f⟩) hT hS hm hf hn hres fun x hx=>by
  obtain ⟨lp,dL,h1,h2,h3⟩:=h x hx
  exact ⟨lp,dL,h1,h2,h3.h⟩
theorem au.acS (hT:aU P tt) {X:Addr->Value->Prop} {lp:List (Nat×bR)} {ys:List (Nat×Spec)} {dL:List (Nat×jM)} (hC:qx P ⟨tt,specs,X,lp,ys,dL⟩) (hm:P.follows .mixedOrders=true) {c b:Code} {id:Nat} {sp:bR} (hl:au P X c lp) (hn':fS (ids c)=true) (hb:bx id c=some b)
  (h: ∀st K,sp st K->Vc (dx ⟨tt,specs,X,lp,ys,dL⟩ b st (mA id (lJ K)))):au P X c ((id,sp)::lp):=au.cons hT hC hm hl hn' hb fun st K hk=>(h st K hk).h
theorem au.afj (hT:aU P tt) {X:Addr->Value->Prop} {lp:List (Nat×bR)} {ys:List (Nat×Spec)} {dL:List (Nat×jM)} (hC:qx P ⟨tt,specs,X,lp,ys,dL⟩) (hm:P.follows .mixedOrders=true) {c b:Code} {id:Nat} {sp:bR} (hl:au P X c lp) (hn':fS (ids c)=true) (hb:bx id c=some b)
  (h:FY ⟨tt,specs,X,lp,ys,dL⟩ b id sp):au P X c ((id,sp)::lp):=au.cons hT hC hm hl hn' hb fun st K hk=>(h st K hk).h
theorem zy {S R:Type} [Inhabited R] {ctx:Ctx} {c:Code} {id:Nat} {tm:S->AS} {step:S->S⊕R} {pre:S->Prop} {out:R->(Exit->AS->Prop)->Prop}
  (hr: ∀s K KN,pre s->oT tm out K KN (step s)->Vc (dx ctx c (tm s) (KB id K KN))) (st:AS) (K:Exit->AS->Prop) (h:G6 tm step pre out st K):Vc (dx ctx (.loop c) st (mA id (lJ K))):=⟨Wb (fun s K KN h1 h2=>(hr s K KN h1 h2).h) st K h⟩
end
end Go.Ev
namespace Go.Ev
open Go.RowKit
def Ng (hp:HP) (n:Nat):Bool:=match hp n with
 |some (.row _ _ rk)=>rk !=0
 |some (.alias _ _ _)=>true
 |some (.cells _ _)=>true
 |some (.set _)=>true
 |_=>false
def v9 (hp:HP):List Nat->List Nat
 | []=> []
 |n::r=>if Ng hp n then n::v9 hp r else v9 hp r
def nt (s:cC):Spec:=fun _ args hp nm k=>match oB hp s.p args with
 |some (x,[],tc,b)=>ob b (s.pre x/\ ∀y,y=s.f x->k {val:=jJ (aT 0 nm s.r y).1,fresh:=(aT 0 nm s.r y).2,writes:=(v9 hp tc).map fun n=>(n,.gone),aC:=tc})
 |_=>False
def vC (hp:HP):(p:qw)->List A0->Option (p.ty.T×List A0)
 | .one t,l=>match l with
  | .one c::r=>match b7 hp t [c] with
   |some (y,[],_)=>some (y,r)
   |_=>none
  |_=>none
 | .agg t,l=>match l with
  | .agg cs::r=>match b7 hp t cs with
   |some (y,[],_)=>some (y,r)
   |_=>none
  |_=>none
 | .ptr _,_=>none
 | .mB _ _,_=>none
 | .mv _ _ _,_=>none
 | .pair a b,l=>match vC hp a l with
  |some (x,r)=>match vC hp b r with
   |some (y,r')=>some ((x,y),r')
   |none=>none
  |none=>none
 | .none,l=>some (false,l)
def MO (S:Nat->Prop) (K:Prop):List aI->Prop
 | []=>False
 |o::r=>match o with
  | .cK S'=>S'=S/\ K
  |_=>MO S K r
def yK (r:qw) (S:Nat->Prop) (Q:r.ty.T->Prop) (v:AV) (st:AS):Prop:=match lK v with
 |some l=>match vC (aq st.heap) r l with
  |some (y,[])=>MO S (Q y) st.heap
  |_=>False
 |none=>False
theorem DM {S:Nat->Prop} {K:Prop} : ∀ {h:List aI},MO S K h->K/\ ∃n,aq h n=some (.cK S)
 | [],h=>h.elim
 |o::r,h=>by
  have main:MO S K r->K/\ ∃n,aq (o::r) n=some (.cK S):=fun h=>by
   obtain ⟨h1,n,h2⟩:=DM h
   exact ⟨h1,n+1,by simpa [aq] using h2⟩
  cases o with
  |cK S'=>obtain ⟨rfl,h⟩:=h;exact ⟨h,0,by simp [aq]⟩
  |_=>exact main h
def fP (ok:Nat->Prop) (w:World):aI->Loc->Prop
 | .row u l rk,x=>rk=0/\ (x.bq=none/\ x.bW= [])/\ x.len=l.length/\ x.es=u.size/\ l.length<=x.cap/\ mE w ok x.base u l
 |_,_=>False
theorem iU {ok:Nat->Prop} {w:World} : ∀(cs:List ck) (vals:List Value) (nm:Nat),bK (E8 w ok) cs vals->
  ∃xs,bK (fP ok w) (cx 0 nm cs).2 xs/\ ∀bu:Env,(∀i x,xs[i]? =some x->bu (nm+i)=x)->(cx 0 nm cs).1.map (Cell.af bu)=vals
 | [],[],nm,_=>⟨[],trivial,fun _ _=>rfl⟩
 | [],_::_,_,h=>h.elim
 |_::_,[],_,h=>h.elim
 | .flat v::r,v'::vr,nm,h=>by
  obtain ⟨xs,h1,h2⟩:=iU r vr nm h.2
  refine ⟨xs,h1,fun bu hr=> ?_⟩
  have:=h2 bu hr
  have hv:v'=v:=h.1
  simp only [cx,List.map_cons,this,hv];rfl
 | .sl u l::r,v'::vr,nm,h=>by
  obtain ⟨xs,h1,h2⟩:=iU r vr (nm+1) h.2
  obtain ⟨a,c,hv,hc,hr⟩:=h.1
  refine ⟨{bq:=none,base:=a,len:=l.length,cap:=c,es:=u.size} ::xs,⟨⟨rfl,⟨rfl,rfl⟩,rfl,rfl,hc,hr⟩,h1⟩,fun bu hr=> ?_⟩
  have:=h2 bu fun i x hi=>by
   have:=hr (i+1) x (by simpa using hi)
   rwa [show nm+(i+1)=nm+1+i by omega] at this
  have h0:=hr 0 _ rfl
  rw [Nat.add_zero] at h0
  simp only [cx,List.map_cons,this,hv,Cell.af,h0]
theorem pZ {hp:HP} : ∀(p:qw) (args:List AV) (x:p.ty.T) (r:List AV) (tc:List Nat),oB hp p args=some (x,r,tc,true)->
  ∃as,args=as++r/\ ∀ax W ρ Kn Γ w,(∀m∈tc,Γ m=hp m)->St ax W ρ Kn Γ w-> ∀ok,r8 ok ρ Γ w tc-> ∀nm,∃xs,bK (fP ok w) (aT 0 nm p x).2 xs/\
   ∀bu:Env,(∀i x,xs[i]? =some x->bu (nm+i)=x)->as.map (AV.af ρ)=(aT 0 nm p x).1.map (A0.af bu)
 | .one t,args,x,r,tc,h=>by
  simp only [oB] at h
  split at h<;>try (cases h;done)
  rename_i c r'
  split at h<;>try (cases h;done)
  rename_i y zZ hd
  cases h
  obtain ⟨ys,e,hl,hs⟩:=eB hp t _ _ _ _ hd
  rw [List.append_nil] at e
  subst e
  refine ⟨[_],rfl,fun ax W ρ Kn Γ w ht hst ok hok nm=> ?_⟩
  obtain ⟨xs,h1,h2⟩:=iU _ _ nm (hs ax W ρ Kn Γ w ht hst ok hok)
  refine ⟨xs,h1,fun bu hr=> ?_⟩
  have:=h2 bu hr
  simp only [aT,List.map_cons,List.map_nil]
  simp only [List.map_cons,List.map_nil] at this
  obtain ⟨c',Ro,e⟩: ∃c',(cx 0 nm (t.aJ x)).1= [c']/\ c'.af bu=c.af ρ:=by
   match hm:(cx 0 nm (t.aJ x)).1,this with
   | [c'],h=>simp only [List.map_cons,List.map_nil,List.cons.injEq,and_true] at h;exact ⟨c',rfl,h⟩
   | [],h=>simp at h
   |_::_::_,h=>simp at h
  rw [Ro]
  simp only [so,AV.af,A0.af,e]
 | .agg t,args,x,r,tc,h=>by
  simp only [oB] at h
  split at h<;>try (cases h;done)
  rename_i cs r'
  split at h<;>try (cases h;done)
  rename_i y zZ hd
  cases h
  obtain ⟨ys,e,hl,hs⟩:=eB hp t _ _ _ _ hd
  rw [List.append_nil] at e
  subst e
  refine ⟨[_],rfl,fun ax W ρ Kn Γ w ht hst ok hok nm=> ?_⟩
  obtain ⟨xs,h1,h2⟩:=iU _ _ nm (hs ax W ρ Kn Γ w ht hst ok hok)
  refine ⟨xs,h1,fun bu hr=> ?_⟩
  have:=h2 bu hr
  simp only [aT,so,List.map_cons,List.map_nil,AV.af,A0.af,this]
 | .ptr t,args,x,r,tc,h=>by
  simp only [oB] at h
  split at h
  ·rename_i n off r'
   split at h<;>try (cases h;done)
   rename_i cs e he
   split at h<;>try (cases h;done)
   rename_i y zZ hd
   split at h<;>try (cases h;done)
   rename_i hsh
   cases h
   obtain ⟨ys,e1,hl,hs⟩:=eB hp t _ _ _ _ hd
   rw [List.append_nil] at e1
   refine ⟨[_],rfl,fun ax W ρ Kn Γ w ht hst ok hok nm=> ?_⟩
   have hall:=wY t x _ hsh (hs ax W ρ Kn Γ w (fun m hm=>ht m (by simp [hm])) hst ok (hok.sub fun m hm=>by simp [hm]))
   obtain ⟨b,hb,hh⟩:=hst.at_ n _ (by rw [ht n (by simp),he])
   refine ⟨[{bq:=none,base:=addrOf ρ n off,len:=1,cap:=1,es:=t.size}],⟨⟨rfl,⟨rfl,rfl⟩,rfl,rfl,by simp,ys.map (Cell.af ρ),?_,fun i v hv=> ?_⟩,trivial⟩,fun bu hr=> ?_⟩
   ·simpa [ak] using hall
   ·refine ⟨⟨b,off,none⟩,by simp [addrOf,hb],?_,?_⟩
    ·rw [Mq,bF (by simpa using hh)]
     rw [<- e1,List.map_take,List.map_drop,List.getElem?_take] at hv
     split at hv
     ·rwa [List.getElem?_drop] at hv
     ·cases hv
    ·exact hok.2 n (by simp) (by rw [ht n (by simp),he];rfl) b (.inl hb) ⟨_,_,_,hh⟩
   ·have h0:=hr 0 _ rfl
    rw [Nat.add_zero] at h0
    simp only [aT,List.map_cons,List.map_nil,AV.af,A0.af,Cell.af,h0]
    cases addrOf ρ n off<;>simp [add_zero']
  ·rename_i n j r'
   split at h<;>try (cases h;done)
   rename_i u l rk he
   split at h<;>try (cases h;done)
   rename_i l' hl'
   simp only [Option.some.injEq,Prod.mk.injEq,decide_eq_true_eq] at h
   obtain ⟨rfl,rfl,rfl,hj⟩:=h
   obtain ⟨e,e2⟩:=cP hl'
   subst e
   dsimp only at e2
   subst e2
   refine ⟨[_],rfl,fun ax W ρ Kn Γ w ht hst ok hok nm=> ?_⟩
   have cj:Γ n=some (.row u l rk):=by rw [ht n (by simp),he]
   have hra:=hst.Is cj hok (by simp)
   have hes:(ρ n).es=u.size:=(hst.at_ n _ cj).2.1
   have hp:=hra.part (a':=(ρ n).base.map (·.add (j*u.size))) j (some 1) fun _=>rfl
   have yy:n5 l j (some 1)= [gd u l j]:=by
    simp only [n5,gd,List.getD_eq_getElem?_getD,List.getElem?_eq_getElem hj,Option.getD_some]
    rw [List.drop_eq_getElem_cons hj];rfl
   rw [yy] at hp
   refine ⟨[{bq:=none,base:=(ρ n).base.map (·.add (j*u.size)),len:=1,cap:=1,es:=u.size}],⟨⟨rfl,⟨rfl,rfl⟩,rfl,rfl,by simp,hp⟩,trivial⟩,fun bu hr=> ?_⟩
   have h0:=hr 0 _ rfl
   rw [Nat.add_zero] at h0
   simp only [aT,List.map_cons,List.map_nil,AV.af,A0.af,Cell.af,h0,hes]
   cases (ρ n).base<;>simp [add_zero']
  ·cases h
 | .mB f p,args,x,r,tc,h=>by
  simp only [oB] at h
  split at h<;>try (cases h;done)
  rename_i g cap r'
  split at h<;>try (cases h;done)
  rename_i hg
  split at h<;>try (cases h;done)
  rename_i x1 QF b1 h1
  simp only [Option.some.injEq,Prod.mk.injEq,Bool.and_eq_true] at h
  obtain ⟨rfl,rfl,rfl,hc,rfl⟩:=h
  subst hg
  obtain ⟨as,e1,k1⟩:=pZ p _ _ _ _ h1
  rw [List.append_nil] at e1
  refine ⟨[_],rfl,fun ax W ρ Kn Γ w ht hst ok hok nm=> ?_⟩
  obtain ⟨xs,g1,g2⟩:=k1 ax W ρ Kn Γ w ht hst ok hok nm
  refine ⟨xs,g1,fun bu hr=> ?_⟩
  have h2:=g2 bu hr
  have e2:cap.map (Ref.af ρ)=((aT 0 nm p x1).1.map P5).map (Ref.af bu):=by
   rw [Lm p hc,<- h2,<- e1,List.map_map]
   exact List.map_congr_left fun q _=>(tL ρ q).symm
  simp only [aT,List.map_cons,List.map_nil,AV.af,A0.af,Cell.af,e2]
 | .mv f agg t,args,x,r,tc,h=>by
  simp only [oB] at h
  split at h<;>try (cases h;done)
  rename_i g adv rs r'
  split at h<;>try (cases h;done)
  rename_i hg
  split at h<;>try (cases h;done)
  rename_i y zZ hd
  cases h
  obtain ⟨rfl,rfl⟩:=hg
  obtain ⟨ys,e,hl,hs⟩:=eB hp t _ _ _ _ hd
  rw [List.append_nil] at e
  refine ⟨[_],rfl,fun ax W ρ Kn Γ w ht hst ok hok nm=> ?_⟩
  obtain ⟨xs,h1,h2⟩:=iU _ _ nm (hs ax W ρ Kn Γ w ht hst ok hok)
  refine ⟨xs,h1,fun bu hr=> ?_⟩
  have h3:=h2 bu hr
  have e2:rs.map (Ref.af ρ)=((cx 0 nm (t.aJ x)).1.map Z4).map (Ref.af bu):=by
   rw [xU,h3,<- e,List.map_map]
   exact List.map_congr_left fun q _=>(pD ρ q).symm
  simp only [aT,List.map_cons,List.map_nil,AV.af,A0.af,Cell.af,e2]
 | .pair a b,args,x,r,tc,h=>by
  simp only [oB] at h
  split at h<;>try (cases h;done)
  rename_i x1 r1 QF f1 h1
  split at h<;>try (cases h;done)
  rename_i x2 r2 XH f2 h2
  simp only [Option.some.injEq,Prod.mk.injEq,Bool.and_eq_true] at h
  obtain ⟨rfl,rfl,rfl,rfl,rfl⟩:=h
  obtain ⟨as,e1,k1⟩:=pZ a _ _ _ _ h1
  obtain ⟨bs,e2,k2⟩:=pZ b _ _ _ _ h2
  refine ⟨as++bs,by rw [e1,e2];simp,fun ax W ρ Kn Γ w ht hst ok hok nm=> ?_⟩
  obtain ⟨xs,g1,g2⟩:=k1 ax W ρ Kn Γ w (fun m hm=>ht m (by simp [hm])) hst ok (hok.sub fun m hm=>by simp [hm]) nm
  obtain ⟨ys,g3,g4⟩:=k2 ax W ρ Kn Γ w (fun m hm=>ht m (by simp [hm])) hst ok (hok.sub fun m hm=>by simp [hm]) (nm+(aT 0 nm a x1).2.length)
  refine ⟨xs++ys,g1.append g3,fun bu hr=> ?_⟩
  have hl:=g1.length
  simp only [aT,List.map_append]
  rw [g2 bu fun i x hi=>hr i x (by rw [List.getElem?_append_left (List.getElem?_eq_some_iff.1 hi).1];exact hi),g4 bu fun i x hi=>by
   have:=hr (xs.length+i) x (by rw [List.getElem?_append_right (by omega)];simpa using hi)
   rwa [<- hl,<- Nat.add_assoc] at this]
 | .none,args,x,r,tc,h=>by
  simp only [oB,Option.some.injEq,Prod.mk.injEq,and_true] at h
  obtain ⟨rfl,rfl,rfl⟩:=h
  exact ⟨[],rfl,fun ax W ρ Kn Γ w ht hst ok hok nm=>⟨[],trivial,fun _ _=>rfl⟩⟩
where Mq {b off m:Nat} :(⟨b,off,none⟩:Addr).add m=⟨b,off+m,none⟩:=by unfold Addr.add;split<;>simp_all
theorem bL {ok:Nat->Prop} {w:World} {o:aI} {x:Loc} (h:fP ok w o x): ∃u,∃l:List u.T,o= .row u l 0:=by
 cases o<;>first|exact h.elim|(obtain ⟨rfl,_⟩:=h;exact ⟨_,_,rfl⟩)
theorem DZ {h:List aI} {n:Nat} {o:aI} (ho:aq h n=some o):h[n]? =some o:=by
 unfold aq at ho
 split at ho
 ·cases ho
 ·exact ho
theorem St.adx {ok S:Nat->Prop} {w:World} {os:List aI} {xs:List Loc} (h:bK (fP ok w) os xs) (hok: ∀b,ok b->bA w b/\ ¬S b) (hS: ∀b,S b->b<w.heap.size):
  St KS w (fun n=>xs.getD n {}) (· <(os++ [aI.cK S]).length) (aq (os++ [aI.cK S])) w:=by
 have hl:=h.length
 have hx: ∀n o,aq (os++ [aI.cK S]) n=some o->(fP ok w o (xs.getD n {})/\ n<os.length)\/ (n=os.length/\ o= .cK S):=fun n o ho=>by
  have h1:=DZ ho
  rcases Nat.lt_or_ge n os.length with h2|h2
  ·rw [List.getElem?_append_left h2] at h1
   obtain ⟨x,h3,h4⟩:=h.get n o h1
   exact .inl ⟨by simpa [h3] using h4,h2⟩
  ·rw [List.getElem?_append_right h2] at h1
   have:n- os.length=0:=by
    rcases Nat.eq_zero_or_pos (n- os.length) with h3|h3
    ·exact h3
    ·rw [List.getElem?_eq_none (by simp;omega)] at h1;cases h1
   rw [this] at h1
   simp only [List.getElem?_cons_zero,Option.some.injEq] at h1
   exact .inr ⟨by omega,h1.symm⟩
 have lz: ∀n,(aq (os++ [aI.cK S]) n).isSome=true->(xs.getD n {}).bq=Option.none/\ (xs.getD n {}).bW= []:=fun n hn=>by
  obtain ⟨o,ho⟩:=Option.isSome_iff_exists.1 hn
  rcases hx n o ho with ⟨h1,_⟩|⟨rfl,_⟩
  ·obtain ⟨u,l,rfl⟩:=bL h1
   exact h1.2.1
  ·simp [List.getD,List.getElem?_eq_none (show xs.length<=os.length by omega)]
 refine ⟨Fr.refl _ _,fun n o ho=> ?_,fun n o ho=> ?_,fun n m b hn hm hb=> ?_,fun n b hn hb=> ?_,fun b ⟨m,S',h1,h2⟩=> ?_,fun n o ho=> .inr (lz n (by rw [ho];rfl)).2⟩
 rotate_right
 ·rcases hx m _ h1 with ⟨h3,_⟩|⟨_,e⟩
  ·obtain ⟨u,l,e⟩:=bL h3
   cases e
  ·cases e
   refine ⟨hS b h2,?_⟩
   rintro ⟨n,h3,h4⟩
   exact we (lz n h3) h4
 ·rcases hx n o ho with ⟨hg,_⟩|⟨rfl,rfl⟩
  ·obtain ⟨u,l,rfl⟩:=bL hg
   obtain ⟨_,h1,h2,h3,h4,vals,h5,h6⟩:=hg
   obtain ⟨e1,e2⟩:=mY h5
   have hfz: ∀b,ok b->gW (fun n=>xs.getD n {}) (aq (os++ [aI.cK S])) w b:=fun b hb=>⟨(hok b hb).1,by
    rintro (⟨m,g1,g2⟩|⟨m,S',g1,g2⟩)
    ·exact we (lz m g1) g2
    ·rcases hx m _ g1 with ⟨g3,_⟩|⟨_,e⟩
     ·obtain ⟨u,l,e⟩:=bL g3
      cases e
     ·cases e;exact (hok b hb).2 g2⟩
   refine ⟨h2,h3,h4,u9 vals,fun i v hv=> ?_,fun q u' l' hq=> ?_,fun _=>h1.1,fun h=>absurd rfl h⟩
   ·rw [e1] at hv
    obtain ⟨a,g1,g2,g3⟩:=h6 i v hv
    exact ⟨a,g1,g2,fun _=>hfz _ g3⟩
   ·exact (e2 q u' l' hq).weak fun b hb=>⟨hfz b hb,fun h=>by cases h⟩
  ·exact (lz _ (by rw [ho];rfl)).1
 ·rcases hx n o ho with ⟨hg,hlt⟩|⟨rfl,rfl⟩
  ·obtain ⟨u,l,rfl⟩:=bL hg
   exact ⟨by simp;omega,trivial⟩
  ·exact ⟨by simp,trivial⟩
 ·exact (we (lz n hn) hb).elim
 ·exact (we (lz n hn) hb).elim
theorem zh {h:List aI} : ∀(p:qw) (l:List A0) (y:p.ty.T) (r:List A0),vC (aq h) p l=some (y,r)->
  ∃ys,l=ys++r/\ ∀ax W ρ Kn w,St ax W ρ Kn (aq h) w-> ∀ok,(∀b,gW ρ (aq h) w b->ok b)->(∀m,(aq h m).isSome=true-> ∀b,(ρ m).has b->bA w b->ok b)-> ∀nm,∃xs,bK (fP ok w) (aT 0 nm p y).2 xs/\
   ∀bu:Env,(∀i x,xs[i]? =some x->bu (nm+i)=x)->ys.map (A0.af ρ)=(aT 0 nm p y).1.map (A0.af bu)
 | .one t,l,y,r,hd=>by
  simp only [vC] at hd
  split at hd<;>try (cases hd;done)
  rename_i c r1
  split at hd<;>try (cases hd;done)
  rename_i x tc h1
  cases hd
  obtain ⟨ys,e,hl,hs⟩:=eB _ t _ _ _ _ h1
  rw [List.append_nil] at e
  subst e
  refine ⟨[_],rfl,fun ax W ρ Kn w hst ok hf ho nm=> ?_⟩
  obtain ⟨xs,g1,g2⟩:=iU (ok:=ok) _ _ nm (hs ax W ρ Kn _ w (fun _ _=>rfl) hst ok ⟨hf,fun m _=>ho m⟩)
  refine ⟨xs,g1,fun bu hr=> ?_⟩
  have:=g2 bu hr
  simp only [aT,List.map_cons,List.map_nil]
  simp only [List.map_cons,List.map_nil] at this
  obtain ⟨c',Ro,e⟩: ∃c',(cx 0 nm (t.aJ y)).1= [c']/\ c'.af bu=c.af ρ:=by
   match hm:(cx 0 nm (t.aJ y)).1,this with
   | [c'],h=>simp only [List.map_cons,List.map_nil,List.cons.injEq,and_true] at h;exact ⟨c',rfl,h⟩
   | [],h=>simp at h
   |_::_::_,h=>simp at h
  rw [Ro]
  simp only [so,A0.af,e]
 | .agg t,l,y,r,hd=>by
  simp only [vC] at hd
  split at hd<;>try (cases hd;done)
  rename_i cs r1
  split at hd<;>try (cases hd;done)
  rename_i x tc h1
  cases hd
  obtain ⟨ys,e,hl,hs⟩:=eB _ t _ _ _ _ h1
  rw [List.append_nil] at e
  subst e
  refine ⟨[_],rfl,fun ax W ρ Kn w hst ok hf ho nm=> ?_⟩
  obtain ⟨xs,g1,g2⟩:=iU (ok:=ok) _ _ nm (hs ax W ρ Kn _ w (fun _ _=>rfl) hst ok ⟨hf,fun m _=>ho m⟩)
  refine ⟨xs,g1,fun bu hr=> ?_⟩
  have:=g2 bu hr
  simp only [aT,so,List.map_cons,List.map_nil,A0.af,this]
 | .ptr t,l,y,r,hd=>by simp [vC] at hd
 | .mB f p,l,y,r,hd=>by simp [vC] at hd
 | .mv f agg t,l,y,r,hd=>by simp [vC] at hd
 | .pair a b,l,y,r,hd=>by
  simp only [vC] at hd
  split at hd<;>try (cases hd;done)
  rename_i x1 r1 h1
  split at hd<;>try (cases hd;done)
  rename_i x2 r2 h2
  cases hd
  obtain ⟨ys,e1,k1⟩:=zh a _ _ _ h1
  obtain ⟨zs,e2,k2⟩:=zh b _ _ _ h2
  refine ⟨ys++zs,by rw [e1,e2];simp,fun ax W ρ Kn w hst ok hf ho nm=> ?_⟩
  obtain ⟨xs,g1,g2⟩:=k1 ax W ρ Kn w hst ok hf ho nm
  obtain ⟨us,g3,g4⟩:=k2 ax W ρ Kn w hst ok hf ho (nm+(aT 0 nm a x1).2.length)
  refine ⟨xs++us,g1.append g3,fun bu hr=> ?_⟩
  have hl:=g1.length
  simp only [aT,List.map_append]
  rw [g2 bu fun i x hi=>hr i x (by rw [List.getElem?_append_left (List.getElem?_eq_some_iff.1 hi).1];exact hi),g4 bu fun i x hi=>by
   have:=hr (xs.length+i) x (by rw [List.getElem?_append_right (by omega)];simpa using hi)
   rwa [<- hl,<- Nat.add_assoc] at this]
 | .none,l,y,r,hd=>by
  simp only [vC,Option.some.injEq,Prod.mk.injEq] at hd
  obtain ⟨rfl,rfl⟩:=hd
  exact ⟨[],rfl,fun ax W ρ Kn w hst ok hf ho nm=>⟨[],trivial,fun _ _=>rfl⟩⟩
theorem St.aa0 {ax:kz} {W w:World} {ρ:Env} {Kn:Nat->Prop} {Γ:HP} {ok:Nat->Prop} {nm:Nat} {os:List aI} {xs:List Loc} {v:AV} {tc G:List Nat} (h:St ax W ρ Kn Γ w) (hn: ∀i,i<os.length-> ¬Kn (nm+i)) (hg:bK (fP ok w) os xs)
  (hok: ∀b,ok b->bA w b/\ ¬HI Γ b/\ ∀m,m∉G->(Γ m).isSome=true-> ¬(ρ m).has b):
  ∃ρ',(∀m,Kn m->ρ' m=ρ m)/\ (∀i x,xs[i]? =some x->ρ' (nm+i)=x)/\ St ax W ρ' (jO Kn nm {val:=v,fresh:=os,writes:=G.map fun n=>(n,.gone),aC:=tc}) (bC {val:=v,fresh:=os,writes:=G.map fun n=>(n,.gone),aC:=tc} nm Γ) w:=by
 have hlen:=hg.length
 let ρ':Env:=fun m=>if nm<=m/\ m<nm+os.length then xs.getD (m- nm) {} else ρ m
 have hold: ∀m,Kn m->ρ' m=ρ m:=fun m hm=>by
  simp only [ρ']
  rw [if_neg]
  rintro ⟨h2,h3⟩
  exact hn (m- nm) (by omega) (by rw [show nm+(m- nm)=m by omega];exact hm)
 have hnew: ∀i x,xs[i]? =some x->ρ' (nm+i)=x:=fun i x hi=>by
  have:=(List.getElem?_eq_some_iff.1 hi).1
  simp only [ρ']
  rw [if_pos (by omega),show nm+i- nm=i by omega]
  simp [hi]
 have cj: ∀m o,bC {val:=v,fresh:=os,writes:=G.map fun n=>(n,.gone),aC:=tc} nm Γ m=some o->(∃i x,m=nm+i/\ i<os.length/\ xs[i]? =some x/\ fP ok w o x)\/ (Γ m=some o/\ m∉G/\ Kn m):=by
  intro m o ho
  simp only [bC] at ho
  split at ho
  ·rename_i hc
   have hlt:m- nm<os.length:=by omega
   rw [List.getElem?_eq_getElem hlt] at ho
   obtain ⟨x,h1,h2⟩:=hg.get (m- nm) _ (List.getElem?_eq_getElem hlt)
   obtain ⟨u,l,e⟩:=bL h2
   rw [e] at ho h2
   simp only [live,Option.some.injEq] at ho
   subst ho
   exact .inl ⟨m- nm,x,by omega,hlt,h1,h2⟩
  ·rw [G3] at ho
   by_cases hm:m∈G
   ·rw [if_pos hm] at ho;simp [live] at ho
   ·rw [if_neg hm] at ho
    exact .inr ⟨ho,hm,(h.kn m o ho).1⟩
 have lz: ∀m b,(bC {val:=v,fresh:=os,writes:=G.map fun n=>(n,.gone),aC:=tc} nm Γ m).isSome=true->(ρ' m).has b->(Γ m).isSome=true/\ m∉G/\ (ρ m).has b:=fun m b h1 h2=>by
  obtain ⟨o,ho⟩:=Option.isSome_iff_exists.1 h1
  rcases cj m o ho with ⟨i,x,rfl,_,h3,h4⟩|⟨h3,h4,h5⟩
  ·rw [hnew i x h3] at h2
   obtain ⟨u,l,rfl⟩:=bL h4
   exact (we h4.2.1 h2).elim
  ·rw [hold m h5] at h2
   exact ⟨by rw [h3];rfl,h4,h2⟩
 have yf: ∀b,HI (bC {val:=v,fresh:=os,writes:=G.map fun n=>(n,.gone),aC:=tc} nm Γ) b->HI Γ b:=fun b ⟨m,S,h1,h2⟩=>by
  rcases cj m _ h1 with ⟨i,x,_,_,_,h4⟩|⟨h3,_,_⟩
  ·obtain ⟨u,l,e⟩:=bL h4
   cases e
  ·exact ⟨m,S,h3,h2⟩
 have hfz: ∀b,gW ρ Γ w b->gW ρ' (bC {val:=v,fresh:=os,writes:=G.map fun n=>(n,.gone),aC:=tc} nm Γ) w b/\ w.heap[b]? =w.heap[b]? :=fun b hb=>by
  refine ⟨⟨hb.1,?_⟩,rfl⟩
  rintro (⟨m,h1,h2⟩|hh)
  ·obtain ⟨h3,_,h4⟩:=lz m b h1 h2
   exact hb.2 (.inl ⟨m,h3,h4⟩)
  ·exact hb.2 (.inr (yf b hh))
 have OE: ∀b,ok b->gW ρ' (bC {val:=v,fresh:=os,writes:=G.map fun n=>(n,.gone),aC:=tc} nm Γ) w b:=fun b hb=>by
  obtain ⟨k1,k2,k3⟩:=hok b hb
  refine ⟨k1,?_⟩
  rintro (⟨m,h1,h2⟩|hh)
  ·obtain ⟨h3,h4,h5⟩:=lz m b h1 h2
   exact k3 m h4 h3 h5
  ·exact k2 (yf b hh)
 refine ⟨ρ',hold,hnew,h.fr,fun m o ho=> ?_,fun m o ho=> ?_,fun m m' b hm hm' gS iQ=> ?_,fun m b hm hb=> ?_,fun b hh=> ?_,fun m o ho=> ?_⟩
 rotate_right
 ·rcases cj m o ho with ⟨i,x,rfl,hi,h3,h4⟩|⟨h3,_,h5⟩
  ·obtain ⟨u,l,rfl⟩:=bL h4
   exact .inr (by rw [hnew i x h3];exact h4.2.1.2)
  ·rw [hold m h5];exact h.yl m o h3
 ·rcases cj m o ho with ⟨i,x,rfl,hi,h3,h4⟩|⟨h3,_,h5⟩
  ·obtain ⟨u,l,rfl⟩:=bL h4
   obtain ⟨_,g1,g2,g3,g4,vals,g5,g6⟩:=h4
   obtain ⟨e1,e2⟩:=mY g5
   rw [bh,hnew i x h3]
   refine ⟨g2,g3,g4,u9 vals,fun i v hv=> ?_,fun q u' l' hq=> ?_,fun _=>g1.1,fun h=>absurd rfl h⟩
   ·rw [e1] at hv
    obtain ⟨a,k1,k2,k3⟩:=g6 i v hv
    exact ⟨a,k1,k2,fun _=>OE _ k3⟩
   ·exact (e2 q u' l' hq).weak fun b hb=>⟨OE b hb,fun h=>by cases h⟩
  ·exact ct (Kn:=Kn) (h.at_ m o h3) hold h5 (h.kn m o h3).2 hfz (fun _ _ h=>h) fun _ _=>rfl
 ·rcases cj m o ho with ⟨i,x,rfl,hi,h3,h4⟩|⟨h3,_,h5⟩
  ·obtain ⟨u,l,rfl⟩:=bL h4
   exact ⟨.inr (by simp only [];omega),trivial⟩
  ·exact ⟨.inl h5,aI.bg (fun _=> .inl) o (h.kn m o h3).2⟩
 ·obtain ⟨h1,_,h2⟩:=lz m b hm gS
  obtain ⟨h3,_,h4⟩:=lz m' b hm' iQ
  exact h.dK m m' b h1 h3 h2 h4
 ·obtain ⟨h1,_,h2⟩:=lz m b hm hb
  exact h.oF m b h1 h2
 ·obtain ⟨h1,h2⟩:=h.zo b (yf b hh)
  refine ⟨h1,?_⟩
  rintro ⟨m,h3,h4⟩
  obtain ⟨h5,_,h6⟩:=lz m b h3 h4
  exact h2 ⟨m,h5,h6⟩
theorem Sf {v:AV} {l:List A0} (h:lK v=some l):jJ l=v:=by
 cases v with
 |v a=>simp only [lK,Option.some.injEq] at h;subst h;rfl
 |r7 l'=>
  simp only [lK] at h
  split at h
  ·cases h
  ·rename_i hne
   cases h
   match l,hne with
   | [],_=>rfl
   | [a],hne=>exact absurd rfl (hne a)
   |_::_::_,_=>rfl
 |dead=>simp [lK] at h
theorem xx {hp:HP} : ∀ {l:List Nat} {n:Nat},n∈v9 hp l↔n∈l/\ Ng hp n=true
 | [],n=>by simp [v9]
 |m::r,n=>by
  simp only [v9]
  split
  ·rename_i h
   simp only [List.mem_cons,xx (l:=r)]
   constructor
   ·rintro (rfl|⟨h1,h2⟩)
    ·exact ⟨.inl rfl,h⟩
    ·exact ⟨.inr h1,h2⟩
   ·rintro ⟨rfl|h1,h2⟩
    ·exact .inl rfl
    ·exact .inr ⟨h1,h2⟩
  ·rename_i h
   simp only [List.mem_cons,xx (l:=r)]
   constructor
   ·rintro ⟨h1,h2⟩;exact ⟨.inr h1,h2⟩
   ·rintro ⟨rfl|h1,h2⟩
    ·exact absurd h2 h
    ·exact ⟨h1,h2⟩
section
variable {P:Program} {tt:List (Nat×TI)} {specs:List (Nat×Spec)}
theorem ah.fnR (hT:aU P tt) (hS:ae P specs) (hm:P.follows .mixedOrders=true) {f:FuncId} {fn:Func} (hf:P.funcs[f]? =some fn) (hn:fS (ids (bV fn))=true) (p r:qw) (pre:p.ty.T->Prop) (g:p.ty.T->r.ty.T)
  (h: ∀x,pre x-> ∀S,∃lp dL,av P iE dL/\ au P iE (bV fn) lp/\ Vc (ML ⟨tt,specs,iE,lp,[],dL⟩ fn (gB p x) (gC p x++ [.cK S]) (yK r S (· =g x)))):ah P f (nt ⟨p,r,pre,g⟩):=by
 intro X args hp nm k hs
 unfold nt at hs
 split at hs
 rotate_left
 ·exact hs.elim
 rename_i x tc b hd
 obtain ⟨rfl,hpre,hk⟩:=bn hs
 have hk:=hk _ rfl
 obtain ⟨as,e,hargs⟩:=pZ p _ _ _ _ hd
 rw [List.append_nil] at e
 subst e
 refine ⟨_,⟨fun q hq=> ?_,?_⟩,hk⟩
 ·obtain ⟨n,oE,rfl⟩:=List.mem_map.1 hq
  have:=(xx.1 oE).2
  unfold Ng at this
  intro h0
  simp only [h0] at this
  cases this
 intro ax W ρ Kn Γ w _ _ ht hfr hst
 obtain ⟨S,hSd⟩: ∃S:Nat->Prop,S=fun b=>HI Γ b\/ ∃m,m∉v9 hp tc/\ (Γ m).isSome=true/\ (ρ m).has b:=⟨_,rfl⟩
 have ahJ: ∀b,S b->b<w.heap.size:=fun b hb=>by
  rw [hSd] at hb
  rcases hb with hb|⟨m,_,h1,h2⟩
  ·exact (hst.zo b hb).1
  ·exact hst.lt m b h1 h2
 have hok:r8 (fun b=>bA w b/\ ¬S b) ρ Γ w tc:=by
  refine ⟨fun b hb=>⟨hb.1,fun hs=> ?_⟩,fun m hm h1 b hb hc=>⟨hc,fun hs=> ?_⟩⟩
  ·rw [hSd] at hs
   rcases hs with hs|⟨m,_,h1,h2⟩
   ·exact hb.2 (.inr hs)
   ·exact hb.2 (.inl ⟨m,h1,h2⟩)
  ·rw [hSd] at hs
   rcases hs with hs|⟨m',h2,h3,h4⟩
   ·exact (hst.zo b hs).2 ⟨m,h1,hb⟩
   ·have:=hst.dK m' m b h3 h1 h4 hb
    subst this
    refine h2 (xx.2 ⟨hm,?_⟩)
    obtain ⟨o,ho⟩:=Option.isSome_iff_exists.1 h1
    have br:=hst.at_ m' o ho
    have hb:(ρ m').bq=some b\/ ∃g,o= .set g:=(hst.yl m' o ho).elim .inr fun h=> .inl ((vQ h).1 hb)
    rw [ht m' hm] at ho
    unfold Ng
    rw [ho]
    rcases hb with hb|⟨g,rfl⟩
    rotate_left
    ·rfl
    cases o with
    |cells cs e=>rfl
    |row t l rk=>
     obtain ⟨_,_,_,sub,_,_,h5,_⟩:=br
     by_cases e:rk=0
     ·rw [h5 e] at hb;cases hb
     ·simpa using e
    |alias=>rfl
    |gone=>exact br.elim
    |loop r' s j=>
     obtain ⟨b',hb',hh⟩:=br
     rw [hb] at hb';cases hb'
     obtain ⟨_,_,_,h6⟩:=hc
     rw [hh] at h6;cases h6
    |gU=>rw [br.1] at hb;cases hb
    |cK=>rw [show (ρ m').bq=Option.none from br] at hb;cases hb
    |map ka va k v l=>
     obtain ⟨_,_,b',es,dI,hb',hh,_⟩:=br
     rw [hb] at hb';cases hb'
     obtain ⟨_,_,_,h6⟩:=hc
     rw [hh] at h6;cases h6
    |oQ ka k u l c q=>
     obtain ⟨_,_,_,b',es,dI,hb',hh,_⟩:=br
     rw [hb] at hb';cases hb'
     obtain ⟨_,_,_,h6⟩:=hc
     rw [hh] at h6;cases h6
    |set=>rfl
    |gv=>rw [br.1] at hb;cases hb
    |dp=>rw [br.1] at hb;cases hb
    |nv=>rw [br.1] at hb;cases hb
    |rc=>rw [br.1] at hb;cases hb
    |hmap es dI=>
     obtain ⟨b',hb',hh⟩:=br
     rw [hb] at hb';cases hb'
     obtain ⟨_,_,_,h6⟩:=hc
     rw [hh] at h6;cases h6
    |xq g c es dI ka k u l cur=>
     obtain ⟨_,_,_,b',_,_,_,hb',hh,_⟩:=br
     rw [hb] at hb';cases hb'
     obtain ⟨_,_,_,h6⟩:=hc
     rw [hh] at h6;cases h6
 obtain ⟨xs,hg,hc⟩:=hargs ax W ρ Kn Γ w ht hst _ hok 0
 have hb:=St.adx hg (fun b hb=>hb) ahJ
 obtain ⟨lp,dL,hi,hl,hfn⟩:=h x hpre S
 have hcs:=hc (fun n=>xs.getD n {}) fun i y hy=>by simp [hy]
 have key:=oX (ctx:=⟨tt,specs,iE,lp,[],dL⟩) hT ⟨hS,y9.nil P,hi⟩ (iE.ok KS w) hm hf (fun c hc=>by
  have:bV fn=c:=by unfold bV;rw [hc]
  subst this
  exact Fx (je hn) hl) hfn.h (fun y hy=>by
   obtain ⟨a,ha,rfl⟩:=List.mem_map.1 hy
   exact A0.bg (fun m hm=>by simp [gC] at hm ⊢;omega) a (jY 0 p x 0 a ha)) hb
 have ea:(gB p x).map (AV.af fun n=>xs.getD n {})=args.map (AV.af ρ):=by
  rw [hcs];simp [gB,AV.af,Function.comp_def]
 rw [ea] at key
 refine key.mono ?_
 rintro e w' ⟨st,bu,v,rfl,hv,hR,tx⟩
 unfold yK at hR
 split at hR
 rotate_left
 ·exact hR.elim
 rename_i l yy
 split at hR
 rotate_left
 ·exact hR.elim
 rename_i y hdr
 obtain ⟨rfl,nh,hh⟩:=DM hR
 obtain ⟨ys,e1,adP⟩:=zh r _ _ _ hdr
 rw [List.append_nil] at e1
 subst e1
 obtain ⟨us,hgu,hcu⟩:=adP KS w bu _ w' tx (fun b=>bA w' b/\ ¬S b) (fun b hb=>⟨hb.1,fun hs=>hb.2 (.inr ⟨nh,S,hh,hs⟩)⟩) (fun m h1 b h2 h3=>⟨h3,fun hs=>(tx.zo b ⟨nh,S,hh,hs⟩).2 ⟨m,h1,h2⟩⟩) nm
 obtain ⟨ρ',r1,r2,r3⟩:=(hst.called tx.fr).aa0 (v:=jJ (aT 0 nm r (g x)).1) (tc:=tc) (G:=v9 hp tc) (nm:=nm) hfr hgu (fun b hb=>by
  refine ⟨hb.1,fun h1=>hb.2 (by rw [hSd];exact .inl h1),fun m h1 h2 h3=>hb.2 (by rw [hSd];exact .inr ⟨m,h1,h2,h3⟩)⟩)
 refine ⟨ρ',?_,r1,?_,r3⟩
 ·congr 1
  rw [<- Sf yy]
  exact xV (hcu ρ' r2)
 ·exact FM fun c hc=>A0.bg (fun m hm=> .inr (by simpa using hm)) c (jY 0 r (g x) nm c hc)
end
def Ya:jM:=fun _ _ _ _=>False
theorem Vs {P:Program} {X:Addr->Value->Prop} {f:FuncId} :kZ P X f Ya:=fun _ _ _ _ h=>h.elim
end Go.Ev
