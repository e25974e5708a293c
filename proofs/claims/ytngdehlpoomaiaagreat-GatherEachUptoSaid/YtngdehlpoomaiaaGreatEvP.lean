/- Proofs of printed conditions: how the parts are joined. -/
import Derived.Test.YtngdehlpoomaiaaGreatEvL
noncomputable section
set_option linter.unusedSectionVars false
set_option linter.unusedVariables false
set_option linter.unusedSimpArgs false
namespace Go.Ev
abbrev I2:Type:=Int×Int
abbrev I3:Type:=Int×(Int×Int)
abbrev I9:Type:=(Int×Int×Int)×((Int×Int×Int)×Int×Int×Int)
abbrev Cq:Int×Int:=((0:Int),(0:Int))
abbrev bX:Int×(Int×Int):=((0:Int),(0:Int),(0:Int))
abbrev Lm:(Int×Int×Int)×((Int×Int×Int)×Int×Int×Int):=(((0:Int),(0:Int),(0:Int)),((0:Int),(0:Int),(0:Int)),(0:Int),(0:Int),(0:Int))
abbrev yi:Ty:= .int .i64
abbrev fX:Ty:=Ty.prod (Ty.int IntKind.i64) (Ty.int IntKind.i64)
abbrev aM:Ty:=Ty.prod (Ty.int IntKind.i64) (Ty.prod (Ty.int IntKind.i64) (Ty.int IntKind.i64))
abbrev dF:Ty:=Ty.prod (Ty.prod (Ty.int IntKind.i64) (Ty.prod (Ty.int IntKind.i64) (Ty.int IntKind.i64))) (Ty.prod (Ty.prod (Ty.int IntKind.i64) (Ty.prod (Ty.int IntKind.i64) (Ty.int IntKind.i64))) (Ty.prod (Ty.int IntKind.i64) (Ty.prod (Ty.int IntKind.i64) (Ty.int IntKind.i64))))
def Pv (ps:List Nat):Code->Option (Code×Code)
 | .seq a b=>match Pv ps a with|some q=>some q|none=>Pv ps b
 | .cond _ a b=>match Pv ps a with|some q=>some q|none=>Pv ps b
 | .loop c=>Pv ps c
 | .block _ c=>Pv ps c
 | .rangeFunc _ qs a b=>if qs.toList=ps then some (a,b) else none
 |_=>none
def rfA (ps:List Nat) (c:Code):Code:=match Pv ps c with|some q=>q.1|none=> .skip
def rfB (ps:List Nat) (c:Code):Code:=match Pv ps c with|some q=>q.2|none=> .skip
def aq {α β:Type} (a:α) (f:α->β):β:=f a
def aC {α:Type} (a:α) (f:α->Prop):Prop:=f a
theorem Vy {α:Type} {Q:α->Prop} {p:Prop} [Decidable p] {x y:α} {t1 t2:Prop} (hq:Q (if p then x else y)) (h1:p->Q x->t1) (h2: ¬p->Q y->t2):cB (decide p) t1 t2:=by
 by_cases h:p
 ·rw [if_pos h] at hq;rw [decide_eq_true h];exact h1 h hq
 ·rw [if_neg h] at hq;rw [decide_eq_false h];exact h2 h hq
theorem alv {α:Type} {Q:α->Prop} {b:Bool} {x y:α} {t1 t2:Prop} (hq:Q (if b=true then x else y)) (h1:b=true->Q x->t1) (h2: ¬b=true->Q y->t2):cB b t1 t2:=by
 cases b with
 |true=>exact h1 rfl hq
 |false=>exact h2 (by simp) hq
theorem O6 {b:Bool} {t:Prop} (h:b=true) (ht:t):ob b t:=by subst h;exact ht
theorem gV {b c:Bool} (h1:b=true) (h2:c=true):(b&&c)=true:=by rw [h1,h2];rfl
theorem Ud {α β:Type} {Q:β->Prop} {g:α} {F:α->β} {P t:α->Prop} (hp:aC g P) (hq:Q (aq g F)) (h: ∀y,P y->Q (F y)->t y): ∀y,y=g->t y:=by
 rintro y rfl;exact h _ hp hq
theorem akd {α β:Type} {Q:β->Prop} {g:α} {F:α->β} {t:α->Prop} (hq:Q (aq g F)) (h: ∀y,Q (F y)->t y): ∀y,y=g->t y:=by
 rintro y rfl;exact h _ hq
theorem SE {π:List Src} {st st':AS} (h1:HE π st.tmps st'.tmps) (h2:tf π st.heap π st'.heap) (h3:dY (vJ π st'.heap)=true):rF st st':=⟨π,h1,h2,h3⟩
theorem cn {π:List Src} {h:List aG} {m:Nat} {o p:aG} (h1:aj h m=some p) (h2:fA π o=some p):DG π h (.same m) o:=⟨p,h1,h2⟩
theorem ah.dX {P:Program} {tt:List (Nat×TI)} {specs:List (Nat×Spec)} {X:Addr->Value->Prop} {lp:List (Nat×bw)} {its:List (Nat×cD)} (h:ah P specs) (hi:ax P X its):eB P ⟨tt,specs,X,lp,[],its⟩:=⟨h,mU.nil P,hi⟩
structure Vc (p:Prop):Prop where
 h:p
theorem Vc.eq {p q:Prop} (e:p=q) (h:q):Vc p:=⟨e▸h⟩
def MY:List aG->Nat->Nat->Nat
 | [],_,b=>b
 | .bT _ _::r,i,_=>MY r (i+1) (i+1)
 |_::r,i,b=>MY r (i+1) b
def Yt (l:List (Nat×bw)):bw:=fun st K=>match aJ l (MY st.heap 0 0) with
 |some sp=>sp st K
 |none=>False
def EP (i:Nat) (f:Loop->bw):bw:=fun st K=>match st.heap[i]? with
 |some (.loop r _ _)=>f r st K
 |_=>False
def NC (i:Nat) (f:Env->bw):bw:=fun st K=>match st.heap[i]? with
 |some (.bT ρ _)=>f ρ st K
 |_=>False
structure Ln (ctx:Ctx) (c:Code) (id:Nat) (sp:bw):Prop where
 h: ∀st K,sp st K->cz ctx c st (jN id (jy K))
def afH (ctx:Ctx) (c:Code) (id:Nat) {T:Type} (sp:T->bw):bw:=fun st K=> ∃t:T,Ln ctx c id (sp t)/\ sp t st K
def ysE (n:Nat) (tmps:List AV) (r:Loop) (aV:Env) (ps:List Nat) (co:Ctx) (fn:Func):List (Nat×Spec):= [(n,afy cf n tmps r aV ps.toArray (cz co (rfA ps (aD fn))) (cz co (rfB ps (aD fn))))]
def Ex (ctx:Ctx) (c:Code) (id:Nat) (sp:bw):Prop:= ∀st K,sp st K->Vc (cz ctx c st (jN id (jy K)))
section
variable {ctx:Ctx} {c:Code} {id:Nat}
theorem Ex.nil:Ex ctx c id (Yt []):=fun _ _ h=>h.elim
theorem Ex.cons {n:Nat} {sp:bw} {l:List (Nat×bw)} (h:Ex ctx c id sp) (hl:Ex ctx c id (Yt l)):Ex ctx c id (Yt ((n,sp)::l)):=fun st K hk=>by
 unfold Yt aJ at hk
 by_cases e:n=MY st.heap 0 0
 ·rw [if_pos e] at hk;exact h st K hk
 ·rw [if_neg e] at hk;exact hl st K hk
theorem Ex.EP {i:Nat} {f:Loop->bw} (h: ∀r,Ex ctx c id (f r)):Ex ctx c id (EP i f):=fun st K hk=>by
 unfold Ev.EP at hk
 split at hk
 ·exact h _ st K hk
 ·exact hk.elim
theorem Ex.NC {i:Nat} {f:Env->bw} (h: ∀r,Ex ctx c id (f r)):Ex ctx c id (NC i f):=fun st K hk=>by
 unfold Ev.NC at hk
 split at hk
 ·exact h _ st K hk
 ·exact hk.elim
theorem Ex.cert {T:Type} {sp:T->bw} :Ex ctx c id (afH ctx c id sp):=fun st K ⟨_,h,hs⟩=>⟨h.h st K hs⟩
theorem Ex.agH {sp:bw} (h:Ex ctx c id sp):Ln ctx c id sp:=⟨fun st K hs=>(h st K hs).h⟩
end
section
variable {P:Program} {tt:List (Nat×TI)} {specs:List (Nat×Spec)}
theorem ai.alC (hT:cP P tt) (hS:ah P specs) (hm:P.follows .mixedOrders=true) {n:FuncId} {fn:Func} (hf:P.funcs[n]? =some fn) (hn:dg (ids (aD fn))=true) (p r:kK) (pre:p.ty.T->Prop) (f:p.ty.T->r.ty.T) (hres:r.res=true)
  (h: ∀x,pre x-> ∃lp its,ax P cf its/\ ay P cf (aD fn) lp/\ Vc (Ie ⟨tt,specs,cf,lp,[],its⟩ fn (cq p x) (c9 p x) (lE r (· =f x)))):ai P n (ak ⟨p,r,pre,f⟩):=
 ai.fnT (s:=⟨p,r,pre,f⟩) hT hS hm hf hn hres fun x hx=>by
  obtain ⟨lp,its,h1,h2,h3⟩:=h x hx
  exact ⟨lp,its,h1,h2,h3.h⟩
theorem ay.aiX (hT:cP P tt) {X:Addr->Value->Prop} {lp:List (Nat×bw)} {ys:List (Nat×Spec)} {its:List (Nat×cD)} (hC:eB P ⟨tt,specs,X,lp,ys,its⟩) (hm:P.follows .mixedOrders=true) {c b:Code} {id:Nat} {sp:bw} (hl:ay P X c lp) (hn':dg (ids c)=true) (hb:bC id c=some b)
  (h:Ex ⟨tt,specs,X,lp,ys,its⟩ b id sp):ay P X c ((id,sp)::lp):=ay.cons hT hC hm hl hn' hb fun st K hk=>(h st K hk).h
theorem Se {S R:Type} [Inhabited R] {ctx:Ctx} {c:Code} {id:Nat} {tm:S->AS} {step:S->S⊕R} {pre:S->Prop} {out:R->(Exit->AS->Prop)->Prop}
  (hr: ∀s K KN,pre s->Ve tm out K KN (step s)->Vc (cz ctx c (tm s) (KB id K KN))) (st:AS) (K:Exit->AS->Prop) (h:Sd tm step pre out st K):Vc (cz ctx (.loop c) st (jN id (jy K))):=⟨WO (fun s K KN h1 h2=>(hr s K KN h1 h2).h) st K h⟩
end
end Go.Ev
namespace Go.Ev
open Go.RowKit
def My (hp:HP) (n:Nat):Bool:=match hp n with
 |some (.row _ _ rk)=>rk !=0
 |some (.alias _ _ _)=>true
 |some (.cells _ _)=>true
 |some (.set _)=>true
 |_=>false
def uZ (hp:HP):List Nat->List Nat
 | []=> []
 |n::r=>if My hp n then n::uZ hp r else uZ hp r
def DT (s:bY):Spec:=fun _ args hp nm k=>match eY hp s.p args with
 |some (x,[],tc,b)=>ob b (s.pre x/\ ∀y,y=s.f x->k {val:=ji (aW 0 nm s.r y).1,fresh:=(aW 0 nm s.r y).2,writes:=(uZ hp tc).map fun n=>(n,.gone),aH:=tc})
 |_=>False
def tW (hp:HP):(p:kK)->List A0->Option (p.ty.T×List A0)
 | .one t,l=>match l with
  | .one c::r=>match b9 hp t [c] with
   |some (y,[],_)=>some (y,r)
   |_=>none
  |_=>none
 | .agg t,l=>match l with
  | .agg cs::r=>match b9 hp t cs with
   |some (y,[],_)=>some (y,r)
   |_=>none
  |_=>none
 | .ptr _,_=>none
 | .iP _ _,_=>none
 | .mv _ _ _,_=>none
 | .pair a b,l=>match tW hp a l with
  |some (x,r)=>match tW hp b r with
   |some (y,r')=>some ((x,y),r')
   |none=>none
  |none=>none
 | .none,l=>some (false,l)
def L8 (S:Nat->Prop) (K:Prop):List aG->Prop
 | []=>False
 |o::r=>match o with
  | .hide S'=>S'=S/\ K
  |_=>L8 S K r
def UD (r:kK) (S:Nat->Prop) (Q:r.ty.T->Prop) (v:AV) (st:AS):Prop:=match kj v with
 |some l=>match tW (aj st.heap) r l with
  |some (y,[])=>L8 S (Q y) st.heap
  |_=>False
 |none=>False
theorem CA {S:Nat->Prop} {K:Prop} : ∀ {h:List aG},L8 S K h->K/\ ∃n,aj h n=some (.hide S)
 | [],h=>h.elim
 |o::r,h=>by
  have main:L8 S K r->K/\ ∃n,aj (o::r) n=some (.hide S):=fun h=>by
   obtain ⟨h1,n,h2⟩:=CA h
   exact ⟨h1,n+1,by simpa [aj] using h2⟩
  cases o with
  |hide S'=>obtain ⟨rfl,h⟩:=h;exact ⟨h,0,by simp [aj]⟩
  |_=>exact main h
def cw (ok:Nat->Prop) (w:World):aG->Loc->Prop
 | .row u l rk,x=>rk=0/\ (x.blk=none/\ x.iw= [])/\ x.len=l.length/\ x.es=u.size/\ l.length<=x.cap/\ kL w ok x.base u l
 |_,_=>False
theorem iq {ok:Nat->Prop} {w:World} : ∀(cs:List cg) (vals:List Value) (nm:Nat),bG (EB w ok) cs vals->
  ∃xs,bG (cw ok w) (cm 0 nm cs).2 xs/\ ∀aQ:Env,(∀i x,xs[i]? =some x->aQ (nm+i)=x)->(cm 0 nm cs).1.map (Cell.ae aQ)=vals
 | [],[],nm,_=>⟨[],trivial,fun _ _=>rfl⟩
 | [],_::_,_,h=>h.elim
 |_::_,[],_,h=>h.elim
 | .flat v::r,v'::vr,nm,h=>by
  obtain ⟨xs,h1,h2⟩:=iq r vr nm h.2
  refine ⟨xs,h1,fun aQ hr=> ?_⟩
  have:=h2 aQ hr
  have hv:v'=v:=h.1
  simp only [cm,List.map_cons,this,hv];rfl
 | .sl u l::r,v'::vr,nm,h=>by
  obtain ⟨xs,h1,h2⟩:=iq r vr (nm+1) h.2
  obtain ⟨a,c,hv,hc,hr⟩:=h.1
  refine ⟨{blk:=none,base:=a,len:=l.length,cap:=c,es:=u.size} ::xs,⟨⟨rfl,⟨rfl,rfl⟩,rfl,rfl,hc,hr⟩,h1⟩,fun aQ hr=> ?_⟩
  have:=h2 aQ fun i x hi=>by
   have:=hr (i+1) x (by simpa using hi)
   rwa [show nm+(i+1)=nm+1+i by omega] at this
  have h0:=hr 0 _ rfl
  rw [Nat.add_zero] at h0
  simp only [cm,List.map_cons,this,hv,Cell.ae,h0]
theorem kZ {hp:HP} : ∀(p:kK) (args:List AV) (x:p.ty.T) (r:List AV) (tc:List Nat),eY hp p args=some (x,r,tc,true)->
  ∃as,args=as++r/\ ∀au W ρ Kn Γ w,(∀m∈tc,Γ m=hp m)->St au W ρ Kn Γ w-> ∀ok,lY ok ρ Γ w tc-> ∀nm,∃xs,bG (cw ok w) (aW 0 nm p x).2 xs/\
   ∀aQ:Env,(∀i x,xs[i]? =some x->aQ (nm+i)=x)->as.map (AV.ae ρ)=(aW 0 nm p x).1.map (A0.ae aQ)
 | .one t,args,x,r,tc,h=>by
  simp only [eY] at h
  split at h<;>try (cases h;done)
  rename_i c r'
  split at h<;>try (cases h;done)
  rename_i y yL hd
  cases h
  obtain ⟨ys,e,hl,hs⟩:=dN hp t _ _ _ _ hd
  rw [List.append_nil] at e
  subst e
  refine ⟨[_],rfl,fun au W ρ Kn Γ w ht hst ok hok nm=> ?_⟩
  obtain ⟨xs,h1,h2⟩:=iq _ _ nm (hs au W ρ Kn Γ w ht hst ok hok)
  refine ⟨xs,h1,fun aQ hr=> ?_⟩
  have:=h2 aQ hr
  simp only [aW,List.map_cons,List.map_nil]
  simp only [List.map_cons,List.map_nil] at this
  obtain ⟨c',Iw,e⟩: ∃c',(cm 0 nm (t.aT x)).1= [c']/\ c'.ae aQ=c.ae ρ:=by
   match hm:(cm 0 nm (t.aT x)).1,this with
   | [c'],h=>simp only [List.map_cons,List.map_nil,List.cons.injEq,and_true] at h;exact ⟨c',rfl,h⟩
   | [],h=>simp at h
   |_::_::_,h=>simp at h
  rw [Iw]
  simp only [tD,AV.ae,A0.ae,e]
 | .agg t,args,x,r,tc,h=>by
  simp only [eY] at h
  split at h<;>try (cases h;done)
  rename_i cs r'
  split at h<;>try (cases h;done)
  rename_i y yL hd
  cases h
  obtain ⟨ys,e,hl,hs⟩:=dN hp t _ _ _ _ hd
  rw [List.append_nil] at e
  subst e
  refine ⟨[_],rfl,fun au W ρ Kn Γ w ht hst ok hok nm=> ?_⟩
  obtain ⟨xs,h1,h2⟩:=iq _ _ nm (hs au W ρ Kn Γ w ht hst ok hok)
  refine ⟨xs,h1,fun aQ hr=> ?_⟩
  have:=h2 aQ hr
  simp only [aW,tD,List.map_cons,List.map_nil,AV.ae,A0.ae,this]
 | .ptr t,args,x,r,tc,h=>by
  simp only [eY] at h
  split at h
  ·rename_i n off r'
   split at h<;>try (cases h;done)
   rename_i cs e he
   split at h<;>try (cases h;done)
   rename_i y yL hd
   split at h<;>try (cases h;done)
   rename_i hsh
   cases h
   obtain ⟨ys,e1,hl,hs⟩:=dN hp t _ _ _ _ hd
   rw [List.append_nil] at e1
   refine ⟨[_],rfl,fun au W ρ Kn Γ w ht hst ok hok nm=> ?_⟩
   have hall:=vM t x _ hsh (hs au W ρ Kn Γ w (fun m hm=>ht m (by simp [hm])) hst ok (hok.sub fun m hm=>by simp [hm]))
   obtain ⟨b,hb,hh⟩:=hst.at_ n _ (by rw [ht n (by simp),he])
   refine ⟨[{blk:=none,base:=addrOf ρ n off,len:=1,cap:=1,es:=t.size}],⟨⟨rfl,⟨rfl,rfl⟩,rfl,rfl,by simp,ys.map (Cell.ae ρ),?_,fun i v hv=> ?_⟩,trivial⟩,fun aQ hr=> ?_⟩
   ·simpa [az] using hall
   ·refine ⟨⟨b,off,none⟩,by simp [addrOf,hb],?_,?_⟩
    ·rw [Lv,bH (by simpa using hh)]
     rw [<- e1,List.map_take,List.map_drop,List.getElem?_take] at hv
     split at hv
     ·rwa [List.getElem?_drop] at hv
     ·cases hv
    ·exact hok.2 n (by simp) (by rw [ht n (by simp),he];rfl) b (.inl hb) ⟨_,_,_,hh⟩
   ·have h0:=hr 0 _ rfl
    rw [Nat.add_zero] at h0
    simp only [aW,List.map_cons,List.map_nil,AV.ae,A0.ae,Cell.ae,h0]
    cases addrOf ρ n off<;>simp [add_zero']
  ·rename_i n j r'
   split at h<;>try (cases h;done)
   rename_i u l rk he
   split at h<;>try (cases h;done)
   rename_i l' hl'
   simp only [Option.some.injEq,Prod.mk.injEq,decide_eq_true_eq] at h
   obtain ⟨rfl,rfl,rfl,hj⟩:=h
   obtain ⟨e,e2⟩:=bZ hl'
   subst e
   dsimp only at e2
   subst e2
   refine ⟨[_],rfl,fun au W ρ Kn Γ w ht hst ok hok nm=> ?_⟩
   have bL:Γ n=some (.row u l rk):=by rw [ht n (by simp),he]
   have hra:=hst.Gw bL hok (by simp)
   have hes:(ρ n).es=u.size:=(hst.at_ n _ bL).2.1
   have hp:=hra.part (a':=(ρ n).base.map (·.add (j*u.size))) j (some 1) fun _=>rfl
   have xq:mz l j (some 1)= [gd u l j]:=by
    simp only [mz,gd,List.getD_eq_getElem?_getD,List.getElem?_eq_getElem hj,Option.getD_some]
    rw [List.drop_eq_getElem_cons hj];rfl
   rw [xq] at hp
   refine ⟨[{blk:=none,base:=(ρ n).base.map (·.add (j*u.size)),len:=1,cap:=1,es:=u.size}],⟨⟨rfl,⟨rfl,rfl⟩,rfl,rfl,by simp,hp⟩,trivial⟩,fun aQ hr=> ?_⟩
   have h0:=hr 0 _ rfl
   rw [Nat.add_zero] at h0
   simp only [aW,List.map_cons,List.map_nil,AV.ae,A0.ae,Cell.ae,h0,hes]
   cases (ρ n).base<;>simp [add_zero']
  ·cases h
 | .iP f p,args,x,r,tc,h=>by
  simp only [eY] at h
  split at h<;>try (cases h;done)
  rename_i g cap r'
  split at h<;>try (cases h;done)
  rename_i hg
  split at h<;>try (cases h;done)
  rename_i x1 El b1 h1
  simp only [Option.some.injEq,Prod.mk.injEq,Bool.and_eq_true] at h
  obtain ⟨rfl,rfl,rfl,hc,rfl⟩:=h
  subst hg
  obtain ⟨as,e1,k1⟩:=kZ p _ _ _ _ h1
  rw [List.append_nil] at e1
  refine ⟨[_],rfl,fun au W ρ Kn Γ w ht hst ok hok nm=> ?_⟩
  obtain ⟨xs,g1,g2⟩:=k1 au W ρ Kn Γ w ht hst ok hok nm
  refine ⟨xs,g1,fun aQ hr=> ?_⟩
  have h2:=g2 aQ hr
  have e2:cap.map (Ref.ae ρ)=((aW 0 nm p x1).1.map Pq).map (Ref.ae aQ):=by
   rw [Kh p hc,<- h2,<- e1,List.map_map]
   exact List.map_congr_left fun q _=>(sr ρ q).symm
  simp only [aW,List.map_cons,List.map_nil,AV.ae,A0.ae,Cell.ae,e2]
 | .mv f agg t,args,x,r,tc,h=>by
  simp only [eY] at h
  split at h<;>try (cases h;done)
  rename_i g agq rs r'
  split at h<;>try (cases h;done)
  rename_i hg
  split at h<;>try (cases h;done)
  rename_i y yL hd
  cases h
  obtain ⟨rfl,rfl⟩:=hg
  obtain ⟨ys,e,hl,hs⟩:=dN hp t _ _ _ _ hd
  rw [List.append_nil] at e
  refine ⟨[_],rfl,fun au W ρ Kn Γ w ht hst ok hok nm=> ?_⟩
  obtain ⟨xs,h1,h2⟩:=iq _ _ nm (hs au W ρ Kn Γ w ht hst ok hok)
  refine ⟨xs,h1,fun aQ hr=> ?_⟩
  have h3:=h2 aQ hr
  have e2:rs.map (Ref.ae ρ)=((cm 0 nm (t.aT x)).1.map abj).map (Ref.ae aQ):=by
   rw [wM,h3,<- e,List.map_map]
   exact List.map_congr_left fun q _=>(nt ρ q).symm
  simp only [aW,List.map_cons,List.map_nil,AV.ae,A0.ae,Cell.ae,e2]
 | .pair a b,args,x,r,tc,h=>by
  simp only [eY] at h
  split at h<;>try (cases h;done)
  rename_i x1 r1 El f1 h1
  split at h<;>try (cases h;done)
  rename_i x2 r2 tH f2 h2
  simp only [Option.some.injEq,Prod.mk.injEq,Bool.and_eq_true] at h
  obtain ⟨rfl,rfl,rfl,rfl,rfl⟩:=h
  obtain ⟨as,e1,k1⟩:=kZ a _ _ _ _ h1
  obtain ⟨bs,e2,k2⟩:=kZ b _ _ _ _ h2
  refine ⟨as++bs,by rw [e1,e2];simp,fun au W ρ Kn Γ w ht hst ok hok nm=> ?_⟩
  obtain ⟨xs,g1,g2⟩:=k1 au W ρ Kn Γ w (fun m hm=>ht m (by simp [hm])) hst ok (hok.sub fun m hm=>by simp [hm]) nm
  obtain ⟨ys,g3,g4⟩:=k2 au W ρ Kn Γ w (fun m hm=>ht m (by simp [hm])) hst ok (hok.sub fun m hm=>by simp [hm]) (nm+(aW 0 nm a x1).2.length)
  refine ⟨xs++ys,g1.append g3,fun aQ hr=> ?_⟩
  have hl:=g1.length
  simp only [aW,List.map_append]
  rw [g2 aQ fun i x hi=>hr i x (by rw [List.getElem?_append_left (List.getElem?_eq_some_iff.1 hi).1];exact hi),g4 aQ fun i x hi=>by
   have:=hr (xs.length+i) x (by rw [List.getElem?_append_right (by omega)];simpa using hi)
   rwa [<- hl,<- Nat.add_assoc] at this]
 | .none,args,x,r,tc,h=>by
  simp only [eY,Option.some.injEq,Prod.mk.injEq,and_true] at h
  obtain ⟨rfl,rfl,rfl⟩:=h
  exact ⟨[],rfl,fun au W ρ Kn Γ w ht hst ok hok nm=>⟨[],trivial,fun _ _=>rfl⟩⟩
where Lv {b off m:Nat} :(⟨b,off,none⟩:Addr).add m=⟨b,off+m,none⟩:=by unfold Addr.add;split<;>simp_all
theorem bE {ok:Nat->Prop} {w:World} {o:aG} {x:Loc} (h:cw ok w o x): ∃u,∃l:List u.T,o= .row u l 0:=by
 cases o<;>first|exact h.elim|(obtain ⟨rfl,_⟩:=h;exact ⟨_,_,rfl⟩)
theorem mo {h:List aG} {n:Nat} {o:aG} (ho:aj h n=some o):h[n]? =some o:=by
 unfold aj at ho
 split at ho
 ·cases ho
 ·exact ho
theorem St.agx {ok S:Nat->Prop} {w:World} {os:List aG} {xs:List Loc} (h:bG (cw ok w) os xs) (hok: ∀b,ok b->bh w b/\ ¬S b) (hS: ∀b,S b->b<w.heap.size):
  St xw w (fun n=>xs.getD n {}) (· <(os++ [aG.hide S]).length) (aj (os++ [aG.hide S])) w:=by
 have hl:=h.length
 have hx: ∀n o,aj (os++ [aG.hide S]) n=some o->(cw ok w o (xs.getD n {})/\ n<os.length)\/ (n=os.length/\ o= .hide S):=fun n o ho=>by
  have h1:=mo ho
  rcases Nat.lt_or_ge n os.length with h2|h2
  ·rw [List.getElem?_append_left h2] at h1
   obtain ⟨x,h3,h4⟩:=h.get n o h1
   exact .inl ⟨by simpa [h3] using h4,h2⟩
  ·rw [List.getElem?_append_right h2] at h1
   have:n- os.length=0:=by
    rcases Nat.eq_zero_or_pos (n- os.length) with h3|h3
    ·exact h3
    ·rw [List.getElem?_eq_none (by simp;omega)] at h1;cases h1
   rw [this] at h1
   simp only [List.getElem?_cons_zero,Option.some.injEq] at h1
   exact .inr ⟨by omega,h1.symm⟩
 have dy: ∀n,(aj (os++ [aG.hide S]) n).isSome=true->(xs.getD n {}).blk=Option.none/\ (xs.getD n {}).iw= []:=fun n hn=>by
  obtain ⟨o,ho⟩:=Option.isSome_iff_exists.1 hn
  rcases hx n o ho with ⟨h1,_⟩|⟨rfl,_⟩
  ·obtain ⟨u,l,rfl⟩:=bE h1
   exact h1.2.1
  ·simp [List.getD,List.getElem?_eq_none (show xs.length<=os.length by omega)]
 refine ⟨Fr.refl _ _,fun n o ho=> ?_,fun n o ho=> ?_,fun n m b hn hm hb=> ?_,fun n b hn hb=> ?_,fun b ⟨m,S',h1,h2⟩=> ?_,fun n o ho=> .inr (dy n (by rw [ho];rfl)).2⟩
 rotate_right
 ·rcases hx m _ h1 with ⟨h3,_⟩|⟨_,e⟩
  ·obtain ⟨u,l,e⟩:=bE h3
   cases e
  ·cases e
   refine ⟨hS b h2,?_⟩
   rintro ⟨n,h3,h4⟩
   exact my (dy n h3) h4
 ·rcases hx n o ho with ⟨hg,_⟩|⟨rfl,rfl⟩
  ·obtain ⟨u,l,rfl⟩:=bE hg
   obtain ⟨_,h1,h2,h3,h4,vals,h5,h6⟩:=hg
   obtain ⟨e1,e2⟩:=jC h5
   have hfz: ∀b,ok b->dA (fun n=>xs.getD n {}) (aj (os++ [aG.hide S])) w b:=fun b hb=>⟨(hok b hb).1,by
    rintro (⟨m,g1,g2⟩|⟨m,S',g1,g2⟩)
    ·exact my (dy m g1) g2
    ·rcases hx m _ g1 with ⟨g3,_⟩|⟨_,e⟩
     ·obtain ⟨u,l,e⟩:=bE g3
      cases e
     ·cases e;exact (hok b hb).2 g2⟩
   refine ⟨h2,h3,h4,rz vals,fun i v hv=> ?_,fun q u' l' hq=> ?_,fun _=>h1.1,fun h=>absurd rfl h⟩
   ·rw [e1] at hv
    obtain ⟨a,g1,g2,g3⟩:=h6 i v hv
    exact ⟨a,g1,g2,fun _=>hfz _ g3⟩
   ·exact (e2 q u' l' hq).weak fun b hb=>⟨hfz b hb,fun h=>by cases h⟩
  ·exact (dy _ (by rw [ho];rfl)).1
 ·rcases hx n o ho with ⟨hg,hlt⟩|⟨rfl,rfl⟩
  ·obtain ⟨u,l,rfl⟩:=bE hg
   exact ⟨by simp;omega,trivial⟩
  ·exact ⟨by simp,trivial⟩
 ·exact (my (dy n hn) hb).elim
 ·exact (my (dy n hn) hb).elim
theorem xY {h:List aG} : ∀(p:kK) (l:List A0) (y:p.ty.T) (r:List A0),tW (aj h) p l=some (y,r)->
  ∃ys,l=ys++r/\ ∀au W ρ Kn w,St au W ρ Kn (aj h) w-> ∀ok,(∀b,dA ρ (aj h) w b->ok b)->(∀m,(aj h m).isSome=true-> ∀b,(ρ m).has b->bh w b->ok b)-> ∀nm,∃xs,bG (cw ok w) (aW 0 nm p y).2 xs/\
   ∀aQ:Env,(∀i x,xs[i]? =some x->aQ (nm+i)=x)->ys.map (A0.ae ρ)=(aW 0 nm p y).1.map (A0.ae aQ)
 | .one t,l,y,r,hd=>by
  simp only [tW] at hd
  split at hd<;>try (cases hd;done)
  rename_i c r1
  split at hd<;>try (cases hd;done)
  rename_i x tc h1
  cases hd
  obtain ⟨ys,e,hl,hs⟩:=dN _ t _ _ _ _ h1
  rw [List.append_nil] at e
  subst e
  refine ⟨[_],rfl,fun au W ρ Kn w hst ok hf ho nm=> ?_⟩
  obtain ⟨xs,g1,g2⟩:=iq (ok:=ok) _ _ nm (hs au W ρ Kn _ w (fun _ _=>rfl) hst ok ⟨hf,fun m _=>ho m⟩)
  refine ⟨xs,g1,fun aQ hr=> ?_⟩
  have:=g2 aQ hr
  simp only [aW,List.map_cons,List.map_nil]
  simp only [List.map_cons,List.map_nil] at this
  obtain ⟨c',Iw,e⟩: ∃c',(cm 0 nm (t.aT y)).1= [c']/\ c'.ae aQ=c.ae ρ:=by
   match hm:(cm 0 nm (t.aT y)).1,this with
   | [c'],h=>simp only [List.map_cons,List.map_nil,List.cons.injEq,and_true] at h;exact ⟨c',rfl,h⟩
   | [],h=>simp at h
   |_::_::_,h=>simp at h
  rw [Iw]
  simp only [tD,A0.ae,e]
 | .agg t,l,y,r,hd=>by
  simp only [tW] at hd
  split at hd<;>try (cases hd;done)
  rename_i cs r1
  split at hd<;>try (cases hd;done)
  rename_i x tc h1
  cases hd
  obtain ⟨ys,e,hl,hs⟩:=dN _ t _ _ _ _ h1
  rw [List.append_nil] at e
  subst e
  refine ⟨[_],rfl,fun au W ρ Kn w hst ok hf ho nm=> ?_⟩
  obtain ⟨xs,g1,g2⟩:=iq (ok:=ok) _ _ nm (hs au W ρ Kn _ w (fun _ _=>rfl) hst ok ⟨hf,fun m _=>ho m⟩)
  refine ⟨xs,g1,fun aQ hr=> ?_⟩
  have:=g2 aQ hr
  simp only [aW,tD,List.map_cons,List.map_nil,A0.ae,this]
 | .ptr t,l,y,r,hd=>by simp [tW] at hd
 | .iP f p,l,y,r,hd=>by simp [tW] at hd
 | .mv f agg t,l,y,r,hd=>by simp [tW] at hd
 | .pair a b,l,y,r,hd=>by
  simp only [tW] at hd
  split at hd<;>try (cases hd;done)
  rename_i x1 r1 h1
  split at hd<;>try (cases hd;done)
  rename_i x2 r2 h2
  cases hd
  obtain ⟨ys,e1,k1⟩:=xY a _ _ _ h1
  obtain ⟨zs,e2,k2⟩:=xY b _ _ _ h2
  refine ⟨ys++zs,by rw [e1,e2];simp,fun au W ρ Kn w hst ok hf ho nm=> ?_⟩
  obtain ⟨xs,g1,g2⟩:=k1 au W ρ Kn w hst ok hf ho nm
  obtain ⟨us,g3,g4⟩:=k2 au W ρ Kn w hst ok hf ho (nm+(aW 0 nm a x1).2.length)
  refine ⟨xs++us,g1.append g3,fun aQ hr=> ?_⟩
  have hl:=g1.length
  simp only [aW,List.map_append]
  rw [g2 aQ fun i x hi=>hr i x (by rw [List.getElem?_append_left (List.getElem?_eq_some_iff.1 hi).1];exact hi),g4 aQ fun i x hi=>by
   have:=hr (xs.length+i) x (by rw [List.getElem?_append_right (by omega)];simpa using hi)
   rwa [<- hl,<- Nat.add_assoc] at this]
 | .none,l,y,r,hd=>by
  simp only [tW,Option.some.injEq,Prod.mk.injEq] at hd
  obtain ⟨rfl,rfl⟩:=hd
  exact ⟨[],rfl,fun au W ρ Kn w hst ok hf ho nm=>⟨[],trivial,fun _ _=>rfl⟩⟩
theorem St.ac0 {au:eW} {W w:World} {ρ:Env} {Kn:Nat->Prop} {Γ:HP} {ok:Nat->Prop} {nm:Nat} {os:List aG} {xs:List Loc} {v:AV} {tc G:List Nat} (h:St au W ρ Kn Γ w) (hn: ∀i,i<os.length-> ¬Kn (nm+i)) (hg:bG (cw ok w) os xs)
  (hok: ∀b,ok b->bh w b/\ ¬HI Γ b/\ ∀m,m∉G->(Γ m).isSome=true-> ¬(ρ m).has b):
  ∃ρ',(∀m,Kn m->ρ' m=ρ m)/\ (∀i x,xs[i]? =some x->ρ' (nm+i)=x)/\ St au W ρ' (mG Kn nm {val:=v,fresh:=os,writes:=G.map fun n=>(n,.gone),aH:=tc}) (bO {val:=v,fresh:=os,writes:=G.map fun n=>(n,.gone),aH:=tc} nm Γ) w:=by
 have hlen:=hg.length
 let ρ':Env:=fun m=>if nm<=m/\ m<nm+os.length then xs.getD (m- nm) {} else ρ m
 have hold: ∀m,Kn m->ρ' m=ρ m:=fun m hm=>by
  simp only [ρ']
  rw [if_neg]
  rintro ⟨h2,h3⟩
  exact hn (m- nm) (by omega) (by rw [show nm+(m- nm)=m by omega];exact hm)
 have hnew: ∀i x,xs[i]? =some x->ρ' (nm+i)=x:=fun i x hi=>by
  have:=(List.getElem?_eq_some_iff.1 hi).1
  simp only [ρ']
  rw [if_pos (by omega),show nm+i- nm=i by omega]
  simp [hi]
 have bL: ∀m o,bO {val:=v,fresh:=os,writes:=G.map fun n=>(n,.gone),aH:=tc} nm Γ m=some o->(∃i x,m=nm+i/\ i<os.length/\ xs[i]? =some x/\ cw ok w o x)\/ (Γ m=some o/\ m∉G/\ Kn m):=by
  intro m o ho
  simp only [bO] at ho
  split at ho
  ·rename_i hc
   have hlt:m- nm<os.length:=by omega
   rw [List.getElem?_eq_getElem hlt] at ho
   obtain ⟨x,h1,h2⟩:=hg.get (m- nm) _ (List.getElem?_eq_getElem hlt)
   obtain ⟨u,l,e⟩:=bE h2
   rw [e] at ho h2
   simp only [live,Option.some.injEq] at ho
   subst ho
   exact .inl ⟨m- nm,x,by omega,hlt,h1,h2⟩
  ·rw [FY] at ho
   by_cases hm:m∈G
   ·rw [if_pos hm] at ho;simp [live] at ho
   ·rw [if_neg hm] at ho
    exact .inr ⟨ho,hm,(h.kn m o ho).1⟩
 have dy: ∀m b,(bO {val:=v,fresh:=os,writes:=G.map fun n=>(n,.gone),aH:=tc} nm Γ m).isSome=true->(ρ' m).has b->(Γ m).isSome=true/\ m∉G/\ (ρ m).has b:=fun m b h1 h2=>by
  obtain ⟨o,ho⟩:=Option.isSome_iff_exists.1 h1
  rcases bL m o ho with ⟨i,x,rfl,_,h3,h4⟩|⟨h3,h4,h5⟩
  ·rw [hnew i x h3] at h2
   obtain ⟨u,l,rfl⟩:=bE h4
   exact (my h4.2.1 h2).elim
  ·rw [hold m h5] at h2
   exact ⟨by rw [h3];rfl,h4,h2⟩
 have wu: ∀b,HI (bO {val:=v,fresh:=os,writes:=G.map fun n=>(n,.gone),aH:=tc} nm Γ) b->HI Γ b:=fun b ⟨m,S,h1,h2⟩=>by
  rcases bL m _ h1 with ⟨i,x,_,_,_,h4⟩|⟨h3,_,_⟩
  ·obtain ⟨u,l,e⟩:=bE h4
   cases e
  ·exact ⟨m,S,h3,h2⟩
 have hfz: ∀b,dA ρ Γ w b->dA ρ' (bO {val:=v,fresh:=os,writes:=G.map fun n=>(n,.gone),aH:=tc} nm Γ) w b/\ w.heap[b]? =w.heap[b]? :=fun b hb=>by
  refine ⟨⟨hb.1,?_⟩,rfl⟩
  rintro (⟨m,h1,h2⟩|hh)
  ·obtain ⟨h3,_,h4⟩:=dy m b h1 h2
   exact hb.2 (.inl ⟨m,h3,h4⟩)
  ·exact hb.2 (.inr (wu b hh))
 have Ov: ∀b,ok b->dA ρ' (bO {val:=v,fresh:=os,writes:=G.map fun n=>(n,.gone),aH:=tc} nm Γ) w b:=fun b hb=>by
  obtain ⟨k1,k2,k3⟩:=hok b hb
  refine ⟨k1,?_⟩
  rintro (⟨m,h1,h2⟩|hh)
  ·obtain ⟨h3,h4,h5⟩:=dy m b h1 h2
   exact k3 m h4 h3 h5
  ·exact k2 (wu b hh)
 refine ⟨ρ',hold,hnew,h.fr,fun m o ho=> ?_,fun m o ho=> ?_,fun m m' b hm hm' fC dI=> ?_,fun m b hm hb=> ?_,fun b hh=> ?_,fun m o ho=> ?_⟩
 rotate_right
 ·rcases bL m o ho with ⟨i,x,rfl,hi,h3,h4⟩|⟨h3,_,h5⟩
  ·obtain ⟨u,l,rfl⟩:=bE h4
   exact .inr (by rw [hnew i x h3];exact h4.2.1.2)
  ·rw [hold m h5];exact h.tg m o h3
 ·rcases bL m o ho with ⟨i,x,rfl,hi,h3,h4⟩|⟨h3,_,h5⟩
  ·obtain ⟨u,l,rfl⟩:=bE h4
   obtain ⟨_,g1,g2,g3,g4,vals,g5,g6⟩:=h4
   obtain ⟨e1,e2⟩:=jC g5
   rw [bn,hnew i x h3]
   refine ⟨g2,g3,g4,rz vals,fun i v hv=> ?_,fun q u' l' hq=> ?_,fun _=>g1.1,fun h=>absurd rfl h⟩
   ·rw [e1] at hv
    obtain ⟨a,k1,k2,k3⟩:=g6 i v hv
    exact ⟨a,k1,k2,fun _=>Ov _ k3⟩
   ·exact (e2 q u' l' hq).weak fun b hb=>⟨Ov b hb,fun h=>by cases h⟩
  ·exact ck (Kn:=Kn) (h.at_ m o h3) hold h5 (h.kn m o h3).2 hfz (fun _ _ h=>h) fun _ _=>rfl
 ·rcases bL m o ho with ⟨i,x,rfl,hi,h3,h4⟩|⟨h3,_,h5⟩
  ·obtain ⟨u,l,rfl⟩:=bE h4
   exact ⟨.inr (by simp only [];omega),trivial⟩
  ·exact ⟨.inl h5,aG.aR (fun _=> .inl) o (h.kn m o h3).2⟩
 ·obtain ⟨h1,_,h2⟩:=dy m b hm fC
  obtain ⟨h3,_,h4⟩:=dy m' b hm' dI
  exact h.dz m m' b h1 h3 h2 h4
 ·obtain ⟨h1,_,h2⟩:=dy m b hm hb
  exact h.jP m b h1 h2
 ·obtain ⟨h1,h2⟩:=h.oX b (wu b hh)
  refine ⟨h1,?_⟩
  rintro ⟨m,h3,h4⟩
  obtain ⟨h5,_,h6⟩:=dy m b h3 h4
  exact h2 ⟨m,h5,h6⟩
theorem Sw {v:AV} {l:List A0} (h:kj v=some l):ji l=v:=by
 cases v with
 |v a=>simp only [kj,Option.some.injEq] at h;subst h;rfl
 |nC l'=>
  simp only [kj] at h
  split at h
  ·cases h
  ·rename_i hne
   cases h
   match l,hne with
   | [],_=>rfl
   | [a],hne=>exact absurd rfl (hne a)
   |_::_::_,_=>rfl
 |dead=>simp [kj] at h
theorem wE {hp:HP} : ∀ {l:List Nat} {n:Nat},n∈uZ hp l↔n∈l/\ My hp n=true
 | [],n=>by simp [uZ]
 |m::r,n=>by
  simp only [uZ]
  split
  ·rename_i h
   simp only [List.mem_cons,wE (l:=r)]
   constructor
   ·rintro (rfl|⟨h1,h2⟩)
    ·exact ⟨.inl rfl,h⟩
    ·exact ⟨.inr h1,h2⟩
   ·rintro ⟨rfl|h1,h2⟩
    ·exact .inl rfl
    ·exact .inr ⟨h1,h2⟩
  ·rename_i h
   simp only [List.mem_cons,wE (l:=r)]
   constructor
   ·rintro ⟨h1,h2⟩;exact ⟨.inr h1,h2⟩
   ·rintro ⟨rfl|h1,h2⟩
    ·exact absurd h2 h
    ·exact ⟨h1,h2⟩
section
variable {P:Program} {tt:List (Nat×TI)} {specs:List (Nat×Spec)}
theorem ai.fnR (hT:cP P tt) (hS:ah P specs) (hm:P.follows .mixedOrders=true) {f:FuncId} {fn:Func} (hf:P.funcs[f]? =some fn) (hn:dg (ids (aD fn))=true) (p r:kK) (pre:p.ty.T->Prop) (g:p.ty.T->r.ty.T)
  (h: ∀x,pre x-> ∀S,∃lp its,ax P cf its/\ ay P cf (aD fn) lp/\ Vc (Ie ⟨tt,specs,cf,lp,[],its⟩ fn (cq p x) (c9 p x++ [.hide S]) (UD r S (· =g x)))):ai P f (DT ⟨p,r,pre,g⟩):=by
 intro X args hp nm k hs
 unfold DT at hs
 split at hs
 rotate_left
 ·exact hs.elim
 rename_i x tc b hd
 obtain ⟨rfl,hpre,hk⟩:=bg hs
 have hk:=hk _ rfl
 obtain ⟨as,e,hargs⟩:=kZ p _ _ _ _ hd
 rw [List.append_nil] at e
 subst e
 refine ⟨_,⟨fun q hq=> ?_,?_⟩,hk⟩
 ·obtain ⟨n,kM,rfl⟩:=List.mem_map.1 hq
  have:=(wE.1 kM).2
  unfold My at this
  intro h0
  simp only [h0] at this
  cases this
 intro au W ρ Kn Γ w _ _ ht hfr hst
 obtain ⟨S,hSd⟩: ∃S:Nat->Prop,S=fun b=>HI Γ b\/ ∃m,m∉uZ hp tc/\ (Γ m).isSome=true/\ (ρ m).has b:=⟨_,rfl⟩
 have alN: ∀b,S b->b<w.heap.size:=fun b hb=>by
  rw [hSd] at hb
  rcases hb with hb|⟨m,_,h1,h2⟩
  ·exact (hst.oX b hb).1
  ·exact hst.lt m b h1 h2
 have hok:lY (fun b=>bh w b/\ ¬S b) ρ Γ w tc:=by
  refine ⟨fun b hb=>⟨hb.1,fun hs=> ?_⟩,fun m hm h1 b hb hc=>⟨hc,fun hs=> ?_⟩⟩
  ·rw [hSd] at hs
   rcases hs with hs|⟨m,_,h1,h2⟩
   ·exact hb.2 (.inr hs)
   ·exact hb.2 (.inl ⟨m,h1,h2⟩)
  ·rw [hSd] at hs
   rcases hs with hs|⟨m',h2,h3,h4⟩
   ·exact (hst.oX b hs).2 ⟨m,h1,hb⟩
   ·have:=hst.dz m' m b h3 h1 h4 hb
    subst this
    refine h2 (wE.2 ⟨hm,?_⟩)
    obtain ⟨o,ho⟩:=Option.isSome_iff_exists.1 h1
    have aO:=hst.at_ m' o ho
    have hb:(ρ m').blk=some b\/ ∃g,o= .set g:=(hst.tg m' o ho).elim .inr fun h=> .inl ((FC h).1 hb)
    rw [ht m' hm] at ho
    unfold My
    rw [ho]
    rcases hb with hb|⟨g,rfl⟩
    rotate_left
    ·rfl
    cases o with
    |cells cs e=>rfl
    |row t l rk=>
     obtain ⟨_,_,_,sub,_,_,h5,_⟩:=aO
     by_cases e:rk=0
     ·rw [h5 e] at hb;cases hb
     ·simpa using e
    |alias=>rfl
    |gone=>exact aO.elim
    |loop r' s j=>
     obtain ⟨b',hb',hh⟩:=aO
     rw [hb] at hb';cases hb'
     obtain ⟨_,_,_,h6⟩:=hc
     rw [hh] at h6;cases h6
    |bT=>rw [aO.1] at hb;cases hb
    |hide=>rw [show (ρ m').blk=Option.none from aO] at hb;cases hb
    |map ka va k v l=>
     obtain ⟨_,_,b',es,mY,hb',hh,_⟩:=aO
     rw [hb] at hb';cases hb'
     obtain ⟨_,_,_,h6⟩:=hc
     rw [hh] at h6;cases h6
    |Jp ka k u l c q=>
     obtain ⟨_,_,_,b',es,mY,hb',hh,_⟩:=aO
     rw [hb] at hb';cases hb'
     obtain ⟨_,_,_,h6⟩:=hc
     rw [hh] at h6;cases h6
    |set=>rfl
    |gv=>rw [aO.1] at hb;cases hb
    |dp=>rw [aO.1] at hb;cases hb
    |nv=>rw [aO.1] at hb;cases hb
    |rc=>rw [aO.1] at hb;cases hb
    |hmap es mY=>
     obtain ⟨b',hb',hh⟩:=aO
     rw [hb] at hb';cases hb'
     obtain ⟨_,_,_,h6⟩:=hc
     rw [hh] at h6;cases h6
    |OP g c es mY ka k u l cur=>
     obtain ⟨_,_,_,b',_,_,_,hb',hh,_⟩:=aO
     rw [hb] at hb';cases hb'
     obtain ⟨_,_,_,h6⟩:=hc
     rw [hh] at h6;cases h6
 obtain ⟨xs,hg,hc⟩:=hargs au W ρ Kn Γ w ht hst _ hok 0
 have hb:=St.agx hg (fun b hb=>hb) alN
 obtain ⟨lp,its,hi,hl,hfn⟩:=h x hpre S
 have hcs:=hc (fun n=>xs.getD n {}) fun i y hy=>by simp [hy]
 have key:=iO (ctx:=⟨tt,specs,cf,lp,[],its⟩) hT ⟨hS,mU.nil P,hi⟩ (cf.ok xw w) hm hf (fun c hc=>by
  have:aD fn=c:=by unfold aD;rw [hc]
  subst this
  exact wD (dJ hn) hl) hfn.h (fun y hy=>by
   obtain ⟨a,ha,rfl⟩:=List.mem_map.1 hy
   exact A0.aR (fun m hm=>by simp [c9] at hm ⊢;omega) a (gW 0 p x 0 a ha)) hb
 have ea:(cq p x).map (AV.ae fun n=>xs.getD n {})=args.map (AV.ae ρ):=by
  rw [hcs];simp [cq,AV.ae,Function.comp_def]
 rw [ea] at key
 refine key.mono ?_
 rintro e w' ⟨st,aQ,v,rfl,hv,hR,m9⟩
 unfold UD at hR
 split at hR
 rotate_left
 ·exact hR.elim
 rename_i l xq
 split at hR
 rotate_left
 ·exact hR.elim
 rename_i y hdr
 obtain ⟨rfl,nh,hh⟩:=CA hR
 obtain ⟨ys,e1,ag6⟩:=xY r _ _ _ hdr
 rw [List.append_nil] at e1
 subst e1
 obtain ⟨us,hgu,hcu⟩:=ag6 xw w aQ _ w' m9 (fun b=>bh w' b/\ ¬S b) (fun b hb=>⟨hb.1,fun hs=>hb.2 (.inr ⟨nh,S,hh,hs⟩)⟩) (fun m h1 b h2 h3=>⟨h3,fun hs=>(m9.oX b ⟨nh,S,hh,hs⟩).2 ⟨m,h1,h2⟩⟩) nm
 obtain ⟨ρ',r1,r2,r3⟩:=(hst.called m9.fr).ac0 (v:=ji (aW 0 nm r (g x)).1) (tc:=tc) (G:=uZ hp tc) (nm:=nm) hfr hgu (fun b hb=>by
  refine ⟨hb.1,fun h1=>hb.2 (by rw [hSd];exact .inl h1),fun m h1 h2 h3=>hb.2 (by rw [hSd];exact .inr ⟨m,h1,h2,h3⟩)⟩)
 refine ⟨ρ',?_,r1,?_,r3⟩
 ·congr 1
  rw [<- Sw xq]
  exact wP (hcu ρ' r2)
 ·exact Eg fun c hc=>A0.aR (fun m hm=> .inr (by simpa using hm)) c (gW 0 r (g x) nm c hc)
end
def vT (p:kK) (s1 s2:Spec):Spec:=fun X args hp nm k=>match eY hp p args with
 |some _=>s1 X args hp nm k
 |none=>s2 X args hp nm k
theorem rG {P:Program} {f:FuncId} {p:kK} {s1 s2:Spec} (h1:ai P f s1) (h2:ai P f s2):ai P f (vT p s1 s2):=by
 intro X args hp nm k h
 unfold vT at h
 split at h
 ·exact h1 X args hp nm k h
 ·exact h2 X args hp nm k h
def YU:cD:=fun _ _ _ _=>False
theorem VJ {P:Program} {X:Addr->Value->Prop} {f:FuncId} :fJ P X f YU:=fun _ _ _ _ h=>h.elim
end Go.Ev
