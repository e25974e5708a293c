/- Proofs of printed conditions: how the parts are joined. -/
import Derived.Test.YtlkgabjhkfhgaaaGreatEvL
noncomputable section
set_option linter.unusedSectionVars false
set_option linter.unusedVariables false
set_option linter.unusedSimpArgs false
namespace Go.Ev
abbrev I2:Type:=Int×Int
abbrev I3:Type:=Int×(Int×Int)
abbrev I9:Type:=(Int×(Int×Int))×((Int×(Int×Int))×(Int×(Int×Int)))
abbrev Tj:Int×Int:=((0:Int),(0:Int))
abbrev eE:Int×(Int×Int):=((0:Int),((0:Int),(0:Int)))
abbrev G5:(Int×(Int×Int))×((Int×(Int×Int))×(Int×(Int×Int))):=(((0:Int),((0:Int),(0:Int))),(((0:Int),((0:Int),(0:Int))),((0:Int),((0:Int),(0:Int)))))
abbrev yi:Ty:= .int .i64
abbrev Dm:Ty:=Ty.prod (Ty.int IntKind.i64) (Ty.int IntKind.i64)
abbrev bz:Ty:=Ty.prod (Ty.int IntKind.i64) (Ty.prod (Ty.int IntKind.i64) (Ty.int IntKind.i64))
abbrev bP:Ty:=Ty.prod (Ty.prod (Ty.int IntKind.i64) (Ty.prod (Ty.int IntKind.i64) (Ty.int IntKind.i64))) (Ty.prod (Ty.prod (Ty.int IntKind.i64) (Ty.prod (Ty.int IntKind.i64) (Ty.int IntKind.i64))) (Ty.prod (Ty.int IntKind.i64) (Ty.prod (Ty.int IntKind.i64) (Ty.int IntKind.i64))))
def ai {α β:Type} (a:α) (f:α->β):β:=f a
def az {α:Type} (a:α) (f:α->Prop):Prop:=f a
theorem aaA {α:Type} {Q:α->Prop} {p:Prop} [Decidable p] {x y:α} {t1 t2:Prop} (hq:Q (if p then x else y)) (h1:p->Q x->t1) (h2: ¬p->Q y->t2):cB (decide p) t1 t2:=by
 by_cases h:p
 ·rw [if_pos h] at hq;rw [decide_eq_true h];exact h1 h hq
 ·rw [if_neg h] at hq;rw [decide_eq_false h];exact h2 h hq
theorem aaz {α:Type} {Q:α->Prop} {b:Bool} {x y:α} {t1 t2:Prop} (hq:Q (if b=true then x else y)) (h1:b=true->Q x->t1) (h2: ¬b=true->Q y->t2):cB b t1 t2:=by
 cases b with
 |true=>exact h1 rfl hq
 |false=>exact h2 (by simp) hq
theorem OM {b:Bool} {t:Prop} (h:b=true) (ht:t):ob b t:=by subst h;exact ht
theorem c7 {b c:Bool} (h1:b=true) (h2:c=true):(b&&c)=true:=by rw [h1,h2];rfl
theorem Mk {α β:Type} {Q:β->Prop} {g:α} {F:α->β} {P t:α->Prop} (hp:az g P) (hq:Q (ai g F)) (h: ∀y,P y->Q (F y)->t y): ∀y,y=g->t y:=by
 rintro y rfl;exact h _ hp hq
theorem ah.c8 {P:Program} {tt:List (Nat×TI)} {specs:List (Nat×Spec)} {X:Addr->Value->Prop} {lp:List (Nat×iw)} {dR:List (Nat×eV)} (h:ah P specs) (hi:aA P X dR):qE P ⟨tt,specs,X,lp,[],dR⟩:=⟨h,vh.nil P,hi⟩
structure Vc (p:Prop):Prop where
 h:p
theorem Vc.eq {p q:Prop} (e:p=q) (h:q):Vc p:=⟨e▸h⟩
structure aar (ctx:Ctx) (c:Code) (id:Nat) (sp:iw):Prop where
 h: ∀st K,sp st K->iF ctx c st (tX id (BU K))
section
variable {ctx:Ctx} {c:Code} {id:Nat}
end
section
variable {P:Program} {tt:List (Nat×TI)} {specs:List (Nat×Spec)}
end
end Go.Ev
namespace Go.Ev
open Go.RowKit
def GF (hp:HP) (n:Nat):Bool:=match hp n with
 |some (.row _ _ rk)=>rk !=0
 |some (.alias _ _ _)=>true
 |some (.cells _ _)=>true
 |some (.set _)=>true
 |_=>false
def rQ (hp:HP):List Nat->List Nat
 | []=> []
 |n::r=>if GF hp n then n::rQ hp r else rQ hp r
def zV (s:dS):Spec:=fun _ args hp nm k=>match iG hp s.p args with
 |some (x,[],tc,b)=>ob b (s.pre x/\ ∀y,y=s.f x->k {val:=jo (aW 0 nm s.r y).1,fresh:=(aW 0 nm s.r y).2,writes:=(rQ hp tc).map fun n=>(n,.gone),aD:=tc})
 |_=>False
def qT (hp:HP):(p:nn)->List A0->Option (p.ty.T×List A0)
 | .one t,l=>match l with
  | .one c::r=>match ck hp t [c] with
   |some (y,[],_)=>some (y,r)
   |_=>none
  |_=>none
 | .agg t,l=>match l with
  | .agg cs::r=>match ck hp t cs with
   |some (y,[],_)=>some (y,r)
   |_=>none
  |_=>none
 | .ptr _,_=>none
 | .jS _ _,_=>none
 | .mv _ _ _,_=>none
 | .pair a b,l=>match qT hp a l with
  |some (x,r)=>match qT hp b r with
   |some (y,r')=>some ((x,y),r')
   |none=>none
  |none=>none
 | .none,l=>some (false,l)
def Gg (S:Nat->Prop) (K:Prop):List aF->Prop
 | []=>False
 |o::r=>match o with
  | .fJ S'=>S'=S/\ K
  |_=>Gg S K r
def MF (r:nn) (S:Nat->Prop) (Q:r.ty.T->Prop) (v:AV) (st:AS):Prop:=match jJ v with
 |some l=>match qT (aj st.heap) r l with
  |some (y,[])=>Gg S (Q y) st.heap
  |_=>False
 |none=>False
theorem yJ {S:Nat->Prop} {K:Prop} : ∀ {h:List aF},Gg S K h->K/\ ∃n,aj h n=some (.fJ S)
 | [],h=>h.elim
 |o::r,h=>by
  have main:Gg S K r->K/\ ∃n,aj (o::r) n=some (.fJ S):=fun h=>by
   obtain ⟨h1,n,h2⟩:=yJ h
   exact ⟨h1,n+1,by simpa [aj] using h2⟩
  cases o with
  |fJ S'=>obtain ⟨rfl,h⟩:=h;exact ⟨h,0,by simp [aj]⟩
  |_=>exact main h
def cV (ok:Nat->Prop) (w:World):aF->Loc->Prop
 | .row u l rk,x=>rk=0/\ (x.bW=none/\ x.ik= [])/\ x.len=l.length/\ x.es=u.size/\ l.length<=x.cap/\ jU w ok x.base u l
 |_,_=>False
theorem gM {ok:Nat->Prop} {w:World} : ∀(cs:List cl) (vals:List Value) (nm:Nat),bK (Ay w ok) cs vals->
  ∃xs,bK (cV ok w) (cq 0 nm cs).2 xs/\ ∀bh:Env,(∀i x,xs[i]? =some x->bh (nm+i)=x)->(cq 0 nm cs).1.map (Cell.af bh)=vals
 | [],[],nm,_=>⟨[],trivial,fun _ _=>rfl⟩
 | [],_::_,_,h=>h.elim
 |_::_,[],_,h=>h.elim
 | .flat v::r,v'::vr,nm,h=>by
  obtain ⟨xs,h1,h2⟩:=gM r vr nm h.2
  refine ⟨xs,h1,fun bh hr=> ?_⟩
  have:=h2 bh hr
  have hv:v'=v:=h.1
  simp only [cq,List.map_cons,this,hv];rfl
 | .sl u l::r,v'::vr,nm,h=>by
  obtain ⟨xs,h1,h2⟩:=gM r vr (nm+1) h.2
  obtain ⟨a,c,hv,hc,hr⟩:=h.1
  refine ⟨{bW:=none,base:=a,len:=l.length,cap:=c,es:=u.size} ::xs,⟨⟨rfl,⟨rfl,rfl⟩,rfl,rfl,hc,hr⟩,h1⟩,fun bh hr=> ?_⟩
  have:=h2 bh fun i x hi=>by
   have:=hr (i+1) x (by simpa using hi)
   rwa [show nm+(i+1)=nm+1+i by omega] at this
  have h0:=hr 0 _ rfl
  rw [Nat.add_zero] at h0
  simp only [cq,List.map_cons,this,hv,Cell.af,h0]
theorem j6 {hp:HP} : ∀(p:nn) (args:List AV) (x:p.ty.T) (r:List AV) (tc:List Nat),iG hp p args=some (x,r,tc,true)->
  ∃as,args=as++r/\ ∀ay W ρ Kn Γ w,(∀m∈tc,Γ m=hp m)->St ay W ρ Kn Γ w-> ∀ok,lX ok ρ Γ w tc-> ∀nm,∃xs,bK (cV ok w) (aW 0 nm p x).2 xs/\
   ∀bh:Env,(∀i x,xs[i]? =some x->bh (nm+i)=x)->as.map (AV.af ρ)=(aW 0 nm p x).1.map (A0.af bh)
 | .one t,args,x,r,tc,h=>by
  simp only [iG] at h
  split at h<;>try (cases h;done)
  rename_i c r'
  split at h<;>try (cases h;done)
  rename_i y uW hd
  cases h
  obtain ⟨ys,e,hl,hs⟩:=dJ hp t _ _ _ _ hd
  rw [List.append_nil] at e
  subst e
  refine ⟨[_],rfl,fun ay W ρ Kn Γ w ht hst ok hok nm=> ?_⟩
  obtain ⟨xs,h1,h2⟩:=gM _ _ nm (hs ay W ρ Kn Γ w ht hst ok hok)
  refine ⟨xs,h1,fun bh hr=> ?_⟩
  have:=h2 bh hr
  simp only [aW,List.map_cons,List.map_nil]
  simp only [List.map_cons,List.map_nil] at this
  obtain ⟨c',Ig,e⟩: ∃c',(cq 0 nm (t.aQ x)).1= [c']/\ c'.af bh=c.af ρ:=by
   match hm:(cq 0 nm (t.aQ x)).1,this with
   | [c'],h=>simp only [List.map_cons,List.map_nil,List.cons.injEq,and_true] at h;exact ⟨c',rfl,h⟩
   | [],h=>simp at h
   |_::_::_,h=>simp at h
  rw [Ig]
  simp only [qB,AV.af,A0.af,e]
 | .agg t,args,x,r,tc,h=>by
  simp only [iG] at h
  split at h<;>try (cases h;done)
  rename_i cs r'
  split at h<;>try (cases h;done)
  rename_i y uW hd
  cases h
  obtain ⟨ys,e,hl,hs⟩:=dJ hp t _ _ _ _ hd
  rw [List.append_nil] at e
  subst e
  refine ⟨[_],rfl,fun ay W ρ Kn Γ w ht hst ok hok nm=> ?_⟩
  obtain ⟨xs,h1,h2⟩:=gM _ _ nm (hs ay W ρ Kn Γ w ht hst ok hok)
  refine ⟨xs,h1,fun bh hr=> ?_⟩
  have:=h2 bh hr
  simp only [aW,qB,List.map_cons,List.map_nil,AV.af,A0.af,this]
 | .ptr t,args,x,r,tc,h=>by
  simp only [iG] at h
  split at h
  ·rename_i n off r'
   split at h<;>try (cases h;done)
   rename_i cs e he
   split at h<;>try (cases h;done)
   rename_i y uW hd
   split at h<;>try (cases h;done)
   rename_i hsh
   cases h
   obtain ⟨ys,e1,hl,hs⟩:=dJ hp t _ _ _ _ hd
   rw [List.append_nil] at e1
   refine ⟨[_],rfl,fun ay W ρ Kn Γ w ht hst ok hok nm=> ?_⟩
   have hall:=sx t x _ hsh (hs ay W ρ Kn Γ w (fun m hm=>ht m (by simp [hm])) hst ok (hok.sub fun m hm=>by simp [hm]))
   obtain ⟨b,hb,hh⟩:=hst.at_ n _ (by rw [ht n (by simp),he])
   refine ⟨[{bW:=none,base:=addrOf ρ n off,len:=1,cap:=1,es:=t.size}],⟨⟨rfl,⟨rfl,rfl⟩,rfl,rfl,by simp,ys.map (Cell.af ρ),?_,fun i v hv=> ?_⟩,trivial⟩,fun bh hr=> ?_⟩
   ·simpa [ax] using hall
   ·refine ⟨⟨b,off,none⟩,by simp [addrOf,hb],?_,?_⟩
    ·rw [FK,bL (by simpa using hh)]
     rw [<- e1,List.map_take,List.map_drop,List.getElem?_take] at hv
     split at hv
     ·rwa [List.getElem?_drop] at hv
     ·cases hv
    ·exact hok.2 n (by simp) (by rw [ht n (by simp),he];rfl) b (.inl hb) ⟨_,_,_,hh⟩
   ·have h0:=hr 0 _ rfl
    rw [Nat.add_zero] at h0
    simp only [aW,List.map_cons,List.map_nil,AV.af,A0.af,Cell.af,h0]
    cases addrOf ρ n off<;>simp [add_zero']
  ·rename_i n j r'
   split at h<;>try (cases h;done)
   rename_i u l rk he
   split at h<;>try (cases h;done)
   rename_i l' hl'
   simp only [Option.some.injEq,Prod.mk.injEq,decide_eq_true_eq] at h
   obtain ⟨rfl,rfl,rfl,hj⟩:=h
   obtain ⟨e,e2⟩:=cn hl'
   subst e
   dsimp only at e2
   subst e2
   refine ⟨[_],rfl,fun ay W ρ Kn Γ w ht hst ok hok nm=> ?_⟩
   have bN:Γ n=some (.row u l rk):=by rw [ht n (by simp),he]
   have Y5:=hst.Cj bN hok (by simp)
   have hes:(ρ n).es=u.size:=(hst.at_ n _ bN).2.1
   have hp:=Y5.part (a':=(ρ n).base.map (·.add (j*u.size))) j (some 1) fun _=>rfl
   have u7:lD l j (some 1)= [gd u l j]:=by
    simp only [lD,gd,List.getD_eq_getElem?_getD,List.getElem?_eq_getElem hj,Option.getD_some]
    rw [List.drop_eq_getElem_cons hj];rfl
   rw [u7] at hp
   refine ⟨[{bW:=none,base:=(ρ n).base.map (·.add (j*u.size)),len:=1,cap:=1,es:=u.size}],⟨⟨rfl,⟨rfl,rfl⟩,rfl,rfl,by simp,hp⟩,trivial⟩,fun bh hr=> ?_⟩
   have h0:=hr 0 _ rfl
   rw [Nat.add_zero] at h0
   simp only [aW,List.map_cons,List.map_nil,AV.af,A0.af,Cell.af,h0,hes]
   cases (ρ n).base<;>simp [add_zero']
  ·cases h
 | .jS f p,args,x,r,tc,h=>by
  simp only [iG] at h
  split at h<;>try (cases h;done)
  rename_i g cap r'
  split at h<;>try (cases h;done)
  rename_i hg
  split at h<;>try (cases h;done)
  rename_i x1 Al b1 h1
  simp only [Option.some.injEq,Prod.mk.injEq,Bool.and_eq_true] at h
  obtain ⟨rfl,rfl,rfl,hc,rfl⟩:=h
  subst hg
  obtain ⟨as,e1,k1⟩:=j6 p _ _ _ _ h1
  rw [List.append_nil] at e1
  refine ⟨[_],rfl,fun ay W ρ Kn Γ w ht hst ok hok nm=> ?_⟩
  obtain ⟨xs,g1,g2⟩:=k1 ay W ρ Kn Γ w ht hst ok hok nm
  refine ⟨xs,g1,fun bh hr=> ?_⟩
  have h2:=g2 bh hr
  have e2:cap.map (Ref.af ρ)=((aW 0 nm p x1).1.map IW).map (Ref.af bh):=by
   rw [EW p hc,<- h2,<- e1,List.map_map]
   exact List.map_congr_left fun q _=>(pW ρ q).symm
  simp only [aW,List.map_cons,List.map_nil,AV.af,A0.af,Cell.af,e2]
 | .mv f agg t,args,x,r,tc,h=>by
  simp only [iG] at h
  split at h<;>try (cases h;done)
  rename_i g Wh rs r'
  split at h<;>try (cases h;done)
  rename_i hg
  split at h<;>try (cases h;done)
  rename_i y uW hd
  cases h
  obtain ⟨rfl,rfl⟩:=hg
  obtain ⟨ys,e,hl,hs⟩:=dJ hp t _ _ _ _ hd
  rw [List.append_nil] at e
  refine ⟨[_],rfl,fun ay W ρ Kn Γ w ht hst ok hok nm=> ?_⟩
  obtain ⟨xs,h1,h2⟩:=gM _ _ nm (hs ay W ρ Kn Γ w ht hst ok hok)
  refine ⟨xs,h1,fun bh hr=> ?_⟩
  have h3:=h2 bh hr
  have e2:rs.map (Ref.af ρ)=((cq 0 nm (t.aQ x)).1.map Sg).map (Ref.af bh):=by
   rw [tg,h3,<- e,List.map_map]
   exact List.map_congr_left fun q _=>(mm ρ q).symm
  simp only [aW,List.map_cons,List.map_nil,AV.af,A0.af,Cell.af,e2]
 | .pair a b,args,x,r,tc,h=>by
  simp only [iG] at h
  split at h<;>try (cases h;done)
  rename_i x1 r1 Al f1 h1
  split at h<;>try (cases h;done)
  rename_i x2 r2 FE f2 h2
  simp only [Option.some.injEq,Prod.mk.injEq,Bool.and_eq_true] at h
  obtain ⟨rfl,rfl,rfl,rfl,rfl⟩:=h
  obtain ⟨as,e1,k1⟩:=j6 a _ _ _ _ h1
  obtain ⟨bs,e2,k2⟩:=j6 b _ _ _ _ h2
  refine ⟨as++bs,by rw [e1,e2];simp,fun ay W ρ Kn Γ w ht hst ok hok nm=> ?_⟩
  obtain ⟨xs,g1,g2⟩:=k1 ay W ρ Kn Γ w (fun m hm=>ht m (by simp [hm])) hst ok (hok.sub fun m hm=>by simp [hm]) nm
  obtain ⟨ys,g3,g4⟩:=k2 ay W ρ Kn Γ w (fun m hm=>ht m (by simp [hm])) hst ok (hok.sub fun m hm=>by simp [hm]) (nm+(aW 0 nm a x1).2.length)
  refine ⟨xs++ys,g1.append g3,fun bh hr=> ?_⟩
  have hl:=g1.length
  simp only [aW,List.map_append]
  rw [g2 bh fun i x hi=>hr i x (by rw [List.getElem?_append_left (List.getElem?_eq_some_iff.1 hi).1];exact hi),g4 bh fun i x hi=>by
   have:=hr (xs.length+i) x (by rw [List.getElem?_append_right (by omega)];simpa using hi)
   rwa [<- hl,<- Nat.add_assoc] at this]
 | .none,args,x,r,tc,h=>by
  simp only [iG,Option.some.injEq,Prod.mk.injEq,and_true] at h
  obtain ⟨rfl,rfl,rfl⟩:=h
  exact ⟨[],rfl,fun ay W ρ Kn Γ w ht hst ok hok nm=>⟨[],trivial,fun _ _=>rfl⟩⟩
where FK {b off m:Nat} :(⟨b,off,none⟩:Addr).add m=⟨b,off+m,none⟩:=by unfold Addr.add;split<;>simp_all
theorem bF {ok:Nat->Prop} {w:World} {o:aF} {x:Loc} (h:cV ok w o x): ∃u,∃l:List u.T,o= .row u l 0:=by
 cases o<;>first|exact h.elim|(obtain ⟨rfl,_⟩:=h;exact ⟨_,_,rfl⟩)
theorem nJ {h:List aF} {n:Nat} {o:aF} (ho:aj h n=some o):h[n]? =some o:=by
 unfold aj at ho
 split at ho
 ·cases ho
 ·exact ho
theorem St.Wm {ok S:Nat->Prop} {w:World} {os:List aF} {xs:List Loc} (h:bK (cV ok w) os xs) (hok: ∀b,ok b->aZ w b/\ ¬S b) (hS: ∀b,S b->b<w.heap.size):
  St K2 w (fun n=>xs.getD n {}) (· <(os++ [aF.fJ S]).length) (aj (os++ [aF.fJ S])) w:=by
 have hl:=h.length
 have hx: ∀n o,aj (os++ [aF.fJ S]) n=some o->(cV ok w o (xs.getD n {})/\ n<os.length)\/ (n=os.length/\ o= .fJ S):=fun n o ho=>by
  have h1:=nJ ho
  rcases Nat.lt_or_ge n os.length with h2|h2
  ·rw [List.getElem?_append_left h2] at h1
   obtain ⟨x,h3,h4⟩:=h.get n o h1
   exact .inl ⟨by simpa [h3] using h4,h2⟩
  ·rw [List.getElem?_append_right h2] at h1
   have:n- os.length=0:=by
    rcases Nat.eq_zero_or_pos (n- os.length) with h3|h3
    ·exact h3
    ·rw [List.getElem?_eq_none (by simp;omega)] at h1;cases h1
   rw [this] at h1
   simp only [List.getElem?_cons_zero,Option.some.injEq] at h1
   exact .inr ⟨by omega,h1.symm⟩
 have dU: ∀n,(aj (os++ [aF.fJ S]) n).isSome=true->(xs.getD n {}).bW=Option.none/\ (xs.getD n {}).ik= []:=fun n hn=>by
  obtain ⟨o,ho⟩:=Option.isSome_iff_exists.1 hn
  rcases hx n o ho with ⟨h1,_⟩|⟨rfl,_⟩
  ·obtain ⟨u,l,rfl⟩:=bF h1
   exact h1.2.1
  ·simp [List.getD,List.getElem?_eq_none (show xs.length<=os.length by omega)]
 refine ⟨Fr.refl _ _,fun n o ho=> ?_,fun n o ho=> ?_,fun n m b hn hm hb=> ?_,fun n b hn hb=> ?_,fun b ⟨m,S',h1,h2⟩=> ?_,fun n o ho=> .inr (dU n (by rw [ho];rfl)).2⟩
 rotate_right
 ·rcases hx m _ h1 with ⟨h3,_⟩|⟨_,e⟩
  ·obtain ⟨u,l,e⟩:=bF h3
   cases e
  ·cases e
   refine ⟨hS b h2,?_⟩
   rintro ⟨n,h3,h4⟩
   exact mS (dU n h3) h4
 ·rcases hx n o ho with ⟨hg,_⟩|⟨rfl,rfl⟩
  ·obtain ⟨u,l,rfl⟩:=bF hg
   obtain ⟨_,h1,h2,h3,h4,vals,h5,h6⟩:=hg
   obtain ⟨e1,e2⟩:=ja h5
   have hfz: ∀b,ok b->dQ (fun n=>xs.getD n {}) (aj (os++ [aF.fJ S])) w b:=fun b hb=>⟨(hok b hb).1,by
    rintro (⟨m,g1,g2⟩|⟨m,S',g1,g2⟩)
    ·exact mS (dU m g1) g2
    ·rcases hx m _ g1 with ⟨g3,_⟩|⟨_,e⟩
     ·obtain ⟨u,l,e⟩:=bF g3
      cases e
     ·cases e;exact (hok b hb).2 g2⟩
   refine ⟨h2,h3,h4,o8 vals,fun i v hv=> ?_,fun q u' l' hq=> ?_,fun _=>h1.1,fun h=>absurd rfl h⟩
   ·rw [e1] at hv
    obtain ⟨a,g1,g2,g3⟩:=h6 i v hv
    exact ⟨a,g1,g2,fun _=>hfz _ g3⟩
   ·exact (e2 q u' l' hq).weak fun b hb=>⟨hfz b hb,fun h=>by cases h⟩
  ·exact (dU _ (by rw [ho];rfl)).1
 ·rcases hx n o ho with ⟨hg,hlt⟩|⟨rfl,rfl⟩
  ·obtain ⟨u,l,rfl⟩:=bF hg
   exact ⟨by simp;omega,trivial⟩
  ·exact ⟨by simp,trivial⟩
 ·exact (mS (dU n hn) hb).elim
 ·exact (mS (dU n hn) hb).elim
theorem uo {h:List aF} : ∀(p:nn) (l:List A0) (y:p.ty.T) (r:List A0),qT (aj h) p l=some (y,r)->
  ∃ys,l=ys++r/\ ∀ay W ρ Kn w,St ay W ρ Kn (aj h) w-> ∀ok,(∀b,dQ ρ (aj h) w b->ok b)->(∀m,(aj h m).isSome=true-> ∀b,(ρ m).has b->aZ w b->ok b)-> ∀nm,∃xs,bK (cV ok w) (aW 0 nm p y).2 xs/\
   ∀bh:Env,(∀i x,xs[i]? =some x->bh (nm+i)=x)->ys.map (A0.af ρ)=(aW 0 nm p y).1.map (A0.af bh)
 | .one t,l,y,r,hd=>by
  simp only [qT] at hd
  split at hd<;>try (cases hd;done)
  rename_i c r1
  split at hd<;>try (cases hd;done)
  rename_i x tc h1
  cases hd
  obtain ⟨ys,e,hl,hs⟩:=dJ _ t _ _ _ _ h1
  rw [List.append_nil] at e
  subst e
  refine ⟨[_],rfl,fun ay W ρ Kn w hst ok hf ho nm=> ?_⟩
  obtain ⟨xs,g1,g2⟩:=gM (ok:=ok) _ _ nm (hs ay W ρ Kn _ w (fun _ _=>rfl) hst ok ⟨hf,fun m _=>ho m⟩)
  refine ⟨xs,g1,fun bh hr=> ?_⟩
  have:=g2 bh hr
  simp only [aW,List.map_cons,List.map_nil]
  simp only [List.map_cons,List.map_nil] at this
  obtain ⟨c',Ig,e⟩: ∃c',(cq 0 nm (t.aQ y)).1= [c']/\ c'.af bh=c.af ρ:=by
   match hm:(cq 0 nm (t.aQ y)).1,this with
   | [c'],h=>simp only [List.map_cons,List.map_nil,List.cons.injEq,and_true] at h;exact ⟨c',rfl,h⟩
   | [],h=>simp at h
   |_::_::_,h=>simp at h
  rw [Ig]
  simp only [qB,A0.af,e]
 | .agg t,l,y,r,hd=>by
  simp only [qT] at hd
  split at hd<;>try (cases hd;done)
  rename_i cs r1
  split at hd<;>try (cases hd;done)
  rename_i x tc h1
  cases hd
  obtain ⟨ys,e,hl,hs⟩:=dJ _ t _ _ _ _ h1
  rw [List.append_nil] at e
  subst e
  refine ⟨[_],rfl,fun ay W ρ Kn w hst ok hf ho nm=> ?_⟩
  obtain ⟨xs,g1,g2⟩:=gM (ok:=ok) _ _ nm (hs ay W ρ Kn _ w (fun _ _=>rfl) hst ok ⟨hf,fun m _=>ho m⟩)
  refine ⟨xs,g1,fun bh hr=> ?_⟩
  have:=g2 bh hr
  simp only [aW,qB,List.map_cons,List.map_nil,A0.af,this]
 | .ptr t,l,y,r,hd=>by simp [qT] at hd
 | .jS f p,l,y,r,hd=>by simp [qT] at hd
 | .mv f agg t,l,y,r,hd=>by simp [qT] at hd
 | .pair a b,l,y,r,hd=>by
  simp only [qT] at hd
  split at hd<;>try (cases hd;done)
  rename_i x1 r1 h1
  split at hd<;>try (cases hd;done)
  rename_i x2 r2 h2
  cases hd
  obtain ⟨ys,e1,k1⟩:=uo a _ _ _ h1
  obtain ⟨zs,e2,k2⟩:=uo b _ _ _ h2
  refine ⟨ys++zs,by rw [e1,e2];simp,fun ay W ρ Kn w hst ok hf ho nm=> ?_⟩
  obtain ⟨xs,g1,g2⟩:=k1 ay W ρ Kn w hst ok hf ho nm
  obtain ⟨us,g3,g4⟩:=k2 ay W ρ Kn w hst ok hf ho (nm+(aW 0 nm a x1).2.length)
  refine ⟨xs++us,g1.append g3,fun bh hr=> ?_⟩
  have hl:=g1.length
  simp only [aW,List.map_append]
  rw [g2 bh fun i x hi=>hr i x (by rw [List.getElem?_append_left (List.getElem?_eq_some_iff.1 hi).1];exact hi),g4 bh fun i x hi=>by
   have:=hr (xs.length+i) x (by rw [List.getElem?_append_right (by omega)];simpa using hi)
   rwa [<- hl,<- Nat.add_assoc] at this]
 | .none,l,y,r,hd=>by
  simp only [qT,Option.some.injEq,Prod.mk.injEq] at hd
  obtain ⟨rfl,rfl⟩:=hd
  exact ⟨[],rfl,fun ay W ρ Kn w hst ok hf ho nm=>⟨[],trivial,fun _ _=>rfl⟩⟩
theorem St.To {ay:iT} {W w:World} {ρ:Env} {Kn:Nat->Prop} {Γ:HP} {ok:Nat->Prop} {nm:Nat} {os:List aF} {xs:List Loc} {v:AV} {tc G:List Nat} (h:St ay W ρ Kn Γ w) (hn: ∀i,i<os.length-> ¬Kn (nm+i)) (hg:bK (cV ok w) os xs)
  (hok: ∀b,ok b->aZ w b/\ ¬HI Γ b/\ ∀m,m∉G->(Γ m).isSome=true-> ¬(ρ m).has b):
  ∃ρ',(∀m,Kn m->ρ' m=ρ m)/\ (∀i x,xs[i]? =some x->ρ' (nm+i)=x)/\ St ay W ρ' (lK Kn nm {val:=v,fresh:=os,writes:=G.map fun n=>(n,.gone),aD:=tc}) (bX {val:=v,fresh:=os,writes:=G.map fun n=>(n,.gone),aD:=tc} nm Γ) w:=by
 have hlen:=hg.length
 let ρ':Env:=fun m=>if nm<=m/\ m<nm+os.length then xs.getD (m- nm) {} else ρ m
 have hold: ∀m,Kn m->ρ' m=ρ m:=fun m hm=>by
  simp only [ρ']
  rw [if_neg]
  rintro ⟨h2,h3⟩
  exact hn (m- nm) (by omega) (by rw [show nm+(m- nm)=m by omega];exact hm)
 have hnew: ∀i x,xs[i]? =some x->ρ' (nm+i)=x:=fun i x hi=>by
  have:=(List.getElem?_eq_some_iff.1 hi).1
  simp only [ρ']
  rw [if_pos (by omega),show nm+i- nm=i by omega]
  simp [hi]
 have bN: ∀m o,bX {val:=v,fresh:=os,writes:=G.map fun n=>(n,.gone),aD:=tc} nm Γ m=some o->(∃i x,m=nm+i/\ i<os.length/\ xs[i]? =some x/\ cV ok w o x)\/ (Γ m=some o/\ m∉G/\ Kn m):=by
  intro m o ho
  simp only [bX] at ho
  split at ho
  ·rename_i hc
   have hlt:m- nm<os.length:=by omega
   rw [List.getElem?_eq_getElem hlt] at ho
   obtain ⟨x,h1,h2⟩:=hg.get (m- nm) _ (List.getElem?_eq_getElem hlt)
   obtain ⟨u,l,e⟩:=bF h2
   rw [e] at ho h2
   simp only [live,Option.some.injEq] at ho
   subst ho
   exact .inl ⟨m- nm,x,by omega,hlt,h1,h2⟩
  ·rw [Bx] at ho
   by_cases hm:m∈G
   ·rw [if_pos hm] at ho;simp [live] at ho
   ·rw [if_neg hm] at ho
    exact .inr ⟨ho,hm,(h.kn m o ho).1⟩
 have dU: ∀m b,(bX {val:=v,fresh:=os,writes:=G.map fun n=>(n,.gone),aD:=tc} nm Γ m).isSome=true->(ρ' m).has b->(Γ m).isSome=true/\ m∉G/\ (ρ m).has b:=fun m b h1 h2=>by
  obtain ⟨o,ho⟩:=Option.isSome_iff_exists.1 h1
  rcases bN m o ho with ⟨i,x,rfl,_,h3,h4⟩|⟨h3,h4,h5⟩
  ·rw [hnew i x h3] at h2
   obtain ⟨u,l,rfl⟩:=bF h4
   exact (mS h4.2.1 h2).elim
  ·rw [hold m h5] at h2
   exact ⟨by rw [h3];rfl,h4,h2⟩
 have sV: ∀b,HI (bX {val:=v,fresh:=os,writes:=G.map fun n=>(n,.gone),aD:=tc} nm Γ) b->HI Γ b:=fun b ⟨m,S,h1,h2⟩=>by
  rcases bN m _ h1 with ⟨i,x,_,_,_,h4⟩|⟨h3,_,_⟩
  ·obtain ⟨u,l,e⟩:=bF h4
   cases e
  ·exact ⟨m,S,h3,h2⟩
 have hfz: ∀b,dQ ρ Γ w b->dQ ρ' (bX {val:=v,fresh:=os,writes:=G.map fun n=>(n,.gone),aD:=tc} nm Γ) w b/\ w.heap[b]? =w.heap[b]? :=fun b hb=>by
  refine ⟨⟨hb.1,?_⟩,rfl⟩
  rintro (⟨m,h1,h2⟩|hh)
  ·obtain ⟨h3,_,h4⟩:=dU m b h1 h2
   exact hb.2 (.inl ⟨m,h3,h4⟩)
  ·exact hb.2 (.inr (sV b hh))
 have Ih: ∀b,ok b->dQ ρ' (bX {val:=v,fresh:=os,writes:=G.map fun n=>(n,.gone),aD:=tc} nm Γ) w b:=fun b hb=>by
  obtain ⟨k1,k2,k3⟩:=hok b hb
  refine ⟨k1,?_⟩
  rintro (⟨m,h1,h2⟩|hh)
  ·obtain ⟨h3,h4,h5⟩:=dU m b h1 h2
   exact k3 m h4 h3 h5
  ·exact k2 (sV b hh)
 refine ⟨ρ',hold,hnew,h.fr,fun m o ho=> ?_,fun m o ho=> ?_,fun m m' b hm hm' fQ fc=> ?_,fun m b hm hb=> ?_,fun b hh=> ?_,fun m o ho=> ?_⟩
 rotate_right
 ·rcases bN m o ho with ⟨i,x,rfl,hi,h3,h4⟩|⟨h3,_,h5⟩
  ·obtain ⟨u,l,rfl⟩:=bF h4
   exact .inr (by rw [hnew i x h3];exact h4.2.1.2)
  ·rw [hold m h5];exact h.s8 m o h3
 ·rcases bN m o ho with ⟨i,x,rfl,hi,h3,h4⟩|⟨h3,_,h5⟩
  ·obtain ⟨u,l,rfl⟩:=bF h4
   obtain ⟨_,g1,g2,g3,g4,vals,g5,g6⟩:=h4
   obtain ⟨e1,e2⟩:=ja g5
   rw [bg,hnew i x h3]
   refine ⟨g2,g3,g4,o8 vals,fun i v hv=> ?_,fun q u' l' hq=> ?_,fun _=>g1.1,fun h=>absurd rfl h⟩
   ·rw [e1] at hv
    obtain ⟨a,k1,k2,k3⟩:=g6 i v hv
    exact ⟨a,k1,k2,fun _=>Ih _ k3⟩
   ·exact (e2 q u' l' hq).weak fun b hb=>⟨Ih b hb,fun h=>by cases h⟩
  ·exact cm (Kn:=Kn) (h.at_ m o h3) hold h5 (h.kn m o h3).2 hfz (fun _ _ h=>h) fun _ _=>rfl
 ·rcases bN m o ho with ⟨i,x,rfl,hi,h3,h4⟩|⟨h3,_,h5⟩
  ·obtain ⟨u,l,rfl⟩:=bF h4
   exact ⟨.inr (by simp only [];omega),trivial⟩
  ·exact ⟨.inl h5,aF.aT (fun _=> .inl) o (h.kn m o h3).2⟩
 ·obtain ⟨h1,_,h2⟩:=dU m b hm fQ
  obtain ⟨h3,_,h4⟩:=dU m' b hm' fc
  exact h.dV m m' b h1 h3 h2 h4
 ·obtain ⟨h1,_,h2⟩:=dU m b hm hb
  exact h.kq m b h1 h2
 ·obtain ⟨h1,h2⟩:=h.sW b (sV b hh)
  refine ⟨h1,?_⟩
  rintro ⟨m,h3,h4⟩
  obtain ⟨h5,_,h6⟩:=dU m b h3 h4
  exact h2 ⟨m,h5,h6⟩
theorem La {v:AV} {l:List A0} (h:jJ v=some l):jo l=v:=by
 cases v with
 |v a=>simp only [jJ,Option.some.injEq] at h;subst h;rfl
 |oG l'=>
  simp only [jJ] at h
  split at h
  ·cases h
  ·rename_i hne
   cases h
   match l,hne with
   | [],_=>rfl
   | [a],hne=>exact absurd rfl (hne a)
   |_::_::_,_=>rfl
 |dead=>simp [jJ] at h
theorem s7 {hp:HP} : ∀ {l:List Nat} {n:Nat},n∈rQ hp l↔n∈l/\ GF hp n=true
 | [],n=>by simp [rQ]
 |m::r,n=>by
  simp only [rQ]
  split
  ·rename_i h
   simp only [List.mem_cons,s7 (l:=r)]
   constructor
   ·rintro (rfl|⟨h1,h2⟩)
    ·exact ⟨.inl rfl,h⟩
    ·exact ⟨.inr h1,h2⟩
   ·rintro ⟨rfl|h1,h2⟩
    ·exact .inl rfl
    ·exact .inr ⟨h1,h2⟩
  ·rename_i h
   simp only [List.mem_cons,s7 (l:=r)]
   constructor
   ·rintro ⟨h1,h2⟩;exact ⟨.inr h1,h2⟩
   ·rintro ⟨rfl|h1,h2⟩
    ·exact absurd h2 h
    ·exact ⟨h1,h2⟩
section
variable {P:Program} {tt:List (Nat×TI)} {specs:List (Nat×Spec)}
theorem ak.fnR (hT:aO P tt) (hS:ah P specs) (hm:P.follows .mixedOrders=true) {f:FuncId} {fn:Func} (hf:P.funcs[f]? =some fn) (hn:ff (ids (cj fn))=true) (p r:nn) (pre:p.ty.T->Prop) (g:p.ty.T->r.ty.T)
  (h: ∀x,pre x-> ∀S,∃lp dR,aA P lQ dR/\ aB P lQ (cj fn) lp/\ Vc (H6 ⟨tt,specs,lQ,lp,[],dR⟩ fn (kW p x) (jx p x++ [.fJ S]) (MF r S (· =g x)))):ak P f (zV ⟨p,r,pre,g⟩):=by
 intro X args hp nm k hs
 unfold zV at hs
 split at hs
 rotate_left
 ·exact hs.elim
 rename_i x tc b hd
 obtain ⟨rfl,hpre,hk⟩:=br hs
 have hk:=hk _ rfl
 obtain ⟨as,e,hargs⟩:=j6 p _ _ _ _ hd
 rw [List.append_nil] at e
 subst e
 refine ⟨_,⟨fun q hq=> ?_,?_⟩,hk⟩
 ·obtain ⟨n,lI,rfl⟩:=List.mem_map.1 hq
  have:=(s7.1 lI).2
  unfold GF at this
  intro h0
  simp only [h0] at this
  cases this
 intro ay W ρ Kn Γ w _ _ ht hfr hst
 obtain ⟨S,Yz⟩: ∃S:Nat->Prop,S=fun b=>HI Γ b\/ ∃m,m∉rQ hp tc/\ (Γ m).isSome=true/\ (ρ m).has b:=⟨_,rfl⟩
 have aaR: ∀b,S b->b<w.heap.size:=fun b hb=>by
  rw [Yz] at hb
  rcases hb with hb|⟨m,_,h1,h2⟩
  ·exact (hst.sW b hb).1
  ·exact hst.lt m b h1 h2
 have hok:lX (fun b=>aZ w b/\ ¬S b) ρ Γ w tc:=by
  refine ⟨fun b hb=>⟨hb.1,fun hs=> ?_⟩,fun m hm h1 b hb hc=>⟨hc,fun hs=> ?_⟩⟩
  ·rw [Yz] at hs
   rcases hs with hs|⟨m,_,h1,h2⟩
   ·exact hb.2 (.inr hs)
   ·exact hb.2 (.inl ⟨m,h1,h2⟩)
  ·rw [Yz] at hs
   rcases hs with hs|⟨m',h2,h3,h4⟩
   ·exact (hst.sW b hs).2 ⟨m,h1,hb⟩
   ·have:=hst.dV m' m b h3 h1 h4 hb
    subst this
    refine h2 (s7.2 ⟨hm,?_⟩)
    obtain ⟨o,ho⟩:=Option.isSome_iff_exists.1 h1
    have bB:=hst.at_ m' o ho
    have hb:(ρ m').bW=some b\/ ∃g,o= .set g:=(hst.s8 m' o ho).elim .inr fun h=> .inl ((Ba h).1 hb)
    rw [ht m' hm] at ho
    unfold GF
    rw [ho]
    rcases hb with hb|⟨g,rfl⟩
    rotate_left
    ·rfl
    cases o with
    |cells cs e=>rfl
    |row t l rk=>
     obtain ⟨_,_,_,sub,_,_,h5,_⟩:=bB
     by_cases e:rk=0
     ·rw [h5 e] at hb;cases hb
     ·simpa using e
    |alias=>rfl
    |gone=>exact bB.elim
    |loop r' s j=>
     obtain ⟨b',hb',hh⟩:=bB
     rw [hb] at hb';cases hb'
     obtain ⟨_,_,_,h6⟩:=hc
     rw [hh] at h6;cases h6
    |dO=>rw [bB.1] at hb;cases hb
    |fJ=>rw [show (ρ m').bW=Option.none from bB] at hb;cases hb
    |map ka va k v l=>
     obtain ⟨_,_,b',es,l7,hb',hh,_⟩:=bB
     rw [hb] at hb';cases hb'
     obtain ⟨_,_,_,h6⟩:=hc
     rw [hh] at h6;cases h6
    |Ec ka k u l c q=>
     obtain ⟨_,_,_,b',es,l7,hb',hh,_⟩:=bB
     rw [hb] at hb';cases hb'
     obtain ⟨_,_,_,h6⟩:=hc
     rw [hh] at h6;cases h6
    |set=>rfl
    |gv=>rw [bB.1] at hb;cases hb
    |dp=>rw [bB.1] at hb;cases hb
    |nv=>rw [bB.1] at hb;cases hb
    |rc=>rw [bB.1] at hb;cases hb
    |hmap es l7=>
     obtain ⟨b',hb',hh⟩:=bB
     rw [hb] at hb';cases hb'
     obtain ⟨_,_,_,h6⟩:=hc
     rw [hh] at h6;cases h6
    |It g c es l7 ka k u l cur=>
     obtain ⟨_,_,_,b',_,_,_,hb',hh,_⟩:=bB
     rw [hb] at hb';cases hb'
     obtain ⟨_,_,_,h6⟩:=hc
     rw [hh] at h6;cases h6
 obtain ⟨xs,hg,hc⟩:=hargs ay W ρ Kn Γ w ht hst _ hok 0
 have hb:=St.Wm hg (fun b hb=>hb) aaR
 obtain ⟨lp,dR,hi,hl,hfn⟩:=h x hpre S
 have hcs:=hc (fun n=>xs.getD n {}) fun i y hy=>by simp [hy]
 have key:=ij (ctx:=⟨tt,specs,lQ,lp,[],dR⟩) hT ⟨hS,vh.nil P,hi⟩ (lQ.ok K2 w) hm hf (fun c hc=>by
  have:cj fn=c:=by unfold cj;rw [hc]
  subst this
  exact sY (eJ hn) hl) hfn.h (fun y hy=>by
   obtain ⟨a,ha,rfl⟩:=List.mem_map.1 hy
   exact A0.aT (fun m hm=>by simp [jx] at hm ⊢;omega) a (js 0 p x 0 a ha)) hb
 have ea:(kW p x).map (AV.af fun n=>xs.getD n {})=args.map (AV.af ρ):=by
  rw [hcs];simp [kW,AV.af,Function.comp_def]
 rw [ea] at key
 refine key.mono ?_
 rintro e w' ⟨st,bh,v,rfl,hv,hR,rA⟩
 unfold MF at hR
 split at hR
 rotate_left
 ·exact hR.elim
 rename_i l u7
 split at hR
 rotate_left
 ·exact hR.elim
 rename_i y hdr
 obtain ⟨rfl,nh,hh⟩:=yJ hR
 obtain ⟨ys,e1,Qy⟩:=uo r _ _ _ hdr
 rw [List.append_nil] at e1
 subst e1
 obtain ⟨us,hgu,hcu⟩:=Qy K2 w bh _ w' rA (fun b=>aZ w' b/\ ¬S b) (fun b hb=>⟨hb.1,fun hs=>hb.2 (.inr ⟨nh,S,hh,hs⟩)⟩) (fun m h1 b h2 h3=>⟨h3,fun hs=>(rA.sW b ⟨nh,S,hh,hs⟩).2 ⟨m,h1,h2⟩⟩) nm
 obtain ⟨ρ',r1,r2,r3⟩:=(hst.called rA.fr).To (v:=jo (aW 0 nm r (g x)).1) (tc:=tc) (G:=rQ hp tc) (nm:=nm) hfr hgu (fun b hb=>by
  refine ⟨hb.1,fun h1=>hb.2 (by rw [Yz];exact .inl h1),fun m h1 h2 h3=>hb.2 (by rw [Yz];exact .inr ⟨m,h1,h2,h3⟩)⟩)
 refine ⟨ρ',?_,r1,?_,r3⟩
 ·congr 1
  rw [<- La u7]
  exact ya (hcu ρ' r2)
 ·exact GJ fun c hc=>A0.aT (fun m hm=> .inr (by simpa using hm)) c (js 0 r (g x) nm c hc)
end
def vj (p:nn) (s1 s2:Spec):Spec:=fun X args hp nm k=>match iG hp p args with
 |some _=>s1 X args hp nm k
 |none=>s2 X args hp nm k
theorem uc {P:Program} {f:FuncId} {p:nn} {s1 s2:Spec} (h1:ak P f s1) (h2:ak P f s2):ak P f (vj p s1 s2):=by
 intro X args hp nm k h
 unfold vj at h
 split at h
 ·exact h1 X args hp nm k h
 ·exact h2 X args hp nm k h
def Qb:eV:=fun _ _ _ _=>False
theorem NC {P:Program} {X:Addr->Value->Prop} {f:FuncId} :jq P X f Qb:=fun _ _ _ _ h=>h.elim
end Go.Ev
