/- Contracts of functions of typed values. -/
import Derived.Test.YtngdehlpoomaiaaGreatEvI
noncomputable section
set_option linter.unusedSectionVars false
set_option linter.unusedVariables false
set_option linter.unusedSimpArgs false
namespace Go.Ev
open Go.RowKit
inductive mG
 |one (t:Ty)
 |agg (t:Ty)
 |ptr (t:Ty)
 |pair (a b:mG)
 |jO (f:FuncId) (p:mG)
 |mv (f:FuncId) (agg:Bool) (t:Ty)
 |none
@[reducible] def mG.ty:mG->Ty
 | .one t=>t
 | .agg t=>t
 | .ptr t=>t
 | .pair a b=> .prod a.ty b.ty
 | .jO _ p=>p.ty
 | .mv _ _ t=>t
 | .none=> .bool
def mG.cap:mG->Bool
 | .ptr _=>true
 | .pair a b=>a.cap&&b.cap
 | .none=>true
 |_=>false
def Xe:A0->Ref
 | .one (.c9 n j _)=> .elem n j
 |_=> .ext undef
def ajR (c:Cell):Ref:=match c with
 | .raw v=> .ext v
 | .full n=> .full n
 |_=> .ext undef
def cA (rk:Nat):Nat->List cw->List Cell×List aD
 |_,[]=>([],[])
 |nm,.flat v::r=>match cA rk nm r with|(cs,os)=>(.raw v::cs,os)
 |nm,.sl u l::r=>match cA rk (nm+1) r with|(cs,os)=>(.full nm::cs,.row u l rk::os)
def wW (agg:Bool) (cs:List Cell):A0:=match agg with
 |false=>(match cs with| [c]=> .one c|cs=> .agg cs)
 |true=> .agg cs
def aY (rk:Nat):Nat->(p:mG)->p.ty.T->List A0×List aD
 |nm,.one t,x=>match cA rk nm (t.aU x) with|(cs,os)=>([wW false cs],os)
 |nm,.agg t,x=>match cA rk nm (t.aU x) with|(cs,os)=>([wW true cs],os)
 |nm,.ptr t,x=>([.one (.c9 nm 0 0)],[.row t [x] 0])
 |nm,.pair a b,x=>match aY rk nm a x.1 with
  |(as,os)=>match aY rk (nm+os.length) b x.2 with
   |(bs,os')=>(as++bs,os++os')
 |nm,.jO f p,x=>match aY rk nm p x with
  |(as,os)=>([.one (.jO (.func f) [] (as.map Xe))],os)
 |nm,.mv f agg t,x=>match cA rk nm (t.aU x) with|(cs,os)=>([.one (.mv f agg (cs.map ajR))],os)
 |_,.none,_=>([],[])
def fJ (hp:HP):(p:mG)->List AV->Option (p.ty.T×List AV×List Nat×Bool)
 | .one t,l=>match l with
  | .v (.one c)::r=>match ct hp t [c] with
   |some (x,[],tc)=>some (x,r,tc,true)
   |_=>none
  |_=>none
 | .agg t,l=>match l with
  | .v (.agg cs)::r=>match ct hp t cs with
   |some (x,[],tc)=>some (x,r,tc,true)
   |_=>none
  |_=>none
 | .ptr t,l=>match l with
  | .v (.one (.ptr n off))::r=>match hp n with
   |some (.cells cs _)=>match ct hp t ((cs.drop off).take t.size) with
    |some (x,[],tc)=>if t.shallow then some (x,r,n::tc,true) else none
    |_=>none
   |_=>none
  | .v (.one (.c9 n j 0))::r=>match hp n with
   |some (.row u l _)=>match jm u t l with
    |some l'=>some (gd t l' j,r,[n],decide (j<l'.length))
    |none=>none
   |_=>none
  |_=>none
 | .pair a b,l=>match fJ hp a l with
  |some (x,r,tc,f)=>match fJ hp b r with
   |some (y,r',CN,f')=>some ((x,y),r',tc++CN,f&&f')
   |none=>none
  |none=>none
 | .jO f p,l=>match l with
  | .v (.one (.jO (.func g) [] cap))::r=>if g=f then (match fJ hp p (cap.map DN) with
   |some (x,[],tc,b)=>some (x,r,tc,p.cap&&b)
   |_=>none) else none
  |_=>none
 | .mv f agg t,l=>match l with
  | .v (.one (.mv g aoO rs))::r=>if g=f/\ aoO=agg then (match ct hp t (rs.map Ee) with
   |some (x,[],tc)=>some (x,r,tc,true)
   |_=>none) else none
  |_=>none
 | .none,l=>some (false,l,[],true)
def kp:List A0->AV
 | [a]=> .v a
 |l=> .pT l
def lU:AV->Option (List A0)
 | .v a=>some [a]
 | .pT l=>match l with
  | [_]=>none
  |l=>some l
 | .dead=>none
def Oy (hp:HP):Ty->List Cell->Option (List Src×List Cell)
 | .prod a b,cs=>match Oy hp a cs with
  |some (ss,r)=>match Oy hp b r with
   |some (ss',r')=>some (ss++ss',r')
   |none=>none
  |none=>none
 | .sl u,cs=>match cs with
  | .raw (.slice none 0 0)::r=>some ([.nil],r)
  | .full n::r=>match hp n with
   |some (.row _ _ rk)=>if rk=2 then some ([.same n],r) else none
   |_=>none
  | .sl n 0 len c::r=>if c=len then (match hp n with
   |some (.cells cs _)=>if u.flat&&(decide (cs.length=len*u.size)&&Nat.ble len 1099511627776) then some ([.cells n len],r) else none
   |_=>none) else none
  |_=>none
 |_,cs=>match cs with
  |_::r=>some ([],r)
  | []=>none
def Jg (hp:HP):(p:mG)->List A0->Option (p.ty.T×List A0×List Src)
 | .one t,l=>match l with
  | .one c::r=>match ct hp t [c] with
   |some (y,[],_)=>match Oy hp t [c] with
    |some (ss,_)=>some (y,r,ss)
    |none=>none
   |_=>none
  |_=>none
 | .agg t,l=>match l with
  | .agg cs::r=>match ct hp t cs with
   |some (y,[],_)=>match Oy hp t cs with
    |some (ss,_)=>some (y,r,ss)
    |none=>none
   |_=>none
  |_=>none
 | .ptr _,_=>none
 | .jO _ _,_=>none
 | .mv _ _ _,_=>none
 | .pair a b,l=>match Jg hp a l with
  |some (x,r,ss)=>match Jg hp b r with
   |some (y,r',ss')=>some ((x,y),r',ss++ss')
   |none=>none
  |none=>none
 | .none,l=>some (false,l,[])
def l9 (r:mG) (Q:r.ty.T->Prop) (v:AV) (st:AS):Prop:=match lU v with
 |some l=>match Jg (ai st.heap) r l with
  |some (y,[],ss)=>if eV (ss.filterMap GZ) then Q y else False
  |_=>False
 |none=>False
def cy (p:mG) (x:p.ty.T):List AV:=(aY 0 0 p x).1.map .v
def da (p:mG) (x:p.ty.T):List aD:=(aY 0 0 p x).2
structure bF where
 p:mG
 r:mG
 pre:p.ty.T->Prop
 f:p.ty.T->r.ty.T
def ah (s:bF):Spec:=fun _ args hp nm k=>match fJ hp s.p args with
 |some (x,[],tc,b)=>ob b (s.pre x/\ ∀y,y=s.f x->k {val:=kp (aY 2 nm s.r y).1,fresh:=(aY 2 nm s.r y).2,aF:=tc})
 |_=>False
def z4 (w:World):aD->Loc->Prop
 | .row u l rk,x=>rk=0/\ (x.blk=none/\ x.jq= [])/\ x.len=l.length/\ x.es=u.size/\ l.length<=x.cap/\ mH w (Zx w) x.base u l
 |_,_=>False
theorem kK {w:World} : ∀(cs:List cw) (vals:List Value) (nm:Nat),bN (Kp w (Zx w)) cs vals->
  ∃xs,bN (z4 w) (cA 0 nm cs).2 xs/\ ∀aR:Env,(∀i x,xs[i]? =some x->aR (nm+i)=x)->(cA 0 nm cs).1.map (Cell.ae aR)=vals
 | [],[],nm,_=>⟨[],trivial,fun _ _=>rfl⟩
 | [],_::_,_,h=>h.elim
 |_::_,[],_,h=>h.elim
 | .flat v::r,v'::vr,nm,h=>by
  obtain ⟨xs,h1,h2⟩:=kK r vr nm h.2
  refine ⟨xs,h1,fun aR hr=> ?_⟩
  have:=h2 aR hr
  have hv:v'=v:=h.1
  simp only [cA,List.map_cons,this,hv];rfl
 | .sl u l::r,v'::vr,nm,h=>by
  obtain ⟨xs,h1,h2⟩:=kK r vr (nm+1) h.2
  obtain ⟨a,c,hv,hc,hr⟩:=h.1
  refine ⟨{blk:=none,base:=a,len:=l.length,cap:=c,es:=u.size} ::xs,⟨⟨rfl,⟨rfl,rfl⟩,rfl,rfl,hc,hr⟩,h1⟩,fun aR hr=> ?_⟩
  have:=h2 aR fun i x hi=>by
   have:=hr (i+1) x (by simpa using hi)
   rwa [show nm+(i+1)=nm+1+i by omega] at this
  have h0:=hr 0 _ rfl
  rw [Nat.add_zero] at h0
  simp only [cA,List.map_cons,this,hv,Cell.ae,h0]
theorem add_zero' (a:Addr):a.add 0=a:=by unfold Addr.add;split<;>simp_all
theorem Qy {rk nm:Nat} {ρ:Env} : ∀(p:mG),p.cap=true-> ∀ {x:p.ty.T},((aY rk nm p x).1.map Xe).map (Ref.ae ρ)=(aY rk nm p x).1.map (A0.ae ρ):=by
 intro p
 induction p generalizing nm with
 |ptr t=>intro _ x;rfl
 |none=>intro _ x;rfl
 |pair a b SV SW=>
  intro h x
  simp only [mG.cap,Bool.and_eq_true] at h
  simp only [aY,List.map_append]
  rw [SV h.1,SW h.2]
 |one t=>intro h;cases h
 |agg t=>intro h;cases h
 |jO f p _=>intro h;cases h
 |mv f agg t=>intro h;cases h
theorem Ay (rk:Nat) (ρ:Env): ∀(cs:List cw) (nm:Nat),((cA rk nm cs).1.map ajR).map (Ref.ae ρ)=(cA rk nm cs).1.map (Cell.ae ρ)
 | [],_=>rfl
 | .flat v::r,nm=>by simp only [cA,List.map_cons,Ay rk ρ r nm];rfl
 | .sl u l::r,nm=>by simp only [cA,List.map_cons,Ay rk ρ r (nm+1)];rfl
theorem qa {hp:HP} : ∀(p:mG) (args:List AV) (x:p.ty.T) (r:List AV) (tc:List Nat),fJ hp p args=some (x,r,tc,true)->
  ∃as,args=as++r/\ ∀av W ρ Kn Γ w,(∀m∈tc,Γ m=hp m)->St av W ρ Kn Γ w-> ∀nm,∃xs,bN (z4 w) (aY 0 nm p x).2 xs/\
   ∀aR:Env,(∀i x,xs[i]? =some x->aR (nm+i)=x)->as.map (AV.ae ρ)=(aY 0 nm p x).1.map (A0.ae aR)
 | .one t,args,x,r,tc,h=>by
  simp only [fJ] at h
  split at h<;>try (cases h;done)
  rename_i c r'
  split at h<;>try (cases h;done)
  rename_i y CN hd
  cases h
  obtain ⟨ys,e,hl,hs⟩:=mT hp t _ _ _ _ hd
  rw [List.append_nil] at e
  subst e
  refine ⟨[_],rfl,fun av W ρ Kn Γ w ht hst nm=> ?_⟩
  obtain ⟨xs,h1,h2⟩:=kK _ _ nm (hs av W ρ Kn Γ w ht hst)
  refine ⟨xs,h1,fun aR hr=> ?_⟩
  have:=h2 aR hr
  simp only [aY,List.map_cons,List.map_nil]
  simp only [List.map_cons,List.map_nil] at this
  obtain ⟨c',Jj,e⟩: ∃c',(cA 0 nm (t.aU x)).1= [c']/\ c'.ae aR=c.ae ρ:=by
   match hm:(cA 0 nm (t.aU x)).1,this with
   | [c'],h=>simp only [List.map_cons,List.map_nil,List.cons.injEq,and_true] at h;exact ⟨c',rfl,h⟩
   | [],h=>simp at h
   |_::_::_,h=>simp at h
  rw [Jj]
  simp only [wW,AV.ae,A0.ae,e]
 | .agg t,args,x,r,tc,h=>by
  simp only [fJ] at h
  split at h<;>try (cases h;done)
  rename_i cs r'
  split at h<;>try (cases h;done)
  rename_i y CN hd
  cases h
  obtain ⟨ys,e,hl,hs⟩:=mT hp t _ _ _ _ hd
  rw [List.append_nil] at e
  subst e
  refine ⟨[_],rfl,fun av W ρ Kn Γ w ht hst nm=> ?_⟩
  obtain ⟨xs,h1,h2⟩:=kK _ _ nm (hs av W ρ Kn Γ w ht hst)
  refine ⟨xs,h1,fun aR hr=> ?_⟩
  have:=h2 aR hr
  simp only [aY,wW,List.map_cons,List.map_nil,AV.ae,A0.ae,this]
 | .ptr t,args,x,r,tc,h=>by
  simp only [fJ] at h
  split at h
  ·rename_i n off r'
   split at h<;>try (cases h;done)
   rename_i cs e he
   split at h<;>try (cases h;done)
   rename_i y CN hd
   split at h<;>try (cases h;done)
   rename_i hsh
   cases h
   obtain ⟨ys,e1,hl,hs⟩:=mT hp t _ _ _ _ hd
   rw [List.append_nil] at e1
   refine ⟨[_],rfl,fun av W ρ Kn Γ w ht hst nm=> ?_⟩
   have hall:=zu t x _ hsh (hs av W ρ Kn Γ w (fun m hm=>ht m (by simp [hm])) hst)
   obtain ⟨b,hb,hh⟩:=hst.at_ n _ (by rw [ht n (by simp),he])
   refine ⟨[{blk:=none,base:=addrOf ρ n off,len:=1,cap:=1,es:=t.size}],⟨⟨rfl,⟨rfl,rfl⟩,rfl,rfl,by simp,ys.map (Cell.ae ρ),?_,fun i v hv=> ?_⟩,trivial⟩,fun aR hr=> ?_⟩
   ·simpa [ay] using hall
   ·refine ⟨⟨b,off,none⟩,by simp [addrOf,hb],?_,?_⟩
    ·rw [R2,bL (by simpa using hh)]
     rw [<- e1,List.map_take,List.map_drop,List.getElem?_take] at hv
     split at hv
     ·rwa [List.getElem?_drop] at hv
     ·cases hv
    ·exact ⟨_,_,_,hh⟩
   ·have h0:=hr 0 _ rfl
    rw [Nat.add_zero] at h0
    simp only [aY,List.map_cons,List.map_nil,AV.ae,A0.ae,Cell.ae,h0]
    cases addrOf ρ n off<;>simp [add_zero']
  ·rename_i n j r'
   split at h<;>try (cases h;done)
   rename_i u l rk he
   split at h<;>try (cases h;done)
   rename_i l' hl'
   simp only [Option.some.injEq,Prod.mk.injEq,decide_eq_true_eq] at h
   obtain ⟨rfl,rfl,rfl,hj⟩:=h
   obtain ⟨e,e2⟩:=cr hl'
   subst e
   dsimp only at e2
   subst e2
   refine ⟨[_],rfl,fun av W ρ Kn Γ w ht hst nm=> ?_⟩
   have bQ:Γ n=some (.row u l rk):=by rw [ht n (by simp),he]
   have hra:=hst.rowAt bQ
   have hes:(ρ n).es=u.size:=(hst.at_ n _ bQ).2.1
   have hp:=hra.part (a':=(ρ n).base.map (·.add (j*u.size))) j (some 1) fun _=>rfl
   have Aa:ov l j (some 1)= [gd u l j]:=by
    simp only [ov,gd,List.getD_eq_getElem?_getD,List.getElem?_eq_getElem hj,Option.getD_some]
    rw [List.drop_eq_getElem_cons hj];rfl
   rw [Aa] at hp
   refine ⟨[{blk:=none,base:=(ρ n).base.map (·.add (j*u.size)),len:=1,cap:=1,es:=u.size}],⟨⟨rfl,⟨rfl,rfl⟩,rfl,rfl,by simp,hp⟩,trivial⟩,fun aR hr=> ?_⟩
   have h0:=hr 0 _ rfl
   rw [Nat.add_zero] at h0
   simp only [aY,List.map_cons,List.map_nil,AV.ae,A0.ae,Cell.ae,h0,hes]
   cases (ρ n).base<;>simp [add_zero']
  ·cases h
 | .jO f p,args,x,r,tc,h=>by
  simp only [fJ] at h
  split at h<;>try (cases h;done)
  rename_i g cap r'
  split at h<;>try (cases h;done)
  rename_i hg
  split at h<;>try (cases h;done)
  rename_i x1 J8 b1 h1
  simp only [Option.some.injEq,Prod.mk.injEq,Bool.and_eq_true] at h
  obtain ⟨rfl,rfl,rfl,hc,rfl⟩:=h
  subst hg
  obtain ⟨as,e1,k1⟩:=qa p _ _ _ _ h1
  rw [List.append_nil] at e1
  refine ⟨[_],rfl,fun av W ρ Kn Γ w ht hst nm=> ?_⟩
  obtain ⟨xs,g1,g2⟩:=k1 av W ρ Kn Γ w ht hst nm
  refine ⟨xs,g1,fun aR hr=> ?_⟩
  have h2:=g2 aR hr
  have e2:cap.map (Ref.ae ρ)=((aY 0 nm p x1).1.map Xe).map (Ref.ae aR):=by
   rw [Qy p hc,<- h2,<- e1,List.map_map]
   exact List.map_congr_left fun q _=>(vw ρ q).symm
  simp only [aY,List.map_cons,List.map_nil,AV.ae,A0.ae,Cell.ae,e2]
 | .mv f agg t,args,x,r,tc,h=>by
  simp only [fJ] at h
  split at h<;>try (cases h;done)
  rename_i g aoO rs r'
  split at h<;>try (cases h;done)
  rename_i hg
  split at h<;>try (cases h;done)
  rename_i y CN hd
  cases h
  obtain ⟨rfl,rfl⟩:=hg
  obtain ⟨ys,e,hl,hs⟩:=mT hp t _ _ _ _ hd
  rw [List.append_nil] at e
  refine ⟨[_],rfl,fun av W ρ Kn Γ w ht hst nm=> ?_⟩
  obtain ⟨xs,h1,h2⟩:=kK _ _ nm (hs av W ρ Kn Γ w ht hst)
  refine ⟨xs,h1,fun aR hr=> ?_⟩
  have h3:=h2 aR hr
  have e2:rs.map (Ref.ae ρ)=((cA 0 nm (t.aU x)).1.map ajR).map (Ref.ae aR):=by
   rw [Ay,h3,<- e,List.map_map]
   exact List.map_congr_left fun q _=>(pP ρ q).symm
  simp only [aY,List.map_cons,List.map_nil,AV.ae,A0.ae,Cell.ae,e2]
 | .pair a b,args,x,r,tc,h=>by
  simp only [fJ] at h
  split at h<;>try (cases h;done)
  rename_i x1 r1 J8 f1 h1
  split at h<;>try (cases h;done)
  rename_i x2 r2 w7 f2 h2
  simp only [Option.some.injEq,Prod.mk.injEq,Bool.and_eq_true] at h
  obtain ⟨rfl,rfl,rfl,rfl,rfl⟩:=h
  obtain ⟨as,e1,k1⟩:=qa a _ _ _ _ h1
  obtain ⟨bs,e2,k2⟩:=qa b _ _ _ _ h2
  refine ⟨as++bs,by rw [e1,e2];simp,fun av W ρ Kn Γ w ht hst nm=> ?_⟩
  obtain ⟨xs,g1,g2⟩:=k1 av W ρ Kn Γ w (fun m hm=>ht m (by simp [hm])) hst nm
  obtain ⟨ys,g3,g4⟩:=k2 av W ρ Kn Γ w (fun m hm=>ht m (by simp [hm])) hst (nm+(aY 0 nm a x1).2.length)
  refine ⟨xs++ys,g1.append g3,fun aR hr=> ?_⟩
  have hl:=g1.length
  simp only [aY,List.map_append]
  rw [g2 aR fun i x hi=>hr i x (by rw [List.getElem?_append_left (List.getElem?_eq_some_iff.1 hi).1];exact hi),g4 aR fun i x hi=>by
   have:=hr (xs.length+i) x (by rw [List.getElem?_append_right (by omega)];simpa using hi)
   rwa [<- hl,<- Nat.add_assoc] at this]
 | .none,args,x,r,tc,h=>by
  simp only [fJ,Option.some.injEq,Prod.mk.injEq,and_true] at h
  obtain ⟨rfl,rfl,rfl⟩:=h
  exact ⟨[],rfl,fun av W ρ Kn Γ w ht hst nm=>⟨[],trivial,fun _ _=>rfl⟩⟩
where R2 {b off m:Nat} :(⟨b,off,none⟩:Addr).add m=⟨b,off+m,none⟩:=by unfold Addr.add;split<;>simp_all
theorem n7 {w:World} {o:aD} {x:Loc} (h:z4 w o x): ∃u,∃l:List u.T,o= .row u l 0:=by
 cases o<;>first|exact h.elim|(obtain ⟨rfl,_⟩:=h;exact ⟨_,_,rfl⟩)
theorem St.begin {w:World} {os:List aD} {xs:List Loc} (h:bN (z4 w) os xs):St A6 w (fun n=>xs.getD n {}) (· <os.length) (ai os) w:=by
 have rS: ∀n o,ai os n=some o->os[n]? =some o:=fun n o ho=>by
  unfold ai at ho
  split at ho
  ·cases ho
  ·exact ho
 have hx: ∀n o,ai os n=some o->z4 w o (xs.getD n {}):=fun n o ho=>by
  obtain ⟨x,h1,h2⟩:=h.get n o (rS n o ho)
  simpa [h1] using h2
 have dS: ∀n,(ai os n).isSome=true->(xs.getD n {}).blk=Option.none/\ (xs.getD n {}).jq= []:=fun n hn=>by
  obtain ⟨o,ho⟩:=Option.isSome_iff_exists.1 hn
  have:=hx n o ho
  obtain ⟨u,l,rfl⟩:=n7 this
  exact this.2.1
 refine ⟨Fr.refl _ _,fun n o ho=> ?_,fun n o ho=> ?_,fun n m b hn hm hb=> ?_,fun n b hn hb=> ?_,fun b ⟨m,S,h1,_⟩=> ?_,fun n o ho=> .inr (dS n (by rw [ho];rfl)).2⟩
 rotate_right
 ·obtain ⟨u,l,e⟩:=n7 (hx m _ h1)
  cases e
 ·have hg:=hx n o ho
  obtain ⟨u,l,rfl⟩:=n7 hg
  obtain ⟨_,h1,h2,h3,h4,vals,h5,h6⟩:=hg
  obtain ⟨e1,e2⟩:=kS h5
  have hfz: ∀b,bj w b->dV (fun n=>xs.getD n {}) (ai os) w b:=fun b hb=>⟨hb,by
   rintro (⟨m,g1,g2⟩|⟨m,S,g1,_⟩)
   ·exact ot (dS m g1) g2
   ·obtain ⟨u,l,e⟩:=n7 (hx m _ g1)
    cases e⟩
  refine ⟨h2,h3,h4,uK vals,fun i v hv=> ?_,fun q u' l' hq=> ?_,fun _=>h1.1,fun h=>absurd rfl h⟩
  ·rw [e1] at hv
   obtain ⟨a,g1,g2,g3⟩:=h6 i v hv
   exact ⟨a,g1,g2,fun _=>hfz _ g3⟩
  ·exact (e2 q u' l' hq).weak fun b hb=>⟨hfz b hb,fun h=>by cases h⟩
 ·obtain ⟨u,l,rfl⟩:=n7 (hx n o ho)
  exact ⟨(List.getElem?_eq_some_iff.1 (rS n _ ho)).1,trivial⟩
 ·exact (ot (dS n hn) hb).elim
 ·exact (ot (dS n hn) hb).elim
end Go.Ev
namespace Go.Ev
open Go.RowKit
theorem xy (rk:Nat): ∀(a b:List cw) (nm:Nat),cA rk nm (a++b)=((cA rk nm a).1++(cA rk (nm+(cA rk nm a).2.length) b).1,(cA rk nm a).2++(cA rk (nm+(cA rk nm a).2.length) b).2)
 | [],b,nm=>by simp [cA]
 | .flat v::r,b,nm=>by
  have:=xy rk r b nm
  simp only [List.cons_append,cA,this]
 | .sl u l::r,b,nm=>by
  have:=xy rk r b (nm+1)
  simp only [List.cons_append,cA,this,List.length_cons,show nm+((cA rk (nm+1) r).2.length+1)=nm+1+(cA rk (nm+1) r).2.length by omega]
theorem Eg {π:List Src} : ∀(a b:List Cell) (x y:List Cell),je π a=some x->je π b=some y->je π (a++b)=some (x++y)
 | [],b,x,y,h1,h2=>by simp only [je,Option.some.injEq] at h1;subst h1;exact h2
 |c::r,b,x,y,h1,h2=>by
  simp only [je] at h1
  split at h1
  ·rename_i q m e1 e2
   cases h1
   have:=Eg r b m y e2 h2
   simp only [List.cons_append,je,e1,this]
  ·cases h1
theorem DO {h:List aD} : ∀(t:Ty) (cs:List Cell) (y:t.T) (r r':List Cell) (tc:List Nat) (ss:List Src),ct (ai h) t cs=some (y,r,tc)->Oy (ai h) t cs=some (ss,r')->
  ∃ys,cs=ys++r/\ r'=r/\ ys.length=t.size/\ ∀(π:List Src) (nm:Nat),(∀i s,ss[i]? =some s->π[nm+i]? =some s)->
   je π (cA 2 nm (t.aU y)).1=some ys/\ bN (Jp π h) ss (cA 2 nm (t.aU y)).2
 | .int k,cs,y,r,r',tc,ss,hd,ho=>by
  simp only [ct] at hd
  split at hd<;>try (cases hd;done)
  split at hd<;>try (cases hd;done)
  rename_i e
  cases hd;subst e
  simp only [Oy,Option.some.injEq,Prod.mk.injEq] at ho
  obtain ⟨rfl,rfl⟩:=ho
  exact ⟨[_],rfl,rfl,rfl,fun π nm _=>⟨rfl,trivial⟩⟩
 | .bool,cs,y,r,r',tc,ss,hd,ho=>by
  simp only [ct] at hd
  split at hd<;>try (cases hd;done)
  cases hd
  simp only [Oy,Option.some.injEq,Prod.mk.injEq] at ho
  obtain ⟨rfl,rfl⟩:=ho
  exact ⟨[_],rfl,rfl,rfl,fun π nm _=>⟨rfl,trivial⟩⟩
 | .str,cs,y,r,r',tc,ss,hd,ho=>by
  simp only [ct] at hd
  split at hd<;>try (cases hd;done)
  cases hd
  simp only [Oy,Option.some.injEq,Prod.mk.injEq] at ho
  obtain ⟨rfl,rfl⟩:=ho
  exact ⟨[_],rfl,rfl,rfl,fun π nm _=>⟨rfl,trivial⟩⟩
 | .prod a b,cs,y,r,r',tc,ss,hd,ho=>by
  simp only [ct] at hd
  split at hd<;>try (cases hd;done)
  rename_i x1 r1 J8 h1
  split at hd<;>try (cases hd;done)
  rename_i x2 r2 w7 h2
  cases hd
  simp only [Oy] at ho
  split at ho<;>try (cases ho;done)
  rename_i ss1 q1 o1
  split at ho<;>try (cases ho;done)
  rename_i ss2 q2 o2
  cases ho
  obtain ⟨ys,e1,e2,e3,e4⟩:=DO a _ _ _ _ _ _ h1 o1
  subst e2
  obtain ⟨zs,f1,f2,f3,f4⟩:=DO b _ _ _ _ _ _ h2 o2
  subst f2
  refine ⟨ys++zs,by rw [e1,f1];simp,rfl,by simp [e3,f3,Ty.size],fun π nm Zw=> ?_⟩
  obtain ⟨g1,g2⟩:=e4 π nm fun i s hi=>Zw i s (by rw [List.getElem?_append_left (List.getElem?_eq_some_iff.1 hi).1];exact hi)
  have hl:=g2.length
  obtain ⟨g3,g4⟩:=f4 π (nm+(cA 2 nm (a.aU x1)).2.length) fun i s hi=>by
   have:=Zw (ss1.length+i) s (by rw [List.getElem?_append_right (by omega)];simpa using hi)
   rwa [hl,<- Nat.add_assoc] at this
  rw [show (Ty.prod a b).aU (x1,x2)=a.aU x1++b.aU x2 from rfl,xy]
  exact ⟨Eg _ _ _ _ g1 g3,g2.append g4⟩
 | .sl u,cs,y,r,r',tc,ss,hd,ho=>by
  simp only [Oy] at ho
  split at ho
  ·cases ho
   simp only [ct,Option.some.injEq,Prod.mk.injEq] at hd
   obtain ⟨rfl,rfl,rfl⟩:=hd
   refine ⟨[_],rfl,rfl,rfl,fun π nm Zw=> ?_⟩
   have h0:=Zw 0 _ rfl
   rw [Nat.add_zero] at h0
   refine ⟨?_,⟨⟨u,2,rfl,by decide⟩,trivial⟩⟩
   simp only [Ty.aU,cA,je,ko,h0]
  ·rename_i n r1
   split at ho<;>try (cases ho;done)
   rename_i t l rk hn
   split at ho<;>try (cases ho;done)
   rename_i sQ
   cases ho;subst sQ
   simp only [ct,hn] at hd
   split at hd<;>try (cases hd;done)
   rename_i l' hl'
   cases hd
   obtain ⟨e,e2⟩:=cr hl'
   subst e
   dsimp only at e2
   subst e2
   refine ⟨[_],rfl,rfl,rfl,fun π nm Zw=> ?_⟩
   have h0:=Zw 0 _ rfl
   rw [Nat.add_zero] at h0
   refine ⟨?_,⟨⟨_,hn,rfl⟩,trivial⟩⟩
   simp only [Ty.aU,cA,je,ko,h0]
  ·rename_i n len c r1
   split at ho<;>try (cases ho;done)
   rename_i hc
   split at ho<;>try (cases ho;done)
   rename_i cs' e hn
   split at ho<;>try (cases ho;done)
   rename_i hf
   simp only [Bool.and_eq_true,decide_eq_true_eq] at hf
   cases ho;subst hc
   simp only [ct,lM hf.1,hn,Nat.le_refl,decide_true,Bool.and_self,if_true,List.drop_zero] at hd
   split at hd<;>try (cases hd;done)
   rename_i l J8 hN
   cases hd
   obtain ⟨g1,_⟩:=Pa (fh:=fun _=>none) hf.1 _ _ _ _ hN
   refine ⟨[_],rfl,rfl,rfl,fun π nm Zw=> ?_⟩
   have h0:=Zw 0 _ rfl
   rw [Nat.add_zero] at h0
   refine ⟨?_,⟨⟨u,y,cs',e,2,rfl,.inl rfl,hn,hf.1,g1,hf.2⟩,trivial⟩⟩
   simp only [Ty.aU,cA,je,ko,h0]
  ·cases ho
theorem Ef {π:List Src} : ∀(a b:List A0) (x y:List A0),iI π a=some x->iI π b=some y->iI π (a++b)=some (x++y)
 | [],b,x,y,h1,h2=>by simp only [iI,Option.some.injEq] at h1;subst h1;exact h2
 |c::r,b,x,y,h1,h2=>by
  simp only [iI] at h1
  split at h1
  ·rename_i q m e1 e2
   cases h1
   have:=Ef r b m y e2 h2
   simp only [List.cons_append,iI,e1,this]
  ·cases h1
theorem zM {h:List aD} : ∀(p:mG) (l:List A0) (y:p.ty.T) (r:List A0) (ss:List Src),Jg (ai h) p l=some (y,r,ss)->
  ∃ys,l=ys++r/\ ∀(π:List Src) (nm:Nat),(∀i s,ss[i]? =some s->π[nm+i]? =some s)->iI π (aY 2 nm p y).1=some ys/\ bN (Jp π h) ss (aY 2 nm p y).2
 | .one t,l,y,r,ss,hd=>by
  simp only [Jg] at hd
  split at hd<;>try (cases hd;done)
  rename_i c r1
  split at hd<;>try (cases hd;done)
  rename_i x tc h1
  split at hd<;>try (cases hd;done)
  rename_i ss1 q h2
  cases hd
  obtain ⟨ys,e1,e2,e3,e4⟩:=DO t _ _ _ _ _ _ h1 h2
  rw [List.append_nil] at e1
  subst e1
  refine ⟨[_],rfl,fun π nm Zw=> ?_⟩
  obtain ⟨g1,g2⟩:=e4 π nm Zw
  refine ⟨?_,g2⟩
  simp only [aY]
  match hm:(cA 2 nm (t.aU y)).1,g1 with
  | [],g1=>simp [je] at g1
  | [c'],g1=>
   simp only [je] at g1
   split at g1
   ·rename_i q' m' k1 k2
    simp only [Option.some.injEq,List.cons.injEq] at g1
    obtain ⟨rfl,rfl⟩:=g1
    simp only [wW,iI,OM,k1]
   ·cases g1
  |_::_::_,g1=>
   simp only [je] at g1
   split at g1
   ·rename_i k1 k2
    split at k2
    ·cases k2;simp at g1
    ·cases k2
   ·cases g1
 | .agg t,l,y,r,ss,hd=>by
  simp only [Jg] at hd
  split at hd<;>try (cases hd;done)
  rename_i c r1
  split at hd<;>try (cases hd;done)
  rename_i x tc h1
  split at hd<;>try (cases hd;done)
  rename_i ss1 q h2
  cases hd
  obtain ⟨ys,e1,e2,e3,e4⟩:=DO t _ _ _ _ _ _ h1 h2
  rw [List.append_nil] at e1
  subst e1
  refine ⟨[_],rfl,fun π nm Zw=> ?_⟩
  obtain ⟨g1,g2⟩:=e4 π nm Zw
  refine ⟨?_,g2⟩
  simp only [aY,wW,iI,OM,g1]
 | .ptr t,l,y,r,ss,hd=>by simp [Jg] at hd
 | .jO f p,l,y,r,ss,hd=>by simp [Jg] at hd
 | .mv f agg t,l,y,r,ss,hd=>by simp [Jg] at hd
 | .pair a b,l,y,r,ss,hd=>by
  simp only [Jg] at hd
  split at hd<;>try (cases hd;done)
  rename_i x1 r1 ss1 h1
  split at hd<;>try (cases hd;done)
  rename_i x2 r2 ss2 h2
  cases hd
  obtain ⟨ys,e1,e4⟩:=zM a _ _ _ _ h1
  obtain ⟨zs,f1,f4⟩:=zM b _ _ _ _ h2
  refine ⟨ys++zs,by rw [e1,f1];simp,fun π nm Zw=> ?_⟩
  obtain ⟨g1,g2⟩:=e4 π nm fun i s hi=>Zw i s (by rw [List.getElem?_append_left (List.getElem?_eq_some_iff.1 hi).1];exact hi)
  have hl:=g2.length
  obtain ⟨g3,g4⟩:=f4 π (nm+(aY 2 nm a x1).2.length) fun i s hi=>by
   have:=Zw (ss1.length+i) s (by rw [List.getElem?_append_right (by omega)];simpa using hi)
   rwa [hl,<- Nat.add_assoc] at this
  exact ⟨Ef _ _ _ _ g1 g3,g2.append g4⟩
 | .none,l,y,r,ss,hd=>by
  simp only [Jg,Option.some.injEq,Prod.mk.injEq] at hd
  obtain ⟨rfl,rfl,rfl⟩:=hd
  exact ⟨[],rfl,fun π nm _=>⟨rfl,trivial⟩⟩
theorem am5 {π:List Src} {h:List aD} {s:Src} {o:aD} (hr:Jp π h s o):o≠ .gone:=by
 rintro rfl
 cases s with
 |same m=>obtain ⟨p,_,h2⟩:=hr;cases h2
 |nil=>obtain ⟨_,_,h2,_⟩:=hr;cases h2
 |mt m off=>obtain ⟨_,_,_,h2,_⟩:=hr;cases h2
 |any m=>obtain ⟨_,_,_,h2,_⟩:=hr;cases h2
 |cells m len=>obtain ⟨_,_,_,_,_,h2,_⟩:=hr;cases h2
theorem Lp {π:List Src} {h:List aD} : ∀(ss:List Src) (os:List aD),bN (Jp π h) ss os->wJ π h ss os/\ zn ss os=ss.filterMap GZ
 | [],[],_=>⟨trivial,rfl⟩
 | [],_::_,h=>h.elim
 |_::_,[],h=>h.elim
 |s::r,o::l,h=>by
  obtain ⟨h1,h2⟩:=Lp r l h.2
  have hg:=am5 h.1
  cases o<;>first|exact absurd rfl hg|(refine ⟨⟨h.1,h1⟩,?_⟩;simp only [zn,List.filterMap_cons,h2];cases GZ s<;>rfl)
theorem QC {r:mG} {Q:r.ty.T->Prop} {v:AV} {st:AS} (h:l9 r Q v st): ∃y,Q y/\ uS ⟨[v],st.heap⟩ ⟨[kp (aY 2 0 r y).1],(aY 2 0 r y).2⟩:=by
 unfold l9 at h
 split at h
 ·rename_i l hl
  split at h
  ·rename_i y ss hd
   split at h
   ·rename_i hn
    refine ⟨y,h,ss,?_⟩
    obtain ⟨ys,e,hs⟩:=zM r _ _ _ _ hd
    rw [List.append_nil] at e
    subst e
    obtain ⟨h1,h2⟩:=hs ss 0 fun i s hi=>by rwa [Nat.zero_add]
    obtain ⟨h3,h4⟩:=Lp _ _ h2
    refine ⟨?_,h3,by rw [h4];exact hn⟩
    have key:v8 ss (kp (aY 2 0 r y).1)=some v:=by
     cases v with
     |v a=>
      simp only [lU,Option.some.injEq] at hl
      subst hl
      match hm:(aY 2 0 r y).1,h1 with
      | [],h1=>simp [iI] at h1
      | [c],h1=>
       simp only [iI] at h1
       split at h1
       ·rename_i q m k1 k2
        simp only [Option.some.injEq,List.cons.injEq] at h1
        obtain ⟨rfl,_⟩:=h1
        simp only [kp,v8,k1]
       ·cases h1
      |_::_::_,h1=>
       simp only [iI] at h1
       split at h1
       ·rename_i k1 k2
        split at k2
        ·cases k2;simp at h1
        ·cases k2
       ·cases h1
     |pT l'=>
      simp only [lU] at hl
      split at hl
      ·cases hl
      ·rename_i hne
       cases hl
       match hm:(aY 2 0 r y).1,h1 with
       | [],h1=>simp only [kp,v8,h1]
       | [c],h1=>
        simp only [iI] at h1
        split at h1
        ·rename_i q m k1 k2
         cases k2
         cases h1
         exact absurd rfl (hne q)
        ·cases h1
       |_::_::_,h1=>simp only [kp,v8,h1]
     |dead=>simp [lU] at hl
    dsimp only
    revert key
    generalize kp (aY 2 0 r y).1=u
    intro key
    cases u with
    |v a=>exact ⟨key,trivial⟩
    |pT l=>exact ⟨key,trivial⟩
    |dead=>simp [v8] at key
   ·exact h.elim
  ·exact h.elim
 ·exact h.elim
end Go.Ev
