/- Contracts of functions of typed values. -/
import Derived.Test.YtngdehlpoomaiaaGreatEvI
noncomputable section
set_option linter.unusedSectionVars false
set_option linter.unusedVariables false
set_option linter.unusedSimpArgs false
namespace Go.Ev
open Go.RowKit
inductive lF
 |one (t:Ty)
 |agg (t:Ty)
 |ptr (t:Ty)
 |pair (a b:lF)
 |iT (f:FuncId) (p:lF)
 |mv (f:FuncId) (agg:Bool) (t:Ty)
 |none
@[reducible] def lF.ty:lF->Ty
 | .one t=>t
 | .agg t=>t
 | .ptr t=>t
 | .pair a b=> .prod a.ty b.ty
 | .iT _ p=>p.ty
 | .mv _ _ t=>t
 | .none=> .bool
def lF.cap:lF->Bool
 | .ptr _=>true
 | .pair a b=>a.cap&&b.cap
 | .none=>true
 |_=>false
def Ox:A0->Ref
 | .one (.cW n j _)=> .elem n j
 |_=> .ext undef
def aao (c:Cell):Ref:=match c with
 | .raw v=> .ext v
 | .full n=> .full n
 |_=> .ext undef
def ct (rk:Nat):Nat->List cm->List Cell×List aF
 |_,[]=>([],[])
 |nm,.flat v::r=>match ct rk nm r with|(cs,os)=>(.raw v::cs,os)
 |nm,.sl u l::r=>match ct rk (nm+1) r with|(cs,os)=>(.full nm::cs,.row u l rk::os)
def s7 (agg:Bool) (cs:List Cell):A0:=match agg with
 |false=>(match cs with| [c]=> .one c|cs=> .agg cs)
 |true=> .agg cs
def bf (rk:Nat):Nat->(p:lF)->p.ty.T->List A0×List aF
 |nm,.one t,x=>match ct rk nm (t.aU x) with|(cs,os)=>([s7 false cs],os)
 |nm,.agg t,x=>match ct rk nm (t.aU x) with|(cs,os)=>([s7 true cs],os)
 |nm,.ptr t,x=>([.one (.cW nm 0 0)],[.row t [x] 0])
 |nm,.pair a b,x=>match bf rk nm a x.1 with
  |(as,os)=>match bf rk (nm+os.length) b x.2 with
   |(bs,os')=>(as++bs,os++os')
 |nm,.iT f p,x=>match bf rk nm p x with
  |(as,os)=>([.one (.iT (.func f) [] (as.map Ox))],os)
 |nm,.mv f agg t,x=>match ct rk nm (t.aU x) with|(cs,os)=>([.one (.mv f agg (cs.map aao))],os)
 |_,.none,_=>([],[])
def fa (hp:HP):(p:lF)->List AV->Option (p.ty.T×List AV×List Nat×Bool)
 | .one t,l=>match l with
  | .v (.one c)::r=>match cj hp t [c] with
   |some (x,[],tc)=>some (x,r,tc,true)
   |_=>none
  |_=>none
 | .agg t,l=>match l with
  | .v (.agg cs)::r=>match cj hp t cs with
   |some (x,[],tc)=>some (x,r,tc,true)
   |_=>none
  |_=>none
 | .ptr t,l=>match l with
  | .v (.one (.ptr n off))::r=>match hp n with
   |some (.cells cs _)=>match cj hp t ((cs.drop off).take t.size) with
    |some (x,[],tc)=>if t.shallow then some (x,r,n::tc,true) else none
    |_=>none
   |_=>none
  | .v (.one (.cW n j 0))::r=>match hp n with
   |some (.row u l _)=>match iw u t l with
    |some l'=>some (gd t l' j,r,[n],decide (j<l'.length))
    |none=>none
   |_=>none
  |_=>none
 | .pair a b,l=>match fa hp a l with
  |some (x,r,tc,f)=>match fa hp b r with
   |some (y,r',yw,f')=>some ((x,y),r',tc++yw,f&&f')
   |none=>none
  |none=>none
 | .iT f p,l=>match l with
  | .v (.one (.iT (.func g) [] cap))::r=>if g=f then (match fa hp p (cap.map zH) with
   |some (x,[],tc,b)=>some (x,r,tc,p.cap&&b)
   |_=>none) else none
  |_=>none
 | .mv f agg t,l=>match l with
  | .v (.one (.mv g afc rs))::r=>if g=f/\ afc=agg then (match cj hp t (rs.map zP) with
   |some (x,[],tc)=>some (x,r,tc,true)
   |_=>none) else none
  |_=>none
 | .none,l=>some (false,l,[],true)
def jo:List A0->AV
 | [a]=> .v a
 |l=> .nC l
def kD:AV->Option (List A0)
 | .v a=>some [a]
 | .nC l=>match l with
  | [_]=>none
  |l=>some l
 | .dead=>none
def H7 (hp:HP):Ty->List Cell->Option (List Src×List Cell)
 | .prod a b,cs=>match H7 hp a cs with
  |some (ss,r)=>match H7 hp b r with
   |some (ss',r')=>some (ss++ss',r')
   |none=>none
  |none=>none
 | .sl u,cs=>match cs with
  | .raw (.slice none 0 0)::r=>some ([.nil],r)
  | .full n::r=>match hp n with
   |some (.row _ _ rk)=>if rk=2 then some ([.same n],r) else none
   |_=>none
  | .sl n 0 len c::r=>if c=len then (match hp n with
   |some (.cells cs _)=>if u.flat&&(decide (cs.length=len*u.size)&&Nat.ble len 1099511627776) then some ([.cells n len],r) else none
   |_=>none) else none
  |_=>none
 |_,cs=>match cs with
  |_::r=>some ([],r)
  | []=>none
def Dd (hp:HP):(p:lF)->List A0->Option (p.ty.T×List A0×List Src)
 | .one t,l=>match l with
  | .one c::r=>match cj hp t [c] with
   |some (y,[],_)=>match H7 hp t [c] with
    |some (ss,_)=>some (y,r,ss)
    |none=>none
   |_=>none
  |_=>none
 | .agg t,l=>match l with
  | .agg cs::r=>match cj hp t cs with
   |some (y,[],_)=>match H7 hp t cs with
    |some (ss,_)=>some (y,r,ss)
    |none=>none
   |_=>none
  |_=>none
 | .ptr _,_=>none
 | .iT _ _,_=>none
 | .mv _ _ _,_=>none
 | .pair a b,l=>match Dd hp a l with
  |some (x,r,ss)=>match Dd hp b r with
   |some (y,r',ss')=>some ((x,y),r',ss++ss')
   |none=>none
  |none=>none
 | .none,l=>some (false,l,[])
def qk (r:lF) (Q:r.ty.T->Prop) (v:AV) (st:AS):Prop:=match kD v with
 |some l=>match Dd (ai st.heap) r l with
  |some (y,[],ss)=>if eB (ss.filterMap BT) then Q y else False
  |_=>False
 |none=>False
def cY (p:lF) (x:p.ty.T):List AV:=(bf 0 0 p x).1.map .v
def dz (p:lF) (x:p.ty.T):List aF:=(bf 0 0 p x).2
structure cf where
 p:lF
 r:lF
 pre:p.ty.T->Prop
 f:p.ty.T->r.ty.T
def ak (s:cf):Spec:=fun _ args hp nm k=>match fa hp s.p args with
 |some (x,[],tc,b)=>ob b (s.pre x/\ ∀y,y=s.f x->k {val:=jo (bf 2 nm s.r y).1,fresh:=(bf 2 nm s.r y).2,aD:=tc})
 |_=>False
def vS (w:World):aF->Loc->Prop
 | .row u l rk,x=>rk=0/\ (x.blk=none/\ x.iB= [])/\ x.len=l.length/\ x.es=u.size/\ l.length<=x.cap/\ kP w (QZ w) x.base u l
 |_,_=>False
theorem jC {w:World} : ∀(cs:List cm) (vals:List Value) (nm:Nat),bN (Ee w (QZ w)) cs vals->
  ∃xs,bN (vS w) (ct 0 nm cs).2 xs/\ ∀aX:Env,(∀i x,xs[i]? =some x->aX (nm+i)=x)->(ct 0 nm cs).1.map (Cell.ae aX)=vals
 | [],[],nm,_=>⟨[],trivial,fun _ _=>rfl⟩
 | [],_::_,_,h=>h.elim
 |_::_,[],_,h=>h.elim
 | .flat v::r,v'::vr,nm,h=>by
  obtain ⟨xs,h1,h2⟩:=jC r vr nm h.2
  refine ⟨xs,h1,fun aX hr=> ?_⟩
  have:=h2 aX hr
  have hv:v'=v:=h.1
  simp only [ct,List.map_cons,this,hv];rfl
 | .sl u l::r,v'::vr,nm,h=>by
  obtain ⟨xs,h1,h2⟩:=jC r vr (nm+1) h.2
  obtain ⟨a,c,hv,hc,hr⟩:=h.1
  refine ⟨{blk:=none,base:=a,len:=l.length,cap:=c,es:=u.size} ::xs,⟨⟨rfl,⟨rfl,rfl⟩,rfl,rfl,hc,hr⟩,h1⟩,fun aX hr=> ?_⟩
  have:=h2 aX fun i x hi=>by
   have:=hr (i+1) x (by simpa using hi)
   rwa [show nm+(i+1)=nm+1+i by omega] at this
  have h0:=hr 0 _ rfl
  rw [Nat.add_zero] at h0
  simp only [ct,List.map_cons,this,hv,Cell.ae,h0]
theorem add_zero' (a:Addr):a.add 0=a:=by unfold Addr.add;split<;>simp_all
theorem JE {rk nm:Nat} {ρ:Env} : ∀(p:lF),p.cap=true-> ∀ {x:p.ty.T},((bf rk nm p x).1.map Ox).map (Ref.ae ρ)=(bf rk nm p x).1.map (A0.ae ρ):=by
 intro p
 induction p generalizing nm with
 |ptr t=>intro _ x;rfl
 |none=>intro _ x;rfl
 |pair a b LA LB=>
  intro h x
  simp only [lF.cap,Bool.and_eq_true] at h
  simp only [bf,List.map_append]
  rw [LA h.1,LB h.2]
 |one t=>intro h;cases h
 |agg t=>intro h;cases h
 |iT f p _=>intro h;cases h
 |mv f agg t=>intro h;cases h
theorem wq (rk:Nat) (ρ:Env): ∀(cs:List cm) (nm:Nat),((ct rk nm cs).1.map aao).map (Ref.ae ρ)=(ct rk nm cs).1.map (Cell.ae ρ)
 | [],_=>rfl
 | .flat v::r,nm=>by simp only [ct,List.map_cons,wq rk ρ r nm];rfl
 | .sl u l::r,nm=>by simp only [ct,List.map_cons,wq rk ρ r (nm+1)];rfl
theorem nK {hp:HP} : ∀(p:lF) (args:List AV) (x:p.ty.T) (r:List AV) (tc:List Nat),fa hp p args=some (x,r,tc,true)->
  ∃as,args=as++r/\ ∀aq W ρ Kn Γ w,(∀m∈tc,Γ m=hp m)->St aq W ρ Kn Γ w-> ∀nm,∃xs,bN (vS w) (bf 0 nm p x).2 xs/\
   ∀aX:Env,(∀i x,xs[i]? =some x->aX (nm+i)=x)->as.map (AV.ae ρ)=(bf 0 nm p x).1.map (A0.ae aX)
 | .one t,args,x,r,tc,h=>by
  simp only [fa] at h
  split at h<;>try (cases h;done)
  rename_i c r'
  split at h<;>try (cases h;done)
  rename_i y yw hd
  cases h
  obtain ⟨ys,e,hl,hs⟩:=k9 hp t _ _ _ _ hd
  rw [List.append_nil] at e
  subst e
  refine ⟨[_],rfl,fun aq W ρ Kn Γ w ht hst nm=> ?_⟩
  obtain ⟨xs,h1,h2⟩:=jC _ _ nm (hs aq W ρ Kn Γ w ht hst)
  refine ⟨xs,h1,fun aX hr=> ?_⟩
  have:=h2 aX hr
  simp only [bf,List.map_cons,List.map_nil]
  simp only [List.map_cons,List.map_nil] at this
  obtain ⟨c',Lp,e⟩: ∃c',(ct 0 nm (t.aU x)).1= [c']/\ c'.ae aX=c.ae ρ:=by
   match hm:(ct 0 nm (t.aU x)).1,this with
   | [c'],h=>simp only [List.map_cons,List.map_nil,List.cons.injEq,and_true] at h;exact ⟨c',rfl,h⟩
   | [],h=>simp at h
   |_::_::_,h=>simp at h
  rw [Lp]
  simp only [s7,AV.ae,A0.ae,e]
 | .agg t,args,x,r,tc,h=>by
  simp only [fa] at h
  split at h<;>try (cases h;done)
  rename_i cs r'
  split at h<;>try (cases h;done)
  rename_i y yw hd
  cases h
  obtain ⟨ys,e,hl,hs⟩:=k9 hp t _ _ _ _ hd
  rw [List.append_nil] at e
  subst e
  refine ⟨[_],rfl,fun aq W ρ Kn Γ w ht hst nm=> ?_⟩
  obtain ⟨xs,h1,h2⟩:=jC _ _ nm (hs aq W ρ Kn Γ w ht hst)
  refine ⟨xs,h1,fun aX hr=> ?_⟩
  have:=h2 aX hr
  simp only [bf,s7,List.map_cons,List.map_nil,AV.ae,A0.ae,this]
 | .ptr t,args,x,r,tc,h=>by
  simp only [fa] at h
  split at h
  ·rename_i n off r'
   split at h<;>try (cases h;done)
   rename_i cs e he
   split at h<;>try (cases h;done)
   rename_i y yw hd
   split at h<;>try (cases h;done)
   rename_i hsh
   cases h
   obtain ⟨ys,e1,hl,hs⟩:=k9 hp t _ _ _ _ hd
   rw [List.append_nil] at e1
   refine ⟨[_],rfl,fun aq W ρ Kn Γ w ht hst nm=> ?_⟩
   have hall:=vu t x _ hsh (hs aq W ρ Kn Γ w (fun m hm=>ht m (by simp [hm])) hst)
   obtain ⟨b,hb,hh⟩:=hst.at_ n _ (by rw [ht n (by simp),he])
   refine ⟨[{blk:=none,base:=addrOf ρ n off,len:=1,cap:=1,es:=t.size}],⟨⟨rfl,⟨rfl,rfl⟩,rfl,rfl,by simp,ys.map (Cell.ae ρ),?_,fun i v hv=> ?_⟩,trivial⟩,fun aX hr=> ?_⟩
   ·simpa [ay] using hall
   ·refine ⟨⟨b,off,none⟩,by simp [addrOf,hb],?_,?_⟩
    ·rw [KP,bL (by simpa using hh)]
     rw [<- e1,List.map_take,List.map_drop,List.getElem?_take] at hv
     split at hv
     ·rwa [List.getElem?_drop] at hv
     ·cases hv
    ·exact ⟨_,_,_,hh⟩
   ·have h0:=hr 0 _ rfl
    rw [Nat.add_zero] at h0
    simp only [bf,List.map_cons,List.map_nil,AV.ae,A0.ae,Cell.ae,h0]
    cases addrOf ρ n off<;>simp [add_zero']
  ·rename_i n j r'
   split at h<;>try (cases h;done)
   rename_i u l rk he
   split at h<;>try (cases h;done)
   rename_i l' hl'
   simp only [Option.some.injEq,Prod.mk.injEq,decide_eq_true_eq] at h
   obtain ⟨rfl,rfl,rfl,hj⟩:=h
   obtain ⟨e,e2⟩:=cg hl'
   subst e
   dsimp only at e2
   subst e2
   refine ⟨[_],rfl,fun aq W ρ Kn Γ w ht hst nm=> ?_⟩
   have bQ:Γ n=some (.row u l rk):=by rw [ht n (by simp),he]
   have hra:=hst.rowAt bQ
   have hes:(ρ n).es=u.size:=(hst.at_ n _ bQ).2.1
   have hp:=hra.part (a':=(ρ n).base.map (·.add (j*u.size))) j (some 1) fun _=>rfl
   have w7:mz l j (some 1)= [gd u l j]:=by
    simp only [mz,gd,List.getD_eq_getElem?_getD,List.getElem?_eq_getElem hj,Option.getD_some]
    rw [List.drop_eq_getElem_cons hj];rfl
   rw [w7] at hp
   refine ⟨[{blk:=none,base:=(ρ n).base.map (·.add (j*u.size)),len:=1,cap:=1,es:=u.size}],⟨⟨rfl,⟨rfl,rfl⟩,rfl,rfl,by simp,hp⟩,trivial⟩,fun aX hr=> ?_⟩
   have h0:=hr 0 _ rfl
   rw [Nat.add_zero] at h0
   simp only [bf,List.map_cons,List.map_nil,AV.ae,A0.ae,Cell.ae,h0,hes]
   cases (ρ n).base<;>simp [add_zero']
  ·cases h
 | .iT f p,args,x,r,tc,h=>by
  simp only [fa] at h
  split at h<;>try (cases h;done)
  rename_i g cap r'
  split at h<;>try (cases h;done)
  rename_i hg
  split at h<;>try (cases h;done)
  rename_i x1 DX b1 h1
  simp only [Option.some.injEq,Prod.mk.injEq,Bool.and_eq_true] at h
  obtain ⟨rfl,rfl,rfl,hc,rfl⟩:=h
  subst hg
  obtain ⟨as,e1,k1⟩:=nK p _ _ _ _ h1
  rw [List.append_nil] at e1
  refine ⟨[_],rfl,fun aq W ρ Kn Γ w ht hst nm=> ?_⟩
  obtain ⟨xs,g1,g2⟩:=k1 aq W ρ Kn Γ w ht hst nm
  refine ⟨xs,g1,fun aX hr=> ?_⟩
  have h2:=g2 aX hr
  have e2:cap.map (Ref.ae ρ)=((bf 0 nm p x1).1.map Ox).map (Ref.ae aX):=by
   rw [JE p hc,<- h2,<- e1,List.map_map]
   exact List.map_congr_left fun q _=>(sg ρ q).symm
  simp only [bf,List.map_cons,List.map_nil,AV.ae,A0.ae,Cell.ae,e2]
 | .mv f agg t,args,x,r,tc,h=>by
  simp only [fa] at h
  split at h<;>try (cases h;done)
  rename_i g afc rs r'
  split at h<;>try (cases h;done)
  rename_i hg
  split at h<;>try (cases h;done)
  rename_i y yw hd
  cases h
  obtain ⟨rfl,rfl⟩:=hg
  obtain ⟨ys,e,hl,hs⟩:=k9 hp t _ _ _ _ hd
  rw [List.append_nil] at e
  refine ⟨[_],rfl,fun aq W ρ Kn Γ w ht hst nm=> ?_⟩
  obtain ⟨xs,h1,h2⟩:=jC _ _ nm (hs aq W ρ Kn Γ w ht hst)
  refine ⟨xs,h1,fun aX hr=> ?_⟩
  have h3:=h2 aX hr
  have e2:rs.map (Ref.ae ρ)=((ct 0 nm (t.aU x)).1.map aao).map (Ref.ae aX):=by
   rw [wq,h3,<- e,List.map_map]
   exact List.map_congr_left fun q _=>(nt ρ q).symm
  simp only [bf,List.map_cons,List.map_nil,AV.ae,A0.ae,Cell.ae,e2]
 | .pair a b,args,x,r,tc,h=>by
  simp only [fa] at h
  split at h<;>try (cases h;done)
  rename_i x1 r1 DX f1 h1
  split at h<;>try (cases h;done)
  rename_i x2 r2 ta f2 h2
  simp only [Option.some.injEq,Prod.mk.injEq,Bool.and_eq_true] at h
  obtain ⟨rfl,rfl,rfl,rfl,rfl⟩:=h
  obtain ⟨as,e1,k1⟩:=nK a _ _ _ _ h1
  obtain ⟨bs,e2,k2⟩:=nK b _ _ _ _ h2
  refine ⟨as++bs,by rw [e1,e2];simp,fun aq W ρ Kn Γ w ht hst nm=> ?_⟩
  obtain ⟨xs,g1,g2⟩:=k1 aq W ρ Kn Γ w (fun m hm=>ht m (by simp [hm])) hst nm
  obtain ⟨ys,g3,g4⟩:=k2 aq W ρ Kn Γ w (fun m hm=>ht m (by simp [hm])) hst (nm+(bf 0 nm a x1).2.length)
  refine ⟨xs++ys,g1.append g3,fun aX hr=> ?_⟩
  have hl:=g1.length
  simp only [bf,List.map_append]
  rw [g2 aX fun i x hi=>hr i x (by rw [List.getElem?_append_left (List.getElem?_eq_some_iff.1 hi).1];exact hi),g4 aX fun i x hi=>by
   have:=hr (xs.length+i) x (by rw [List.getElem?_append_right (by omega)];simpa using hi)
   rwa [<- hl,<- Nat.add_assoc] at this]
 | .none,args,x,r,tc,h=>by
  simp only [fa,Option.some.injEq,Prod.mk.injEq,and_true] at h
  obtain ⟨rfl,rfl,rfl⟩:=h
  exact ⟨[],rfl,fun aq W ρ Kn Γ w ht hst nm=>⟨[],trivial,fun _ _=>rfl⟩⟩
where KP {b off m:Nat} :(⟨b,off,none⟩:Addr).add m=⟨b,off+m,none⟩:=by unfold Addr.add;split<;>simp_all
theorem l8 {w:World} {o:aF} {x:Loc} (h:vS w o x): ∃u,∃l:List u.T,o= .row u l 0:=by
 cases o<;>first|exact h.elim|(obtain ⟨rfl,_⟩:=h;exact ⟨_,_,rfl⟩)
theorem St.begin {w:World} {os:List aF} {xs:List Loc} (h:bN (vS w) os xs):St yB w (fun n=>xs.getD n {}) (· <os.length) (ai os) w:=by
 have pD: ∀n o,ai os n=some o->os[n]? =some o:=fun n o ho=>by
  unfold ai at ho
  split at ho
  ·cases ho
  ·exact ho
 have hx: ∀n o,ai os n=some o->vS w o (xs.getD n {}):=fun n o ho=>by
  obtain ⟨x,h1,h2⟩:=h.get n o (pD n o ho)
  simpa [h1] using h2
 have dJ: ∀n,(ai os n).isSome=true->(xs.getD n {}).blk=Option.none/\ (xs.getD n {}).iB= []:=fun n hn=>by
  obtain ⟨o,ho⟩:=Option.isSome_iff_exists.1 hn
  have:=hx n o ho
  obtain ⟨u,l,rfl⟩:=l8 this
  exact this.2.1
 refine ⟨Fr.refl _ _,fun n o ho=> ?_,fun n o ho=> ?_,fun n m b hn hm hb=> ?_,fun n b hn hb=> ?_,fun b ⟨m,S,h1,_⟩=> ?_,fun n o ho=> .inr (dJ n (by rw [ho];rfl)).2⟩
 rotate_right
 ·obtain ⟨u,l,e⟩:=l8 (hx m _ h1)
  cases e
 ·have hg:=hx n o ho
  obtain ⟨u,l,rfl⟩:=l8 hg
  obtain ⟨_,h1,h2,h3,h4,vals,h5,h6⟩:=hg
  obtain ⟨e1,e2⟩:=jH h5
  have hfz: ∀b,bn w b->dM (fun n=>xs.getD n {}) (ai os) w b:=fun b hb=>⟨hb,by
   rintro (⟨m,g1,g2⟩|⟨m,S,g1,_⟩)
   ·exact mw (dJ m g1) g2
   ·obtain ⟨u,l,e⟩:=l8 (hx m _ g1)
    cases e⟩
  refine ⟨h2,h3,h4,q8 vals,fun i v hv=> ?_,fun q u' l' hq=> ?_,fun _=>h1.1,fun h=>absurd rfl h⟩
  ·rw [e1] at hv
   obtain ⟨a,g1,g2,g3⟩:=h6 i v hv
   exact ⟨a,g1,g2,fun _=>hfz _ g3⟩
  ·exact (e2 q u' l' hq).weak fun b hb=>⟨hfz b hb,fun h=>by cases h⟩
 ·obtain ⟨u,l,rfl⟩:=l8 (hx n o ho)
  exact ⟨(List.getElem?_eq_some_iff.1 (pD n _ ho)).1,trivial⟩
 ·exact (mw (dJ n hn) hb).elim
 ·exact (mw (dJ n hn) hb).elim
end Go.Ev
namespace Go.Ev
open Go.RowKit
theorem tK (rk:Nat): ∀(a b:List cm) (nm:Nat),ct rk nm (a++b)=((ct rk nm a).1++(ct rk (nm+(ct rk nm a).2.length) b).1,(ct rk nm a).2++(ct rk (nm+(ct rk nm a).2.length) b).2)
 | [],b,nm=>by simp [ct]
 | .flat v::r,b,nm=>by
  have:=tK rk r b nm
  simp only [List.cons_append,ct,this]
 | .sl u l::r,b,nm=>by
  have:=tK rk r b (nm+1)
  simp only [List.cons_append,ct,this,List.length_cons,show nm+((ct rk (nm+1) r).2.length+1)=nm+1+(ct rk (nm+1) r).2.length by omega]
theorem zR {π:List Src} : ∀(a b:List Cell) (x y:List Cell),hO π a=some x->hO π b=some y->hO π (a++b)=some (x++y)
 | [],b,x,y,h1,h2=>by simp only [hO,Option.some.injEq] at h1;subst h1;exact h2
 |c::r,b,x,y,h1,h2=>by
  simp only [hO] at h1
  split at h1
  ·rename_i q m e1 e2
   cases h1
   have:=zR r b m y e2 h2
   simp only [List.cons_append,hO,e1,this]
  ·cases h1
theorem zK {h:List aF} : ∀(t:Ty) (cs:List Cell) (y:t.T) (r r':List Cell) (tc:List Nat) (ss:List Src),cj (ai h) t cs=some (y,r,tc)->H7 (ai h) t cs=some (ss,r')->
  ∃ys,cs=ys++r/\ r'=r/\ ys.length=t.size/\ ∀(π:List Src) (nm:Nat),(∀i s,ss[i]? =some s->π[nm+i]? =some s)->
   hO π (ct 2 nm (t.aU y)).1=some ys/\ bN (Dk π h) ss (ct 2 nm (t.aU y)).2
 | .int k,cs,y,r,r',tc,ss,hd,ho=>by
  simp only [cj] at hd
  split at hd<;>try (cases hd;done)
  split at hd<;>try (cases hd;done)
  rename_i e
  cases hd;subst e
  simp only [H7,Option.some.injEq,Prod.mk.injEq] at ho
  obtain ⟨rfl,rfl⟩:=ho
  exact ⟨[_],rfl,rfl,rfl,fun π nm _=>⟨rfl,trivial⟩⟩
 | .bool,cs,y,r,r',tc,ss,hd,ho=>by
  simp only [cj] at hd
  split at hd<;>try (cases hd;done)
  cases hd
  simp only [H7,Option.some.injEq,Prod.mk.injEq] at ho
  obtain ⟨rfl,rfl⟩:=ho
  exact ⟨[_],rfl,rfl,rfl,fun π nm _=>⟨rfl,trivial⟩⟩
 | .str,cs,y,r,r',tc,ss,hd,ho=>by
  simp only [cj] at hd
  split at hd<;>try (cases hd;done)
  cases hd
  simp only [H7,Option.some.injEq,Prod.mk.injEq] at ho
  obtain ⟨rfl,rfl⟩:=ho
  exact ⟨[_],rfl,rfl,rfl,fun π nm _=>⟨rfl,trivial⟩⟩
 | .prod a b,cs,y,r,r',tc,ss,hd,ho=>by
  simp only [cj] at hd
  split at hd<;>try (cases hd;done)
  rename_i x1 r1 DX h1
  split at hd<;>try (cases hd;done)
  rename_i x2 r2 ta h2
  cases hd
  simp only [H7] at ho
  split at ho<;>try (cases ho;done)
  rename_i ss1 q1 o1
  split at ho<;>try (cases ho;done)
  rename_i ss2 q2 o2
  cases ho
  obtain ⟨ys,e1,e2,e3,e4⟩:=zK a _ _ _ _ _ _ h1 o1
  subst e2
  obtain ⟨zs,f1,f2,f3,f4⟩:=zK b _ _ _ _ _ _ h2 o2
  subst f2
  refine ⟨ys++zs,by rw [e1,f1];simp,rfl,by simp [e3,f3,Ty.size],fun π nm QY=> ?_⟩
  obtain ⟨g1,g2⟩:=e4 π nm fun i s hi=>QY i s (by rw [List.getElem?_append_left (List.getElem?_eq_some_iff.1 hi).1];exact hi)
  have hl:=g2.length
  obtain ⟨g3,g4⟩:=f4 π (nm+(ct 2 nm (a.aU x1)).2.length) fun i s hi=>by
   have:=QY (ss1.length+i) s (by rw [List.getElem?_append_right (by omega)];simpa using hi)
   rwa [hl,<- Nat.add_assoc] at this
  rw [show (Ty.prod a b).aU (x1,x2)=a.aU x1++b.aU x2 from rfl,tK]
  exact ⟨zR _ _ _ _ g1 g3,g2.append g4⟩
 | .sl u,cs,y,r,r',tc,ss,hd,ho=>by
  simp only [H7] at ho
  split at ho
  ·cases ho
   simp only [cj,Option.some.injEq,Prod.mk.injEq] at hd
   obtain ⟨rfl,rfl,rfl⟩:=hd
   refine ⟨[_],rfl,rfl,rfl,fun π nm QY=> ?_⟩
   have h0:=QY 0 _ rfl
   rw [Nat.add_zero] at h0
   refine ⟨?_,⟨⟨u,2,rfl,by decide⟩,trivial⟩⟩
   simp only [Ty.aU,ct,hO,jn,h0]
  ·rename_i n r1
   split at ho<;>try (cases ho;done)
   rename_i t l rk hn
   split at ho<;>try (cases ho;done)
   rename_i p9
   cases ho;subst p9
   simp only [cj,hn] at hd
   split at hd<;>try (cases hd;done)
   rename_i l' hl'
   cases hd
   obtain ⟨e,e2⟩:=cg hl'
   subst e
   dsimp only at e2
   subst e2
   refine ⟨[_],rfl,rfl,rfl,fun π nm QY=> ?_⟩
   have h0:=QY 0 _ rfl
   rw [Nat.add_zero] at h0
   refine ⟨?_,⟨⟨_,hn,rfl⟩,trivial⟩⟩
   simp only [Ty.aU,ct,hO,jn,h0]
  ·rename_i n len c r1
   split at ho<;>try (cases ho;done)
   rename_i hc
   split at ho<;>try (cases ho;done)
   rename_i cs' e hn
   split at ho<;>try (cases ho;done)
   rename_i hf
   simp only [Bool.and_eq_true,decide_eq_true_eq] at hf
   cases ho;subst hc
   simp only [cj,kf hf.1,hn,Nat.le_refl,decide_true,Bool.and_self,if_true,List.drop_zero] at hd
   split at hd<;>try (cases hd;done)
   rename_i l DX hN
   cases hd
   obtain ⟨g1,_⟩:=Iz (eW:=fun _=>none) hf.1 _ _ _ _ hN
   refine ⟨[_],rfl,rfl,rfl,fun π nm QY=> ?_⟩
   have h0:=QY 0 _ rfl
   rw [Nat.add_zero] at h0
   refine ⟨?_,⟨⟨u,y,cs',e,2,rfl,.inl rfl,hn,hf.1,g1,hf.2⟩,trivial⟩⟩
   simp only [Ty.aU,ct,hO,jn,h0]
  ·cases ho
theorem zQ {π:List Src} : ∀(a b:List A0) (x y:List A0),gy π a=some x->gy π b=some y->gy π (a++b)=some (x++y)
 | [],b,x,y,h1,h2=>by simp only [gy,Option.some.injEq] at h1;subst h1;exact h2
 |c::r,b,x,y,h1,h2=>by
  simp only [gy] at h1
  split at h1
  ·rename_i q m e1 e2
   cases h1
   have:=zQ r b m y e2 h2
   simp only [List.cons_append,gy,e1,this]
  ·cases h1
theorem vF {h:List aF} : ∀(p:lF) (l:List A0) (y:p.ty.T) (r:List A0) (ss:List Src),Dd (ai h) p l=some (y,r,ss)->
  ∃ys,l=ys++r/\ ∀(π:List Src) (nm:Nat),(∀i s,ss[i]? =some s->π[nm+i]? =some s)->gy π (bf 2 nm p y).1=some ys/\ bN (Dk π h) ss (bf 2 nm p y).2
 | .one t,l,y,r,ss,hd=>by
  simp only [Dd] at hd
  split at hd<;>try (cases hd;done)
  rename_i c r1
  split at hd<;>try (cases hd;done)
  rename_i x tc h1
  split at hd<;>try (cases hd;done)
  rename_i ss1 q h2
  cases hd
  obtain ⟨ys,e1,e2,e3,e4⟩:=zK t _ _ _ _ _ _ h1 h2
  rw [List.append_nil] at e1
  subst e1
  refine ⟨[_],rfl,fun π nm QY=> ?_⟩
  obtain ⟨g1,g2⟩:=e4 π nm QY
  refine ⟨?_,g2⟩
  simp only [bf]
  match hm:(ct 2 nm (t.aU y)).1,g1 with
  | [],g1=>simp [hO] at g1
  | [c'],g1=>
   simp only [hO] at g1
   split at g1
   ·rename_i q' m' k1 k2
    simp only [Option.some.injEq,List.cons.injEq] at g1
    obtain ⟨rfl,rfl⟩:=g1
    simp only [s7,gy,H8,k1]
   ·cases g1
  |_::_::_,g1=>
   simp only [hO] at g1
   split at g1
   ·rename_i k1 k2
    split at k2
    ·cases k2;simp at g1
    ·cases k2
   ·cases g1
 | .agg t,l,y,r,ss,hd=>by
  simp only [Dd] at hd
  split at hd<;>try (cases hd;done)
  rename_i c r1
  split at hd<;>try (cases hd;done)
  rename_i x tc h1
  split at hd<;>try (cases hd;done)
  rename_i ss1 q h2
  cases hd
  obtain ⟨ys,e1,e2,e3,e4⟩:=zK t _ _ _ _ _ _ h1 h2
  rw [List.append_nil] at e1
  subst e1
  refine ⟨[_],rfl,fun π nm QY=> ?_⟩
  obtain ⟨g1,g2⟩:=e4 π nm QY
  refine ⟨?_,g2⟩
  simp only [bf,s7,gy,H8,g1]
 | .ptr t,l,y,r,ss,hd=>by simp [Dd] at hd
 | .iT f p,l,y,r,ss,hd=>by simp [Dd] at hd
 | .mv f agg t,l,y,r,ss,hd=>by simp [Dd] at hd
 | .pair a b,l,y,r,ss,hd=>by
  simp only [Dd] at hd
  split at hd<;>try (cases hd;done)
  rename_i x1 r1 ss1 h1
  split at hd<;>try (cases hd;done)
  rename_i x2 r2 ss2 h2
  cases hd
  obtain ⟨ys,e1,e4⟩:=vF a _ _ _ _ h1
  obtain ⟨zs,f1,f4⟩:=vF b _ _ _ _ h2
  refine ⟨ys++zs,by rw [e1,f1];simp,fun π nm QY=> ?_⟩
  obtain ⟨g1,g2⟩:=e4 π nm fun i s hi=>QY i s (by rw [List.getElem?_append_left (List.getElem?_eq_some_iff.1 hi).1];exact hi)
  have hl:=g2.length
  obtain ⟨g3,g4⟩:=f4 π (nm+(bf 2 nm a x1).2.length) fun i s hi=>by
   have:=QY (ss1.length+i) s (by rw [List.getElem?_append_right (by omega)];simpa using hi)
   rwa [hl,<- Nat.add_assoc] at this
  exact ⟨zQ _ _ _ _ g1 g3,g2.append g4⟩
 | .none,l,y,r,ss,hd=>by
  simp only [Dd,Option.some.injEq,Prod.mk.injEq] at hd
  obtain ⟨rfl,rfl,rfl⟩:=hd
  exact ⟨[],rfl,fun π nm _=>⟨rfl,trivial⟩⟩
theorem adA {π:List Src} {h:List aF} {s:Src} {o:aF} (hr:Dk π h s o):o≠ .gone:=by
 rintro rfl
 cases s with
 |same m=>obtain ⟨p,_,h2⟩:=hr;cases h2
 |nil=>obtain ⟨_,_,h2,_⟩:=hr;cases h2
 |mt m off=>obtain ⟨_,_,_,h2,_⟩:=hr;cases h2
 |any m=>obtain ⟨_,_,_,h2,_⟩:=hr;cases h2
 |cells m len=>obtain ⟨_,_,_,_,_,h2,_⟩:=hr;cases h2
theorem E7 {π:List Src} {h:List aF} : ∀(ss:List Src) (os:List aF),bN (Dk π h) ss os->sQ π h ss os/\ vo ss os=ss.filterMap BT
 | [],[],_=>⟨trivial,rfl⟩
 | [],_::_,h=>h.elim
 |_::_,[],h=>h.elim
 |s::r,o::l,h=>by
  obtain ⟨h1,h2⟩:=E7 r l h.2
  have hg:=adA h.1
  cases o<;>first|exact absurd rfl hg|(refine ⟨⟨h.1,h1⟩,?_⟩;simp only [vo,List.filterMap_cons,h2];cases BT s<;>rfl)
theorem JI {r:lF} {Q:r.ty.T->Prop} {v:AV} {st:AS} (h:qk r Q v st): ∃y,Q y/\ rq ⟨[v],st.heap⟩ ⟨[jo (bf 2 0 r y).1],(bf 2 0 r y).2⟩:=by
 unfold qk at h
 split at h
 ·rename_i l hl
  split at h
  ·rename_i y ss hd
   split at h
   ·rename_i hn
    refine ⟨y,h,ss,?_⟩
    obtain ⟨ys,e,hs⟩:=vF r _ _ _ _ hd
    rw [List.append_nil] at e
    subst e
    obtain ⟨h1,h2⟩:=hs ss 0 fun i s hi=>by rwa [Nat.zero_add]
    obtain ⟨h3,h4⟩:=E7 _ _ h2
    refine ⟨?_,h3,by rw [h4];exact hn⟩
    have key:sv ss (jo (bf 2 0 r y).1)=some v:=by
     cases v with
     |v a=>
      simp only [kD,Option.some.injEq] at hl
      subst hl
      match hm:(bf 2 0 r y).1,h1 with
      | [],h1=>simp [gy] at h1
      | [c],h1=>
       simp only [gy] at h1
       split at h1
       ·rename_i q m k1 k2
        simp only [Option.some.injEq,List.cons.injEq] at h1
        obtain ⟨rfl,_⟩:=h1
        simp only [jo,sv,k1]
       ·cases h1
      |_::_::_,h1=>
       simp only [gy] at h1
       split at h1
       ·rename_i k1 k2
        split at k2
        ·cases k2;simp at h1
        ·cases k2
       ·cases h1
     |nC l'=>
      simp only [kD] at hl
      split at hl
      ·cases hl
      ·rename_i hne
       cases hl
       match hm:(bf 2 0 r y).1,h1 with
       | [],h1=>simp only [jo,sv,h1]
       | [c],h1=>
        simp only [gy] at h1
        split at h1
        ·rename_i q m k1 k2
         cases k2
         cases h1
         exact absurd rfl (hne q)
        ·cases h1
       |_::_::_,h1=>simp only [jo,sv,h1]
     |dead=>simp [kD] at hl
    dsimp only
    revert key
    generalize jo (bf 2 0 r y).1=u
    intro key
    cases u with
    |v a=>exact ⟨key,trivial⟩
    |nC l=>exact ⟨key,trivial⟩
    |dead=>simp [sv] at key
   ·exact h.elim
  ·exact h.elim
 ·exact h.elim
end Go.Ev
