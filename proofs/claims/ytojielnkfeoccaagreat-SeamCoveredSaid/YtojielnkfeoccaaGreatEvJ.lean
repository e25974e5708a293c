/- Contracts of functions of typed values. -/
import Derived.Test.YtojielnkfeoccaaGreatEvI
noncomputable section
set_option linter.unusedSectionVars false
set_option linter.unusedVariables false
set_option linter.unusedSimpArgs false
namespace Go.Ev
open Go.RowKit
inductive nX
 |one (t:Ty)
 |agg (t:Ty)
 |ptr (t:Ty)
 |pair (a b:nX)
 |eN (f:FuncId) (p:nX)
 |mv (f:FuncId) (agg:Bool) (t:Ty)
 |none
@[reducible] def nX.ty:nX->Ty
 | .one t=>t
 | .agg t=>t
 | .ptr t=>t
 | .pair a b=> .prod a.ty b.ty
 | .eN _ p=>p.ty
 | .mv _ _ t=>t
 | .none=> .bool
def nX.cap:nX->Bool
 | .ptr _=>true
 | .pair a b=>a.cap&&b.cap
 | .none=>true
 |_=>false
def OJ:A0->Ref
 | .one (.bA n j _)=> .elem n j
 |_=> .ext undef
def WK (c:Cell):Ref:=match c with
 | .raw v=> .ext v
 | .full n=> .full n
 |_=> .ext undef
def dG (rk:Nat):Nat->List cD->List Cell×List aQ
 |_,[]=>([],[])
 |nm,.flat v::r=>match dG rk nm r with|(cs,os)=>(.raw v::cs,os)
 |nm,.sl u l::r=>match dG rk (nm+1) r with|(cs,os)=>(.full nm::cs,.row u l rk::os)
def wE (agg:Bool) (cs:List Cell):A0:=match agg with
 |false=>(match cs with| [c]=> .one c|cs=> .agg cs)
 |true=> .agg cs
def bV (rk:Nat):Nat->(p:nX)->p.ty.T->List A0×List aQ
 |nm,.one t,x=>match dG rk nm (t.aL x) with|(cs,os)=>([wE false cs],os)
 |nm,.agg t,x=>match dG rk nm (t.aL x) with|(cs,os)=>([wE true cs],os)
 |nm,.ptr t,x=>([.one (.bA nm 0 0)],[.row t [x] 0])
 |nm,.pair a b,x=>match bV rk nm a x.1 with
  |(as,os)=>match bV rk (nm+os.length) b x.2 with
   |(bs,os')=>(as++bs,os++os')
 |nm,.eN f p,x=>match bV rk nm p x with
  |(as,os)=>([.one (.eN (.func f) [] (as.map OJ))],os)
 |nm,.mv f agg t,x=>match dG rk nm (t.aL x) with|(cs,os)=>([.one (.mv f agg (cs.map WK))],os)
 |_,.none,_=>([],[])
def wB (hp:HP):(p:nX)->List AV->Option (p.ty.T×List AV×List Nat×Bool)
 | .one t,l=>match l with
  | .v (.one c)::r=>match cL hp t [c] with
   |some (x,[],tc)=>some (x,r,tc,true)
   |_=>none
  |_=>none
 | .agg t,l=>match l with
  | .v (.agg cs)::r=>match cL hp t cs with
   |some (x,[],tc)=>some (x,r,tc,true)
   |_=>none
  |_=>none
 | .ptr t,l=>match l with
  | .v (.one (.ptr n off))::r=>match hp n with
   |some (.cells cs _)=>match cL hp t ((cs.drop off).take t.size) with
    |some (x,[],tc)=>if t.shallow then some (x,r,n::tc,true) else none
    |_=>none
   |_=>none
  | .v (.one (.bA n j 0))::r=>match hp n with
   |some (.row u l _)=>match jU u t l with
    |some l'=>some (gd t l' j,r,[n],decide (j<l'.length))
    |none=>none
   |_=>none
  |_=>none
 | .pair a b,l=>match wB hp a l with
  |some (x,r,tc,f)=>match wB hp b r with
   |some (y,r',Ee,f')=>some ((x,y),r',tc++Ee,f&&f')
   |none=>none
  |none=>none
 | .eN f p,l=>match l with
  | .v (.one (.eN (.func g) [] cap))::r=>if g=f then (match wB hp p (cap.map xE) with
   |some (x,[],tc,b)=>some (x,r,tc,p.cap&&b)
   |_=>none) else none
  |_=>none
 | .mv f agg t,l=>match l with
  | .v (.one (.mv g ZQ rs))::r=>if g=f/\ ZQ=agg then (match cL hp t (rs.map xL) with
   |some (x,[],tc)=>some (x,r,tc,true)
   |_=>none) else none
  |_=>none
 | .none,l=>some (false,l,[],true)
def pq:List A0->AV
 | [a]=> .v a
 |l=> .lZ l
def Ij:AV->Option (List A0)
 | .v a=>some [a]
 | .lZ l=>match l with
  | [_]=>none
  |l=>some l
 | .dead=>none
def EK (hp:HP):Ty->List Cell->Option (List Src×List Cell)
 | .prod a b,cs=>match EK hp a cs with
  |some (ss,r)=>match EK hp b r with
   |some (ss',r')=>some (ss++ss',r')
   |none=>none
  |none=>none
 | .sl u,cs=>match cs with
  | .raw (.slice none 0 0)::r=>some ([.nil],r)
  | .full n::r=>match hp n with
   |some (.row _ _ rk)=>if rk=2 then some ([.same n],r) else none
   |_=>none
  | .sl n 0 len c::r=>if c=len then (match hp n with
   |some (.cells cs _)=>if u.flat&&(decide (cs.length=len*u.size)&&Nat.ble len 1099511627776) then some ([.cells n len],r) else none
   |_=>none) else none
  |_=>none
 |_,cs=>match cs with
  |_::r=>some ([],r)
  | []=>none
def CB (hp:HP):(p:nX)->List A0->Option (p.ty.T×List A0×List Src)
 | .one t,l=>match l with
  | .one c::r=>match cL hp t [c] with
   |some (y,[],_)=>match EK hp t [c] with
    |some (ss,_)=>some (y,r,ss)
    |none=>none
   |_=>none
  |_=>none
 | .agg t,l=>match l with
  | .agg cs::r=>match cL hp t cs with
   |some (y,[],_)=>match EK hp t cs with
    |some (ss,_)=>some (y,r,ss)
    |none=>none
   |_=>none
  |_=>none
 | .ptr _,_=>none
 | .eN _ _,_=>none
 | .mv _ _ _,_=>none
 | .pair a b,l=>match CB hp a l with
  |some (x,r,ss)=>match CB hp b r with
   |some (y,r',ss')=>some ((x,y),r',ss++ss')
   |none=>none
  |none=>none
 | .none,l=>some (false,l,[])
def vB (r:nX) (Q:r.ty.T->Prop) (v:AV) (st:AS):Prop:=match Ij v with
 |some l=>match CB (av st.heap) r l with
  |some (y,[],ss)=>if qD (ss.filterMap EV) then Q y else False
  |_=>False
 |none=>False
def jy (p:nX) (x:p.ty.T):List AV:=(bV 0 0 p x).1.map .v
def jB (p:nX) (x:p.ty.T):List aQ:=(bV 0 0 p x).2
structure fg where
 p:nX
 r:nX
 pre:p.ty.T->Prop
 f:p.ty.T->r.ty.T
def aq (s:fg):Spec:=fun _ args hp nm k=>match wB hp s.p args with
 |some (x,[],tc,b)=>ob b (s.pre x/\ ∀y,y=s.f x->k {val:=pq (bV 2 nm s.r y).1,fresh:=(bV 2 nm s.r y).2,aB:=tc})
 |_=>False
def tA (w:World):aQ->Loc->Prop
 | .row u l rk,x=>rk=0/\ (x.blk=none/\ x.cG= [])/\ x.len=l.length/\ x.es=u.size/\ l.length<=x.cap/\ lH w (Lk w) x.base u l
 |_,_=>False
theorem jo {w:World} : ∀(cs:List cD) (vals:List Value) (nm:Nat),cn (Ch w (Lk w)) cs vals->
  ∃xs,cn (tA w) (dG 0 nm cs).2 xs/\ ∀cJ:Env,(∀i x,xs[i]? =some x->cJ (nm+i)=x)->(dG 0 nm cs).1.map (Cell.ae cJ)=vals
 | [],[],nm,_=>⟨[],trivial,fun _ _=>rfl⟩
 | [],_::_,_,h=>h.elim
 |_::_,[],_,h=>h.elim
 | .flat v::r,v'::vr,nm,h=>by
  obtain ⟨xs,h1,h2⟩:=jo r vr nm h.2
  refine ⟨xs,h1,fun cJ hr=> ?_⟩
  have:=h2 cJ hr
  have hv:v'=v:=h.1
  simp only [dG,List.map_cons,this,hv];rfl
 | .sl u l::r,v'::vr,nm,h=>by
  obtain ⟨xs,h1,h2⟩:=jo r vr (nm+1) h.2
  obtain ⟨a,c,hv,hc,hr⟩:=h.1
  refine ⟨{blk:=none,base:=a,len:=l.length,cap:=c,es:=u.size} ::xs,⟨⟨rfl,⟨rfl,rfl⟩,rfl,rfl,hc,hr⟩,h1⟩,fun cJ hr=> ?_⟩
  have:=h2 cJ fun i x hi=>by
   have:=hr (i+1) x (by simpa using hi)
   rwa [show nm+(i+1)=nm+1+i by omega] at this
  have h0:=hr 0 _ rfl
  rw [Nat.add_zero] at h0
  simp only [dG,List.map_cons,this,hv,Cell.ae,h0]
theorem add_zero' (a:Addr):a.add 0=a:=by unfold Addr.add;split<;>simp_all
theorem QX {rk nm:Nat} {ρ:Env} : ∀(p:nX),p.cap=true-> ∀ {x:p.ty.T},((bV rk nm p x).1.map OJ).map (Ref.ae ρ)=(bV rk nm p x).1.map (A0.ae ρ):=by
 intro p
 induction p generalizing nm with
 |ptr t=>intro _ x;rfl
 |none=>intro _ x;rfl
 |pair a b iha ihb=>
  intro h x
  simp only [nX.cap,Bool.and_eq_true] at h
  simp only [bV,List.map_append]
  rw [iha h.1,ihb h.2]
 |one t=>intro h;cases h
 |agg t=>intro h;cases h
 |eN f p _=>intro h;cases h
 |mv f agg t=>intro h;cases h
theorem zF (rk:Nat) (ρ:Env): ∀(cs:List cD) (nm:Nat),((dG rk nm cs).1.map WK).map (Ref.ae ρ)=(dG rk nm cs).1.map (Cell.ae ρ)
 | [],_=>rfl
 | .flat v::r,nm=>by simp only [dG,List.map_cons,zF rk ρ r nm];rfl
 | .sl u l::r,nm=>by simp only [dG,List.map_cons,zF rk ρ r (nm+1)];rfl
theorem pJ {hp:HP} : ∀(p:nX) (args:List AV) (x:p.ty.T) (r:List AV) (tc:List Nat),wB hp p args=some (x,r,tc,true)->
  ∃as,args=as++r/\ ∀ax W ρ Kn Γ w,(∀m∈tc,Γ m=hp m)->St ax W ρ Kn Γ w-> ∀nm,∃xs,cn (tA w) (bV 0 nm p x).2 xs/\
   ∀cJ:Env,(∀i x,xs[i]? =some x->cJ (nm+i)=x)->as.map (AV.ae ρ)=(bV 0 nm p x).1.map (A0.ae cJ)
 | .one t,args,x,r,tc,h=>by
  simp only [wB] at h
  split at h<;>try (cases h;done)
  rename_i c r'
  split at h<;>try (cases h;done)
  rename_i y Ee hd
  cases h
  obtain ⟨ys,e,hl,hs⟩:=jz hp t _ _ _ _ hd
  rw [List.append_nil] at e
  subst e
  refine ⟨[_],rfl,fun ax W ρ Kn Γ w ht hst nm=> ?_⟩
  obtain ⟨xs,h1,h2⟩:=jo _ _ nm (hs ax W ρ Kn Γ w ht hst)
  refine ⟨xs,h1,fun cJ hr=> ?_⟩
  have:=h2 cJ hr
  simp only [bV,List.map_cons,List.map_nil]
  simp only [List.map_cons,List.map_nil] at this
  obtain ⟨c',V0,e⟩: ∃c',(dG 0 nm (t.aL x)).1= [c']/\ c'.ae cJ=c.ae ρ:=by
   match hm:(dG 0 nm (t.aL x)).1,this with
   | [c'],h=>simp only [List.map_cons,List.map_nil,List.cons.injEq,and_true] at h;exact ⟨c',rfl,h⟩
   | [],h=>simp at h
   |_::_::_,h=>simp at h
  rw [V0]
  simp only [wE,AV.ae,A0.ae,e]
 | .agg t,args,x,r,tc,h=>by
  simp only [wB] at h
  split at h<;>try (cases h;done)
  rename_i cs r'
  split at h<;>try (cases h;done)
  rename_i y Ee hd
  cases h
  obtain ⟨ys,e,hl,hs⟩:=jz hp t _ _ _ _ hd
  rw [List.append_nil] at e
  subst e
  refine ⟨[_],rfl,fun ax W ρ Kn Γ w ht hst nm=> ?_⟩
  obtain ⟨xs,h1,h2⟩:=jo _ _ nm (hs ax W ρ Kn Γ w ht hst)
  refine ⟨xs,h1,fun cJ hr=> ?_⟩
  have:=h2 cJ hr
  simp only [bV,wE,List.map_cons,List.map_nil,AV.ae,A0.ae,this]
 | .ptr t,args,x,r,tc,h=>by
  simp only [wB] at h
  split at h
  ·rename_i n off r'
   split at h<;>try (cases h;done)
   rename_i cs e he
   split at h<;>try (cases h;done)
   rename_i y Ee hd
   split at h<;>try (cases h;done)
   rename_i hsh
   cases h
   obtain ⟨ys,e1,hl,hs⟩:=jz hp t _ _ _ _ hd
   rw [List.append_nil] at e1
   refine ⟨[_],rfl,fun ax W ρ Kn Γ w ht hst nm=> ?_⟩
   have hall:=yK t x _ hsh (hs ax W ρ Kn Γ w (fun m hm=>ht m (by simp [hm])) hst)
   obtain ⟨b,hb,hh⟩:=hst.at_ n _ (by rw [ht n (by simp),he])
   refine ⟨[{blk:=none,base:=addrOf ρ n off,len:=1,cap:=1,es:=t.size}],⟨⟨rfl,⟨rfl,rfl⟩,rfl,rfl,by simp,ys.map (Cell.ae ρ),?_,fun i v hv=> ?_⟩,trivial⟩,fun cJ hr=> ?_⟩
   ·simpa [ai] using hall
   ·refine ⟨⟨b,off,none⟩,by simp [addrOf,hb],?_,?_⟩
    ·rw [Vs,bO (by simpa using hh)]
     rw [<- e1,List.map_take,List.map_drop,List.getElem?_take] at hv
     split at hv
     ·rwa [List.getElem?_drop] at hv
     ·cases hv
    ·exact ⟨_,_,_,hh⟩
   ·have h0:=hr 0 _ rfl
    rw [Nat.add_zero] at h0
    simp only [bV,List.map_cons,List.map_nil,AV.ae,A0.ae,Cell.ae,h0]
    cases addrOf ρ n off<;>simp [add_zero']
  ·rename_i n j r'
   split at h<;>try (cases h;done)
   rename_i u l rk he
   split at h<;>try (cases h;done)
   rename_i l' hl'
   simp only [Option.some.injEq,Prod.mk.injEq,decide_eq_true_eq] at h
   obtain ⟨rfl,rfl,rfl,hj⟩:=h
   obtain ⟨e,e2⟩:=dV hl'
   subst e
   dsimp only at e2
   subst e2
   refine ⟨[_],rfl,fun ax W ρ Kn Γ w ht hst nm=> ?_⟩
   have cm:Γ n=some (.row u l rk):=by rw [ht n (by simp),he]
   have hra:=hst.rowAt cm
   have V2:(ρ n).es=u.size:=(hst.at_ n _ cm).2.1
   have hp:=hra.part (a':=(ρ n).base.map (·.add (j*u.size))) j (some 1) fun _=>rfl
   have Bl:nF l j (some 1)= [gd u l j]:=by
    simp only [nF,gd,List.getD_eq_getElem?_getD,List.getElem?_eq_getElem hj,Option.getD_some]
    rw [List.drop_eq_getElem_cons hj];rfl
   rw [Bl] at hp
   refine ⟨[{blk:=none,base:=(ρ n).base.map (·.add (j*u.size)),len:=1,cap:=1,es:=u.size}],⟨⟨rfl,⟨rfl,rfl⟩,rfl,rfl,by simp,hp⟩,trivial⟩,fun cJ hr=> ?_⟩
   have h0:=hr 0 _ rfl
   rw [Nat.add_zero] at h0
   simp only [bV,List.map_cons,List.map_nil,AV.ae,A0.ae,Cell.ae,h0,V2]
   cases (ρ n).base<;>simp [add_zero']
  ·cases h
 | .eN f p,args,x,r,tc,h=>by
  simp only [wB] at h
  split at h<;>try (cases h;done)
  rename_i g cap r'
  split at h<;>try (cases h;done)
  rename_i hg
  split at h<;>try (cases h;done)
  rename_i x1 Rv b1 h1
  simp only [Option.some.injEq,Prod.mk.injEq,Bool.and_eq_true] at h
  obtain ⟨rfl,rfl,rfl,hc,rfl⟩:=h
  subst hg
  obtain ⟨as,e1,k1⟩:=pJ p _ _ _ _ h1
  rw [List.append_nil] at e1
  refine ⟨[_],rfl,fun ax W ρ Kn Γ w ht hst nm=> ?_⟩
  obtain ⟨xs,g1,g2⟩:=k1 ax W ρ Kn Γ w ht hst nm
  refine ⟨xs,g1,fun cJ hr=> ?_⟩
  have h2:=g2 cJ hr
  have e2:cap.map (Ref.ae ρ)=((bV 0 nm p x1).1.map OJ).map (Ref.ae cJ):=by
   rw [QX p hc,<- h2,<- e1,List.map_map]
   exact List.map_congr_left fun q _=>(vq ρ q).symm
  simp only [bV,List.map_cons,List.map_nil,AV.ae,A0.ae,Cell.ae,e2]
 | .mv f agg t,args,x,r,tc,h=>by
  simp only [wB] at h
  split at h<;>try (cases h;done)
  rename_i g ZQ rs r'
  split at h<;>try (cases h;done)
  rename_i hg
  split at h<;>try (cases h;done)
  rename_i y Ee hd
  cases h
  obtain ⟨rfl,rfl⟩:=hg
  obtain ⟨ys,e,hl,hs⟩:=jz hp t _ _ _ _ hd
  rw [List.append_nil] at e
  refine ⟨[_],rfl,fun ax W ρ Kn Γ w ht hst nm=> ?_⟩
  obtain ⟨xs,h1,h2⟩:=jo _ _ nm (hs ax W ρ Kn Γ w ht hst)
  refine ⟨xs,h1,fun cJ hr=> ?_⟩
  have h3:=h2 cJ hr
  have e2:rs.map (Ref.ae ρ)=((dG 0 nm (t.aL x)).1.map WK).map (Ref.ae cJ):=by
   rw [zF,h3,<- e,List.map_map]
   exact List.map_congr_left fun q _=>(qI ρ q).symm
  simp only [bV,List.map_cons,List.map_nil,AV.ae,A0.ae,Cell.ae,e2]
 | .pair a b,args,x,r,tc,h=>by
  simp only [wB] at h
  split at h<;>try (cases h;done)
  rename_i x1 r1 Rv f1 h1
  split at h<;>try (cases h;done)
  rename_i x2 r2 XQ f2 h2
  simp only [Option.some.injEq,Prod.mk.injEq,Bool.and_eq_true] at h
  obtain ⟨rfl,rfl,rfl,rfl,rfl⟩:=h
  obtain ⟨as,e1,k1⟩:=pJ a _ _ _ _ h1
  obtain ⟨bs,e2,k2⟩:=pJ b _ _ _ _ h2
  refine ⟨as++bs,by rw [e1,e2];simp,fun ax W ρ Kn Γ w ht hst nm=> ?_⟩
  obtain ⟨xs,g1,g2⟩:=k1 ax W ρ Kn Γ w (fun m hm=>ht m (by simp [hm])) hst nm
  obtain ⟨ys,g3,g4⟩:=k2 ax W ρ Kn Γ w (fun m hm=>ht m (by simp [hm])) hst (nm+(bV 0 nm a x1).2.length)
  refine ⟨xs++ys,g1.append g3,fun cJ hr=> ?_⟩
  have hl:=g1.length
  simp only [bV,List.map_append]
  rw [g2 cJ fun i x hi=>hr i x (by rw [List.getElem?_append_left (List.getElem?_eq_some_iff.1 hi).1];exact hi),g4 cJ fun i x hi=>by
   have:=hr (xs.length+i) x (by rw [List.getElem?_append_right (by omega)];simpa using hi)
   rwa [<- hl,<- Nat.add_assoc] at this]
 | .none,args,x,r,tc,h=>by
  simp only [wB,Option.some.injEq,Prod.mk.injEq,and_true] at h
  obtain ⟨rfl,rfl,rfl⟩:=h
  exact ⟨[],rfl,fun ax W ρ Kn Γ w ht hst nm=>⟨[],trivial,fun _ _=>rfl⟩⟩
where Vs {b off m:Nat} :(⟨b,off,none⟩:Addr).add m=⟨b,off+m,none⟩:=by unfold Addr.add;split<;>simp_all
theorem lO {w:World} {o:aQ} {x:Loc} (h:tA w o x): ∃u,∃l:List u.T,o= .row u l 0:=by
 cases o<;>first|exact h.elim|(obtain ⟨rfl,_⟩:=h;exact ⟨_,_,rfl⟩)
theorem St.begin {w:World} {os:List aQ} {xs:List Loc} (h:cn (tA w) os xs):St Kg w (fun n=>xs.getD n {}) (· <os.length) (av os) w:=by
 have mg: ∀n o,av os n=some o->os[n]? =some o:=fun n o ho=>by
  unfold av at ho
  split at ho
  ·cases ho
  ·exact ho
 have hx: ∀n o,av os n=some o->tA w o (xs.getD n {}):=fun n o ho=>by
  obtain ⟨x,h1,h2⟩:=h.get n o (mg n o ho)
  simpa [h1] using h2
 have hblk: ∀n,(av os n).isSome=true->(xs.getD n {}).blk=Option.none/\ (xs.getD n {}).cG= []:=fun n hn=>by
  obtain ⟨o,ho⟩:=Option.isSome_iff_exists.1 hn
  have:=hx n o ho
  obtain ⟨u,l,rfl⟩:=lO this
  exact this.2.1
 refine ⟨Fr.refl _ _,fun n o ho=> ?_,fun n o ho=> ?_,fun n m b hn hm hb=> ?_,fun n b hn hb=> ?_,fun b ⟨m,S,h1,_⟩=> ?_,fun n o ho=> .inr (hblk n (by rw [ho];rfl)).2⟩
 rotate_right
 ·obtain ⟨u,l,e⟩:=lO (hx m _ h1)
  cases e
 ·have hg:=hx n o ho
  obtain ⟨u,l,rfl⟩:=lO hg
  obtain ⟨_,h1,h2,h3,h4,vals,h5,h6⟩:=hg
  obtain ⟨e1,e2⟩:=qR h5
  have hfz: ∀b,cz w b->gW (fun n=>xs.getD n {}) (av os) w b:=fun b hb=>⟨hb,by
   rintro (⟨m,g1,g2⟩|⟨m,S,g1,_⟩)
   ·exact TV (hblk m g1) g2
   ·obtain ⟨u,l,e⟩:=lO (hx m _ g1)
    cases e⟩
  refine ⟨h2,h3,h4,uL vals,fun i v hv=> ?_,fun q u' l' hq=> ?_,fun _=>h1.1,fun h=>absurd rfl h⟩
  ·rw [e1] at hv
   obtain ⟨a,g1,g2,g3⟩:=h6 i v hv
   exact ⟨a,g1,g2,fun _=>hfz _ g3⟩
  ·exact (e2 q u' l' hq).weak fun b hb=>⟨hfz b hb,fun h=>by cases h⟩
 ·obtain ⟨u,l,rfl⟩:=lO (hx n o ho)
  exact ⟨(List.getElem?_eq_some_iff.1 (mg n _ ho)).1,trivial⟩
 ·exact (TV (hblk n hn) hb).elim
 ·exact (TV (hblk n hn) hb).elim
end Go.Ev
