/- Contracts of functions of typed values. -/
import Derived.Test.YtngdehlpoomaiaaGreatEvI
noncomputable section
set_option linter.unusedSectionVars false
set_option linter.unusedVariables false
set_option linter.unusedSimpArgs false
namespace Go.Ev
open Go.RowKit
inductive kK
 |one (t:Ty)
 |agg (t:Ty)
 |ptr (t:Ty)
 |pair (a b:kK)
 |iP (f:FuncId) (p:kK)
 |mv (f:FuncId) (agg:Bool) (t:Ty)
 |none
@[reducible] def kK.ty:kK->Ty
 | .one t=>t
 | .agg t=>t
 | .ptr t=>t
 | .pair a b=> .prod a.ty b.ty
 | .iP _ p=>p.ty
 | .mv _ _ t=>t
 | .none=> .bool
def kK.cap:kK->Bool
 | .ptr _=>true
 | .pair a b=>a.cap&&b.cap
 | .none=>true
 |_=>false
def Pq:A0->Ref
 | .one (.cK n j _)=> .elem n j
 |_=> .ext undef
def abj (c:Cell):Ref:=match c with
 | .raw v=> .ext v
 | .full n=> .full n
 |_=> .ext undef
def cm (rk:Nat):Nat->List cg->List Cell×List aG
 |_,[]=>([],[])
 |nm,.flat v::r=>match cm rk nm r with|(cs,os)=>(.raw v::cs,os)
 |nm,.sl u l::r=>match cm rk (nm+1) r with|(cs,os)=>(.full nm::cs,.row u l rk::os)
def tD (agg:Bool) (cs:List Cell):A0:=match agg with
 |false=>(match cs with| [c]=> .one c|cs=> .agg cs)
 |true=> .agg cs
def aW (rk:Nat):Nat->(p:kK)->p.ty.T->List A0×List aG
 |nm,.one t,x=>match cm rk nm (t.aT x) with|(cs,os)=>([tD false cs],os)
 |nm,.agg t,x=>match cm rk nm (t.aT x) with|(cs,os)=>([tD true cs],os)
 |nm,.ptr t,x=>([.one (.cK nm 0 0)],[.row t [x] 0])
 |nm,.pair a b,x=>match aW rk nm a x.1 with
  |(as,os)=>match aW rk (nm+os.length) b x.2 with
   |(bs,os')=>(as++bs,os++os')
 |nm,.iP f p,x=>match aW rk nm p x with
  |(as,os)=>([.one (.iP (.func f) [] (as.map Pq))],os)
 |nm,.mv f agg t,x=>match cm rk nm (t.aT x) with|(cs,os)=>([.one (.mv f agg (cs.map abj))],os)
 |_,.none,_=>([],[])
def eY (hp:HP):(p:kK)->List AV->Option (p.ty.T×List AV×List Nat×Bool)
 | .one t,l=>match l with
  | .v (.one c)::r=>match b9 hp t [c] with
   |some (x,[],tc)=>some (x,r,tc,true)
   |_=>none
  |_=>none
 | .agg t,l=>match l with
  | .v (.agg cs)::r=>match b9 hp t cs with
   |some (x,[],tc)=>some (x,r,tc,true)
   |_=>none
  |_=>none
 | .ptr t,l=>match l with
  | .v (.one (.ptr n off))::r=>match hp n with
   |some (.cells cs _)=>match b9 hp t ((cs.drop off).take t.size) with
    |some (x,[],tc)=>if t.shallow then some (x,r,n::tc,true) else none
    |_=>none
   |_=>none
  | .v (.one (.cK n j 0))::r=>match hp n with
   |some (.row u l _)=>match ij u t l with
    |some l'=>some (gd t l' j,r,[n],decide (j<l'.length))
    |none=>none
   |_=>none
  |_=>none
 | .pair a b,l=>match eY hp a l with
  |some (x,r,tc,f)=>match eY hp b r with
   |some (y,r',yL,f')=>some ((x,y),r',tc++yL,f&&f')
   |none=>none
  |none=>none
 | .iP f p,l=>match l with
  | .v (.one (.iP (.func g) [] cap))::r=>if g=f then (match eY hp p (cap.map zY) with
   |some (x,[],tc,b)=>some (x,r,tc,p.cap&&b)
   |_=>none) else none
  |_=>none
 | .mv f agg t,l=>match l with
  | .v (.one (.mv g agq rs))::r=>if g=f/\ agq=agg then (match b9 hp t (rs.map z9) with
   |some (x,[],tc)=>some (x,r,tc,true)
   |_=>none) else none
  |_=>none
 | .none,l=>some (false,l,[],true)
def ji:List A0->AV
 | [a]=> .v a
 |l=> .nC l
def kj:AV->Option (List A0)
 | .v a=>some [a]
 | .nC l=>match l with
  | [_]=>none
  |l=>some l
 | .dead=>none
def IK (hp:HP):Ty->List Cell->Option (List Src×List Cell)
 | .prod a b,cs=>match IK hp a cs with
  |some (ss,r)=>match IK hp b r with
   |some (ss',r')=>some (ss++ss',r')
   |none=>none
  |none=>none
 | .sl u,cs=>match cs with
  | .raw (.slice none 0 0)::r=>some ([.nil],r)
  | .full n::r=>match hp n with
   |some (.row _ _ rk)=>if rk=2 then some ([.same n],r) else none
   |_=>none
  | .sl n 0 len c::r=>if c=len then (match hp n with
   |some (.cells cs _)=>if u.flat&&(decide (cs.length=len*u.size)&&Nat.ble len 1099511627776) then some ([.cells n len],r) else none
   |_=>none) else none
  |_=>none
 |_,cs=>match cs with
  |_::r=>some ([],r)
  | []=>none
def Dy (hp:HP):(p:kK)->List A0->Option (p.ty.T×List A0×List Src)
 | .one t,l=>match l with
  | .one c::r=>match b9 hp t [c] with
   |some (y,[],_)=>match IK hp t [c] with
    |some (ss,_)=>some (y,r,ss)
    |none=>none
   |_=>none
  |_=>none
 | .agg t,l=>match l with
  | .agg cs::r=>match b9 hp t cs with
   |some (y,[],_)=>match IK hp t cs with
    |some (ss,_)=>some (y,r,ss)
    |none=>none
   |_=>none
  |_=>none
 | .ptr _,_=>none
 | .iP _ _,_=>none
 | .mv _ _ _,_=>none
 | .pair a b,l=>match Dy hp a l with
  |some (x,r,ss)=>match Dy hp b r with
   |some (y,r',ss')=>some ((x,y),r',ss++ss')
   |none=>none
  |none=>none
 | .none,l=>some (false,l,[])
def lE (r:kK) (Q:r.ty.T->Prop) (v:AV) (st:AS):Prop:=match kj v with
 |some l=>match Dy (aj st.heap) r l with
  |some (y,[],ss)=>if dY (ss.filterMap Cg) then Q y else False
  |_=>False
 |none=>False
def cq (p:kK) (x:p.ty.T):List AV:=(aW 0 0 p x).1.map .v
def c9 (p:kK) (x:p.ty.T):List aG:=(aW 0 0 p x).2
structure bY where
 p:kK
 r:kK
 pre:p.ty.T->Prop
 f:p.ty.T->r.ty.T
def ak (s:bY):Spec:=fun _ args hp nm k=>match eY hp s.p args with
 |some (x,[],tc,b)=>ob b (s.pre x/\ ∀y,y=s.f x->k {val:=ji (aW 2 nm s.r y).1,fresh:=(aW 2 nm s.r y).2,aH:=tc})
 |_=>False
def rW (w:World):aG->Loc->Prop
 | .row u l rk,x=>rk=0/\ (x.blk=none/\ x.iw= [])/\ x.len=l.length/\ x.es=u.size/\ l.length<=x.cap/\ kL w (RR w) x.base u l
 |_,_=>False
theorem jw {w:World} : ∀(cs:List cg) (vals:List Value) (nm:Nat),bG (EB w (RR w)) cs vals->
  ∃xs,bG (rW w) (cm 0 nm cs).2 xs/\ ∀aQ:Env,(∀i x,xs[i]? =some x->aQ (nm+i)=x)->(cm 0 nm cs).1.map (Cell.ae aQ)=vals
 | [],[],nm,_=>⟨[],trivial,fun _ _=>rfl⟩
 | [],_::_,_,h=>h.elim
 |_::_,[],_,h=>h.elim
 | .flat v::r,v'::vr,nm,h=>by
  obtain ⟨xs,h1,h2⟩:=jw r vr nm h.2
  refine ⟨xs,h1,fun aQ hr=> ?_⟩
  have:=h2 aQ hr
  have hv:v'=v:=h.1
  simp only [cm,List.map_cons,this,hv];rfl
 | .sl u l::r,v'::vr,nm,h=>by
  obtain ⟨xs,h1,h2⟩:=jw r vr (nm+1) h.2
  obtain ⟨a,c,hv,hc,hr⟩:=h.1
  refine ⟨{blk:=none,base:=a,len:=l.length,cap:=c,es:=u.size} ::xs,⟨⟨rfl,⟨rfl,rfl⟩,rfl,rfl,hc,hr⟩,h1⟩,fun aQ hr=> ?_⟩
  have:=h2 aQ fun i x hi=>by
   have:=hr (i+1) x (by simpa using hi)
   rwa [show nm+(i+1)=nm+1+i by omega] at this
  have h0:=hr 0 _ rfl
  rw [Nat.add_zero] at h0
  simp only [cm,List.map_cons,this,hv,Cell.ae,h0]
theorem add_zero' (a:Addr):a.add 0=a:=by unfold Addr.add;split<;>simp_all
theorem Kh {rk nm:Nat} {ρ:Env} : ∀(p:kK),p.cap=true-> ∀ {x:p.ty.T},((aW rk nm p x).1.map Pq).map (Ref.ae ρ)=(aW rk nm p x).1.map (A0.ae ρ):=by
 intro p
 induction p generalizing nm with
 |ptr t=>intro _ x;rfl
 |none=>intro _ x;rfl
 |pair a b Mf Mg=>
  intro h x
  simp only [kK.cap,Bool.and_eq_true] at h
  simp only [aW,List.map_append]
  rw [Mf h.1,Mg h.2]
 |one t=>intro h;cases h
 |agg t=>intro h;cases h
 |iP f p _=>intro h;cases h
 |mv f agg t=>intro h;cases h
theorem wM (rk:Nat) (ρ:Env): ∀(cs:List cg) (nm:Nat),((cm rk nm cs).1.map abj).map (Ref.ae ρ)=(cm rk nm cs).1.map (Cell.ae ρ)
 | [],_=>rfl
 | .flat v::r,nm=>by simp only [cm,List.map_cons,wM rk ρ r nm];rfl
 | .sl u l::r,nm=>by simp only [cm,List.map_cons,wM rk ρ r (nm+1)];rfl
theorem nP {hp:HP} : ∀(p:kK) (args:List AV) (x:p.ty.T) (r:List AV) (tc:List Nat),eY hp p args=some (x,r,tc,true)->
  ∃as,args=as++r/\ ∀au W ρ Kn Γ w,(∀m∈tc,Γ m=hp m)->St au W ρ Kn Γ w-> ∀nm,∃xs,bG (rW w) (aW 0 nm p x).2 xs/\
   ∀aQ:Env,(∀i x,xs[i]? =some x->aQ (nm+i)=x)->as.map (AV.ae ρ)=(aW 0 nm p x).1.map (A0.ae aQ)
 | .one t,args,x,r,tc,h=>by
  simp only [eY] at h
  split at h<;>try (cases h;done)
  rename_i c r'
  split at h<;>try (cases h;done)
  rename_i y yL hd
  cases h
  obtain ⟨ys,e,hl,hs⟩:=k9 hp t _ _ _ _ hd
  rw [List.append_nil] at e
  subst e
  refine ⟨[_],rfl,fun au W ρ Kn Γ w ht hst nm=> ?_⟩
  obtain ⟨xs,h1,h2⟩:=jw _ _ nm (hs au W ρ Kn Γ w ht hst)
  refine ⟨xs,h1,fun aQ hr=> ?_⟩
  have:=h2 aQ hr
  simp only [aW,List.map_cons,List.map_nil]
  simp only [List.map_cons,List.map_nil] at this
  obtain ⟨c',Iw,e⟩: ∃c',(cm 0 nm (t.aT x)).1= [c']/\ c'.ae aQ=c.ae ρ:=by
   match hm:(cm 0 nm (t.aT x)).1,this with
   | [c'],h=>simp only [List.map_cons,List.map_nil,List.cons.injEq,and_true] at h;exact ⟨c',rfl,h⟩
   | [],h=>simp at h
   |_::_::_,h=>simp at h
  rw [Iw]
  simp only [tD,AV.ae,A0.ae,e]
 | .agg t,args,x,r,tc,h=>by
  simp only [eY] at h
  split at h<;>try (cases h;done)
  rename_i cs r'
  split at h<;>try (cases h;done)
  rename_i y yL hd
  cases h
  obtain ⟨ys,e,hl,hs⟩:=k9 hp t _ _ _ _ hd
  rw [List.append_nil] at e
  subst e
  refine ⟨[_],rfl,fun au W ρ Kn Γ w ht hst nm=> ?_⟩
  obtain ⟨xs,h1,h2⟩:=jw _ _ nm (hs au W ρ Kn Γ w ht hst)
  refine ⟨xs,h1,fun aQ hr=> ?_⟩
  have:=h2 aQ hr
  simp only [aW,tD,List.map_cons,List.map_nil,AV.ae,A0.ae,this]
 | .ptr t,args,x,r,tc,h=>by
  simp only [eY] at h
  split at h
  ·rename_i n off r'
   split at h<;>try (cases h;done)
   rename_i cs e he
   split at h<;>try (cases h;done)
   rename_i y yL hd
   split at h<;>try (cases h;done)
   rename_i hsh
   cases h
   obtain ⟨ys,e1,hl,hs⟩:=k9 hp t _ _ _ _ hd
   rw [List.append_nil] at e1
   refine ⟨[_],rfl,fun au W ρ Kn Γ w ht hst nm=> ?_⟩
   have hall:=vM t x _ hsh (hs au W ρ Kn Γ w (fun m hm=>ht m (by simp [hm])) hst)
   obtain ⟨b,hb,hh⟩:=hst.at_ n _ (by rw [ht n (by simp),he])
   refine ⟨[{blk:=none,base:=addrOf ρ n off,len:=1,cap:=1,es:=t.size}],⟨⟨rfl,⟨rfl,rfl⟩,rfl,rfl,by simp,ys.map (Cell.ae ρ),?_,fun i v hv=> ?_⟩,trivial⟩,fun aQ hr=> ?_⟩
   ·simpa [az] using hall
   ·refine ⟨⟨b,off,none⟩,by simp [addrOf,hb],?_,?_⟩
    ·rw [Lv,bH (by simpa using hh)]
     rw [<- e1,List.map_take,List.map_drop,List.getElem?_take] at hv
     split at hv
     ·rwa [List.getElem?_drop] at hv
     ·cases hv
    ·exact ⟨_,_,_,hh⟩
   ·have h0:=hr 0 _ rfl
    rw [Nat.add_zero] at h0
    simp only [aW,List.map_cons,List.map_nil,AV.ae,A0.ae,Cell.ae,h0]
    cases addrOf ρ n off<;>simp [add_zero']
  ·rename_i n j r'
   split at h<;>try (cases h;done)
   rename_i u l rk he
   split at h<;>try (cases h;done)
   rename_i l' hl'
   simp only [Option.some.injEq,Prod.mk.injEq,decide_eq_true_eq] at h
   obtain ⟨rfl,rfl,rfl,hj⟩:=h
   obtain ⟨e,e2⟩:=bZ hl'
   subst e
   dsimp only at e2
   subst e2
   refine ⟨[_],rfl,fun au W ρ Kn Γ w ht hst nm=> ?_⟩
   have bL:Γ n=some (.row u l rk):=by rw [ht n (by simp),he]
   have hra:=hst.rowAt bL
   have hes:(ρ n).es=u.size:=(hst.at_ n _ bL).2.1
   have hp:=hra.part (a':=(ρ n).base.map (·.add (j*u.size))) j (some 1) fun _=>rfl
   have xq:mz l j (some 1)= [gd u l j]:=by
    simp only [mz,gd,List.getD_eq_getElem?_getD,List.getElem?_eq_getElem hj,Option.getD_some]
    rw [List.drop_eq_getElem_cons hj];rfl
   rw [xq] at hp
   refine ⟨[{blk:=none,base:=(ρ n).base.map (·.add (j*u.size)),len:=1,cap:=1,es:=u.size}],⟨⟨rfl,⟨rfl,rfl⟩,rfl,rfl,by simp,hp⟩,trivial⟩,fun aQ hr=> ?_⟩
   have h0:=hr 0 _ rfl
   rw [Nat.add_zero] at h0
   simp only [aW,List.map_cons,List.map_nil,AV.ae,A0.ae,Cell.ae,h0,hes]
   cases (ρ n).base<;>simp [add_zero']
  ·cases h
 | .iP f p,args,x,r,tc,h=>by
  simp only [eY] at h
  split at h<;>try (cases h;done)
  rename_i g cap r'
  split at h<;>try (cases h;done)
  rename_i hg
  split at h<;>try (cases h;done)
  rename_i x1 El b1 h1
  simp only [Option.some.injEq,Prod.mk.injEq,Bool.and_eq_true] at h
  obtain ⟨rfl,rfl,rfl,hc,rfl⟩:=h
  subst hg
  obtain ⟨as,e1,k1⟩:=nP p _ _ _ _ h1
  rw [List.append_nil] at e1
  refine ⟨[_],rfl,fun au W ρ Kn Γ w ht hst nm=> ?_⟩
  obtain ⟨xs,g1,g2⟩:=k1 au W ρ Kn Γ w ht hst nm
  refine ⟨xs,g1,fun aQ hr=> ?_⟩
  have h2:=g2 aQ hr
  have e2:cap.map (Ref.ae ρ)=((aW 0 nm p x1).1.map Pq).map (Ref.ae aQ):=by
   rw [Kh p hc,<- h2,<- e1,List.map_map]
   exact List.map_congr_left fun q _=>(sr ρ q).symm
  simp only [aW,List.map_cons,List.map_nil,AV.ae,A0.ae,Cell.ae,e2]
 | .mv f agg t,args,x,r,tc,h=>by
  simp only [eY] at h
  split at h<;>try (cases h;done)
  rename_i g agq rs r'
  split at h<;>try (cases h;done)
  rename_i hg
  split at h<;>try (cases h;done)
  rename_i y yL hd
  cases h
  obtain ⟨rfl,rfl⟩:=hg
  obtain ⟨ys,e,hl,hs⟩:=k9 hp t _ _ _ _ hd
  rw [List.append_nil] at e
  refine ⟨[_],rfl,fun au W ρ Kn Γ w ht hst nm=> ?_⟩
  obtain ⟨xs,h1,h2⟩:=jw _ _ nm (hs au W ρ Kn Γ w ht hst)
  refine ⟨xs,h1,fun aQ hr=> ?_⟩
  have h3:=h2 aQ hr
  have e2:rs.map (Ref.ae ρ)=((cm 0 nm (t.aT x)).1.map abj).map (Ref.ae aQ):=by
   rw [wM,h3,<- e,List.map_map]
   exact List.map_congr_left fun q _=>(nt ρ q).symm
  simp only [aW,List.map_cons,List.map_nil,AV.ae,A0.ae,Cell.ae,e2]
 | .pair a b,args,x,r,tc,h=>by
  simp only [eY] at h
  split at h<;>try (cases h;done)
  rename_i x1 r1 El f1 h1
  split at h<;>try (cases h;done)
  rename_i x2 r2 tH f2 h2
  simp only [Option.some.injEq,Prod.mk.injEq,Bool.and_eq_true] at h
  obtain ⟨rfl,rfl,rfl,rfl,rfl⟩:=h
  obtain ⟨as,e1,k1⟩:=nP a _ _ _ _ h1
  obtain ⟨bs,e2,k2⟩:=nP b _ _ _ _ h2
  refine ⟨as++bs,by rw [e1,e2];simp,fun au W ρ Kn Γ w ht hst nm=> ?_⟩
  obtain ⟨xs,g1,g2⟩:=k1 au W ρ Kn Γ w (fun m hm=>ht m (by simp [hm])) hst nm
  obtain ⟨ys,g3,g4⟩:=k2 au W ρ Kn Γ w (fun m hm=>ht m (by simp [hm])) hst (nm+(aW 0 nm a x1).2.length)
  refine ⟨xs++ys,g1.append g3,fun aQ hr=> ?_⟩
  have hl:=g1.length
  simp only [aW,List.map_append]
  rw [g2 aQ fun i x hi=>hr i x (by rw [List.getElem?_append_left (List.getElem?_eq_some_iff.1 hi).1];exact hi),g4 aQ fun i x hi=>by
   have:=hr (xs.length+i) x (by rw [List.getElem?_append_right (by omega)];simpa using hi)
   rwa [<- hl,<- Nat.add_assoc] at this]
 | .none,args,x,r,tc,h=>by
  simp only [eY,Option.some.injEq,Prod.mk.injEq,and_true] at h
  obtain ⟨rfl,rfl,rfl⟩:=h
  exact ⟨[],rfl,fun au W ρ Kn Γ w ht hst nm=>⟨[],trivial,fun _ _=>rfl⟩⟩
where Lv {b off m:Nat} :(⟨b,off,none⟩:Addr).add m=⟨b,off+m,none⟩:=by unfold Addr.add;split<;>simp_all
theorem mc {w:World} {o:aG} {x:Loc} (h:rW w o x): ∃u,∃l:List u.T,o= .row u l 0:=by
 cases o<;>first|exact h.elim|(obtain ⟨rfl,_⟩:=h;exact ⟨_,_,rfl⟩)
theorem St.begin {w:World} {os:List aG} {xs:List Loc} (h:bG (rW w) os xs):St xw w (fun n=>xs.getD n {}) (· <os.length) (aj os) w:=by
 have pQ: ∀n o,aj os n=some o->os[n]? =some o:=fun n o ho=>by
  unfold aj at ho
  split at ho
  ·cases ho
  ·exact ho
 have hx: ∀n o,aj os n=some o->rW w o (xs.getD n {}):=fun n o ho=>by
  obtain ⟨x,h1,h2⟩:=h.get n o (pQ n o ho)
  simpa [h1] using h2
 have dy: ∀n,(aj os n).isSome=true->(xs.getD n {}).blk=Option.none/\ (xs.getD n {}).iw= []:=fun n hn=>by
  obtain ⟨o,ho⟩:=Option.isSome_iff_exists.1 hn
  have:=hx n o ho
  obtain ⟨u,l,rfl⟩:=mc this
  exact this.2.1
 refine ⟨Fr.refl _ _,fun n o ho=> ?_,fun n o ho=> ?_,fun n m b hn hm hb=> ?_,fun n b hn hb=> ?_,fun b ⟨m,S,h1,_⟩=> ?_,fun n o ho=> .inr (dy n (by rw [ho];rfl)).2⟩
 rotate_right
 ·obtain ⟨u,l,e⟩:=mc (hx m _ h1)
  cases e
 ·have hg:=hx n o ho
  obtain ⟨u,l,rfl⟩:=mc hg
  obtain ⟨_,h1,h2,h3,h4,vals,h5,h6⟩:=hg
  obtain ⟨e1,e2⟩:=jC h5
  have hfz: ∀b,bh w b->dA (fun n=>xs.getD n {}) (aj os) w b:=fun b hb=>⟨hb,by
   rintro (⟨m,g1,g2⟩|⟨m,S,g1,_⟩)
   ·exact my (dy m g1) g2
   ·obtain ⟨u,l,e⟩:=mc (hx m _ g1)
    cases e⟩
  refine ⟨h2,h3,h4,rz vals,fun i v hv=> ?_,fun q u' l' hq=> ?_,fun _=>h1.1,fun h=>absurd rfl h⟩
  ·rw [e1] at hv
   obtain ⟨a,g1,g2,g3⟩:=h6 i v hv
   exact ⟨a,g1,g2,fun _=>hfz _ g3⟩
  ·exact (e2 q u' l' hq).weak fun b hb=>⟨hfz b hb,fun h=>by cases h⟩
 ·obtain ⟨u,l,rfl⟩:=mc (hx n o ho)
  exact ⟨(List.getElem?_eq_some_iff.1 (pQ n _ ho)).1,trivial⟩
 ·exact (my (dy n hn) hb).elim
 ·exact (my (dy n hn) hb).elim
end Go.Ev
namespace Go.Ev
open Go.RowKit
theorem ug (rk:Nat): ∀(a b:List cg) (nm:Nat),cm rk nm (a++b)=((cm rk nm a).1++(cm rk (nm+(cm rk nm a).2.length) b).1,(cm rk nm a).2++(cm rk (nm+(cm rk nm a).2.length) b).2)
 | [],b,nm=>by simp [cm]
 | .flat v::r,b,nm=>by
  have:=ug rk r b nm
  simp only [List.cons_append,cm,this]
 | .sl u l::r,b,nm=>by
  have:=ug rk r b (nm+1)
  simp only [List.cons_append,cm,this,List.length_cons,show nm+((cm rk (nm+1) r).2.length+1)=nm+1+(cm rk (nm+1) r).2.length by omega]
theorem Ab {π:List Src} : ∀(a b:List Cell) (x y:List Cell),gX π a=some x->gX π b=some y->gX π (a++b)=some (x++y)
 | [],b,x,y,h1,h2=>by simp only [gX,Option.some.injEq] at h1;subst h1;exact h2
 |c::r,b,x,y,h1,h2=>by
  simp only [gX] at h1
  split at h1
  ·rename_i q m e1 e2
   cases h1
   have:=Ab r b m y e2 h2
   simp only [List.cons_append,gX,e1,this]
  ·cases h1
theorem zZ {h:List aG} : ∀(t:Ty) (cs:List Cell) (y:t.T) (r r':List Cell) (tc:List Nat) (ss:List Src),b9 (aj h) t cs=some (y,r,tc)->IK (aj h) t cs=some (ss,r')->
  ∃ys,cs=ys++r/\ r'=r/\ ys.length=t.size/\ ∀(π:List Src) (nm:Nat),(∀i s,ss[i]? =some s->π[nm+i]? =some s)->
   gX π (cm 2 nm (t.aT y)).1=some ys/\ bG (DG π h) ss (cm 2 nm (t.aT y)).2
 | .int k,cs,y,r,r',tc,ss,hd,ho=>by
  simp only [b9] at hd
  split at hd<;>try (cases hd;done)
  split at hd<;>try (cases hd;done)
  rename_i e
  cases hd;subst e
  simp only [IK,Option.some.injEq,Prod.mk.injEq] at ho
  obtain ⟨rfl,rfl⟩:=ho
  exact ⟨[_],rfl,rfl,rfl,fun π nm _=>⟨rfl,trivial⟩⟩
 | .bool,cs,y,r,r',tc,ss,hd,ho=>by
  simp only [b9] at hd
  split at hd<;>try (cases hd;done)
  cases hd
  simp only [IK,Option.some.injEq,Prod.mk.injEq] at ho
  obtain ⟨rfl,rfl⟩:=ho
  exact ⟨[_],rfl,rfl,rfl,fun π nm _=>⟨rfl,trivial⟩⟩
 | .str,cs,y,r,r',tc,ss,hd,ho=>by
  simp only [b9] at hd
  split at hd<;>try (cases hd;done)
  cases hd
  simp only [IK,Option.some.injEq,Prod.mk.injEq] at ho
  obtain ⟨rfl,rfl⟩:=ho
  exact ⟨[_],rfl,rfl,rfl,fun π nm _=>⟨rfl,trivial⟩⟩
 | .prod a b,cs,y,r,r',tc,ss,hd,ho=>by
  simp only [b9] at hd
  split at hd<;>try (cases hd;done)
  rename_i x1 r1 El h1
  split at hd<;>try (cases hd;done)
  rename_i x2 r2 tH h2
  cases hd
  simp only [IK] at ho
  split at ho<;>try (cases ho;done)
  rename_i ss1 q1 o1
  split at ho<;>try (cases ho;done)
  rename_i ss2 q2 o2
  cases ho
  obtain ⟨ys,e1,e2,e3,e4⟩:=zZ a _ _ _ _ _ _ h1 o1
  subst e2
  obtain ⟨zs,f1,f2,f3,f4⟩:=zZ b _ _ _ _ _ _ h2 o2
  subst f2
  refine ⟨ys++zs,by rw [e1,f1];simp,rfl,by simp [e3,f3,Ty.size],fun π nm RQ=> ?_⟩
  obtain ⟨g1,g2⟩:=e4 π nm fun i s hi=>RQ i s (by rw [List.getElem?_append_left (List.getElem?_eq_some_iff.1 hi).1];exact hi)
  have hl:=g2.length
  obtain ⟨g3,g4⟩:=f4 π (nm+(cm 2 nm (a.aT x1)).2.length) fun i s hi=>by
   have:=RQ (ss1.length+i) s (by rw [List.getElem?_append_right (by omega)];simpa using hi)
   rwa [hl,<- Nat.add_assoc] at this
  rw [show (Ty.prod a b).aT (x1,x2)=a.aT x1++b.aT x2 from rfl,ug]
  exact ⟨Ab _ _ _ _ g1 g3,g2.append g4⟩
 | .sl u,cs,y,r,r',tc,ss,hd,ho=>by
  simp only [IK] at ho
  split at ho
  ·cases ho
   simp only [b9,Option.some.injEq,Prod.mk.injEq] at hd
   obtain ⟨rfl,rfl,rfl⟩:=hd
   refine ⟨[_],rfl,rfl,rfl,fun π nm RQ=> ?_⟩
   have h0:=RQ 0 _ rfl
   rw [Nat.add_zero] at h0
   refine ⟨?_,⟨⟨u,2,rfl,by decide⟩,trivial⟩⟩
   simp only [Ty.aT,cm,gX,jh,h0]
  ·rename_i n r1
   split at ho<;>try (cases ho;done)
   rename_i t l rk hn
   split at ho<;>try (cases ho;done)
   rename_i qm
   cases ho;subst qm
   simp only [b9,hn] at hd
   split at hd<;>try (cases hd;done)
   rename_i l' hl'
   cases hd
   obtain ⟨e,e2⟩:=bZ hl'
   subst e
   dsimp only at e2
   subst e2
   refine ⟨[_],rfl,rfl,rfl,fun π nm RQ=> ?_⟩
   have h0:=RQ 0 _ rfl
   rw [Nat.add_zero] at h0
   refine ⟨?_,⟨⟨_,hn,rfl⟩,trivial⟩⟩
   simp only [Ty.aT,cm,gX,jh,h0]
  ·rename_i n len c r1
   split at ho<;>try (cases ho;done)
   rename_i hc
   split at ho<;>try (cases ho;done)
   rename_i cs' e hn
   split at ho<;>try (cases ho;done)
   rename_i hf
   simp only [Bool.and_eq_true,decide_eq_true_eq] at hf
   cases ho;subst hc
   simp only [b9,jY hf.1,hn,Nat.le_refl,decide_true,Bool.and_self,if_true,List.drop_zero] at hd
   split at hd<;>try (cases hd;done)
   rename_i l El hN
   cases hd
   obtain ⟨g1,_⟩:=Jf (eL:=fun _=>none) hf.1 _ _ _ _ hN
   refine ⟨[_],rfl,rfl,rfl,fun π nm RQ=> ?_⟩
   have h0:=RQ 0 _ rfl
   rw [Nat.add_zero] at h0
   refine ⟨?_,⟨⟨u,y,cs',e,2,rfl,.inl rfl,hn,hf.1,g1,hf.2⟩,trivial⟩⟩
   simp only [Ty.aT,cm,gX,jh,h0]
  ·cases ho
theorem Aa {π:List Src} : ∀(a b:List A0) (x y:List A0),gp π a=some x->gp π b=some y->gp π (a++b)=some (x++y)
 | [],b,x,y,h1,h2=>by simp only [gp,Option.some.injEq] at h1;subst h1;exact h2
 |c::r,b,x,y,h1,h2=>by
  simp only [gp] at h1
  split at h1
  ·rename_i q m e1 e2
   cases h1
   have:=Aa r b m y e2 h2
   simp only [List.cons_append,gp,e1,this]
  ·cases h1
theorem vY {h:List aG} : ∀(p:kK) (l:List A0) (y:p.ty.T) (r:List A0) (ss:List Src),Dy (aj h) p l=some (y,r,ss)->
  ∃ys,l=ys++r/\ ∀(π:List Src) (nm:Nat),(∀i s,ss[i]? =some s->π[nm+i]? =some s)->gp π (aW 2 nm p y).1=some ys/\ bG (DG π h) ss (aW 2 nm p y).2
 | .one t,l,y,r,ss,hd=>by
  simp only [Dy] at hd
  split at hd<;>try (cases hd;done)
  rename_i c r1
  split at hd<;>try (cases hd;done)
  rename_i x tc h1
  split at hd<;>try (cases hd;done)
  rename_i ss1 q h2
  cases hd
  obtain ⟨ys,e1,e2,e3,e4⟩:=zZ t _ _ _ _ _ _ h1 h2
  rw [List.append_nil] at e1
  subst e1
  refine ⟨[_],rfl,fun π nm RQ=> ?_⟩
  obtain ⟨g1,g2⟩:=e4 π nm RQ
  refine ⟨?_,g2⟩
  simp only [aW]
  match hm:(cm 2 nm (t.aT y)).1,g1 with
  | [],g1=>simp [gX] at g1
  | [c'],g1=>
   simp only [gX] at g1
   split at g1
   ·rename_i q' m' k1 k2
    simp only [Option.some.injEq,List.cons.injEq] at g1
    obtain ⟨rfl,rfl⟩:=g1
    simp only [tD,gp,IL,k1]
   ·cases g1
  |_::_::_,g1=>
   simp only [gX] at g1
   split at g1
   ·rename_i k1 k2
    split at k2
    ·cases k2;simp at g1
    ·cases k2
   ·cases g1
 | .agg t,l,y,r,ss,hd=>by
  simp only [Dy] at hd
  split at hd<;>try (cases hd;done)
  rename_i c r1
  split at hd<;>try (cases hd;done)
  rename_i x tc h1
  split at hd<;>try (cases hd;done)
  rename_i ss1 q h2
  cases hd
  obtain ⟨ys,e1,e2,e3,e4⟩:=zZ t _ _ _ _ _ _ h1 h2
  rw [List.append_nil] at e1
  subst e1
  refine ⟨[_],rfl,fun π nm RQ=> ?_⟩
  obtain ⟨g1,g2⟩:=e4 π nm RQ
  refine ⟨?_,g2⟩
  simp only [aW,tD,gp,IL,g1]
 | .ptr t,l,y,r,ss,hd=>by simp [Dy] at hd
 | .iP f p,l,y,r,ss,hd=>by simp [Dy] at hd
 | .mv f agg t,l,y,r,ss,hd=>by simp [Dy] at hd
 | .pair a b,l,y,r,ss,hd=>by
  simp only [Dy] at hd
  split at hd<;>try (cases hd;done)
  rename_i x1 r1 ss1 h1
  split at hd<;>try (cases hd;done)
  rename_i x2 r2 ss2 h2
  cases hd
  obtain ⟨ys,e1,e4⟩:=vY a _ _ _ _ h1
  obtain ⟨zs,f1,f4⟩:=vY b _ _ _ _ h2
  refine ⟨ys++zs,by rw [e1,f1];simp,fun π nm RQ=> ?_⟩
  obtain ⟨g1,g2⟩:=e4 π nm fun i s hi=>RQ i s (by rw [List.getElem?_append_left (List.getElem?_eq_some_iff.1 hi).1];exact hi)
  have hl:=g2.length
  obtain ⟨g3,g4⟩:=f4 π (nm+(aW 2 nm a x1).2.length) fun i s hi=>by
   have:=RQ (ss1.length+i) s (by rw [List.getElem?_append_right (by omega)];simpa using hi)
   rwa [hl,<- Nat.add_assoc] at this
  exact ⟨Aa _ _ _ _ g1 g3,g2.append g4⟩
 | .none,l,y,r,ss,hd=>by
  simp only [Dy,Option.some.injEq,Prod.mk.injEq] at hd
  obtain ⟨rfl,rfl,rfl⟩:=hd
  exact ⟨[],rfl,fun π nm _=>⟨rfl,trivial⟩⟩
theorem aeM {π:List Src} {h:List aG} {s:Src} {o:aG} (hr:DG π h s o):o≠ .gone:=by
 rintro rfl
 cases s with
 |same m=>obtain ⟨p,_,h2⟩:=hr;cases h2
 |nil=>obtain ⟨_,_,h2,_⟩:=hr;cases h2
 |mt m off=>obtain ⟨_,_,_,h2,_⟩:=hr;cases h2
 |any m=>obtain ⟨_,_,_,h2,_⟩:=hr;cases h2
 |cells m len=>obtain ⟨_,_,_,_,_,h2,_⟩:=hr;cases h2
theorem FE {π:List Src} {h:List aG} : ∀(ss:List Src) (os:List aG),bG (DG π h) ss os->tf π h ss os/\ vJ ss os=ss.filterMap Cg
 | [],[],_=>⟨trivial,rfl⟩
 | [],_::_,h=>h.elim
 |_::_,[],h=>h.elim
 |s::r,o::l,h=>by
  obtain ⟨h1,h2⟩:=FE r l h.2
  have hg:=aeM h.1
  cases o<;>first|exact absurd rfl hg|(refine ⟨⟨h.1,h1⟩,?_⟩;simp only [vJ,List.filterMap_cons,h2];cases Cg s<;>rfl)
theorem Kl {r:kK} {Q:r.ty.T->Prop} {v:AV} {st:AS} (h:lE r Q v st): ∃y,Q y/\ rF ⟨[v],st.heap⟩ ⟨[ji (aW 2 0 r y).1],(aW 2 0 r y).2⟩:=by
 unfold lE at h
 split at h
 ·rename_i l hl
  split at h
  ·rename_i y ss hd
   split at h
   ·rename_i hn
    refine ⟨y,h,ss,?_⟩
    obtain ⟨ys,e,hs⟩:=vY r _ _ _ _ hd
    rw [List.append_nil] at e
    subst e
    obtain ⟨h1,h2⟩:=hs ss 0 fun i s hi=>by rwa [Nat.zero_add]
    obtain ⟨h3,h4⟩:=FE _ _ h2
    refine ⟨?_,h3,by rw [h4];exact hn⟩
    have key:sK ss (ji (aW 2 0 r y).1)=some v:=by
     cases v with
     |v a=>
      simp only [kj,Option.some.injEq] at hl
      subst hl
      match hm:(aW 2 0 r y).1,h1 with
      | [],h1=>simp [gp] at h1
      | [c],h1=>
       simp only [gp] at h1
       split at h1
       ·rename_i q m k1 k2
        simp only [Option.some.injEq,List.cons.injEq] at h1
        obtain ⟨rfl,_⟩:=h1
        simp only [ji,sK,k1]
       ·cases h1
      |_::_::_,h1=>
       simp only [gp] at h1
       split at h1
       ·rename_i k1 k2
        split at k2
        ·cases k2;simp at h1
        ·cases k2
       ·cases h1
     |nC l'=>
      simp only [kj] at hl
      split at hl
      ·cases hl
      ·rename_i hne
       cases hl
       match hm:(aW 2 0 r y).1,h1 with
       | [],h1=>simp only [ji,sK,h1]
       | [c],h1=>
        simp only [gp] at h1
        split at h1
        ·rename_i q m k1 k2
         cases k2
         cases h1
         exact absurd rfl (hne q)
        ·cases h1
       |_::_::_,h1=>simp only [ji,sK,h1]
     |dead=>simp [kj] at hl
    dsimp only
    revert key
    generalize ji (aW 2 0 r y).1=u
    intro key
    cases u with
    |v a=>exact ⟨key,trivial⟩
    |nC l=>exact ⟨key,trivial⟩
    |dead=>simp [sK] at key
   ·exact h.elim
  ·exact h.elim
 ·exact h.elim
end Go.Ev
