/- Functions that hand back what is only read. -/
import Derived.Test.YtfgdjlhilladhaaGreatEvO
noncomputable section
set_option linter.unusedSectionVars false
set_option linter.unusedVariables false
set_option linter.unusedSimpArgs false
namespace Go.Ev
open Go.RowKit
def RJ (hp:HP) (n:Nat):Bool:=match hp n with
 |some (.row _ _ rk)=>rk !=0
 |some (.alias _ _ _)=>true
 |some (.cells _ _)=>true
 |_=>false
def xS (hp:HP):List Nat->List Nat
 | []=> []
 |n::r=>if RJ hp n then n::xS hp r else xS hp r
def kG (s:bB):Spec:=fun _ args hp nm k=>match ru hp s.p args with
 |some (x,[],tc,b)=>ob b (s.pre x/\ ∀y,y=s.f x->k {val:=vS (bz 0 nm s.r y).1,fresh:=(bz 0 nm s.r y).2,writes:=(xS hp tc).map fun n=>(n,.gone),aO:=tc})
 |_=>False
def xu (hp:HP):(p:wI)->List A0->Option (p.ty.T×List A0)
 | .one t,l=>match l with
  | .one c::r=>match cN hp t [c] with
   |some (y,[],_)=>some (y,r)
   |_=>none
  |_=>none
 | .agg t,l=>match l with
  | .agg cs::r=>match cN hp t cs with
   |some (y,[],_)=>some (y,r)
   |_=>none
  |_=>none
 | .ptr _,_=>none
 | .ik _ _,_=>none
 | .mv _ _ _,_=>none
 | .pair a b,l=>match xu hp a l with
  |some (x,r)=>match xu hp b r with
   |some (y,r')=>some ((x,y),r')
   |none=>none
  |none=>none
 | .none,l=>some (false,l)
def Rj (S:Nat->Prop) (K:Prop):List aX->Prop
 | []=>False
 |o::r=>match o with
  | .bX S'=>S'=S/\ K
  |_=>Rj S K r
def wO (r:wI) (S:Nat->Prop) (Q:r.ty.T->Prop) (v:AV) (st:AS):Prop:=match vn v with
 |some l=>match xu (aA st.heap) r l with
  |some (y,[])=>Rj S (Q y) st.heap
  |_=>False
 |none=>False
theorem G5 {S:Nat->Prop} {K:Prop} : ∀ {h:List aX},Rj S K h->K/\ ∃n,aA h n=some (.bX S)
 | [],h=>h.elim
 |o::r,h=>by
  have main:Rj S K r->K/\ ∃n,aA (o::r) n=some (.bX S):=fun h=>by
   obtain ⟨h1,n,h2⟩:=G5 h
   exact ⟨h1,n+1,by simpa [aA] using h2⟩
  cases o with
  |bX S'=>obtain ⟨rfl,h⟩:=h;exact ⟨h,0,by simp [aA]⟩
  |_=>exact main h
def oE (ok:Nat->Prop) (w:World):aX->Loc->Prop
 | .row u l rk,x=>rk=0/\ (x.bR=none/\ x.BR= [])/\ x.len=l.length/\ x.es=u.size/\ l.length<=x.cap/\ oA w ok x.base u l
 |_,_=>False
theorem ju {ok:Nat->Prop} {w:World} : ∀(cs:List cD) (vals:List Value) (nm:Nat),bN (IK w ok) cs vals->
  ∃xs,bN (oE ok w) (cO 0 nm cs).2 xs/\ ∀cn:Env,(∀i x,xs[i]? =some x->cn (nm+i)=x)->(cO 0 nm cs).1.map (Cell.af cn)=vals
 | [],[],nm,_=>⟨[],trivial,fun _ _=>rfl⟩
 | [],_::_,_,h=>h.elim
 |_::_,[],_,h=>h.elim
 | .flat v::r,v'::vr,nm,h=>by
  obtain ⟨xs,h1,h2⟩:=ju r vr nm h.2
  refine ⟨xs,h1,fun cn hr=> ?_⟩
  have:=h2 cn hr
  have hv:v'=v:=h.1
  simp only [cO,List.map_cons,this,hv];rfl
 | .sl u l::r,v'::vr,nm,h=>by
  obtain ⟨xs,h1,h2⟩:=ju r vr (nm+1) h.2
  obtain ⟨a,c,hv,hc,hr⟩:=h.1
  refine ⟨{bR:=none,base:=a,len:=l.length,cap:=c,es:=u.size} ::xs,⟨⟨rfl,⟨rfl,rfl⟩,rfl,rfl,hc,hr⟩,h1⟩,fun cn hr=> ?_⟩
  have:=h2 cn fun i x hi=>by
   have:=hr (i+1) x (by simpa using hi)
   rwa [show nm+(i+1)=nm+1+i by omega] at this
  have h0:=hr 0 _ rfl
  rw [Nat.add_zero] at h0
  simp only [cO,List.map_cons,this,hv,Cell.af,h0]
theorem uS {hp:HP} : ∀(p:wI) (args:List AV) (x:p.ty.T) (r:List AV) (tc:List Nat),ru hp p args=some (x,r,tc,true)->
  ∃as,args=as++r/\ ∀aC W ρ Kn Γ w,(∀m∈tc,Γ m=hp m)->St aC W ρ Kn Γ w-> ∀ok,w9 ok ρ Γ w tc-> ∀nm,∃xs,bN (oE ok w) (bz 0 nm p x).2 xs/\
   ∀cn:Env,(∀i x,xs[i]? =some x->cn (nm+i)=x)->as.map (AV.af ρ)=(bz 0 nm p x).1.map (A0.af cn)
 | .one t,args,x,r,tc,h=>by
  simp only [ru] at h
  split at h<;>try (cases h;done)
  rename_i c r'
  split at h<;>try (cases h;done)
  rename_i y GM hd
  cases h
  obtain ⟨ys,e,hl,hs⟩:=eZ hp t _ _ _ _ hd
  rw [List.append_nil] at e
  subst e
  refine ⟨[_],rfl,fun aC W ρ Kn Γ w ht hst ok hok nm=> ?_⟩
  obtain ⟨xs,h1,h2⟩:=ju _ _ nm (hs aC W ρ Kn Γ w ht hst ok hok)
  refine ⟨xs,h1,fun cn hr=> ?_⟩
  have:=h2 cn hr
  simp only [bz,List.map_cons,List.map_nil]
  simp only [List.map_cons,List.map_nil] at this
  obtain ⟨c',Wo,e⟩: ∃c',(cO 0 nm (t.aM x)).1= [c']/\ c'.af cn=c.af ρ:=by
   match hm:(cO 0 nm (t.aM x)).1,this with
   | [c'],h=>simp only [List.map_cons,List.map_nil,List.cons.injEq,and_true] at h;exact ⟨c',rfl,h⟩
   | [],h=>simp at h
   |_::_::_,h=>simp at h
  rw [Wo]
  simp only [wZ,AV.af,A0.af,e]
 | .agg t,args,x,r,tc,h=>by
  simp only [ru] at h
  split at h<;>try (cases h;done)
  rename_i cs r'
  split at h<;>try (cases h;done)
  rename_i y GM hd
  cases h
  obtain ⟨ys,e,hl,hs⟩:=eZ hp t _ _ _ _ hd
  rw [List.append_nil] at e
  subst e
  refine ⟨[_],rfl,fun aC W ρ Kn Γ w ht hst ok hok nm=> ?_⟩
  obtain ⟨xs,h1,h2⟩:=ju _ _ nm (hs aC W ρ Kn Γ w ht hst ok hok)
  refine ⟨xs,h1,fun cn hr=> ?_⟩
  have:=h2 cn hr
  simp only [bz,wZ,List.map_cons,List.map_nil,AV.af,A0.af,this]
 | .ptr t,args,x,r,tc,h=>by
  simp only [ru] at h
  split at h
  ·rename_i n off r'
   split at h<;>try (cases h;done)
   rename_i cs e he
   split at h<;>try (cases h;done)
   rename_i y GM hd
   split at h<;>try (cases h;done)
   rename_i hsh
   cases h
   obtain ⟨ys,e1,hl,hs⟩:=eZ hp t _ _ _ _ hd
   rw [List.append_nil] at e1
   refine ⟨[_],rfl,fun aC W ρ Kn Γ w ht hst ok hok nm=> ?_⟩
   have pA:=za t x _ hsh (hs aC W ρ Kn Γ w (fun m hm=>ht m (by simp [hm])) hst ok (hok.sub fun m hm=>by simp [hm]))
   obtain ⟨b,hb,hh⟩:=hst.at_ n _ (by rw [ht n (by simp),he])
   refine ⟨[{bR:=none,base:=addrOf ρ n off,len:=1,cap:=1,es:=t.size}],⟨⟨rfl,⟨rfl,rfl⟩,rfl,rfl,by simp,ys.map (Cell.af ρ),?_,fun i v hv=> ?_⟩,trivial⟩,fun cn hr=> ?_⟩
   ·simpa [aD] using pA
   ·refine ⟨⟨b,off,none⟩,by simp [addrOf,hb],?_,?_⟩
    ·rw [QI,cg (by simpa using hh)]
     rw [<- e1,List.map_take,List.map_drop,List.getElem?_take] at hv
     split at hv
     ·rwa [List.getElem?_drop] at hv
     ·cases hv
    ·exact hok.2 n (by simp) (by rw [ht n (by simp),he];rfl) b hb ⟨_,_,_,hh⟩
   ·have h0:=hr 0 _ rfl
    rw [Nat.add_zero] at h0
    simp only [bz,List.map_cons,List.map_nil,AV.af,A0.af,Cell.af,h0]
    cases addrOf ρ n off<;>simp [add_zero']
  ·rename_i n j r'
   split at h<;>try (cases h;done)
   rename_i u l rk he
   split at h<;>try (cases h;done)
   rename_i l' hl'
   simp only [Option.some.injEq,Prod.mk.injEq,decide_eq_true_eq] at h
   obtain ⟨rfl,rfl,rfl,hj⟩:=h
   obtain ⟨e,e2⟩:=fJ hl'
   subst e
   dsimp only at e2
   subst e2
   refine ⟨[_],rfl,fun aC W ρ Kn Γ w ht hst ok hok nm=> ?_⟩
   have dw:Γ n=some (.row u l rk):=by rw [ht n (by simp),he]
   have hra:=hst.LK dw hok (by simp)
   have hes:(ρ n).es=u.size:=(hst.at_ n _ dw).2.1
   have hp:=hra.part (a':=(ρ n).base.map (·.add (j*u.size))) j (some 1) fun _=>rfl
   have FD:oM l j (some 1)= [gd u l j]:=by
    simp only [oM,gd,List.getD_eq_getElem?_getD,List.getElem?_eq_getElem hj,Option.getD_some]
    rw [List.drop_eq_getElem_cons hj];rfl
   rw [FD] at hp
   refine ⟨[{bR:=none,base:=(ρ n).base.map (·.add (j*u.size)),len:=1,cap:=1,es:=u.size}],⟨⟨rfl,⟨rfl,rfl⟩,rfl,rfl,by simp,hp⟩,trivial⟩,fun cn hr=> ?_⟩
   have h0:=hr 0 _ rfl
   rw [Nat.add_zero] at h0
   simp only [bz,List.map_cons,List.map_nil,AV.af,A0.af,Cell.af,h0,hes]
   cases (ρ n).base<;>simp [add_zero']
  ·cases h
 | .ik f p,args,x,r,tc,h=>by
  simp only [ru] at h
  split at h<;>try (cases h;done)
  rename_i g cap r'
  split at h<;>try (cases h;done)
  rename_i hg
  split at h<;>try (cases h;done)
  rename_i x1 Z0 b1 h1
  simp only [Option.some.injEq,Prod.mk.injEq,Bool.and_eq_true] at h
  obtain ⟨rfl,rfl,rfl,hc,rfl⟩:=h
  subst hg
  obtain ⟨as,e1,k1⟩:=uS p _ _ _ _ h1
  rw [List.append_nil] at e1
  refine ⟨[_],rfl,fun aC W ρ Kn Γ w ht hst ok hok nm=> ?_⟩
  obtain ⟨xs,g1,g2⟩:=k1 aC W ρ Kn Γ w ht hst ok hok nm
  refine ⟨xs,g1,fun cn hr=> ?_⟩
  have h2:=g2 cn hr
  have e2:cap.map (Ref.af ρ)=((bz 0 nm p x1).1.map UX).map (Ref.af cn):=by
   rw [Pm p hc,<- h2,<- e1,List.map_map]
   exact List.map_congr_left fun q _=>(vm ρ q).symm
  simp only [bz,List.map_cons,List.map_nil,AV.af,A0.af,Cell.af,e2]
 | .mv f agg t,args,x,r,tc,h=>by
  simp only [ru] at h
  split at h<;>try (cases h;done)
  rename_i g aiX rs r'
  split at h<;>try (cases h;done)
  rename_i hg
  split at h<;>try (cases h;done)
  rename_i y GM hd
  cases h
  obtain ⟨rfl,rfl⟩:=hg
  obtain ⟨ys,e,hl,hs⟩:=eZ hp t _ _ _ _ hd
  rw [List.append_nil] at e
  refine ⟨[_],rfl,fun aC W ρ Kn Γ w ht hst ok hok nm=> ?_⟩
  obtain ⟨xs,h1,h2⟩:=ju _ _ nm (hs aC W ρ Kn Γ w ht hst ok hok)
  refine ⟨xs,h1,fun cn hr=> ?_⟩
  have h3:=h2 cn hr
  have e2:rs.map (Ref.af ρ)=((cO 0 nm (t.aM x)).1.map afs).map (Ref.af cn):=by
   rw [Ap,h3,<- e,List.map_map]
   exact List.map_congr_left fun q _=>(qc ρ q).symm
  simp only [bz,List.map_cons,List.map_nil,AV.af,A0.af,Cell.af,e2]
 | .pair a b,args,x,r,tc,h=>by
  simp only [ru] at h
  split at h<;>try (cases h;done)
  rename_i x1 r1 Z0 f1 h1
  split at h<;>try (cases h;done)
  rename_i x2 r2 tc2 f2 h2
  simp only [Option.some.injEq,Prod.mk.injEq,Bool.and_eq_true] at h
  obtain ⟨rfl,rfl,rfl,rfl,rfl⟩:=h
  obtain ⟨as,e1,k1⟩:=uS a _ _ _ _ h1
  obtain ⟨bs,e2,k2⟩:=uS b _ _ _ _ h2
  refine ⟨as++bs,by rw [e1,e2];simp,fun aC W ρ Kn Γ w ht hst ok hok nm=> ?_⟩
  obtain ⟨xs,g1,g2⟩:=k1 aC W ρ Kn Γ w (fun m hm=>ht m (by simp [hm])) hst ok (hok.sub fun m hm=>by simp [hm]) nm
  obtain ⟨ys,g3,g4⟩:=k2 aC W ρ Kn Γ w (fun m hm=>ht m (by simp [hm])) hst ok (hok.sub fun m hm=>by simp [hm]) (nm+(bz 0 nm a x1).2.length)
  refine ⟨xs++ys,g1.append g3,fun cn hr=> ?_⟩
  have hl:=g1.length
  simp only [bz,List.map_append]
  rw [g2 cn fun i x hi=>hr i x (by rw [List.getElem?_append_left (List.getElem?_eq_some_iff.1 hi).1];exact hi),g4 cn fun i x hi=>by
   have:=hr (xs.length+i) x (by rw [List.getElem?_append_right (by omega)];simpa using hi)
   rwa [<- hl,<- Nat.add_assoc] at this]
 | .none,args,x,r,tc,h=>by
  simp only [ru,Option.some.injEq,Prod.mk.injEq,and_true] at h
  obtain ⟨rfl,rfl,rfl⟩:=h
  exact ⟨[],rfl,fun aC W ρ Kn Γ w ht hst ok hok nm=>⟨[],trivial,fun _ _=>rfl⟩⟩
where QI {b off m:Nat} :(⟨b,off,none⟩:Addr).add m=⟨b,off+m,none⟩:=by unfold Addr.add;split<;>simp_all
theorem dg {ok:Nat->Prop} {w:World} {o:aX} {x:Loc} (h:oE ok w o x): ∃u,∃l:List u.T,o= .row u l 0:=by
 cases o<;>first|exact h.elim|(obtain ⟨rfl,_⟩:=h;exact ⟨_,_,rfl⟩)
theorem TK {h:List aX} {n:Nat} {o:aX} (ho:aA h n=some o):h[n]? =some o:=by
 unfold aA at ho
 split at ho
 ·cases ho
 ·exact ho
theorem St.ai3 {ok S:Nat->Prop} {w:World} {os:List aX} {xs:List Loc} (h:bN (oE ok w) os xs) (hok: ∀b,ok b->bS w b/\ ¬S b) (hS: ∀b,S b->b<w.heap.size):
  St W3 w (fun n=>xs.getD n {}) (· <(os++ [aX.bX S]).length) (aA (os++ [aX.bX S])) w:=by
 have hl:=h.length
 have hx: ∀n o,aA (os++ [aX.bX S]) n=some o->(oE ok w o (xs.getD n {})/\ n<os.length)\/ (n=os.length/\ o= .bX S):=fun n o ho=>by
  have h1:=TK ho
  rcases Nat.lt_or_ge n os.length with h2|h2
  ·rw [List.getElem?_append_left h2] at h1
   obtain ⟨x,h3,h4⟩:=h.get n o h1
   exact .inl ⟨by simpa [h3] using h4,h2⟩
  ·rw [List.getElem?_append_right h2] at h1
   have:n- os.length=0:=by
    rcases Nat.eq_zero_or_pos (n- os.length) with h3|h3
    ·exact h3
    ·rw [List.getElem?_eq_none (by simp;omega)] at h1;cases h1
   rw [this] at h1
   simp only [List.getElem?_cons_zero,Option.some.injEq] at h1
   exact .inr ⟨by omega,h1.symm⟩
 have pQ: ∀n,(aA (os++ [aX.bX S]) n).isSome=true->(xs.getD n {}).bR=Option.none/\ (xs.getD n {}).BR= []:=fun n hn=>by
  obtain ⟨o,ho⟩:=Option.isSome_iff_exists.1 hn
  rcases hx n o ho with ⟨h1,_⟩|⟨rfl,_⟩
  ·obtain ⟨u,l,rfl⟩:=dg h1
   exact h1.2.1
  ·simp [List.getD,List.getElem?_eq_none (show xs.length<=os.length by omega)]
 refine ⟨Fr.refl _ _,fun n o ho=> ?_,fun n o ho=> ?_,fun n m b hn hm hb=> ?_,fun n b hn hb=> ?_,fun b ⟨m,S',h1,h2⟩=> ?_,fun n o ho=> .inr (pQ n (by rw [ho];rfl)).2⟩
 rotate_right
 ·rcases hx m _ h1 with ⟨h3,_⟩|⟨_,e⟩
  ·obtain ⟨u,l,e⟩:=dg h3
   cases e
  ·cases e
   refine ⟨hS b h2,?_⟩
   rintro ⟨n,h3,h4⟩
   exact Hs (pQ n h3) h4
 ·rcases hx n o ho with ⟨hg,_⟩|⟨rfl,rfl⟩
  ·obtain ⟨u,l,rfl⟩:=dg hg
   obtain ⟨_,h1,h2,h3,h4,vals,h5,h6⟩:=hg
   obtain ⟨e1,e2⟩:=q8 h5
   have hfz: ∀b,ok b->lV (fun n=>xs.getD n {}) (aA (os++ [aX.bX S])) w b:=fun b hb=>⟨(hok b hb).1,by
    rintro (⟨m,g1,g2⟩|⟨m,S',g1,g2⟩)
    ·exact Hs (pQ m g1) g2
    ·rcases hx m _ g1 with ⟨g3,_⟩|⟨_,e⟩
     ·obtain ⟨u,l,e⟩:=dg g3
      cases e
     ·cases e;exact (hok b hb).2 g2⟩
   refine ⟨h2,h3,h4,yY vals,fun i v hv=> ?_,fun q u' l' hq=> ?_,fun _=>h1.1,fun h=>absurd rfl h⟩
   ·rw [e1] at hv
    obtain ⟨a,g1,g2,g3⟩:=h6 i v hv
    exact ⟨a,g1,g2,fun _=>hfz _ g3⟩
   ·exact (e2 q u' l' hq).weak fun b hb=>⟨hfz b hb,fun h=>by cases h⟩
  ·exact (pQ _ (by rw [ho];rfl)).1
 ·rcases hx n o ho with ⟨hg,hlt⟩|⟨rfl,rfl⟩
  ·obtain ⟨u,l,rfl⟩:=dg hg
   exact ⟨by simp;omega,trivial⟩
  ·exact ⟨by simp,trivial⟩
 ·exact (Hs (pQ n hn) hb).elim
 ·exact (Hs (pQ n hn) hb).elim
theorem BP {h:List aX} : ∀(p:wI) (l:List A0) (y:p.ty.T) (r:List A0),xu (aA h) p l=some (y,r)->
  ∃ys,l=ys++r/\ ∀aC W ρ Kn w,St aC W ρ Kn (aA h) w-> ∀ok,(∀b,lV ρ (aA h) w b->ok b)->(∀m,(aA h m).isSome=true-> ∀b,(ρ m).bR=some b->bS w b->ok b)-> ∀nm,∃xs,bN (oE ok w) (bz 0 nm p y).2 xs/\
   ∀cn:Env,(∀i x,xs[i]? =some x->cn (nm+i)=x)->ys.map (A0.af ρ)=(bz 0 nm p y).1.map (A0.af cn)
 | .one t,l,y,r,hd=>by
  simp only [xu] at hd
  split at hd<;>try (cases hd;done)
  rename_i c r1
  split at hd<;>try (cases hd;done)
  rename_i x tc h1
  cases hd
  obtain ⟨ys,e,hl,hs⟩:=eZ _ t _ _ _ _ h1
  rw [List.append_nil] at e
  subst e
  refine ⟨[_],rfl,fun aC W ρ Kn w hst ok hf ho nm=> ?_⟩
  obtain ⟨xs,g1,g2⟩:=ju (ok:=ok) _ _ nm (hs aC W ρ Kn _ w (fun _ _=>rfl) hst ok ⟨hf,fun m _=>ho m⟩)
  refine ⟨xs,g1,fun cn hr=> ?_⟩
  have:=g2 cn hr
  simp only [bz,List.map_cons,List.map_nil]
  simp only [List.map_cons,List.map_nil] at this
  obtain ⟨c',Wo,e⟩: ∃c',(cO 0 nm (t.aM y)).1= [c']/\ c'.af cn=c.af ρ:=by
   match hm:(cO 0 nm (t.aM y)).1,this with
   | [c'],h=>simp only [List.map_cons,List.map_nil,List.cons.injEq,and_true] at h;exact ⟨c',rfl,h⟩
   | [],h=>simp at h
   |_::_::_,h=>simp at h
  rw [Wo]
  simp only [wZ,A0.af,e]
 | .agg t,l,y,r,hd=>by
  simp only [xu] at hd
  split at hd<;>try (cases hd;done)
  rename_i cs r1
  split at hd<;>try (cases hd;done)
  rename_i x tc h1
  cases hd
  obtain ⟨ys,e,hl,hs⟩:=eZ _ t _ _ _ _ h1
  rw [List.append_nil] at e
  subst e
  refine ⟨[_],rfl,fun aC W ρ Kn w hst ok hf ho nm=> ?_⟩
  obtain ⟨xs,g1,g2⟩:=ju (ok:=ok) _ _ nm (hs aC W ρ Kn _ w (fun _ _=>rfl) hst ok ⟨hf,fun m _=>ho m⟩)
  refine ⟨xs,g1,fun cn hr=> ?_⟩
  have:=g2 cn hr
  simp only [bz,wZ,List.map_cons,List.map_nil,A0.af,this]
 | .ptr t,l,y,r,hd=>by simp [xu] at hd
 | .ik f p,l,y,r,hd=>by simp [xu] at hd
 | .mv f agg t,l,y,r,hd=>by simp [xu] at hd
 | .pair a b,l,y,r,hd=>by
  simp only [xu] at hd
  split at hd<;>try (cases hd;done)
  rename_i x1 r1 h1
  split at hd<;>try (cases hd;done)
  rename_i x2 r2 h2
  cases hd
  obtain ⟨ys,e1,k1⟩:=BP a _ _ _ h1
  obtain ⟨zs,e2,k2⟩:=BP b _ _ _ h2
  refine ⟨ys++zs,by rw [e1,e2];simp,fun aC W ρ Kn w hst ok hf ho nm=> ?_⟩
  obtain ⟨xs,g1,g2⟩:=k1 aC W ρ Kn w hst ok hf ho nm
  obtain ⟨us,g3,g4⟩:=k2 aC W ρ Kn w hst ok hf ho (nm+(bz 0 nm a x1).2.length)
  refine ⟨xs++us,g1.append g3,fun cn hr=> ?_⟩
  have hl:=g1.length
  simp only [bz,List.map_append]
  rw [g2 cn fun i x hi=>hr i x (by rw [List.getElem?_append_left (List.getElem?_eq_some_iff.1 hi).1];exact hi),g4 cn fun i x hi=>by
   have:=hr (xs.length+i) x (by rw [List.getElem?_append_right (by omega)];simpa using hi)
   rwa [<- hl,<- Nat.add_assoc] at this]
 | .none,l,y,r,hd=>by
  simp only [xu,Option.some.injEq,Prod.mk.injEq] at hd
  obtain ⟨rfl,rfl⟩:=hd
  exact ⟨[],rfl,fun aC W ρ Kn w hst ok hf ho nm=>⟨[],trivial,fun _ _=>rfl⟩⟩
theorem St.agD {aC:mY} {W w:World} {ρ:Env} {Kn:Nat->Prop} {Γ:HP} {ok:Nat->Prop} {nm:Nat} {os:List aX} {xs:List Loc} {v:AV} {tc G:List Nat} (h:St aC W ρ Kn Γ w) (hn: ∀i,i<os.length-> ¬Kn (nm+i)) (hg:bN (oE ok w) os xs)
  (hok: ∀b,ok b->bS w b/\ ¬HI Γ b/\ ∀m,m∉G->(Γ m).isSome=true-> ¬(ρ m).has b):
  ∃ρ',(∀m,Kn m->ρ' m=ρ m)/\ (∀i x,xs[i]? =some x->ρ' (nm+i)=x)/\ St aC W ρ' (tP Kn nm {val:=v,fresh:=os,writes:=G.map fun n=>(n,.gone),aO:=tc}) (dO {val:=v,fresh:=os,writes:=G.map fun n=>(n,.gone),aO:=tc} nm Γ) w:=by
 have hlen:=hg.length
 let ρ':Env:=fun m=>if nm<=m/\ m<nm+os.length then xs.getD (m- nm) {} else ρ m
 have hold: ∀m,Kn m->ρ' m=ρ m:=fun m hm=>by
  simp only [ρ']
  rw [if_neg]
  rintro ⟨h2,h3⟩
  exact hn (m- nm) (by omega) (by rw [show nm+(m- nm)=m by omega];exact hm)
 have hnew: ∀i x,xs[i]? =some x->ρ' (nm+i)=x:=fun i x hi=>by
  have:=(List.getElem?_eq_some_iff.1 hi).1
  simp only [ρ']
  rw [if_pos (by omega),show nm+i- nm=i by omega]
  simp [hi]
 have dw: ∀m o,dO {val:=v,fresh:=os,writes:=G.map fun n=>(n,.gone),aO:=tc} nm Γ m=some o->(∃i x,m=nm+i/\ i<os.length/\ xs[i]? =some x/\ oE ok w o x)\/ (Γ m=some o/\ m∉G/\ Kn m):=by
  intro m o ho
  simp only [dO] at ho
  split at ho
  ·rename_i hc
   have hlt:m- nm<os.length:=by omega
   rw [List.getElem?_eq_getElem hlt] at ho
   obtain ⟨x,h1,h2⟩:=hg.get (m- nm) _ (List.getElem?_eq_getElem hlt)
   obtain ⟨u,l,e⟩:=dg h2
   rw [e] at ho h2
   simp only [live,Option.some.injEq] at ho
   subst ho
   exact .inl ⟨m- nm,x,by omega,hlt,h1,h2⟩
  ·rw [KF] at ho
   by_cases hm:m∈G
   ·rw [if_pos hm] at ho;simp [live] at ho
   ·rw [if_neg hm] at ho
    exact .inr ⟨ho,hm,(h.kn m o ho).1⟩
 have pQ: ∀m b,(dO {val:=v,fresh:=os,writes:=G.map fun n=>(n,.gone),aO:=tc} nm Γ m).isSome=true->(ρ' m).has b->(Γ m).isSome=true/\ m∉G/\ (ρ m).has b:=fun m b h1 h2=>by
  obtain ⟨o,ho⟩:=Option.isSome_iff_exists.1 h1
  rcases dw m o ho with ⟨i,x,rfl,_,h3,h4⟩|⟨h3,h4,h5⟩
  ·rw [hnew i x h3] at h2
   obtain ⟨u,l,rfl⟩:=dg h4
   exact (Hs h4.2.1 h2).elim
  ·rw [hold m h5] at h2
   exact ⟨by rw [h3];rfl,h4,h2⟩
 have Kj: ∀b,HI (dO {val:=v,fresh:=os,writes:=G.map fun n=>(n,.gone),aO:=tc} nm Γ) b->HI Γ b:=fun b ⟨m,S,h1,h2⟩=>by
  rcases dw m _ h1 with ⟨i,x,_,_,_,h4⟩|⟨h3,_,_⟩
  ·obtain ⟨u,l,e⟩:=dg h4
   cases e
  ·exact ⟨m,S,h3,h2⟩
 have hfz: ∀b,lV ρ Γ w b->lV ρ' (dO {val:=v,fresh:=os,writes:=G.map fun n=>(n,.gone),aO:=tc} nm Γ) w b/\ w.heap[b]? =w.heap[b]? :=fun b hb=>by
  refine ⟨⟨hb.1,?_⟩,rfl⟩
  rintro (⟨m,h1,h2⟩|hh)
  ·obtain ⟨h3,_,h4⟩:=pQ m b h1 h2
   exact hb.2 (.inl ⟨m,h3,h4⟩)
  ·exact hb.2 (.inr (Kj b hh))
 have Tq: ∀b,ok b->lV ρ' (dO {val:=v,fresh:=os,writes:=G.map fun n=>(n,.gone),aO:=tc} nm Γ) w b:=fun b hb=>by
  obtain ⟨k1,k2,k3⟩:=hok b hb
  refine ⟨k1,?_⟩
  rintro (⟨m,h1,h2⟩|hh)
  ·obtain ⟨h3,h4,h5⟩:=pQ m b h1 h2
   exact k3 m h4 h3 h5
  ·exact k2 (Kj b hh)
 refine ⟨ρ',hold,hnew,h.fr,fun m o ho=> ?_,fun m o ho=> ?_,fun m m' b hm hm' lX kH=> ?_,fun m b hm hb=> ?_,fun b hh=> ?_,fun m o ho=> ?_⟩
 rotate_right
 ·rcases dw m o ho with ⟨i,x,rfl,hi,h3,h4⟩|⟨h3,_,h5⟩
  ·obtain ⟨u,l,rfl⟩:=dg h4
   exact .inr (by rw [hnew i x h3];exact h4.2.1.2)
  ·rw [hold m h5];exact h.Nl m o h3
 ·rcases dw m o ho with ⟨i,x,rfl,hi,h3,h4⟩|⟨h3,_,h5⟩
  ·obtain ⟨u,l,rfl⟩:=dg h4
   obtain ⟨_,g1,g2,g3,g4,vals,g5,g6⟩:=h4
   obtain ⟨e1,e2⟩:=q8 g5
   rw [dF,hnew i x h3]
   refine ⟨g2,g3,g4,yY vals,fun i v hv=> ?_,fun q u' l' hq=> ?_,fun _=>g1.1,fun h=>absurd rfl h⟩
   ·rw [e1] at hv
    obtain ⟨a,k1,k2,k3⟩:=g6 i v hv
    exact ⟨a,k1,k2,fun _=>Tq _ k3⟩
   ·exact (e2 q u' l' hq).weak fun b hb=>⟨Tq b hb,fun h=>by cases h⟩
  ·exact dj (Kn:=Kn) (h.at_ m o h3) hold h5 (h.kn m o h3).2 hfz (fun _ _ h=>h) fun _ _=>rfl
 ·rcases dw m o ho with ⟨i,x,rfl,hi,h3,h4⟩|⟨h3,_,h5⟩
  ·obtain ⟨u,l,rfl⟩:=dg h4
   exact ⟨.inr (by simp only [];omega),trivial⟩
  ·exact ⟨.inl h5,aX.bG (fun _=> .inl) o (h.kn m o h3).2⟩
 ·obtain ⟨h1,_,h2⟩:=pQ m b hm lX
  obtain ⟨h3,_,h4⟩:=pQ m' b hm' kH
  exact h.qC m m' b h1 h3 h2 h4
 ·obtain ⟨h1,_,h2⟩:=pQ m b hm hb
  exact h.yb m b h1 h2
 ·obtain ⟨h1,h2⟩:=h.F5 b (Kj b hh)
  refine ⟨h1,?_⟩
  rintro ⟨m,h3,h4⟩
  obtain ⟨h5,_,h6⟩:=pQ m b h3 h4
  exact h2 ⟨m,h5,h6⟩
theorem Xa {v:AV} {l:List A0} (h:vn v=some l):vS l=v:=by
 cases v with
 |v a=>simp only [vn,Option.some.injEq] at h;subst h;rfl
 |AH l'=>
  simp only [vn] at h
  split at h
  ·cases h
  ·rename_i hne
   cases h
   match l,hne with
   | [],_=>rfl
   | [a],hne=>exact absurd rfl (hne a)
   |_::_::_,_=>rfl
 |dead=>simp [vn] at h
theorem zM {hp:HP} : ∀ {l:List Nat} {n:Nat},n∈xS hp l↔n∈l/\ RJ hp n=true
 | [],n=>by simp [xS]
 |m::r,n=>by
  simp only [xS]
  split
  ·rename_i h
   simp only [List.mem_cons,zM (l:=r)]
   constructor
   ·rintro (rfl|⟨h1,h2⟩)
    ·exact ⟨.inl rfl,h⟩
    ·exact ⟨.inr h1,h2⟩
   ·rintro ⟨rfl|h1,h2⟩
    ·exact .inl rfl
    ·exact .inr ⟨h1,h2⟩
  ·rename_i h
   simp only [List.mem_cons,zM (l:=r)]
   constructor
   ·rintro ⟨h1,h2⟩;exact ⟨.inr h1,h2⟩
   ·rintro ⟨rfl|h1,h2⟩
    ·exact absurd h2 h
    ·exact ⟨h1,h2⟩
section
variable {P:Program} {tt:List (Nat×TI)} {specs:List (Nat×Spec)}
theorem ah.fnR (hT:aW P tt) (hS:ae P specs) (hm:P.follows .mixedOrders=true) {f:FuncId} {fn:Func} (hf:P.funcs[f]? =some fn) (hn:jf (ids (bn fn))=true) (p r:wI) (pre:p.ty.T->Prop) (g:p.ty.T->r.ty.T)
  (h: ∀x,pre x-> ∀S,∃lp its,av P cZ its/\ au P cZ (bn fn) lp/\ Vc (Na ⟨tt,specs,cZ,lp,[],its⟩ fn (ij p x) (iq p x++ [.bX S]) (wO r S (· =g x)))):ah P f (kG ⟨p,r,pre,g⟩):=by
 intro X args hp nm k hs
 unfold kG at hs
 split at hs
 rotate_left
 ·exact hs.elim
 rename_i x tc b hd
 obtain ⟨rfl,hpre,hk⟩:=cl hs
 have hk:=hk _ rfl
 obtain ⟨as,e,hargs⟩:=uS p _ _ _ _ hd
 rw [List.append_nil] at e
 subst e
 refine ⟨_,⟨fun q hq=> ?_,?_⟩,hk⟩
 ·obtain ⟨n,Ng,rfl⟩:=List.mem_map.1 hq
  have:=(zM.1 Ng).2
  unfold RJ at this
  intro h0
  simp only [h0] at this
  cases this
 intro aC W ρ Kn Γ w _ _ ht hfr hst
 obtain ⟨S,hSd⟩: ∃S:Nat->Prop,S=fun b=>HI Γ b\/ ∃m,m∉xS hp tc/\ (Γ m).isSome=true/\ (ρ m).has b:=⟨_,rfl⟩
 have amM: ∀b,S b->b<w.heap.size:=fun b hb=>by
  rw [hSd] at hb
  rcases hb with hb|⟨m,_,h1,h2⟩
  ·exact (hst.F5 b hb).1
  ·exact hst.lt m b h1 h2
 have hok:w9 (fun b=>bS w b/\ ¬S b) ρ Γ w tc:=by
  refine ⟨fun b hb=>⟨hb.1,fun hs=> ?_⟩,fun m hm h1 b hb hc=>⟨hc,fun hs=> ?_⟩⟩
  ·rw [hSd] at hs
   rcases hs with hs|⟨m,_,h1,h2⟩
   ·exact hb.2 (.inr hs)
   ·exact hb.2 (.inl ⟨m,h1,h2⟩)
  ·rw [hSd] at hs
   rcases hs with hs|⟨m',h2,h3,h4⟩
   ·exact (hst.F5 b hs).2 ⟨m,h1,.inl hb⟩
   ·have:=hst.qC m' m b h3 h1 h4 (.inl hb)
    subst this
    refine h2 (zM.2 ⟨hm,?_⟩)
    obtain ⟨o,ho⟩:=Option.isSome_iff_exists.1 h1
    have bE:=hst.at_ m' o ho
    rw [ht m' hm] at ho
    unfold RJ
    rw [ho]
    cases o with
    |cells cs e=>rfl
    |row t l rk=>
     obtain ⟨_,_,_,sub,_,_,h5,_⟩:=bE
     by_cases e:rk=0
     ·rw [h5 e] at hb;cases hb
     ·simpa using e
    |alias=>rfl
    |gone=>exact bE.elim
    |loop r' s j=>
     obtain ⟨b',hb',hh⟩:=bE
     rw [hb] at hb';cases hb'
     obtain ⟨_,_,_,h6⟩:=hc
     rw [hh] at h6;cases h6
    |ji=>rw [bE.1] at hb;cases hb
    |bX=>rw [show (ρ m').bR=Option.none from bE] at hb;cases hb
    |map ka va k v l=>
     obtain ⟨_,_,b',es,QS,hb',hh,_⟩:=bE
     rw [hb] at hb';cases hb'
     obtain ⟨_,_,_,h6⟩:=hc
     rw [hh] at h6;cases h6
    |Om ka k u l c q=>
     obtain ⟨_,_,_,b',es,QS,hb',hh,_⟩:=bE
     rw [hb] at hb';cases hb'
     obtain ⟨_,_,_,h6⟩:=hc
     rw [hh] at h6;cases h6
    |set=>rw [bE.1] at hb;cases hb
    |gv=>rw [bE.1] at hb;cases hb
    |rc=>rw [bE.1] at hb;cases hb
 obtain ⟨xs,hg,hc⟩:=hargs aC W ρ Kn Γ w ht hst _ hok 0
 have hb:=St.ai3 hg (fun b hb=>hb) amM
 obtain ⟨lp,its,hi,hl,hfn⟩:=h x hpre S
 have hcs:=hc (fun n=>xs.getD n {}) fun i y hy=>by simp [hy]
 have key:=uM (ctx:=⟨tt,specs,cZ,lp,[],its⟩) hT ⟨hS,xe.nil P,hi⟩ (cZ.ok W3 w) hm hf (fun c hc=>by
  have:bn fn=c:=by unfold bn;rw [hc]
  subst this
  exact Ru (lB hn) hl) hfn.h (fun y hy=>by
   obtain ⟨a,ha,rfl⟩:=List.mem_map.1 hy
   exact A0.bG (fun m hm=>by simp [iq] at hm ⊢;omega) a (rI 0 p x 0 a ha)) hb
 have ea:(ij p x).map (AV.af fun n=>xs.getD n {})=args.map (AV.af ρ):=by
  rw [hcs];simp [ij,AV.af,Function.comp_def]
 rw [ea] at key
 refine key.mono ?_
 rintro e w' ⟨st,cn,v,rfl,hv,hR,adT⟩
 unfold wO at hR
 split at hR
 rotate_left
 ·exact hR.elim
 rename_i l FD
 split at hR
 rotate_left
 ·exact hR.elim
 rename_i y hdr
 obtain ⟨rfl,nh,hh⟩:=G5 hR
 obtain ⟨ys,e1,ajn⟩:=BP r _ _ _ hdr
 rw [List.append_nil] at e1
 subst e1
 obtain ⟨us,hgu,hcu⟩:=ajn W3 w cn _ w' adT (fun b=>bS w' b/\ ¬S b) (fun b hb=>⟨hb.1,fun hs=>hb.2 (.inr ⟨nh,S,hh,hs⟩)⟩) (fun m h1 b h2 h3=>⟨h3,fun hs=>(adT.F5 b ⟨nh,S,hh,hs⟩).2 ⟨m,h1,.inl h2⟩⟩) nm
 obtain ⟨ρ',r1,r2,r3⟩:=(hst.called adT.fr).agD (v:=vS (bz 0 nm r (g x)).1) (tc:=tc) (G:=xS hp tc) (nm:=nm) hfr hgu (fun b hb=>by
  refine ⟨hb.1,fun h1=>hb.2 (by rw [hSd];exact .inl h1),fun m h1 h2 h3=>hb.2 (by rw [hSd];exact .inr ⟨m,h1,h2,h3⟩)⟩)
 refine ⟨ρ',?_,r1,?_,r3⟩
 ·congr 1
  rw [<- Xa FD]
  exact Pq (hcu ρ' r2)
 ·exact Zu fun c hc=>A0.bG (fun m hm=> .inr (by simpa using hm)) c (rI 0 r (g x) nm c hc)
end
def adf:k9:=fun _ _ _ _=>False
theorem aan {P:Program} {X:Addr->Value->Prop} {f:FuncId} :dr P X f adf:=fun _ _ _ _ h=>h.elim
end Go.Ev
