/- Functions that hand back what is only read. -/
import Derived.Test.YtaipcbdilkcdbaaEvO
noncomputable section
set_option linter.unusedSectionVars false
set_option linter.unusedVariables false
set_option linter.unusedSimpArgs false
namespace Go.Ev
open Go.RowKit
def Ft (hp:HP) (n:Nat):Bool:=match hp n with
 |some (.row _ _ rk)=>rk !=0
 |some (.alias _ _ _)=>true
 |some (.cells _ _)=>true
 |some (.set _)=>true
 |_=>false
def rS (hp:HP):List Nat->List Nat
 | []=> []
 |n::r=>if Ft hp n then n::rS hp r else rS hp r
def sE (s:jh):Spec:=fun _ args hp nm k=>match jA hp s.p args with
 |some (x,[],tc,b)=>ob b (s.pre x/\ ∀y,y=s.f x->k {val:=iq (aT 0 nm s.r y).1,fresh:=(aT 0 nm s.r y).2,writes:=(rS hp tc).map fun n=>(n,.gone),az:=tc})
 |_=>False
def q9 (hp:HP):(p:mF)->List A0->Option (p.ty.T×List A0)
 | .one t,l=>match l with
  | .one c::r=>match b8 hp t [c] with
   |some (y,[],_)=>some (y,r)
   |_=>none
  |_=>none
 | .agg t,l=>match l with
  | .agg cs::r=>match b8 hp t cs with
   |some (y,[],_)=>some (y,r)
   |_=>none
  |_=>none
 | .ptr _,_=>none
 | .kq _ _,_=>none
 | .mv _ _ _,_=>none
 | .pair a b,l=>match q9 hp a l with
  |some (x,r)=>match q9 hp b r with
   |some (y,r')=>some ((x,y),r')
   |none=>none
  |none=>none
 | .none,l=>some (false,l)
def EZ (S:Nat->Prop) (K:Prop):List aG->Prop
 | []=>False
 |o::r=>match o with
  | .eZ S'=>S'=S/\ K
  |_=>EZ S K r
def DW (r:mF) (S:Nat->Prop) (Q:r.ty.T->Prop) (v:AV) (st:AS):Prop:=match jn v with
 |some l=>match q9 (aj st.heap) r l with
  |some (y,[])=>EZ S (Q y) st.heap
  |_=>False
 |none=>False
theorem yu {S:Nat->Prop} {K:Prop} : ∀ {h:List aG},EZ S K h->K/\ ∃n,aj h n=some (.eZ S)
 | [],h=>h.elim
 |o::r,h=>by
  have main:EZ S K r->K/\ ∃n,aj (o::r) n=some (.eZ S):=fun h=>by
   obtain ⟨h1,n,h2⟩:=yu h
   exact ⟨h1,n+1,by simpa [aj] using h2⟩
  cases o with
  |eZ S'=>obtain ⟨rfl,h⟩:=h;exact ⟨h,0,by simp [aj]⟩
  |_=>exact main h
def dg (ok:Nat->Prop) (w:World):aG->Loc->Prop
 | .row u l rk,x=>rk=0/\ (x.bt=none/\ x.bT= [])/\ x.len=l.length/\ x.es=u.size/\ l.length<=x.cap/\ ke w ok x.base u l
 |_,_=>False
theorem eO {ok:Nat->Prop} {w:World} : ∀(cs:List cn) (vals:List Value) (nm:Nat),bK (zn w ok) cs vals->
  ∃xs,bK (dg ok w) (cl 0 nm cs).2 xs/\ ∀aY:Env,(∀i x,xs[i]? =some x->aY (nm+i)=x)->(cl 0 nm cs).1.map (Cell.af aY)=vals
 | [],[],nm,_=>⟨[],trivial,fun _ _=>rfl⟩
 | [],_::_,_,h=>h.elim
 |_::_,[],_,h=>h.elim
 | .flat v::r,v'::vr,nm,h=>by
  obtain ⟨xs,h1,h2⟩:=eO r vr nm h.2
  refine ⟨xs,h1,fun aY hr=> ?_⟩
  have:=h2 aY hr
  have hv:v'=v:=h.1
  simp only [cl,List.map_cons,this,hv];rfl
 | .sl u l::r,v'::vr,nm,h=>by
  obtain ⟨xs,h1,h2⟩:=eO r vr (nm+1) h.2
  obtain ⟨a,c,hv,hc,hr⟩:=h.1
  refine ⟨{bt:=none,base:=a,len:=l.length,cap:=c,es:=u.size} ::xs,⟨⟨rfl,⟨rfl,rfl⟩,rfl,rfl,hc,hr⟩,h1⟩,fun aY hr=> ?_⟩
  have:=h2 aY fun i x hi=>by
   have:=hr (i+1) x (by simpa using hi)
   rwa [show nm+(i+1)=nm+1+i by omega] at this
  have h0:=hr 0 _ rfl
  rw [Nat.add_zero] at h0
  simp only [cl,List.map_cons,this,hv,Cell.af,h0]
theorem kz {hp:HP} : ∀(p:mF) (args:List AV) (x:p.ty.T) (r:List AV) (tc:List Nat),jA hp p args=some (x,r,tc,true)->
  ∃as,args=as++r/\ ∀ax W ρ Kn Γ w,(∀m∈tc,Γ m=hp m)->St ax W ρ Kn Γ w-> ∀ok,lD ok ρ Γ w tc-> ∀nm,∃xs,bK (dg ok w) (aT 0 nm p x).2 xs/\
   ∀aY:Env,(∀i x,xs[i]? =some x->aY (nm+i)=x)->as.map (AV.af ρ)=(aT 0 nm p x).1.map (A0.af aY)
 | .one t,args,x,r,tc,h=>by
  simp only [jA] at h
  split at h<;>try (cases h;done)
  rename_i c r'
  split at h<;>try (cases h;done)
  rename_i y uS hd
  cases h
  obtain ⟨ys,e,hl,hs⟩:=di hp t _ _ _ _ hd
  rw [List.append_nil] at e
  subst e
  refine ⟨[_],rfl,fun ax W ρ Kn Γ w ht hst ok hok nm=> ?_⟩
  obtain ⟨xs,h1,h2⟩:=eO _ _ nm (hs ax W ρ Kn Γ w ht hst ok hok)
  refine ⟨xs,h1,fun aY hr=> ?_⟩
  have:=h2 aY hr
  simp only [aT,List.map_cons,List.map_nil]
  simp only [List.map_cons,List.map_nil] at this
  obtain ⟨c',IP,e⟩: ∃c',(cl 0 nm (t.aI x)).1= [c']/\ c'.af aY=c.af ρ:=by
   match hm:(cl 0 nm (t.aI x)).1,this with
   | [c'],h=>simp only [List.map_cons,List.map_nil,List.cons.injEq,and_true] at h;exact ⟨c',rfl,h⟩
   | [],h=>simp at h
   |_::_::_,h=>simp at h
  rw [IP]
  simp only [nH,AV.af,A0.af,e]
 | .agg t,args,x,r,tc,h=>by
  simp only [jA] at h
  split at h<;>try (cases h;done)
  rename_i cs r'
  split at h<;>try (cases h;done)
  rename_i y uS hd
  cases h
  obtain ⟨ys,e,hl,hs⟩:=di hp t _ _ _ _ hd
  rw [List.append_nil] at e
  subst e
  refine ⟨[_],rfl,fun ax W ρ Kn Γ w ht hst ok hok nm=> ?_⟩
  obtain ⟨xs,h1,h2⟩:=eO _ _ nm (hs ax W ρ Kn Γ w ht hst ok hok)
  refine ⟨xs,h1,fun aY hr=> ?_⟩
  have:=h2 aY hr
  simp only [aT,nH,List.map_cons,List.map_nil,AV.af,A0.af,this]
 | .ptr t,args,x,r,tc,h=>by
  simp only [jA] at h
  split at h
  ·rename_i n off r'
   split at h<;>try (cases h;done)
   rename_i cs e he
   split at h<;>try (cases h;done)
   rename_i y uS hd
   split at h<;>try (cases h;done)
   rename_i hsh
   cases h
   obtain ⟨ys,e1,hl,hs⟩:=di hp t _ _ _ _ hd
   rw [List.append_nil] at e1
   refine ⟨[_],rfl,fun ax W ρ Kn Γ w ht hst ok hok nm=> ?_⟩
   have hall:=sq t x _ hsh (hs ax W ρ Kn Γ w (fun m hm=>ht m (by simp [hm])) hst ok (hok.sub fun m hm=>by simp [hm]))
   obtain ⟨b,hb,hh⟩:=hst.at_ n _ (by rw [ht n (by simp),he])
   refine ⟨[{bt:=none,base:=addrOf ρ n off,len:=1,cap:=1,es:=t.size}],⟨⟨rfl,⟨rfl,rfl⟩,rfl,rfl,by simp,ys.map (Cell.af ρ),?_,fun i v hv=> ?_⟩,trivial⟩,fun aY hr=> ?_⟩
   ·simpa [ak] using hall
   ·refine ⟨⟨b,off,none⟩,by simp [addrOf,hb],?_,?_⟩
    ·rw [EB,bL (by simpa using hh)]
     rw [<- e1,List.map_take,List.map_drop,List.getElem?_take] at hv
     split at hv
     ·rwa [List.getElem?_drop] at hv
     ·cases hv
    ·exact hok.2 n (by simp) (by rw [ht n (by simp),he];rfl) b (.inl hb) ⟨_,_,_,hh⟩
   ·have h0:=hr 0 _ rfl
    rw [Nat.add_zero] at h0
    simp only [aT,List.map_cons,List.map_nil,AV.af,A0.af,Cell.af,h0]
    cases addrOf ρ n off<;>simp [add_zero']
  ·rename_i n j r'
   split at h<;>try (cases h;done)
   rename_i u l rk he
   split at h<;>try (cases h;done)
   rename_i l' hl'
   simp only [Option.some.injEq,Prod.mk.injEq,decide_eq_true_eq] at h
   obtain ⟨rfl,rfl,rfl,hj⟩:=h
   obtain ⟨e,e2⟩:=cK hl'
   subst e
   dsimp only at e2
   subst e2
   refine ⟨[_],rfl,fun ax W ρ Kn Γ w ht hst ok hok nm=> ?_⟩
   have bV:Γ n=some (.row u l rk):=by rw [ht n (by simp),he]
   have Wx:=hst.BU bV hok (by simp)
   have Rt:(ρ n).es=u.size:=(hst.at_ n _ bV).2.1
   have hp:=Wx.part (a':=(ρ n).base.map (·.add (j*u.size))) j (some 1) fun _=>rfl
   have rJ:lO l j (some 1)= [gd u l j]:=by
    simp only [lO,gd,List.getD_eq_getElem?_getD,List.getElem?_eq_getElem hj,Option.getD_some]
    rw [List.drop_eq_getElem_cons hj];rfl
   rw [rJ] at hp
   refine ⟨[{bt:=none,base:=(ρ n).base.map (·.add (j*u.size)),len:=1,cap:=1,es:=u.size}],⟨⟨rfl,⟨rfl,rfl⟩,rfl,rfl,by simp,hp⟩,trivial⟩,fun aY hr=> ?_⟩
   have h0:=hr 0 _ rfl
   rw [Nat.add_zero] at h0
   simp only [aT,List.map_cons,List.map_nil,AV.af,A0.af,Cell.af,h0,Rt]
   cases (ρ n).base<;>simp [add_zero']
  ·cases h
 | .kq f p,args,x,r,tc,h=>by
  simp only [jA] at h
  split at h<;>try (cases h;done)
  rename_i g cap r'
  split at h<;>try (cases h;done)
  rename_i hg
  split at h<;>try (cases h;done)
  rename_i x1 Aa b1 h1
  simp only [Option.some.injEq,Prod.mk.injEq,Bool.and_eq_true] at h
  obtain ⟨rfl,rfl,rfl,hc,rfl⟩:=h
  subst hg
  obtain ⟨as,e1,k1⟩:=kz p _ _ _ _ h1
  rw [List.append_nil] at e1
  refine ⟨[_],rfl,fun ax W ρ Kn Γ w ht hst ok hok nm=> ?_⟩
  obtain ⟨xs,g1,g2⟩:=k1 ax W ρ Kn Γ w ht hst ok hok nm
  refine ⟨xs,g1,fun aY hr=> ?_⟩
  have h2:=g2 aY hr
  have e2:cap.map (Ref.af ρ)=((aT 0 nm p x1).1.map Hq).map (Ref.af aY):=by
   rw [DR p hc,<- h2,<- e1,List.map_map]
   exact List.map_congr_left fun q _=>(qe ρ q).symm
  simp only [aT,List.map_cons,List.map_nil,AV.af,A0.af,Cell.af,e2]
 | .mv f agg t,args,x,r,tc,h=>by
  simp only [jA] at h
  split at h<;>try (cases h;done)
  rename_i g To rs r'
  split at h<;>try (cases h;done)
  rename_i hg
  split at h<;>try (cases h;done)
  rename_i y uS hd
  cases h
  obtain ⟨rfl,rfl⟩:=hg
  obtain ⟨ys,e,hl,hs⟩:=di hp t _ _ _ _ hd
  rw [List.append_nil] at e
  refine ⟨[_],rfl,fun ax W ρ Kn Γ w ht hst ok hok nm=> ?_⟩
  obtain ⟨xs,h1,h2⟩:=eO _ _ nm (hs ax W ρ Kn Γ w ht hst ok hok)
  refine ⟨xs,h1,fun aY hr=> ?_⟩
  have h3:=h2 aY hr
  have e2:rs.map (Ref.af ρ)=((cl 0 nm (t.aI x)).1.map P6).map (Ref.af aY):=by
   rw [sX,h3,<- e,List.map_map]
   exact List.map_congr_left fun q _=>(mB ρ q).symm
  simp only [aT,List.map_cons,List.map_nil,AV.af,A0.af,Cell.af,e2]
 | .pair a b,args,x,r,tc,h=>by
  simp only [jA] at h
  split at h<;>try (cases h;done)
  rename_i x1 r1 Aa f1 h1
  split at h<;>try (cases h;done)
  rename_i x2 r2 Ew f2 h2
  simp only [Option.some.injEq,Prod.mk.injEq,Bool.and_eq_true] at h
  obtain ⟨rfl,rfl,rfl,rfl,rfl⟩:=h
  obtain ⟨as,e1,k1⟩:=kz a _ _ _ _ h1
  obtain ⟨bs,e2,k2⟩:=kz b _ _ _ _ h2
  refine ⟨as++bs,by rw [e1,e2];simp,fun ax W ρ Kn Γ w ht hst ok hok nm=> ?_⟩
  obtain ⟨xs,g1,g2⟩:=k1 ax W ρ Kn Γ w (fun m hm=>ht m (by simp [hm])) hst ok (hok.sub fun m hm=>by simp [hm]) nm
  obtain ⟨ys,g3,g4⟩:=k2 ax W ρ Kn Γ w (fun m hm=>ht m (by simp [hm])) hst ok (hok.sub fun m hm=>by simp [hm]) (nm+(aT 0 nm a x1).2.length)
  refine ⟨xs++ys,g1.append g3,fun aY hr=> ?_⟩
  have hl:=g1.length
  simp only [aT,List.map_append]
  rw [g2 aY fun i x hi=>hr i x (by rw [List.getElem?_append_left (List.getElem?_eq_some_iff.1 hi).1];exact hi),g4 aY fun i x hi=>by
   have:=hr (xs.length+i) x (by rw [List.getElem?_append_right (by omega)];simpa using hi)
   rwa [<- hl,<- Nat.add_assoc] at this]
 | .none,args,x,r,tc,h=>by
  simp only [jA,Option.some.injEq,Prod.mk.injEq,and_true] at h
  obtain ⟨rfl,rfl,rfl⟩:=h
  exact ⟨[],rfl,fun ax W ρ Kn Γ w ht hst ok hok nm=>⟨[],trivial,fun _ _=>rfl⟩⟩
where EB {b off m:Nat} :(⟨b,off,none⟩:Addr).add m=⟨b,off+m,none⟩:=by unfold Addr.add;split<;>simp_all
theorem bM {ok:Nat->Prop} {w:World} {o:aG} {x:Loc} (h:dg ok w o x): ∃u,∃l:List u.T,o= .row u l 0:=by
 cases o<;>first|exact h.elim|(obtain ⟨rfl,_⟩:=h;exact ⟨_,_,rfl⟩)
theorem rN {h:List aG} {n:Nat} {o:aG} (ho:aj h n=some o):h[n]? =some o:=by
 unfold aj at ho
 split at ho
 ·cases ho
 ·exact ho
theorem St.Tt {ok S:Nat->Prop} {w:World} {os:List aG} {xs:List Loc} (h:bK (dg ok w) os xs) (hok: ∀b,ok b->bg w b/\ ¬S b) (hS: ∀b,S b->b<w.heap.size):
  St zC w (fun n=>xs.getD n {}) (· <(os++ [aG.eZ S]).length) (aj (os++ [aG.eZ S])) w:=by
 have hl:=h.length
 have hx: ∀n o,aj (os++ [aG.eZ S]) n=some o->(dg ok w o (xs.getD n {})/\ n<os.length)\/ (n=os.length/\ o= .eZ S):=fun n o ho=>by
  have h1:=rN ho
  rcases Nat.lt_or_ge n os.length with h2|h2
  ·rw [List.getElem?_append_left h2] at h1
   obtain ⟨x,h3,h4⟩:=h.get n o h1
   exact .inl ⟨by simpa [h3] using h4,h2⟩
  ·rw [List.getElem?_append_right h2] at h1
   have:n- os.length=0:=by
    rcases Nat.eq_zero_or_pos (n- os.length) with h3|h3
    ·exact h3
    ·rw [List.getElem?_eq_none (by simp;omega)] at h1;cases h1
   rw [this] at h1
   simp only [List.getElem?_cons_zero,Option.some.injEq] at h1
   exact .inr ⟨by omega,h1.symm⟩
 have gO: ∀n,(aj (os++ [aG.eZ S]) n).isSome=true->(xs.getD n {}).bt=Option.none/\ (xs.getD n {}).bT= []:=fun n hn=>by
  obtain ⟨o,ho⟩:=Option.isSome_iff_exists.1 hn
  rcases hx n o ho with ⟨h1,_⟩|⟨rfl,_⟩
  ·obtain ⟨u,l,rfl⟩:=bM h1
   exact h1.2.1
  ·simp [List.getD,List.getElem?_eq_none (show xs.length<=os.length by omega)]
 refine ⟨Fr.refl _ _,fun n o ho=> ?_,fun n o ho=> ?_,fun n m b hn hm hb=> ?_,fun n b hn hb=> ?_,fun b ⟨m,S',h1,h2⟩=> ?_,fun n o ho=> .inr (gO n (by rw [ho];rfl)).2⟩
 rotate_right
 ·rcases hx m _ h1 with ⟨h3,_⟩|⟨_,e⟩
  ·obtain ⟨u,l,e⟩:=bM h3
   cases e
  ·cases e
   refine ⟨hS b h2,?_⟩
   rintro ⟨n,h3,h4⟩
   exact nZ (gO n h3) h4
 ·rcases hx n o ho with ⟨hg,_⟩|⟨rfl,rfl⟩
  ·obtain ⟨u,l,rfl⟩:=bM hg
   obtain ⟨_,h1,h2,h3,h4,vals,h5,h6⟩:=hg
   obtain ⟨e1,e2⟩:=jo h5
   have hfz: ∀b,ok b->eo (fun n=>xs.getD n {}) (aj (os++ [aG.eZ S])) w b:=fun b hb=>⟨(hok b hb).1,by
    rintro (⟨m,g1,g2⟩|⟨m,S',g1,g2⟩)
    ·exact nZ (gO m g1) g2
    ·rcases hx m _ g1 with ⟨g3,_⟩|⟨_,e⟩
     ·obtain ⟨u,l,e⟩:=bM g3
      cases e
     ·cases e;exact (hok b hb).2 g2⟩
   refine ⟨h2,h3,h4,pM vals,fun i v hv=> ?_,fun q u' l' hq=> ?_,fun _=>h1.1,fun h=>absurd rfl h⟩
   ·rw [e1] at hv
    obtain ⟨a,g1,g2,g3⟩:=h6 i v hv
    exact ⟨a,g1,g2,fun _=>hfz _ g3⟩
   ·exact (e2 q u' l' hq).weak fun b hb=>⟨hfz b hb,fun h=>by cases h⟩
  ·exact (gO _ (by rw [ho];rfl)).1
 ·rcases hx n o ho with ⟨hg,hlt⟩|⟨rfl,rfl⟩
  ·obtain ⟨u,l,rfl⟩:=bM hg
   exact ⟨by simp;omega,trivial⟩
  ·exact ⟨by simp,trivial⟩
 ·exact (nZ (gO n hn) hb).elim
 ·exact (nZ (gO n hn) hb).elim
theorem uh {h:List aG} : ∀(p:mF) (l:List A0) (y:p.ty.T) (r:List A0),q9 (aj h) p l=some (y,r)->
  ∃ys,l=ys++r/\ ∀ax W ρ Kn w,St ax W ρ Kn (aj h) w-> ∀ok,(∀b,eo ρ (aj h) w b->ok b)->(∀m,(aj h m).isSome=true-> ∀b,(ρ m).has b->bg w b->ok b)-> ∀nm,∃xs,bK (dg ok w) (aT 0 nm p y).2 xs/\
   ∀aY:Env,(∀i x,xs[i]? =some x->aY (nm+i)=x)->ys.map (A0.af ρ)=(aT 0 nm p y).1.map (A0.af aY)
 | .one t,l,y,r,hd=>by
  simp only [q9] at hd
  split at hd<;>try (cases hd;done)
  rename_i c r1
  split at hd<;>try (cases hd;done)
  rename_i x tc h1
  cases hd
  obtain ⟨ys,e,hl,hs⟩:=di _ t _ _ _ _ h1
  rw [List.append_nil] at e
  subst e
  refine ⟨[_],rfl,fun ax W ρ Kn w hst ok hf ho nm=> ?_⟩
  obtain ⟨xs,g1,g2⟩:=eO (ok:=ok) _ _ nm (hs ax W ρ Kn _ w (fun _ _=>rfl) hst ok ⟨hf,fun m _=>ho m⟩)
  refine ⟨xs,g1,fun aY hr=> ?_⟩
  have:=g2 aY hr
  simp only [aT,List.map_cons,List.map_nil]
  simp only [List.map_cons,List.map_nil] at this
  obtain ⟨c',IP,e⟩: ∃c',(cl 0 nm (t.aI y)).1= [c']/\ c'.af aY=c.af ρ:=by
   match hm:(cl 0 nm (t.aI y)).1,this with
   | [c'],h=>simp only [List.map_cons,List.map_nil,List.cons.injEq,and_true] at h;exact ⟨c',rfl,h⟩
   | [],h=>simp at h
   |_::_::_,h=>simp at h
  rw [IP]
  simp only [nH,A0.af,e]
 | .agg t,l,y,r,hd=>by
  simp only [q9] at hd
  split at hd<;>try (cases hd;done)
  rename_i cs r1
  split at hd<;>try (cases hd;done)
  rename_i x tc h1
  cases hd
  obtain ⟨ys,e,hl,hs⟩:=di _ t _ _ _ _ h1
  rw [List.append_nil] at e
  subst e
  refine ⟨[_],rfl,fun ax W ρ Kn w hst ok hf ho nm=> ?_⟩
  obtain ⟨xs,g1,g2⟩:=eO (ok:=ok) _ _ nm (hs ax W ρ Kn _ w (fun _ _=>rfl) hst ok ⟨hf,fun m _=>ho m⟩)
  refine ⟨xs,g1,fun aY hr=> ?_⟩
  have:=g2 aY hr
  simp only [aT,nH,List.map_cons,List.map_nil,A0.af,this]
 | .ptr t,l,y,r,hd=>by simp [q9] at hd
 | .kq f p,l,y,r,hd=>by simp [q9] at hd
 | .mv f agg t,l,y,r,hd=>by simp [q9] at hd
 | .pair a b,l,y,r,hd=>by
  simp only [q9] at hd
  split at hd<;>try (cases hd;done)
  rename_i x1 r1 h1
  split at hd<;>try (cases hd;done)
  rename_i x2 r2 h2
  cases hd
  obtain ⟨ys,e1,k1⟩:=uh a _ _ _ h1
  obtain ⟨zs,e2,k2⟩:=uh b _ _ _ h2
  refine ⟨ys++zs,by rw [e1,e2];simp,fun ax W ρ Kn w hst ok hf ho nm=> ?_⟩
  obtain ⟨xs,g1,g2⟩:=k1 ax W ρ Kn w hst ok hf ho nm
  obtain ⟨us,g3,g4⟩:=k2 ax W ρ Kn w hst ok hf ho (nm+(aT 0 nm a x1).2.length)
  refine ⟨xs++us,g1.append g3,fun aY hr=> ?_⟩
  have hl:=g1.length
  simp only [aT,List.map_append]
  rw [g2 aY fun i x hi=>hr i x (by rw [List.getElem?_append_left (List.getElem?_eq_some_iff.1 hi).1];exact hi),g4 aY fun i x hi=>by
   have:=hr (xs.length+i) x (by rw [List.getElem?_append_right (by omega)];simpa using hi)
   rwa [<- hl,<- Nat.add_assoc] at this]
 | .none,l,y,r,hd=>by
  simp only [q9,Option.some.injEq,Prod.mk.injEq] at hd
  obtain ⟨rfl,rfl⟩:=hd
  exact ⟨[],rfl,fun ax W ρ Kn w hst ok hf ho nm=>⟨[],trivial,fun _ _=>rfl⟩⟩
theorem St.J8 {ax:iV} {W w:World} {ρ:Env} {Kn:Nat->Prop} {Γ:HP} {ok:Nat->Prop} {nm:Nat} {os:List aG} {xs:List Loc} {v:AV} {tc G:List Nat} (h:St ax W ρ Kn Γ w) (hn: ∀i,i<os.length-> ¬Kn (nm+i)) (hg:bK (dg ok w) os xs)
  (hok: ∀b,ok b->bg w b/\ ¬HI Γ b/\ ∀m,m∉G->(Γ m).isSome=true-> ¬(ρ m).has b):
  ∃ρ',(∀m,Kn m->ρ' m=ρ m)/\ (∀i x,xs[i]? =some x->ρ' (nm+i)=x)/\ St ax W ρ' (iQ Kn nm {val:=v,fresh:=os,writes:=G.map fun n=>(n,.gone),az:=tc}) (bB {val:=v,fresh:=os,writes:=G.map fun n=>(n,.gone),az:=tc} nm Γ) w:=by
 have hlen:=hg.length
 let ρ':Env:=fun m=>if nm<=m/\ m<nm+os.length then xs.getD (m- nm) {} else ρ m
 have hold: ∀m,Kn m->ρ' m=ρ m:=fun m hm=>by
  simp only [ρ']
  rw [if_neg]
  rintro ⟨h2,h3⟩
  exact hn (m- nm) (by omega) (by rw [show nm+(m- nm)=m by omega];exact hm)
 have hnew: ∀i x,xs[i]? =some x->ρ' (nm+i)=x:=fun i x hi=>by
  have:=(List.getElem?_eq_some_iff.1 hi).1
  simp only [ρ']
  rw [if_pos (by omega),show nm+i- nm=i by omega]
  simp [hi]
 have bV: ∀m o,bB {val:=v,fresh:=os,writes:=G.map fun n=>(n,.gone),az:=tc} nm Γ m=some o->(∃i x,m=nm+i/\ i<os.length/\ xs[i]? =some x/\ dg ok w o x)\/ (Γ m=some o/\ m∉G/\ Kn m):=by
  intro m o ho
  simp only [bB] at ho
  split at ho
  ·rename_i hc
   have hlt:m- nm<os.length:=by omega
   rw [List.getElem?_eq_getElem hlt] at ho
   obtain ⟨x,h1,h2⟩:=hg.get (m- nm) _ (List.getElem?_eq_getElem hlt)
   obtain ⟨u,l,e⟩:=bM h2
   rw [e] at ho h2
   simp only [live,Option.some.injEq] at ho
   subst ho
   exact .inl ⟨m- nm,x,by omega,hlt,h1,h2⟩
  ·rw [Bf] at ho
   by_cases hm:m∈G
   ·rw [if_pos hm] at ho;simp [live] at ho
   ·rw [if_neg hm] at ho
    exact .inr ⟨ho,hm,(h.kn m o ho).1⟩
 have gO: ∀m b,(bB {val:=v,fresh:=os,writes:=G.map fun n=>(n,.gone),az:=tc} nm Γ m).isSome=true->(ρ' m).has b->(Γ m).isSome=true/\ m∉G/\ (ρ m).has b:=fun m b h1 h2=>by
  obtain ⟨o,ho⟩:=Option.isSome_iff_exists.1 h1
  rcases bV m o ho with ⟨i,x,rfl,_,h3,h4⟩|⟨h3,h4,h5⟩
  ·rw [hnew i x h3] at h2
   obtain ⟨u,l,rfl⟩:=bM h4
   exact (nZ h4.2.1 h2).elim
  ·rw [hold m h5] at h2
   exact ⟨by rw [h3];rfl,h4,h2⟩
 have qG: ∀b,HI (bB {val:=v,fresh:=os,writes:=G.map fun n=>(n,.gone),az:=tc} nm Γ) b->HI Γ b:=fun b ⟨m,S,h1,h2⟩=>by
  rcases bV m _ h1 with ⟨i,x,_,_,_,h4⟩|⟨h3,_,_⟩
  ·obtain ⟨u,l,e⟩:=bM h4
   cases e
  ·exact ⟨m,S,h3,h2⟩
 have hfz: ∀b,eo ρ Γ w b->eo ρ' (bB {val:=v,fresh:=os,writes:=G.map fun n=>(n,.gone),az:=tc} nm Γ) w b/\ w.heap[b]? =w.heap[b]? :=fun b hb=>by
  refine ⟨⟨hb.1,?_⟩,rfl⟩
  rintro (⟨m,h1,h2⟩|hh)
  ·obtain ⟨h3,_,h4⟩:=gO m b h1 h2
   exact hb.2 (.inl ⟨m,h3,h4⟩)
  ·exact hb.2 (.inr (qG b hh))
 have Gq: ∀b,ok b->eo ρ' (bB {val:=v,fresh:=os,writes:=G.map fun n=>(n,.gone),az:=tc} nm Γ) w b:=fun b hb=>by
  obtain ⟨k1,k2,k3⟩:=hok b hb
  refine ⟨k1,?_⟩
  rintro (⟨m,h1,h2⟩|hh)
  ·obtain ⟨h3,h4,h5⟩:=gO m b h1 h2
   exact k3 m h4 h3 h5
  ·exact k2 (qG b hh)
 refine ⟨ρ',hold,hnew,h.fr,fun m o ho=> ?_,fun m o ho=> ?_,fun m m' b hm hm' fg fV=> ?_,fun m b hm hb=> ?_,fun b hh=> ?_,fun m o ho=> ?_⟩
 rotate_right
 ·rcases bV m o ho with ⟨i,x,rfl,hi,h3,h4⟩|⟨h3,_,h5⟩
  ·obtain ⟨u,l,rfl⟩:=bM h4
   exact .inr (by rw [hnew i x h3];exact h4.2.1.2)
  ·rw [hold m h5];exact h.qI m o h3
 ·rcases bV m o ho with ⟨i,x,rfl,hi,h3,h4⟩|⟨h3,_,h5⟩
  ·obtain ⟨u,l,rfl⟩:=bM h4
   obtain ⟨_,g1,g2,g3,g4,vals,g5,g6⟩:=h4
   obtain ⟨e1,e2⟩:=jo g5
   rw [aX,hnew i x h3]
   refine ⟨g2,g3,g4,pM vals,fun i v hv=> ?_,fun q u' l' hq=> ?_,fun _=>g1.1,fun h=>absurd rfl h⟩
   ·rw [e1] at hv
    obtain ⟨a,k1,k2,k3⟩:=g6 i v hv
    exact ⟨a,k1,k2,fun _=>Gq _ k3⟩
   ·exact (e2 q u' l' hq).weak fun b hb=>⟨Gq b hb,fun h=>by cases h⟩
  ·exact ct (Kn:=Kn) (h.at_ m o h3) hold h5 (h.kn m o h3).2 hfz (fun _ _ h=>h) fun _ _=>rfl
 ·rcases bV m o ho with ⟨i,x,rfl,hi,h3,h4⟩|⟨h3,_,h5⟩
  ·obtain ⟨u,l,rfl⟩:=bM h4
   exact ⟨.inr (by simp only [];omega),trivial⟩
  ·exact ⟨.inl h5,aG.aZ (fun _=> .inl) o (h.kn m o h3).2⟩
 ·obtain ⟨h1,_,h2⟩:=gO m b hm fg
  obtain ⟨h3,_,h4⟩:=gO m' b hm' fV
  exact h.cW m m' b h1 h3 h2 h4
 ·obtain ⟨h1,_,h2⟩:=gO m b hm hb
  exact h.jR m b h1 h2
 ·obtain ⟨h1,h2⟩:=h.rH b (qG b hh)
  refine ⟨h1,?_⟩
  rintro ⟨m,h3,h4⟩
  obtain ⟨h5,_,h6⟩:=gO m b h3 h4
  exact h2 ⟨m,h5,h6⟩
theorem BH {v:AV} {l:List A0} (h:jn v=some l):iq l=v:=by
 cases v with
 |v a=>simp only [jn,Option.some.injEq] at h;subst h;rfl
 |oP l'=>
  simp only [jn] at h
  split at h
  ·cases h
  ·rename_i hne
   cases h
   match l,hne with
   | [],_=>rfl
   | [a],hne=>exact absurd rfl (hne a)
   |_::_::_,_=>rfl
 |dead=>simp [jn] at h
theorem sQ {hp:HP} : ∀ {l:List Nat} {n:Nat},n∈rS hp l↔n∈l/\ Ft hp n=true
 | [],n=>by simp [rS]
 |m::r,n=>by
  simp only [rS]
  split
  ·rename_i h
   simp only [List.mem_cons,sQ (l:=r)]
   constructor
   ·rintro (rfl|⟨h1,h2⟩)
    ·exact ⟨.inl rfl,h⟩
    ·exact ⟨.inr h1,h2⟩
   ·rintro ⟨rfl|h1,h2⟩
    ·exact .inl rfl
    ·exact .inr ⟨h1,h2⟩
  ·rename_i h
   simp only [List.mem_cons,sQ (l:=r)]
   constructor
   ·rintro ⟨h1,h2⟩;exact ⟨.inr h1,h2⟩
   ·rintro ⟨rfl|h1,h2⟩
    ·exact absurd h2 h
    ·exact ⟨h1,h2⟩
section
variable {P:Program} {tt:List (Nat×TI)} {specs:List (Nat×Spec)}
theorem av.ZF (hT:br P tt) (hS:ah P specs) (hm:P.follows .mixedOrders=true) {f:FuncId} {fn:Func} (hf:P.funcs[f]? =some fn) (hn:ew (ids (bG fn))=true) (p r:mF) (pre:p.ty.T->Prop) (g:p.ty.T->r.ty.T)
  (h: ∀x,pre x-> ∀S,∃lp dc,aD P fh dc/\ aB P fh (bG fn) lp/\ Vc (ET ⟨tt,specs,fh,lp,[],dc⟩ fn (fH p x) (fW p x++ [.eZ S]) (DW r S (· =g x)))):av P f (sE ⟨p,r,pre,g⟩):=by
 intro X args hp nm k hs
 unfold sE at hs
 split at hs
 rotate_left
 ·exact hs.elim
 rename_i x tc b hd
 obtain ⟨rfl,hpre,hk⟩:=bh hs
 have hk:=hk _ rfl
 obtain ⟨as,e,hargs⟩:=kz p _ _ _ _ hd
 rw [List.append_nil] at e
 subst e
 refine ⟨_,⟨fun q hq=> ?_,?_⟩,hk⟩
 ·obtain ⟨n,kC,rfl⟩:=List.mem_map.1 hq
  have:=(sQ.1 kC).2
  unfold Ft at this
  intro h0
  simp only [h0] at this
  cases this
 intro ax W ρ Kn Γ w _ _ ht hfr hst
 obtain ⟨S,VY⟩: ∃S:Nat->Prop,S=fun b=>HI Γ b\/ ∃m,m∉rS hp tc/\ (Γ m).isSome=true/\ (ρ m).has b:=⟨_,rfl⟩
 have Yk: ∀b,S b->b<w.heap.size:=fun b hb=>by
  rw [VY] at hb
  rcases hb with hb|⟨m,_,h1,h2⟩
  ·exact (hst.rH b hb).1
  ·exact hst.lt m b h1 h2
 have hok:lD (fun b=>bg w b/\ ¬S b) ρ Γ w tc:=by
  refine ⟨fun b hb=>⟨hb.1,fun hs=> ?_⟩,fun m hm h1 b hb hc=>⟨hc,fun hs=> ?_⟩⟩
  ·rw [VY] at hs
   rcases hs with hs|⟨m,_,h1,h2⟩
   ·exact hb.2 (.inr hs)
   ·exact hb.2 (.inl ⟨m,h1,h2⟩)
  ·rw [VY] at hs
   rcases hs with hs|⟨m',h2,h3,h4⟩
   ·exact (hst.rH b hs).2 ⟨m,h1,hb⟩
   ·have:=hst.cW m' m b h3 h1 h4 hb
    subst this
    refine h2 (sQ.2 ⟨hm,?_⟩)
    obtain ⟨o,ho⟩:=Option.isSome_iff_exists.1 h1
    have bz:=hst.at_ m' o ho
    have hb:(ρ m').bt=some b\/ ∃g,o= .set g:=(hst.qI m' o ho).elim .inr fun h=> .inl ((rD h).1 hb)
    rw [ht m' hm] at ho
    unfold Ft
    rw [ho]
    rcases hb with hb|⟨g,rfl⟩
    rotate_left
    ·rfl
    cases o with
    |cells cs e=>rfl
    |row t l rk=>
     obtain ⟨_,_,_,sub,_,_,h5,_⟩:=bz
     by_cases e:rk=0
     ·rw [h5 e] at hb;cases hb
     ·simpa using e
    |alias=>rfl
    |gone=>exact bz.elim
    |loop r' s j=>
     obtain ⟨b',hb',hh⟩:=bz
     rw [hb] at hb';cases hb'
     obtain ⟨_,_,_,h6⟩:=hc
     rw [hh] at h6;cases h6
    |de=>rw [bz.1] at hb;cases hb
    |eZ=>rw [show (ρ m').bt=Option.none from bz] at hb;cases hb
    |map ka va k v l=>
     obtain ⟨_,_,b',es,dI,hb',hh,_⟩:=bz
     rw [hb] at hb';cases hb'
     obtain ⟨_,_,_,h6⟩:=hc
     rw [hh] at h6;cases h6
    |mh ka k u l c q=>
     obtain ⟨_,_,_,b',es,dI,hb',hh,_⟩:=bz
     rw [hb] at hb';cases hb'
     obtain ⟨_,_,_,h6⟩:=hc
     rw [hh] at h6;cases h6
    |set=>rfl
    |gv=>rw [bz.1] at hb;cases hb
    |dp=>rw [bz.1] at hb;cases hb
    |nv=>rw [bz.1] at hb;cases hb
    |rc=>rw [bz.1] at hb;cases hb
    |hmap es dI=>
     obtain ⟨b',hb',hh⟩:=bz
     rw [hb] at hb';cases hb'
     obtain ⟨_,_,_,h6⟩:=hc
     rw [hh] at h6;cases h6
    |sK g c es dI ka k u l cur=>
     obtain ⟨_,_,_,b',_,_,_,hb',hh,_⟩:=bz
     rw [hb] at hb';cases hb'
     obtain ⟨_,_,_,h6⟩:=hc
     rw [hh] at h6;cases h6
 obtain ⟨xs,hg,hc⟩:=hargs ax W ρ Kn Γ w ht hst _ hok 0
 have hb:=St.Tt hg (fun b hb=>hb) Yk
 obtain ⟨lp,dc,hi,hl,hfn⟩:=h x hpre S
 have hcs:=hc (fun n=>xs.getD n {}) fun i y hy=>by simp [hy]
 have key:=iC (ctx:=⟨tt,specs,fh,lp,[],dc⟩) hT ⟨hS,s9.nil P,hi⟩ (fh.ok zC w) hm hf (fun c hc=>by
  have:bG fn=c:=by unfold bG;rw [hc]
  subst this
  exact sO (eU hn) hl) hfn.h (fun y hy=>by
   obtain ⟨a,ha,rfl⟩:=List.mem_map.1 hy
   exact A0.aZ (fun m hm=>by simp [fW] at hm ⊢;omega) a (gH 0 p x 0 a ha)) hb
 have ea:(fH p x).map (AV.af fun n=>xs.getD n {})=args.map (AV.af ρ):=by
  rw [hcs];simp [fH,AV.af,Function.comp_def]
 rw [ea] at key
 refine key.mono ?_
 rintro e w' ⟨st,aY,v,rfl,hv,hR,lY⟩
 unfold DW at hR
 split at hR
 rotate_left
 ·exact hR.elim
 rename_i l rJ
 split at hR
 rotate_left
 ·exact hR.elim
 rename_i y Wd
 obtain ⟨rfl,nh,hh⟩:=yu hR
 obtain ⟨ys,e1,Ot⟩:=uh r _ _ _ Wd
 rw [List.append_nil] at e1
 subst e1
 obtain ⟨us,YG,Yw⟩:=Ot zC w aY _ w' lY (fun b=>bg w' b/\ ¬S b) (fun b hb=>⟨hb.1,fun hs=>hb.2 (.inr ⟨nh,S,hh,hs⟩)⟩) (fun m h1 b h2 h3=>⟨h3,fun hs=>(lY.rH b ⟨nh,S,hh,hs⟩).2 ⟨m,h1,h2⟩⟩) nm
 obtain ⟨ρ',r1,r2,r3⟩:=(hst.called lY.fr).J8 (v:=iq (aT 0 nm r (g x)).1) (tc:=tc) (G:=rS hp tc) (nm:=nm) hfr YG (fun b hb=>by
  refine ⟨hb.1,fun h1=>hb.2 (by rw [VY];exact .inl h1),fun m h1 h2 h3=>hb.2 (by rw [VY];exact .inr ⟨m,h1,h2,h3⟩)⟩)
 refine ⟨ρ',?_,r1,?_,r3⟩
 ·congr 1
  rw [<- BH rJ]
  exact pC (Yw ρ' r2)
 ·exact wC fun c hc=>A0.aZ (fun m hm=> .inr (by simpa using hm)) c (gH 0 r (g x) nm c hc)
end
def NW:iL:=fun _ _ _ _=>False
theorem LN {P:Program} {X:Addr->Value->Prop} {f:FuncId} :iA P X f NW:=fun _ _ _ _ h=>h.elim
end Go.Ev
