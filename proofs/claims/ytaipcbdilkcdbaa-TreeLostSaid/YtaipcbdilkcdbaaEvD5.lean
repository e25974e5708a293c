/- Maps of flat keys and slices of flat elements. -/
import Derived.Test.YtaipcbdilkcdbaaEvD7
noncomputable section
set_option linter.unusedSectionVars false
set_option linter.unusedVariables false
set_option linter.unusedSimpArgs false
namespace Go.Ev
open Go.RowKit
section
variable {ka:Bool} {k u:Ty}
def me (k:Ty) {β:Type} (x:k.T):List (k.T×β)->List pN->List pN
 |p::l,n::r=>match qO k x p.1 with
  |true=>me k x l r
  |false=>n::me k x l r
 |_,_=> []
theorem eu.drop {x:k.T} : ∀(es:List MapEntry) (l:List (k.T×List u.T)) (ns:List pN),eu ka k u none es l ns->eu ka k u (some x) es l (me k x l ns)
 | [],[],[],_=>by unfold me;trivial
 | [],[],n::ns,h=>h.elim
 | [],p::l,_,h=>h.elim
 |e::es,[],_,h=>h.elim
 |e::es,p::l,[],h=>h.2.elim
 |e::es,p::l,n::ns,h=>by
  obtain ⟨h1,h2,h3,h4,h5,h6,h7⟩:=h
  have ih:=eu.drop (x:=x) es l ns h7
  unfold me
  cases hx:qO k x p.1 with
  |true=>exact ⟨h1,by simp only [Ds,hx];exact ih⟩
  |false=>exact ⟨h1,by simp only [Ds,hx];exact ⟨h2,h3,h4,h5,h6,ih⟩⟩
theorem xE {β:Type} {x:k.T} : ∀(l:List (k.T×β)) (ns:List pN),(me k x l ns).Sublist ns
 | [],ns=>by unfold me;exact List.nil_sublist _
 |p::l,[]=>by unfold me;exact List.nil_sublist _
 |p::l,n::ns=>by
  unfold me
  cases qO k x p.1 with
  |true=>exact (xE l ns).trans (List.sublist_cons_self _ _)
  |false=>exact (xE l ns).cons_cons _
theorem xD (hk:k.flat=true) {x:k.T} {e:pN} : ∀(es:List MapEntry) (l:List (k.T×List u.T)) (ns:List pN),eu ka k u none es l ns->e∈me k x l ns->e.key≠⟨k,x⟩
 | [],[],[],_,h=>by unfold me at h;cases h
 | [],[],n::ns,h,_=>h.elim
 | [],p::l,_,h,_=>h.elim
 |e::es,[],_,h,_=>h.elim
 |e::es,p::l,[],h,_=>h.2.elim
 |e::es,p::l,n::ns,h,hm=>by
  obtain ⟨h1,h2,h3,h4,h5,h6,h7⟩:=h
  unfold me at hm
  cases hx:qO k x p.1 with
  |true=>rw [hx] at hm;exact xD hk es l ns h7 hm
  |false=>
   rw [hx] at hm
   rcases List.mem_cons.1 hm with rfl|hm
   ·rw [h2]
    intro q
    have:p.1=x:=eq_of_heq (Sigma.mk.inj q).2
    rw [this,(lf hk x x).2 rfl] at hx;cases hx
   ·exact xD hk es l ns h7 hm
theorem KT: ∀ {ns:List pN},(ns.Pairwise fun e e'=> ∀b,e.bt=some b->e'.bt≠some b)-> ∀ {a c:pN},a∈ns->c∈ns->a≠c-> ∀b,a.bt=some b->c.bt≠some b
 | [],_,_,_,h,_,_=>by cases h
 |n::r,h,a,c,ha,hc,hne=>by
  obtain ⟨h1,h2⟩:=List.pairwise_cons.1 h
  intro b hb hb'
  rcases List.mem_cons.1 ha with ea|ZU
  ·rcases List.mem_cons.1 hc with ec|Rq
   ·exact hne (ea.trans ec.symm)
   ·exact h1 c Rq b (by rw [<- ea];exact hb) hb'
  ·rcases List.mem_cons.1 hc with ec|Rq
   ·exact h1 a ZU b (by rw [<- ec];exact hb') hb
   ·exact KT h2 ZU Rq hne b hb hb'
theorem eu.look {q:Option k.T} : ∀(es:List MapEntry) (l:List (k.T×List u.T)) (ns:List pN),eu ka k u q es l ns-> ∃l2:List (k.T×Value),es.map (fun e=>(e.key,e.val))=td ka k id l2/\ l2.map (·.1)=l.map (·.1)
 | [],[],_,_=>⟨[],rfl,rfl⟩
 | [],p::l,_,h=>h.elim
 |e::es,[],_,h=>h.elim
 |e::es,p::l,ns,h=>by
  obtain ⟨h1,h2⟩:=h
  have: ∃ns',eu ka k u q es l ns':=by
   split at h2
   ·exact ⟨_,h2⟩
   ·split at h2
    ·exact ⟨_,h2.2.2.2.2.2⟩
    ·exact h2.elim
  obtain ⟨ns',h3⟩:=this
  obtain ⟨l2,a1,a2⟩:=eu.look es l ns' h3
  exact ⟨(p.1,e.val)::l2,by simp [td,h1] at a1 ⊢;exact a1,by simp [a2]⟩
theorem Al {β γ:Type} (x:k.T): ∀(l:List (k.T×β)) (l2:List (k.T×γ)) (i:Nat),l2.map (·.1)=l.map (·.1)->(Ak x l2 i).map (·.1)=(Ak x l i).map (·.1)
 | [],[],i,_=>rfl
 |p::l,[],i,h=>by simp at h
 | [],q::l2,i,h=>by simp at h
 |p::l,q::l2,i,h=>by
  simp only [List.map_cons,List.cons.injEq] at h
  unfold Ak
  rw [h.1]
  cases qO k x p.1 with
  |true=>rfl
  |false=>exact Al x l l2 (i+1) h.2
theorem eu.found (hk:k.flat=true) {x:k.T} : ∀(es:List MapEntry) (l:List (k.T×List u.T)) (ns:List pN) (l2:List (k.T×Value)) (i:Nat),eu ka k u none es l ns->es.map (fun e=>(e.key,e.val))=td ka k id l2->l2.map (·.1)=l.map (·.1)->
  match Ak x l2 i with
  |none=>tJ l x=none
  |some (_,v)=> ∃n z,n∈ns/\ tJ l x=some z/\ v= .slice n.base n.len n.cap/\ n.key=⟨k,x⟩/\ n.vals=aJ u z/\ n.len=z.length/\ n.es=u.size
 | [],[],_,l2,i,_,_,h3=>by
  cases l2 with
  |nil=>rfl
  |cons q l2=>simp at h3
 | [],p::l,_,_,_,h,_,_=>h.elim
 |e::es,[],_,_,_,h,_,_=>h.elim
 |e::es,p::l,[],_,_,h,_,_=>h.2.elim
 |e::es,p::l,n::ns,l2,i,h,h2,h3=>by
  obtain ⟨h1,a2,a3,a4,a5,a6,a7⟩:=h
  cases l2 with
  |nil=>simp at h3
  |cons q l2=>
   simp only [td,List.map_cons,List.cons.injEq,Prod.mk.injEq] at h2 h3
   obtain ⟨⟨b1,b2⟩,b3⟩:=h2
   have ih:=eu.found hk (x:=x) es l ns l2 (i+1) a7 b3 h3.2
   unfold Ak tJ
   rw [h3.1]
   cases hx:qO k x p.1 with
   |true=>
    dsimp only
    have e:=(lf hk _ _).1 hx
    exact ⟨n,p.2,by simp,rfl,by rw [<- a3,b2];rfl,by rw [a2,e],a4,a5,a6⟩
   |false=>
    dsimp only
    revert ih
    split
    ·exact id
    ·rintro ⟨n',z,c1,c2⟩
     exact ⟨n',z,by simp [c1],c2⟩
end
section
variable {ax:iV} {W:World} {ρ:Env} {Kn:Nat->Prop} {Γ:HP} {w:World}
theorem U8 {n c m nm n':Nat} {ka:Bool} {k u:Ty} {x:k.T} {l0:List u.T} {l:List (k.T×List u.T)} (h:St ax W ρ Kn Γ w) (hm:Γ m=some (.gv n c k u x l0)) (hn:Γ n=some (.mh ka k u l c none)) (hc:Γ c=some (.set n')) (h1: ¬Kn nm) (h2: ¬Kn (nm+1)):
  ∃ρ',(∀y,Kn y->ρ' y=ρ y)/\ (ρ' (nm+1)).base=(ρ m).base/\ (ρ' (nm+1)).len=(ρ m).len/\ (ρ' (nm+1)).cap=(ρ m).cap/\
   St ax W ρ' (fun y=>Kn y\/ y=nm\/ y=nm+1) (fun y=>if y=nm+1 then some (.row u l0 1) else if y=nm then some (.set n) else if y=c then none else if y=n then some (.mh ka k u l nm (some x)) else Γ y) w:=by
 have kn:=(h.kn n _ hn).1
 have kc:=(h.kn c _ hc).1
 obtain ⟨gk,gu,Vh,b0,es,dI,gb,gh,gr,Mb⟩:=h.at_ n _ hn
 obtain ⟨_,se,sp⟩:=h.at_ c _ hc
 obtain ⟨_,v1,v2,v3,_,v4⟩:=h.at_ m _ hm
 have Yu:c≠n:=by rintro rfl;rw [hn] at hc;cases hc
 obtain ⟨o,oe,o1,o2,o3,o4,ob,om⟩: ∃o:Loc,o.bT= []/\ o.base=(ρ m).base/\ o.len=(ρ m).len/\ o.cap=(ρ m).cap/\ o.es=u.size/\ (∀b,o.bt=some b-> ∃e∈(ρ c).bT,e.bt=some b/\ e.key=⟨k,x⟩)/\ ∀fz pm,lU fz pm w o u l0 1 (fun _=>(none,0)):=by
  have hfl: ∀(sub:Nat->Option Addr×Nat),aA sub 0 (ak u l0)=aJ u l0:=fun sub=>fc gu sub l0
  rcases v4 with ⟨rfl,e2,e3⟩|⟨e,b,e1,e2,e3,e4,e5,e6,e7,e8,e9⟩
  ·refine ⟨{bt:=none,base:=(ρ m).base,len:=(ρ m).len,cap:=(ρ m).cap,es:=u.size},rfl,rfl,rfl,rfl,rfl,fun b hb=>(by cases hb),fun fz pm=>⟨fun i v hv=>(by simp [ak,aA] at hv),fun q u' l' hq=>(by simp [ak] at hq),fun e=>(by cases e),fun _=> .inl ⟨rfl,rfl,e3,fun _=>e2⟩⟩⟩
  ·refine ⟨{bt:=some b,base:=(ρ m).base,len:=(ρ m).len,cap:=(ρ m).cap,es:=u.size},rfl,rfl,rfl,rfl,rfl,fun b' hb=>(by cases hb;exact ⟨e,e1,e2,e3⟩),fun fz pm=> ?_⟩
   rcases se e e1 with ⟨f1,_⟩|⟨b',rest,t,f1,f2,f3,f4,f5⟩
   ·rw [e2] at f1;cases f1
   rw [e2] at f1;cases f1
   have hb:(ρ m).base=some ⟨b,0,none⟩:=by rw [<- e4,e5]
   rw [e8] at f3 f5
   refine ⟨fun i v hv=> ?_,fun q u' l' hq=> ?_,fun e=>(by cases e),fun _=>fS.new (.inr ⟨b,rest,t,rfl,hb,by rw [hfl];exact f3,by rw [hfl];rw [<- e7,<- e9];exact f5⟩)⟩
   ·rw [hfl] at hv
    refine ⟨_,hb,?_,fun e=>by cases e⟩
    have e1:(⟨b,0,none⟩:Addr).add i=⟨b,i,none⟩:=by unfold Addr.add;split<;>simp_all
    rw [e1,bL f3,List.getElem?_append_left (List.getElem?_eq_some_iff.1 hv).1];exact hv
   ·obtain ⟨v,hv⟩:=dn gu (List.mem_of_getElem? hq);cases hv
 let ρ':Env:=fun y=>if y=nm then {bT:=me k x l (ρ c).bT} else if y=nm+1 then o else ρ y
 have r1:ρ' nm= {bT:=me k x l (ρ c).bT} :=by simp [ρ']
 have r2:ρ' (nm+1)=o:=by simp [ρ']
 have r3: ∀y,Kn y->ρ' y=ρ y:=fun y hy=>by
  have a1:y≠nm:=by rintro rfl;exact h1 hy
  have a2:y≠nm+1:=by rintro rfl;exact h2 hy
  simp [ρ',a1,a2]
 have hds:=xE (x:=x) l (ρ c).bT
 have hcs:(Γ c).isSome=true:=by rw [hc];rfl
 have who: ∀y b,((fun y=>if y=nm+1 then some (aG.row u l0 1) else if y=nm then some (.set n) else if y=c then none else if y=n then some (.mh ka k u l nm (some x)) else Γ y) y).isSome=true->(ρ' y).has b->
   (y=nm+1/\ ∃e∈(ρ c).bT,e.bt=some b/\ e.key=⟨k,x⟩)\/ (y=nm/\ ∃e∈me k x l (ρ c).bT,e.bt=some b)\/ (y≠nm+1/\ y≠nm/\ y≠c/\ (Γ y).isSome=true/\ (ρ y).has b):=fun y b hy hb=>by
  dsimp only at hy
  split at hy
  ·rename_i e1;subst e1
   rw [r2] at hb
   exact .inl ⟨rfl,ob b ((rD oe).1 hb)⟩
  ·rename_i e1
   split at hy
   ·rename_i e2;subst e2
    rw [r1] at hb
    rcases hb with hb|⟨e,he,hb⟩
    ·cases hb
    ·exact .inr (.inl ⟨rfl,e,he,hb⟩)
   ·rename_i e2
    split at hy
    ·cases hy
    ·rename_i e3
     have hy2:(Γ y).isSome=true:=by
      split at hy
      ·rename_i e4;rw [e4,hn];rfl
      ·exact hy
     obtain ⟨p,hp⟩:=Option.isSome_iff_exists.1 hy2
     rw [r3 y (h.kn y p hp).1] at hb
     exact .inr (.inr ⟨e1,e2,e3,hy2,hb⟩)
 refine ⟨ρ',r3,by rw [r2,o1],by rw [r2,o2],by rw [r2,o3],h.ql r3 (fun _=> .inl) (fun y b hy hb=> ?_) (fun y z b hy hz hb hb'=> ?_) (fun b ⟨y,S,hy,hS⟩=> ?_) fun y p hp=> ?_⟩
 ·rcases who y b hy hb with ⟨_,e,he,hb,_⟩|⟨_,e,he,hb⟩|⟨_,_,_,h3,h4⟩
  ·exact ⟨c,hcs,.inr ⟨e,he,hb⟩⟩
  ·exact ⟨c,hcs,.inr ⟨e,hds.subset he,hb⟩⟩
  ·exact ⟨y,h3,h4⟩
 ·have key: ∀e e':pN,e∈(ρ c).bT→e.key=⟨k,x⟩→e'∈me k x l (ρ c).bT→e.bt=some b→e'.bt=some b→False:=fun e e' a1 a2 a3 a4 a5=>
   KT sp a1 (hds.subset a3) (fun q=>xD gk _ _ _ gr a3 (by rw [<- q];exact a2)) b a4 a5
  rcases who y b hy hb with ⟨e1,e,he,f1,f2⟩|⟨e1,e,he,f1⟩|⟨e1,e2,e3,h3,h4⟩
  ·rcases who z b hz hb' with ⟨IF,e',he',ER,X4⟩|⟨IF,e',he',ER⟩|⟨IF,VL,TG,IK,Md⟩
   ·rw [e1,IF]
   ·exact (key e e' he f2 he' f1 ER).elim
   ·exact absurd (h.cW z c b IK hcs Md (.inr ⟨e,he,f1⟩)) TG
  ·rcases who z b hz hb' with ⟨IF,e',he',ER,X4⟩|⟨IF,e',he',ER⟩|⟨IF,VL,TG,IK,Md⟩
   ·exact (key e' e he' X4 he ER f1).elim
   ·rw [e1,IF]
   ·exact absurd (h.cW z c b IK hcs Md (.inr ⟨e,hds.subset he,f1⟩)) TG
  ·rcases who z b hz hb' with ⟨IF,e',he',ER,X4⟩|⟨IF,e',he',ER⟩|⟨IF,VL,TG,IK,Md⟩
   ·exact absurd (h.cW y c b h3 hcs h4 (.inr ⟨e',he',ER⟩)) e3
   ·exact absurd (h.cW y c b h3 hcs h4 (.inr ⟨e',hds.subset he',ER⟩)) e3
   ·exact h.cW y z b h3 IK h4 Md
 ·dsimp only at hy
  split at hy
  ·cases hy
  ·split at hy
   ·cases hy
   ·split at hy
    ·cases hy
    ·split at hy
     ·cases hy
     ·exact ⟨y,S,hy,hS⟩
 ·split at hp
  ·rename_i e1;subst e1;cases hp
   exact .inr ⟨.inr (.inr rfl),trivial,.inr (by rw [r2];exact oe),fun _=>by
    rw [aX,r2]
    exact ⟨by rw [o2,v1],o4,by rw [o3];exact v3,_,om _ _⟩⟩
  ·split at hp
   ·rename_i e2;subst e2;cases hp
    refine .inr ⟨.inr (.inl rfl),.inl kn,.inl ⟨_,rfl⟩,fun _=> ?_⟩
    rw [aX,r1]
    exact ⟨rfl,fun e he=>se e (hds.subset he),sp.sublist hds⟩
   ·split at hp
    ·cases hp
    ·split at hp
     ·rename_i e4;subst e4;cases hp
      refine .inr ⟨.inl kn,.inr (.inl rfl),.inr (by rw [r3 _ kn];exact (h.qI _ _ hn).elim (fun ⟨_,e⟩=>by cases e) id),fun _=> ?_⟩
      exact ⟨gk,gu,Vh,b0,es,dI,by rw [r3 _ kn];exact gb,gh,by rw [r1];exact eu.drop _ _ _ gr,Mb⟩
     ·exact .inl hp
end
section
variable {ax:iV} {W:World} {ρ:Env} {Kn:Nat->Prop} {Γ:HP} {w:World}
theorem Is (Γ:HP) (nm:Nat) (v:AV) (o:aG) (tc:List Nat) (ho:live (some o)=some o):bB {val:=v,fresh:= [o],az:=tc} nm Γ=bN Γ nm o:=by
 funext m;simp only [bB,bN,List.length_singleton,bW]
 by_cases h:m=nm
 ·subst h;simpa using ho
 ·have: ¬(nm≤m∧m<nm+1):=by omega
  simp [h,this]
theorem U9 {nm:Nat} {x:Loc} {o:aG} (h:St ax W ρ Kn Γ w) (hn: ¬Kn nm) (hx:x.bt=none) (he:x.bT= []) (hok:o.ok (sM Kn nm)) (hno: ∀S,o≠ .eZ S) (bz: ∀fz pm,aX fz pm (aV ρ nm x) nm o w):
  St ax W (aV ρ nm x) (sM Kn nm) (bN Γ nm o) w:=by
 have jL:aV ρ nm x nm=x:=by simp [aV]
 have hs: ∀y b,(bN Γ nm o y).isSome=true->(aV ρ nm x y).has b->(Γ y).isSome=true/\ (ρ y).has b:=fun y b h1 h2=>by
  unfold bN at h1
  unfold aV at h2
  split at h1
  ·rename_i e;rw [if_pos e] at h2
   have:=(rD he).1 h2
   rw [hx] at this;cases this
  ·rename_i e;rw [if_neg e] at h2;exact ⟨h1,h2⟩
 refine h.ql (cD hn) (fun _=> .inl) (fun y b h1 h2=>⟨y,hs y b h1 h2⟩) (fun y z b h1 h2 h3 h4=>h.cW y z b (hs y b h1 h3).1 (hs z b h2 h4).1 (hs y b h1 h3).2 (hs z b h2 h4).2) (fun b ⟨y,S,h1,h2⟩=> ?_) fun y p hp=> ?_
 ·unfold bN at h1
  split at h1
  ·cases h1;exact absurd rfl (hno S)
  ·exact ⟨y,S,h1,h2⟩
 ·unfold bN at hp
  split at hp
  ·rename_i e;subst e;cases hp;exact .inr ⟨.inr rfl,hok,.inr (by rw [jL];exact he),fun _=>bz _ _⟩
  ·exact .inl hp
end
section
variable {P:Program} {ctx:Ctx} {hp:HP} {nm:Nat} {k:Rec->Prop}
theorem AO {i:TI} {kk:TypeId->TI->Ty->Ty->Prop} (h:VP ctx i kk): ∃kt et ki ei kT uT,i.desc= .map kt et/\ aF ctx.tt kt=some ki/\ aF ctx.tt et=some ei/\ kT.flat=true/\ uT.flat=true/\ ei.zero= .slice none 0 0/\ aE ei.desc=false/\ kk kt ki kT uT:=by
 unfold VP at h
 split at h<;>try (exact h.elim)
 rename_i kt et hd
 split at h<;>try (exact h.elim)
 rename_i ki ei h1 h2
 split at h<;>try (exact h.elim)
 rename_i kT uT h3 h4
 split at h<;>try (exact h.elim)
 rename_i h5
 simp only [Bool.and_eq_true,Bool.not_eq_true'] at h5
 refine ⟨kt,et,ki,ei,kT,uT,hd,h1,h2,h5.1.1.1,h5.1.1.2,?_,h5.2,h⟩
 have:=h5.1.2
 unfold W5 at this
 split at this
 ·assumption
 ·cases this
theorem GN (hT:br P ctx.tt) {t:TypeId} {i:TI} (ht:aF ctx.tt t=some i) {x ix:AV} {ok:Bool} (h:KD ctx i x ix ok hp nm k):
  ∃r,aL P ctx.X hp nm (fun _=>True) (fun ρ=>Instr.lookup t (x.af ρ) (ix.af ρ) ok) (fun ρ=>r.val.af ρ) r/\ k r:=by
 have h0:=AO h
 clear h
 obtain ⟨kt,et,ki,ei,kT,uT,hd,h1,h2,h3,h4,h5,h6,h⟩:=h0
 split at h<;>try (exact h.elim)
 rename_i n
 split at h<;>try (exact h.elim)
 rename_i ka je FG l c hn
 split at h<;>try (exact h.elim)
 rename_i mo
 split at h<;>try (exact h.elim)
 rename_i RA
 obtain ⟨rfl,rfl⟩:=RA
 obtain ⟨rfl,rfl,fF⟩:=mo
 obtain ⟨n',fF⟩:=g9 fF
 split at h<;>try (exact h.elim)
 rename_i a hk
 obtain ⟨hK,_,h⟩:=h
 refine ⟨_,⟨fun p hp=>absurd hp (by simp),?_⟩,h _ rfl⟩
 intro ax W ρ Kn Γ w _ _ dU hfr hst
 have hnm: ¬Kn nm:=by simpa using hfr 0 (by simp)
 have bV:Γ n=some (.mh (aE ki.desc) je FG l c none):=by rw [dU n (by simp),hn]
 have jB:Γ c=some (.set n'):=by rw [dU c (by simp),fF]
 have kn:=(hst.kn n _ bV).1
 have kc:=(hst.kn c _ jB).1
 obtain ⟨_,_,Vh,b,es,dI,hb,hh,gr,Mb⟩:=hst.at_ n _ bV
 obtain ⟨_,se,sp⟩:=hst.at_ c _ jB
 obtain ⟨l2,a1,a2⟩:=eu.look _ _ _ gr
 have hkey:=pz h3 hk w ρ
 have hfind:=nS id hT h1 h3 hK a w es.toList l2 a1
 have CI:=mw hT h1 hK es.isEmpty a w
 have hfound:=eu.found h3 (x:=a) _ _ _ l2 0 gr a1 a2
 have QS:(AV.v (.one (.mp n))).af ρ= .map (some b):=by simp only [AV.af,A0.af,Cell.af,hb]
 have fin: ∀(xl:Loc),xl.bt=none->xl.bT= []->(Instr.lookup t ((AV.v (.one (.mp n))).af ρ) (ix.af ρ) false).run P w= .ok (.slice xl.base xl.len xl.cap) w->(∀fz pm,aX fz pm (aV ρ nm xl) nm (.gv n c je FG a (nV l a [])) w)->
   ∃ρ' w',(Instr.lookup t ((AV.v (.one (.mp n))).af ρ) (ix.af ρ) false).run P w= .ok ((AV.v (.one (.full nm))).af ρ') w'/\ (∀m,Kn m->ρ' m=ρ m)/\ (AV.v (.one (.full nm))).ok (iQ Kn nm {val:= .v (.one (.full nm)),fresh:= [.gv n c je FG a (nV l a [])],az:= [n,c]})/\
    St ax W ρ' (iQ Kn nm {val:= .v (.one (.full nm)),fresh:= [.gv n c je FG a (nV l a [])],az:= [n,c]}) (bB {val:= .v (.one (.full nm)),fresh:= [.gv n c je FG a (nV l a [])],az:= [n,c]} nm Γ) w':=by
  intro xl e1 e2 hrun bz
  refine ⟨aV ρ nm xl,w,?_,cD hnm,.inr ⟨Nat.le_refl _,by simp⟩,?_⟩
  ·rw [hrun]
   simp only [AV.af,A0.af,Cell.af,aV,if_true]
  ·rw [qb,Is _ _ _ _ _ rfl]
   exact U9 hst hnm e1 e2 ⟨.inl kn,.inl kc⟩ (fun _ h=>by cases h) bz
 have jL: ∀xl,aV ρ nm xl nm=xl:=fun xl=>by simp [aV]
 have V6: ∀xl,aV ρ nm xl c=ρ c:=fun xl=>cD hnm c kc
 have hzero:=hT.z h2 w
 rw [h5] at hzero
 cases bz:Ak a l2 0 with
 |none=>
  rw [bz] at hfind hfound
  have e2:nV l a []= []:=by simp [nV,hfound]
  refine fin {es:=FG.size} rfl rfl ?_ fun fz pm=> ?_
  ·rw [QS,hkey]
   simp only [Option.map_none] at hfind
   simp only [Instr.lookup,Sem.run_bind,hT.u ht,hd,Result.andThen_ok,MapKept.run_getObj_map hh,Sem.run_pure,CI,hfind,hzero,Bool.false_eq_true,if_false]
  ·rw [aX,jL,e2]
   exact ⟨rfl,rfl,rfl,Nat.le_refl _,h4,.inl ⟨rfl,rfl,rfl⟩⟩
 |some q=>
  obtain ⟨j,v⟩:=q
  rw [bz] at hfind hfound
  obtain ⟨e,z,f1,f2,f3,f4,f5,f6,f7⟩:=hfound
  have e2:nV l a []=z:=by simp [nV,f2]
  have hrun:(Instr.lookup t ((AV.v (.one (.mp n))).af ρ) (ix.af ρ) false).run P w= .ok (.slice e.base e.len e.cap) w:=by
   rw [QS,hkey]
   simp only [Option.map_some,id] at hfind
   simp only [Instr.lookup,Sem.run_bind,hT.u ht,hd,Result.andThen_ok,MapKept.run_getObj_map hh,Sem.run_pure,CI,hfind,Bool.false_eq_true,if_false,f3]
  refine fin {base:=e.base,len:=e.len,cap:=e.cap,es:=FG.size} rfl rfl hrun fun fz pm=> ?_
  rw [aX,jL,V6,e2]
  rcases se e f1 with ⟨g1,g2,g3,g4,g5⟩|⟨b',rest,Im,g1,g2,g3,g4,g5⟩
  ·have hz:z= []:=List.eq_nil_of_length_eq_zero (by rw [←f6,g5])
   exact ⟨rfl,f6,rfl,by rw [hz];exact Nat.zero_le _,h4,.inl ⟨hz,g4,g3⟩⟩
  ·exact ⟨rfl,f6,rfl,by rw [<- f6];exact g4,h4,.inr ⟨e,b',f1,g1,f4,rfl,g2,rfl,rfl,f5,f7⟩⟩
theorem FU (hT:br P ctx.tt) {t t' e e' ty:TypeId} {ei:TI} (ht:P.underlying t=some (.slice e)) (ht':P.underlying t'=some (.slice e')) (jd:aF ctx.tt e=some ei) {x y:AV} (h:EE x y ei hp nm k):
  ∃r,aL P ctx.X hp nm (fun Kn=>x.ok Kn/\ y.ok Kn) (fun ρ=>Builtin.append_ #[t,t'] ty #[x.af ρ,y.af ρ]) (fun ρ=>r.val.af ρ) r/\ k r:=by
 unfold EE at h
 split at h<;>try (exact h.elim)
 rename_i m
 split at h<;>try (exact h.elim)
 rename_i n c kT uT a l0 hm
 split at h<;>try (exact h.elim)
 rename_i ka je FG l c' hn
 split at h<;>try (exact h.elim)
 rename_i hc
 obtain ⟨rfl,fF,hsz,hby,WK⟩:=hc
 obtain ⟨n',fF⟩:=g9 fF
 split at h<;>try (exact h.elim)
 rename_i RA
 obtain ⟨rfl,rfl⟩:=RA
 split at h<;>try (exact h.elim)
 rename_i p off len cap
 split at h<;>try (exact h.elim)
 rename_i cs et fI
 split at h<;>try (exact h.elim)
 rename_i ys tc0 hys
 obtain ⟨hlen,h⟩:=bh h
 simp only [Bool.and_eq_true,decide_eq_true_eq] at hlen
 refine ⟨_,⟨fun q hq=> ?_,?_⟩,h⟩
 ·simp only [List.mem_cons,List.not_mem_nil,or_false] at hq
  rcases hq with rfl|rfl
  ·rw [hn];simp
  ·rw [fF];simp
 intro ax W ρ Kn Γ w hX hok dU hfr hst
 have QM: ¬Kn nm:=by simpa using hfr 0 (by simp)
 have kC: ¬Kn (nm+1):=hfr 1 (by simp)
 have Kr: ¬Kn (nm+2):=hfr 2 (by simp)
 have rK:Γ m=some (.gv n c' kT uT a l0):=by rw [dU m (by simp),hm]
 have th:Γ n=some (.mh ka kT uT l c' none):=by rw [dU n (by simp),hn]
 have jB:Γ c'=some (.set n'):=by rw [dU c' (by simp),fF]
 have I7:Γ p=some (.cells cs et):=by rw [dU p (by simp),fI]
 have kn:=(hst.kn n _ th).1
 have kc:=(hst.kn c' _ jB).1
 have kp:=(hst.kn p _ I7).1
 have Cy:uT.flat=true:=(hst.at_ n _ th).2.1
 obtain ⟨aY,q1,q2,q3,q4,lY⟩:=U8 hst rK th jB QM kC
 generalize CL:(fun y=>if y=nm+1 then some (aG.row uT l0 1) else if y=nm then some (.set n) else if y=c' then none else if y=n then some (.mh ka kT uT l nm (some a)) else Γ y)=oS at lY
 have g1:oS (nm+1)=some (.row uT l0 1):=by rw [<- CL];simp
 have Nu:p≠n:=by rintro rfl;rw [I7] at th;cases th
 have Wu:p≠c':=by rintro rfl;rw [I7] at jB;cases jB
 have OH:p≠nm:=by rintro rfl;exact QM kp
 have hp1:p≠nm+1:=by rintro rfl;exact kC kp
 have g2:oS p=some (.cells cs et):=by rw [<- CL];simp [Nu,Wu,OH,hp1,I7]
 obtain ⟨Ze,_⟩:=xx (fI:=oS) Cy _ _ _ _ hys
 have Oi:uZ (.v (.one (.full (nm+1)))) (.v (.one (.sl p off len cap))) ei oS (nm+2) fun r=>r= {val:= .v (.one (.full (nm+2))),fresh:= [.row uT (l0++ys) 1],writes:= [(nm+1,.gone)],az:= [nm+1,p]} :=by
  unfold uZ zL
  simp only [g1]
  rw [if_neg (by decide),if_pos ⟨hsz,hby,WK⟩]
  have hd:b8 oS (.sl uT) [.sl p off len cap]=some (ys,[],[p]):=by
   simp only [b8,iG Cy,Bool.true_and,hlen.1,decide_true,if_true,g2,Ze]
  rw [hd]
  simp only [tY,Cy,if_true]
  simp [iT,ob,hlen.2,mP]
 obtain ⟨r,hr,rfl⟩:=yh (P:=P) (ctx:=ctx) (ty:=ty) hT ht ht' jd Oi
 obtain ⟨ρ',w',e1,e2,e3,e4⟩:=hr.2 ax W aY _ oS w hX ⟨.inr (.inr rfl),.inl kp⟩ (fun _ _=>rfl) (fun i hi=>by
  have:i=0:=by simpa using hi
  subst this
  rintro (h1|h1|h1)
  ·exact Kr h1
  ·omega
  ·omega) lY
 have ey:(AV.v (.one (.sl p off len cap))).af aY=(AV.v (.one (.sl p off len cap))).af ρ:=by
  simp only [AV.af,A0.af,Cell.af,addrOf,q1 p kp]
 have ex:(AV.v (.one (.full (nm+1)))).af aY=(AV.v (.one (.full m))).af ρ:=by
  simp only [AV.af,A0.af,Cell.af,q2,q3,q4]
 refine ⟨ρ',w',by have h9:=e1;dsimp only at h9 ⊢;rw [<- ey,<- ex];exact h9,fun y hy=>by rw [e2 y (.inl hy),q1 y hy],.inr (by simp),?_⟩
 have hK: ∀r1:Rec,r1.fresh.length=1-> ∀r2:Rec,r2.fresh.length=3->iQ (fun y=>Kn y\/ y=nm\/ y=nm+1) (nm+2) r1=iQ Kn nm r2:=fun r1 h1 r2 h2=>by
  funext y
  simp only [iQ,h1,h2]
  apply propext
  constructor
  ·rintro ((h|h|h)|h)
   ·exact .inl h
   ·exact .inr (by omega)
   ·exact .inr (by omega)
   ·exact .inr (by omega)
  ·rintro (h|h)
   ·exact .inl (.inl h)
   ·by_cases h3:y=nm
    ·exact .inl (.inr (.inl h3))
    ·by_cases h4:y=nm+1
     ·exact .inl (.inr (.inr h4))
     ·exact .inr (by omega)
 rw [hK _ rfl {val:= .v (.one (.full (nm+2))),fresh:= [.set n,.gone,.row uT (l0++ys) 1],writes:= [(n,.mh ka kT uT l nm (some a)),(c',.gone)],az:= [m,n,c',p]} rfl] at e4
 have hH:bB {val:=AV.v (.one (.full (nm+2))),fresh:= [.row uT (l0++ys) 1],writes:= [(nm+1,.gone)],az:= [nm+1,p]} (nm+2) oS=
   bB {val:= .v (.one (.full (nm+2))),fresh:= [.set n,.gone,.row uT (l0++ys) 1],writes:= [(n,.mh ka kT uT l nm (some a)),(c',.gone)],az:= [m,n,c',p]} nm Γ:=by
  have hnc:n≠c':=by rintro rfl;rw [th] at jB;cases jB
  have IZ:n≠nm/\ n≠nm+1/\ n≠nm+2:=⟨by rintro rfl;exact QM kn,by rintro rfl;exact kC kn,by rintro rfl;exact Kr kn⟩
  have Mg:c'≠nm/\ c'≠nm+1/\ c'≠nm+2:=⟨by rintro rfl;exact QM kc,by rintro rfl;exact kC kc,by rintro rfl;exact Kr kc⟩
  funext y
  simp only [bB,bW,List.length_singleton,List.length_cons,List.length_nil]
  rw [<- CL]
  by_cases y0:y=nm
  ·rw [y0]
   have c1: ¬(nm+2<=nm/\ nm<nm+2+(0+1)):=by omega
   have c2:nm<=nm/\ nm<nm+(0+1+1+1):=by omega
   rw [if_neg c1,if_pos c2]
   simp [live]
  by_cases y1:y=nm+1
  ·rw [y1]
   have c1: ¬(nm+2<=nm+1/\ nm+1<nm+2+(0+1)):=by omega
   have c2:nm<=nm+1/\ nm+1<nm+(0+1+1+1):=by omega
   rw [if_neg c1,if_pos c2]
   simp [live]
  by_cases y2:y=nm+2
  ·rw [y2]
   have c1:nm+2<=nm+2/\ nm+2<nm+2+(0+1):=by omega
   have c2:nm<=nm+2/\ nm+2<nm+(0+1+1+1):=by omega
   rw [if_pos c1,if_pos c2]
   simp [live]
  have c1: ¬(nm+2<=y/\ y<nm+2+(0+1)):=by omega
  have c2: ¬(nm<=y/\ y<nm+(0+1+1+1)):=by omega
  have y1': ¬nm+1=y:=fun q=>y1 q.symm
  simp only [c1,c2,if_false,y0,y1,y1']
  by_cases y3:y=c'
  ·subst y3
   simp [live]
  by_cases y4:y=n
  ·subst y4
   have Zy: ¬c'=y:=fun q=>y3 q.symm
   simp [live,y3,Zy]
  ·have Zy: ¬c'=y:=fun q=>y3 q.symm
   have y4': ¬n=y:=fun q=>y4 q.symm
   simp [y3,y4,Zy,y4']
 rw [hH] at e4
 exact e4
theorem Fe {i:TI} {t:TypeId} (h:GR ctx i nm k): ∃r,aL P ctx.X hp nm (fun _=>True) (fun _=>Instr.makeMap t none) (fun ρ=>r.val.af ρ) r/\ k r:=by
 have h0:=AO h
 clear h
 obtain ⟨kt,et,ki,ei,kT,uT,hd,h1,h2,h3,h4,h5,h6,h⟩:=h0
 refine ⟨_,⟨fun p hp=>absurd hp (by simp),?_⟩,h⟩
 intro ax W ρ Kn Γ w _ _ _ hfr hst
 have hn: ¬Kn nm:=by simpa using hfr 0 (by simp)
 have kC: ¬Kn (nm+1):=hfr 1 (by simp)
 have hsz:=hst.fr.size
 have pO:St ax W (aV ρ nm {bt:=some w.heap.size}) (sM Kn nm) (bN Γ nm (.map false false kT .bool [])) (w.alloc (.map #[] 0)):=by
  refine hst.swap (G:= []) (o:= .map false false kT .bool []) hn (hst.fr.alloc _) (fun b hb _=>Below.heap_alloc _ _ _ hb) (fun b hb=> ?_) (fun m p hp=> ?_) trivial (fun _ h=>by cases h) fun _ _=> ?_
  ·cases hb;exact ⟨.inl (Nat.le_refl _),.inl hsz⟩
  ·unfold bN at hp
   split at hp
   ·rename_i e1;cases hp;exact .inl ⟨e1,rfl⟩
   ·rename_i e1;exact .inr ⟨e1,by simp,hp⟩
  ·exact ⟨h3,rfl,w.heap.size,#[],0,by simp [aV],by show (w.heap.push _)[w.heap.size]? =_;simp,rfl⟩
 generalize WN:aV ρ nm {bt:=some w.heap.size} =aY at pO
 have r0:aY nm= {bt:=some w.heap.size} :=by rw [<- WN];simp [aV]
 have QK: ¬sM Kn nm (nm+1):=by rintro (h|h);exact kC h;omega
 have hold:=cD (ρ:=aY) (x:= {}) QK
 have rn:aV aY (nm+1) {} nm= {bt:=some w.heap.size} :=by rw [hold nm (.inr rfl),r0]
 have Zs:aV aY (nm+1) {} (nm+1)= {} :=by simp [aV]
 have S1:(w.alloc (.map #[] 0)).heap[w.heap.size]? =some (.map #[] 0):=by show (w.heap.push _)[w.heap.size]? =_;simp
 refine ⟨aV aY (nm+1) {},w.alloc (.map #[] 0),?_,fun m hm=>by rw [hold m (.inl hm),<- WN];exact cD hn m hm,.inr (by simp),?_⟩
 ·simp only [AV.af,A0.af,Cell.af,rn];rfl
 have key: ∀y b,(bN (bN Γ nm (.mh (aE ki.desc) kT uT [] (nm+1) none)) (nm+1) (.set nm) y).isSome=true->(aV aY (nm+1) {} y).has b->(bN Γ nm (.map false false kT .bool []) y).isSome=true/\ (aY y).has b:=fun y b ha hb=>by
  by_cases e1:y=nm+1
  ·subst e1
   rw [Zs] at hb
   exact absurd (gU.1 hb) (fun h=>by cases h)
  ·simp only [bN,aV,if_neg e1] at ha hb ⊢
   by_cases e2:y=nm
   ·subst e2;simp only [if_true] at ha ⊢;exact ⟨rfl,hb⟩
   ·simp only [if_neg e2] at ha ⊢;exact ⟨ha,hb⟩
 have xn:St ax W (aV aY (nm+1) {}) (fun y=>Kn y\/ y=nm\/ y=nm+1) (bN (bN Γ nm (.mh (aE ki.desc) kT uT [] (nm+1) none)) (nm+1) (.set nm)) (w.alloc (.map #[] 0)):=by
  refine pO.ql hold (fun y hy=>hy.imp id .inl) (fun y b ha hb=>⟨y,key y b ha hb⟩) (fun y z b ha hb hc hd=>pO.cW y z b (key y b ha hc).1 (key z b hb hd).1 (key y b ha hc).2 (key z b hb hd).2) (fun b ⟨y,S,ha,hb⟩=> ?_) fun y p hp=> ?_
  ·simp only [bN] at ha
   split at ha
   ·cases ha
   ·split at ha
    ·cases ha
    ·rename_i e1 e2
     exact ⟨y,S,by simp only [bN,if_neg e2];exact ha,hb⟩
  ·by_cases e1:y=nm+1
   ·subst e1
    simp only [bN,if_true,Option.some.injEq] at hp
    subst hp
    refine .inr ⟨.inr (.inr rfl),.inr (.inl rfl),.inl ⟨_,rfl⟩,fun _=> ?_⟩
    rw [aX,Zs]
    exact ⟨rfl,fun e he=>(by cases he),List.Pairwise.nil⟩
   ·by_cases e2:y=nm
    ·subst e2
     simp only [bN,if_neg e1,if_true,Option.some.injEq] at hp
     subst hp
     refine .inr ⟨.inr (.inl rfl),.inr (.inr rfl),.inr (by rw [rn]),fun _=> ?_⟩
     exact ⟨h3,h4,List.nodup_nil,w.heap.size,#[],0,by rw [rn],S1,by rw [Zs];exact ⟨trivial,fun x hx=>(by cases hx),List.nodup_nil⟩⟩
    ·left
     simp only [bN,if_neg e1,if_neg e2] at hp ⊢
     exact hp
 have eK:iQ Kn nm {val:= .v (.one (.mp nm)),fresh:= [.mh (aE ki.desc) kT uT [] (nm+1) none,.set nm]} =fun y=>Kn y\/ y=nm\/ y=nm+1:=by
  funext y;simp only [iQ,List.length_cons,List.length_nil];apply propext;constructor
  ·rintro (h|h)
   ·exact .inl h
   ·exact .inr (by omega)
  ·rintro (h|h)
   ·exact .inl h
   ·exact .inr (by omega)
 have eH:bB {val:= .v (.one (.mp nm)),fresh:= [.mh (aE ki.desc) kT uT [] (nm+1) none,.set nm]} nm Γ=bN (bN Γ nm (.mh (aE ki.desc) kT uT [] (nm+1) none)) (nm+1) (.set nm):=by
  funext y
  simp only [bB,bW,List.length_cons,List.length_nil,bN]
  by_cases e1:y=nm+1
  ·rw [e1,if_pos (by omega)];simp [live]
  ·by_cases e2:y=nm
   ·rw [e2,if_pos (by omega)];simp [live]
   ·rw [if_neg (by omega),if_neg e1,if_neg e2]
 rw [eK,eH]
 exact xn
def Bb (k:Ty) {β:Type} (x:k.T) (E:pN):List (k.T×β)->List pN->List pN
 | [],ns=>E::ns
 |p::l,ns=>match qO k x p.1 with
  |true=>E::ns
  |false=>match ns with
   |n::r=>n::Bb k x E l r
   | []=> []
theorem vH {kT:Ty} {β:Type} {x:kT.T} {E e:pN} : ∀(l:List (kT.T×β)) (ns:List pN),e∈Bb kT x E l ns->e=E\/ e∈ns
 | [],ns,h=>by unfold Bb at h;exact List.mem_cons.1 h
 |p::l,ns,h=>by
  unfold Bb at h
  cases hx:qO kT x p.1 with
  |true=>rw [hx] at h;exact List.mem_cons.1 h
  |false=>
   rw [hx] at h
   cases ns with
   |nil=>cases h
   |cons n r=>
    rcases List.mem_cons.1 h with h|h
    ·exact .inr (by simp [h])
    ·exact (vH l r h).imp id fun h=>by simp [h]
theorem Dl {kT:Ty} {β:Type} {x:kT.T} {E:pN} : ∀(l:List (kT.T×β)) (ns:List pN),(ns.Pairwise fun e e'=> ∀b,e.bt=some b->e'.bt≠some b)->(∀e∈ns,∀b,E.bt=some b->e.bt≠some b)->(Bb kT x E l ns).Pairwise fun e e'=> ∀b,e.bt=some b->e'.bt≠some b
 | [],ns,h,hE=>by unfold Bb;exact List.pairwise_cons.2 ⟨fun e he=>hE e he,h⟩
 |p::l,ns,h,hE=>by
  unfold Bb
  cases hx:qO kT x p.1 with
  |true=>exact List.pairwise_cons.2 ⟨fun e he=>hE e he,h⟩
  |false=>
   cases ns with
   |nil=>exact List.Pairwise.nil
   |cons n r=>
    obtain ⟨h1,h2⟩:=List.pairwise_cons.1 h
    refine List.pairwise_cons.2 ⟨fun e he b hb hb'=> ?_,Dl l r h2 fun e he=>hE e (by simp [he])⟩
    rcases vH l r he with rfl|he
    ·exact hE n (by simp) b hb' hb
    ·exact h1 e he b hb hb'
theorem eu.same {ka:Bool} {kT uT:Ty} {x:kT.T} : ∀(es:List MapEntry) (l:List (kT.T×List uT.T)) (ns:List pN),(∀p∈l,qO kT x p.1=false)->eu ka kT uT (some x) es l ns->eu ka kT uT none es l ns
 | [],[],[],_,_=>trivial
 | [],[],n::ns,_,h=>h.elim
 | [],p::l,_,_,h=>h.elim
 |e::es,[],_,_,h=>h.elim
 |e::es,p::l,ns,hl,h=>by
  obtain ⟨h1,h2⟩:=h
  simp only [Ds,hl p (by simp)] at h2
  cases ns with
  |nil=>exact h2.elim
  |cons n r=>
   obtain ⟨a1,a2,a3,a4,a5,a6⟩:=h2
   exact ⟨h1,a1,a2,a3,a4,a5,eu.same es l r (fun p hp=>hl p (by simp [hp])) a6⟩
def Hh (k:Ty) {β:Type} (x:k.T) (f:MapEntry->MapEntry) (new:MapEntry):List MapEntry->List (k.T×β)->List MapEntry
 |e::es,p::l=>match qO k x p.1 with
  |true=>f e::es
  |false=>e::Hh k x f new es l
 |es,_=>es++ [new]
theorem Fv {kT:Ty} {β:Type} {x:kT.T} {f:MapEntry->MapEntry} {new:MapEntry} : ∀(es:List MapEntry) (l:List (kT.T×β)) (i:Nat),es.length=l.length->match Ak x l i with
  |none=>Hh kT x f new es l=es++ [new]
  |some (j,_)=>i<=j/\ Hh kT x f new es l=es.modify (j- i) f
 | [],[],i,_=>rfl
 | [],p::l,i,h=>by simp at h
 |e::es,[],i,h=>by simp at h
 |e::es,p::l,i,h=>by
  have ih:=Fv (x:=x) (f:=f) (new:=new) es l (i+1) (by simpa using h)
  unfold Ak Hh
  cases hx:qO kT x p.1 with
  |true=>exact ⟨Nat.le_refl _,by simp⟩
  |false=>
   dsimp only
   revert ih
   split
   ·intro ih;rw [ih];rfl
   ·rintro ⟨h1,h2⟩
    rename_i j q _
    obtain ⟨d,rfl⟩: ∃d,j=i+1+d:=⟨j- (i+1),by omega⟩
    refine ⟨by omega,?_⟩
    rw [h2,show i+1+d- (i+1)=d by omega,show i+1+d- i=d+1 by omega];rfl
theorem eu.len {ka:Bool} {kT uT:Ty} {q:Option kT.T} : ∀(es:List MapEntry) (l:List (kT.T×List uT.T)) (ns:List pN),eu ka kT uT q es l ns->es.length=l.length
 | [],[],_,_=>rfl
 | [],p::l,_,h=>h.elim
 |e::es,[],_,h=>h.elim
 |e::es,p::l,ns,h=>by
  obtain ⟨_,h2⟩:=h
  have: ∃ns',eu ka kT uT q es l ns':=by
   split at h2
   ·exact ⟨_,h2⟩
   ·split at h2
    ·exact ⟨_,h2.2.2.2.2.2⟩
    ·exact h2.elim
  obtain ⟨ns',h3⟩:=this
  simp [eu.len es l ns' h3]
theorem eu.put {ka:Bool} {kT uT:Ty} (hk:kT.flat=true) {x:kT.T} {z:List uT.T} {E:pN} {f:MapEntry->MapEntry} {new:MapEntry} (h1:E.key=⟨kT,x⟩) (h2:E.vals=aJ uT z) (h3:E.len=z.length) (h4:E.es=uT.size)
  (hf: ∀e,(f e).key=cO ka kT x/\ (f e).val= .slice E.base E.len E.cap) (hn:new.key=cO ka kT x/\ new.val= .slice E.base E.len E.cap): ∀(es:List MapEntry) (l:List (kT.T×List uT.T)) (ns:List pN),(l.map (·.1)).Nodup->eu ka kT uT (some x) es l ns->
  eu ka kT uT none (Hh kT x f new es l) (ni l x z) (Bb kT x E l ns)
 | [],[],[],_,_=>by
  unfold Hh ni Bb
  exact ⟨hn.1,by rw [h1],hn.2,h2,h3,h4,trivial⟩
 | [],[],n::ns,_,h=>h.elim
 | [],p::l,_,_,h=>h.elim
 |e::es,[],_,_,h=>h.elim
 |e::es,p::l,ns,nE,h=>by
  obtain ⟨a1,a2⟩:=h
  simp only [List.map_cons,List.nodup_cons] at nE
  unfold Hh ni Bb
  cases hx:qO kT x p.1 with
  |true=>
   simp only [Ds,hx] at a2
   have ex:=(lf hk _ _).1 hx
   have hno: ∀q∈l,qO kT x q.1=false:=fun q hq=>by
    cases QN:qO kT x q.1 with
    |false=>rfl
    |true=>
     have:=(lf hk _ _).1 QN
     exact absurd (List.mem_map.2 ⟨q,hq,by rw [<- this,ex]⟩) nE.1
   exact ⟨(hf e).1,by rw [h1],(hf e).2,h2,h3,h4,eu.same _ _ _ hno a2⟩
  |false=>
   simp only [Ds,hx] at a2
   cases ns with
   |nil=>exact a2.elim
   |cons n r=>
    obtain ⟨b1,b2,b3,b4,b5,b6⟩:=a2
    exact ⟨a1,b1,b2,b3,b4,b5,eu.put hk h1 h2 h3 h4 hf hn es l r nE.2 b6⟩
theorem DM {kT:Ty} {β:Type} (hk:kT.flat=true) {x:kT.T} {z:β} : ∀(l:List (kT.T×β)),(l.map (·.1)).Nodup->((ni l x z).map (·.1)).Nodup/\ ∀y,y∈(ni l x z).map (·.1)->y=x\/ y∈l.map (·.1)
 | [],_=>by unfold ni;exact ⟨by simp,fun y hy=> .inl (by simpa using hy)⟩
 |p::l,h=>by
  simp only [List.map_cons,List.nodup_cons] at h
  unfold ni
  cases hx:qO kT x p.1 with
  |true=>
   have ex:=(lf hk _ _).1 hx
   subst ex
   exact ⟨by simpa using h,fun y hy=> .inr hy⟩
  |false=>
   obtain ⟨i1,i2⟩:=DM hk (x:=x) (z:=z) l h.2
   refine ⟨?_,fun y hy=> ?_⟩
   ·simp only [List.map_cons,List.nodup_cons]
    refine ⟨fun hm=> ?_,i1⟩
    rcases i2 _ hm with e|e
    ·rw [(lf hk x p.1).2 e.symm] at hx;cases hx
    ·exact h.1 e
   ·simp only [List.map_cons,List.mem_cons] at hy ⊢
    rcases hy with hy|hy
    ·exact .inr (.inl hy)
    ·exact (i2 y hy).imp id .inr
theorem Bm (hT:br P ctx.tt) {t:TypeId} {i:TI} (ht:aF ctx.tt t=some i) {x ix v:AV} (h:Bl ctx i x ix v hp nm k):
  ∃r,aL P ctx.X hp nm (fun _=>True) (fun ρ=>Instr.mapUpdate t (x.af ρ) (ix.af ρ) (v.af ρ)) (fun _=>()) r/\ k r/\ r.val=aW:=by
 have h0:=AO h
 clear h
 obtain ⟨kt,et,ki,ei,kT,uT,hd,h1,h2,h3,h4,h5,h6,h⟩:=h0
 split at h<;>try (exact h.elim)
 rename_i n m
 split at h<;>try (exact h.elim)
 rename_i ka je FG l c a0 Im l2 rk hn hm
 split at h<;>try (exact h.elim)
 rename_i mo
 split at h<;>try (exact h.elim)
 rename_i RA
 obtain ⟨rfl,rfl⟩:=RA
 obtain ⟨rfl,fF,mW,I4⟩:=mo
 obtain ⟨n',fF⟩:=g9 fF
 split at h<;>try (exact h.elim)
 rename_i a z hk hz
 obtain ⟨hK,rfl,_,h⟩:=h
 obtain ⟨e,hz2⟩:=cK hz
 subst e
 dsimp only at hz2
 subst hz2
 refine ⟨_,⟨fun q hq=> ?_,?_⟩,h _ rfl,rfl⟩
 ·simp only [List.mem_cons,List.not_mem_nil,or_false] at hq
  rcases hq with rfl|rfl|rfl
  ·rw [hn];simp
  ·rw [fF];simp
  ·rw [hm];simp
 intro ax W ρ Kn Γ w hX hok dU hfr hst
 have QM: ¬Kn nm:=by simpa using hfr 0 (by simp)
 have th:Γ n=some (.mh (aE ki.desc) je Im l c (some a)):=by rw [dU n (by simp),hn]
 have jB:Γ c=some (.set n'):=by rw [dU c (by simp),fF]
 have rK:Γ m=some (.row Im l2 rk):=by rw [dU m (by simp),hm]
 have kn:=(hst.kn n _ th).1
 have kc:=(hst.kn c _ jB).1
 have km:=(hst.kn m _ rK).1
 have hnc:n≠c:=by rintro rfl;rw [th] at jB;cases jB
 have hnm:n≠m:=by rintro rfl;rw [th] at rK;cases rK
 have V4:c≠m:=by rintro rfl;rw [jB] at rK;cases rK
 obtain ⟨_,_,Vh,b,es,dI,hb,hh,gr,Mb⟩:=hst.at_ n _ th
 obtain ⟨_,se,sp⟩:=hst.at_ c _ jB
 obtain ⟨m1,m2,m3,sub,_,_,_,m4⟩:=hst.at_ m _ rK
 have m4:=(m4 mW).old I4
 rw [fc h4] at m4
 let E:pN:= {key:=⟨je,a⟩,bt:=(ρ m).bt,base:=(ρ m).base,len:=(ρ m).len,cap:=(ρ m).cap,es:=Im.size,vals:=aJ Im l2}
 have Yg:yd w E:=by
  rcases m4 with ⟨f1,f2,f3,f4⟩|⟨b',rest,t',f1,f2,f3,f4⟩
  ·exact .inl ⟨f1,by simp [E,f2,aJ,ak],f3,f4,by simp [E,m1,f2]⟩
  ·exact .inr ⟨b',rest,t',f1,f2,f3,by show (ρ m).len<=(ρ m).cap;rw [m1];exact m3,f4⟩
 have hcs:(Γ c).isSome=true:=by rw [jB];rfl
 have Uf:(Γ m).isSome=true:=by rw [rK];rfl
 let ns':=Bb je a E l (ρ c).bT
 let aY:=aV ρ nm {bT:=ns'}
 have r1:aY nm= {bT:=ns'} :=by simp [aY,aV]
 have r2: ∀y,Kn y->aY y=ρ y:=cD QM
 let oS:HP:=fun y=>if y=nm then some (.set n) else if y=c then none else if y=m then none else Γ y
 have who: ∀y q,(oS y).isSome=true->(aY y).has q->(y=nm/\ ((ρ m).bt=some q\/ ∃e∈(ρ c).bT,e.bt=some q))\/ (y≠nm/\ y≠c/\ y≠m/\ (Γ y).isSome=true/\ (ρ y).has q):=fun y q hy hq=>by
  simp only [oS] at hy
  split at hy
  ·rename_i e1;subst e1
   rw [r1] at hq
   rcases hq with hq|⟨e,he,hq⟩
   ·cases hq
   ·rcases vH _ _ he with rfl|he
    ·exact .inl ⟨rfl,.inl hq⟩
    ·exact .inl ⟨rfl,.inr ⟨e,he,hq⟩⟩
  ·rename_i e1
   split at hy
   ·cases hy
   ·rename_i e2
    split at hy
    ·cases hy
    ·rename_i e3
     obtain ⟨p,hp⟩:=Option.isSome_iff_exists.1 hy
     rw [r2 y (hst.kn y p hp).1] at hq
     exact .inr ⟨e1,e2,e3,hy,hq⟩
 have pO:St ax W aY (sM Kn nm) oS w:=by
  refine hst.ql r2 (fun _=> .inl) (fun y q hy hq=> ?_) (fun y y' q hy hy' hq uq=> ?_) (fun q ⟨y,S,hy,hS⟩=> ?_) fun y p hp=> ?_
  ·rcases who y q hy hq with ⟨_,h7|h7⟩|⟨_,_,_,h7,h8⟩
   ·exact ⟨m,Uf,.inl h7⟩
   ·exact ⟨c,hcs,.inr h7⟩
   ·exact ⟨y,h7,h8⟩
  ·have hto: ∀y,(Γ y).isSome=true→(ρ y).has q→((ρ m).bt=some q∨ ∃e∈(ρ c).bT,e.bt=some q)→y=m∨y=c:=fun y h7 h8 h9=>by
    rcases h9 with h9|h9
    ·exact .inl (hst.cW y m q h7 Uf h8 (.inl h9))
    ·exact .inr (hst.cW y c q h7 hcs h8 (.inr h9))
   rcases who y q hy hq with ⟨e1,h7⟩|⟨e1,e2,e3,h7,h8⟩
   ·rcases who y' q hy' uq with ⟨IF,Vj⟩|⟨IF,VL,TG,Vj,Yc⟩
    ·rw [e1,IF]
    ·rcases hto y' Vj Yc h7 with h9|h9
     ·exact absurd h9 TG
     ·exact absurd h9 VL
   ·rcases who y' q hy' uq with ⟨IF,Vj⟩|⟨IF,VL,TG,Vj,Yc⟩
    ·rcases hto y h7 h8 Vj with h9|h9
     ·exact absurd h9 e3
     ·exact absurd h9 e2
    ·exact hst.cW y y' q h7 Vj h8 Yc
  ·simp only [oS] at hy
   split at hy
   ·cases hy
   ·split at hy
    ·cases hy
    ·split at hy
     ·cases hy
     ·exact ⟨y,S,hy,hS⟩
  ·simp only [oS] at hp
   split at hp
   ·rename_i e1;subst e1;cases hp
    refine .inr ⟨.inr rfl,.inl kn,.inl ⟨_,rfl⟩,fun _=> ?_⟩
    rw [aX,r1]
    refine ⟨rfl,fun e he=> ?_,Dl _ _ sp fun e he q hq uq=> ?_⟩
    ·rcases vH _ _ he with rfl|he
     ·exact Yg
     ·exact se e he
    ·exact V4 (hst.cW c m q hcs Uf (.inr ⟨e,he,uq⟩) (.inl hq))
   ·split at hp
    ·cases hp
    ·split at hp
     ·cases hp
     ·exact .inl hp
 have IZ:n≠nm:=by rintro rfl;exact QM kn
 have OQ:oS n=some (.mh (aE ki.desc) je Im l c (some a)):=by simp only [oS];rw [if_neg IZ,if_neg hnc,if_neg hnm];exact th
 have fg:(aY n).bt=some b:=by rw [r2 n kn];exact hb
 obtain ⟨l3,a1,a2⟩:=eu.look _ _ _ gr
 have hkey:=pz h3 hk w ρ
 have hfind:=nS id hT h1 h3 hK a w es.toList l3 a1
 have CI:=mw hT h1 hK false a w
 have QS:(AV.v (.one (.mp n))).af ρ= .map (some b):=by simp only [AV.af,A0.af,Cell.af,hb]
 have hvc:(AV.v (.one (.full m))).af ρ= .slice (ρ m).base (ρ m).len (ρ m).cap:=rfl
 have hlt:b<w.heap.size:=(Array.getElem?_eq_some_iff.1 hh).1
 have hown:=hst.own n b (by simp [th]) hb
 have A3:es.toList.length=l3.length:=by
  have h9:=congrArg List.length a1
  unfold td at h9
  rw [List.length_map,List.length_map] at h9
  exact h9
 have A4:es.toList.length=l.length:=eu.len _ _ _ gr
 let f:MapEntry->MapEntry:=fun e=> {e with key:=cO (aE ki.desc) je a,val:= .slice (ρ m).base (ρ m).len (ρ m).cap}
 let new:MapEntry:= {key:=cO (aE ki.desc) je a,val:= .slice (ρ m).base (ρ m).len (ρ m).cap,born:=dI}
 have Ya:=eu.put (ka:=aE ki.desc) h3 (x:=a) (z:=l2) (E:=E) (f:=f) (new:=new) rfl rfl m1 rfl (fun _=>⟨rfl,rfl⟩) ⟨rfl,rfl⟩ _ _ _ Vh gr
 have fin: ∀(es':Array MapEntry) (ko:Nat),es'.toList=Hh je a f new es.toList l->XX es' ko->
   (Instr.mapUpdate t ((AV.v (.one (.mp n))).af ρ) (ix.af ρ) ((AV.v (.one (.full m))).af ρ)).run P w= .ok () {w with heap:=w.heap.setIfInBounds b (.map es' ko)} ->
   ∃ρ' w',(Instr.mapUpdate t ((AV.v (.one (.mp n))).af ρ) (ix.af ρ) ((AV.v (.one (.full m))).af ρ)).run P w= .ok () w'/\ (∀m,Kn m->ρ' m=ρ m)/\ aW.ok (iQ Kn nm {val:=aW,fresh:= [.set n],writes:= [(n,.mh (aE ki.desc) je Im (ni l a l2) nm none),(c,.gone),(m,.gone)],az:= [n,c,m]})/\
    St ax W ρ' (iQ Kn nm {val:=aW,fresh:= [.set n],writes:= [(n,.mh (aE ki.desc) je Im (ni l a l2) nm none),(c,.gone),(m,.gone)],az:= [n,c,m]}) (bB {val:=aW,fresh:= [.set n],writes:= [(n,.mh (aE ki.desc) je Im (ni l a l2) nm none),(c,.gone),(m,.gone)],az:= [n,c,m]} nm Γ) w':=by
  intro es' ko Rt Y7 hrun
  refine ⟨aY,_,hrun,r2,qD _,?_⟩
  have eK:iQ Kn nm {val:=aW,fresh:= [.set n],writes:= [(n,.mh (aE ki.desc) je Im (ni l a l2) nm none),(c,.gone),(m,.gone)],az:= [n,c,m]} =sM Kn nm:=by
   funext y;simp only [iQ,sM,List.length_singleton];congr 1;apply propext;omega
  have eH:bB {val:=aW,fresh:= [.set n],writes:= [(n,.mh (aE ki.desc) je Im (ni l a l2) nm none),(c,.gone),(m,.gone)],az:= [n,c,m]} nm Γ=bN oS n (.mh (aE ki.desc) je Im (ni l a l2) nm none):=by
   funext y
   simp only [bB,bW,List.length_singleton,bN,oS]
   by_cases e0:y=nm
   ·rw [e0,if_pos (by omega),if_neg (Ne.symm IZ)];simp [live]
   ·rw [if_neg (by omega)]
    by_cases e1:y=m
    ·have hm0:m≠nm:=fun q=>e0 (e1.trans q)
     rw [e1]
     simp [live,hnm,Ne.symm hnm,V4,Ne.symm V4,hm0]
    ·by_cases e2:y=c
     ·have hc0:c≠nm:=fun q=>e0 (e2.trans q)
      rw [e2]
      simp [live,hnc,Ne.symm hnc,V4,Ne.symm V4,hc0]
     ·by_cases e3:y=n
      ·subst e3;simp [live,Ne.symm e1,Ne.symm e2]
      ·simp [Ne.symm e1,Ne.symm e2,Ne.symm e3,e0,e1,e2,e3]
  rw [eK,eH]
  have A5:=MapKept.heap_set (o':=Obj.map es' ko) hh
  refine pO.J5 OQ fg (.inr rfl) (fun _ h=>by cases h) ⟨hst.fr.os,hst.fr.tape,hst.fr.output,by simpa using hst.fr.size,fun k hk hnb=> ?_,hst.fr.FJ⟩ (fun b' hne=>A5.2 b' hne) (by simp) fun _=> ?_
  ·have hne:k≠b:=by
    rintro rfl
    rcases hown with h|h
    ·omega
    ·exact hnb h
   rw [<- hst.fr.block k hk hnb]
   exact A5.2 k hne
  ·refine ⟨h3,h4,(DM h3 l Vh).1,b,es',ko,fg,A5.1,?_,Y7⟩
   rw [Rt,r1]
   exact Ya
 cases bz:Ak a l3 0 with
 |none=>
  rw [bz] at hfind
  simp only [Option.map_none] at hfind
  have hp1:=Fv (x:=a) (f:=f) (new:=new) es.toList l 0 A4
  have hkk:=Al a l l3 0 a2
  rw [bz] at hkk
  cases lX:Ak a l 0 with
  |some q=>rw [lX] at hkk;cases hkk
  |none=>
   rw [lX] at hp1
   refine fin (es.push new) (dI+1) ?_ ?_ ?_
   ·rw [hp1];simp
   ·obtain ⟨s1,s2⟩:=Mb
    refine ⟨fun x hx=> ?_,?_⟩
    ·rw [Array.toList_push] at hx
     rcases List.mem_append.1 hx with hx|hx
     ·have:=s1 x hx;omega
     ·simp only [List.mem_singleton] at hx
      subst hx
      exact Nat.lt_succ_self _
    ·rw [Array.toList_push,List.map_append,List.nodup_append]
     refine ⟨s2,by simp,fun x hx y hy=> ?_⟩
     simp only [List.map_cons,List.map_nil,List.mem_singleton] at hy
     obtain ⟨z,hz,rfl⟩:=List.mem_map.1 hx
     have:=s1 z hz
     rw [hy]
     exact Nat.ne_of_lt this
   ·rw [QS,hkey,hvc]
    simp only [Instr.mapUpdate,Sem.run_bind,hT.u ht,hd,Result.andThen_ok,MapKept.run_getObj_map hh,CI,hfind,MapKept.run_setObj_map _ hh]
    rfl
 |some q=>
  obtain ⟨j,q2⟩:=q
  rw [bz] at hfind
  simp only [Option.map_some,id] at hfind
  have hkk:=Al a l l3 0 a2
  rw [bz] at hkk
  have hp1:=Fv (x:=a) (f:=f) (new:=new) es.toList l 0 A4
  cases lX:Ak a l 0 with
  |none=>rw [lX] at hkk;cases hkk
  |some q'=>
   obtain ⟨j',Xg⟩:=q'
   rw [lX] at hkk hp1
   simp only [Option.map_some,Option.some.injEq] at hkk
   subst hkk
   simp only [Nat.sub_zero,Nat.zero_le,true_and] at hp1
   have hput:=EG a q2 l3 0
   rw [bz] at hput
   obtain ⟨_,p,hp2,YS,_⟩:=hput
   rw [Nat.sub_zero] at hp2
   have Vr:a=p.1:=(lf h3 _ _).1 YS
   have hj: ∃e,es.toList[j]? =some e/\ e.key=cO (aE ki.desc) je a:=by
    have:(es.toList.map (fun e=>(e.key,e.val)))[j]? =some (cO (aE ki.desc) je p.1,p.2):=by
     rw [a1];unfold td;rw [List.getElem?_map,hp2];rfl
    rw [List.getElem?_map] at this
    obtain ⟨e,Gp,vy⟩:=Option.map_eq_some_iff.1 this
    exact ⟨e,Gp,by rw [Vr];exact congrArg Prod.fst vy⟩
   obtain ⟨e,Gp,vy⟩:=hj
   have YA:es[j]? =some e:=by rw [<- Array.getElem?_toList];exact Gp
   have OM:(Instr.keyThatStays (((es[j]?).map (·.key)).getD (cO (aE ki.desc) je a)) (cO (aE ki.desc) je a)).run P w= .ok (cO (aE ki.desc) je a) w:=by
    rw [YA]
    simp only [Option.map_some,Option.getD_some,vy,Instr.keyThatStays]
    rw [if_pos (tP h3 _ _ 9999 (Lq hT h1 hK a w))]
    rfl
   refine fin (es.modify j f) dI ?_ ?_ ?_
   ·rw [hp1];simp
   ·obtain ⟨s1,s2⟩:=Mb
    have QI:(es.modify j f).toList.map (·.born)=es.toList.map (·.born):=by
     rw [Array.toList_modify]
     apply List.ext_getElem?
     intro k
     rw [List.getElem?_map,List.getElem?_map,List.getElem?_modify]
     cases es.toList[k]? with
     |none=>rfl
     |some z=>simp only [Option.map_some];split<;>rfl
    refine ⟨fun x hx=> ?_,by rw [QI];exact s2⟩
    have:x.born∈es.toList.map (·.born):=by rw [<- QI];exact List.mem_map.2 ⟨x,hx,rfl⟩
    obtain ⟨z,hz,e⟩:=List.mem_map.1 this
    rw [<- e];exact s1 z hz
   ·rw [QS,hkey,hvc]
    simp only [Instr.mapUpdate,Sem.run_bind,hT.u ht,hd,Result.andThen_ok,MapKept.run_getObj_map hh,CI,hfind,OM,MapKept.run_setObj_map _ hh]
    rfl
theorem EI (hT:br P ctx.tt) {b:Builtin} {SK:Array TypeId} {args:List AV} (h:Ar ctx b SK.toList args hp nm k) (ty:TypeId) (cs:Array Bool):
  ∃r,aL P ctx.X hp nm (fun Kn=> ∀x∈args,x.ok Kn) (fun ρ=>builtin b SK ty cs (args.map (AV.af ρ)).toArray) (fun ρ=> .value (r.val.af ρ)) r/\ k r:=by
 unfold Ar at h
 split at h
 ·rename_i x
  split at h
  ·rename_i t r OO
   split at h
   ·rename_i i hi
    have Vu:SK[0]? =some t:=by rw [<- Array.getElem?_toList,OO];rfl
    split at h
    ·rename_i hd
     refine ⟨_,aL.pure ?_,h⟩
     intro ax W ρ Kn Γ w _ _ _ _
     exact ⟨by simp [AV.af,A0.af,Cell.af,builtin,Builtin.len_,Vu,hT.u hi,hd,goInt,fG],trivial⟩
    ·rename_i e0 p0 hd
     split at h
     ·obtain ⟨n,c,j,q,t',l,st,kn,u,y,g,hm,hn,hc,hj,hq,h⟩:=ou h
      refine ⟨_,aL.pure ?_,h⟩
      intro ax W ρ Kn Γ w _ _ dU hst
      obtain ⟨_,g4,_⟩:=KM hst (by rw [dU p0 (by simp),hm]) (by rw [dU n (by simp),hn]) (by rw [dU c (by simp),hc]) hj hq
      exact ⟨by simp [AV.af,A0.af,Cell.af,builtin,Builtin.len_,Vu,hT.u hi,hd,goInt,fG,g4],trivial⟩
     obtain ⟨m,s,q,u,l,rk,len,tc,he,h,Dg,OE,_,_,_,_,_,hall⟩:=ov h
     refine ⟨_,aL.pure ?_,h⟩
     intro ax W ρ Kn Γ w _ _ dU hst
     obtain ⟨_,_,_,g4,_⟩:=hall ax W ρ Kn Γ w dU hst
     exact ⟨by simp [AV.af,A0.af,Cell.af,builtin,Builtin.len_,Vu,hT.u hi,hd,goInt,fG,g4],trivial⟩
    ·rename_i hd
     refine ⟨_,aL.pure ?_,h⟩
     intro ax W ρ Kn Γ w _ _ _ _
     exact ⟨by simp [AV.af,A0.af,Cell.af,builtin,Builtin.len_,Vu,hT.u hi,hd,goInt,fG],trivial⟩
    ·rename_i hd
     refine ⟨_,aL.pure ?_,h⟩
     intro ax W ρ Kn Γ w _ _ _ _
     exact ⟨by simp [AV.af,A0.af,Cell.af,builtin,Builtin.len_,Vu,hT.u hi,hd,goInt,fG],trivial⟩
    ·rename_i kt et n hd
     split at h<;>try (exact h.elim)
     rename_i ka va k0 v0 l hn
     refine ⟨_,aL.pure ?_,h⟩
     intro ax W ρ Kn Γ w _ _ dU hst
     obtain ⟨_,_,b,es,dI,hb,hh,he⟩:=hst.at_ n _ (by rw [dU n (by simp),hn])
     have hlen:es.size=l.length:=by have:=congrArg List.length he;simpa using this
     exact ⟨by simp [AV.af,A0.af,Cell.af,builtin,Builtin.len_,Vu,hT.u hi,hd,goInt,fG,hb,MapKept.run_getObj_map hh,hlen],trivial⟩
    ·exact h.elim
   ·exact h.elim
  ·exact h.elim
 ·rename_i kk a r
  split at h
  ·rename_i n hn
   refine ⟨_,aL.pure ?_,h⟩
   intro ax W ρ Kn Γ w _ _ _ _
   have:=p8 (P:=P) iI Builtin.min2 (fun kk x k' y w=>by simp [Builtin.min2,iI]) ρ kk r a n hn w
   refine ⟨?_,trivial⟩
   simp [AV.af,A0.af,Cell.af,builtin,Builtin.min_,fG] at this ⊢
   rw [this];rfl
  ·exact h.elim
 ·rename_i kk a r
  split at h
  ·rename_i n hn
   refine ⟨_,aL.pure ?_,h⟩
   intro ax W ρ Kn Γ w _ _ _ _
   have:=p8 (P:=P) dJ Builtin.max2 (fun kk x k' y w=>by simp [Builtin.max2,dJ]) ρ kk r a n hn w
   refine ⟨?_,trivial⟩
   simp [AV.af,A0.af,Cell.af,builtin,Builtin.max_,fG] at this ⊢
   rw [this];rfl
  ·exact h.elim
 ·rename_i x y
  split at h
  rotate_left
  ·exact h.elim
  rename_i t t' OO
  split at h
  rotate_left
  ·exact h.elim
  rename_i i i' hi hi'
  split at h
  rotate_left
  ·exact h.elim
  rename_i e e' hd hd'
  split at h
  rotate_left
  ·exact h.elim
  rename_i ei jd
  have key: ∃r,aL P ctx.X hp nm (fun Kn=>x.ok Kn/\ y.ok Kn) (fun ρ=>Builtin.append_ #[t,t'] ty #[x.af ρ,y.af ρ]) (fun ρ=>r.val.af ρ) r/\ k r:=by
   split at h
   ·exact FU (ty:=ty) (nm:=nm) hT (by rw [(hT t i hi).1,hd]) (by rw [(hT t' i' hi').1,hd']) jd h
   ·exact yh (ty:=ty) (nm:=nm) hT (by rw [(hT t i hi).1,hd]) (by rw [(hT t' i' hi').1,hd']) jd h
  obtain ⟨r,hr,hk⟩:=key
  refine ⟨r,⟨hr.1,fun ax W ρ Kn Γ w hX hok ht hf hst=> ?_⟩,hk⟩
  obtain ⟨ρ',w',h1,h2⟩:=hr.2 ax W ρ Kn Γ w hX ⟨hok x (by simp),hok y (by simp)⟩ ht hf hst
  refine ⟨ρ',w',?_,h2⟩
  have et:SK= #[t,t']:=by apply Array.ext';rw [OO]
  subst et
  simp only [List.map_cons,List.map_nil,builtin,Sem.run_bind]
  rw [h1];rfl
 ·rename_i x y
  split at h
  rotate_left
  ·exact h.elim
  rename_i t t' OO
  split at h
  rotate_left
  ·exact h.elim
  rename_i i hi
  split at h
  rotate_left
  ·exact h.elim
  rename_i e hd
  split at h
  rotate_left
  ·exact h.elim
  rename_i ei jd
  obtain ⟨r,hr,hk⟩:=LL (ty:=ty) (t':=t') (nm:=nm) hT (by rw [(hT t i hi).1,hd]) jd h
  refine ⟨r,⟨hr.1,fun ax W ρ Kn Γ w hX hok ht hf hst=> ?_⟩,hk⟩
  obtain ⟨ρ',w',h1,h2⟩:=hr.2 ax W ρ Kn Γ w hX ⟨hok x (by simp),hok y (by simp)⟩ ht hf hst
  refine ⟨ρ',w',?_,h2⟩
  have et:SK= #[t,t']:=by apply Array.ext';rw [OO]
  subst et
  simp only [List.map_cons,List.map_nil,builtin,Sem.run_bind]
  rw [h1];rfl
 ·exact h.elim
end
end Go.Ev
