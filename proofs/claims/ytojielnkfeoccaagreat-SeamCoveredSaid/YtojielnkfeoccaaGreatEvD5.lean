/- Maps of flat keys and slices of flat elements. -/
import Derived.Test.YtojielnkfeoccaaGreatEvD7
noncomputable section
set_option linter.unusedSectionVars false
set_option linter.unusedVariables false
set_option linter.unusedSimpArgs false
namespace Go.Ev
open Go.RowKit
section
variable {ka:Bool} {k u:Ty}
def me (k:Ty) {β:Type} (x:k.T):List (k.T×β)->List qa->List qa
 |p::l,n::r=>match iQ k x p.1 with
  |true=>me k x l r
  |false=>n::me k x l r
 |_,_=> []
theorem ff.drop {x:k.T} : ∀(es:List MapEntry) (l:List (k.T×List u.T)) (ns:List qa),ff ka k u none es l ns->ff ka k u (some x) es l (me k x l ns)
 | [],[],[],_=>by unfold me;trivial
 | [],[],n::ns,h=>h.elim
 | [],p::l,_,h=>h.elim
 |e::es,[],_,h=>h.elim
 |e::es,p::l,[],h=>h.2.elim
 |e::es,p::l,n::ns,h=>by
  obtain ⟨h1,h2,h3,h4,h5,h6,h7⟩:=h
  have ih:=ff.drop (x:=x) es l ns h7
  unfold me
  cases hx:iQ k x p.1 with
  |true=>exact ⟨h1,by simp only [FC,hx];exact ih⟩
  |false=>exact ⟨h1,by simp only [FC,hx];exact ⟨h2,h3,h4,h5,h6,ih⟩⟩
theorem ze {β:Type} {x:k.T} : ∀(l:List (k.T×β)) (ns:List qa),(me k x l ns).Sublist ns
 | [],ns=>by unfold me;exact List.nil_sublist _
 |p::l,[]=>by unfold me;exact List.nil_sublist _
 |p::l,n::ns=>by
  unfold me
  cases iQ k x p.1 with
  |true=>exact (ze l ns).trans (List.sublist_cons_self _ _)
  |false=>exact (ze l ns).cons_cons _
theorem zc (hk:k.flat=true) {x:k.T} {e:qa} : ∀(es:List MapEntry) (l:List (k.T×List u.T)) (ns:List qa),ff ka k u none es l ns->e∈me k x l ns->e.key≠⟨k,x⟩
 | [],[],[],_,h=>by unfold me at h;cases h
 | [],[],n::ns,h,_=>h.elim
 | [],p::l,_,h,_=>h.elim
 |e::es,[],_,h,_=>h.elim
 |e::es,p::l,[],h,_=>h.2.elim
 |e::es,p::l,n::ns,h,hm=>by
  obtain ⟨h1,h2,h3,h4,h5,h6,h7⟩:=h
  unfold me at hm
  cases hx:iQ k x p.1 with
  |true=>rw [hx] at hm;exact zc hk es l ns h7 hm
  |false=>
   rw [hx] at hm
   rcases List.mem_cons.1 hm with rfl|hm
   ·rw [h2]
    intro q
    have:p.1=x:=eq_of_heq (Sigma.mk.inj q).2
    rw [this,(dm hk x x).2 rfl] at hx;cases hx
   ·exact zc hk es l ns h7 hm
theorem OA: ∀ {ns:List qa},(ns.Pairwise fun e e'=> ∀b,e.blk=some b->e'.blk≠some b)-> ∀ {a c:qa},a∈ns->c∈ns->a≠c-> ∀b,a.blk=some b->c.blk≠some b
 | [],_,_,_,h,_,_=>by cases h
 |n::r,h,a,c,ha,hc,hne=>by
  obtain ⟨h1,h2⟩:=List.pairwise_cons.1 h
  intro b hb hb'
  rcases List.mem_cons.1 ha with ea|ha2
  ·rcases List.mem_cons.1 hc with ec|Yk
   ·exact hne (ea.trans ec.symm)
   ·exact h1 c Yk b (by rw [<- ea];exact hb) hb'
  ·rcases List.mem_cons.1 hc with ec|Yk
   ·exact h1 a ha2 b (by rw [<- ec];exact hb') hb
   ·exact OA h2 ha2 Yk hne b hb hb'
theorem ff.look {q:Option k.T} : ∀(es:List MapEntry) (l:List (k.T×List u.T)) (ns:List qa),ff ka k u q es l ns-> ∃l2:List (k.T×Value),es.map (fun e=>(e.key,e.val))=tX ka k id l2/\ l2.map (·.1)=l.map (·.1)
 | [],[],_,_=>⟨[],rfl,rfl⟩
 | [],p::l,_,h=>h.elim
 |e::es,[],_,h=>h.elim
 |e::es,p::l,ns,h=>by
  obtain ⟨h1,h2⟩:=h
  have: ∃ns',ff ka k u q es l ns':=by
   split at h2
   ·exact ⟨_,h2⟩
   ·split at h2
    ·exact ⟨_,h2.2.2.2.2.2⟩
    ·exact h2.elim
  obtain ⟨ns',h3⟩:=this
  obtain ⟨l2,a1,a2⟩:=ff.look es l ns' h3
  exact ⟨(p.1,e.val)::l2,by simp [tX,h1] at a1 ⊢;exact a1,by simp [a2]⟩
theorem Cm {β γ:Type} (x:k.T): ∀(l:List (k.T×β)) (l2:List (k.T×γ)) (i:Nat),l2.map (·.1)=l.map (·.1)->(rB x l2 i).map (·.1)=(rB x l i).map (·.1)
 | [],[],i,_=>rfl
 |p::l,[],i,h=>by simp at h
 | [],q::l2,i,h=>by simp at h
 |p::l,q::l2,i,h=>by
  simp only [List.map_cons,List.cons.injEq] at h
  unfold rB
  rw [h.1]
  cases iQ k x p.1 with
  |true=>rfl
  |false=>exact Cm x l l2 (i+1) h.2
theorem ff.found (hk:k.flat=true) {x:k.T} : ∀(es:List MapEntry) (l:List (k.T×List u.T)) (ns:List qa) (l2:List (k.T×Value)) (i:Nat),ff ka k u none es l ns->es.map (fun e=>(e.key,e.val))=tX ka k id l2->l2.map (·.1)=l.map (·.1)->
  match rB x l2 i with
  |none=>eI l x=none
  |some (_,v)=> ∃n z,n∈ns/\ eI l x=some z/\ v= .slice n.base n.len n.cap/\ n.key=⟨k,x⟩/\ n.vals=aI u z/\ n.len=z.length/\ n.es=u.size
 | [],[],_,l2,i,_,_,h3=>by
  cases l2 with
  |nil=>rfl
  |cons q l2=>simp at h3
 | [],p::l,_,_,_,h,_,_=>h.elim
 |e::es,[],_,_,_,h,_,_=>h.elim
 |e::es,p::l,[],_,_,h,_,_=>h.2.elim
 |e::es,p::l,n::ns,l2,i,h,h2,h3=>by
  obtain ⟨h1,a2,a3,a4,a5,a6,a7⟩:=h
  cases l2 with
  |nil=>simp at h3
  |cons q l2=>
   simp only [tX,List.map_cons,List.cons.injEq,Prod.mk.injEq] at h2 h3
   obtain ⟨⟨b1,b2⟩,b3⟩:=h2
   have ih:=ff.found hk (x:=x) es l ns l2 (i+1) a7 b3 h3.2
   unfold rB eI
   rw [h3.1]
   cases hx:iQ k x p.1 with
   |true=>
    dsimp only
    have e:=(dm hk _ _).1 hx
    exact ⟨n,p.2,by simp,rfl,by rw [<- a3,b2];rfl,by rw [a2,e],a4,a5,a6⟩
   |false=>
    dsimp only
    revert ih
    split
    ·exact id
    ·rintro ⟨n',z,c1,c2⟩
     exact ⟨n',z,by simp [c1],c2⟩
end
section
variable {ax:jh} {W:World} {ρ:Env} {Kn:Nat->Prop} {Γ:HP} {w:World}
theorem Zn {n c m nm n':Nat} {ka:Bool} {k u:Ty} {x:k.T} {l0:List u.T} {l:List (k.T×List u.T)} (h:St ax W ρ Kn Γ w) (hm:Γ m=some (.gv n c k u x l0)) (hn:Γ n=some (.jO ka k u l c none)) (hc:Γ c=some (.set n')) (h1: ¬Kn nm) (h2: ¬Kn (nm+1)):
  ∃ρ',(∀y,Kn y->ρ' y=ρ y)/\ (ρ' (nm+1)).base=(ρ m).base/\ (ρ' (nm+1)).len=(ρ m).len/\ (ρ' (nm+1)).cap=(ρ m).cap/\
   St ax W ρ' (fun y=>Kn y\/ y=nm\/ y=nm+1) (fun y=>if y=nm+1 then some (.row u l0 1) else if y=nm then some (.set n) else if y=c then none else if y=n then some (.jO ka k u l nm (some x)) else Γ y) w:=by
 have kn:=(h.kn n _ hn).1
 have kc:=(h.kn c _ hc).1
 obtain ⟨gk,gu,Zx,b0,es,ck,gb,gh,gr,Ql⟩:=h.at_ n _ hn
 obtain ⟨_,se,sp⟩:=h.at_ c _ hc
 obtain ⟨_,v1,v2,v3,_,v4⟩:=h.at_ m _ hm
 have hcn:c≠n:=by rintro rfl;rw [hn] at hc;cases hc
 obtain ⟨o,oe,o1,o2,o3,o4,ob,om⟩: ∃o:Loc,o.cG= []/\ o.base=(ρ m).base/\ o.len=(ρ m).len/\ o.cap=(ρ m).cap/\ o.es=u.size/\ (∀b,o.blk=some b-> ∃e∈(ρ c).cG,e.blk=some b/\ e.key=⟨k,x⟩)/\ ∀fz pm,l6 fz pm w o u l0 1 (fun _=>(none,0)):=by
  have hfl: ∀(sub:Nat->Option Addr×Nat),aF sub 0 (ai u l0)=aI u l0:=fun sub=>fK gu sub l0
  rcases v4 with ⟨rfl,e2,e3⟩|⟨e,b,e1,e2,e3,e4,e5,e6,e7,e8,e9⟩
  ·refine ⟨{blk:=none,base:=(ρ m).base,len:=(ρ m).len,cap:=(ρ m).cap,es:=u.size},rfl,rfl,rfl,rfl,rfl,fun b hb=>(by cases hb),fun fz pm=>⟨fun i v hv=>(by simp [ai,aF] at hv),fun q u' l' hq=>(by simp [ai] at hq),fun e=>(by cases e),fun _=> .inl ⟨rfl,rfl,e3,fun _=>e2⟩⟩⟩
  ·refine ⟨{blk:=some b,base:=(ρ m).base,len:=(ρ m).len,cap:=(ρ m).cap,es:=u.size},rfl,rfl,rfl,rfl,rfl,fun b' hb=>(by cases hb;exact ⟨e,e1,e2,e3⟩),fun fz pm=> ?_⟩
   rcases se e e1 with ⟨f1,_⟩|⟨b',rest,t,f1,f2,f3,f4,f5⟩
   ·rw [e2] at f1;cases f1
   rw [e2] at f1;cases f1
   have hb:(ρ m).base=some ⟨b,0,none⟩:=by rw [<- e4,e5]
   rw [e8] at f3 f5
   refine ⟨fun i v hv=> ?_,fun q u' l' hq=> ?_,fun e=>(by cases e),fun _=>gl.new (.inr ⟨b,rest,t,rfl,hb,by rw [hfl];exact f3,by rw [hfl];rw [<- e7,<- e9];exact f5⟩)⟩
   ·rw [hfl] at hv
    refine ⟨_,hb,?_,fun e=>by cases e⟩
    have e1:(⟨b,0,none⟩:Addr).add i=⟨b,i,none⟩:=by unfold Addr.add;split<;>simp_all
    rw [e1,bO f3,List.getElem?_append_left (List.getElem?_eq_some_iff.1 hv).1];exact hv
   ·obtain ⟨v,hv⟩:=eP gu (List.mem_of_getElem? hq);cases hv
 let ρ':Env:=fun y=>if y=nm then {cG:=me k x l (ρ c).cG} else if y=nm+1 then o else ρ y
 have r1:ρ' nm= {cG:=me k x l (ρ c).cG} :=by simp [ρ']
 have r2:ρ' (nm+1)=o:=by simp [ρ']
 have r3: ∀y,Kn y->ρ' y=ρ y:=fun y hy=>by
  have a1:y≠nm:=by rintro rfl;exact h1 hy
  have a2:y≠nm+1:=by rintro rfl;exact h2 hy
  simp [ρ',a1,a2]
 have hds:=ze (x:=x) l (ρ c).cG
 have hcs:(Γ c).isSome=true:=by rw [hc];rfl
 have who: ∀y b,((fun y=>if y=nm+1 then some (aQ.row u l0 1) else if y=nm then some (.set n) else if y=c then none else if y=n then some (.jO ka k u l nm (some x)) else Γ y) y).isSome=true->(ρ' y).has b->
   (y=nm+1/\ ∃e∈(ρ c).cG,e.blk=some b/\ e.key=⟨k,x⟩)\/ (y=nm/\ ∃e∈me k x l (ρ c).cG,e.blk=some b)\/ (y≠nm+1/\ y≠nm/\ y≠c/\ (Γ y).isSome=true/\ (ρ y).has b):=fun y b hy hb=>by
  dsimp only at hy
  split at hy
  ·rename_i e1;subst e1
   rw [r2] at hb
   exact .inl ⟨rfl,ob b ((ve oe).1 hb)⟩
  ·rename_i e1
   split at hy
   ·rename_i e2;subst e2
    rw [r1] at hb
    rcases hb with hb|⟨e,he,hb⟩
    ·cases hb
    ·exact .inr (.inl ⟨rfl,e,he,hb⟩)
   ·rename_i e2
    split at hy
    ·cases hy
    ·rename_i e3
     have hy2:(Γ y).isSome=true:=by
      split at hy
      ·rename_i e4;rw [e4,hn];rfl
      ·exact hy
     obtain ⟨p,hp⟩:=Option.isSome_iff_exists.1 hy2
     rw [r3 y (h.kn y p hp).1] at hb
     exact .inr (.inr ⟨e1,e2,e3,hy2,hb⟩)
 refine ⟨ρ',r3,by rw [r2,o1],by rw [r2,o2],by rw [r2,o3],h.qJ r3 (fun _=> .inl) (fun y b hy hb=> ?_) (fun y z b hy hz hb hb'=> ?_) (fun b ⟨y,S,hy,hS⟩=> ?_) fun y p hp=> ?_⟩
 ·rcases who y b hy hb with ⟨_,e,he,hb,_⟩|⟨_,e,he,hb⟩|⟨_,_,_,h3,h4⟩
  ·exact ⟨c,hcs,.inr ⟨e,he,hb⟩⟩
  ·exact ⟨c,hcs,.inr ⟨e,hds.subset he,hb⟩⟩
  ·exact ⟨y,h3,h4⟩
 ·have key: ∀e e':qa,e∈(ρ c).cG→e.key=⟨k,x⟩→e'∈me k x l (ρ c).cG→e.blk=some b→e'.blk=some b→False:=fun e e' a1 a2 a3 a4 a5=>
   OA sp a1 (hds.subset a3) (fun q=>zc gk _ _ _ gr a3 (by rw [<- q];exact a2)) b a4 a5
  rcases who y b hy hb with ⟨e1,e,he,f1,f2⟩|⟨e1,e,he,f1⟩|⟨e1,e2,e3,h3,h4⟩
  ·rcases who z b hz hb' with ⟨LP,e',he',Hy,f2'⟩|⟨LP,e',he',Hy⟩|⟨LP,ZX,X6,Bi,Li⟩
   ·rw [e1,LP]
   ·exact (key e e' he f2 he' f1 Hy).elim
   ·exact absurd (h.eS z c b Bi hcs Li (.inr ⟨e,he,f1⟩)) X6
  ·rcases who z b hz hb' with ⟨LP,e',he',Hy,f2'⟩|⟨LP,e',he',Hy⟩|⟨LP,ZX,X6,Bi,Li⟩
   ·exact (key e' e he' f2' he Hy f1).elim
   ·rw [e1,LP]
   ·exact absurd (h.eS z c b Bi hcs Li (.inr ⟨e,hds.subset he,f1⟩)) X6
  ·rcases who z b hz hb' with ⟨LP,e',he',Hy,f2'⟩|⟨LP,e',he',Hy⟩|⟨LP,ZX,X6,Bi,Li⟩
   ·exact absurd (h.eS y c b h3 hcs h4 (.inr ⟨e',he',Hy⟩)) e3
   ·exact absurd (h.eS y c b h3 hcs h4 (.inr ⟨e',hds.subset he',Hy⟩)) e3
   ·exact h.eS y z b h3 Bi h4 Li
 ·dsimp only at hy
  split at hy
  ·cases hy
  ·split at hy
   ·cases hy
   ·split at hy
    ·cases hy
    ·split at hy
     ·cases hy
     ·exact ⟨y,S,hy,hS⟩
 ·split at hp
  ·rename_i e1;subst e1;cases hp
   exact .inr ⟨.inr (.inr rfl),trivial,.inr (by rw [r2];exact oe),fun _=>by
    rw [bu,r2]
    exact ⟨by rw [o2,v1],o4,by rw [o3];exact v3,_,om _ _⟩⟩
  ·split at hp
   ·rename_i e2;subst e2;cases hp
    refine .inr ⟨.inr (.inl rfl),.inl kn,.inl ⟨_,rfl⟩,fun _=> ?_⟩
    rw [bu,r1]
    exact ⟨rfl,fun e he=>se e (hds.subset he),sp.sublist hds⟩
   ·split at hp
    ·cases hp
    ·split at hp
     ·rename_i e4;subst e4;cases hp
      refine .inr ⟨.inl kn,.inr (.inl rfl),.inr (by rw [r3 _ kn];exact (h.vX _ _ hn).elim (fun ⟨_,e⟩=>by cases e) id),fun _=> ?_⟩
      exact ⟨gk,gu,Zx,b0,es,ck,by rw [r3 _ kn];exact gb,gh,by rw [r1];exact ff.drop _ _ _ gr,Ql⟩
     ·exact .inl hp
end
section
variable {ax:jh} {W:World} {ρ:Env} {Kn:Nat->Prop} {Γ:HP} {w:World}
theorem Lw (Γ:HP) (nm:Nat) (v:AV) (o:aQ) (tc:List Nat) (ho:live (some o)=some o):cq {val:=v,fresh:= [o],aB:=tc} nm Γ=bK Γ nm o:=by
 funext m;simp only [cq,bK,List.length_singleton,ct]
 by_cases h:m=nm
 ·subst h;simpa using ho
 ·have: ¬(nm≤m∧m<nm+1):=by omega
  simp [h,this]
theorem Zo {nm:Nat} {x:Loc} {o:aQ} (h:St ax W ρ Kn Γ w) (hn: ¬Kn nm) (hx:x.blk=none) (he:x.cG= []) (hok:o.ok (rq Kn nm)) (hno: ∀S,o≠ .ga S) (bD: ∀fz pm,bu fz pm (aZ ρ nm x) nm o w):
  St ax W (aZ ρ nm x) (rq Kn nm) (bK Γ nm o) w:=by
 have qX:aZ ρ nm x nm=x:=by simp [aZ]
 have hs: ∀y b,(bK Γ nm o y).isSome=true->(aZ ρ nm x y).has b->(Γ y).isSome=true/\ (ρ y).has b:=fun y b h1 h2=>by
  unfold bK at h1
  unfold aZ at h2
  split at h1
  ·rename_i e;rw [if_pos e] at h2
   have:=(ve he).1 h2
   rw [hx] at this;cases this
  ·rename_i e;rw [if_neg e] at h2;exact ⟨h1,h2⟩
 refine h.qJ (bY hn) (fun _=> .inl) (fun y b h1 h2=>⟨y,hs y b h1 h2⟩) (fun y z b h1 h2 h3 h4=>h.eS y z b (hs y b h1 h3).1 (hs z b h2 h4).1 (hs y b h1 h3).2 (hs z b h2 h4).2) (fun b ⟨y,S,h1,h2⟩=> ?_) fun y p hp=> ?_
 ·unfold bK at h1
  split at h1
  ·cases h1;exact absurd rfl (hno S)
  ·exact ⟨y,S,h1,h2⟩
 ·unfold bK at hp
  split at hp
  ·rename_i e;subst e;cases hp;exact .inr ⟨.inr rfl,hok,.inr (by rw [qX];exact he),fun _=>bD _ _⟩
  ·exact .inl hp
end
section
variable {P:Program} {ctx:Ctx} {hp:HP} {nm:Nat} {k:Rec->Prop}
theorem CV {i:TI} {kk:TypeId->TI->Ty->Ty->Prop} (h:gTy ctx i kk): ∃kt et ki ei kT uT,i.desc= .map kt et/\ aG ctx.tt kt=some ki/\ aG ctx.tt et=some ei/\ kT.flat=true/\ uT.flat=true/\ ei.zero= .slice none 0 0/\ az ei.desc=false/\ kk kt ki kT uT:=by
 unfold gTy at h
 split at h<;>try (exact h.elim)
 rename_i kt et hd
 split at h<;>try (exact h.elim)
 rename_i ki ei h1 h2
 split at h<;>try (exact h.elim)
 rename_i kT uT h3 h4
 split at h<;>try (exact h.elim)
 rename_i h5
 simp only [Bool.and_eq_true,Bool.not_eq_true'] at h5
 refine ⟨kt,et,ki,ei,kT,uT,hd,h1,h2,h5.1.1.1,h5.1.1.2,?_,h5.2,h⟩
 have:=h5.1.2
 unfold abv at this
 split at this
 ·assumption
 ·cases this
theorem J5 (hT:aX P ctx.tt) {t:TypeId} {i:TI} (ht:aG ctx.tt t=some i) {x ix:AV} {ok:Bool} (h:Og ctx i x ix ok hp nm k):
  ∃r,aJ P ctx.X hp nm (fun _=>True) (fun ρ=>Instr.lookup t (x.ae ρ) (ix.ae ρ) ok) (fun ρ=>r.val.ae ρ) r/\ k r:=by
 have h0:=CV h
 clear h
 obtain ⟨kt,et,ki,ei,kT,uT,hd,h1,h2,h3,h4,h5,h6,h⟩:=h0
 split at h<;>try (exact h.elim)
 rename_i n
 split at h<;>try (exact h.elim)
 rename_i ka fu II l c hn
 split at h<;>try (exact h.elim)
 rename_i l5
 split at h<;>try (exact h.elim)
 rename_i SY
 obtain ⟨rfl,rfl⟩:=SY
 obtain ⟨rfl,rfl,gw⟩:=l5
 obtain ⟨n',gw⟩:=iJ gw
 split at h<;>try (exact h.elim)
 rename_i a hk
 obtain ⟨hK,_,h⟩:=h
 refine ⟨_,⟨fun p hp=>absurd hp (by simp),?_⟩,h _ rfl⟩
 intro ax W ρ Kn Γ w _ _ dH hfr hst
 have hnm: ¬Kn nm:=by simpa using hfr 0 (by simp)
 have cm:Γ n=some (.jO (az ki.desc) fu II l c none):=by rw [dH n (by simp),hn]
 have jN:Γ c=some (.set n'):=by rw [dH c (by simp),gw]
 have kn:=(hst.kn n _ cm).1
 have kc:=(hst.kn c _ jN).1
 obtain ⟨_,_,Zx,b,es,ck,hb,hh,gr,Ql⟩:=hst.at_ n _ cm
 obtain ⟨_,se,sp⟩:=hst.at_ c _ jN
 obtain ⟨l2,a1,a2⟩:=ff.look _ _ _ gr
 have hkey:=kH h3 hk w ρ
 have hfind:=lM id hT h1 h3 hK a w es.toList l2 a1
 have zn:=jV hT h1 hK es.isEmpty a w
 have hfound:=ff.found h3 (x:=a) _ _ _ l2 0 gr a1 a2
 have Mh:(AV.v (.one (.mp n))).ae ρ= .map (some b):=by simp only [AV.ae,A0.ae,Cell.ae,hb]
 have fin: ∀(xl:Loc),xl.blk=none->xl.cG= []->(Instr.lookup t ((AV.v (.one (.mp n))).ae ρ) (ix.ae ρ) false).run P w= .ok (.slice xl.base xl.len xl.cap) w->(∀fz pm,bu fz pm (aZ ρ nm xl) nm (.gv n c fu II a (aU l a [])) w)->
   ∃ρ' w',(Instr.lookup t ((AV.v (.one (.mp n))).ae ρ) (ix.ae ρ) false).run P w= .ok ((AV.v (.one (.full nm))).ae ρ') w'/\ (∀m,Kn m->ρ' m=ρ m)/\ (AV.v (.one (.full nm))).ok (iK Kn nm {val:= .v (.one (.full nm)),fresh:= [.gv n c fu II a (aU l a [])],aB:= [n,c]})/\
    St ax W ρ' (iK Kn nm {val:= .v (.one (.full nm)),fresh:= [.gv n c fu II a (aU l a [])],aB:= [n,c]}) (cq {val:= .v (.one (.full nm)),fresh:= [.gv n c fu II a (aU l a [])],aB:= [n,c]} nm Γ) w':=by
  intro xl e1 e2 hrun bD
  refine ⟨aZ ρ nm xl,w,?_,bY hnm,.inr ⟨Nat.le_refl _,by simp⟩,?_⟩
  ·rw [hrun]
   simp only [AV.ae,A0.ae,Cell.ae,aZ,if_true]
  ·rw [oD,Lw _ _ _ _ _ rfl]
   exact Zo hst hnm e1 e2 ⟨.inl kn,.inl kc⟩ (fun _ h=>by cases h) bD
 have qX: ∀xl,aZ ρ nm xl nm=xl:=fun xl=>by simp [aZ]
 have aaz: ∀xl,aZ ρ nm xl c=ρ c:=fun xl=>bY hnm c kc
 have hzero:=hT.z h2 w
 rw [h5] at hzero
 cases bD:rB a l2 0 with
 |none=>
  rw [bD] at hfind hfound
  have e2:aU l a []= []:=by simp [aU,hfound]
  refine fin {es:=II.size} rfl rfl ?_ fun fz pm=> ?_
  ·rw [Mh,hkey]
   simp only [Option.map_none] at hfind
   simp only [Instr.lookup,Sem.run_bind,hT.u ht,hd,Result.andThen_ok,MapKept.run_getObj_map hh,Sem.run_pure,zn,hfind,hzero,Bool.false_eq_true,if_false]
  ·rw [bu,qX,e2]
   exact ⟨rfl,rfl,rfl,Nat.le_refl _,h4,.inl ⟨rfl,rfl,rfl⟩⟩
 |some q=>
  obtain ⟨j,v⟩:=q
  rw [bD] at hfind hfound
  obtain ⟨e,z,f1,f2,f3,f4,f5,f6,f7⟩:=hfound
  have e2:aU l a []=z:=by simp [aU,f2]
  have hrun:(Instr.lookup t ((AV.v (.one (.mp n))).ae ρ) (ix.ae ρ) false).run P w= .ok (.slice e.base e.len e.cap) w:=by
   rw [Mh,hkey]
   simp only [Option.map_some,id] at hfind
   simp only [Instr.lookup,Sem.run_bind,hT.u ht,hd,Result.andThen_ok,MapKept.run_getObj_map hh,Sem.run_pure,zn,hfind,Bool.false_eq_true,if_false,f3]
  refine fin {base:=e.base,len:=e.len,cap:=e.cap,es:=II.size} rfl rfl hrun fun fz pm=> ?_
  rw [bu,qX,aaz,e2]
  rcases se e f1 with ⟨g1,g2,g3,g4,g5⟩|⟨b',rest,Lm,g1,g2,g3,g4,g5⟩
  ·have hz:z= []:=List.eq_nil_of_length_eq_zero (by rw [←f6,g5])
   exact ⟨rfl,f6,rfl,by rw [hz];exact Nat.zero_le _,h4,.inl ⟨hz,g4,g3⟩⟩
  ·exact ⟨rfl,f6,rfl,by rw [<- f6];exact g4,h4,.inr ⟨e,b',f1,g1,f4,rfl,g2,rfl,rfl,f5,f7⟩⟩
theorem I8 (hT:aX P ctx.tt) {t t' e e' ty:TypeId} {ei:TI} (ht:P.underlying t=some (.slice e)) (ht':P.underlying t'=some (.slice e')) (iD:aG ctx.tt e=some ei) {x y:AV} (h:G9 x y ei hp nm k):
  ∃r,aJ P ctx.X hp nm (fun Kn=>x.ok Kn/\ y.ok Kn) (fun ρ=>Builtin.append_ #[t,t'] ty #[x.ae ρ,y.ae ρ]) (fun ρ=>r.val.ae ρ) r/\ k r:=by
 unfold G9 at h
 split at h<;>try (exact h.elim)
 rename_i m
 split at h<;>try (exact h.elim)
 rename_i n c kT uT a l0 hm
 split at h<;>try (exact h.elim)
 rename_i ka fu II l c' hn
 split at h<;>try (exact h.elim)
 rename_i hc
 obtain ⟨rfl,gw,hsz,hby,hz0⟩:=hc
 obtain ⟨n',gw⟩:=iJ gw
 split at h<;>try (exact h.elim)
 rename_i SY
 obtain ⟨rfl,rfl⟩:=SY
 split at h<;>try (exact h.elim)
 rename_i p off len cap
 split at h<;>try (exact h.elim)
 rename_i cs et gN
 split at h<;>try (exact h.elim)
 rename_i ys tc0 hys
 obtain ⟨hlen,h⟩:=br h
 simp only [Bool.and_eq_true,decide_eq_true_eq] at hlen
 refine ⟨_,⟨fun q hq=> ?_,?_⟩,h⟩
 ·simp only [List.mem_cons,List.not_mem_nil,or_false] at hq
  rcases hq with rfl|rfl
  ·rw [hn];simp
  ·rw [gw];simp
 intro ax W ρ Kn Γ w hX hok dH hfr hst
 have Mb: ¬Kn nm:=by simpa using hfr 0 (by simp)
 have yP: ¬Kn (nm+1):=hfr 1 (by simp)
 have Mc: ¬Kn (nm+2):=hfr 2 (by simp)
 have sq:Γ m=some (.gv n c' kT uT a l0):=by rw [dH m (by simp),hm]
 have tZ:Γ n=some (.jO ka kT uT l c' none):=by rw [dH n (by simp),hn]
 have jN:Γ c'=some (.set n'):=by rw [dH c' (by simp),gw]
 have Mj:Γ p=some (.cells cs et):=by rw [dH p (by simp),gN]
 have kn:=(hst.kn n _ tZ).1
 have kc:=(hst.kn c' _ jN).1
 have kp:=(hst.kn p _ Mj).1
 have Lj:uT.flat=true:=(hst.at_ n _ tZ).2.1
 obtain ⟨cJ,q1,q2,q3,q4,sn⟩:=Zn hst sq tZ jN Mb yP
 generalize YH:(fun y=>if y=nm+1 then some (aQ.row uT l0 1) else if y=nm then some (.set n) else if y=c' then none else if y=n then some (.jO ka kT uT l nm (some a)) else Γ y)=uP at sn
 have g1:uP (nm+1)=some (.row uT l0 1):=by rw [<- YH];simp
 have ZF:p≠n:=by rintro rfl;rw [Mj] at tZ;cases tZ
 have hpc:p≠c':=by rintro rfl;rw [Mj] at jN;cases jN
 have SV:p≠nm:=by rintro rfl;exact Mb kp
 have hp1:p≠nm+1:=by rintro rfl;exact yP kp
 have g2:uP p=some (.cells cs et):=by rw [<- YH];simp [ZF,hpc,SV,hp1,Mj]
 obtain ⟨adI,_⟩:=yZ (gN:=uP) Lj _ _ _ _ hys
 have SF:wh (.v (.one (.full (nm+1)))) (.v (.one (.sl p off len cap))) ei uP (nm+2) fun r=>r= {val:= .v (.one (.full (nm+2))),fresh:= [.row uT (l0++ys) 1],writes:= [(nm+1,.gone)],aB:= [nm+1,p]} :=by
  unfold wh BH
  simp only [g1]
  rw [if_neg (by decide),if_pos ⟨hsz,hby,hz0⟩]
  have hd:cL uP (.sl uT) [.sl p off len cap]=some (ys,[],[p]):=by
   simp only [cL,iR Lj,Bool.true_and,hlen.1,decide_true,if_true,g2,adI]
  rw [hd]
  simp only [uR,Lj,if_true]
  simp [qD,ob,hlen.2,mV,Nat.ble]
 obtain ⟨r,hr,rfl⟩:=Ae (P:=P) (ctx:=ctx) (ty:=ty) hT ht ht' iD SF
 obtain ⟨ρ',w',e1,e2,e3,e4⟩:=hr.2 ax W cJ _ uP w hX ⟨.inr (.inr rfl),.inl kp⟩ (fun _ _=>rfl) (fun i hi=>by
  have:i=0:=by simpa using hi
  subst this
  rintro (h1|h1|h1)
  ·exact Mc h1
  ·omega
  ·omega) sn
 have ey:(AV.v (.one (.sl p off len cap))).ae cJ=(AV.v (.one (.sl p off len cap))).ae ρ:=by
  simp only [AV.ae,A0.ae,Cell.ae,addrOf,q1 p kp]
 have ex:(AV.v (.one (.full (nm+1)))).ae cJ=(AV.v (.one (.full m))).ae ρ:=by
  simp only [AV.ae,A0.ae,Cell.ae,q2,q3,q4]
 refine ⟨ρ',w',by have h9:=e1;dsimp only at h9 ⊢;rw [<- ey,<- ex];exact h9,fun y hy=>by rw [e2 y (.inl hy),q1 y hy],.inr (by simp),?_⟩
 have hK: ∀r1:Rec,r1.fresh.length=1-> ∀r2:Rec,r2.fresh.length=3->iK (fun y=>Kn y\/ y=nm\/ y=nm+1) (nm+2) r1=iK Kn nm r2:=fun r1 h1 r2 h2=>by
  funext y
  simp only [iK,h1,h2]
  apply propext
  constructor
  ·rintro ((h|h|h)|h)
   ·exact .inl h
   ·exact .inr (by omega)
   ·exact .inr (by omega)
   ·exact .inr (by omega)
  ·rintro (h|h)
   ·exact .inl (.inl h)
   ·by_cases h3:y=nm
    ·exact .inl (.inr (.inl h3))
    ·by_cases h4:y=nm+1
     ·exact .inl (.inr (.inr h4))
     ·exact .inr (by omega)
 rw [hK _ rfl {val:= .v (.one (.full (nm+2))),fresh:= [.set n,.gone,.row uT (l0++ys) 1],writes:= [(n,.jO ka kT uT l nm (some a)),(c',.gone)],aB:= [m,n,c',p]} rfl] at e4
 have hH:cq {val:=AV.v (.one (.full (nm+2))),fresh:= [.row uT (l0++ys) 1],writes:= [(nm+1,.gone)],aB:= [nm+1,p]} (nm+2) uP=
   cq {val:= .v (.one (.full (nm+2))),fresh:= [.set n,.gone,.row uT (l0++ys) 1],writes:= [(n,.jO ka kT uT l nm (some a)),(c',.gone)],aB:= [m,n,c',p]} nm Γ:=by
  have hnc:n≠c':=by rintro rfl;rw [tZ] at jN;cases jN
  have Md:n≠nm/\ n≠nm+1/\ n≠nm+2:=⟨by rintro rfl;exact Mb kn,by rintro rfl;exact yP kn,by rintro rfl;exact Mc kn⟩
  have HD:c'≠nm/\ c'≠nm+1/\ c'≠nm+2:=⟨by rintro rfl;exact Mb kc,by rintro rfl;exact yP kc,by rintro rfl;exact Mc kc⟩
  funext y
  simp only [cq,ct,List.length_singleton,List.length_cons,List.length_nil]
  rw [<- YH]
  by_cases y0:y=nm
  ·rw [y0]
   have c1: ¬(nm+2<=nm/\ nm<nm+2+(0+1)):=by omega
   have c2:nm<=nm/\ nm<nm+(0+1+1+1):=by omega
   rw [if_neg c1,if_pos c2]
   simp [live]
  by_cases y1:y=nm+1
  ·rw [y1]
   have c1: ¬(nm+2<=nm+1/\ nm+1<nm+2+(0+1)):=by omega
   have c2:nm<=nm+1/\ nm+1<nm+(0+1+1+1):=by omega
   rw [if_neg c1,if_pos c2]
   simp [live]
  by_cases y2:y=nm+2
  ·rw [y2]
   have c1:nm+2<=nm+2/\ nm+2<nm+2+(0+1):=by omega
   have c2:nm<=nm+2/\ nm+2<nm+(0+1+1+1):=by omega
   rw [if_pos c1,if_pos c2]
   simp [live]
  have c1: ¬(nm+2<=y/\ y<nm+2+(0+1)):=by omega
  have c2: ¬(nm<=y/\ y<nm+(0+1+1+1)):=by omega
  have y1': ¬nm+1=y:=fun q=>y1 q.symm
  simp only [c1,c2,if_false,y0,y1,y1']
  by_cases y3:y=c'
  ·subst y3
   simp [live]
  by_cases y4:y=n
  ·subst y4
   have y3': ¬c'=y:=fun q=>y3 q.symm
   simp [live,y3,y3']
  ·have y3': ¬c'=y:=fun q=>y3 q.symm
   have y4': ¬n=y:=fun q=>y4 q.symm
   simp [y3,y4,y3',y4']
 rw [hH] at e4
 exact e4
theorem HW {i:TI} {t:TypeId} (h:J7 ctx i nm k): ∃r,aJ P ctx.X hp nm (fun _=>True) (fun _=>Instr.makeMap t none) (fun ρ=>r.val.ae ρ) r/\ k r:=by
 have h0:=CV h
 clear h
 obtain ⟨kt,et,ki,ei,kT,uT,hd,h1,h2,h3,h4,h5,h6,h⟩:=h0
 refine ⟨_,⟨fun p hp=>absurd hp (by simp),?_⟩,h⟩
 intro ax W ρ Kn Γ w _ _ _ hfr hst
 have hn: ¬Kn nm:=by simpa using hfr 0 (by simp)
 have yP: ¬Kn (nm+1):=hfr 1 (by simp)
 have hsz:=hst.fr.size
 have st1:St ax W (aZ ρ nm {blk:=some w.heap.size}) (rq Kn nm) (bK Γ nm (.map false false kT .bool [])) (w.alloc (.map #[] 0)):=by
  refine hst.swap (G:= []) (o:= .map false false kT .bool []) hn (hst.fr.alloc _) (fun b hb _=>Below.heap_alloc _ _ _ hb) (fun b hb=> ?_) (fun m p hp=> ?_) trivial (fun _ h=>by cases h) fun _ _=> ?_
  ·cases hb;exact ⟨.inl (Nat.le_refl _),.inl hsz⟩
  ·unfold bK at hp
   split at hp
   ·rename_i e1;cases hp;exact .inl ⟨e1,rfl⟩
   ·rename_i e1;exact .inr ⟨e1,by simp,hp⟩
  ·exact ⟨h3,rfl,w.heap.size,#[],0,by simp [aZ],by show (w.heap.push _)[w.heap.size]? =_;simp,rfl,I1.nil⟩
 generalize aa7:aZ ρ nm {blk:=some w.heap.size} =cJ at st1
 have r0:cJ nm= {blk:=some w.heap.size} :=by rw [<- aa7];simp [aZ]
 have Vg: ¬rq Kn nm (nm+1):=by rintro (h|h);exact yP h;omega
 have hold:=bY (ρ:=cJ) (x:= {}) Vg
 have rn:aZ cJ (nm+1) {} nm= {blk:=some w.heap.size} :=by rw [hold nm (.inr rfl),r0]
 have rn1:aZ cJ (nm+1) {} (nm+1)= {} :=by simp [aZ]
 have Xo:(w.alloc (.map #[] 0)).heap[w.heap.size]? =some (.map #[] 0):=by show (w.heap.push _)[w.heap.size]? =_;simp
 refine ⟨aZ cJ (nm+1) {},w.alloc (.map #[] 0),?_,fun m hm=>by rw [hold m (.inl hm),<- aa7];exact bY hn m hm,.inr (by simp),?_⟩
 ·simp only [AV.ae,A0.ae,Cell.ae,rn];rfl
 have key: ∀y b,(bK (bK Γ nm (.jO (az ki.desc) kT uT [] (nm+1) none)) (nm+1) (.set nm) y).isSome=true->(aZ cJ (nm+1) {} y).has b->(bK Γ nm (.map false false kT .bool []) y).isSome=true/\ (cJ y).has b:=fun y b ha hb=>by
  by_cases e1:y=nm+1
  ·subst e1
   rw [rn1] at hb
   exact absurd (iC.1 hb) (fun h=>by cases h)
  ·simp only [bK,aZ,if_neg e1] at ha hb ⊢
   by_cases e2:y=nm
   ·subst e2;simp only [if_true] at ha ⊢;exact ⟨rfl,hb⟩
   ·simp only [if_neg e2] at ha ⊢;exact ⟨ha,hb⟩
 have st2:St ax W (aZ cJ (nm+1) {}) (fun y=>Kn y\/ y=nm\/ y=nm+1) (bK (bK Γ nm (.jO (az ki.desc) kT uT [] (nm+1) none)) (nm+1) (.set nm)) (w.alloc (.map #[] 0)):=by
  refine st1.qJ hold (fun y hy=>hy.imp id .inl) (fun y b ha hb=>⟨y,key y b ha hb⟩) (fun y z b ha hb hc hd=>st1.eS y z b (key y b ha hc).1 (key z b hb hd).1 (key y b ha hc).2 (key z b hb hd).2) (fun b ⟨y,S,ha,hb⟩=> ?_) fun y p hp=> ?_
  ·simp only [bK] at ha
   split at ha
   ·cases ha
   ·split at ha
    ·cases ha
    ·rename_i e1 e2
     exact ⟨y,S,by simp only [bK,if_neg e2];exact ha,hb⟩
  ·by_cases e1:y=nm+1
   ·subst e1
    simp only [bK,if_true,Option.some.injEq] at hp
    subst hp
    refine .inr ⟨.inr (.inr rfl),.inr (.inl rfl),.inl ⟨_,rfl⟩,fun _=> ?_⟩
    rw [bu,rn1]
    exact ⟨rfl,fun e he=>(by cases he),List.Pairwise.nil⟩
   ·by_cases e2:y=nm
    ·subst e2
     simp only [bK,if_neg e1,if_true,Option.some.injEq] at hp
     subst hp
     refine .inr ⟨.inr (.inl rfl),.inr (.inr rfl),.inr (by rw [rn]),fun _=> ?_⟩
     exact ⟨h3,h4,List.nodup_nil,w.heap.size,#[],0,by rw [rn],Xo,by rw [rn1];exact ⟨trivial,fun x hx=>(by cases hx),List.nodup_nil⟩⟩
    ·left
     simp only [bK,if_neg e1,if_neg e2] at hp ⊢
     exact hp
 have eK:iK Kn nm {val:= .v (.one (.mp nm)),fresh:= [.jO (az ki.desc) kT uT [] (nm+1) none,.set nm]} =fun y=>Kn y\/ y=nm\/ y=nm+1:=by
  funext y;simp only [iK,List.length_cons,List.length_nil];apply propext;constructor
  ·rintro (h|h)
   ·exact .inl h
   ·exact .inr (by omega)
  ·rintro (h|h)
   ·exact .inl h
   ·exact .inr (by omega)
 have eH:cq {val:= .v (.one (.mp nm)),fresh:= [.jO (az ki.desc) kT uT [] (nm+1) none,.set nm]} nm Γ=bK (bK Γ nm (.jO (az ki.desc) kT uT [] (nm+1) none)) (nm+1) (.set nm):=by
  funext y
  simp only [cq,ct,List.length_cons,List.length_nil,bK]
  by_cases e1:y=nm+1
  ·rw [e1,if_pos (by omega)];simp [live]
  ·by_cases e2:y=nm
   ·rw [e2,if_pos (by omega)];simp [live]
   ·rw [if_neg (by omega),if_neg e1,if_neg e2]
 rw [eK,eH]
 exact st2
def C6 (k:Ty) {β:Type} (x:k.T) (E:qa):List (k.T×β)->List qa->List qa
 | [],ns=>E::ns
 |p::l,ns=>match iQ k x p.1 with
  |true=>E::ns
  |false=>match ns with
   |n::r=>n::C6 k x E l r
   | []=> []
theorem xb {kT:Ty} {β:Type} {x:kT.T} {E e:qa} : ∀(l:List (kT.T×β)) (ns:List qa),e∈C6 kT x E l ns->e=E\/ e∈ns
 | [],ns,h=>by unfold C6 at h;exact List.mem_cons.1 h
 |p::l,ns,h=>by
  unfold C6 at h
  cases hx:iQ kT x p.1 with
  |true=>rw [hx] at h;exact List.mem_cons.1 h
  |false=>
   rw [hx] at h
   cases ns with
   |nil=>cases h
   |cons n r=>
    rcases List.mem_cons.1 h with h|h
    ·exact .inr (by simp [h])
    ·exact (xb l r h).imp id fun h=>by simp [h]
theorem Fy {kT:Ty} {β:Type} {x:kT.T} {E:qa} : ∀(l:List (kT.T×β)) (ns:List qa),(ns.Pairwise fun e e'=> ∀b,e.blk=some b->e'.blk≠some b)->(∀e∈ns,∀b,E.blk=some b->e.blk≠some b)->(C6 kT x E l ns).Pairwise fun e e'=> ∀b,e.blk=some b->e'.blk≠some b
 | [],ns,h,hE=>by unfold C6;exact List.pairwise_cons.2 ⟨fun e he=>hE e he,h⟩
 |p::l,ns,h,hE=>by
  unfold C6
  cases hx:iQ kT x p.1 with
  |true=>exact List.pairwise_cons.2 ⟨fun e he=>hE e he,h⟩
  |false=>
   cases ns with
   |nil=>exact List.Pairwise.nil
   |cons n r=>
    obtain ⟨h1,h2⟩:=List.pairwise_cons.1 h
    refine List.pairwise_cons.2 ⟨fun e he b hb hb'=> ?_,Fy l r h2 fun e he=>hE e (by simp [he])⟩
    rcases xb l r he with rfl|he
    ·exact hE n (by simp) b hb' hb
    ·exact h1 e he b hb hb'
theorem ff.same {ka:Bool} {kT uT:Ty} {x:kT.T} : ∀(es:List MapEntry) (l:List (kT.T×List uT.T)) (ns:List qa),(∀p∈l,iQ kT x p.1=false)->ff ka kT uT (some x) es l ns->ff ka kT uT none es l ns
 | [],[],[],_,_=>trivial
 | [],[],n::ns,_,h=>h.elim
 | [],p::l,_,_,h=>h.elim
 |e::es,[],_,_,h=>h.elim
 |e::es,p::l,ns,hl,h=>by
  obtain ⟨h1,h2⟩:=h
  simp only [FC,hl p (by simp)] at h2
  cases ns with
  |nil=>exact h2.elim
  |cons n r=>
   obtain ⟨a1,a2,a3,a4,a5,a6⟩:=h2
   exact ⟨h1,a1,a2,a3,a4,a5,ff.same es l r (fun p hp=>hl p (by simp [hp])) a6⟩
def Ko (k:Ty) {β:Type} (x:k.T) (f:MapEntry->MapEntry) (new:MapEntry):List MapEntry->List (k.T×β)->List MapEntry
 |e::es,p::l=>match iQ k x p.1 with
  |true=>f e::es
  |false=>e::Ko k x f new es l
 |es,_=>es++ [new]
theorem Io {kT:Ty} {β:Type} {x:kT.T} {f:MapEntry->MapEntry} {new:MapEntry} : ∀(es:List MapEntry) (l:List (kT.T×β)) (i:Nat),es.length=l.length->match rB x l i with
  |none=>Ko kT x f new es l=es++ [new]
  |some (j,_)=>i<=j/\ Ko kT x f new es l=es.modify (j- i) f
 | [],[],i,_=>rfl
 | [],p::l,i,h=>by simp at h
 |e::es,[],i,h=>by simp at h
 |e::es,p::l,i,h=>by
  have ih:=Io (x:=x) (f:=f) (new:=new) es l (i+1) (by simpa using h)
  unfold rB Ko
  cases hx:iQ kT x p.1 with
  |true=>exact ⟨Nat.le_refl _,by simp⟩
  |false=>
   dsimp only
   revert ih
   split
   ·intro ih;rw [ih];rfl
   ·rintro ⟨h1,h2⟩
    rename_i j q _
    obtain ⟨d,rfl⟩: ∃d,j=i+1+d:=⟨j- (i+1),by omega⟩
    refine ⟨by omega,?_⟩
    rw [h2,show i+1+d- (i+1)=d by omega,show i+1+d- i=d+1 by omega];rfl
theorem ff.len {ka:Bool} {kT uT:Ty} {q:Option kT.T} : ∀(es:List MapEntry) (l:List (kT.T×List uT.T)) (ns:List qa),ff ka kT uT q es l ns->es.length=l.length
 | [],[],_,_=>rfl
 | [],p::l,_,h=>h.elim
 |e::es,[],_,h=>h.elim
 |e::es,p::l,ns,h=>by
  obtain ⟨_,h2⟩:=h
  have: ∃ns',ff ka kT uT q es l ns':=by
   split at h2
   ·exact ⟨_,h2⟩
   ·split at h2
    ·exact ⟨_,h2.2.2.2.2.2⟩
    ·exact h2.elim
  obtain ⟨ns',h3⟩:=this
  simp [ff.len es l ns' h3]
theorem ff.put {ka:Bool} {kT uT:Ty} (hk:kT.flat=true) {x:kT.T} {z:List uT.T} {E:qa} {f:MapEntry->MapEntry} {new:MapEntry} (h1:E.key=⟨kT,x⟩) (h2:E.vals=aI uT z) (h3:E.len=z.length) (h4:E.es=uT.size)
  (hf: ∀e,(f e).key=bQ ka kT x/\ (f e).val= .slice E.base E.len E.cap) (hn:new.key=bQ ka kT x/\ new.val= .slice E.base E.len E.cap): ∀(es:List MapEntry) (l:List (kT.T×List uT.T)) (ns:List qa),(l.map (·.1)).Nodup->ff ka kT uT (some x) es l ns->
  ff ka kT uT none (Ko kT x f new es l) (bU l x z) (C6 kT x E l ns)
 | [],[],[],_,_=>by
  unfold Ko bU C6
  exact ⟨hn.1,by rw [h1],hn.2,h2,h3,h4,trivial⟩
 | [],[],n::ns,_,h=>h.elim
 | [],p::l,_,_,h=>h.elim
 |e::es,[],_,_,h=>h.elim
 |e::es,p::l,ns,ur,h=>by
  obtain ⟨a1,a2⟩:=h
  simp only [List.map_cons,List.nodup_cons] at ur
  unfold Ko bU C6
  cases hx:iQ kT x p.1 with
  |true=>
   simp only [FC,hx] at a2
   have ex:=(dm hk _ _).1 hx
   have hno: ∀q∈l,iQ kT x q.1=false:=fun q hq=>by
    cases Rr:iQ kT x q.1 with
    |false=>rfl
    |true=>
     have:=(dm hk _ _).1 Rr
     exact absurd (List.mem_map.2 ⟨q,hq,by rw [<- this,ex]⟩) ur.1
   exact ⟨(hf e).1,by rw [h1],(hf e).2,h2,h3,h4,ff.same _ _ _ hno a2⟩
  |false=>
   simp only [FC,hx] at a2
   cases ns with
   |nil=>exact a2.elim
   |cons n r=>
    obtain ⟨b1,b2,b3,b4,b5,b6⟩:=a2
    exact ⟨a1,b1,b2,b3,b4,b5,ff.put hk h1 h2 h3 h4 hf hn es l r ur.2 b6⟩
theorem F2 {kT:Ty} {β:Type} (hk:kT.flat=true) {x:kT.T} {z:β} : ∀(l:List (kT.T×β)),(l.map (·.1)).Nodup->((bU l x z).map (·.1)).Nodup/\ ∀y,y∈(bU l x z).map (·.1)->y=x\/ y∈l.map (·.1)
 | [],_=>by unfold bU;exact ⟨by simp,fun y hy=> .inl (by simpa using hy)⟩
 |p::l,h=>by
  simp only [List.map_cons,List.nodup_cons] at h
  unfold bU
  cases hx:iQ kT x p.1 with
  |true=>
   have ex:=(dm hk _ _).1 hx
   subst ex
   exact ⟨by simpa using h,fun y hy=> .inr hy⟩
  |false=>
   obtain ⟨i1,i2⟩:=F2 hk (x:=x) (z:=z) l h.2
   refine ⟨?_,fun y hy=> ?_⟩
   ·simp only [List.map_cons,List.nodup_cons]
    refine ⟨fun hm=> ?_,i1⟩
    rcases i2 _ hm with e|e
    ·rw [(dm hk x p.1).2 e.symm] at hx;cases hx
    ·exact h.1 e
   ·simp only [List.map_cons,List.mem_cons] at hy ⊢
    rcases hy with hy|hy
    ·exact .inr (.inl hy)
    ·exact (i2 y hy).imp id .inr
theorem Dk (hT:aX P ctx.tt) {t:TypeId} {i:TI} (ht:aG ctx.tt t=some i) {x ix v:AV} (h:Dj ctx i x ix v hp nm k):
  ∃r,aJ P ctx.X hp nm (fun _=>True) (fun ρ=>Instr.mapUpdate t (x.ae ρ) (ix.ae ρ) (v.ae ρ)) (fun _=>()) r/\ k r/\ r.val=aT:=by
 have h0:=CV h
 clear h
 obtain ⟨kt,et,ki,ei,kT,uT,hd,h1,h2,h3,h4,h5,h6,h⟩:=h0
 split at h<;>try (exact h.elim)
 rename_i n m
 split at h<;>try (exact h.elim)
 rename_i ka fu II l c a0 Lm l2 rk hn hm
 split at h<;>try (exact h.elim)
 rename_i l5
 split at h<;>try (exact h.elim)
 rename_i SY
 obtain ⟨rfl,rfl⟩:=SY
 obtain ⟨rfl,gw,o7,HG⟩:=l5
 obtain ⟨n',gw⟩:=iJ gw
 split at h<;>try (exact h.elim)
 rename_i a z hk hz
 obtain ⟨hK,rfl,_,h⟩:=h
 obtain ⟨e,hz2⟩:=dV hz
 subst e
 dsimp only at hz2
 subst hz2
 refine ⟨_,⟨fun q hq=> ?_,?_⟩,h _ rfl,rfl⟩
 ·simp only [List.mem_cons,List.not_mem_nil,or_false] at hq
  rcases hq with rfl|rfl|rfl
  ·rw [hn];simp
  ·rw [gw];simp
  ·rw [hm];simp
 intro ax W ρ Kn Γ w hX hok dH hfr hst
 have Mb: ¬Kn nm:=by simpa using hfr 0 (by simp)
 have tZ:Γ n=some (.jO (az ki.desc) fu Lm l c (some a)):=by rw [dH n (by simp),hn]
 have jN:Γ c=some (.set n'):=by rw [dH c (by simp),gw]
 have sq:Γ m=some (.row Lm l2 rk):=by rw [dH m (by simp),hm]
 have kn:=(hst.kn n _ tZ).1
 have kc:=(hst.kn c _ jN).1
 have km:=(hst.kn m _ sq).1
 have hnc:n≠c:=by rintro rfl;rw [tZ] at jN;cases jN
 have hnm:n≠m:=by rintro rfl;rw [tZ] at sq;cases sq
 have hcm:c≠m:=by rintro rfl;rw [jN] at sq;cases sq
 obtain ⟨_,_,Zx,b,es,ck,hb,hh,gr,Ql⟩:=hst.at_ n _ tZ
 obtain ⟨_,se,sp⟩:=hst.at_ c _ jN
 obtain ⟨m1,m2,m3,sub,_,_,_,m4⟩:=hst.at_ m _ sq
 have m4:=(m4 o7).old HG
 rw [fK h4] at m4
 let E:qa:= {key:=⟨fu,a⟩,blk:=(ρ m).blk,base:=(ρ m).base,len:=(ρ m).len,cap:=(ρ m).cap,es:=Lm.size,vals:=aI Lm l2}
 have acN:Ce w E:=by
  rcases m4 with ⟨f1,f2,f3,f4⟩|⟨b',rest,t',f1,f2,f3,f4⟩
  ·exact .inl ⟨f1,by simp [E,f2,aI,ai],f3,f4,by simp [E,m1,f2]⟩
  ·exact .inr ⟨b',rest,t',f1,f2,f3,by show (ρ m).len<=(ρ m).cap;rw [m1];exact m3,f4⟩
 have hcs:(Γ c).isSome=true:=by rw [jN];rfl
 have Yw:(Γ m).isSome=true:=by rw [sq];rfl
 let ns':=C6 fu a E l (ρ c).cG
 let cJ:=aZ ρ nm {cG:=ns'}
 have r1:cJ nm= {cG:=ns'} :=by simp [cJ,aZ]
 have r2: ∀y,Kn y->cJ y=ρ y:=bY Mb
 let uP:HP:=fun y=>if y=nm then some (.set n) else if y=c then none else if y=m then none else Γ y
 have who: ∀y q,(uP y).isSome=true->(cJ y).has q->(y=nm/\ ((ρ m).blk=some q\/ ∃e∈(ρ c).cG,e.blk=some q))\/ (y≠nm/\ y≠c/\ y≠m/\ (Γ y).isSome=true/\ (ρ y).has q):=fun y q hy hq=>by
  simp only [uP] at hy
  split at hy
  ·rename_i e1;subst e1
   rw [r1] at hq
   rcases hq with hq|⟨e,he,hq⟩
   ·cases hq
   ·rcases xb _ _ he with rfl|he
    ·exact .inl ⟨rfl,.inl hq⟩
    ·exact .inl ⟨rfl,.inr ⟨e,he,hq⟩⟩
  ·rename_i e1
   split at hy
   ·cases hy
   ·rename_i e2
    split at hy
    ·cases hy
    ·rename_i e3
     obtain ⟨p,hp⟩:=Option.isSome_iff_exists.1 hy
     rw [r2 y (hst.kn y p hp).1] at hq
     exact .inr ⟨e1,e2,e3,hy,hq⟩
 have st1:St ax W cJ (rq Kn nm) uP w:=by
  refine hst.qJ r2 (fun _=> .inl) (fun y q hy hq=> ?_) (fun y y' q hy hy' hq ZG=> ?_) (fun q ⟨y,S,hy,hS⟩=> ?_) fun y p hp=> ?_
  ·rcases who y q hy hq with ⟨_,h7|h7⟩|⟨_,_,_,h7,h8⟩
   ·exact ⟨m,Yw,.inl h7⟩
   ·exact ⟨c,hcs,.inr h7⟩
   ·exact ⟨y,h7,h8⟩
  ·have hto: ∀y,(Γ y).isSome=true→(ρ y).has q→((ρ m).blk=some q∨ ∃e∈(ρ c).cG,e.blk=some q)→y=m∨y=c:=fun y h7 h8 h9=>by
    rcases h9 with h9|h9
    ·exact .inl (hst.eS y m q h7 Yw h8 (.inl h9))
    ·exact .inr (hst.eS y c q h7 hcs h8 (.inr h9))
   rcases who y q hy hq with ⟨e1,h7⟩|⟨e1,e2,e3,h7,h8⟩
   ·rcases who y' q hy' ZG with ⟨LP,ZA⟩|⟨LP,ZX,X6,ZA,h8'⟩
    ·rw [e1,LP]
    ·rcases hto y' ZA h8' h7 with h9|h9
     ·exact absurd h9 X6
     ·exact absurd h9 ZX
   ·rcases who y' q hy' ZG with ⟨LP,ZA⟩|⟨LP,ZX,X6,ZA,h8'⟩
    ·rcases hto y h7 h8 ZA with h9|h9
     ·exact absurd h9 e3
     ·exact absurd h9 e2
    ·exact hst.eS y y' q h7 ZA h8 h8'
  ·simp only [uP] at hy
   split at hy
   ·cases hy
   ·split at hy
    ·cases hy
    ·split at hy
     ·cases hy
     ·exact ⟨y,S,hy,hS⟩
  ·simp only [uP] at hp
   split at hp
   ·rename_i e1;subst e1;cases hp
    refine .inr ⟨.inr rfl,.inl kn,.inl ⟨_,rfl⟩,fun _=> ?_⟩
    rw [bu,r1]
    refine ⟨rfl,fun e he=> ?_,Fy _ _ sp fun e he q hq ZG=> ?_⟩
    ·rcases xb _ _ he with rfl|he
     ·exact acN
     ·exact se e he
    ·exact hcm (hst.eS c m q hcs Yw (.inr ⟨e,he,ZG⟩) (.inl hq))
   ·split at hp
    ·cases hp
    ·split at hp
     ·cases hp
     ·exact .inl hp
 have Md:n≠nm:=by rintro rfl;exact Mb kn
 have S1:uP n=some (.jO (az ki.desc) fu Lm l c (some a)):=by simp only [uP];rw [if_neg Md,if_neg hnc,if_neg hnm];exact tZ
 have ik:(cJ n).blk=some b:=by rw [r2 n kn];exact hb
 obtain ⟨l3,a1,a2⟩:=ff.look _ _ _ gr
 have hkey:=kH h3 hk w ρ
 have hfind:=lM id hT h1 h3 hK a w es.toList l3 a1
 have zn:=jV hT h1 hK false a w
 have Mh:(AV.v (.one (.mp n))).ae ρ= .map (some b):=by simp only [AV.ae,A0.ae,Cell.ae,hb]
 have hvc:(AV.v (.one (.full m))).ae ρ= .slice (ρ m).base (ρ m).len (ρ m).cap:=rfl
 have hlt:b<w.heap.size:=(Array.getElem?_eq_some_iff.1 hh).1
 have hown:=hst.own n b (by simp [tZ]) hb
 have aeC:es.toList.length=l3.length:=by
  have h9:=congrArg List.length a1
  unfold tX at h9
  rw [List.length_map,List.length_map] at h9
  exact h9
 have Xp:es.toList.length=l.length:=ff.len _ _ _ gr
 let f:MapEntry->MapEntry:=fun e=> {e with key:=bQ (az ki.desc) fu a,val:= .slice (ρ m).base (ρ m).len (ρ m).cap}
 let new:MapEntry:= {key:=bQ (az ki.desc) fu a,val:= .slice (ρ m).base (ρ m).len (ρ m).cap,born:=ck}
 have acK:=ff.put (ka:=az ki.desc) h3 (x:=a) (z:=l2) (E:=E) (f:=f) (new:=new) rfl rfl m1 rfl (fun _=>⟨rfl,rfl⟩) ⟨rfl,rfl⟩ _ _ _ Zx gr
 have fin: ∀(es':Array MapEntry) (iy:Nat),es'.toList=Ko fu a f new es.toList l->I1 es' iy->
   (Instr.mapUpdate t ((AV.v (.one (.mp n))).ae ρ) (ix.ae ρ) ((AV.v (.one (.full m))).ae ρ)).run P w= .ok () {w with heap:=w.heap.setIfInBounds b (.map es' iy)} ->
   ∃ρ' w',(Instr.mapUpdate t ((AV.v (.one (.mp n))).ae ρ) (ix.ae ρ) ((AV.v (.one (.full m))).ae ρ)).run P w= .ok () w'/\ (∀m,Kn m->ρ' m=ρ m)/\ aT.ok (iK Kn nm {val:=aT,fresh:= [.set n],writes:= [(n,.jO (az ki.desc) fu Lm (bU l a l2) nm none),(c,.gone),(m,.gone)],aB:= [n,c,m]})/\
    St ax W ρ' (iK Kn nm {val:=aT,fresh:= [.set n],writes:= [(n,.jO (az ki.desc) fu Lm (bU l a l2) nm none),(c,.gone),(m,.gone)],aB:= [n,c,m]}) (cq {val:=aT,fresh:= [.set n],writes:= [(n,.jO (az ki.desc) fu Lm (bU l a l2) nm none),(c,.gone),(m,.gone)],aB:= [n,c,m]} nm Γ) w':=by
  intro es' iy V2 adA hrun
  refine ⟨cJ,_,hrun,r2,nQ _,?_⟩
  have eK:iK Kn nm {val:=aT,fresh:= [.set n],writes:= [(n,.jO (az ki.desc) fu Lm (bU l a l2) nm none),(c,.gone),(m,.gone)],aB:= [n,c,m]} =rq Kn nm:=by
   funext y;simp only [iK,rq,List.length_singleton];congr 1;apply propext;omega
  have eH:cq {val:=aT,fresh:= [.set n],writes:= [(n,.jO (az ki.desc) fu Lm (bU l a l2) nm none),(c,.gone),(m,.gone)],aB:= [n,c,m]} nm Γ=bK uP n (.jO (az ki.desc) fu Lm (bU l a l2) nm none):=by
   funext y
   simp only [cq,ct,List.length_singleton,bK,uP]
   by_cases e0:y=nm
   ·rw [e0,if_pos (by omega),if_neg (Ne.symm Md)];simp [live]
   ·rw [if_neg (by omega)]
    by_cases e1:y=m
    ·have hm0:m≠nm:=fun q=>e0 (e1.trans q)
     rw [e1]
     simp [live,hnm,Ne.symm hnm,hcm,Ne.symm hcm,hm0]
    ·by_cases e2:y=c
     ·have hc0:c≠nm:=fun q=>e0 (e2.trans q)
      rw [e2]
      simp [live,hnc,Ne.symm hnc,hcm,Ne.symm hcm,hc0]
     ·by_cases e3:y=n
      ·subst e3;simp [live,Ne.symm e1,Ne.symm e2]
      ·simp [Ne.symm e1,Ne.symm e2,Ne.symm e3,e0,e1,e2,e3]
  rw [eK,eH]
  have CY:=MapKept.heap_set (o':=Obj.map es' iy) hh
  refine st1.Aa S1 ik (.inr rfl) (fun _ h=>by cases h) ⟨hst.fr.os,hst.fr.tape,hst.fr.output,by simpa using hst.fr.size,fun k hk hnb=> ?_,hst.fr.Ez⟩ (fun b' hne=>CY.2 b' hne) (by simp) fun _=> ?_
  ·have hne:k≠b:=by
    rintro rfl
    rcases hown with h|h
    ·omega
    ·exact hnb h
   rw [<- hst.fr.block k hk hnb]
   exact CY.2 k hne
  ·refine ⟨h3,h4,(F2 h3 l Zx).1,b,es',iy,ik,CY.1,?_,adA⟩
   rw [V2,r1]
   exact acK
 cases bD:rB a l3 0 with
 |none=>
  rw [bD] at hfind
  simp only [Option.map_none] at hfind
  have hp1:=Io (x:=a) (f:=f) (new:=new) es.toList l 0 Xp
  have hkk:=Cm a l l3 0 a2
  rw [bD] at hkk
  cases nV:rB a l 0 with
  |some q=>rw [nV] at hkk;cases hkk
  |none=>
   rw [nV] at hp1
   refine fin (es.push new) (ck+1) ?_ ?_ ?_
   ·rw [hp1];simp
   ·obtain ⟨s1,s2⟩:=Ql
    refine ⟨fun x hx=> ?_,?_⟩
    ·rw [Array.toList_push] at hx
     rcases List.mem_append.1 hx with hx|hx
     ·have:=s1 x hx;omega
     ·simp only [List.mem_singleton] at hx
      subst hx
      exact Nat.lt_succ_self _
    ·rw [Array.toList_push,List.map_append,List.nodup_append]
     refine ⟨s2,by simp,fun x hx y hy=> ?_⟩
     simp only [List.map_cons,List.map_nil,List.mem_singleton] at hy
     obtain ⟨z,hz,rfl⟩:=List.mem_map.1 hx
     have:=s1 z hz
     rw [hy]
     exact Nat.ne_of_lt this
   ·rw [Mh,hkey,hvc]
    simp only [Instr.mapUpdate,Sem.run_bind,hT.u ht,hd,Result.andThen_ok,MapKept.run_getObj_map hh,zn,hfind,MapKept.run_setObj_map _ hh]
    rfl
 |some q=>
  obtain ⟨j,q2⟩:=q
  rw [bD] at hfind
  simp only [Option.map_some,id] at hfind
  have hkk:=Cm a l l3 0 a2
  rw [bD] at hkk
  have hp1:=Io (x:=a) (f:=f) (new:=new) es.toList l 0 Xp
  cases nV:rB a l 0 with
  |none=>rw [nV] at hkk;cases hkk
  |some q'=>
   obtain ⟨j',q2'⟩:=q'
   rw [nV] at hkk hp1
   simp only [Option.map_some,Option.some.injEq] at hkk
   subst hkk
   simp only [Nat.sub_zero,Nat.zero_le,true_and] at hp1
   have hput:=wj a q2 l3 0
   rw [bD] at hput
   obtain ⟨_,p,hp2,hp3,_⟩:=hput
   rw [Nat.sub_zero] at hp2
   have Yz:a=p.1:=(dm h3 _ _).1 hp3
   have hj: ∃e,es.toList[j]? =some e/\ e.key=bQ (az ki.desc) fu a:=by
    have:(es.toList.map (fun e=>(e.key,e.val)))[j]? =some (bQ (az ki.desc) fu p.1,p.2):=by
     rw [a1];unfold tX;rw [List.getElem?_map,hp2];rfl
    rw [List.getElem?_map] at this
    obtain ⟨e,BR,vg⟩:=Option.map_eq_some_iff.1 this
    exact ⟨e,BR,by rw [Yz];exact congrArg Prod.fst vg⟩
   obtain ⟨e,BR,vg⟩:=hj
   have N3:es[j]? =some e:=by rw [<- Array.getElem?_toList];exact BR
   have JO:(Instr.keyThatStays (((es[j]?).map (·.key)).getD (bQ (az ki.desc) fu a)) (bQ (az ki.desc) fu a)).run P w= .ok (bQ (az ki.desc) fu a) w:=by
    rw [N3]
    simp only [Option.map_some,Option.getD_some,vg,Instr.keyThatStays]
    rw [if_pos (pA h3 _ _ 9999 (IJ hT h1 hK a w))]
    rfl
   refine fin (es.modify j f) ck ?_ ?_ ?_
   ·rw [hp1];simp
   ·obtain ⟨s1,s2⟩:=Ql
    have U9:(es.modify j f).toList.map (·.born)=es.toList.map (·.born):=by
     rw [Array.toList_modify]
     apply List.ext_getElem?
     intro k
     rw [List.getElem?_map,List.getElem?_map,List.getElem?_modify]
     cases es.toList[k]? with
     |none=>rfl
     |some z=>simp only [Option.map_some];split<;>rfl
    refine ⟨fun x hx=> ?_,by rw [U9];exact s2⟩
    have:x.born∈es.toList.map (·.born):=by rw [<- U9];exact List.mem_map.2 ⟨x,hx,rfl⟩
    obtain ⟨z,hz,e⟩:=List.mem_map.1 this
    rw [<- e];exact s1 z hz
   ·rw [Mh,hkey,hvc]
    simp only [Instr.mapUpdate,Sem.run_bind,hT.u ht,hd,Result.andThen_ok,MapKept.run_getObj_map hh,zn,hfind,JO,MapKept.run_setObj_map _ hh]
    rfl
theorem Hf (hT:aX P ctx.tt) {b:Builtin} {W5:Array TypeId} {args:List AV} (h:Ct ctx b W5.toList args hp nm k) (ty:TypeId) (cs:Array Bool):
  ∃r,aJ P ctx.X hp nm (fun Kn=> ∀x∈args,x.ok Kn) (fun ρ=>builtin b W5 ty cs (args.map (AV.ae ρ)).toArray) (fun ρ=> .value (r.val.ae ρ)) r/\ k r:=by
 unfold Ct at h
 split at h
 ·rename_i x
  split at h
  ·rename_i t r SZ
   split at h
   ·rename_i i hi
    have ZI:W5[0]? =some t:=by rw [<- Array.getElem?_toList,SZ];rfl
    split at h
    ·rename_i hd
     refine ⟨_,aJ.pure ?_,h⟩
     intro ax W ρ Kn Γ w _ _ _ _
     exact ⟨by simp [AV.ae,A0.ae,Cell.ae,builtin,Builtin.len_,ZI,hT.u hi,hd,goInt,eu],trivial⟩
    ·rename_i e0 p0 hd
     split at h
     ·obtain ⟨n,c,j,q,t',l,st,kn,u,y,g,hm,hn,hc,hj,hq,h⟩:=oP h
      refine ⟨_,aJ.pure ?_,h⟩
      intro ax W ρ Kn Γ w _ _ dH hst
      obtain ⟨_,g4,_⟩:=Ot hst (by rw [dH p0 (by simp),hm]) (by rw [dH n (by simp),hn]) (by rw [dH c (by simp),hc]) hj hq
      exact ⟨by simp [AV.ae,A0.ae,Cell.ae,builtin,Builtin.len_,ZI,hT.u hi,hd,goInt,eu,g4],trivial⟩
     obtain ⟨m,s,q,u,l,rk,len,tc,he,h,Rq,V6,_,_,_,_,_,hall⟩:=oQ h
     refine ⟨_,aJ.pure ?_,h⟩
     intro ax W ρ Kn Γ w _ _ dH hst
     obtain ⟨_,_,_,g4,_⟩:=hall ax W ρ Kn Γ w dH hst
     exact ⟨by simp [AV.ae,A0.ae,Cell.ae,builtin,Builtin.len_,ZI,hT.u hi,hd,goInt,eu,g4],trivial⟩
    ·rename_i hd
     refine ⟨_,aJ.pure ?_,h⟩
     intro ax W ρ Kn Γ w _ _ _ _
     exact ⟨by simp [AV.ae,A0.ae,Cell.ae,builtin,Builtin.len_,ZI,hT.u hi,hd,goInt,eu],trivial⟩
    ·rename_i hd
     refine ⟨_,aJ.pure ?_,h⟩
     intro ax W ρ Kn Γ w _ _ _ _
     exact ⟨by simp [AV.ae,A0.ae,Cell.ae,builtin,Builtin.len_,ZI,hT.u hi,hd,goInt,eu],trivial⟩
    ·rename_i kt et n hd
     split at h<;>try (exact h.elim)
     rename_i ka va k0 v0 l hn
     refine ⟨_,aJ.pure ?_,h⟩
     intro ax W ρ Kn Γ w _ _ dH hst
     obtain ⟨_,_,b,es,ck,hb,hh,he,_⟩:=hst.at_ n _ (by rw [dH n (by simp),hn])
     have hlen:es.size=l.length:=by have:=congrArg List.length he;simpa using this
     exact ⟨by simp [AV.ae,A0.ae,Cell.ae,builtin,Builtin.len_,ZI,hT.u hi,hd,goInt,eu,hb,MapKept.run_getObj_map hh,hlen],trivial⟩
    ·exact h.elim
   ·exact h.elim
  ·exact h.elim
 ·rename_i kk a r
  split at h
  ·rename_i n hn
   refine ⟨_,aJ.pure ?_,h⟩
   intro ax W ρ Kn Γ w _ _ _ _
   have:=qt (P:=P) aO Builtin.min2 (fun kk x k' y w=>by simp [Builtin.min2,aO]) ρ kk r a n hn w
   refine ⟨?_,trivial⟩
   simp [AV.ae,A0.ae,Cell.ae,builtin,Builtin.min_,eu] at this ⊢
   rw [this];rfl
  ·exact h.elim
 ·rename_i kk a r
  split at h
  ·rename_i n hn
   refine ⟨_,aJ.pure ?_,h⟩
   intro ax W ρ Kn Γ w _ _ _ _
   have:=qt (P:=P) aS Builtin.max2 (fun kk x k' y w=>by simp [Builtin.max2,aS]) ρ kk r a n hn w
   refine ⟨?_,trivial⟩
   simp [AV.ae,A0.ae,Cell.ae,builtin,Builtin.max_,eu] at this ⊢
   rw [this];rfl
  ·exact h.elim
 ·rename_i x y
  split at h
  rotate_left
  ·exact h.elim
  rename_i t t' SZ
  split at h
  rotate_left
  ·exact h.elim
  rename_i i i' hi hi'
  split at h
  rotate_left
  ·exact h.elim
  rename_i e e' hd hd'
  split at h
  rotate_left
  ·exact h.elim
  rename_i ei iD
  have key: ∃r,aJ P ctx.X hp nm (fun Kn=>x.ok Kn/\ y.ok Kn) (fun ρ=>Builtin.append_ #[t,t'] ty #[x.ae ρ,y.ae ρ]) (fun ρ=>r.val.ae ρ) r/\ k r:=by
   split at h
   ·exact I8 (ty:=ty) (nm:=nm) hT (by rw [(hT t i hi).1,hd]) (by rw [(hT t' i' hi').1,hd']) iD h
   ·exact Ae (ty:=ty) (nm:=nm) hT (by rw [(hT t i hi).1,hd]) (by rw [(hT t' i' hi').1,hd']) iD h
  obtain ⟨r,hr,hk⟩:=key
  refine ⟨r,⟨hr.1,fun ax W ρ Kn Γ w hX hok ht hf hst=> ?_⟩,hk⟩
  obtain ⟨ρ',w',h1,h2⟩:=hr.2 ax W ρ Kn Γ w hX ⟨hok x (by simp),hok y (by simp)⟩ ht hf hst
  refine ⟨ρ',w',?_,h2⟩
  have et:W5= #[t,t']:=by apply Array.ext';rw [SZ]
  subst et
  simp only [List.map_cons,List.map_nil,builtin,Sem.run_bind]
  rw [h1];rfl
 ·rename_i x y
  split at h
  rotate_left
  ·exact h.elim
  rename_i t t' SZ
  split at h
  rotate_left
  ·exact h.elim
  rename_i i hi
  split at h
  rotate_left
  ·exact h.elim
  rename_i e hd
  split at h
  rotate_left
  ·exact h.elim
  rename_i ei iD
  obtain ⟨r,hr,hk⟩:=PJ (ty:=ty) (t':=t') (nm:=nm) hT (by rw [(hT t i hi).1,hd]) iD h
  refine ⟨r,⟨hr.1,fun ax W ρ Kn Γ w hX hok ht hf hst=> ?_⟩,hk⟩
  obtain ⟨ρ',w',h1,h2⟩:=hr.2 ax W ρ Kn Γ w hX ⟨hok x (by simp),hok y (by simp)⟩ ht hf hst
  refine ⟨ρ',w',?_,h2⟩
  have et:W5= #[t,t']:=by apply Array.ext';rw [SZ]
  subst et
  simp only [List.map_cons,List.map_nil,builtin,Sem.run_bind]
  rw [h1];rfl
 ·exact h.elim
end
end Go.Ev
