/- Maps of flat keys and slices of flat elements. -/
import Derived.Test.YtbjfokijjefoeaaGreatEvD7
noncomputable section
set_option linter.unusedSectionVars false
set_option linter.unusedVariables false
set_option linter.unusedSimpArgs false
namespace Go.Ev
open Go.RowKit
section
variable {ka:Bool} {k u:Ty}
def oO (k:Ty) {β:Type} (x:k.T):List (k.T×β)->List sZ->List sZ
 |p::l,n::r=>match p8 k x p.1 with
  |true=>oO k x l r
  |false=>n::oO k x l r
 |_,_=> []
theorem eL.drop {x:k.T} : ∀(es:List MapEntry) (l:List (k.T×List u.T)) (ns:List sZ),eL ka k u none es l ns->eL ka k u (some x) es l (oO k x l ns)
 | [],[],[],_=>by unfold oO;trivial
 | [],[],n::ns,h=>h.elim
 | [],p::l,_,h=>h.elim
 |e::es,[],_,h=>h.elim
 |e::es,p::l,[],h=>h.2.elim
 |e::es,p::l,n::ns,h=>by
  obtain ⟨h1,h2,h3,h4,h5,h6,h7⟩:=h
  have ih:=eL.drop (x:=x) es l ns h7
  unfold oO
  cases hx:p8 k x p.1 with
  |true=>exact ⟨h1,by simp only [KC,hx];exact ih⟩
  |false=>exact ⟨h1,by simp only [KC,hx];exact ⟨h2,h3,h4,h5,h6,ih⟩⟩
theorem CQ {β:Type} {x:k.T} : ∀(l:List (k.T×β)) (ns:List sZ),(oO k x l ns).Sublist ns
 | [],ns=>by unfold oO;exact List.nil_sublist _
 |p::l,[]=>by unfold oO;exact List.nil_sublist _
 |p::l,n::ns=>by
  unfold oO
  cases p8 k x p.1 with
  |true=>exact (CQ l ns).trans (List.sublist_cons_self _ _)
  |false=>exact (CQ l ns).cons_cons _
theorem CP (hk:k.flat=true) {x:k.T} {e:sZ} : ∀(es:List MapEntry) (l:List (k.T×List u.T)) (ns:List sZ),eL ka k u none es l ns->e∈oO k x l ns->e.key≠⟨k,x⟩
 | [],[],[],_,h=>by unfold oO at h;cases h
 | [],[],n::ns,h,_=>h.elim
 | [],p::l,_,h,_=>h.elim
 |e::es,[],_,h,_=>h.elim
 |e::es,p::l,[],h,_=>h.2.elim
 |e::es,p::l,n::ns,h,hm=>by
  obtain ⟨h1,h2,h3,h4,h5,h6,h7⟩:=h
  unfold oO at hm
  cases hx:p8 k x p.1 with
  |true=>rw [hx] at hm;exact CP hk es l ns h7 hm
  |false=>
   rw [hx] at hm
   rcases List.mem_cons.1 hm with rfl|hm
   ·rw [h2]
    intro q
    have:p.1=x:=eq_of_heq (Sigma.mk.inj q).2
    rw [this,(nk hk x x).2 rfl] at hx;cases hx
   ·exact CP hk es l ns h7 hm
theorem Uo: ∀ {ns:List sZ},(ns.Pairwise fun e e'=> ∀b,e.bq=some b->e'.bq≠some b)-> ∀ {a c:sZ},a∈ns->c∈ns->a≠c-> ∀b,a.bq=some b->c.bq≠some b
 | [],_,_,_,h,_,_=>by cases h
 |n::r,h,a,c,ha,hc,hne=>by
  obtain ⟨h1,h2⟩:=List.pairwise_cons.1 h
  intro b hb hb'
  rcases List.mem_cons.1 ha with ea|ha2
  ·rcases List.mem_cons.1 hc with ec|hc2
   ·exact hne (ea.trans ec.symm)
   ·exact h1 c hc2 b (by rw [<- ea];exact hb) hb'
  ·rcases List.mem_cons.1 hc with ec|hc2
   ·exact h1 a ha2 b (by rw [<- ec];exact hb') hb
   ·exact Uo h2 ha2 hc2 hne b hb hb'
theorem eL.look {q:Option k.T} : ∀(es:List MapEntry) (l:List (k.T×List u.T)) (ns:List sZ),eL ka k u q es l ns-> ∃l2:List (k.T×Value),es.map (fun e=>(e.key,e.val))=ye ka k id l2/\ l2.map (·.1)=l.map (·.1)
 | [],[],_,_=>⟨[],rfl,rfl⟩
 | [],p::l,_,h=>h.elim
 |e::es,[],_,h=>h.elim
 |e::es,p::l,ns,h=>by
  obtain ⟨h1,h2⟩:=h
  have: ∃ns',eL ka k u q es l ns':=by
   split at h2
   ·exact ⟨_,h2⟩
   ·split at h2
    ·exact ⟨_,h2.2.2.2.2.2⟩
    ·exact h2.elim
  obtain ⟨ns',h3⟩:=this
  obtain ⟨l2,a1,a2⟩:=eL.look es l ns' h3
  exact ⟨(p.1,e.val)::l2,by simp [ye,h1] at a1 ⊢;exact a1,by simp [a2]⟩
theorem F7 {β γ:Type} (x:k.T): ∀(l:List (k.T×β)) (l2:List (k.T×γ)) (i:Nat),l2.map (·.1)=l.map (·.1)->(F6 x l2 i).map (·.1)=(F6 x l i).map (·.1)
 | [],[],i,_=>rfl
 |p::l,[],i,h=>by simp at h
 | [],q::l2,i,h=>by simp at h
 |p::l,q::l2,i,h=>by
  simp only [List.map_cons,List.cons.injEq] at h
  unfold F6
  rw [h.1]
  cases p8 k x p.1 with
  |true=>rfl
  |false=>exact F7 x l l2 (i+1) h.2
theorem eL.found (hk:k.flat=true) {x:k.T} : ∀(es:List MapEntry) (l:List (k.T×List u.T)) (ns:List sZ) (l2:List (k.T×Value)) (i:Nat),eL ka k u none es l ns->es.map (fun e=>(e.key,e.val))=ye ka k id l2->l2.map (·.1)=l.map (·.1)->
  match F6 x l2 i with
  |none=>nW l x=none
  |some (_,v)=> ∃n z,n∈ns/\ nW l x=some z/\ v= .slice n.base n.len n.cap/\ n.key=⟨k,x⟩/\ n.vals=aH u z/\ n.len=z.length/\ n.es=u.size
 | [],[],_,l2,i,_,_,h3=>by
  cases l2 with
  |nil=>rfl
  |cons q l2=>simp at h3
 | [],p::l,_,_,_,h,_,_=>h.elim
 |e::es,[],_,_,_,h,_,_=>h.elim
 |e::es,p::l,[],_,_,h,_,_=>h.2.elim
 |e::es,p::l,n::ns,l2,i,h,h2,h3=>by
  obtain ⟨h1,a2,a3,a4,a5,a6,a7⟩:=h
  cases l2 with
  |nil=>simp at h3
  |cons q l2=>
   simp only [ye,List.map_cons,List.cons.injEq,Prod.mk.injEq] at h2 h3
   obtain ⟨⟨b1,b2⟩,b3⟩:=h2
   have ih:=eL.found hk (x:=x) es l ns l2 (i+1) a7 b3 h3.2
   unfold F6 nW
   rw [h3.1]
   cases hx:p8 k x p.1 with
   |true=>
    dsimp only
    have e:=(nk hk _ _).1 hx
    exact ⟨n,p.2,by simp,rfl,by rw [<- a3,b2];rfl,by rw [a2,e],a4,a5,a6⟩
   |false=>
    dsimp only
    revert ih
    split
    ·exact id
    ·rintro ⟨n',z,c1,c2⟩
     exact ⟨n',z,by simp [c1],c2⟩
end
section
variable {ax:kz} {W:World} {ρ:Env} {Kn:Nat->Prop} {Γ:HP} {w:World}
theorem aeH {n c m nm n':Nat} {ka:Bool} {k u:Ty} {x:k.T} {l0:List u.T} {l:List (k.T×List u.T)} (h:St ax W ρ Kn Γ w) (hm:Γ m=some (.gv n c k u x l0)) (hn:Γ n=some (.oQ ka k u l c none)) (hc:Γ c=some (.set n')) (h1: ¬Kn nm) (h2: ¬Kn (nm+1)):
  ∃ρ',(∀y,Kn y->ρ' y=ρ y)/\ (ρ' (nm+1)).base=(ρ m).base/\ (ρ' (nm+1)).len=(ρ m).len/\ (ρ' (nm+1)).cap=(ρ m).cap/\
   St ax W ρ' (fun y=>Kn y\/ y=nm\/ y=nm+1) (fun y=>if y=nm+1 then some (.row u l0 1) else if y=nm then some (.set n) else if y=c then none else if y=n then some (.oQ ka k u l nm (some x)) else Γ y) w:=by
 have kn:=(h.kn n _ hn).1
 have kc:=(h.kn c _ hc).1
 obtain ⟨gk,gu,gnd,b0,es,dI,gb,gh,gr,VJ⟩:=h.at_ n _ hn
 obtain ⟨_,se,sp⟩:=h.at_ c _ hc
 obtain ⟨_,v1,v2,v3,_,v4⟩:=h.at_ m _ hm
 have hcn:c≠n:=by rintro rfl;rw [hn] at hc;cases hc
 obtain ⟨o,oe,o1,o2,o3,o4,ob,om⟩: ∃o:Loc,o.bW= []/\ o.base=(ρ m).base/\ o.len=(ρ m).len/\ o.cap=(ρ m).cap/\ o.es=u.size/\ (∀b,o.bq=some b-> ∃e∈(ρ c).bW,e.bq=some b/\ e.key=⟨k,x⟩)/\ ∀fz pm,oz fz pm w o u l0 1 (fun _=>(none,0)):=by
  have hfl: ∀(sub:Nat->Option Addr×Nat),aD sub 0 (ak u l0)=aH u l0:=fun sub=>fB gu sub l0
  rcases v4 with ⟨rfl,e2,e3⟩|⟨e,b,e1,e2,e3,e4,e5,e6,e7,e8,e9⟩
  ·refine ⟨{bq:=none,base:=(ρ m).base,len:=(ρ m).len,cap:=(ρ m).cap,es:=u.size},rfl,rfl,rfl,rfl,rfl,fun b hb=>(by cases hb),fun fz pm=>⟨fun i v hv=>(by simp [ak,aD] at hv),fun q u' l' hq=>(by simp [ak] at hq),fun e=>(by cases e),fun _=> .inl ⟨rfl,rfl,e3,fun _=>e2⟩⟩⟩
  ·refine ⟨{bq:=some b,base:=(ρ m).base,len:=(ρ m).len,cap:=(ρ m).cap,es:=u.size},rfl,rfl,rfl,rfl,rfl,fun b' hb=>(by cases hb;exact ⟨e,e1,e2,e3⟩),fun fz pm=> ?_⟩
   rcases se e e1 with ⟨f1,_⟩|⟨b',rest,t,f1,f2,f3,f4,f5⟩
   ·rw [e2] at f1;cases f1
   rw [e2] at f1;cases f1
   have hb:(ρ m).base=some ⟨b,0,none⟩:=by rw [<- e4,e5]
   rw [e8] at f3 f5
   refine ⟨fun i v hv=> ?_,fun q u' l' hq=> ?_,fun e=>(by cases e),fun _=>gV.new (.inr ⟨b,rest,t,rfl,hb,by rw [hfl];exact f3,by rw [hfl];rw [<- e7,<- e9];exact f5⟩)⟩
   ·rw [hfl] at hv
    refine ⟨_,hb,?_,fun e=>by cases e⟩
    have e1:(⟨b,0,none⟩:Addr).add i=⟨b,i,none⟩:=by unfold Addr.add;split<;>simp_all
    rw [e1,bF f3,List.getElem?_append_left (List.getElem?_eq_some_iff.1 hv).1];exact hv
   ·obtain ⟨v,hv⟩:=dk gu (List.mem_of_getElem? hq);cases hv
 let ρ':Env:=fun y=>if y=nm then {bW:=oO k x l (ρ c).bW} else if y=nm+1 then o else ρ y
 have r1:ρ' nm= {bW:=oO k x l (ρ c).bW} :=by simp [ρ']
 have r2:ρ' (nm+1)=o:=by simp [ρ']
 have r3: ∀y,Kn y->ρ' y=ρ y:=fun y hy=>by
  have a1:y≠nm:=by rintro rfl;exact h1 hy
  have a2:y≠nm+1:=by rintro rfl;exact h2 hy
  simp [ρ',a1,a2]
 have hds:=CQ (x:=x) l (ρ c).bW
 have hcs:(Γ c).isSome=true:=by rw [hc];rfl
 have who: ∀y b,((fun y=>if y=nm+1 then some (aI.row u l0 1) else if y=nm then some (.set n) else if y=c then none else if y=n then some (.oQ ka k u l nm (some x)) else Γ y) y).isSome=true->(ρ' y).has b->
   (y=nm+1/\ ∃e∈(ρ c).bW,e.bq=some b/\ e.key=⟨k,x⟩)\/ (y=nm/\ ∃e∈oO k x l (ρ c).bW,e.bq=some b)\/ (y≠nm+1/\ y≠nm/\ y≠c/\ (Γ y).isSome=true/\ (ρ y).has b):=fun y b hy hb=>by
  dsimp only at hy
  split at hy
  ·rename_i e1;subst e1
   rw [r2] at hb
   exact .inl ⟨rfl,ob b ((vQ oe).1 hb)⟩
  ·rename_i e1
   split at hy
   ·rename_i e2;subst e2
    rw [r1] at hb
    rcases hb with hb|⟨e,he,hb⟩
    ·cases hb
    ·exact .inr (.inl ⟨rfl,e,he,hb⟩)
   ·rename_i e2
    split at hy
    ·cases hy
    ·rename_i e3
     have hy2:(Γ y).isSome=true:=by
      split at hy
      ·rename_i e4;rw [e4,hn];rfl
      ·exact hy
     obtain ⟨p,hp⟩:=Option.isSome_iff_exists.1 hy2
     rw [r3 y (h.kn y p hp).1] at hb
     exact .inr (.inr ⟨e1,e2,e3,hy2,hb⟩)
 refine ⟨ρ',r3,by rw [r2,o1],by rw [r2,o2],by rw [r2,o3],h.uw r3 (fun _=> .inl) (fun y b hy hb=> ?_) (fun y z b hy hz hb hb'=> ?_) (fun b ⟨y,S,hy,hS⟩=> ?_) fun y p hp=> ?_⟩
 ·rcases who y b hy hb with ⟨_,e,he,hb,_⟩|⟨_,e,he,hb⟩|⟨_,_,_,h3,h4⟩
  ·exact ⟨c,hcs,.inr ⟨e,he,hb⟩⟩
  ·exact ⟨c,hcs,.inr ⟨e,hds.subset he,hb⟩⟩
  ·exact ⟨y,h3,h4⟩
 ·have key: ∀e e':sZ,e∈(ρ c).bW→e.key=⟨k,x⟩→e'∈oO k x l (ρ c).bW→e.bq=some b→e'.bq=some b→False:=fun e e' a1 a2 a3 a4 a5=>
   Uo sp a1 (hds.subset a3) (fun q=>CP gk _ _ _ gr a3 (by rw [<- q];exact a2)) b a4 a5
  rcases who y b hy hb with ⟨e1,e,he,f1,f2⟩|⟨e1,e,he,f1⟩|⟨e1,e2,e3,h3,h4⟩
  ·rcases who z b hz hb' with ⟨Re,e',he',MH,f2'⟩|⟨Re,e',he',MH⟩|⟨Re,e2',e3',Rl,VL⟩
   ·rw [e1,Re]
   ·exact (key e e' he f2 he' f1 MH).elim
   ·exact absurd (h.dK z c b Rl hcs VL (.inr ⟨e,he,f1⟩)) e3'
  ·rcases who z b hz hb' with ⟨Re,e',he',MH,f2'⟩|⟨Re,e',he',MH⟩|⟨Re,e2',e3',Rl,VL⟩
   ·exact (key e' e he' f2' he MH f1).elim
   ·rw [e1,Re]
   ·exact absurd (h.dK z c b Rl hcs VL (.inr ⟨e,hds.subset he,f1⟩)) e3'
  ·rcases who z b hz hb' with ⟨Re,e',he',MH,f2'⟩|⟨Re,e',he',MH⟩|⟨Re,e2',e3',Rl,VL⟩
   ·exact absurd (h.dK y c b h3 hcs h4 (.inr ⟨e',he',MH⟩)) e3
   ·exact absurd (h.dK y c b h3 hcs h4 (.inr ⟨e',hds.subset he',MH⟩)) e3
   ·exact h.dK y z b h3 Rl h4 VL
 ·dsimp only at hy
  split at hy
  ·cases hy
  ·split at hy
   ·cases hy
   ·split at hy
    ·cases hy
    ·split at hy
     ·cases hy
     ·exact ⟨y,S,hy,hS⟩
 ·split at hp
  ·rename_i e1;subst e1;cases hp
   exact .inr ⟨.inr (.inr rfl),trivial,.inr (by rw [r2];exact oe),fun _=>by
    rw [bh,r2]
    exact ⟨by rw [o2,v1],o4,by rw [o3];exact v3,_,om _ _⟩⟩
  ·split at hp
   ·rename_i e2;subst e2;cases hp
    refine .inr ⟨.inr (.inl rfl),.inl kn,.inl ⟨_,rfl⟩,fun _=> ?_⟩
    rw [bh,r1]
    exact ⟨rfl,fun e he=>se e (hds.subset he),sp.sublist hds⟩
   ·split at hp
    ·cases hp
    ·split at hp
     ·rename_i e4;subst e4;cases hp
      refine .inr ⟨.inl kn,.inr (.inl rfl),.inr (by rw [r3 _ kn];exact (h.yl _ _ hn).elim (fun ⟨_,e⟩=>by cases e) id),fun _=> ?_⟩
      exact ⟨gk,gu,gnd,b0,es,dI,by rw [r3 _ kn];exact gb,gh,by rw [r1];exact eL.drop _ _ _ gr,VJ⟩
     ·exact .inl hp
end
section
variable {ax:kz} {W:World} {ρ:Env} {Kn:Nat->Prop} {Γ:HP} {w:World}
theorem QY (Γ:HP) (nm:Nat) (v:AV) (o:aI) (tc:List Nat) (ho:live (some o)=some o):bC {val:=v,fresh:= [o],aC:=tc} nm Γ=bH Γ nm o:=by
 funext m;simp only [bC,bH,List.length_singleton,cf]
 by_cases h:m=nm
 ·subst h;simpa using ho
 ·have: ¬(nm≤m∧m<nm+1):=by omega
  simp [h,this]
theorem aeI {nm:Nat} {x:Loc} {o:aI} (h:St ax W ρ Kn Γ w) (hn: ¬Kn nm) (hx:x.bq=none) (he:x.bW= []) (hok:o.ok (yz Kn nm)) (hno: ∀S,o≠ .cK S) (br: ∀fz pm,bh fz pm (aY ρ nm x) nm o w):
  St ax W (aY ρ nm x) (yz Kn nm) (bH Γ nm o) w:=by
 have uX:aY ρ nm x nm=x:=by simp [aY]
 have hs: ∀y b,(bH Γ nm o y).isSome=true->(aY ρ nm x y).has b->(Γ y).isSome=true/\ (ρ y).has b:=fun y b h1 h2=>by
  unfold bH at h1
  unfold aY at h2
  split at h1
  ·rename_i e;rw [if_pos e] at h2
   have:=(vQ he).1 h2
   rw [hx] at this;cases this
  ·rename_i e;rw [if_neg e] at h2;exact ⟨h1,h2⟩
 refine h.uw (cG hn) (fun _=> .inl) (fun y b h1 h2=>⟨y,hs y b h1 h2⟩) (fun y z b h1 h2 h3 h4=>h.dK y z b (hs y b h1 h3).1 (hs z b h2 h4).1 (hs y b h1 h3).2 (hs z b h2 h4).2) (fun b ⟨y,S,h1,h2⟩=> ?_) fun y p hp=> ?_
 ·unfold bH at h1
  split at h1
  ·cases h1;exact absurd rfl (hno S)
  ·exact ⟨y,S,h1,h2⟩
 ·unfold bH at hp
  split at hp
  ·rename_i e;subst e;cases hp;exact .inr ⟨.inr rfl,hok,.inr (by rw [uX];exact he),fun _=>br _ _⟩
  ·exact .inl hp
end
section
variable {P:Program} {ctx:Ctx} {hp:HP} {nm:Nat} {k:Rec->Prop}
theorem GD {i:TI} {kk:TypeId->TI->Ty->Ty->Prop} (h:gTy ctx i kk): ∃kt et ki ei kT uT,i.desc= .map kt et/\ aG ctx.tt kt=some ki/\ aG ctx.tt et=some ei/\ kT.flat=true/\ uT.flat=true/\ ei.zero= .slice none 0 0/\ aF ei.desc=false/\ kk kt ki kT uT:=by
 unfold gTy at h
 split at h<;>try (exact h.elim)
 rename_i kt et hd
 split at h<;>try (exact h.elim)
 rename_i ki ei h1 h2
 split at h<;>try (exact h.elim)
 rename_i kT uT h3 h4
 split at h<;>try (exact h.elim)
 rename_i h5
 simp only [Bool.and_eq_true,Bool.not_eq_true'] at h5
 refine ⟨kt,et,ki,ei,kT,uT,hd,h1,h2,h5.1.1.1,h5.1.1.2,?_,h5.2,h⟩
 have:=h5.1.2
 unfold agF at this
 split at this
 ·assumption
 ·cases this
theorem OX (hT:aU P ctx.tt) {t:TypeId} {i:TI} (ht:aG ctx.tt t=some i) {x ix:AV} {ok:Bool} (h:T5 ctx i x ix ok hp nm k):
  ∃r,aK P ctx.X hp nm (fun _=>True) (fun ρ=>Instr.lookup t (x.af ρ) (ix.af ρ) ok) (fun ρ=>r.val.af ρ) r/\ k r:=by
 have h0:=GD h
 clear h
 obtain ⟨kt,et,ki,ei,kT,uT,hd,h1,h2,h3,h4,h5,h6,h⟩:=h0
 split at h<;>try (exact h.elim)
 rename_i n
 split at h<;>try (exact h.elim)
 rename_i ka j7 NU l c hn
 split at h<;>try (exact h.elim)
 rename_i oS
 split at h<;>try (exact h.elim)
 rename_i hty
 obtain ⟨rfl,rfl⟩:=hty
 obtain ⟨rfl,rfl,iV⟩:=oS
 obtain ⟨n',iV⟩:=jb iV
 split at h<;>try (exact h.elim)
 rename_i a hk
 obtain ⟨hK,_,h⟩:=h
 refine ⟨_,⟨fun p hp=>absurd hp (by simp),?_⟩,h _ rfl⟩
 intro ax W ρ Kn Γ w _ _ dY hfr hst
 have hnm: ¬Kn nm:=by simpa using hfr 0 (by simp)
 have cj:Γ n=some (.oQ (aF ki.desc) j7 NU l c none):=by rw [dY n (by simp),hn]
 have kU:Γ c=some (.set n'):=by rw [dY c (by simp),iV]
 have kn:=(hst.kn n _ cj).1
 have kc:=(hst.kn c _ kU).1
 obtain ⟨_,_,gnd,b,es,dI,hb,hh,gr,VJ⟩:=hst.at_ n _ cj
 obtain ⟨_,se,sp⟩:=hst.at_ c _ kU
 obtain ⟨l2,a1,a2⟩:=eL.look _ _ _ gr
 have hkey:=sx h3 hk w ρ
 have hfind:=qI id hT h1 h3 hK a w es.toList l2 a1
 have Jw:=oY hT h1 hK es.isEmpty a w
 have hfound:=eL.found h3 (x:=a) _ _ _ l2 0 gr a1 a2
 have YO:(AV.v (.one (.mp n))).af ρ= .map (some b):=by simp only [AV.af,A0.af,Cell.af,hb]
 have fin: ∀(xl:Loc),xl.bq=none->xl.bW= []->(Instr.lookup t ((AV.v (.one (.mp n))).af ρ) (ix.af ρ) false).run P w= .ok (.slice xl.base xl.len xl.cap) w->(∀fz pm,bh fz pm (aY ρ nm xl) nm (.gv n c j7 NU a (fQ l a [])) w)->
   ∃ρ' w',(Instr.lookup t ((AV.v (.one (.mp n))).af ρ) (ix.af ρ) false).run P w= .ok ((AV.v (.one (.full nm))).af ρ') w'/\ (∀m,Kn m->ρ' m=ρ m)/\ (AV.v (.one (.full nm))).ok (jO Kn nm {val:= .v (.one (.full nm)),fresh:= [.gv n c j7 NU a (fQ l a [])],aC:= [n,c]})/\
    St ax W ρ' (jO Kn nm {val:= .v (.one (.full nm)),fresh:= [.gv n c j7 NU a (fQ l a [])],aC:= [n,c]}) (bC {val:= .v (.one (.full nm)),fresh:= [.gv n c j7 NU a (fQ l a [])],aC:= [n,c]} nm Γ) w':=by
  intro xl e1 e2 hrun br
  refine ⟨aY ρ nm xl,w,?_,cG hnm,.inr ⟨Nat.le_refl _,by simp⟩,?_⟩
  ·rw [hrun]
   simp only [AV.af,A0.af,Cell.af,aY,if_true]
  ·rw [tD,QY _ _ _ _ _ rfl]
   exact aeI hst hnm e1 e2 ⟨.inl kn,.inl kc⟩ (fun _ h=>by cases h) br
 have uX: ∀xl,aY ρ nm xl nm=xl:=fun xl=>by simp [aY]
 have afL: ∀xl,aY ρ nm xl c=ρ c:=fun xl=>cG hnm c kc
 have hzero:=hT.z h2 w
 rw [h5] at hzero
 cases br:F6 a l2 0 with
 |none=>
  rw [br] at hfind hfound
  have e2:fQ l a []= []:=by simp [fQ,hfound]
  refine fin {es:=NU.size} rfl rfl ?_ fun fz pm=> ?_
  ·rw [YO,hkey]
   simp only [Option.map_none] at hfind
   simp only [Instr.lookup,Sem.run_bind,hT.u ht,hd,Result.andThen_ok,MapKept.run_getObj_map hh,Sem.run_pure,Jw,hfind,hzero,Bool.false_eq_true,if_false]
  ·rw [bh,uX,e2]
   exact ⟨rfl,rfl,rfl,Nat.le_refl _,h4,.inl ⟨rfl,rfl,rfl⟩⟩
 |some q=>
  obtain ⟨j,v⟩:=q
  rw [br] at hfind hfound
  obtain ⟨e,z,f1,f2,f3,f4,f5,f6,f7⟩:=hfound
  have e2:fQ l a []=z:=by simp [fQ,f2]
  have hrun:(Instr.lookup t ((AV.v (.one (.mp n))).af ρ) (ix.af ρ) false).run P w= .ok (.slice e.base e.len e.cap) w:=by
   rw [YO,hkey]
   simp only [Option.map_some,id] at hfind
   simp only [Instr.lookup,Sem.run_bind,hT.u ht,hd,Result.andThen_ok,MapKept.run_getObj_map hh,Sem.run_pure,Jw,hfind,Bool.false_eq_true,if_false,f3]
  refine fin {base:=e.base,len:=e.len,cap:=e.cap,es:=NU.size} rfl rfl hrun fun fz pm=> ?_
  rw [bh,uX,afL,e2]
  rcases se e f1 with ⟨g1,g2,g3,g4,g5⟩|⟨b',rest,QS,g1,g2,g3,g4,g5⟩
  ·have hz:z= []:=List.eq_nil_of_length_eq_zero (by rw [←f6,g5])
   exact ⟨rfl,f6,rfl,by rw [hz];exact Nat.zero_le _,h4,.inl ⟨hz,g4,g3⟩⟩
  ·exact ⟨rfl,f6,rfl,by rw [<- f6];exact g4,h4,.inr ⟨e,b',f1,g1,f4,rfl,g2,rfl,rfl,f5,f7⟩⟩
theorem N5 (hT:aU P ctx.tt) {t t' e e' ty:TypeId} {ei:TI} (ht:P.underlying t=some (.slice e)) (ht':P.underlying t'=some (.slice e')) (jZ:aG ctx.tt e=some ei) {x y:AV} (h:Mt x y ei hp nm k):
  ∃r,aK P ctx.X hp nm (fun Kn=>x.ok Kn/\ y.ok Kn) (fun ρ=>Builtin.append_ #[t,t'] ty #[x.af ρ,y.af ρ]) (fun ρ=>r.val.af ρ) r/\ k r:=by
 unfold Mt at h
 split at h<;>try (exact h.elim)
 rename_i m
 split at h<;>try (exact h.elim)
 rename_i n c kT uT a l0 hm
 split at h<;>try (exact h.elim)
 rename_i ka j7 NU l c' hn
 split at h<;>try (exact h.elim)
 rename_i hc
 obtain ⟨rfl,iV,hsz,hby,hz0⟩:=hc
 obtain ⟨n',iV⟩:=jb iV
 split at h<;>try (exact h.elim)
 rename_i hty
 obtain ⟨rfl,rfl⟩:=hty
 split at h<;>try (exact h.elim)
 rename_i p off len cap
 split at h<;>try (exact h.elim)
 rename_i cs et eo
 split at h<;>try (exact h.elim)
 rename_i ys tc0 hys
 obtain ⟨hlen,h⟩:=bn h
 simp only [Bool.and_eq_true,decide_eq_true_eq] at hlen
 refine ⟨_,⟨fun q hq=> ?_,?_⟩,h⟩
 ·simp only [List.mem_cons,List.not_mem_nil,or_false] at hq
  rcases hq with rfl|rfl
  ·rw [hn];simp
  ·rw [iV];simp
 intro ax W ρ Kn Γ w hX hok dY hfr hst
 have hn0: ¬Kn nm:=by simpa using hfr 0 (by simp)
 have oE: ¬Kn (nm+1):=hfr 1 (by simp)
 have Rx: ¬Kn (nm+2):=hfr 2 (by simp)
 have vU:Γ m=some (.gv n c' kT uT a l0):=by rw [dY m (by simp),hm]
 have yh:Γ n=some (.oQ ka kT uT l c' none):=by rw [dY n (by simp),hn]
 have kU:Γ c'=some (.set n'):=by rw [dY c' (by simp),iV]
 have RF:Γ p=some (.cells cs et):=by rw [dY p (by simp),eo]
 have kn:=(hst.kn n _ yh).1
 have kc:=(hst.kn c' _ kU).1
 have kp:=(hst.kn p _ RF).1
 have Kr:uT.flat=true:=(hst.at_ n _ yh).2.1
 obtain ⟨bu,q1,q2,q3,q4,tx⟩:=aeH hst vU yh kU hn0 oE
 generalize Jz:(fun y=>if y=nm+1 then some (aI.row uT l0 1) else if y=nm then some (.set n) else if y=c' then none else if y=n then some (.oQ ka kT uT l nm (some a)) else Γ y)=yb at tx
 have g1:yb (nm+1)=some (.row uT l0 1):=by rw [<- Jz];simp
 have hpn:p≠n:=by rintro rfl;rw [RF] at yh;cases yh
 have hpc:p≠c':=by rintro rfl;rw [RF] at kU;cases kU
 have YK:p≠nm:=by rintro rfl;exact hn0 kp
 have hp1:p≠nm+1:=by rintro rfl;exact oE kp
 have g2:yb p=some (.cells cs et):=by rw [<- Jz];simp [hpn,hpc,YK,hp1,RF]
 obtain ⟨aiv,_⟩:=CN (eo:=yb) Kr _ _ _ _ hys
 have Yu:Ag (.v (.one (.full (nm+1)))) (.v (.one (.sl p off len cap))) ei yb (nm+2) fun r=>r= {val:= .v (.one (.full (nm+2))),fresh:= [.row uT (l0++ys) 1],writes:= [(nm+1,.gone)],aC:= [nm+1,p]} :=by
  unfold Ag Fl
  simp only [g1]
  rw [if_neg (by decide),if_pos ⟨hsz,hby,hz0⟩]
  have hd:b7 yb (.sl uT) [.sl p off len cap]=some (ys,[],[p]):=by
   simp only [b7,ju Kr,Bool.true_and,hlen.1,decide_true,if_true,g2,aiv]
  rw [hd]
  simp only [za,Kr,if_true]
  simp [kB,ob,hlen.2,pX]
 obtain ⟨r,hr,rfl⟩:=DA (P:=P) (ctx:=ctx) (ty:=ty) hT ht ht' jZ Yu
 obtain ⟨ρ',w',e1,e2,e3,e4⟩:=hr.2 ax W bu _ yb w hX ⟨.inr (.inr rfl),.inl kp⟩ (fun _ _=>rfl) (fun i hi=>by
  have:i=0:=by simpa using hi
  subst this
  rintro (h1|h1|h1)
  ·exact Rx h1
  ·omega
  ·omega) tx
 have ey:(AV.v (.one (.sl p off len cap))).af bu=(AV.v (.one (.sl p off len cap))).af ρ:=by
  simp only [AV.af,A0.af,Cell.af,addrOf,q1 p kp]
 have ex:(AV.v (.one (.full (nm+1)))).af bu=(AV.v (.one (.full m))).af ρ:=by
  simp only [AV.af,A0.af,Cell.af,q2,q3,q4]
 refine ⟨ρ',w',by have h9:=e1;dsimp only at h9 ⊢;rw [<- ey,<- ex];exact h9,fun y hy=>by rw [e2 y (.inl hy),q1 y hy],.inr (by simp),?_⟩
 have hK: ∀r1:Rec,r1.fresh.length=1-> ∀r2:Rec,r2.fresh.length=3->jO (fun y=>Kn y\/ y=nm\/ y=nm+1) (nm+2) r1=jO Kn nm r2:=fun r1 h1 r2 h2=>by
  funext y
  simp only [jO,h1,h2]
  apply propext
  constructor
  ·rintro ((h|h|h)|h)
   ·exact .inl h
   ·exact .inr (by omega)
   ·exact .inr (by omega)
   ·exact .inr (by omega)
  ·rintro (h|h)
   ·exact .inl (.inl h)
   ·by_cases h3:y=nm
    ·exact .inl (.inr (.inl h3))
    ·by_cases h4:y=nm+1
     ·exact .inl (.inr (.inr h4))
     ·exact .inr (by omega)
 rw [hK _ rfl {val:= .v (.one (.full (nm+2))),fresh:= [.set n,.gone,.row uT (l0++ys) 1],writes:= [(n,.oQ ka kT uT l nm (some a)),(c',.gone)],aC:= [m,n,c',p]} rfl] at e4
 have hH:bC {val:=AV.v (.one (.full (nm+2))),fresh:= [.row uT (l0++ys) 1],writes:= [(nm+1,.gone)],aC:= [nm+1,p]} (nm+2) yb=
   bC {val:= .v (.one (.full (nm+2))),fresh:= [.set n,.gone,.row uT (l0++ys) 1],writes:= [(n,.oQ ka kT uT l nm (some a)),(c',.gone)],aC:= [m,n,c',p]} nm Γ:=by
  have hnc:n≠c':=by rintro rfl;rw [yh] at kU;cases kU
  have Ry:n≠nm/\ n≠nm+1/\ n≠nm+2:=⟨by rintro rfl;exact hn0 kn,by rintro rfl;exact oE kn,by rintro rfl;exact Rx kn⟩
  have VO:c'≠nm/\ c'≠nm+1/\ c'≠nm+2:=⟨by rintro rfl;exact hn0 kc,by rintro rfl;exact oE kc,by rintro rfl;exact Rx kc⟩
  funext y
  simp only [bC,cf,List.length_singleton,List.length_cons,List.length_nil]
  rw [<- Jz]
  by_cases y0:y=nm
  ·rw [y0]
   have c1: ¬(nm+2<=nm/\ nm<nm+2+(0+1)):=by omega
   have c2:nm<=nm/\ nm<nm+(0+1+1+1):=by omega
   rw [if_neg c1,if_pos c2]
   simp [live]
  by_cases y1:y=nm+1
  ·rw [y1]
   have c1: ¬(nm+2<=nm+1/\ nm+1<nm+2+(0+1)):=by omega
   have c2:nm<=nm+1/\ nm+1<nm+(0+1+1+1):=by omega
   rw [if_neg c1,if_pos c2]
   simp [live]
  by_cases y2:y=nm+2
  ·rw [y2]
   have c1:nm+2<=nm+2/\ nm+2<nm+2+(0+1):=by omega
   have c2:nm<=nm+2/\ nm+2<nm+(0+1+1+1):=by omega
   rw [if_pos c1,if_pos c2]
   simp [live]
  have c1: ¬(nm+2<=y/\ y<nm+2+(0+1)):=by omega
  have c2: ¬(nm<=y/\ y<nm+(0+1+1+1)):=by omega
  have y1': ¬nm+1=y:=fun q=>y1 q.symm
  simp only [c1,c2,if_false,y0,y1,y1']
  by_cases y3:y=c'
  ·subst y3
   simp [live]
  by_cases y4:y=n
  ·subst y4
   have y3': ¬c'=y:=fun q=>y3 q.symm
   simp [live,y3,y3']
  ·have y3': ¬c'=y:=fun q=>y3 q.symm
   have y4': ¬n=y:=fun q=>y4 q.symm
   simp [y3,y4,y3',y4']
 rw [hH] at e4
 exact e4
theorem M0 {i:TI} {t:TypeId} (h:OZ ctx i nm k): ∃r,aK P ctx.X hp nm (fun _=>True) (fun _=>Instr.makeMap t none) (fun ρ=>r.val.af ρ) r/\ k r:=by
 have h0:=GD h
 clear h
 obtain ⟨kt,et,ki,ei,kT,uT,hd,h1,h2,h3,h4,h5,h6,h⟩:=h0
 refine ⟨_,⟨fun p hp=>absurd hp (by simp),?_⟩,h⟩
 intro ax W ρ Kn Γ w _ _ _ hfr hst
 have hn: ¬Kn nm:=by simpa using hfr 0 (by simp)
 have oE: ¬Kn (nm+1):=hfr 1 (by simp)
 have hsz:=hst.fr.size
 have rZ:St ax W (aY ρ nm {bq:=some w.heap.size}) (yz Kn nm) (bH Γ nm (.map false false kT .bool [])) (w.alloc (.map #[] 0)):=by
  refine hst.swap (G:= []) (o:= .map false false kT .bool []) hn (hst.fr.alloc _) (fun b hb _=>Below.heap_alloc _ _ _ hb) (fun b hb=> ?_) (fun m p hp=> ?_) trivial (fun _ h=>by cases h) fun _ _=> ?_
  ·cases hb;exact ⟨.inl (Nat.le_refl _),.inl hsz⟩
  ·unfold bH at hp
   split at hp
   ·rename_i e1;cases hp;exact .inl ⟨e1,rfl⟩
   ·rename_i e1;exact .inr ⟨e1,by simp,hp⟩
  ·exact ⟨h3,rfl,w.heap.size,#[],0,by simp [aY],by show (w.heap.push _)[w.heap.size]? =_;simp,rfl⟩
 generalize agt:aY ρ nm {bq:=some w.heap.size} =bu at rZ
 have r0:bu nm= {bq:=some w.heap.size} :=by rw [<- agt];simp [aY]
 have YF: ¬yz Kn nm (nm+1):=by rintro (h|h);exact oE h;omega
 have hold:=cG (ρ:=bu) (x:= {}) YF
 have rn:aY bu (nm+1) {} nm= {bq:=some w.heap.size} :=by rw [hold nm (.inr rfl),r0]
 have rn1:aY bu (nm+1) {} (nm+1)= {} :=by simp [aY]
 have hhp:(w.alloc (.map #[] 0)).heap[w.heap.size]? =some (.map #[] 0):=by show (w.heap.push _)[w.heap.size]? =_;simp
 refine ⟨aY bu (nm+1) {},w.alloc (.map #[] 0),?_,fun m hm=>by rw [hold m (.inl hm),<- agt];exact cG hn m hm,.inr (by simp),?_⟩
 ·simp only [AV.af,A0.af,Cell.af,rn];rfl
 have key: ∀y b,(bH (bH Γ nm (.oQ (aF ki.desc) kT uT [] (nm+1) none)) (nm+1) (.set nm) y).isSome=true->(aY bu (nm+1) {} y).has b->(bH Γ nm (.map false false kT .bool []) y).isSome=true/\ (bu y).has b:=fun y b ha hb=>by
  by_cases e1:y=nm+1
  ·subst e1
   rw [rn1] at hb
   exact absurd (jI.1 hb) (fun h=>by cases h)
  ·simp only [bH,aY,if_neg e1] at ha hb ⊢
   by_cases e2:y=nm
   ·subst e2;simp only [if_true] at ha ⊢;exact ⟨rfl,hb⟩
   ·simp only [if_neg e2] at ha ⊢;exact ⟨ha,hb⟩
 have zY:St ax W (aY bu (nm+1) {}) (fun y=>Kn y\/ y=nm\/ y=nm+1) (bH (bH Γ nm (.oQ (aF ki.desc) kT uT [] (nm+1) none)) (nm+1) (.set nm)) (w.alloc (.map #[] 0)):=by
  refine rZ.uw hold (fun y hy=>hy.imp id .inl) (fun y b ha hb=>⟨y,key y b ha hb⟩) (fun y z b ha hb hc hd=>rZ.dK y z b (key y b ha hc).1 (key z b hb hd).1 (key y b ha hc).2 (key z b hb hd).2) (fun b ⟨y,S,ha,hb⟩=> ?_) fun y p hp=> ?_
  ·simp only [bH] at ha
   split at ha
   ·cases ha
   ·split at ha
    ·cases ha
    ·rename_i e1 e2
     exact ⟨y,S,by simp only [bH,if_neg e2];exact ha,hb⟩
  ·by_cases e1:y=nm+1
   ·subst e1
    simp only [bH,if_true,Option.some.injEq] at hp
    subst hp
    refine .inr ⟨.inr (.inr rfl),.inr (.inl rfl),.inl ⟨_,rfl⟩,fun _=> ?_⟩
    rw [bh,rn1]
    exact ⟨rfl,fun e he=>(by cases he),List.Pairwise.nil⟩
   ·by_cases e2:y=nm
    ·subst e2
     simp only [bH,if_neg e1,if_true,Option.some.injEq] at hp
     subst hp
     refine .inr ⟨.inr (.inl rfl),.inr (.inr rfl),.inr (by rw [rn]),fun _=> ?_⟩
     exact ⟨h3,h4,List.nodup_nil,w.heap.size,#[],0,by rw [rn],hhp,by rw [rn1];exact ⟨trivial,fun x hx=>(by cases hx),List.nodup_nil⟩⟩
    ·left
     simp only [bH,if_neg e1,if_neg e2] at hp ⊢
     exact hp
 have eK:jO Kn nm {val:= .v (.one (.mp nm)),fresh:= [.oQ (aF ki.desc) kT uT [] (nm+1) none,.set nm]} =fun y=>Kn y\/ y=nm\/ y=nm+1:=by
  funext y;simp only [jO,List.length_cons,List.length_nil];apply propext;constructor
  ·rintro (h|h)
   ·exact .inl h
   ·exact .inr (by omega)
  ·rintro (h|h)
   ·exact .inl h
   ·exact .inr (by omega)
 have eH:bC {val:= .v (.one (.mp nm)),fresh:= [.oQ (aF ki.desc) kT uT [] (nm+1) none,.set nm]} nm Γ=bH (bH Γ nm (.oQ (aF ki.desc) kT uT [] (nm+1) none)) (nm+1) (.set nm):=by
  funext y
  simp only [bC,cf,List.length_cons,List.length_nil,bH]
  by_cases e1:y=nm+1
  ·rw [e1,if_pos (by omega)];simp [live]
  ·by_cases e2:y=nm
   ·rw [e2,if_pos (by omega)];simp [live]
   ·rw [if_neg (by omega),if_neg e1,if_neg e2]
 rw [eK,eH]
 exact zY
def GU (k:Ty) {β:Type} (x:k.T) (E:sZ):List (k.T×β)->List sZ->List sZ
 | [],ns=>E::ns
 |p::l,ns=>match p8 k x p.1 with
  |true=>E::ns
  |false=>match ns with
   |n::r=>n::GU k x E l r
   | []=> []
theorem AP {kT:Ty} {β:Type} {x:kT.T} {E e:sZ} : ∀(l:List (kT.T×β)) (ns:List sZ),e∈GU kT x E l ns->e=E\/ e∈ns
 | [],ns,h=>by unfold GU at h;exact List.mem_cons.1 h
 |p::l,ns,h=>by
  unfold GU at h
  cases hx:p8 kT x p.1 with
  |true=>rw [hx] at h;exact List.mem_cons.1 h
  |false=>
   rw [hx] at h
   cases ns with
   |nil=>cases h
   |cons n r=>
    rcases List.mem_cons.1 h with h|h
    ·exact .inr (by simp [h])
    ·exact (AP l r h).imp id fun h=>by simp [h]
theorem Kw {kT:Ty} {β:Type} {x:kT.T} {E:sZ} : ∀(l:List (kT.T×β)) (ns:List sZ),(ns.Pairwise fun e e'=> ∀b,e.bq=some b->e'.bq≠some b)->(∀e∈ns,∀b,E.bq=some b->e.bq≠some b)->(GU kT x E l ns).Pairwise fun e e'=> ∀b,e.bq=some b->e'.bq≠some b
 | [],ns,h,hE=>by unfold GU;exact List.pairwise_cons.2 ⟨fun e he=>hE e he,h⟩
 |p::l,ns,h,hE=>by
  unfold GU
  cases hx:p8 kT x p.1 with
  |true=>exact List.pairwise_cons.2 ⟨fun e he=>hE e he,h⟩
  |false=>
   cases ns with
   |nil=>exact List.Pairwise.nil
   |cons n r=>
    obtain ⟨h1,h2⟩:=List.pairwise_cons.1 h
    refine List.pairwise_cons.2 ⟨fun e he b hb hb'=> ?_,Kw l r h2 fun e he=>hE e (by simp [he])⟩
    rcases AP l r he with rfl|he
    ·exact hE n (by simp) b hb' hb
    ·exact h1 e he b hb hb'
theorem eL.same {ka:Bool} {kT uT:Ty} {x:kT.T} : ∀(es:List MapEntry) (l:List (kT.T×List uT.T)) (ns:List sZ),(∀p∈l,p8 kT x p.1=false)->eL ka kT uT (some x) es l ns->eL ka kT uT none es l ns
 | [],[],[],_,_=>trivial
 | [],[],n::ns,_,h=>h.elim
 | [],p::l,_,_,h=>h.elim
 |e::es,[],_,_,h=>h.elim
 |e::es,p::l,ns,hl,h=>by
  obtain ⟨h1,h2⟩:=h
  simp only [KC,hl p (by simp)] at h2
  cases ns with
  |nil=>exact h2.elim
  |cons n r=>
   obtain ⟨a1,a2,a3,a4,a5,a6⟩:=h2
   exact ⟨h1,a1,a2,a3,a4,a5,eL.same es l r (fun p hp=>hl p (by simp [hp])) a6⟩
def Pk (k:Ty) {β:Type} (x:k.T) (f:MapEntry->MapEntry) (new:MapEntry):List MapEntry->List (k.T×β)->List MapEntry
 |e::es,p::l=>match p8 k x p.1 with
  |true=>f e::es
  |false=>e::Pk k x f new es l
 |es,_=>es++ [new]
theorem Nj {kT:Ty} {β:Type} {x:kT.T} {f:MapEntry->MapEntry} {new:MapEntry} : ∀(es:List MapEntry) (l:List (kT.T×β)) (i:Nat),es.length=l.length->match F6 x l i with
  |none=>Pk kT x f new es l=es++ [new]
  |some (j,_)=>i<=j/\ Pk kT x f new es l=es.modify (j- i) f
 | [],[],i,_=>rfl
 | [],p::l,i,h=>by simp at h
 |e::es,[],i,h=>by simp at h
 |e::es,p::l,i,h=>by
  have ih:=Nj (x:=x) (f:=f) (new:=new) es l (i+1) (by simpa using h)
  unfold F6 Pk
  cases hx:p8 kT x p.1 with
  |true=>exact ⟨Nat.le_refl _,by simp⟩
  |false=>
   dsimp only
   revert ih
   split
   ·intro ih;rw [ih];rfl
   ·rintro ⟨h1,h2⟩
    rename_i j q _
    obtain ⟨d,rfl⟩: ∃d,j=i+1+d:=⟨j- (i+1),by omega⟩
    refine ⟨by omega,?_⟩
    rw [h2,show i+1+d- (i+1)=d by omega,show i+1+d- i=d+1 by omega];rfl
theorem eL.len {ka:Bool} {kT uT:Ty} {q:Option kT.T} : ∀(es:List MapEntry) (l:List (kT.T×List uT.T)) (ns:List sZ),eL ka kT uT q es l ns->es.length=l.length
 | [],[],_,_=>rfl
 | [],p::l,_,h=>h.elim
 |e::es,[],_,h=>h.elim
 |e::es,p::l,ns,h=>by
  obtain ⟨_,h2⟩:=h
  have: ∃ns',eL ka kT uT q es l ns':=by
   split at h2
   ·exact ⟨_,h2⟩
   ·split at h2
    ·exact ⟨_,h2.2.2.2.2.2⟩
    ·exact h2.elim
  obtain ⟨ns',h3⟩:=this
  simp [eL.len es l ns' h3]
theorem eL.put {ka:Bool} {kT uT:Ty} (hk:kT.flat=true) {x:kT.T} {z:List uT.T} {E:sZ} {f:MapEntry->MapEntry} {new:MapEntry} (h1:E.key=⟨kT,x⟩) (h2:E.vals=aH uT z) (h3:E.len=z.length) (h4:E.es=uT.size)
  (hf: ∀e,(f e).key=cJ ka kT x/\ (f e).val= .slice E.base E.len E.cap) (hn:new.key=cJ ka kT x/\ new.val= .slice E.base E.len E.cap): ∀(es:List MapEntry) (l:List (kT.T×List uT.T)) (ns:List sZ),(l.map (·.1)).Nodup->eL ka kT uT (some x) es l ns->
  eL ka kT uT none (Pk kT x f new es l) (kV l x z) (GU kT x E l ns)
 | [],[],[],_,_=>by
  unfold Pk kV GU
  exact ⟨hn.1,by rw [h1],hn.2,h2,h3,h4,trivial⟩
 | [],[],n::ns,_,h=>h.elim
 | [],p::l,_,_,h=>h.elim
 |e::es,[],_,_,h=>h.elim
 |e::es,p::l,ns,zq,h=>by
  obtain ⟨a1,a2⟩:=h
  simp only [List.map_cons,List.nodup_cons] at zq
  unfold Pk kV GU
  cases hx:p8 kT x p.1 with
  |true=>
   simp only [KC,hx] at a2
   have ex:=(nk hk _ _).1 hx
   have hno: ∀q∈l,p8 kT x q.1=false:=fun q hq=>by
    cases hq2:p8 kT x q.1 with
    |false=>rfl
    |true=>
     have:=(nk hk _ _).1 hq2
     exact absurd (List.mem_map.2 ⟨q,hq,by rw [<- this,ex]⟩) zq.1
   exact ⟨(hf e).1,by rw [h1],(hf e).2,h2,h3,h4,eL.same _ _ _ hno a2⟩
  |false=>
   simp only [KC,hx] at a2
   cases ns with
   |nil=>exact a2.elim
   |cons n r=>
    obtain ⟨b1,b2,b3,b4,b5,b6⟩:=a2
    exact ⟨a1,b1,b2,b3,b4,b5,eL.put hk h1 h2 h3 h4 hf hn es l r zq.2 b6⟩
theorem K6 {kT:Ty} {β:Type} (hk:kT.flat=true) {x:kT.T} {z:β} : ∀(l:List (kT.T×β)),(l.map (·.1)).Nodup->((kV l x z).map (·.1)).Nodup/\ ∀y,y∈(kV l x z).map (·.1)->y=x\/ y∈l.map (·.1)
 | [],_=>by unfold kV;exact ⟨by simp,fun y hy=> .inl (by simpa using hy)⟩
 |p::l,h=>by
  simp only [List.map_cons,List.nodup_cons] at h
  unfold kV
  cases hx:p8 kT x p.1 with
  |true=>
   have ex:=(nk hk _ _).1 hx
   subst ex
   exact ⟨by simpa using h,fun y hy=> .inr hy⟩
  |false=>
   obtain ⟨i1,i2⟩:=K6 hk (x:=x) (z:=z) l h.2
   refine ⟨?_,fun y hy=> ?_⟩
   ·simp only [List.map_cons,List.nodup_cons]
    refine ⟨fun hm=> ?_,i1⟩
    rcases i2 _ hm with e|e
    ·rw [(nk hk x p.1).2 e.symm] at hx;cases hx
    ·exact h.1 e
   ·simp only [List.map_cons,List.mem_cons] at hy ⊢
    rcases hy with hy|hy
    ·exact .inr (.inl hy)
    ·exact (i2 y hy).imp id .inr
theorem G9 (hT:aU P ctx.tt) {t:TypeId} {i:TI} (ht:aG ctx.tt t=some i) {x ix v:AV} (h:G8 ctx i x ix v hp nm k):
  ∃r,aK P ctx.X hp nm (fun _=>True) (fun ρ=>Instr.mapUpdate t (x.af ρ) (ix.af ρ) (v.af ρ)) (fun _=>()) r/\ k r/\ r.val=aX:=by
 have h0:=GD h
 clear h
 obtain ⟨kt,et,ki,ei,kT,uT,hd,h1,h2,h3,h4,h5,h6,h⟩:=h0
 split at h<;>try (exact h.elim)
 rename_i n m
 split at h<;>try (exact h.elim)
 rename_i ka j7 NU l c a0 QS l2 rk hn hm
 split at h<;>try (exact h.elim)
 rename_i oS
 split at h<;>try (exact h.elim)
 rename_i hty
 obtain ⟨rfl,rfl⟩:=hty
 obtain ⟨rfl,iV,rE,RC⟩:=oS
 obtain ⟨n',iV⟩:=jb iV
 split at h<;>try (exact h.elim)
 rename_i a z hk hz
 obtain ⟨hK,rfl,_,h⟩:=h
 obtain ⟨e,hz2⟩:=cP hz
 subst e
 dsimp only at hz2
 subst hz2
 refine ⟨_,⟨fun q hq=> ?_,?_⟩,h _ rfl,rfl⟩
 ·simp only [List.mem_cons,List.not_mem_nil,or_false] at hq
  rcases hq with rfl|rfl|rfl
  ·rw [hn];simp
  ·rw [iV];simp
  ·rw [hm];simp
 intro ax W ρ Kn Γ w hX hok dY hfr hst
 have hn0: ¬Kn nm:=by simpa using hfr 0 (by simp)
 have yh:Γ n=some (.oQ (aF ki.desc) j7 QS l c (some a)):=by rw [dY n (by simp),hn]
 have kU:Γ c=some (.set n'):=by rw [dY c (by simp),iV]
 have vU:Γ m=some (.row QS l2 rk):=by rw [dY m (by simp),hm]
 have kn:=(hst.kn n _ yh).1
 have kc:=(hst.kn c _ kU).1
 have km:=(hst.kn m _ vU).1
 have hnc:n≠c:=by rintro rfl;rw [yh] at kU;cases kU
 have hnm:n≠m:=by rintro rfl;rw [yh] at vU;cases vU
 have hcm:c≠m:=by rintro rfl;rw [kU] at vU;cases vU
 obtain ⟨_,_,gnd,b,es,dI,hb,hh,gr,VJ⟩:=hst.at_ n _ yh
 obtain ⟨_,se,sp⟩:=hst.at_ c _ kU
 obtain ⟨m1,m2,m3,sub,_,_,_,m4⟩:=hst.at_ m _ vU
 have m4:=(m4 rE).old RC
 rw [fB h4] at m4
 let E:sZ:= {key:=⟨j7,a⟩,bq:=(ρ m).bq,base:=(ρ m).base,len:=(ρ m).len,cap:=(ρ m).cap,es:=QS.size,vals:=aH QS l2}
 have ahG:Dx w E:=by
  rcases m4 with ⟨f1,f2,f3,f4⟩|⟨b',rest,t',f1,f2,f3,f4⟩
  ·exact .inl ⟨f1,by simp [E,f2,aH,ak],f3,f4,by simp [E,m1,f2]⟩
  ·exact .inr ⟨b',rest,t',f1,f2,f3,by show (ρ m).len<=(ρ m).cap;rw [m1];exact m3,f4⟩
 have hcs:(Γ c).isSome=true:=by rw [kU];rfl
 have hms:(Γ m).isSome=true:=by rw [vU];rfl
 let ns':=GU j7 a E l (ρ c).bW
 let bu:=aY ρ nm {bW:=ns'}
 have r1:bu nm= {bW:=ns'} :=by simp [bu,aY]
 have r2: ∀y,Kn y->bu y=ρ y:=cG hn0
 let yb:HP:=fun y=>if y=nm then some (.set n) else if y=c then none else if y=m then none else Γ y
 have who: ∀y q,(yb y).isSome=true->(bu y).has q->(y=nm/\ ((ρ m).bq=some q\/ ∃e∈(ρ c).bW,e.bq=some q))\/ (y≠nm/\ y≠c/\ y≠m/\ (Γ y).isSome=true/\ (ρ y).has q):=fun y q hy hq=>by
  simp only [yb] at hy
  split at hy
  ·rename_i e1;subst e1
   rw [r1] at hq
   rcases hq with hq|⟨e,he,hq⟩
   ·cases hq
   ·rcases AP _ _ he with rfl|he
    ·exact .inl ⟨rfl,.inl hq⟩
    ·exact .inl ⟨rfl,.inr ⟨e,he,hq⟩⟩
  ·rename_i e1
   split at hy
   ·cases hy
   ·rename_i e2
    split at hy
    ·cases hy
    ·rename_i e3
     obtain ⟨p,hp⟩:=Option.isSome_iff_exists.1 hy
     rw [r2 y (hst.kn y p hp).1] at hq
     exact .inr ⟨e1,e2,e3,hy,hq⟩
 have rZ:St ax W bu (yz Kn nm) yb w:=by
  refine hst.uw r2 (fun _=> .inl) (fun y q hy hq=> ?_) (fun y y' q hy hy' hq VR=> ?_) (fun q ⟨y,S,hy,hS⟩=> ?_) fun y p hp=> ?_
  ·rcases who y q hy hq with ⟨_,h7|h7⟩|⟨_,_,_,h7,h8⟩
   ·exact ⟨m,hms,.inl h7⟩
   ·exact ⟨c,hcs,.inr h7⟩
   ·exact ⟨y,h7,h8⟩
  ·have hto: ∀y,(Γ y).isSome=true→(ρ y).has q→((ρ m).bq=some q∨ ∃e∈(ρ c).bW,e.bq=some q)→y=m∨y=c:=fun y h7 h8 h9=>by
    rcases h9 with h9|h9
    ·exact .inl (hst.dK y m q h7 hms h8 (.inl h9))
    ·exact .inr (hst.dK y c q h7 hcs h8 (.inr h9))
   rcases who y q hy hq with ⟨e1,h7⟩|⟨e1,e2,e3,h7,h8⟩
   ·rcases who y' q hy' VR with ⟨Re,h7'⟩|⟨Re,e2',e3',h7',h8'⟩
    ·rw [e1,Re]
    ·rcases hto y' h7' h8' h7 with h9|h9
     ·exact absurd h9 e3'
     ·exact absurd h9 e2'
   ·rcases who y' q hy' VR with ⟨Re,h7'⟩|⟨Re,e2',e3',h7',h8'⟩
    ·rcases hto y h7 h8 h7' with h9|h9
     ·exact absurd h9 e3
     ·exact absurd h9 e2
    ·exact hst.dK y y' q h7 h7' h8 h8'
  ·simp only [yb] at hy
   split at hy
   ·cases hy
   ·split at hy
    ·cases hy
    ·split at hy
     ·cases hy
     ·exact ⟨y,S,hy,hS⟩
  ·simp only [yb] at hp
   split at hp
   ·rename_i e1;subst e1;cases hp
    refine .inr ⟨.inr rfl,.inl kn,.inl ⟨_,rfl⟩,fun _=> ?_⟩
    rw [bh,r1]
    refine ⟨rfl,fun e he=> ?_,Kw _ _ sp fun e he q hq VR=> ?_⟩
    ·rcases AP _ _ he with rfl|he
     ·exact ahG
     ·exact se e he
    ·exact hcm (hst.dK c m q hcs hms (.inr ⟨e,he,VR⟩) (.inl hq))
   ·split at hp
    ·cases hp
    ·split at hp
     ·cases hp
     ·exact .inl hp
 have Ry:n≠nm:=by rintro rfl;exact hn0 kn
 have YP:yb n=some (.oQ (aF ki.desc) j7 QS l c (some a)):=by simp only [yb];rw [if_neg Ry,if_neg hnc,if_neg hnm];exact yh
 have gS:(bu n).bq=some b:=by rw [r2 n kn];exact hb
 obtain ⟨l3,a1,a2⟩:=eL.look _ _ _ gr
 have hkey:=sx h3 hk w ρ
 have hfind:=qI id hT h1 h3 hK a w es.toList l3 a1
 have Jw:=oY hT h1 hK false a w
 have YO:(AV.v (.one (.mp n))).af ρ= .map (some b):=by simp only [AV.af,A0.af,Cell.af,hb]
 have hvc:(AV.v (.one (.full m))).af ρ= .slice (ρ m).base (ρ m).len (ρ m).cap:=rfl
 have hlt:b<w.heap.size:=(Array.getElem?_eq_some_iff.1 hh).1
 have hown:=hst.own n b (by simp [yh]) hb
 have YG:es.toList.length=l3.length:=by
  have h9:=congrArg List.length a1
  unfold ye at h9
  rw [List.length_map,List.length_map] at h9
  exact h9
 have ac1:es.toList.length=l.length:=eL.len _ _ _ gr
 let f:MapEntry->MapEntry:=fun e=> {e with key:=cJ (aF ki.desc) j7 a,val:= .slice (ρ m).base (ρ m).len (ρ m).cap}
 let new:MapEntry:= {key:=cJ (aF ki.desc) j7 a,val:= .slice (ρ m).base (ρ m).len (ρ m).cap,born:=dI}
 have ahB:=eL.put (ka:=aF ki.desc) h3 (x:=a) (z:=l2) (E:=E) (f:=f) (new:=new) rfl rfl m1 rfl (fun _=>⟨rfl,rfl⟩) ⟨rfl,rfl⟩ _ _ _ gnd gr
 have fin: ∀(es':Array MapEntry) (mH:Nat),es'.toList=Pk j7 a f new es.toList l->Stp es' mH->
   (Instr.mapUpdate t ((AV.v (.one (.mp n))).af ρ) (ix.af ρ) ((AV.v (.one (.full m))).af ρ)).run P w= .ok () {w with heap:=w.heap.setIfInBounds b (.map es' mH)} ->
   ∃ρ' w',(Instr.mapUpdate t ((AV.v (.one (.mp n))).af ρ) (ix.af ρ) ((AV.v (.one (.full m))).af ρ)).run P w= .ok () w'/\ (∀m,Kn m->ρ' m=ρ m)/\ aX.ok (jO Kn nm {val:=aX,fresh:= [.set n],writes:= [(n,.oQ (aF ki.desc) j7 QS (kV l a l2) nm none),(c,.gone),(m,.gone)],aC:= [n,c,m]})/\
    St ax W ρ' (jO Kn nm {val:=aX,fresh:= [.set n],writes:= [(n,.oQ (aF ki.desc) j7 QS (kV l a l2) nm none),(c,.gone),(m,.gone)],aC:= [n,c,m]}) (bC {val:=aX,fresh:= [.set n],writes:= [(n,.oQ (aF ki.desc) j7 QS (kV l a l2) nm none),(c,.gone),(m,.gone)],aC:= [n,c,m]} nm Γ) w':=by
  intro es' mH hes aip hrun
  refine ⟨bu,_,hrun,r2,w4 _,?_⟩
  have eK:jO Kn nm {val:=aX,fresh:= [.set n],writes:= [(n,.oQ (aF ki.desc) j7 QS (kV l a l2) nm none),(c,.gone),(m,.gone)],aC:= [n,c,m]} =yz Kn nm:=by
   funext y;simp only [jO,yz,List.length_singleton];congr 1;apply propext;omega
  have eH:bC {val:=aX,fresh:= [.set n],writes:= [(n,.oQ (aF ki.desc) j7 QS (kV l a l2) nm none),(c,.gone),(m,.gone)],aC:= [n,c,m]} nm Γ=bH yb n (.oQ (aF ki.desc) j7 QS (kV l a l2) nm none):=by
   funext y
   simp only [bC,cf,List.length_singleton,bH,yb]
   by_cases e0:y=nm
   ·rw [e0,if_pos (by omega),if_neg (Ne.symm Ry)];simp [live]
   ·rw [if_neg (by omega)]
    by_cases e1:y=m
    ·have hm0:m≠nm:=fun q=>e0 (e1.trans q)
     rw [e1]
     simp [live,hnm,Ne.symm hnm,hcm,Ne.symm hcm,hm0]
    ·by_cases e2:y=c
     ·have hc0:c≠nm:=fun q=>e0 (e2.trans q)
      rw [e2]
      simp [live,hnc,Ne.symm hnc,hcm,Ne.symm hcm,hc0]
     ·by_cases e3:y=n
      ·subst e3;simp [live,Ne.symm e1,Ne.symm e2]
      ·simp [Ne.symm e1,Ne.symm e2,Ne.symm e3,e0,e1,e2,e3]
  rw [eK,eH]
  have GL:=MapKept.heap_set (o':=Obj.map es' mH) hh
  refine rZ.TC YP gS (.inr rfl) (fun _ h=>by cases h) ⟨hst.fr.os,hst.fr.tape,hst.fr.output,by simpa using hst.fr.size,fun k hk hnb=> ?_,hst.fr.QL⟩ (fun b' hne=>GL.2 b' hne) (by simp) fun _=> ?_
  ·have hne:k≠b:=by
    rintro rfl
    rcases hown with h|h
    ·omega
    ·exact hnb h
   rw [<- hst.fr.block k hk hnb]
   exact GL.2 k hne
  ·refine ⟨h3,h4,(K6 h3 l gnd).1,b,es',mH,gS,GL.1,?_,aip⟩
   rw [hes,r1]
   exact ahB
 cases br:F6 a l3 0 with
 |none=>
  rw [br] at hfind
  simp only [Option.map_none] at hfind
  have hp1:=Nj (x:=a) (f:=f) (new:=new) es.toList l 0 ac1
  have hkk:=F7 a l l3 0 a2
  rw [br] at hkk
  cases oD:F6 a l 0 with
  |some q=>rw [oD] at hkk;cases hkk
  |none=>
   rw [oD] at hp1
   refine fin (es.push new) (dI+1) ?_ ?_ ?_
   ·rw [hp1];simp
   ·obtain ⟨s1,s2⟩:=VJ
    refine ⟨fun x hx=> ?_,?_⟩
    ·rw [Array.toList_push] at hx
     rcases List.mem_append.1 hx with hx|hx
     ·have:=s1 x hx;omega
     ·simp only [List.mem_singleton] at hx
      subst hx
      exact Nat.lt_succ_self _
    ·rw [Array.toList_push,List.map_append,List.nodup_append]
     refine ⟨s2,by simp,fun x hx y hy=> ?_⟩
     simp only [List.map_cons,List.map_nil,List.mem_singleton] at hy
     obtain ⟨z,hz,rfl⟩:=List.mem_map.1 hx
     have:=s1 z hz
     rw [hy]
     exact Nat.ne_of_lt this
   ·rw [YO,hkey,hvc]
    simp only [Instr.mapUpdate,Sem.run_bind,hT.u ht,hd,Result.andThen_ok,MapKept.run_getObj_map hh,Jw,hfind,MapKept.run_setObj_map _ hh]
    rfl
 |some q=>
  obtain ⟨j,q2⟩:=q
  rw [br] at hfind
  simp only [Option.map_some,id] at hfind
  have hkk:=F7 a l l3 0 a2
  rw [br] at hkk
  have hp1:=Nj (x:=a) (f:=f) (new:=new) es.toList l 0 ac1
  cases oD:F6 a l 0 with
  |none=>rw [oD] at hkk;cases hkk
  |some q'=>
   obtain ⟨j',q2'⟩:=q'
   rw [oD] at hkk hp1
   simp only [Option.map_some,Option.some.injEq] at hkk
   subst hkk
   simp only [Nat.sub_zero,Nat.zero_le,true_and] at hp1
   have hput:=Mv a q2 l3 0
   rw [br] at hput
   obtain ⟨_,p,hp2,hp3,_⟩:=hput
   rw [Nat.sub_zero] at hp2
   have hpa:a=p.1:=(nk h3 _ _).1 hp3
   have hj: ∃e,es.toList[j]? =some e/\ e.key=cJ (aF ki.desc) j7 a:=by
    have:(es.toList.map (fun e=>(e.key,e.val)))[j]? =some (cJ (aF ki.desc) j7 p.1,p.2):=by
     rw [a1];unfold ye;rw [List.getElem?_map,hp2];rfl
    rw [List.getElem?_map] at this
    obtain ⟨e,OD,AH⟩:=Option.map_eq_some_iff.1 this
    exact ⟨e,OD,by rw [hpa];exact congrArg Prod.fst AH⟩
   obtain ⟨e,OD,AH⟩:=hj
   have hej:es[j]? =some e:=by rw [<- Array.getElem?_toList];exact OD
   have YL:(Instr.keyThatStays (((es[j]?).map (·.key)).getD (cJ (aF ki.desc) j7 a)) (cJ (aF ki.desc) j7 a)).run P w= .ok (cJ (aF ki.desc) j7 a) w:=by
    rw [hej]
    simp only [Option.map_some,Option.getD_some,AH,Instr.keyThatStays]
    rw [if_pos (yL h3 _ _ 9999 (U3 hT h1 hK a w))]
    rfl
   refine fin (es.modify j f) dI ?_ ?_ ?_
   ·rw [hp1];simp
   ·obtain ⟨s1,s2⟩:=VJ
    have hbm:(es.modify j f).toList.map (·.born)=es.toList.map (·.born):=by
     rw [Array.toList_modify]
     apply List.ext_getElem?
     intro k
     rw [List.getElem?_map,List.getElem?_map,List.getElem?_modify]
     cases es.toList[k]? with
     |none=>rfl
     |some z=>simp only [Option.map_some];split<;>rfl
    refine ⟨fun x hx=> ?_,by rw [hbm];exact s2⟩
    have:x.born∈es.toList.map (·.born):=by rw [<- hbm];exact List.mem_map.2 ⟨x,hx,rfl⟩
    obtain ⟨z,hz,e⟩:=List.mem_map.1 this
    rw [<- e];exact s1 z hz
   ·rw [YO,hkey,hvc]
    simp only [Instr.mapUpdate,Sem.run_bind,hT.u ht,hd,Result.andThen_ok,MapKept.run_getObj_map hh,Jw,hfind,YL,MapKept.run_setObj_map _ hh]
    rfl
theorem Mw (hT:aU P ctx.tt) {b:Builtin} {tys:Array TypeId} {args:List AV} (h:Gc ctx b tys.toList args hp nm k) (ty:TypeId) (cs:Array Bool):
  ∃r,aK P ctx.X hp nm (fun Kn=> ∀x∈args,x.ok Kn) (fun ρ=>builtin b tys ty cs (args.map (AV.af ρ)).toArray) (fun ρ=> .value (r.val.af ρ)) r/\ k r:=by
 unfold Gc at h
 split at h
 ·rename_i x
  split at h
  ·rename_i t r YM
   split at h
   ·rename_i i hi
    have ht0:tys[0]? =some t:=by rw [<- Array.getElem?_toList,YM];rfl
    split at h
    ·rename_i hd
     refine ⟨_,aK.pure ?_,h⟩
     intro ax W ρ Kn Γ w _ _ _ _
     exact ⟨by simp [AV.af,A0.af,Cell.af,builtin,Builtin.len_,ht0,hT.u hi,hd,goInt,gA],trivial⟩
    ·rename_i e0 p0 hd
     split at h
     ·obtain ⟨n,c,j,q,t',l,st,kn,u,y,g,hm,hn,hc,hj,hq,h⟩:=rh h
      refine ⟨_,aK.pure ?_,h⟩
      intro ax W ρ Kn Γ w _ _ dY hst
      obtain ⟨_,g4,_⟩:=Ug hst (by rw [dY p0 (by simp),hm]) (by rw [dY n (by simp),hn]) (by rw [dY c (by simp),hc]) hj hq
      exact ⟨by simp [AV.af,A0.af,Cell.af,builtin,Builtin.len_,ht0,hT.u hi,hd,goInt,gA,g4],trivial⟩
     obtain ⟨m,s,q,u,l,rk,len,tc,he,h,XA,hm2,_,_,_,_,_,hall⟩:=ri h
     refine ⟨_,aK.pure ?_,h⟩
     intro ax W ρ Kn Γ w _ _ dY hst
     obtain ⟨_,_,_,g4,_⟩:=hall ax W ρ Kn Γ w dY hst
     exact ⟨by simp [AV.af,A0.af,Cell.af,builtin,Builtin.len_,ht0,hT.u hi,hd,goInt,gA,g4],trivial⟩
    ·rename_i hd
     refine ⟨_,aK.pure ?_,h⟩
     intro ax W ρ Kn Γ w _ _ _ _
     exact ⟨by simp [AV.af,A0.af,Cell.af,builtin,Builtin.len_,ht0,hT.u hi,hd,goInt,gA],trivial⟩
    ·rename_i hd
     refine ⟨_,aK.pure ?_,h⟩
     intro ax W ρ Kn Γ w _ _ _ _
     exact ⟨by simp [AV.af,A0.af,Cell.af,builtin,Builtin.len_,ht0,hT.u hi,hd,goInt,gA],trivial⟩
    ·rename_i kt et n hd
     split at h<;>try (exact h.elim)
     rename_i ka va k0 v0 l hn
     refine ⟨_,aK.pure ?_,h⟩
     intro ax W ρ Kn Γ w _ _ dY hst
     obtain ⟨_,_,b,es,dI,hb,hh,he⟩:=hst.at_ n _ (by rw [dY n (by simp),hn])
     have hlen:es.size=l.length:=by have:=congrArg List.length he;simpa using this
     exact ⟨by simp [AV.af,A0.af,Cell.af,builtin,Builtin.len_,ht0,hT.u hi,hd,goInt,gA,hb,MapKept.run_getObj_map hh,hlen],trivial⟩
    ·exact h.elim
   ·exact h.elim
  ·exact h.elim
 ·rename_i kk a r
  split at h
  ·rename_i n hn
   refine ⟨_,aK.pure ?_,h⟩
   intro ax W ρ Kn Γ w _ _ _ _
   have:=tn (P:=P) bG Builtin.min2 (fun kk x k' y w=>by simp [Builtin.min2,bG]) ρ kk r a n hn w
   refine ⟨?_,trivial⟩
   simp [AV.af,A0.af,Cell.af,builtin,Builtin.min_,gA] at this ⊢
   rw [this];rfl
  ·exact h.elim
 ·rename_i kk a r
  split at h
  ·rename_i n hn
   refine ⟨_,aK.pure ?_,h⟩
   intro ax W ρ Kn Γ w _ _ _ _
   have:=tn (P:=P) bp Builtin.max2 (fun kk x k' y w=>by simp [Builtin.max2,bp]) ρ kk r a n hn w
   refine ⟨?_,trivial⟩
   simp [AV.af,A0.af,Cell.af,builtin,Builtin.max_,gA] at this ⊢
   rw [this];rfl
  ·exact h.elim
 ·rename_i x y
  split at h
  rotate_left
  ·exact h.elim
  rename_i t t' YM
  split at h
  rotate_left
  ·exact h.elim
  rename_i i i' hi hi'
  split at h
  rotate_left
  ·exact h.elim
  rename_i e e' hd hd'
  split at h
  rotate_left
  ·exact h.elim
  rename_i ei jZ
  have key: ∃r,aK P ctx.X hp nm (fun Kn=>x.ok Kn/\ y.ok Kn) (fun ρ=>Builtin.append_ #[t,t'] ty #[x.af ρ,y.af ρ]) (fun ρ=>r.val.af ρ) r/\ k r:=by
   split at h
   ·exact N5 (ty:=ty) (nm:=nm) hT (by rw [(hT t i hi).1,hd]) (by rw [(hT t' i' hi').1,hd']) jZ h
   ·exact DA (ty:=ty) (nm:=nm) hT (by rw [(hT t i hi).1,hd]) (by rw [(hT t' i' hi').1,hd']) jZ h
  obtain ⟨r,hr,hk⟩:=key
  refine ⟨r,⟨hr.1,fun ax W ρ Kn Γ w hX hok ht hf hst=> ?_⟩,hk⟩
  obtain ⟨ρ',w',h1,h2⟩:=hr.2 ax W ρ Kn Γ w hX ⟨hok x (by simp),hok y (by simp)⟩ ht hf hst
  refine ⟨ρ',w',?_,h2⟩
  have et:tys= #[t,t']:=by apply Array.ext';rw [YM]
  subst et
  simp only [List.map_cons,List.map_nil,builtin,Sem.run_bind]
  rw [h1];rfl
 ·rename_i x y
  split at h
  rotate_left
  ·exact h.elim
  rename_i t t' YM
  split at h
  rotate_left
  ·exact h.elim
  rename_i i hi
  split at h
  rotate_left
  ·exact h.elim
  rename_i e hd
  split at h
  rotate_left
  ·exact h.elim
  rename_i ei jZ
  obtain ⟨r,hr,hk⟩:=Vo (ty:=ty) (t':=t') (nm:=nm) hT (by rw [(hT t i hi).1,hd]) jZ h
  refine ⟨r,⟨hr.1,fun ax W ρ Kn Γ w hX hok ht hf hst=> ?_⟩,hk⟩
  obtain ⟨ρ',w',h1,h2⟩:=hr.2 ax W ρ Kn Γ w hX ⟨hok x (by simp),hok y (by simp)⟩ ht hf hst
  refine ⟨ρ',w',?_,h2⟩
  have et:tys= #[t,t']:=by apply Array.ext';rw [YM]
  subst et
  simp only [List.map_cons,List.map_nil,builtin,Sem.run_bind]
  rw [h1];rfl
 ·exact h.elim
end
end Go.Ev
