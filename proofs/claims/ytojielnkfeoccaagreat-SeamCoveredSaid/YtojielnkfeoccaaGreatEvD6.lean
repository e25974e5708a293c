/- Maps of slices that are ranged over. -/
import Derived.Test.YtojielnkfeoccaaGreatEvD5
import Derived.Maps.RangeRun
noncomputable section
set_option linter.unusedSectionVars false
set_option linter.unusedVariables false
set_option linter.unusedSimpArgs false
namespace Go.Ev
open Go.RowKit
section
variable {ka:Bool} {k u:Ty}
theorem ff.get: ∀(L:List MapEntry) (l:List (k.T×List u.T)) (ns:List qa) (i:Nat) (e:MapEntry),ff ka k u none L l ns->L[i]? =some e->
  ∃p n,l[i]? =some p/\ ns[i]? =some n/\ e.key=bQ ka k p.1/\ e.val= .slice n.base n.len n.cap/\ n.vals=aI u p.2/\ n.len=p.2.length/\ n.es=u.size
 | [],_,_,i,e,_,h=>by simp at h
 |a::L,[],_,_,_,h,_=>h.elim
 |a::L,p::l,[],_,_,h,_=>h.2.elim
 |a::L,p::l,n::ns,i,e,h,hi=>by
  obtain ⟨h1,_,h3,h4,h5,h6,h7⟩:=h
  cases i with
  |zero=>
   simp only [List.getElem?_cons_zero,Option.some.injEq] at hi
   subst hi
   exact ⟨p,n,rfl,rfl,h1,h3,h4,h5,h6⟩
  |succ i=>
   obtain ⟨p',n',a1,a2,a3⟩:=ff.get L l ns i e h7 (by simpa using hi)
   exact ⟨p',n',by simpa using a1,by simpa using a2,a3⟩
theorem ff.erase: ∀(L:List MapEntry) (l:List (k.T×List u.T)) (ns:List qa) (i:Nat),ff ka k u none L l ns->ff ka k u none (L.eraseIdx i) (l.eraseIdx i) (ns.eraseIdx i)
 | [],[],[],_,_=>by simp [ff]
 | [],[],n::ns,_,h=>h.elim
 | [],p::l,_,_,h=>h.elim
 |a::L,[],_,_,h=>h.elim
 |a::L,p::l,[],_,h=>h.2.elim
 |a::L,p::l,n::ns,i,h=>by
  obtain ⟨h1,h2,h3,h4,h5,h6,h7⟩:=h
  cases i with
  |zero=>simpa using h7
  |succ i=>exact ⟨h1,h2,h3,h4,h5,h6,ff.erase L l ns i h7⟩
theorem ff.adU {l:List (k.T×List u.T)} {ns:List qa} (h:ff ka k u none [] l ns):l= []:=by
 cases l with
 |nil=>rfl
 |cons p l=>exact h.elim
end
theorem CR: ∀(L:List MapEntry) (i:Nat) (e:MapEntry),L[i]? =some e->(L.map (·.born)).Nodup->L.filter (fun x=> !(x.born==e.born))=L.eraseIdx i
 | [],i,e,h,_=>by simp at h
 |a::L,i,e,h,hn=>by
  simp only [List.map_cons,List.nodup_cons] at hn
  cases i with
  |zero=>
   simp only [List.getElem?_cons_zero,Option.some.injEq] at h
   subst h
   rw [List.filter_cons_of_neg (by simp),List.eraseIdx_zero,List.tail_cons,List.filter_eq_self]
   intro x hx
   have:x.born≠a.born:=fun q=>hn.1 (List.mem_map.2 ⟨x,hx,q⟩)
   simp [this]
  |succ i=>
   have h:L[i]? =some e:=by simpa using h
   have hne:a.born≠e.born:=fun q=>hn.1 (List.mem_map.2 ⟨e,List.mem_of_getElem? h,q.symm⟩)
   rw [List.filter_cons_of_pos (by simp [hne]),List.eraseIdx_cons_succ,CR L i e h hn.2]
theorem vx: ∀ {ns:List qa} {i:Nat} {a c:qa},(ns.Pairwise fun e e'=> ∀b,e.blk=some b->e'.blk≠some b)->ns[i]? =some a->c∈ns.eraseIdx i-> ∀b,a.blk=some b->c.blk≠some b
 | [],i,a,c,_,h,_=>by simp at h
 |n::r,0,a,c,hp,h,hc=>by
  simp only [List.getElem?_cons_zero,Option.some.injEq] at h
  subst h
  exact (List.pairwise_cons.1 hp).1 c (by simpa using hc)
 |n::r,i+1,a,c,hp,h,hc=>by
  have h:r[i]? =some a:=by simpa using h
  rw [List.eraseIdx_cons_succ] at hc
  intro b hb hb'
  rcases List.mem_cons.1 hc with rfl|hc
  ·exact (List.pairwise_cons.1 hp).1 a (List.mem_of_getElem? h) b hb' hb
  ·exact vx (List.pairwise_cons.1 hp).2 h hc b hb hb'
section
variable {ax:jh} {W:World} {ρ:Env} {Kn:Nat->Prop} {Γ:HP} {w:World}
theorem WX {n c nm n':Nat} {ka:Bool} {k u:Ty} {l:List (k.T×List u.T)} (h:St ax W ρ Kn Γ w) (hn:Γ n=some (.jO ka k u l c none)) (hc:Γ c=some (.set n')) (h1: ¬Kn nm):
  ∃b es ck,(ρ n).blk=some b/\ w.heap[b]? =some (.map es ck)/\ ∃ρ',(∀m,Kn m->ρ' m=ρ m)/\ (ρ' nm).blk=some w.heap.size/\
   St ax W ρ' (rq Kn nm) (fun y=>if y=nm then some (.rj n c es ck ka k u l none) else if y=n then some (.hmap es ck) else Γ y) (w.alloc (.mapIter (some b) ck #[] ck)):=by
 have kn:=(h.kn n _ hn).1
 have kc:=(h.kn c _ hc).1
 obtain ⟨gk,gu,Zx,b,es,ck,gb,gh,gr,Ql⟩:=h.at_ n _ hn
 have Md:n≠nm:=by rintro rfl;exact h1 kn
 have hold:=bY (ρ:=ρ) (x:= {blk:=some w.heap.size}) h1
 have hsz:=h.fr.size
 refine ⟨b,es,ck,gb,gh,aZ ρ nm {blk:=some w.heap.size},hold,by simp [aZ],?_⟩
 have st1:St ax W (aZ ρ nm {blk:=some w.heap.size}) (rq Kn nm) (bK Γ nm (.rj n c es ck ka k u l none)) (w.alloc (.mapIter (some b) ck #[] ck)):=by
  refine h.swap (G:= []) (o:= .rj n c es ck ka k u l none) h1 (h.fr.alloc _) (fun b hb _=>Below.heap_alloc _ _ _ hb) (fun b hb=> ?_) (fun m p hp=> ?_) ⟨.inl kn,.inl kc,fun p hp=>by cases hp⟩ (fun _ h=>by cases h) fun _ _=> ?_
  ·cases hb;exact ⟨.inl (Nat.le_refl _),.inl hsz⟩
  ·unfold bK at hp
   split at hp
   ·rename_i e1;cases hp;exact .inl ⟨e1,rfl⟩
   ·rename_i e1;exact .inr ⟨e1,by simp,hp⟩
  ·rw [bu,hold n kn,hold c kc]
   refine ⟨gk,gu,Ql,w.heap.size,ck,#[],ck,by simp [aZ],?_,by rw [gb];simp,Ql.1,Nat.le_refl _,Nat.le_refl _,?_,fun p hp=>by cases hp⟩
   ·rw [gb];exact heap_alloc_new w _
   ·rw [show (es.toList.filter fun e=> !(#[]:Array Nat).contains e.born)=es.toList by simp];exact gr
 have hsome: ∀y,((fun y=>if y=nm then some (aQ.rj n c es ck ka k u l none) else if y=n then some (.hmap es ck) else Γ y) y).isSome=true->(bK Γ nm (.rj n c es ck ka k u l none) y).isSome=true:=fun y hy=>by
  unfold bK
  dsimp only at hy
  split
  ·rfl
  ·rename_i e1
   rw [if_neg e1] at hy
   split at hy
   ·rename_i e2;rw [e2,hn];rfl
   ·exact hy
 refine st1.qJ (fun _ _=>rfl) (fun _ h=>h) (fun y b hy hb=>⟨y,hsome y hy,hb⟩) (fun y z b hy hz hb hb'=>st1.eS y z b (hsome y hy) (hsome z hz) hb hb') (fun b ⟨y,S,hy,hS⟩=> ?_) fun y p hp=> ?_
 ·dsimp only at hy
  split at hy
  ·cases hy
  ·rename_i e1
   split at hy
   ·cases hy
   ·exact ⟨y,S,by unfold bK;rw [if_neg e1];exact hy,hS⟩
 ·by_cases e1:y=nm
  ·subst e1
   rw [if_pos rfl] at hp
   exact .inl (by unfold bK;rw [if_pos rfl];exact hp)
  ·rw [if_neg e1] at hp
   by_cases e2:y=n
   ·subst e2
    rw [if_pos rfl] at hp
    cases hp
    refine .inr ⟨.inl kn,trivial,.inr ?_,fun _=>⟨b,by rw [hold y kn];exact gb,?_⟩⟩
    ·rw [hold y kn];exact (h.vX _ _ hn).elim (fun ⟨_,e⟩=>by cases e) id
    ·exact (Below.heap_alloc w _ b (Array.getElem?_eq_some_iff.1 gh).1).trans gh
   ·rw [if_neg e2] at hp
    exact .inl (by unfold bK;rw [if_neg e1];exact hp)
theorem Yc {u:Ty} {e:qa} {z:List u.T} (he:Ce w e) (h1:e.vals=aI u z) (h2:e.len=z.length) (h3:e.es=u.size) (hf:u.flat=true):
  ∃o:Loc,o.cG= []/\ o.base=e.base/\ o.len=z.length/\ o.cap=e.cap/\ o.es=u.size/\ (∀b,o.blk=some b->e.blk=some b)/\ z.length<=o.cap/\ ∀fz pm,l6 fz pm w o u z 1 (fun _=>(none,0)):=by
 have hfl: ∀(sub:Nat->Option Addr×Nat),aF sub 0 (ai u z)=aI u z:=fun sub=>fK hf sub z
 rcases he with ⟨e1,e2,e3,e4,e5⟩|⟨b,rest,t,e1,e2,e3,e4,e5,e6⟩
 ·have hz:z= []:=List.eq_nil_of_length_eq_zero (by rw [←h2,e5])
  subst hz
  exact ⟨{blk:=none,base:=e.base,len:=0,cap:=e.cap,es:=u.size},rfl,rfl,rfl,rfl,rfl,fun b hb=>(by cases hb),Nat.zero_le _,fun fz pm=>⟨fun i v hv=>(by simp [ai,aF] at hv),fun q u' l' hq=>(by simp [ai] at hq),fun e=>(by cases e),fun _=> .inl ⟨rfl,rfl,e3,fun _=>e4⟩⟩⟩
 ·refine ⟨{blk:=some b,base:=e.base,len:=z.length,cap:=e.cap,es:=u.size},rfl,rfl,rfl,rfl,rfl,fun b' hb=>(by cases hb;exact e1),by show z.length≤e.cap;omega,fun fz pm=> ?_⟩
  rw [h1] at e3 e5
  refine ⟨fun i v hv=> ?_,fun q u' l' hq=> ?_,fun e=>(by cases e),fun _=>gl.new (.inr ⟨b,rest,t,rfl,e2,by rw [hfl];exact e3,by rw [hfl];rw [<- h3];exact ⟨e5,e6⟩⟩)⟩
  ·rw [hfl] at hv
   refine ⟨_,e2,?_,fun e=>by cases e⟩
   have ea:(⟨b,0,none⟩:Addr).add i=⟨b,i,none⟩:=by unfold Addr.add;split<;>simp_all
   rw [ea,bO e3,List.getElem?_append_left (List.getElem?_eq_some_iff.1 hv).1];exact hv
  ·obtain ⟨v,hv⟩:=eP hf (List.mem_of_getElem? hq);cases hv
theorem Zm {n c nm n' i:Nat} {u:Ty} {z:List u.T} {e:qa} (h:St ax W ρ Kn Γ w) (hc:Γ c=some (.set n')) (kn:Kn n) (he:(ρ c).cG[i]? =some e) (e1:e.vals=aI u z) (e2:e.len=z.length) (e3:e.es=u.size) (hf:u.flat=true) (h1: ¬Kn nm) (h2: ¬Kn (nm+1)):
  ∃ρ',(∀y,Kn y->ρ' y=ρ y)/\ (ρ' nm).cG=(ρ c).cG.eraseIdx i/\ (ρ' (nm+1)).base=e.base/\ (ρ' (nm+1)).len=e.len/\ (ρ' (nm+1)).cap=e.cap/\
   St ax W ρ' (fun y=>Kn y\/ y=nm\/ y=nm+1) (fun y=>if y=nm+1 then some (.row u z 1) else if y=nm then some (.set n) else if y=c then none else Γ y) w:=by
 have kc:=(h.kn c _ hc).1
 obtain ⟨_,se,sp⟩:=h.at_ c _ hc
 have hmem:e∈(ρ c).cG:=List.mem_of_getElem? he
 obtain ⟨o,oe,o1,o2,o3,o4,ob,ol,om⟩:=Yc (w:=w) (se e hmem) e1 e2 e3 hf
 let ρ':Env:=fun y=>if y=nm then {cG:=(ρ c).cG.eraseIdx i} else if y=nm+1 then o else ρ y
 have r1:ρ' nm= {cG:=(ρ c).cG.eraseIdx i} :=by simp [ρ']
 have r2:ρ' (nm+1)=o:=by simp [ρ']
 have r3: ∀y,Kn y->ρ' y=ρ y:=fun y hy=>by
  have a1:y≠nm:=by rintro rfl;exact h1 hy
  have a2:y≠nm+1:=by rintro rfl;exact h2 hy
  simp [ρ',a1,a2]
 have hds:((ρ c).cG.eraseIdx i).Sublist (ρ c).cG:=List.eraseIdx_sublist _ _
 have hcs:(Γ c).isSome=true:=by rw [hc];rfl
 have who: ∀y b,((fun y=>if y=nm+1 then some (aQ.row u z 1) else if y=nm then some (.set n) else if y=c then none else Γ y) y).isSome=true->(ρ' y).has b->
   (y=nm+1/\ e.blk=some b)\/ (y=nm/\ ∃e'∈(ρ c).cG.eraseIdx i,e'.blk=some b)\/ (y≠nm+1/\ y≠nm/\ y≠c/\ (Γ y).isSome=true/\ (ρ y).has b):=fun y b hy hb=>by
  dsimp only at hy
  split at hy
  ·rename_i q1;subst q1
   rw [r2] at hb
   exact .inl ⟨rfl,ob b ((ve oe).1 hb)⟩
  ·rename_i q1
   split at hy
   ·rename_i q2;subst q2
    rw [r1] at hb
    rcases hb with hb|⟨e',he',hb⟩
    ·cases hb
    ·exact .inr (.inl ⟨rfl,e',he',hb⟩)
   ·rename_i q2
    split at hy
    ·cases hy
    ·rename_i q3
     obtain ⟨p,hp⟩:=Option.isSome_iff_exists.1 hy
     rw [r3 y (h.kn y p hp).1] at hb
     exact .inr (.inr ⟨q1,q2,q3,hy,hb⟩)
 refine ⟨ρ',r3,by rw [r1],by rw [r2,o1],by rw [r2,o2,e2],by rw [r2,o3],h.qJ r3 (fun _=> .inl) (fun y b hy hb=> ?_) (fun y y' b hy hy' hb hb'=> ?_) (fun b ⟨y,S,hy,hS⟩=> ?_) fun y p hp=> ?_⟩
 ·rcases who y b hy hb with ⟨_,hb⟩|⟨_,e',he',hb⟩|⟨_,_,_,h3,h4⟩
  ·exact ⟨c,hcs,.inr ⟨e,hmem,hb⟩⟩
  ·exact ⟨c,hcs,.inr ⟨e',hds.subset he',hb⟩⟩
  ·exact ⟨y,h3,h4⟩
 ·rcases who y b hy hb with ⟨q1,f1⟩|⟨q1,e',he',f1⟩|⟨q1,q2,q3,h3,h4⟩
  ·rcases who y' b hy' hb' with ⟨Vj,Hy⟩|⟨Vj,e'',V1,Hy⟩|⟨Vj,q2',q3',Bi,Li⟩
   ·rw [q1,Vj]
   ·exact absurd Hy (vx sp he V1 b f1)
   ·exact absurd (h.eS y' c b Bi hcs Li (.inr ⟨e,hmem,f1⟩)) q3'
  ·rcases who y' b hy' hb' with ⟨Vj,Hy⟩|⟨Vj,e'',V1,Hy⟩|⟨Vj,q2',q3',Bi,Li⟩
   ·exact absurd f1 (vx sp he he' b Hy)
   ·rw [q1,Vj]
   ·exact absurd (h.eS y' c b Bi hcs Li (.inr ⟨e',hds.subset he',f1⟩)) q3'
  ·rcases who y' b hy' hb' with ⟨Vj,Hy⟩|⟨Vj,e'',V1,Hy⟩|⟨Vj,q2',q3',Bi,Li⟩
   ·exact absurd (h.eS y c b h3 hcs h4 (.inr ⟨e,hmem,Hy⟩)) q3
   ·exact absurd (h.eS y c b h3 hcs h4 (.inr ⟨e'',hds.subset V1,Hy⟩)) q3
   ·exact h.eS y y' b h3 Bi h4 Li
 ·dsimp only at hy
  split at hy
  ·cases hy
  ·split at hy
   ·cases hy
   ·split at hy
    ·cases hy
    ·exact ⟨y,S,hy,hS⟩
 ·split at hp
  ·rename_i q1;subst q1;cases hp
   exact .inr ⟨.inr (.inr rfl),trivial,.inr (by rw [r2];exact oe),fun _=>by
    rw [bu,r2]
    exact ⟨o2,o4,ol,_,om _ _⟩⟩
  ·split at hp
   ·rename_i q2;subst q2;cases hp
    refine .inr ⟨.inr (.inl rfl),.inl kn,.inl ⟨_,rfl⟩,fun _=> ?_⟩
    rw [bu,r1]
    exact ⟨rfl,fun e he=>se e (hds.subset he),sp.sublist hds⟩
   ·split at hp
    ·cases hp
    ·exact .inl hp
end
end Go.Ev
