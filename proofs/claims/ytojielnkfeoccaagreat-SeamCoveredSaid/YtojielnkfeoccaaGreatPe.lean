/- Plain laws: edges and neighbours. -/
import Derived.Test.YtojielnkfeoccaaGreatOe
noncomputable section
set_option linter.unusedSectionVars false
set_option linter.unusedVariables false
set_option linter.unusedSimpArgs false
namespace Go.Proofs.YtojielnkfeoccaaGreat
open Go Go.Ev Go.Proofs
def IP (m:vZ) (i:Int):T3:=m.2.2.2.getD i.toNat ((0,0,0),(0,0,0),0,0,0)
theorem TE {α:Type} {l:List α} {x:α} (h:x∈l) (d:α): ∃i,i<l.length/\ l.getD i d=x:=by
 obtain ⟨i,hi,e⟩:=List.mem_iff_getElem.1 h
 exact ⟨i,hi,by rw [List.getD_eq_getElem?_getD,List.getElem?_eq_getElem hi,e];rfl⟩
abbrev Mp:Type:=List (P2×List Int)
def lk (l:Mp) (p:P2):List Int:=aU (k:=aH) l p []
theorem Sg (x y:P2):iQ aH x y=true↔x=y:=dm (t:=aH) rfl x y
theorem MJ (x:P2) (z:List Int) (q:P2): ∀(l:Mp),lk (bU (k:=aH) l x z) q=if q=x then z else lk l q
 | []=>by
  unfold lk aU
  simp only [bU,eI]
  cases h:iQ aH q x with
  |true=>rw [if_pos ((Sg _ _).1 h)];rfl
  |false=>rw [if_neg (fun e=>by rw [(Sg _ _).2 e] at h;cases h)]
 |p::r=>by
  have ih:=MJ x z q r
  unfold lk aU at ih ⊢
  simp only [bU]
  cases h:iQ aH x p.1 with
  |true=>
   have hx:=(Sg _ _).1 h
   simp only [eI]
   cases h2:iQ aH q x with
   |true=>rw [if_pos ((Sg _ _).1 h2)];rfl
   |false=>
    rw [if_neg (fun e=>by rw [(Sg _ _).2 e] at h2;cases h2),<- hx,h2]
  |false=>
   simp only [eI]
   cases h2:iQ aH q p.1 with
   |true=>
    have hq:=(Sg _ _).1 h2
    rw [if_neg (fun e=>by rw [<- e,h2] at h;cases h)]
   |false=>exact ih
def Pr (a b:Int):List P2:=if a≠b then [(aO a b,aS a b)] else []
def E0 (t:T3):List P2:=Pr t.1.1 t.2.1.1++Pr t.2.1.1 t.2.2.1++Pr t.2.2.1 t.1.1
theorem zC (a b:Int):(Pr a b).length<=1:=by unfold Pr;split<;>simp
theorem Im (t:T3):(E0 t).length<=3:=by
 have h1:=zC t.1.1 t.2.1.1
 have h2:=zC t.2.1.1 t.2.2.1
 have h3:=zC t.2.2.1 t.1.1
 simp only [E0,List.length_append];omega
theorem Il {R:Type} (a b:Int) (s:List P2) (k:Int):(if ((a !=b)=true) then (Sum.inl (s++ [(aO a b,aS a b)],k):(List P2×Int)⊕R) else Sum.inl (s,k))=Sum.inl (s++Pr a b,k):=by
 unfold Pr
 by_cases h:a=b
 ·subst h;simp
 ·rw [if_pos (by simp [h]),if_pos h]
theorem lK (t:T3) (s:List P2):cE t (s,0)= .inl (s++Pr t.1.1 t.2.1.1,1)/\ cE t (s,1)= .inl (s++Pr t.2.1.1 t.2.2.1,2)/\ cE t (s,2)= .inl (s++Pr t.2.2.1 t.1.1,3)/\ cE t (s,3)= .inr s:=by
 have e0:aj (0+1)=1:=by decide
 have e1:aj (1+1)=2:=by decide
 have e2:aj (2+1)=3:=by decide
 refine ⟨?_,?_,?_,?_⟩
 ·unfold cE
  dsimp only
  rw [if_pos (by decide),e0]
  exact Il _ _ _ _
 ·unfold cE
  dsimp only
  rw [if_pos (by decide),e1]
  exact Il _ _ _ _
 ·unfold cE
  dsimp only
  rw [if_pos (by decide),e2]
  exact Il _ _ _ _
 ·unfold cE
  dsimp only
  rw [if_neg (by decide)]
theorem oz (t:T3) (s:List P2) (i:Int) (h:i=0\/ i=1\/ i=2\/ i=3) (hs:s.length<=100):kZ t (s,i):=by
 have e0:aj (0+1)=1:=by decide
 have e1:aj (1+1)=2:=by decide
 have e2:aj (2+1)=3:=by decide
 unfold kZ
 dsimp only
 intro hi
 rcases h with rfl|rfl|rfl|rfl
 ·rw [e0];exact ⟨by decide,by decide,by decide,fun _=>by omega⟩
 ·rw [e1];exact ⟨by decide,by decide,by decide,fun _=>by omega⟩
 ·rw [e2];exact ⟨by decide,by decide,by decide,fun _=>by omega⟩
 ·exact absurd hi (by decide)
theorem u6 (t:T3):u7 t/\ Hx t=E0 t:=by
 obtain ⟨_,_,_,_⟩:=lK t []
 have h1:=zC t.1.1 t.2.1.1
 have h2:=zC t.2.1.1 t.2.2.1
 have h3:=zC t.2.2.1 t.1.1
 have key:TR (cE t) (kZ t) ([],0) (fun r=>r=E0 t):=by
  refine TR.go (oz t _ _ (.inl rfl) (by simp)) (lK t []).1 ?_
  refine TR.go (oz t _ _ (.inr (.inl rfl)) (by simp;omega)) (lK t _).2.1 ?_
  refine TR.go (oz t _ _ (.inr (.inr (.inl rfl))) (by simp;omega)) (lK t _).2.2.1 ?_
  refine TR.stop (oz t _ _ (.inr (.inr (.inr rfl))) (by simp;omega)) (lK t _).2.2.2 ?_
  rfl
 exact ⟨key.1,key.2⟩
def G4 (l:Mp) (B:Nat):Prop:= ∀p,(lk l p).length<=B
def rG (m:vZ) (l:Mp) (i j:Nat):Prop:= ∀p k,k∈lk l p↔(∃a:Nat,a<i/\ k=a/\ p∈E0 (IP m a))\/ (k=(i:Int)/\ p∈(E0 (IP m i)).take j)
theorem Tp (y:List Int) (h:y≠ []) (i:Int) (e:y.getD (aj ((y.length:Int)- 1)).toNat 0=i) (hl:y.length<4611686018427387904):i∈y:=by
 have hp:0<y.length:=List.length_pos_iff.2 h
 rw [bf (by omega) (by omega)] at e
 rw [<- e]
 exact fc (by omega) _
theorem Iq (x:P2) (z:List Int): ∀ {l:Mp} {e:P2×List Int},e∈bU (k:=aH) l x z->e=(x,z)\/ e∈l
 | [],e,h=>by
  simp only [bU,List.mem_singleton] at h
  exact .inl h
 |p::r,e,h=>by
  simp only [bU] at h
  cases h2:iQ aH x p.1 with
  |true=>
   rw [h2] at h
   rcases List.mem_cons.1 h with h|h
   ·exact .inl h
   ·exact .inr (List.mem_cons_of_mem _ h)
  |false=>
   rw [h2] at h
   rcases List.mem_cons.1 h with h|h
   ·exact .inr (by rw [h];exact List.mem_cons_self)
   ·rcases Iq x z h with h|h
    ·exact .inl h
    ·exact .inr (List.mem_cons_of_mem _ h)
theorem WC (x:P2) (z:List Int): ∀ {l:Mp} {q:P2},q∈(bU (k:=aH) l x z).map (·.1)->q=x\/ q∈l.map (·.1):=fun {l q} h=>by
 obtain ⟨e,he,rfl⟩:=List.mem_map.1 h
 rcases Iq x z he with h|h
 ·exact .inl (by rw [h])
 ·exact .inr (List.mem_map.2 ⟨e,h,rfl⟩)
theorem F5 (x:P2) (z:List Int): ∀ {l:Mp},(l.map (·.1)).Nodup->((bU (k:=aH) l x z).map (·.1)).Nodup
 | [],_=>by simp [bU]
 |p::r,h=>by
  rw [List.map_cons,List.nodup_cons] at h
  simp only [bU]
  cases h2:iQ aH x p.1 with
  |true=>
   show (x::r.map (·.1)).Nodup
   rw [(Sg _ _).1 h2]
   exact List.nodup_cons.2 h
  |false=>
   show (p.1::(bU (k:=aH) r x z).map (·.1)).Nodup
   refine List.nodup_cons.2 ⟨fun hm=> ?_,F5 x z h.2⟩
   rcases WC x z hm with e|e
   ·rw [(Sg _ _).2 e.symm] at h2;cases h2
   ·exact h.1 e
theorem HR {p:P2} : ∀ {l:Mp},lk l p≠ []->(p,lk l p)∈l
 | [],h=>absurd rfl h
 |e::r,h=>by
  unfold lk aU at h ⊢
  simp only [eI] at h ⊢
  cases h2:iQ aH p e.1 with
  |true=>
   have:=(Sg _ _).1 h2
   subst this
   exact List.mem_cons_self
  |false=>
   rw [h2] at h
   exact List.mem_cons_of_mem _ (HR (l:=r) h)
theorem MM: ∀ {l:Mp} {e:P2×List Int},(l.map (·.1)).Nodup->e∈l->lk l e.1=e.2
 | [],e,_,h=>by cases h
 |a::r,e,hn,h=>by
  rw [List.map_cons,List.nodup_cons] at hn
  unfold lk aU
  simp only [eI]
  rcases List.mem_cons.1 h with h|h
  ·subst h
   rw [(Sg _ _).2 rfl];rfl
  ·cases h2:iQ aH e.1 a.1 with
   |true=>exact absurd (List.mem_map.2 ⟨e,h,(Sg _ _).1 h2⟩) hn.1
   |false=>exact MM hn.2 h
def Ord (M:Mp) (i:Int):Prop:=(M.map (·.1)).Nodup/\ ∀e∈M,e.2≠ []/\ e.2.Pairwise (· < ·)/\ ∀k∈e.2,k<=i
theorem Ord.le {M:Mp} {i j:Int} (h:Ord M i) (hij:i<=j):Ord M j:=⟨h.1,fun e he=>⟨(h.2 e he).1,(h.2 e he).2.1,fun k hk=>Int.le_trans ((h.2 e he).2.2 k hk) hij⟩⟩
theorem Ord.put {M:Mp} {i:Int} (h:Ord M i) {p:P2} (hi:i∉lk M p):Ord (bU (k:=aH) M p (lk M p++ [i])) i:=by
 refine ⟨F5 _ _ h.1,fun e he=> ?_⟩
 rcases Iq _ _ he with e1|e1
 ·subst e1
  refine ⟨by simp,?_,?_⟩
  ·by_cases h0:lk M p= []
   ·simp only [h0];simp
   ·obtain ⟨_,h2,h3⟩:=h.2 _ (HR h0)
    refine List.pairwise_append.2 ⟨h2,by simp,fun a ha b hb=> ?_⟩
    rw [List.mem_singleton.1 hb]
    have h4:=h3 a ha
    have h5:a≠i:=fun e=>hi (e▸ha)
    show a<i
    omega
  ·intro k hk
   rcases List.mem_append.1 hk with hk|hk
   ·by_cases h0:lk M p= []
    ·rw [h0] at hk;cases hk
    ·exact (h.2 _ (HR h0)).2.2 k hk
   ·rw [List.mem_singleton.1 hk];exact Int.le_refl _
 ·exact h.2 e e1
theorem Tq {y:List Int} {i:Int} (hs:y.Pairwise (· < ·)) (hi: ∀k∈y,k<=i) (hl:y.length<4611686018427387904) (h:y.getD (aj ((y.length:Int)- 1)).toNat 0≠i):i∉y:=fun hm=>by
 obtain ⟨j,hj,e⟩:=TE hm 0
 apply h
 rw [bf (by omega) (by omega)]
 by_cases Rp:j=y.length- 1
 ·rw [show ((y.length:Int)- 1).toNat=j by omega];exact e
 ·exfalso
  have h1:=List.pairwise_iff_getElem.1 hs j (y.length- 1) hj (by omega) (by omega)
  have h2:=hi (y[y.length- 1]'(by omega)) (List.getElem_mem _)
  rw [List.getD_eq_getElem?_getD,List.getElem?_eq_getElem hj] at e
  have e:y[j]=i:=e
  have h1:y[j]<y[y.length- 1]'(by omega):=h1
  omega
theorem P7 (m:vZ) (i:Nat) (l:Mp) (B:Nat) (hB:B<=100000) (hl:G4 l B) (ht:rG m l i 0) (ho:Ord l i):
  TR (iB m) (k6 m) (l,(i:Int),(i:Int),E0 (IP m i),((E0 (IP m i)).length:Int),0) (fun r=>r.2=(i:Int)/\ G4 r.1 (B+3)/\ rG m r.1 i 3/\ Ord r.1 i):=by
 have hp3:=Im (IP m i)
 refine dj (E0 (IP m i)).length (fun j s=> ∃M,s=(M,(i:Int),(i:Int),E0 (IP m i),((E0 (IP m i)).length:Int),(j:Int))/\ G4 M (B+j)/\ rG m M i j/\ Ord M i) _ (fun j s hj ⟨M,e,h1,h2,h9⟩=> ?_) (fun s ⟨M,e,h1,h2,h9⟩=> ?_) ⟨l,rfl,by simpa using hl,ht,ho⟩
 ·subst e
  obtain ⟨p,hp⟩: ∃p,p=(E0 (IP m i)).getD j (0,0):=⟨_,rfl⟩
  have hy:(lk M p).length<=B+j:=h1 p
  have hw: ∀n:Nat,n≠0->n<=B+3->aj ((n:Int)- 1)=((n- 1:Nat):Int):=fun n h0 hn=>by rw [bf (by omega) (by omega)];omega
  have hput:(i:Int)∉lk M p-> ∀z,z=lk M p++ [(i:Int)]->G4 (bU (k:=aH) M p z) (B+(j+1))/\ rG m (bU (k:=aH) M p z) i (j+1)/\ Ord (bU (k:=aH) M p z) i:=fun hni z hz=>by
   refine ⟨fun q=> ?_,fun q k=> ?_,by rw [hz];exact h9.put hni⟩
   ·rw [MJ]
    split
    ·rw [hz,List.length_append,List.length_singleton];omega
    ·exact Nat.le_trans (h1 q) (by omega)
   ·rw [MJ,iU hj (0,0),←hp]
    by_cases hq:q=p
    ·subst hq
     rw [if_pos rfl,hz,List.mem_append,List.mem_singleton,h2 q k,List.mem_append,List.mem_singleton]
     constructor
     ·rintro ((h|⟨h,h'⟩)|h)
      ·exact .inl h
      ·exact .inr ⟨h,.inl h'⟩
      ·exact .inr ⟨h,.inr rfl⟩
     ·rintro (h|⟨h,_⟩)
      ·exact .inl (.inl h)
      ·exact .inr h
    ·rw [if_neg hq,h2 q k,List.mem_append,List.mem_singleton]
     constructor
     ·rintro (h|⟨h,h'⟩)
      ·exact .inl h
      ·exact .inr ⟨h,.inl h'⟩
     ·rintro (h|⟨h,h'|h'⟩)
      ·exact .inl h
      ·exact .inr ⟨h,h'⟩
      ·exact absurd h' hq
  have hkeep:(i:Int)∈lk M p->G4 M (B+(j+1))/\ rG m M i (j+1)/\ Ord M i:=fun hm=>by
   refine ⟨fun q=>Nat.le_trans (h1 q) (by omega),fun q k=> ?_,h9⟩
   rw [iU hj (0,0),<- hp,h2 q k,List.mem_append,List.mem_singleton]
   constructor
   ·rintro (h|⟨h,h'⟩)
    ·exact .inl h
    ·exact .inr ⟨h,.inl h'⟩
   ·rintro (h|⟨h,h'|h'⟩)
    ·exact .inl h
    ·exact .inr ⟨h,h'⟩
    ·subst h h'
     exact (h2 _ _).1 hm
  constructor
  ·unfold k6
   dsimp only [aM]
   intro _
   rw [Int.toNat_natCast,<- hp]
   refine ⟨⟨by omega,by omega⟩,hj,hj,fun _=>by show (lk M p).length+1<_;omega,fun h0=> ?_⟩
   have h0:(lk M p).length≠0:=fun e=>h0 (by show (((lk M p).length:Int)==0)=true;rw [e];rfl)
   have e1:=hw _ h0 (by omega)
   show ((0<=aj (((lk M p).length:Int)- 1)/\ aj (((lk M p).length:Int)- 1)<((lk M p).length:Int))/\ (aj (((lk M p).length:Int)- 1)).toNat<(lk M p).length/\ (aj (((lk M p).length:Int)- 1)).toNat<(lk M p).length/\ (_->(lk M p).length+1<1099511627776))
   rw [e1,Int.toNat_natCast]
   exact ⟨⟨by omega,by omega⟩,by omega,by omega,fun _=>by omega⟩
  ·refine .inl ?_
   unfold iB
   dsimp only [au]
   rw [if_pos (by omega),Int.toNat_natCast,<- hp,cnt (n:=100) (by omega) (by omega)]
   by_cases h0:(((aU (k:=aH) M p []).length:Int)==0)=true
   ·rw [if_pos h0]
    have h00:lk M p= []:=List.eq_nil_of_length_eq_zero (by simpa [lk] using h0)
    exact ⟨_,rfl,_,rfl,hput (by rw [h00];simp) _ rfl⟩
   ·rw [if_neg h0]
    by_cases h3:((List.getD (aU (k:=aH) M p []) (Int.toNat (aj (((aU (k:=aH) M p []).length:Int)- 1))) 0) !=(i:Int))=true
    ·rw [if_pos h3]
     have h00:lk M p≠ []:=fun e=>h0 (by show (((lk M p).length:Int)==0)=true;rw [e];rfl)
     obtain ⟨_,o2,o3⟩:=h9.2 _ (HR h00)
     exact ⟨_,rfl,_,rfl,hput (Tq o2 o3 (by show (lk M p).length<_;omega) (by simpa [lk] using h3)) _ rfl⟩
    ·rw [if_neg h3]
     refine ⟨_,rfl,_,rfl,hkeep (Tp (lk M p) (fun e=>h0 ?_) _ (by unfold lk;simpa using h3) (by omega))⟩
     show (((lk M p).length:Int)==0)=true
     rw [e];rfl
 ·subst e
  constructor
  ·unfold k6
   dsimp only
   intro h;omega
  ·unfold iB
   dsimp only
   rw [if_neg (by omega)]
   refine ⟨_,rfl,rfl,fun q=>Nat.le_trans (h1 q) (by omega),?_,h9⟩
   have e:(E0 (IP m i)).take (E0 (IP m i)).length=(E0 (IP m i)).take 3:=by rw [List.take_length,List.take_of_length_le hp3]
   intro q k
   rw [h2 q k,e]
theorem UQ {m:vZ} {l:Mp} {i:Nat} (h:rG m l i 3):rG m l (i+1) 0:=fun p k=>by
 rw [h p k,List.take_of_length_le (Im _)]
 constructor
 ·rintro (⟨a,h1,h2,h3⟩|⟨h1,h2⟩)
  ·exact .inl ⟨a,by omega,h2,h3⟩
  ·exact .inl ⟨i,by omega,h1,h2⟩
 ·rintro (⟨a,h1,h2,h3⟩|⟨_,h2⟩)
  ·rcases Nat.lt_or_ge a i with h4|h4
   ·exact .inl ⟨a,h4,h2,h3⟩
   ·have:a=i:=by omega
    subst this
    exact .inr ⟨h2,h3⟩
  ·simp at h2
theorem rW (m:vZ) (hn:m.2.2.2.length<=500):ng m/\ G4 (jq m) 1500/\ rG m (jq m) m.2.2.2.length 0/\ Ord (jq m) m.2.2.2.length:=by
 have key:TR (iA m) (k5 m) ([],0) (fun r=>G4 r 1500/\ rG m r m.2.2.2.length 0/\ Ord r m.2.2.2.length):=by
  refine dj m.2.2.2.length (fun i s=> ∃M,s=(M,(i:Int))/\ G4 M (3*i)/\ rG m M i 0/\ Ord M i) _ (fun i s hi ⟨M,e,h1,h2,h9⟩=> ?_) (fun s ⟨M,e,h1,h2,h9⟩=> ?_) ⟨[],rfl,fun p=>by simp [lk,aU,eI],fun p k=>by simp [lk,aU,eI],by simp,fun e he=>by cases he⟩
  ·subst e
   have hin:=P7 m i M (3*i) (by omega) h1 h2 h9
   have eT:m.2.2.2.getD i ((0,0,0),(0,0,0),0,0,0)=IP m i:=by unfold IP;rw [Int.toNat_natCast]
   constructor
   ·unfold k5
    dsimp only [aM]
    intro _
    rw [Int.toNat_natCast,eT,(u6 _).2]
    exact ⟨⟨by omega,by omega⟩,hi,hi,(u6 _).1,hin.1⟩
   ·refine .inl ?_
    unfold iA
    dsimp only [au]
    rw [if_pos (by omega),Int.toNat_natCast,eT,(u6 _).2]
    obtain ⟨g1,g2,g3,g4⟩:=hin.2
    rw [g1,cnt (n:=500) (by omega) (by omega)]
    exact ⟨_,rfl,_,rfl,fun p=>Nat.le_trans (g2 p) (by omega),UQ g3,g4.le (by omega)⟩
  ·subst e
   constructor
   ·unfold k5
    dsimp only
    intro h;omega
   ·unfold iA
    dsimp only
    rw [if_neg (by omega)]
    exact ⟨_,rfl,fun p=>Nat.le_trans (h1 p) (by omega),h2,h9⟩
 exact ⟨key.1,key.2⟩
theorem LW (m:vZ) (hn:m.2.2.2.length<=500):ng m/\ G4 (jq m) 1500/\ rG m (jq m) m.2.2.2.length 0:=
 have h:=rW m hn
 ⟨h.1,h.2.1,h.2.2.1⟩
end Go.Proofs.YtojielnkfeoccaaGreat
