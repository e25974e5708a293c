/- Plain laws: turned triangles, patches, charts that are laid. -/
import Derived.Test.YtojielnkfeoccaaGreatQd
import Derived.Test.YtojielnkfeoccaaGreatFf
noncomputable section
set_option linter.unusedSectionVars false
set_option linter.unusedVariables false
set_option linter.unusedSimpArgs false
namespace Go.Proofs.YtojielnkfeoccaaGreat
open Go Go.Ev Go.Proofs
theorem PE (l:List T2) (hl:l.length<1099511627776):uW l:=fun b hb=>by
 cases b with
 |false=>exact ⟨rfl,fun _=>by omega⟩
 |true=>
  cases l with
  |nil=>exact ⟨rfl,fun h=>absurd rfl h⟩
  |cons a r=>exact absurd (hb (by simp)) (by decide)
def EW (f:P2->P2) (t:T2):T2:=(f t.1,f t.2.1,f t.2.2)
def half (f:P2->P2) (l:List T2) (i:Nat):List T2:=(l.take i).map (EW f)++l.drop i
theorem JI (f:P2->P2) (l:List T2) (i:Nat) (hi:i<=l.length):(half f l i).length=l.length:=by
 unfold half;simp;omega
theorem SD (f:P2->P2) (l:List T2) (i:Nat) (hi:i<l.length):(half f l i).getD i zT=l.getD i zT:=by
 unfold half
 rw [List.getD_eq_getElem?_getD,List.getElem?_append_right (by simp;omega)]
 simp [Nat.min_eq_left (Nat.le_of_lt hi)]
theorem SE (f:P2->P2) (l:List T2) (i:Nat) (hi:i<l.length) (v:T2) (hv:v=EW f (l.getD i zT)):(half f l i).set i v=half f l (i+1):=by
 subst hv
 unfold half
 have h1:((l.take i).map (EW f)).length=i:=by simp;omega
 rw [List.set_append_right _ _ (by omega),h1,Nat.sub_self,List.drop_eq_getElem_cons hi,List.set_cons_zero,List.take_succ_eq_append_getElem hi,List.map_append,List.append_assoc,List.getD_eq_getElem?_getD,List.getElem?_eq_getElem hi]
 rfl
theorem EC {α:Type} (l:List α) (i:Nat) (v d:α) (hi:i<l.length):(l.set i v).getD i d=v:=by
 rw [List.getD_eq_getElem?_getD,List.getElem?_set_self hi];rfl
theorem A6 (l:List T2) (VF:P2) (hl:l.length<1099511627776):s6 (l,VF)/\ IF (l,VF)=l.map (EW fun p=>jE (p,VF)):=by
 obtain ⟨h1,h2⟩:=pO (step:=jm (l,VF)) (pre:=nP (l,VF))
  (fun s=> ∃i:Nat,s=(half (fun p=>jE (p,VF)) l i,(l.length:Int),(i:Int))/\ i<=l.length) (fun s=>l.length- s.2.2.toNat) (fun r=>r=l.map (EW fun p=>jE (p,VF))) (fun s ⟨i,e,hi⟩=>by
   subst e
   unfold jm nP
   dsimp only [au,aM]
   simp only [Int.toNat_natCast,cond_true,cond_false,List.length_set]
   rw [JI _ _ _ hi]
   refine ⟨fun h=> ?_,fun s' h=> ?_,fun r h=> ?_⟩
   ·have hi:i<l.length:=by omega
    refine ⟨⟨by omega,by omega⟩,by omega,by omega,⟨by omega,by omega⟩,by omega,by omega,by omega,⟨by omega,by omega⟩,by omega,by omega,by omega,?_⟩
    omega
   ·split at h
    ·rename_i hlt
     have hlt:i<l.length:=by omega
     have hH:=JI (fun p=>jE (p,VF)) l i hi
     cases h
     refine ⟨⟨i+1,?_,hlt⟩,?_⟩
     ·rw [cnt hlt (by omega)]
      congr 1
      rw [List.set_set,List.set_set,SE _ _ _ hlt]
      simp only [EC _ _ _ _ (show i<(half (fun p=>jE (p,VF)) l i).length by omega),List.set_set,SD _ _ _ hlt]
      rfl
     ·rw [cnt hlt (by omega)]
      simp only [Int.toNat_natCast];omega
    ·cases h
   ·split at h
    ·cases h
    ·cases h
     have:i=l.length:=by omega
     subst this
     unfold half
     rw [List.take_length,List.drop_length,List.append_nil]) (l,(l.length:Int),(0:Int)) ⟨0,by unfold half;simp,Nat.zero_le _⟩
 exact ⟨⟨PE l hl,h1⟩,h2⟩
def Lu (t:T2):Bool:=mright (t.1,t.2.1,t.2.2)
theorem DJ (t:T2):Lu t=true↔Right t.1 t.2.1 t.2.2:=by
 unfold Lu;rw [vo,decide_eq_true_iff]
theorem uh (l:List T2) (hl:l.length<4611686018427387904) (b:Bool):oU (l,b)/\ pH (l,b)= !decide (∀t∈l,Right t.1 t.2.1 t.2.2):=by
 have hh:=ny l hl (fun t=> !Lu t) (iH (l,false)) (pc (l,false)) (fun i hi=>by
   unfold pc
   intro h
   simp only [Int.toNat_natCast];dsimp only at h ⊢
   exact ⟨⟨by omega,by omega⟩,by omega,by omega,(jI _ _ _).1⟩) (fun i x hx=>by
   have hlt:=cU hx
   unfold iH odd
   dsimp only [au]
   rw [if_pos (by omega),Int.toNat_natCast,gY hx]
   rfl) (by
   unfold iH
   dsimp only
   rw [if_neg (by omega)])
 refine ⟨hh.1,?_⟩
 unfold pH Mt
 dsimp only [au]
 rw [hh.2,wM]
 rw [Bool.eq_iff_iff,List.any_eq_true,Bool.not_eq_true',decide_eq_false_iff_not]
 constructor
 ·rintro ⟨x,h1,h2⟩ h3
  rw [Bool.not_eq_true'] at h2
  rw [(DJ x).2 (h3 x h1)] at h2;cases h2
 ·intro h
  refine Classical.byContradiction fun h2=>h fun p hp=>Classical.byContradiction fun h3=>h2 ⟨p,hp,?_⟩
  rw [Bool.not_eq_true',Bool.eq_false_iff]
  exact fun q=>h3 ((DJ p).1 q)
abbrev U7:Type:=List Int×(List T2×Int×Int)
def Sz (n:Int):Int:=if n<0 then 0 else if n>4096 then 0 else n / 16+1
theorem Fp (n:Int):JG n=(Sz n,if n<0 then 5 else if n>4096 then 5 else 0):=by
 unfold JG Sz
 split
 ·rfl
 ·split
  ·rfl
  ·rw [Int.tdiv_eq_ediv_of_nonneg (by omega),bf (n:=n / 16) (by omega) (by omega),bf (by omega) (by omega)]
theorem L3 (p:P2):CU p=(Sz p.1,Sz p.2):=by
 unfold CU
 dsimp only [au]
 rw [Fp,Fp]
structure jP (x:U7):Prop where
 len:x.1.length<=500
 same:x.2.1.length=x.1.length
 right: ∀t∈x.2.1,Right t.1 t.2.1 t.2.2
 ok:(mu x.2.1).2.2=0
 zero:(mu x.2.1).1=z2
 w:x.2.2.1=Sz (mu x.2.1).2.1.1
 h:x.2.2.2=Sz (mu x.2.1).2.1.2
 free:Hz x.2.1=true
theorem wN (x:U7):wO x/\ (Rn x=true↔jP x):=by
 obtain ⟨tr,uv,w,h⟩:=x
 unfold wO Rn
 dsimp only [aM,au]
 by_cases h1:((tr.length:Nat):Int)>500
 ·exact ⟨fun q=>absurd h1 q,by rw [if_pos h1];exact ⟨fun q=>(by cases q),fun q=>absurd q.len (by dsimp only;omega)⟩⟩
 rw [if_neg h1]
 by_cases h2:(((uv.length:Nat):Int) !=((tr.length:Nat):Int))=true
 ·refine ⟨fun _ q=>absurd h2 q,?_⟩
  rw [if_pos h2]
  refine ⟨fun q=>(by cases q),fun q=> ?_⟩
  have:=q.same
  dsimp only at this
  rw [this] at h2;simp at h2
 rw [if_neg h2]
 have hlen:uv.length=tr.length:=by simp only [bne_iff_ne,ne_eq,Decidable.not_not] at h2;omega
 have hl:uv.length<4611686018427387904:=by omega
 refine ⟨fun _ _=>⟨(uh uv hl _).1,fun _=>⟨(Jy uv hl).1,fun _ _ _ _=>(LY uv hl).1⟩⟩,?_⟩
 rw [(uh uv hl _).2,L3]
 by_cases h3: ∀t∈uv,Right t.1 t.2.1 t.2.2
 ·rw [decide_eq_true h3,if_neg (by decide)]
  by_cases h4:((mu uv).2.2 !=0)=true
  ·rw [if_pos h4]
   refine ⟨fun q=>(by cases q),fun q=> ?_⟩
   have:=q.ok
   dsimp only at this
   rw [this] at h4;exact absurd h4 (by decide)
  ·rw [if_neg h4]
   have h4:(mu uv).2.2=0:=by simpa using h4
   have he:(((mu uv).1.1==0)&&(((mu uv).1.2==0)&&true))=true↔(mu uv).1=z2:=by
    generalize (mu uv).1=p
    obtain ⟨a,b⟩:=p
    simp
   by_cases h5:(mu uv).1=z2
   ·rw [he.2 h5,if_neg (by decide)]
    by_cases h6:w=Sz (mu uv).2.1.1
    ·rw [if_pos (by rw [h6];simp)]
     by_cases h7:h=Sz (mu uv).2.1.2
     ·rw [if_pos (by rw [h7];simp)]
      exact ⟨fun q=>⟨by dsimp only;omega,hlen,h3,h4,h5,h6,h7,q⟩,fun q=>q.free⟩
     ·rw [if_neg (by simpa using h7)]
      exact ⟨fun q=>(by cases q),fun q=>absurd q.h h7⟩
    ·rw [if_neg (by simpa using h6)]
     exact ⟨fun q=>(by cases q),fun q=>absurd q.w h6⟩
   ·rw [if_pos (by
     rw [Bool.not_eq_true',Bool.eq_false_iff]
     exact fun q=>h5 (he.1 q))]
    exact ⟨fun q=>(by cases q),fun q=>absurd q.zero h5⟩
 ·rw [decide_eq_false h3,if_pos (by decide)]
  exact ⟨fun q=>(by cases q),fun q=>absurd q.right h3⟩
theorem Qh (x:U7) (b:P2):tw (x,b)/\ ((¬jP x/\ Ap (x,b)=([],1))\/ (jP x/\ ¬(0<=b.1/\ b.1<=65536/\ 0<=b.2/\ b.2<=65536)/\ Ap (x,b)=([],5))\/
  (jP x/\ (0<=b.1/\ b.1<=65536/\ 0<=b.2/\ b.2<=65536)/\ Ap (x,b)=(x.2.1.map (EW fun p=>jE (p,b)),0))):=by
 unfold tw Ap
 dsimp only [aM,au]
 by_cases h:jP x
 ·have hf:=(wN x).2.2 h
  have hl:x.2.1.length<1099511627776:=by have:=h.len;have:=h.same;omega
  rw [hf,if_neg (by decide)]
  refine ⟨⟨(wN x).1,fun _ _ _=>(A6 _ _ hl).1⟩,.inr ?_⟩
  have g1:=da b.1 b.2
  have g2:=cZ b.1 b.2
  by_cases h1:aO b.1 b.2<0
  ·rw [if_pos h1];exact .inl ⟨h,by omega,rfl⟩
  ·rw [if_neg h1]
   by_cases h2:aS b.1 b.2>65536
   ·rw [if_pos h2];exact .inl ⟨h,by omega,rfl⟩
   ·rw [if_neg h2,(A6 _ _ hl).2];exact .inr ⟨h,by omega,rfl⟩
 ·have hf:Rn x=false:=by rw [Bool.eq_false_iff];exact fun q=>h ((wN x).2.1 q)
  rw [hf]
  exact ⟨⟨(wN x).1,fun q=>absurd rfl q⟩,.inl ⟨h,rfl⟩⟩
end Go.Proofs.YtojielnkfeoccaaGreat
