/- Plain laws: turned triangles, patches, charts that are laid. -/
import Derived.Test.YtfgdjlhilladhaaGreatQd
import Derived.Test.YtfgdjlhilladhaaGreatFf
noncomputable section
set_option linter.unusedSectionVars false
set_option linter.unusedVariables false
set_option linter.unusedSimpArgs false
namespace Go.Proofs.YtfgdjlhilladhaaGreat
open Go Go.Ev Go.Proofs
theorem aag (l:List T2) (hl:l.length<1099511627776):BK l:=fun b hb=>by
 cases b with
 |false=>exact ⟨rfl,fun _=>by omega⟩
 |true=>
  cases l with
  |nil=>exact ⟨rfl,fun h=>absurd rfl h⟩
  |cons a r=>exact absurd (hb (by simp)) (by decide)
def w4 (f:P2->P2) (t:T2):T2:=(f t.1,f t.2.1,f t.2.2)
def half (f:P2->P2) (l:List T2) (i:Nat):List T2:=(l.take i).map (w4 f)++l.drop i
theorem Tn (f:P2->P2) (l:List T2) (i:Nat) (hi:i<=l.length):(half f l i).length=l.length:=by
 unfold half;simp;omega
theorem adF (f:P2->P2) (l:List T2) (i:Nat) (hi:i<l.length):(half f l i).getD i zT=l.getD i zT:=by
 unfold half
 rw [List.getD_eq_getElem?_getD,List.getElem?_append_right (by simp;omega)]
 simp [Nat.min_eq_left (Nat.le_of_lt hi)]
theorem adG (f:P2->P2) (l:List T2) (i:Nat) (hi:i<l.length) (v:T2) (hv:v=w4 f (l.getD i zT)):(half f l i).set i v=half f l (i+1):=by
 subst hv
 unfold half
 have h1:((l.take i).map (w4 f)).length=i:=by simp;omega
 rw [List.set_append_right _ _ (by omega),h1,Nat.sub_self,List.drop_eq_getElem_cons hi,List.set_cons_zero,List.take_succ_eq_append_getElem hi,List.map_append,List.append_assoc,List.getD_eq_getElem?_getD,List.getElem?_eq_getElem hi]
 rfl
theorem Nc {α:Type} (l:List α) (i:Nat) (v d:α) (hi:i<l.length):(l.set i v).getD i d=v:=by
 rw [List.getD_eq_getElem?_getD,List.getElem?_set_self hi];rfl
theorem IE (l:List T2) (by':P2) (hl:l.length<1099511627776):zc (l,by')/\ SE (l,by')=l.map (w4 fun p=>eI (p,by')):=by
 obtain ⟨h1,h2⟩:=cV (step:=kR (l,by')) (pre:=q9 (l,by'))
  (fun s=> ∃i:Nat,s=(half (fun p=>eI (p,by')) l i,(l.length:Int),(i:Int))/\ i<=l.length) (fun s=>l.length- s.2.2.toNat) (fun r=>r=l.map (w4 fun p=>eI (p,by'))) (fun s ⟨i,e,hi⟩=>by
   subst e
   unfold kR q9
   dsimp only [aq,az]
   simp only [Int.toNat_natCast,cond_true,cond_false,List.length_set]
   rw [Tn _ _ _ hi]
   refine ⟨fun h=> ?_,fun s' h=> ?_,fun r h=> ?_⟩
   ·have hi:i<l.length:=by omega
    refine ⟨⟨by omega,by omega⟩,by omega,by omega,⟨by omega,by omega⟩,by omega,by omega,by omega,⟨by omega,by omega⟩,by omega,by omega,by omega,?_⟩
    omega
   ·split at h
    ·rename_i hlt
     have hlt:i<l.length:=by omega
     have hH:=Tn (fun p=>eI (p,by')) l i hi
     cases h
     refine ⟨⟨i+1,?_,hlt⟩,?_⟩
     ·rw [cnt hlt (by omega)]
      congr 1
      rw [List.set_set,List.set_set,adG _ _ _ hlt]
      simp only [Nc _ _ _ _ (show i<(half (fun p=>eI (p,by')) l i).length by omega),List.set_set,adF _ _ _ hlt]
      rfl
     ·rw [cnt hlt (by omega)]
      simp only [Int.toNat_natCast];omega
    ·cases h
   ·split at h
    ·cases h
    ·cases h
     have:i=l.length:=by omega
     subst this
     unfold half
     rw [List.take_length,List.drop_length,List.append_nil]) (l,(l.length:Int),(0:Int)) ⟨0,by unfold half;simp,Nat.zero_le _⟩
 exact ⟨⟨aag l hl,h1⟩,h2⟩
def VT (t:T2):Bool:=mright (t.1,t.2.1,t.2.2)
theorem LJ (t:T2):VT t=true↔Right t.1 t.2.1 t.2.2:=by
 unfold VT;rw [iA,decide_eq_true_iff]
theorem AN (l:List T2) (hl:l.length<4611686018427387904) (b:Bool):sP (l,b)/\ tJ (l,b)= !decide (∀t∈l,Right t.1 t.2.1 t.2.2):=by
 have hh:=kW l hl (fun t=> !VT t) (jx (l,false)) (sW (l,false)) (fun i hi=>by
   unfold sW
   intro h
   simp only [Int.toNat_natCast];dsimp only at h ⊢
   exact ⟨⟨by omega,by omega⟩,by omega,by omega,(bF _ _ _).1⟩) (fun i x hx=>by
   have hlt:=bt hx
   unfold jx odd
   dsimp only [aq]
   rw [if_pos (by omega),Int.toNat_natCast,cY hx]
   rfl) (by
   unfold jx
   dsimp only
   rw [if_neg (by omega)])
 refine ⟨hh.1,?_⟩
 unfold tJ WC
 dsimp only [aq]
 rw [hh.2,xD]
 rw [Bool.eq_iff_iff,List.any_eq_true,Bool.not_eq_true',decide_eq_false_iff_not]
 constructor
 ·rintro ⟨x,h1,h2⟩ h3
  rw [Bool.not_eq_true'] at h2
  rw [(LJ x).2 (h3 x h1)] at h2;cases h2
 ·intro h
  refine Classical.byContradiction fun h2=>h fun p hp=>Classical.byContradiction fun h3=>h2 ⟨p,hp,?_⟩
  rw [Bool.not_eq_true',Bool.eq_false_iff]
  exact fun q=>h3 ((LJ p).1 q)
abbrev SX:Type:=List Int×(List T2×Int×Int)
def Sz (n:Int):Int:=if n<0 then 0 else if n>4096 then 0 else n / 16+1
theorem zB (n:Int):Ol n=(Sz n,if n<0 then 5 else if n>4096 then 5 else 0):=by
 unfold Ol Sz
 split
 ·rfl
 ·split
  ·rfl
  ·rw [Int.tdiv_eq_ediv_of_nonneg (by omega),ay (n:=n / 16) (by omega) (by omega),ay (by omega) (by omega)]
theorem Wi (p:P2):Kg p=(Sz p.1,Sz p.2):=by
 unfold Kg
 dsimp only [aq]
 rw [zB,zB]
structure fI (x:SX):Prop where
 len:x.1.length<=500
 same:x.2.1.length=x.1.length
 right: ∀t∈x.2.1,Right t.1 t.2.1 t.2.2
 ok:(jn x.2.1).2.2=0
 zero:(jn x.2.1).1=z2
 w:x.2.2.1=Sz (jn x.2.1).2.1.1
 h:x.2.2.2=Sz (jn x.2.1).2.1.2
 free:J2 x.2.1=true
theorem nJ (x:SX):CV x/\ (VO x=true↔fI x):=by
 obtain ⟨tr,uv,w,h⟩:=x
 unfold CV VO
 dsimp only [az,aq]
 by_cases h1:((tr.length:Nat):Int)>500
 ·exact ⟨fun q=>absurd h1 q,by rw [if_pos h1];exact ⟨fun q=>(by cases q),fun q=>absurd q.len (by dsimp only;omega)⟩⟩
 rw [if_neg h1]
 by_cases h2:(((uv.length:Nat):Int) !=((tr.length:Nat):Int))=true
 ·refine ⟨fun _ q=>absurd h2 q,?_⟩
  rw [if_pos h2]
  refine ⟨fun q=>(by cases q),fun q=> ?_⟩
  have:=q.same
  dsimp only at this
  rw [this] at h2;simp at h2
 rw [if_neg h2]
 have hlen:uv.length=tr.length:=by simp only [bne_iff_ne,ne_eq,Decidable.not_not] at h2;omega
 have hl:uv.length<4611686018427387904:=by omega
 refine ⟨fun _ _=>⟨(AN uv hl _).1,fun _=>⟨(xy uv hl).1,fun _ _ _ _=>(J3 uv hl).1⟩⟩,?_⟩
 rw [(AN uv hl _).2,Wi]
 by_cases h3: ∀t∈uv,Right t.1 t.2.1 t.2.2
 ·rw [decide_eq_true h3,if_neg (by decide)]
  by_cases h4:((jn uv).2.2 !=0)=true
  ·rw [if_pos h4]
   refine ⟨fun q=>(by cases q),fun q=> ?_⟩
   have:=q.ok
   dsimp only at this
   rw [this] at h4;exact absurd h4 (by decide)
  ·rw [if_neg h4]
   have h4:(jn uv).2.2=0:=by simpa using h4
   have he:(((jn uv).1.1==0)&&(((jn uv).1.2==0)&&true))=true↔(jn uv).1=z2:=by
    generalize (jn uv).1=p
    obtain ⟨a,b⟩:=p
    simp
   by_cases h5:(jn uv).1=z2
   ·rw [he.2 h5,if_neg (by decide)]
    by_cases h6:w=Sz (jn uv).2.1.1
    ·rw [if_pos (by rw [h6];simp)]
     by_cases h7:h=Sz (jn uv).2.1.2
     ·rw [if_pos (by rw [h7];simp)]
      exact ⟨fun q=>⟨by dsimp only;omega,hlen,h3,h4,h5,h6,h7,q⟩,fun q=>q.free⟩
     ·rw [if_neg (by simpa using h7)]
      exact ⟨fun q=>(by cases q),fun q=>absurd q.h h7⟩
    ·rw [if_neg (by simpa using h6)]
     exact ⟨fun q=>(by cases q),fun q=>absurd q.w h6⟩
   ·rw [if_pos (by
     rw [Bool.not_eq_true',Bool.eq_false_iff]
     exact fun q=>h5 (he.1 q))]
    exact ⟨fun q=>(by cases q),fun q=>absurd q.zero h5⟩
 ·rw [decide_eq_false h3,if_pos (by decide)]
  exact ⟨fun q=>(by cases q),fun q=>absurd q.right h3⟩
theorem F3 (x:SX) (b:P2):zy (x,b)/\ ((¬fI x/\ CX (x,b)=([],1))\/ (fI x/\ ¬(0<=b.1/\ b.1<=65536/\ 0<=b.2/\ b.2<=65536)/\ CX (x,b)=([],5))\/
  (fI x/\ (0<=b.1/\ b.1<=65536/\ 0<=b.2/\ b.2<=65536)/\ CX (x,b)=(x.2.1.map (w4 fun p=>eI (p,b)),0))):=by
 unfold zy CX
 dsimp only [az,aq]
 by_cases h:fI x
 ·have hf:=(nJ x).2.2 h
  have hl:x.2.1.length<1099511627776:=by have:=h.len;have:=h.same;omega
  rw [hf,if_neg (by decide)]
  refine ⟨⟨(nJ x).1,fun _ _ _=>(IE _ _ hl).1⟩,.inr ?_⟩
  have g1:=gA b.1 b.2
  have g2:=fN b.1 b.2
  by_cases h1:aG b.1 b.2<0
  ·rw [if_pos h1];exact .inl ⟨h,by omega,rfl⟩
  ·rw [if_neg h1]
   by_cases h2:aI b.1 b.2>65536
   ·rw [if_pos h2];exact .inl ⟨h,by omega,rfl⟩
   ·rw [if_neg h2,(IE _ _ hl).2];exact .inr ⟨h,by omega,rfl⟩
 ·have hf:VO x=false:=by rw [Bool.eq_false_iff];exact fun q=>h ((nJ x).2.1 q)
  rw [hf]
  exact ⟨⟨(nJ x).1,fun q=>absurd rfl q⟩,.inl ⟨h,rfl⟩⟩
end Go.Proofs.YtfgdjlhilladhaaGreat
namespace Go.Proofs.YtfgdjlhilladhaaGreat
open Go Go.Ev Go.Proofs
abbrev II (p:Int×(Int×Int)):Prop:=(-1048576<=p.1/\ p.1<=1048576)/\ (-1048576<=p.2.1/\ p.2.1<=1048576)/\ (-1048576<=p.2.2/\ p.2.2<=1048576)
theorem Jf (x:List (Int×Int×Int)) (hl:x.length<4611686018427387904):Jg x/\ is3 x=decide (∀p∈x,II p):=by
 have hn: ∀a b c:Int,near [a,b,c]=decide (II (a,b,c)):=fun a b c=>by
  rw [(Dt [a,b,c] (by simp)).2,Bool.eq_iff_iff];simp
 rw [<- xX (bad:=fun p=> !decide (II p)) (fun _=>rfl)]
 refine gG x hl _ _ _ (fun i hi=> ?_) (fun i v hv=> ?_) ?_
 ·unfold Kz
  intro h
  simp only [Int.toNat_natCast]
  exact ⟨by omega,by omega,by omega,(Dt _ (by simp)).1⟩
 ·have hlt:=bt hv
  unfold rP
  rw [if_pos (by omega),Int.toNat_natCast,cY hv]
  unfold aq
  rw [hn]
 ·unfold rP
  rw [if_neg (by omega)]
abbrev P3:Type:=Int×(Int×Int)
abbrev T3:Type:=P3×(P3×P3)
abbrev rq:Type:=List P3×(List P2×List P3×List T3)
theorem FM (i n:Int) (b:Bool):jr (i,n,b)=(decide (0<=i/\ i<n)||(b&&i== -1)):=by
 unfold jr
 dsimp only
 cases b<;>simp only [Bool.false_eq_true,if_false,if_true,Bool.false_and,Bool.or_false,Bool.true_and]
 ·by_cases h:i≥0
  ·by_cases h2:i<n
   ·rw [if_pos h,if_pos h2,decide_eq_true ⟨h,h2⟩]
   ·rw [if_pos h,if_neg h2,decide_eq_false (fun q=>h2 q.2)]
  ·rw [if_neg h,decide_eq_false (fun q=>h q.1)]
 ·by_cases h:i≥0
  ·by_cases h2:i<n
   ·rw [if_pos h,if_pos h2,decide_eq_true ⟨h,h2⟩];rfl
   ·rw [if_pos h,if_neg h2,decide_eq_false (fun q=>h2 q.2)];rfl
  ·rw [if_neg h,decide_eq_false (fun q=>h q.1)];rfl
theorem cr {α:Type} {b c:Bool} {A B X:α} (h:X=if (!c)=true then A else B):(if (!b)=true then A else X)=if (!(b&&c))=true then A else B:=by
 cases b<;>simp [h]
def NU (m:rq) (t:T3):Bool:=
 jr (t.1.1,((m.1.length:Nat):Int),false)&&(jr (t.1.2.1,((m.2.1.length:Nat):Int),true)&&(jr (t.1.2.2,((m.2.2.1.length:Nat):Int),true)&&((decide (t.1.2.1<0)==decide (t.1.2.1<0))&&((decide (t.1.2.2<0)==decide (t.1.2.2<0))&&
 (jr (t.2.1.1,((m.1.length:Nat):Int),false)&&(jr (t.2.1.2.1,((m.2.1.length:Nat):Int),true)&&(jr (t.2.1.2.2,((m.2.2.1.length:Nat):Int),true)&&((decide (t.2.1.2.1<0)==decide (t.1.2.1<0))&&((decide (t.2.1.2.2<0)==decide (t.1.2.2<0))&&
 (jr (t.2.2.1,((m.1.length:Nat):Int),false)&&(jr (t.2.2.2.1,((m.2.1.length:Nat):Int),true)&&(jr (t.2.2.2.2,((m.2.2.1.length:Nat):Int),true)&&((decide (t.2.2.2.1<0)==decide (t.1.2.1<0))&&(decide (t.2.2.2.2<0)==decide (t.1.2.2<0)))))))))))))))
theorem Yq {m:rq} {t:T3} (h:NU m t=true):(0<=t.1.1/\ t.1.1<m.1.length)/\ (0<=t.2.1.1/\ t.2.1.1<m.1.length)/\ (0<=t.2.2.1/\ t.2.2.1<m.1.length):=by
 unfold NU at h
 simp only [Bool.and_eq_true,FM,Bool.false_and,Bool.or_false,decide_eq_true_eq] at h
 exact ⟨h.1,h.2.2.2.2.2.1,h.2.2.2.2.2.2.2.2.2.2.1⟩
def Q8 (m:rq):Bool:=decide (m.1.length<=2000/\ m.2.1.length<=2000/\ m.2.2.1.length<=2000/\ m.2.2.2.length<=500)
theorem ajM (a b c k:Int):aI (aI a b) c<=k↔a<=k/\ b<=k/\ c<=k:=by
 unfold aI;split<;>split<;>omega
theorem anJ (a b c k:Int):k<=aG (aG a b) c↔k<=a/\ k<=b/\ k<=c:=by
 unfold aG;split<;>split<;>omega
theorem aey (m:rq):aex m=Q8 m:=by
 obtain ⟨a,b,c,d⟩:=m
 unfold aex Q8
 dsimp only
 rw [Bool.eq_iff_iff,decide_eq_true_iff]
 split
 ·rename_i h
  rw [ajM] at h
  rw [decide_eq_true_iff];omega
 ·rename_i h
  rw [ajM] at h
  refine ⟨fun h=>(by cases h),fun q=>absurd ?_ h⟩
  omega
def Dq (m:rq):Bool:=Q8 m&&decide (∀p∈m.1,II p)&&decide (∀p∈m.2.1,FG p)&&decide (∀p∈m.2.2.1,II p)&&m.2.2.2.all (NU m)
theorem YH {α:Type} (l:List α) (f:α->Bool):(!l.any fun x=> !f x)=l.all f:=by
 induction l with
 |nil=>rfl
 |cons a r ih=>simp only [List.any_cons,List.all_cons,Bool.not_or,Bool.not_not,ih]
theorem TY (m:rq) (h:m.2.2.2.length<=500):Term (gP m) (sY m) 0/\ Sum.elim (fun _=>false) (fun _=>true) (run (gP m) 0)=m.2.2.2.all (NU m):=by
 rw [<- YH]
 refine gG m.2.2.2 (by omega) (fun t=> !NU m t) _ _ (fun i hi=> ?_) (fun i t ht=> ?_) ?_
 ·unfold sY
  intro h
  simp only [Int.toNat_natCast]
  exact ⟨⟨by omega,h⟩,by omega,by omega⟩
 ·have hlt:=bt ht
  unfold gP
  rw [if_pos (by omega),Int.toNat_natCast,cY ht]
  dsimp only [aq]
  unfold NU
  exact cr (cr (cr (cr (cr (cr (cr (cr (cr (cr (cr (cr (cr (cr rfl)))))))))))))
 ·unfold gP
  rw [if_neg (by omega)]
theorem Q9 {m:rq} (h:Q8 m=true):m.1.length<=2000/\ m.2.1.length<=2000/\ m.2.2.1.length<=2000/\ m.2.2.2.length<=500:=by
 unfold Q8 at h;exact of_decide_eq_true h
theorem KO (m:rq):vh m/\ KM m=Dq m:=by
 unfold vh KM Dq
 dsimp only [az,aq]
 rw [aey]
 cases hf:Q8 m with
 |false=>exact ⟨fun h=>absurd rfl h,rfl⟩
 |true=>
  obtain ⟨h1,h2,h3,h4⟩:=Q9 hf
  rw [(Jf m.1 (by omega)).2,(zF m.2.1 (by omega)).2,(Jf m.2.2.1 (by omega)).2,(TY m h4).2]
  refine ⟨fun _=>⟨(Jf m.1 (by omega)).1,fun _=>⟨(zF m.2.1 (by omega)).1,fun _=>⟨(Jf m.2.2.1 (by omega)).1,fun _=>(TY m h4).1⟩⟩⟩,?_⟩
  generalize decide (∀p∈m.1,II p)=b1
  generalize decide (∀p∈m.2.1,FG p)=b2
  generalize decide (∀p∈m.2.2.1,II p)=b3
  cases b1<;>cases b2<;>cases b3<;>simp
abbrev Nr (p:P3):Prop:=(-4096<=p.1/\ p.1<=4096)/\ (-4096<=p.2.1/\ p.2.1<=4096)/\ (-4096<=p.2.2/\ p.2.2<=4096)
theorem YP (p:P3):far p= !decide (Nr p):=by
 obtain ⟨x,y,z⟩:=p
 have h1:=ajM x y z 4096
 have h2:=anJ x y z (-4096)
 unfold far
 dsimp only
 rw [Bool.eq_iff_iff,Bool.not_eq_true',decide_eq_false_iff_not]
 split
 ·exact ⟨fun _=>by dsimp only [Nr];omega,fun _=>rfl⟩
 ·rw [decide_eq_true_iff]
  dsimp only [Nr];omega
theorem xo (l:List P3) (hl:l.length<4611686018427387904) (b:Bool):qx (l,b)/\ uP (l,b)= !decide (∀p∈l,Nr p):=by
 have hh:=kW l hl far (iH (l,false)) (qB (l,false)) (fun i hi=>by
   unfold qB
   intro h
   simp only [Int.toNat_natCast];dsimp only at h ⊢;omega) (fun i x hx=>by
   have hlt:=bt hx
   unfold iH
   dsimp only [aq]
   rw [if_pos (by omega),Int.toNat_natCast,cY hx]) (by
   unfold iH
   dsimp only
   rw [if_neg (by omega)])
 refine ⟨hh.1,?_⟩
 unfold uP Rm
 dsimp only [aq]
 rw [hh.2,xD]
 rw [Bool.eq_iff_iff,List.any_eq_true,Bool.not_eq_true',decide_eq_false_iff_not]
 constructor
 ·rintro ⟨x,h1,h2⟩ h3
  rw [YP,Bool.not_eq_true',decide_eq_false_iff_not] at h2
  exact h2 (h3 x h1)
 ·intro h
  refine Classical.byContradiction fun h2=>h fun p hp=>Classical.byContradiction fun h3=>h2 ⟨p,hp,?_⟩
  rw [YP,Bool.not_eq_true',decide_eq_false_iff_not];exact h3
def uG (m:rq):Bool:=Dq m&&decide (∀p∈m.1,Nr p)
theorem TX {m:rq} (h:Dq m=true):m.1.length<=2000/\ m.2.1.length<=2000/\ m.2.2.1.length<=2000/\ m.2.2.2.length<=500:=by
 unfold Dq at h
 simp only [Bool.and_eq_true] at h
 exact Q9 h.1.1.1.1
theorem af7 (m:rq):Fs m/\ GL m=uG m:=by
 unfold Fs GL uG
 dsimp only [az,aq]
 rw [(KO m).2]
 refine ⟨⟨(KO m).1,fun h=>(xo _ (by have:=TX h;omega) _).1⟩,?_⟩
 cases h:Dq m with
 |false=>rfl
 |true=>
  rw [if_pos rfl,(xo _ (by have:=TX h;omega) _).2,Bool.not_not,Bool.true_and]
def Pt (m:rq) (i:Int):P3:=m.1.getD i.toNat (0,0,0)
def Tr (m:rq) (i:Int):T3:=m.2.2.2.getD i.toNat ((0,0,0),(0,0,0),0,0,0)
abbrev Has (m:rq) (i:Int):Prop:=0<=i/\ i<m.2.2.2.length
theorem akh {m:rq} {i:Int} (h:Has m i):Tr m i∈m.2.2.2:=by
 unfold Tr
 rw [List.getD_eq_getElem?_getD,List.getElem?_eq_getElem (by omega)]
 exact List.getElem_mem _
theorem MI {m:rq} {i:Int} (hm:uG m=true) (h:Has m i):NU m (Tr m i)=true:=by
 unfold uG Dq at hm
 simp only [Bool.and_eq_true,List.all_eq_true] at hm
 exact hm.1.2 _ (akh h)
end Go.Proofs.YtfgdjlhilladhaaGreat
