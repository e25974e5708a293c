/- Plain laws: which triangle has a texel. -/
import Derived.Test.YtfgdjlhilladhaaGreatBe
import Derived.Test.YtfgdjlhilladhaaGreatGa
noncomputable section
set_option linter.unusedSectionVars false
set_option linter.unusedVariables false
set_option linter.unusedSimpArgs false
namespace Go.Proofs.YtfgdjlhilladhaaGreat
open Go Go.Ev Go.Proofs
def InP (w h:Int) (p:P2):Prop:=(0<=p.1/\ p.1<16*w)/\ 0<=p.2/\ p.2<16*h
def AJ (w h:Int) (t:T2):Prop:=InP w h t.1/\ InP w h t.2.1/\ InP w h t.2.2
theorem afx {w h:Int} (hw:pM w) (hh:pM h) (p:P2):acn (p,w,h)=true↔ ¬InP w h p:=by
 obtain ⟨a,b⟩:=p
 obtain ⟨w1,w2⟩:=hw
 obtain ⟨h1,h2⟩:=hh
 have m:=gA a b
 unfold acn InP
 dsimp only
 rw [ay (n:=16*w) (by omega) (by omega),ay (n:=16*h) (by omega) (by omega)]
 by_cases c1:aG a b<0
 ·rw [if_pos c1];simp only [true_iff];omega
 ·rw [if_neg c1]
  by_cases c2:a>=16*w
  ·rw [if_pos c2];simp only [true_iff];omega
  ·rw [if_neg c2,decide_eq_true_eq];omega
theorem JU (l:List P2) (hl:l.length<4611686018427387904) (r:P2):jt (l,r)/\ kU (l,r)=l.any fun o=>acn (o,r):=by
 have h:=kW l hl (fun o=>acn (o,r)) (iG (l,r)) (qA (l,r)) (fun i hi=>by
   unfold qA
   intro h
   simp only [Int.toNat_natCast]
   dsimp only at h ⊢;omega) (fun i x hx=>by
   have hlt:=bt hx
   unfold iG aq
   rw [if_pos (by dsimp only;omega),Int.toNat_natCast]
   dsimp only
   rw [cY hx]) (by
   unfold iG
   rw [if_neg (by dsimp only;omega)])
 refine ⟨h.1,?_⟩
 have e:Rl (l,r)=_:=h.2
 unfold kU aq
 rw [e]
 exact xD l _
theorem aaj {w h:Int} (hw:pM w) (hh:pM h) (t:T2):jt ([t.1,t.2.1,t.2.2],w,h)/\ (kU ([t.1,t.2.1,t.2.2],w,h)=true↔ ¬AJ w h t):=by
 obtain ⟨h1,h2⟩:=JU [t.1,t.2.1,t.2.2] (by simp) (w,h)
 refine ⟨h1,?_⟩
 rw [h2]
 simp only [List.any_cons,List.any_nil,Bool.or_eq_true,afx hw hh,Bool.false_eq_true,or_false]
 unfold AJ
 by_cases a:InP w h t.1<;>by_cases b:InP w h t.2.1<;>by_cases c:InP w h t.2.2<;>simp [a,b,c]
theorem KP (t:T2):fY t:=(bF _ _ _).1
def Rt (w h:Int) (l:List T2):Prop:= ∀t∈l,AJ w h t/\ mright t=true
theorem aae {w h:Int} (hw:pM w) (hh:pM h) (l:List T2) (hl:l.length<4611686018427387904):
  TR (cx (w,h,l)) (fg (w,h,l)) 0 fun r=>(r= .inl ()/\ ¬Rt w h l)\/ (r= .inr ()/\ Rt w h l):=by
 refine bg l.length (fun i s=>s=(i:Int)/\ Rt w h (l.take i)) _ (fun i s hi hj=> ?_) (fun s hj=> ?_) ⟨rfl,by simp [Rt]⟩
 ·obtain ⟨rfl,hR⟩:=hj
  obtain ⟨c1,c2⟩:=aaj hw hh (l.getD i zT)
  refine ⟨?_,?_⟩
  ·unfold fg az
   intro _
   dsimp only
   rw [Int.toNat_natCast]
   exact ⟨by omega,hi,hi,c1,fun _=>KP _⟩
  ·unfold cx aq
   dsimp only
   rw [if_pos (by omega),Int.toNat_natCast]
   by_cases d1:AJ w h (l.getD i zT)
   ·rw [if_neg (fun q=>(c2.1 q) d1)]
    cases d2:mright (l.getD i zT) with
    |false=>
     refine .inr ⟨.inl (),?_,.inl ⟨rfl,fun q=> ?_⟩⟩
     ·rw [if_pos (by decide)]
     ·have:=(q _ (cq hi zT)).2
      rw [d2] at this;cases this
    |true=>
     refine .inl ⟨((i+1:Nat):Int),?_,rfl,fun t ht=> ?_⟩
     ·rw [if_neg (by decide),lO hi hl]
     ·rw [eV hi zT,List.mem_append,List.mem_singleton] at ht
      rcases ht with ht|rfl
      ·exact hR t ht
      ·exact ⟨d1,d2⟩
   ·exact .inr ⟨.inl (),by rw [if_pos (c2.2 d1)],.inl ⟨rfl,fun q=>d1 (q _ (cq hi zT)).1⟩⟩
 ·obtain ⟨rfl,hR⟩:=hj
  rw [List.take_length] at hR
  refine ⟨?_,.inr (),?_,.inr ⟨rfl,hR⟩⟩
  ·unfold fg
   intro q
   dsimp only at q;omega
  ·unfold cx
   dsimp only
   rw [if_neg (by omega)]
def I7 (x y:Nat) (t:T2):Bool:=(Ao ((x:Int),(y:Int),t)).1
theorem WY (x:P2×(Int×T2)):xU x:=
 fun _ _=>⟨(gp _ (by simp)).1,fun _=>⟨(gp _ (by simp)).1,fun _=>⟨KP _,fun _ _ _ _ _=>F9 _ (by simp)⟩⟩⟩
theorem XY (x:Int×(Int×T2)):sA x:=fun _ _=>⟨KP _,fun _=>WY _⟩
def Y5 (t:T2):Int:=aj (Int.tdiv (aG (aG t.1.1 t.2.1.1) t.2.2.1) 16)
def Y6 (t:T2):Int:=aj (Int.tdiv (aG (aG t.1.2 t.2.1.2) t.2.2.2) 16)
def hix (t:T2):Int:=aj (Int.tdiv (aI (aI t.1.1 t.2.1.1) t.2.2.1) 16)
def hiy (t:T2):Int:=aj (Int.tdiv (aI (aI t.1.2 t.2.1.2) t.2.2.2) 16)
def QG (t:T2) (x y:Nat):Prop:=(aI (aj (Y5 t- 1)) 0<=(x:Int)/\ (x:Int)<=hix t)/\ aI (aj (Y6 t- 1)) 0<=(y:Int)/\ (y:Int)<=hiy t
theorem Jo {a b c w:Int} (hw:pM w) (ha:0<=a/\ a<16*w) (hb:0<=b/\ b<16*w) (hc:0<=c/\ c<16*w):
  (aj (Int.tdiv (aG (aG a b) c) 16)=aG (aG a b) c / 16/\ 0<=aG (aG a b) c/\ aG (aG a b) c<=a/\ aG (aG a b) c<=b/\ aG (aG a b) c<=c)/\
  (aj (Int.tdiv (aI (aI a b) c) 16)=aI (aI a b) c / 16/\ aI (aI a b) c<16*w/\ a<=aI (aI a b) c/\ b<=aI (aI a b) c/\ c<=aI (aI a b) c):=by
 obtain ⟨w1,w2⟩:=hw
 have m1:=gA a b
 have m2:=gA (aG a b) c
 have m3:=fN a b
 have m4:=fN (aI a b) c
 generalize aG (aG a b) c=u at*
 generalize aI (aI a b) c=v at*
 rw [Int.tdiv_eq_ediv_of_nonneg (show 0<=u by omega),Int.tdiv_eq_ediv_of_nonneg (show 0<=v by omega),ay (n:=u / 16) (by omega) (by omega),ay (n:=v / 16) (by omega) (by omega)]
 omega
structure Bx (W H:Nat) (t:T2) (a b c d:Nat):Prop where
 la:aI (aj (Y5 t- 1)) 0=(a:Int)
 lb:hix t=(b:Int)
 lc:aI (aj (Y6 t- 1)) 0=(c:Int)
 ld:hiy t=(d:Int)
 ab:a<=b+1
 cd:c<=d+1
 bw:b<W
 dh:d<H
theorem agL {W H:Nat} (hw:pM (W:Int)) (hh:pM (H:Int)) {t:T2} (h:AJ W H t): ∃a b c d,Bx W H t a b c d:=by
 obtain ⟨⟨p1,p2⟩,⟨p3,p4⟩,p5,p6⟩:=h
 obtain ⟨⟨x1,x2,x3,x4,x5⟩,x6,x7,x8,x9,x10⟩:=Jo hw p1 p3 p5
 obtain ⟨⟨y1,y2,y3,y4,y5⟩,y6,y7,y8,y9,y10⟩:=Jo hh p2 p4 p6
 obtain ⟨w1,w2⟩:=hw
 obtain ⟨h1,h2⟩:=hh
 have q1:Y5 t=_:=x1
 have q2:hix t=_:=x6
 have q3:Y6 t=_:=y1
 have q4:hiy t=_:=y6
 have m1:=fN (aj (Y5 t- 1)) 0
 have m2:=fN (aj (Y6 t- 1)) 0
 have e1:aj (Y5 t- 1)=Y5 t- 1:=ay (by omega) (by omega)
 have e2:aj (Y6 t- 1)=Y6 t- 1:=ay (by omega) (by omega)
 refine ⟨(aI (aj (Y5 t- 1)) 0).toNat,(hix t).toNat,(aI (aj (Y6 t- 1)) 0).toNat,(hiy t).toNat,⟨?_,?_,?_,?_,?_,?_,?_,?_⟩⟩<;>omega
def Don (W y x n:Nat):Prop:=n / W<y\/ (n / W=y/\ n % W<x)
structure Inv (W H:Nat) (l:List T2) (i y x:Nat) (o:List Int):Prop where
 len:o.length=W*H
 has: ∀n,n<W*H->o.getD n 0= -1\/ ∃j,j<l.length/\ o.getD n 0=(j:Int)/\ I7 (n % W) (n / W) (l.getD j zT)=true
 all: ∀n,n<W*H-> ∀j,j<l.length->(j<i\/ j=i/\ Don W y x n)->QG (l.getD j zT) (n % W) (n / W)->I7 (n % W) (n / W) (l.getD j zT)=true->o.getD n 0≠ -1
 lst: ∀n,n<W*H-> ∀j:Nat,o.getD n 0=(j:Int)-> ∀k,k<j->QG (l.getD k zT) (n % W) (n / W)->I7 (n % W) (n / W) (l.getD k zT)=false
section
variable {W H:Nat} {l:List T2} {i y x:Nat} {o:List Int}
theorem Inv.next (h:Inv W H l i y x o) {y' x':Nat} (hd: ∀n,n<W*H->QG (l.getD i zT) (n % W) (n / W)->Don W y' x' n->Don W y x n):Inv W H l i y' x' o:=
 ⟨h.len,h.has,fun n hn j hj hc hb hv=>h.all n hn j hj (hc.elim .inl fun ⟨e,q⟩=> .inr ⟨e,by subst e;exact hd n hn hb q⟩) hb hv,h.lst⟩
theorem Inv.fin (h:Inv W H l i y x o) (hd: ∀n,n<W*H->QG (l.getD i zT) (n % W) (n / W)->Don W y x n):Inv W H l (i+1) 0 0 o:=
 ⟨h.len,h.has,fun n hn j hj hc hb hv=>h.all n hn j hj (by
  rcases hc with hc|⟨_,hc⟩
  ·rcases Nat.lt_or_ge j i with q|q
   ·exact .inl q
   ·have:j=i:=by omega
    subst this
    exact .inr ⟨rfl,hd n hn hb⟩
  ·rcases hc with hc|⟨_,hc⟩
   ·exact absurd hc (Nat.not_lt_zero _)
   ·exact absurd hc (Nat.not_lt_zero _)) hb hv,h.lst⟩
theorem Ko (hx:x<W) (hy:y<H):y*W+x<W*H:=by
 have h1:(y+1)*W<=H*W:=Nat.mul_le_mul_right W hy
 rw [Nat.add_mul,Nat.one_mul,Nat.mul_comm H W] at h1
 omega
theorem rN (hx:x<W):(y*W+x) / W=y:=by
 rw [Nat.mul_comm,Nat.mul_add_div (Nat.lt_of_le_of_lt (Nat.zero_le x) hx),Nat.div_eq_of_lt hx,Nat.add_zero]
theorem rM (hx:x<W):(y*W+x) % W=x:=by
 rw [Nat.mul_comm,Nat.mul_add_mod,Nat.mod_eq_of_lt hx]
theorem ajA {n:Nat} (h1:n / W=y) (h2:n % W=x):n=y*W+x:=by
 have:=Nat.div_add_mod n W
 rw [h1,h2,Nat.mul_comm] at this;omega
theorem adY (hW:W<=256) (hH:H<=256) (hx:x<W) (hy:y<H):aj (aj ((y:Int)*(W:Int))+(x:Int))=((y*W+x:Nat):Int):=by
 have h1:=Ko hx hy
 have h2:W*H<=256*256:=Nat.mul_le_mul hW hH
 have h3:((y:Int)*(W:Int))=((y*W:Nat):Int):=by rw [Int.natCast_mul]
 rw [h3,ay (n:=((y*W:Nat):Int)) (by omega) (by omega),ay (by omega) (by omega)]
 omega
theorem Tc (hx:x<W) {n:Nat} :Don W y (x+1) n↔Don W y x n\/ n=y*W+x:=by
 unfold Don
 constructor
 ·rintro (h|⟨h1,h2⟩)
  ·exact .inl (.inl h)
  ·rcases Nat.lt_or_ge (n % W) x with q|q
   ·exact .inl (.inr ⟨h1,q⟩)
   ·exact .inr (ajA h1 (by omega))
 ·rintro ((h|⟨h1,h2⟩)|rfl)
  ·exact .inl h
  ·exact .inr ⟨h1,by omega⟩
  ·exact .inr ⟨rN hx,by rw [rM hx];omega⟩
theorem Inv.stay (h:Inv W H l i y x o) (hx:x<W) (hq:o.getD (y*W+x) 0≠ -1\/ I7 x y (l.getD i zT)=false):Inv W H l i y (x+1) o:=
 ⟨h.len,h.has,fun n hn j hj hc hb hv=>by
  rcases hc with hc|⟨e,hc⟩
  ·exact h.all n hn j hj (.inl hc) hb hv
  ·rcases (Tc hx).1 hc with q|rfl
   ·exact h.all n hn j hj (.inr ⟨e,q⟩) hb hv
   ·rcases hq with q|q
    ·exact q
    ·subst e
     rw [rN hx,rM hx,q] at hv;exact absurd hv (by decide),h.lst⟩
theorem Inv.put (h:Inv W H l i y x o) (hx:x<W) (hy:y<H) (hi:i<l.length) (hq:I7 x y (l.getD i zT)=true) (he:o.getD (y*W+x) 0= -1):Inv W H l i y (x+1) (o.set (y*W+x) (i:Int)):=by
 have IQ: ∀n,n<W*H->(o.set (y*W+x) (i:Int)).getD n 0=if y*W+x=n then (i:Int) else o.getD n 0:=fun n hn=>by
  rw [List.getD_eq_getElem?_getD,List.getElem?_set,List.getD_eq_getElem?_getD]
  by_cases e:y*W+x=n
  ·rw [if_pos e,if_pos e,if_pos (by rw [h.len];omega)];rfl
  ·rw [if_neg e,if_neg e]
 refine ⟨by rw [List.length_set];exact h.len,fun n hn=> ?_,fun n hn j hj hc hb hv=> ?_,fun n hn j hj k hk hb=> ?_⟩
 ·rw [IQ n hn]
  by_cases e:y*W+x=n
  ·rw [if_pos e]
   subst e
   exact .inr ⟨i,hi,rfl,by rw [rN hx,rM hx];exact hq⟩
  ·rw [if_neg e];exact h.has n hn
 ·rw [IQ n hn]
  by_cases e:y*W+x=n
  ·rw [if_pos e];omega
  ·rw [if_neg e]
   refine h.all n hn j hj ?_ hb hv
   rcases hc with hc|⟨e',hc⟩
   ·exact .inl hc
   ·rcases (Tc hx).1 hc with q|q
    ·exact .inr ⟨e',q⟩
    ·exact absurd q.symm e
 ·rw [IQ n hn] at hj
  by_cases e:y*W+x=n
  ·rw [if_pos e] at hj
   have hji:j=i:=by omega
   subst hji
   rw [Bool.eq_false_iff]
   intro hv
   exact h.all n hn k (by omega) (.inl hk) hb hv (by rw [<- e];exact he)
  ·rw [if_neg e] at hj;exact h.lst n hn j hj k hk hb
end
def stA (o:List Int) (i:Nat) (t:T2) (y:Nat):(List Int×Int×Int×Int×Int×Int×Int×Int×Int×Int×Int×Int×Int×Int×Int×Int×Int×Int×Int):=
 (o,(i:Int),t.1.1,t.1.2,t.2.1.1,t.2.1.2,t.2.2.1,t.2.2.2,t.1.1,t.1.2,t.2.1.1,t.2.1.2,t.2.2.1,t.2.2.2,Y5 t,Y6 t,hix t,hiy t,(y:Int))
def stC (o:List Int) (i:Nat) (t:T2):(List Int×Int×Int×Int×Int×Int×Int×Int×Int×Int×Int×Int×Int×Int×Int×Int×Int×Int):=
 (o,(i:Int),t.1.1,t.1.2,t.2.1.1,t.2.1.2,t.2.2.1,t.2.2.2,t.1.1,t.1.2,t.2.1.1,t.2.1.2,t.2.2.1,t.2.2.2,Y5 t,Y6 t,hix t,hiy t)
def stN (r:(List Int×Int×Int×Int×Int×Int×Int×Int×Int×Int×Int×Int×Int×Int×Int×Int×Int×Int×Int)):(List Int×Int×Int×Int×Int×Int×Int×Int×Int×Int×Int×Int×Int×Int×Int×Int×Int×Int×Int):=(r.1,r.2.1,r.2.2.1,r.2.2.2.1,r.2.2.2.2.1,r.2.2.2.2.2.1,r.2.2.2.2.2.2.1,r.2.2.2.2.2.2.2.1,r.2.2.2.2.2.2.2.2.1,r.2.2.2.2.2.2.2.2.2.1,r.2.2.2.2.2.2.2.2.2.2.1,r.2.2.2.2.2.2.2.2.2.2.2.1,r.2.2.2.2.2.2.2.2.2.2.2.2.1,r.2.2.2.2.2.2.2.2.2.2.2.2.2.1,r.2.2.2.2.2.2.2.2.2.2.2.2.2.2.1,r.2.2.2.2.2.2.2.2.2.2.2.2.2.2.2.1,r.2.2.2.2.2.2.2.2.2.2.2.2.2.2.2.2.1,r.2.2.2.2.2.2.2.2.2.2.2.2.2.2.2.2.2.1,aj (r.2.2.2.2.2.2.2.2.2.2.2.2.2.2.2.2.2.2+1))
def stB (o:List Int) (i:Nat) (t:T2) (y x:Nat):(List Int×Int×Int×Int×Int×Int×Int×Int×Int×Int×Int×Int×Int×Int×Int×Int×Int×Int×Int×Int):=
 (o,(i:Int),t.1.1,t.1.2,t.2.1.1,t.2.1.2,t.2.2.1,t.2.2.2,t.1.1,t.1.2,t.2.1.1,t.2.1.2,t.2.2.1,t.2.2.2,Y5 t,Y6 t,hix t,hiy t,(y:Int),(x:Int))
section
variable {W H:Nat} (hW:W<=256) (hH:H<=256) (l:List T2) (i:Nat) (hi:i<l.length) (a b c d:Nat) (hb:Bx W H (l.getD i zT) a b c d)
include hW hH hi hb
theorem al4 (y:Nat) (hy:y<H) (o:List Int) (h0:Inv W H l i y a o):
  TR (bI ((W:Int),(H:Int),l) ()) (cH ((W:Int),(H:Int),l) ()) (stB o i (l.getD i zT) y a) fun r=> ∃o',r=stA o' i (l.getD i zT) y/\ Inv W H l i y (b+1) o':=by
 have hab:=hb.ab
 have hbw:=hb.bw
 have hlb:=hb.lb
 refine bg (b+1- a) (fun k s=> ∃o',s=stB o' i (l.getD i zT) y (a+k)/\ Inv W H l i y (a+k) o') _ (fun k s hk hj=> ?_) (fun s hj=> ?_) ⟨o,rfl,h0⟩
 ·obtain ⟨o',rfl,hI⟩:=hj
  have hx:a+k<W:=by omega
  have hidx:=adY hW hH hx hy
  have hlt:=Ko hx hy
  have hlen:=hI.len
  refine ⟨?_,.inl ?_⟩
  ·unfold cH stB az
   intro _
   dsimp only
   rw [hidx,Int.toNat_natCast,hlen]
   exact ⟨by omega,hlt,hlt,fun _=>⟨XY _,fun _=>⟨by omega,hlt,hlt⟩⟩⟩
  ·have hc:aj (((a+k:Nat):Int)+1)=((a+(k+1):Nat):Int):=by rw [ay (by omega) (by omega)];omega
   unfold bI
   show∃s',(if ((a+k:Nat):Int)<=hix (l.getD i zT) then _ else _)=_/\ _
   rw [if_pos (by omega)]
   show∃s',(if ((o'.getD (Int.toNat (aj (aj ((y:Int)*(W:Int))+((a+k:Nat):Int)))) 0== -1)=true) then _ else _)=_/\ _
   rw [hidx,Int.toNat_natCast]
   by_cases e:o'.getD (y*W+(a+k)) 0= -1
   ·rw [if_pos (by rw [e];rfl)]
    unfold aq
    show∃s',(if (I7 (a+k) y (l.getD i zT))=true then _ else _)=_/\ _
    cases hq:I7 (a+k) y (l.getD i zT) with
    |false=>
     rw [if_neg (by decide)]
     exact ⟨stB o' i (l.getD i zT) y (a+(k+1)),by unfold stB;rw [<- hc],o',rfl,hI.stay hx (.inr hq)⟩
    |true=>
     rw [if_pos rfl]
     refine ⟨stB (o'.set (y*W+(a+k)) (i:Int)) i (l.getD i zT) y (a+(k+1)),?_,_,rfl,hI.put hx hy hi hq e⟩
     unfold stB
     rw [<- hc]
     dsimp only
     rw [hidx,Int.toNat_natCast]
   ·rw [if_neg (by simpa using e)]
    exact ⟨stB o' i (l.getD i zT) y (a+(k+1)),by unfold stB;rw [<- hc],o',rfl,hI.stay hx (.inl e)⟩
 ·obtain ⟨o',rfl,hI⟩:=hj
  refine ⟨?_,stA o' i (l.getD i zT) y,?_,o',rfl,by rw [show b+1=a+(b+1- a) by omega];exact hI⟩
  ·unfold cH stB
   intro q
   dsimp only at q
   omega
  ·unfold bI
   show (if ((a+(b+1- a):Nat):Int)<=hix (l.getD i zT) then _ else _)=_
   rw [if_neg (by omega)];rfl
theorem al5 (o:List Int) (h0:Inv W H l i 0 0 o):
  TR (bH ((W:Int),(H:Int),l) ()) (cF ((W:Int),(H:Int),l) ()) (stA o i (l.getD i zT) c) fun r=>Inv W H l (i+1) 0 0 r.1:=by
 have hcd:=hb.cd
 have hdh:=hb.dh
 have hld:=hb.ld
 have hla:=hb.la
 have hlb:=hb.lb
 have hlc:=hb.lc
 refine bg (d+1- c) (fun k s=> ∃o',s=stA o' i (l.getD i zT) (c+k)/\ Inv W H l i (c+k) a o') _ (fun k s hk hj=> ?_) (fun s hj=> ?_) ⟨o,rfl,h0.next fun n _ hB hD=> ?_⟩
 ·obtain ⟨o',rfl,hI⟩:=hj
  have key:=al4 hW hH l i hi a b c d hb (c+k) (by omega) o' hI
  refine ⟨?_,.inl ?_⟩
  ·unfold cF
   intro _
   show Term _ _ (o',(i:Int),_)
   have:=key.1
   unfold stB at this
   rw [<- hla] at this
   exact this
  ·obtain ⟨o2,e,hI2⟩:=key.2
   refine ⟨stA o2 i (l.getD i zT) (c+(k+1)),?_,o2,rfl,hI2.next fun n _ hB hD=> ?_⟩
   ·unfold bH
    show (if ((c+k:Nat):Int)<=hiy (l.getD i zT) then _ else _)=_
    rw [if_pos (by omega)]
    unfold stB at e
    rw [<- hla] at e
    unfold aq
    have hc:aj (((c+k:Nat):Int)+1)=((c+(k+1):Nat):Int):=by
     have:=hH
     rw [ay (by omega) (by omega)];omega
    refine Eq.trans (congrArg (fun r=>Sum.inl (stN r)) e) ?_
    unfold stN stA
    dsimp only
    rw [hc]
   ·obtain ⟨⟨b1,b2⟩,b3,b4⟩:=hB
    unfold Don at hD ⊢
    omega
 ·obtain ⟨o',rfl,hI⟩:=hj
  refine ⟨?_,stC o' i (l.getD i zT),?_,hI.fin fun n _ hB=> ?_⟩
  ·unfold cF stA
   intro q
   dsimp only at q
   omega
  ·unfold bH
   show (if ((c+(d+1- c):Nat):Int)<=hiy (l.getD i zT) then _ else _)=_
   rw [if_neg (by omega)];rfl
  ·obtain ⟨⟨b1,b2⟩,b3,b4⟩:=hB
   unfold Don
   omega
 ·obtain ⟨⟨b1,b2⟩,b3,b4⟩:=hB
  unfold Don at hD ⊢
  omega
end
theorem ahD {W H:Nat} (hw:pM (W:Int)) (hh:pM (H:Int)) (l:List T2) (hl:l.length<4611686018427387904) (hR:Rt W H l) (o:List Int) (h0:Inv W H l 0 0 0 o):
  TR (cT ((W:Int),(H:Int),l)) (fh ((W:Int),(H:Int),l)) (o,0) fun r=>Inv W H l l.length 0 0 r:=by
 have hw2:=hw.2
 have hh2:=hh.2
 refine bg l.length (fun i s=> ∃o',s=(o',(i:Int))/\ Inv W H l i 0 0 o') _ (fun i s hi hj=> ?_) (fun s hj=> ?_) ⟨o,rfl,h0⟩
 ·obtain ⟨o',rfl,hI⟩:=hj
  obtain ⟨a,b,c,d,hb⟩:=agL hw hh (hR _ (cq hi zT)).1
  have key:=al5 (by omega) (by omega) l i hi a b c d hb o' hI
  unfold stA at key
  rw [<- hb.lc] at key
  refine ⟨?_,.inl ?_⟩
  ·unfold fh
   intro _
   dsimp only
   rw [Int.toNat_natCast]
   exact ⟨by omega,hi,hi,key.1⟩
  ·unfold cT aq
   dsimp only
   rw [if_pos (by omega),Int.toNat_natCast,lO hi hl]
   exact ⟨_,rfl,_,rfl,key.2⟩
 ·obtain ⟨o',rfl,hI⟩:=hj
  refine ⟨?_,o',?_,hI⟩
  ·unfold fh
   intro q
   dsimp only at q;omega
  ·unfold cT
   dsimp only
   rw [if_neg (by omega)]
structure Own (W H:Nat) (l:List T2) (o:List Int):Prop where
 len:o.length=W*H
 has: ∀n,n<W*H->o.getD n 0= -1\/ ∃j,j<l.length/\ o.getD n 0=(j:Int)/\ I7 (n % W) (n / W) (l.getD j zT)=true
 all: ∀n,n<W*H-> ∀j,j<l.length->QG (l.getD j zT) (n % W) (n / W)->I7 (n % W) (n / W) (l.getD j zT)=true->o.getD n 0≠ -1
 lst: ∀n,n<W*H-> ∀j:Nat,o.getD n 0=(j:Int)-> ∀k,k<j->QG (l.getD k zT) (n % W) (n / W)->I7 (n % W) (n / W) (l.getD k zT)=false
theorem U3 (W H:Nat) (hw:pM (W:Int)) (hh:pM (H:Int)) (l:List T2) (hl:l.length<4611686018427387904):
  jJ ((W:Int),(H:Int),l)/\ ((¬Rt W H l/\ oa ((W:Int),(H:Int),l)=([],1))\/ (Rt W H l/\ ∃o,oa ((W:Int),(H:Int),l)=(o,0)/\ Own W H l o)):=by
 have hw':=hw
 have IS:=hh
 obtain ⟨w1,w2⟩:=hw
 obtain ⟨h1,h2⟩:=hh
 have m1:=gA (W:Int) (H:Int)
 have m2:=fN (W:Int) (H:Int)
 have c1: ¬aG (W:Int) (H:Int)<1:=by omega
 have c2: ¬aI (W:Int) (H:Int)>256:=by omega
 have hm:W*H<=256*256:=Nat.mul_le_mul (by omega) (by omega)
 have e1:aj ((W:Int)*(H:Int))=((W*H:Nat):Int):=by rw [<- Int.natCast_mul,ay (by omega) (by omega)]
 obtain ⟨q1,q2⟩:=LI (-1) (n:=W*H) (by omega)
 have k1:=aae hw' IS l hl
 have hI:Inv W H l 0 0 0 (List.replicate (W*H) (-1)):=by
  have hz: ∀n,n<W*H->(List.replicate (W*H) (-1:Int)).getD n 0= -1:=fun n hn=>by
   rw [List.getD_eq_getElem?_getD,List.getElem?_replicate,if_pos hn];rfl
  refine ⟨by simp,fun n hn=> .inl (hz n hn),fun n hn j hj hc=> ?_,fun n hn j hj=> ?_⟩
  ·rcases hc with hc|⟨_,hc|⟨_,hc⟩⟩<;>exact absurd hc (Nat.not_lt_zero _)
  ·rw [hz n hn] at hj;omega
 unfold jJ oa az aq
 dsimp only
 rw [if_neg c1,if_neg c2,e1,q2]
 rcases k1.2 with ⟨e,hn⟩|⟨e,hR⟩
 ·rw [e]
  exact ⟨fun _ _=>⟨k1.1,trivial⟩,.inl ⟨hn,rfl⟩⟩
 ·rw [e]
  have k2:=ahD hw' IS l hl hR _ hI
  refine ⟨fun _ _=>⟨k1.1,q1,k2.1⟩,.inr ⟨hR,_,rfl,⟨k2.2.len,k2.2.has,fun n hn j hj hB hv=>k2.2.all n hn j hj (.inl hj) hB hv,k2.2.lst⟩⟩⟩
end Go.Proofs.YtfgdjlhilladhaaGreat
