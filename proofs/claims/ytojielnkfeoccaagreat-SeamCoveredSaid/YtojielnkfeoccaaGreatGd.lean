/- Plain laws: which triangle has a texel. -/
import Derived.Test.YtojielnkfeoccaaGreatBe
import Derived.Test.YtojielnkfeoccaaGreatGa
noncomputable section
set_option linter.unusedSectionVars false
set_option linter.unusedVariables false
set_option linter.unusedSimpArgs false
namespace Go.Proofs.YtojielnkfeoccaaGreat
open Go Go.Ev Go.Proofs
def IY (w h:Int) (p:P2):Prop:=(0<=p.1/\ p.1<16*w)/\ 0<=p.2/\ p.2<16*h
def Ab (w h:Int) (t:T2):Prop:=IY w h t.1/\ IY w h t.2.1/\ IY w h t.2.2
theorem Ul {w h:Int} (hw:uc w) (hh:uc h) (p:P2):Q4 (p,w,h)=true↔ ¬IY w h p:=by
 obtain ⟨a,b⟩:=p
 obtain ⟨w1,w2⟩:=hw
 obtain ⟨h1,h2⟩:=hh
 have m:=da a b
 unfold Q4 IY
 dsimp only
 rw [bf (n:=16*w) (by omega) (by omega),bf (n:=16*h) (by omega) (by omega)]
 by_cases c1:aO a b<0
 ·rw [if_pos c1];simp only [true_iff];omega
 ·rw [if_neg c1]
  by_cases c2:a>=16*w
  ·rw [if_pos c2];simp only [true_iff];omega
  ·rw [if_neg c2,decide_eq_true_eq];omega
theorem Cw (l:List P2) (hl:l.length<4611686018427387904) (r:P2):iz (l,r)/\ jn (l,r)=l.any fun o=>Q4 (o,r):=by
 have h:=ny l hl (fun o=>Q4 (o,r)) (gD (l,r)) (nu (l,r)) (fun i hi=>by
   unfold nu
   intro h
   simp only [Int.toNat_natCast]
   dsimp only at h ⊢;omega) (fun i x hx=>by
   have hlt:=cU hx
   unfold gD au
   rw [if_pos (by dsimp only;omega),Int.toNat_natCast]
   dsimp only
   rw [gY hx]) (by
   unfold gD
   rw [if_neg (by dsimp only;omega)])
 refine ⟨h.1,?_⟩
 have e:HJ (l,r)=_:=h.2
 unfold jn au
 rw [e]
 exact wM l _
theorem PI {w h:Int} (hw:uc w) (hh:uc h) (t:T2):iz ([t.1,t.2.1,t.2.2],w,h)/\ (jn ([t.1,t.2.1,t.2.2],w,h)=true↔ ¬Ab w h t):=by
 obtain ⟨h1,h2⟩:=Cw [t.1,t.2.1,t.2.2] (by simp) (w,h)
 refine ⟨h1,?_⟩
 rw [h2]
 simp only [List.any_cons,List.any_nil,Bool.or_eq_true,Ul hw hh,Bool.false_eq_true,or_false]
 unfold Ab
 by_cases a:IY w h t.1<;>by_cases b:IY w h t.2.1<;>by_cases c:IY w h t.2.2<;>simp [a,b,c]
theorem Dp (t:T2):gy t:=(jI _ _ _).1
def Rt (w h:Int) (l:List T2):Prop:= ∀t∈l,Ab w h t/\ mright t=true
theorem Pz {w h:Int} (hw:uc w) (hh:uc h) (l:List T2) (hl:l.length<4611686018427387904):
  TR (cF (w,h,l)) (eZ (w,h,l)) 0 fun r=>(r= .inl ()/\ ¬Rt w h l)\/ (r= .inr ()/\ Rt w h l):=by
 refine dj l.length (fun i s=>s=(i:Int)/\ Rt w h (l.take i)) _ (fun i s hi hj=> ?_) (fun s hj=> ?_) ⟨rfl,by simp [Rt]⟩
 ·obtain ⟨rfl,hR⟩:=hj
  obtain ⟨c1,c2⟩:=PI hw hh (l.getD i zT)
  refine ⟨?_,?_⟩
  ·unfold eZ aM
   intro _
   dsimp only
   rw [Int.toNat_natCast]
   exact ⟨by omega,hi,hi,c1,fun _=>Dp _⟩
  ·unfold cF au
   dsimp only
   rw [if_pos (by omega),Int.toNat_natCast]
   by_cases d1:Ab w h (l.getD i zT)
   ·rw [if_neg (fun q=>(c2.1 q) d1)]
    cases d2:mright (l.getD i zT) with
    |false=>
     refine .inr ⟨.inl (),?_,.inl ⟨rfl,fun q=> ?_⟩⟩
     ·rw [if_pos (by decide)]
     ·have:=(q _ (fc hi zT)).2
      rw [d2] at this;cases this
    |true=>
     refine .inl ⟨((i+1:Nat):Int),?_,rfl,fun t ht=> ?_⟩
     ·rw [if_neg (by decide),Jh hi hl]
     ·rw [iU hi zT,List.mem_append,List.mem_singleton] at ht
      rcases ht with ht|rfl
      ·exact hR t ht
      ·exact ⟨d1,d2⟩
   ·exact .inr ⟨.inl (),by rw [if_pos (c2.2 d1)],.inl ⟨rfl,fun q=>d1 (q _ (fc hi zT)).1⟩⟩
 ·obtain ⟨rfl,hR⟩:=hj
  rw [List.take_length] at hR
  refine ⟨?_,.inr (),?_,.inr ⟨rfl,hR⟩⟩
  ·unfold eZ
   intro q
   dsimp only at q;omega
  ·unfold cF
   dsimp only
   rw [if_neg (by omega)]
def RZ (x y:Nat) (t:T2):Bool:=(tR ((x:Int),(y:Int),t)).1
theorem MP (x:P2×(Int×T2)):sF x:=
 fun _ _=>⟨(fJ _ (by simp)).1,fun _=>⟨(fJ _ (by simp)).1,fun _=>⟨Dp _,fun _ _ _ _ _=>zq _ (by simp)⟩⟩⟩
theorem M3 (x:Int×(Int×T2)):oJ x:=fun _ _=>⟨Dp _,fun _=>MP _⟩
def Oj (t:T2):Int:=aj (Int.tdiv (aO (aO t.1.1 t.2.1.1) t.2.2.1) 16)
def Ol (t:T2):Int:=aj (Int.tdiv (aO (aO t.1.2 t.2.1.2) t.2.2.2) 16)
def Vd (t:T2):Int:=aj (Int.tdiv (aS (aS t.1.1 t.2.1.1) t.2.2.1) 16)
def Ve (t:T2):Int:=aj (Int.tdiv (aS (aS t.1.2 t.2.1.2) t.2.2.2) 16)
def Lo (t:T2) (x y:Nat):Prop:=(aS (aj (Oj t- 1)) 0<=(x:Int)/\ (x:Int)<=Vd t)/\ aS (aj (Ol t- 1)) 0<=(y:Int)/\ (y:Int)<=Ve t
theorem B4 {a b c w:Int} (hw:uc w) (ha:0<=a/\ a<16*w) (hb:0<=b/\ b<16*w) (hc:0<=c/\ c<16*w):
  (aj (Int.tdiv (aO (aO a b) c) 16)=aO (aO a b) c / 16/\ 0<=aO (aO a b) c/\ aO (aO a b) c<=a/\ aO (aO a b) c<=b/\ aO (aO a b) c<=c)/\
  (aj (Int.tdiv (aS (aS a b) c) 16)=aS (aS a b) c / 16/\ aS (aS a b) c<16*w/\ a<=aS (aS a b) c/\ b<=aS (aS a b) c/\ c<=aS (aS a b) c):=by
 obtain ⟨w1,w2⟩:=hw
 have m1:=da a b
 have m2:=da (aO a b) c
 have m3:=cZ a b
 have m4:=cZ (aS a b) c
 generalize aO (aO a b) c=u at*
 generalize aS (aS a b) c=v at*
 rw [Int.tdiv_eq_ediv_of_nonneg (show 0<=u by omega),Int.tdiv_eq_ediv_of_nonneg (show 0<=v by omega),bf (n:=u / 16) (by omega) (by omega),bf (n:=v / 16) (by omega) (by omega)]
 omega
structure Bx (W H:Nat) (t:T2) (a b c d:Nat):Prop where
 la:aS (aj (Oj t- 1)) 0=(a:Int)
 lb:Vd t=(b:Int)
 lc:aS (aj (Ol t- 1)) 0=(c:Int)
 ld:Ve t=(d:Int)
 ab:a<=b+1
 cd:c<=d+1
 bw:b<W
 dh:d<H
theorem VE {W H:Nat} (hw:uc (W:Int)) (hh:uc (H:Int)) {t:T2} (h:Ab W H t): ∃a b c d,Bx W H t a b c d:=by
 obtain ⟨⟨p1,p2⟩,⟨p3,p4⟩,p5,p6⟩:=h
 obtain ⟨⟨x1,x2,x3,x4,x5⟩,x6,x7,x8,x9,x10⟩:=B4 hw p1 p3 p5
 obtain ⟨⟨y1,y2,y3,y4,y5⟩,y6,y7,y8,y9,y10⟩:=B4 hh p2 p4 p6
 obtain ⟨w1,w2⟩:=hw
 obtain ⟨h1,h2⟩:=hh
 have q1:Oj t=_:=x1
 have q2:Vd t=_:=x6
 have q3:Ol t=_:=y1
 have q4:Ve t=_:=y6
 have m1:=cZ (aj (Oj t- 1)) 0
 have m2:=cZ (aj (Ol t- 1)) 0
 have e1:aj (Oj t- 1)=Oj t- 1:=bf (by omega) (by omega)
 have e2:aj (Ol t- 1)=Ol t- 1:=bf (by omega) (by omega)
 refine ⟨(aS (aj (Oj t- 1)) 0).toNat,(Vd t).toNat,(aS (aj (Ol t- 1)) 0).toNat,(Ve t).toNat,⟨?_,?_,?_,?_,?_,?_,?_,?_⟩⟩<;>omega
def U4 (W y x n:Nat):Prop:=n / W<y\/ (n / W=y/\ n % W<x)
structure Inv (W H:Nat) (l:List T2) (i y x:Nat) (o:List Int):Prop where
 len:o.length=W*H
 has: ∀n,n<W*H->o.getD n 0= -1\/ ∃j,j<l.length/\ o.getD n 0=(j:Int)/\ RZ (n % W) (n / W) (l.getD j zT)=true
 all: ∀n,n<W*H-> ∀j,j<l.length->(j<i\/ j=i/\ U4 W y x n)->Lo (l.getD j zT) (n % W) (n / W)->RZ (n % W) (n / W) (l.getD j zT)=true->o.getD n 0≠ -1
section
variable {W H:Nat} {l:List T2} {i y x:Nat} {o:List Int}
theorem Inv.next (h:Inv W H l i y x o) {y' x':Nat} (hd: ∀n,n<W*H->Lo (l.getD i zT) (n % W) (n / W)->U4 W y' x' n->U4 W y x n):Inv W H l i y' x' o:=
 ⟨h.len,h.has,fun n hn j hj hc hb hv=>h.all n hn j hj (hc.elim .inl fun ⟨e,q⟩=> .inr ⟨e,by subst e;exact hd n hn hb q⟩) hb hv⟩
theorem Inv.fin (h:Inv W H l i y x o) (hd: ∀n,n<W*H->Lo (l.getD i zT) (n % W) (n / W)->U4 W y x n):Inv W H l (i+1) 0 0 o:=
 ⟨h.len,h.has,fun n hn j hj hc hb hv=>h.all n hn j hj (by
  rcases hc with hc|⟨_,hc⟩
  ·rcases Nat.lt_or_ge j i with q|q
   ·exact .inl q
   ·have:j=i:=by omega
    subst this
    exact .inr ⟨rfl,hd n hn hb⟩
  ·rcases hc with hc|⟨_,hc⟩
   ·exact absurd hc (Nat.not_lt_zero _)
   ·exact absurd hc (Nat.not_lt_zero _)) hb hv⟩
theorem HH (hx:x<W) (hy:y<H):y*W+x<W*H:=by
 have h1:(y+1)*W<=H*W:=Nat.mul_le_mul_right W hy
 rw [Nat.add_mul,Nat.one_mul,Nat.mul_comm H W] at h1
 omega
theorem tD (hx:x<W):(y*W+x) / W=y:=by
 rw [Nat.mul_comm,Nat.mul_add_div (Nat.lt_of_le_of_lt (Nat.zero_le x) hx),Nat.div_eq_of_lt hx,Nat.add_zero]
theorem tC (hx:x<W):(y*W+x) % W=x:=by
 rw [Nat.mul_comm,Nat.mul_add_mod,Nat.mod_eq_of_lt hx]
theorem YI {n:Nat} (h1:n / W=y) (h2:n % W=x):n=y*W+x:=by
 have:=Nat.div_add_mod n W
 rw [h1,h2,Nat.mul_comm] at this;omega
theorem Xx (hW:W<=256) (hH:H<=256) (hx:x<W) (hy:y<H):aj (aj ((y:Int)*(W:Int))+(x:Int))=((y*W+x:Nat):Int):=by
 have h1:=HH hx hy
 have h2:W*H<=256*256:=Nat.mul_le_mul hW hH
 have h3:((y:Int)*(W:Int))=((y*W:Nat):Int):=by rw [Int.natCast_mul]
 rw [h3,bf (n:=((y*W:Nat):Int)) (by omega) (by omega),bf (by omega) (by omega)]
 omega
theorem Jp (hx:x<W) {n:Nat} :U4 W y (x+1) n↔U4 W y x n\/ n=y*W+x:=by
 unfold U4
 constructor
 ·rintro (h|⟨h1,h2⟩)
  ·exact .inl (.inl h)
  ·rcases Nat.lt_or_ge (n % W) x with q|q
   ·exact .inl (.inr ⟨h1,q⟩)
   ·exact .inr (YI h1 (by omega))
 ·rintro ((h|⟨h1,h2⟩)|rfl)
  ·exact .inl h
  ·exact .inr ⟨h1,by omega⟩
  ·exact .inr ⟨tD hx,by rw [tC hx];omega⟩
theorem Inv.stay (h:Inv W H l i y x o) (hx:x<W) (hq:o.getD (y*W+x) 0≠ -1\/ RZ x y (l.getD i zT)=false):Inv W H l i y (x+1) o:=
 ⟨h.len,h.has,fun n hn j hj hc hb hv=>by
  rcases hc with hc|⟨e,hc⟩
  ·exact h.all n hn j hj (.inl hc) hb hv
  ·rcases (Jp hx).1 hc with q|rfl
   ·exact h.all n hn j hj (.inr ⟨e,q⟩) hb hv
   ·rcases hq with q|q
    ·exact q
    ·subst e
     rw [tD hx,tC hx,q] at hv;cases hv⟩
theorem Inv.put (h:Inv W H l i y x o) (hx:x<W) (hy:y<H) (hi:i<l.length) (hq:RZ x y (l.getD i zT)=true):Inv W H l i y (x+1) (o.set (y*W+x) (i:Int)):=by
 have ri: ∀n,n<W*H->(o.set (y*W+x) (i:Int)).getD n 0=if y*W+x=n then (i:Int) else o.getD n 0:=fun n hn=>by
  rw [List.getD_eq_getElem?_getD,List.getElem?_set,List.getD_eq_getElem?_getD]
  by_cases e:y*W+x=n
  ·rw [if_pos e,if_pos e,if_pos (by rw [h.len];omega)];rfl
  ·rw [if_neg e,if_neg e]
 refine ⟨by rw [List.length_set];exact h.len,fun n hn=> ?_,fun n hn j hj hc hb hv=> ?_⟩
 ·rw [ri n hn]
  by_cases e:y*W+x=n
  ·rw [if_pos e]
   subst e
   exact .inr ⟨i,hi,rfl,by rw [tD hx,tC hx];exact hq⟩
  ·rw [if_neg e];exact h.has n hn
 ·rw [ri n hn]
  by_cases e:y*W+x=n
  ·rw [if_pos e];omega
  ·rw [if_neg e]
   refine h.all n hn j hj ?_ hb hv
   rcases hc with hc|⟨e',hc⟩
   ·exact .inl hc
   ·rcases (Jp hx).1 hc with q|q
    ·exact .inr ⟨e',q⟩
    ·exact absurd q.symm e
end
def XN (o:List Int) (i:Nat) (t:T2) (y:Nat):(List Int×Int×Int×Int×Int×Int×Int×Int×Int×Int×Int×Int×Int×Int×Int×Int×Int×Int×Int):=
 (o,(i:Int),t.1.1,t.1.2,t.2.1.1,t.2.1.2,t.2.2.1,t.2.2.2,t.1.1,t.1.2,t.2.1.1,t.2.1.2,t.2.2.1,t.2.2.2,Oj t,Ol t,Vd t,Ve t,(y:Int))
def stC (o:List Int) (i:Nat) (t:T2):(List Int×Int×Int×Int×Int×Int×Int×Int×Int×Int×Int×Int×Int×Int×Int×Int×Int×Int):=
 (o,(i:Int),t.1.1,t.1.2,t.2.1.1,t.2.1.2,t.2.2.1,t.2.2.2,t.1.1,t.1.2,t.2.1.1,t.2.1.2,t.2.2.1,t.2.2.2,Oj t,Ol t,Vd t,Ve t)
def stN (r:(List Int×Int×Int×Int×Int×Int×Int×Int×Int×Int×Int×Int×Int×Int×Int×Int×Int×Int×Int)):(List Int×Int×Int×Int×Int×Int×Int×Int×Int×Int×Int×Int×Int×Int×Int×Int×Int×Int×Int):=(r.1,r.2.1,r.2.2.1,r.2.2.2.1,r.2.2.2.2.1,r.2.2.2.2.2.1,r.2.2.2.2.2.2.1,r.2.2.2.2.2.2.2.1,r.2.2.2.2.2.2.2.2.1,r.2.2.2.2.2.2.2.2.2.1,r.2.2.2.2.2.2.2.2.2.2.1,r.2.2.2.2.2.2.2.2.2.2.2.1,r.2.2.2.2.2.2.2.2.2.2.2.2.1,r.2.2.2.2.2.2.2.2.2.2.2.2.2.1,r.2.2.2.2.2.2.2.2.2.2.2.2.2.2.1,r.2.2.2.2.2.2.2.2.2.2.2.2.2.2.2.1,r.2.2.2.2.2.2.2.2.2.2.2.2.2.2.2.2.1,r.2.2.2.2.2.2.2.2.2.2.2.2.2.2.2.2.2.1,aj (r.2.2.2.2.2.2.2.2.2.2.2.2.2.2.2.2.2.2+1))
def Ru (o:List Int) (i:Nat) (t:T2) (y x:Nat):(List Int×Int×Int×Int×Int×Int×Int×Int×Int×Int×Int×Int×Int×Int×Int×Int×Int×Int×Int×Int):=
 (o,(i:Int),t.1.1,t.1.2,t.2.1.1,t.2.1.2,t.2.2.1,t.2.2.2,t.1.1,t.1.2,t.2.1.1,t.2.1.2,t.2.2.1,t.2.2.2,Oj t,Ol t,Vd t,Ve t,(y:Int),(x:Int))
section
variable {W H:Nat} (hW:W<=256) (hH:H<=256) (l:List T2) (i:Nat) (hi:i<l.length) (a b c d:Nat) (hb:Bx W H (l.getD i zT) a b c d)
include hW hH hi hb
theorem abC (y:Nat) (hy:y<H) (o:List Int) (h0:Inv W H l i y a o):
  TR (bS ((W:Int),(H:Int),l) ()) (cO ((W:Int),(H:Int),l) ()) (Ru o i (l.getD i zT) y a) fun r=> ∃o',r=XN o' i (l.getD i zT) y/\ Inv W H l i y (b+1) o':=by
 have hab:=hb.ab
 have hbw:=hb.bw
 have hlb:=hb.lb
 refine dj (b+1- a) (fun k s=> ∃o',s=Ru o' i (l.getD i zT) y (a+k)/\ Inv W H l i y (a+k) o') _ (fun k s hk hj=> ?_) (fun s hj=> ?_) ⟨o,rfl,h0⟩
 ·obtain ⟨o',rfl,hI⟩:=hj
  have hx:a+k<W:=by omega
  have hidx:=Xx hW hH hx hy
  have hlt:=HH hx hy
  have hlen:=hI.len
  refine ⟨?_,.inl ?_⟩
  ·unfold cO Ru aM
   intro _
   dsimp only
   rw [hidx,Int.toNat_natCast,hlen]
   exact ⟨by omega,hlt,hlt,fun _=>⟨M3 _,fun _=>⟨by omega,hlt,hlt⟩⟩⟩
  ·have hc:aj (((a+k:Nat):Int)+1)=((a+(k+1):Nat):Int):=by rw [bf (by omega) (by omega)];omega
   unfold bS
   show∃s',(if ((a+k:Nat):Int)<=Vd (l.getD i zT) then _ else _)=_/\ _
   rw [if_pos (by omega)]
   show∃s',(if ((o'.getD (Int.toNat (aj (aj ((y:Int)*(W:Int))+((a+k:Nat):Int)))) 0== -1)=true) then _ else _)=_/\ _
   rw [hidx,Int.toNat_natCast]
   by_cases e:o'.getD (y*W+(a+k)) 0= -1
   ·rw [if_pos (by rw [e];rfl)]
    unfold au
    show∃s',(if (RZ (a+k) y (l.getD i zT))=true then _ else _)=_/\ _
    cases hq:RZ (a+k) y (l.getD i zT) with
    |false=>
     rw [if_neg (by decide)]
     exact ⟨Ru o' i (l.getD i zT) y (a+(k+1)),by unfold Ru;rw [<- hc],o',rfl,hI.stay hx (.inr hq)⟩
    |true=>
     rw [if_pos rfl]
     refine ⟨Ru (o'.set (y*W+(a+k)) (i:Int)) i (l.getD i zT) y (a+(k+1)),?_,_,rfl,hI.put hx hy hi hq⟩
     unfold Ru
     rw [<- hc]
     dsimp only
     rw [hidx,Int.toNat_natCast]
   ·rw [if_neg (by simpa using e)]
    exact ⟨Ru o' i (l.getD i zT) y (a+(k+1)),by unfold Ru;rw [<- hc],o',rfl,hI.stay hx (.inl e)⟩
 ·obtain ⟨o',rfl,hI⟩:=hj
  refine ⟨?_,XN o' i (l.getD i zT) y,?_,o',rfl,by rw [show b+1=a+(b+1- a) by omega];exact hI⟩
  ·unfold cO Ru
   intro q
   dsimp only at q
   omega
  ·unfold bS
   show (if ((a+(b+1- a):Nat):Int)<=Vd (l.getD i zT) then _ else _)=_
   rw [if_neg (by omega)];rfl
theorem abD (o:List Int) (h0:Inv W H l i 0 0 o):
  TR (bR ((W:Int),(H:Int),l) ()) (cM ((W:Int),(H:Int),l) ()) (XN o i (l.getD i zT) c) fun r=>Inv W H l (i+1) 0 0 r.1:=by
 have hcd:=hb.cd
 have hdh:=hb.dh
 have hld:=hb.ld
 have hla:=hb.la
 have hlb:=hb.lb
 have hlc:=hb.lc
 refine dj (d+1- c) (fun k s=> ∃o',s=XN o' i (l.getD i zT) (c+k)/\ Inv W H l i (c+k) a o') _ (fun k s hk hj=> ?_) (fun s hj=> ?_) ⟨o,rfl,h0.next fun n _ hB hD=> ?_⟩
 ·obtain ⟨o',rfl,hI⟩:=hj
  have key:=abC hW hH l i hi a b c d hb (c+k) (by omega) o' hI
  refine ⟨?_,.inl ?_⟩
  ·unfold cM
   intro _
   show Term _ _ (o',(i:Int),_)
   have:=key.1
   unfold Ru at this
   rw [<- hla] at this
   exact this
  ·obtain ⟨o2,e,hI2⟩:=key.2
   refine ⟨XN o2 i (l.getD i zT) (c+(k+1)),?_,o2,rfl,hI2.next fun n _ hB hD=> ?_⟩
   ·unfold bR
    show (if ((c+k:Nat):Int)<=Ve (l.getD i zT) then _ else _)=_
    rw [if_pos (by omega)]
    unfold Ru at e
    rw [<- hla] at e
    unfold au
    have hc:aj (((c+k:Nat):Int)+1)=((c+(k+1):Nat):Int):=by
     have:=hH
     rw [bf (by omega) (by omega)];omega
    refine Eq.trans (congrArg (fun r=>Sum.inl (stN r)) e) ?_
    unfold stN XN
    dsimp only
    rw [hc]
   ·obtain ⟨⟨b1,b2⟩,b3,b4⟩:=hB
    unfold U4 at hD ⊢
    omega
 ·obtain ⟨o',rfl,hI⟩:=hj
  refine ⟨?_,stC o' i (l.getD i zT),?_,hI.fin fun n _ hB=> ?_⟩
  ·unfold cM XN
   intro q
   dsimp only at q
   omega
  ·unfold bR
   show (if ((c+(d+1- c):Nat):Int)<=Ve (l.getD i zT) then _ else _)=_
   rw [if_neg (by omega)];rfl
  ·obtain ⟨⟨b1,b2⟩,b3,b4⟩:=hB
   unfold U4
   omega
 ·obtain ⟨⟨b1,b2⟩,b3,b4⟩:=hB
  unfold U4 at hD ⊢
  omega
end
theorem Wx {W H:Nat} (hw:uc (W:Int)) (hh:uc (H:Int)) (l:List T2) (hl:l.length<4611686018427387904) (hR:Rt W H l) (o:List Int) (h0:Inv W H l 0 0 0 o):
  TR (dc ((W:Int),(H:Int),l)) (fa ((W:Int),(H:Int),l)) (o,0) fun r=>Inv W H l l.length 0 0 r:=by
 have hw2:=hw.2
 have hh2:=hh.2
 refine dj l.length (fun i s=> ∃o',s=(o',(i:Int))/\ Inv W H l i 0 0 o') _ (fun i s hi hj=> ?_) (fun s hj=> ?_) ⟨o,rfl,h0⟩
 ·obtain ⟨o',rfl,hI⟩:=hj
  obtain ⟨a,b,c,d,hb⟩:=VE hw hh (hR _ (fc hi zT)).1
  have key:=abD (by omega) (by omega) l i hi a b c d hb o' hI
  unfold XN at key
  rw [<- hb.lc] at key
  refine ⟨?_,.inl ?_⟩
  ·unfold fa
   intro _
   dsimp only
   rw [Int.toNat_natCast]
   exact ⟨by omega,hi,hi,key.1⟩
  ·unfold dc au
   dsimp only
   rw [if_pos (by omega),Int.toNat_natCast,Jh hi hl]
   exact ⟨_,rfl,_,rfl,key.2⟩
 ·obtain ⟨o',rfl,hI⟩:=hj
  refine ⟨?_,o',?_,hI⟩
  ·unfold fa
   intro q
   dsimp only at q;omega
  ·unfold dc
   dsimp only
   rw [if_neg (by omega)]
structure Own (W H:Nat) (l:List T2) (o:List Int):Prop where
 len:o.length=W*H
 has: ∀n,n<W*H->o.getD n 0= -1\/ ∃j,j<l.length/\ o.getD n 0=(j:Int)/\ RZ (n % W) (n / W) (l.getD j zT)=true
 all: ∀n,n<W*H-> ∀j,j<l.length->Lo (l.getD j zT) (n % W) (n / W)->RZ (n % W) (n / W) (l.getD j zT)=true->o.getD n 0≠ -1
theorem AJ (W H:Nat) (hw:uc (W:Int)) (hh:uc (H:Int)) (l:List T2) (hl:l.length<4611686018427387904):
  iO ((W:Int),(H:Int),l)/\ ((¬Rt W H l/\ j9 ((W:Int),(H:Int),l)=([],1))\/ (Rt W H l/\ ∃o,j9 ((W:Int),(H:Int),l)=(o,0)/\ Own W H l o)):=by
 have Wa:=hw
 have BS:=hh
 obtain ⟨w1,w2⟩:=hw
 obtain ⟨h1,h2⟩:=hh
 have m1:=da (W:Int) (H:Int)
 have m2:=cZ (W:Int) (H:Int)
 have c1: ¬aO (W:Int) (H:Int)<1:=by omega
 have c2: ¬aS (W:Int) (H:Int)>256:=by omega
 have hm:W*H<=256*256:=Nat.mul_le_mul (by omega) (by omega)
 have e1:aj ((W:Int)*(H:Int))=((W*H:Nat):Int):=by rw [<- Int.natCast_mul,bf (by omega) (by omega)]
 obtain ⟨q1,q2⟩:=DH (-1) (n:=W*H) (by omega)
 have k1:=Pz Wa BS l hl
 have hI:Inv W H l 0 0 0 (List.replicate (W*H) (-1)):=by
  refine ⟨by simp,fun n hn=> .inl ?_,fun n hn j hj hc=> ?_⟩
  ·rw [List.getD_eq_getElem?_getD,List.getElem?_replicate,if_pos hn];rfl
  ·rcases hc with hc|⟨_,hc|⟨_,hc⟩⟩<;>exact absurd hc (Nat.not_lt_zero _)
 unfold iO j9 aM au
 dsimp only
 rw [if_neg c1,if_neg c2,e1,q2]
 rcases k1.2 with ⟨e,hn⟩|⟨e,hR⟩
 ·rw [e]
  exact ⟨fun _ _=>⟨k1.1,trivial⟩,.inl ⟨hn,rfl⟩⟩
 ·rw [e]
  have k2:=Wx Wa BS l hl hR _ hI
  refine ⟨fun _ _=>⟨k1.1,q1,k2.1⟩,.inr ⟨hR,_,rfl,⟨k2.2.len,k2.2.has,fun n hn j hj hB hv=>k2.2.all n hn j hj (.inl hj) hB hv⟩⟩⟩
end Go.Proofs.YtojielnkfeoccaaGreat
