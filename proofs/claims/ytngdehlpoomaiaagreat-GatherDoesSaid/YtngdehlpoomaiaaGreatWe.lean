/- Plain laws: a way's frame; ways over a disc; points behind a way. -/
import Derived.Test.YtngdehlpoomaiaaGreatMa
import Derived.Test.YtngdehlpoomaiaaGreatEvR
import Derived.Test.YtngdehlpoomaiaaGreatWb
noncomputable section
set_option linter.unusedSectionVars false
set_option linter.unusedVariables false
set_option linter.unusedSimpArgs false
namespace Go.Proofs.YtngdehlpoomaiaaGreat
open Go Go.Ev Go.Proofs
abbrev Us:Type:=(Int×Int×Int×Int×List (Int×I3×I3×I2))
def rt (n:Int):Int:=J4 (3037000499,n)
theorem GO {n:Int} (h0:0<=n) (h1:n<=9223372036854775807):uP n/\ N7 n=(rt n,0)/\ Je n (rt n):=by
 obtain ⟨s1,s2⟩:=MD h0 h1
 refine ⟨(X9 h0 h1).1,?_,s2⟩
 unfold N7 ak
 rw [if_neg (by omega)];rfl
def bK (v:P3):P3:=I4 v (rt (1048576*qw v v))
theorem c8 {v:P3} (hv:Nr v) (h0:v≠(0,0,0)):gb v/\ tR v=(bK v,0)/\ U3 (bK v)/\ bK v≠(0,0,0):=by
 obtain ⟨h1,r,h2,h3,h4,h5,h6⟩:=Yk hv h0
 have e:I4 v r=bK v:=by
  have h7:0<=1048576*qw v v/\ 1048576*qw v v<=9223372036854775807:=by
   have s1:=sF v.1
   have s2:=sF v.2.1
   have s3:=sF v.2.2
   have m1:=mb (A:=1048576) (by decide) hv.1 hv.1
   have m2:=mb (A:=1048576) (by decide) hv.2.1 hv.2.1
   have m3:=mb (A:=1048576) (by decide) hv.2.2 hv.2.2
   unfold qw
   omega
  unfold bK
  rw [h3.uniq (GO h7.1 h7.2).2.2]
 rw [<- e]
 exact ⟨h1,h4,h5,h6⟩
def lo (x:Int):Int:=if x>0 then-x else x
theorem NW {x:Int} (h: -1048576<=x/\ x<=1048576):Jt x=lo x:=by
 unfold Jt lo
 split
 ·rw [ax (by omega) (by omega)];omega
 ·rfl
def ax1 (u:P3):Int:=if lo u.2.1<lo u.1 then 1 else 0
def fV (u:P3):Int:=if lo u.2.2<lo (if lo u.2.1<lo u.1 then u.2.1 else u.1) then 2 else ax1 u
theorem agZ {u:P3} (hu:U3 u):G4 u/\ akH u=fV u:=by
 obtain ⟨a,b,c⟩:=u
 obtain ⟨ha,hb,hc⟩:=hu
 dsimp only at ha hb hc
 have la:=NW (x:=a) (by omega)
 have lb:=NW (x:=b) (by omega)
 have lc:=NW (x:=c) (by omega)
 have SS: ∀p:P3,ig p=p:=fun _=>rfl
 have key:TR (fP (a,b,c)) (FE (a,b,c)) (a,b,c,0,0) fun r=>r=fV (a,b,c):=by
  refine TR.go (s':=(a,b,c,0,1)) (fun _=>by dsimp only [az];refine ⟨?_,?_,?_,?_⟩<;>decide) (by
   unfold fP ak
   rw [if_pos (by dsimp only;decide)]
   dsimp only
   rw [if_neg (Int.lt_irrefl _)];rfl) ?_
  refine TR.go (s':=(a,b,c,ax1 (a,b,c),2)) (fun _=>by dsimp only [az];refine ⟨?_,?_,?_,?_⟩<;>decide) (by
   unfold fP ak
   rw [if_pos (by dsimp only;decide)]
   show (if Jt b<Jt a then Sum.inl (a,b,c,(1:Int),(2:Int)) else Sum.inl (a,b,c,(0:Int),(2:Int)))=_
   rw [la,lb]
   unfold ax1
   dsimp only
   split<;>rfl) ?_
  refine TR.go (s':=(a,b,c,fV (a,b,c),3)) (fun _=>by
   dsimp only [az]
   unfold ax1
   dsimp only
   split<;>(refine ⟨?_,?_,?_,?_⟩<;>decide)) (by
   unfold fP ak
   rw [if_pos (by dsimp only;decide)]
   unfold fV ax1
   dsimp only
   by_cases h:lo b<lo a
   ·rw [if_pos h,if_pos h]
    show (if Jt c<Jt b then Sum.inl (a,b,c,(2:Int),(3:Int)) else Sum.inl (a,b,c,(1:Int),(3:Int)))=_
    rw [lc,lb]
    split<;>rfl
   ·rw [if_neg h,if_neg h]
    show (if Jt c<Jt a then Sum.inl (a,b,c,(2:Int),(3:Int)) else Sum.inl (a,b,c,(0:Int),(3:Int)))=_
    rw [lc,la]
    split<;>rfl) ?_
  exact TR.stop (fun h=>absurd h (by dsimp only;decide)) (by unfold fP;rw [if_neg (by dsimp only;decide)]) rfl
 unfold G4 akH az ak
 rw [SS]
 exact ⟨key.1,key.2⟩
def axE (k:Int):P3:=if k=0 then (0,1,0) else if k=1 then (0,0,1) else (1,0,0)
theorem BP {u:P3} (h0:u≠(0,0,0)):(fV u=0/\ u.1≠0)\/ (fV u=1/\ u.2.1≠0)\/ (fV u=2/\ u.2.2≠0):=by
 obtain ⟨a,b,c⟩:=u
 have hn: ¬(a=0/\ b=0/\ c=0):=fun ⟨e1,e2,e3⟩=>h0 (by rw [e1,e2,e3])
 unfold fV ax1 lo
 dsimp only
 by_cases h1:a>0<;>by_cases h2:b>0<;>by_cases h3:c>0<;>simp only [h1,h2,h3,if_true,if_false]<;>(split<;>(try split)<;>simp<;>omega)
theorem KW {u:P3} (h0:u≠(0,0,0)):CR (axE (fV u)) u≠(0,0,0):=by
 obtain ⟨a,b,c⟩:=u
 rcases BP h0 with ⟨e,h⟩|⟨e,h⟩|⟨e,h⟩<;>rw [e]<;>intro hz
 ·have:=congrArg (fun p=>p.2.2) hz
  simp [CR,axE] at this
  exact h this
 ·have:=congrArg Prod.fst hz
  simp [CR,axE] at this
  exact h this
 ·have:=congrArg (fun p=>p.2.1) hz
  simp [CR,axE] at this
  exact h this
theorem agY (k:Int):Bd 32768 (axE k):=by
 unfold axE
 split
 ·exact ⟨by decide,by decide,by decide⟩
 ·split
  ·exact ⟨by decide,by decide,by decide⟩
  ·exact ⟨by decide,by decide,by decide⟩
def HG (p:P3):P3:=(p.1 / 1024,p.2.1 / 1024,p.2.2 / 1024)
def W64 (n:Int):Prop:= -9223372036854775808<=n/\ n<=9223372036854775807
theorem Ph {p:P3} (h1:W64 p.1) (h2:W64 p.2.1) (h3:W64 p.2.2):zV p/\ ab1 p=HG p:=by
 obtain ⟨a1,a2⟩:=u9 (b:=1024) h1.1 h1.2 (by decide) (by decide)
 obtain ⟨b1,b2⟩:=u9 (b:=1024) h2.1 h2.2 (by decide) (by decide)
 obtain ⟨c1,c2⟩:=u9 (b:=1024) h3.1 h3.2 (by decide) (by decide)
 have hfo: ∀p:P3,fof p=p:=fun _=>rfl
 have hfw: ∀p:P3,SD p=p:=fun _=>rfl
 unfold zV ab1 F4 ahp qA BZ az ak HG
 rw [hfo]
 dsimp only
 rw [hfw,a2,b2,c2]
 exact ⟨⟨a1,b1,c1⟩,rfl⟩
def frT (u:P3):P3:=bK (CR (axE (fV u)) u)
def frB (u:P3):P3:=HG (CR u (frT u))
theorem U3.bd {u:P3} (h:U3 u):Bd 32768 u:=⟨⟨by have:=h.1;omega,by have:=h.1;omega⟩,⟨by have:=h.2.1;omega,by have:=h.2.1;omega⟩,⟨by have:=h.2.2;omega,by have:=h.2.2;omega⟩⟩
theorem aoa {u t:P3} (hu:U3 u) (ht:U3 t):Bd 2097152 (CR u t):=by
 have f: ∀a b c d:Int,(-1024<=a/\ a<=1024)->(-1024<=b/\ b<=1024)->(-1024<=c/\ c<=1024)->(-1024<=d/\ d<=1024)-> -2097152<=a*b- c*d/\ a*b- c*d<=2097152:=fun a b c d h1 h2 h3 h4=>by
  have m1:=mb (A:=1024) (by decide) h1 h2
  have m2:=mb (A:=1024) (by decide) h3 h4
  omega
 exact ⟨f _ _ _ _ hu.2.1 ht.2.2 hu.2.2 ht.2.1,f _ _ _ _ hu.2.2 ht.1 hu.1 ht.2.2,f _ _ _ _ hu.1 ht.2.1 hu.2.1 ht.1⟩
theorem Y0 {u:P3} (hu:U3 u):Nr (CR (axE (fV u)) u):=by
 obtain ⟨a,b,c⟩:=u
 have h1:=hu.1
 have h2:=hu.2.1
 have h3:=hu.2.2
 dsimp only at h1 h2 h3
 unfold CR axE
 split
 ·simp only [Nr];omega
 ·split
  ·simp only [Nr];omega
  ·simp only [Nr];omega
def B3k (b:P3):Prop:=(-2048<=b.1/\ b.1<=2048)/\ (-2048<=b.2.1/\ b.2.1<=2048)/\ (-2048<=b.2.2/\ b.2.2<=2048)
theorem Pk {v:P3} (hv:Nr v) (h0:v≠(0,0,0)):Ga v/\ ahI v=(((frT (bK v),frB (bK v)),bK v),0)/\ U3 (bK v)/\ U3 (frT (bK v))/\ B3k (frB (bK v)):=by
 obtain ⟨u1,u2,u3,u4⟩:=c8 hv h0
 obtain ⟨u,hu⟩: ∃u,u=bK v:=⟨_,rfl⟩
 rw [<- hu] at u2 u3 u4 ⊢
 obtain ⟨x1,x2⟩:=agZ u3
 obtain ⟨c1,c2⟩:=rN (agY (fV u)) u3.bd
 obtain ⟨t1,t2,t3,t4⟩:=c8 (Y0 u3) (KW u4)
 have eT:bK (CR (axE (fV u)) u)=frT u:=rfl
 rw [eT] at t2 t3
 obtain ⟨d1,d2⟩:=rN u3.bd t3.bd
 have hcb:=aoa u3 t3
 obtain ⟨l1,l2⟩:=Ph (p:=CR u (frT u)) ⟨by have:=hcb.1;omega,by have:=hcb.1;omega⟩ ⟨by have:=hcb.2.1;omega,by have:=hcb.2.1;omega⟩ ⟨by have:=hcb.2.2;omega,by have:=hcb.2.2;omega⟩
 have hB:B3k (frB u):=by
  unfold frB HG B3k
  have:=hcb.1
  have:=hcb.2.1
  have:=hcb.2.2
  try dsimp only
  omega
 have hax:(SD ((cond (Nat.beq (0+((Int.toNat (Int.tmod (au (fV u+(1:Int))) (3:Int)))*1)) 0) (1:Int) (0:Int)),(cond (Nat.beq (0+((Int.toNat (Int.tmod (au (fV u+(1:Int))) (3:Int)))*1)) 1) (1:Int) (0:Int)),(cond (Nat.beq (0+((Int.toNat (Int.tmod (au (fV u+(1:Int))) (3:Int)))*1)) 2) (1:Int) (0:Int))))=axE (fV u)/\ (((0:Int)<=(Int.tmod (au (fV u+(1:Int))) (3:Int)))/\ ((Int.tmod (au (fV u+(1:Int))) (3:Int))<(3:Int)))/\ ((((0+((Int.toNat (Int.tmod (au (fV u+(1:Int))) (3:Int)))*1))+1)<=3)):=by
  rcases BP u4 with ⟨e,_⟩|⟨e,_⟩|⟨e,_⟩<;>rw [e]<;>exact ⟨rfl,⟨by decide,by decide⟩,by decide⟩
 refine ⟨?_,?_,u3,t3,hB⟩
 ·dsimp only [Ga,Dg,Tr.val,Tr.pre];(try dsimp only [az,ak])
  rw [u2]
  refine ⟨u1,fun _=> ?_⟩
  try dsimp only
  rw [x2]
  refine ⟨x1,hax.2.1,hax.2.2,?_⟩
  rw [hax.1,c2]
  refine ⟨c1,fun _=> ?_⟩
  try dsimp only
  rw [t2]
  refine ⟨t1,fun _=> ?_⟩
  try dsimp only
  rw [d2]
  exact ⟨d1,fun _=>l1⟩
 ·dsimp only [ahI,Dg,Tr.val,Tr.pre];(try dsimp only [az,ak])
  rw [u2]
  try dsimp only
  rw [if_neg (by decide),x2,hax.1,c2]
  try dsimp only
  rw [if_neg (by decide),t2]
  try dsimp only
  rw [if_neg (by decide),d2]
  try dsimp only
  rw [if_neg (by decide),l2]
  rfl
def Fr4 (w:P3):Prop:=(-4096<=w.1/\ w.1<=4096)/\ (-4096<=w.2.1/\ w.2.1<=4096)/\ (-4096<=w.2.2/\ w.2.2<=4096)
def atV (t b u:P3) (x y z:Int):P3:=HG (t.1*x+b.1*y+u.1*z,t.2.1*x+b.2.1*y+u.2.1*z,t.2.2*x+b.2.2*y+u.2.2*z)
theorem zH {t b u x y z:Int} (ht: -1024<=t/\ t<=1024) (hb: -2048<=b/\ b<=2048) (hu: -1024<=u/\ u<=1024) (hx: -1024<=x/\ x<=1024) (hy: -1024<=y/\ y<=1024) (hz: -1024<=z/\ z<=1024):
  au (au (au (t*x)+au (b*y))+au (u*z))=t*x+b*y+u*z/\ -4194304<=t*x+b*y+u*z/\ t*x+b*y+u*z<=4194304:=by
 have m1:=mb (A:=1024) (by decide) ht hx
 have m2:=qJ (A:=2048) (B:=1024) hb.1 hb.2 hy.1 hy.2
 have m3:=mb (A:=1024) (by decide) hu hz
 rw [ax (n:=t*x) (by omega) (by omega),ax (n:=b*y) (by omega) (by omega),ax (n:=u*z) (by omega) (by omega),ax (n:=t*x+b*y) (by omega) (by omega),ax (by omega) (by omega)]
 omega
theorem al5 {t b u:P3} {x y z:Int} (ht:U3 t) (hb:B3k b) (hu:U3 u) (hx: -1024<=x/\ x<=1024) (hy: -1024<=y/\ y<=1024) (hz: -1024<=z/\ z<=1024):
  Sx (((t,b),u),x,y,z)/\ fat (((t,b),u),x,y,z)=atV t b u x y z/\ Fr4 (atV t b u x y z):=by
 obtain ⟨a1,a2,a3⟩:=zH ht.1 hb.1 hu.1 hx hy hz
 obtain ⟨b1,b2,b3⟩:=zH ht.2.1 hb.2.1 hu.2.1 hx hy hz
 obtain ⟨c1,c2,c3⟩:=zH ht.2.2 hb.2.2 hu.2.2 hx hy hz
 have hfo: ∀p:P3,fof p=p:=fun _=>rfl
 have hfw: ∀p:P3,SD p=p:=fun _=>rfl
 unfold Sx fat az ak
 dsimp only
 rw [hfo,hfo,hfo,hfw,a1,b1,c1]
 obtain ⟨l1,l2⟩:=Ph (p:=(t.1*x+b.1*y+u.1*z,t.2.1*x+b.2.1*y+u.2.1*z,t.2.2*x+b.2.2*y+u.2.2*z)) ⟨by dsimp only;omega,by dsimp only;omega⟩ ⟨by dsimp only;omega,by dsimp only;omega⟩ ⟨by dsimp only;omega,by dsimp only;omega⟩
 refine ⟨l1,l2,?_⟩
 unfold atV HG Fr4
 dsimp only
 omega
def Vj (x y:Int):Int:=rt (bw (1048576- x*x- y*y) 0)
def fa (v:P3) (d:Int×Int):P3:=atV (frT (bK v)) (frB (bK v)) (bK v) d.1 d.2 (Vj d.1 d.2)
def InD (d:Int×Int):Prop:=(-1024<=d.1/\ d.1<=1024)/\ (-1024<=d.2/\ d.2<=1024)
theorem BW {v:P3} (hv:Nr v) (h0:v≠(0,0,0)) {d:Int×Int} (hd:InD d):xA (v,d)/\ Sy (v,d)=(fa v d,0)/\ Fr4 (fa v d):=by
 obtain ⟨x,y⟩:=d
 obtain ⟨hx,hy⟩:=hd
 dsimp only at hx hy
 obtain ⟨o1,o2,o3,o4,o5⟩:=Pk hv h0
 have m1:=mb (A:=1024) (by decide) hx hx
 have m2:=mb (A:=1024) (by decide) hy hy
 have s1:=sF x
 have s2:=sF y
 have e1:au (au (1048576- au (x*x))- au (y*y))=1048576- x*x- y*y:=by
  rw [ax (n:=x*x) (by omega) (by omega),ax (n:=y*y) (by omega) (by omega),ax (n:=1048576- x*x) (by omega) (by omega),ax (by omega) (by omega)]
 have hM:0<=bw (1048576- x*x- y*y) 0/\ bw (1048576- x*x- y*y) 0<=1048576:=by unfold bw;split<;>omega
 obtain ⟨r1,r2,r3⟩:=GO hM.1 (by omega)
 have hz: -1024<=Vj x y/\ Vj x y<=1024:=by
  have h1:=r3.1
  have h2:=qF (a:=rt (bw (1048576- x*x- y*y) 0)) (b:=1025) (by decide) (by have:=r3.2.1;omega)
  unfold Vj
  omega
 obtain ⟨f1,f2,f3⟩:=al5 o4 o5 o3 hx hy hz
 have n1: ¬bB x y< -1024:=by unfold bB;split<;>omega
 have n2: ¬bw x y>1024:=by unfold bw;split<;>omega
 refine ⟨?_,?_,f3⟩
 ·dsimp only [xA,tP,Tr.val,Tr.pre];(try dsimp only [az,ak])
  rw [o2]
  refine ⟨o1,fun _ _ _=> ?_⟩
  try dsimp only
  rw [e1,r2]
  exact ⟨r1,f1⟩
 ·dsimp only [Sy,tP,Tr.val,Tr.pre];(try dsimp only [az,ak])
  rw [o2]
  try dsimp only
  rw [if_neg (by decide),if_neg n1,if_neg n2,e1,r2]
  try dsimp only
  have f2':fat (((frT (bK v),frB (bK v)),bK v),x,y,rt (bw (1048576- x*x- y*y) 0))=fa v (x,y):=f2
  rw [f2']
def xe (p w:P3) (k:Int):P3:=(p.1+w.1*k / 1024,p.2.1+w.2.1*k / 1024,p.2.2+w.2.2*k / 1024)
theorem yl:qe 0/\ Li 0=false:=⟨fun h=>absurd h (by decide),rfl⟩
theorem tG {w k:Int} (hw: -4096<=w/\ w<=4096) (hk:0<=k/\ k<=2048):qd (w,k)/\ Hq (w,k)=w*k / 1024/\ -8192<=w*k / 1024/\ w*k / 1024<=8192:=by
 have m:=qJ (A:=4096) (B:=2048) hw.1 hw.2 (by omega) hk.2
 have e:au (w*k)=w*k:=ax (by omega) (by omega)
 have f:=N0 (a:=w*k) (b:=1024) (by omega) (by omega) (by decide) (by decide)
 unfold qd Hq az ak
 dsimp only
 rw [e,f]
 exact ⟨⟨RS _,yl.1⟩,rfl,by omega,by omega⟩
theorem KH {p w:P3} {k:Int} (hp:Nr p) (hw:Fr4 w) (hk:0<=k/\ k<=2048):rP (p,w,k)/\ JH (p,w,k)=xe p w k:=by
 obtain ⟨a1,a2,a3⟩:=tG hw.1 hk
 obtain ⟨b1,b2,b3⟩:=tG hw.2.1 hk
 obtain ⟨c1,c2,c3⟩:=tG hw.2.2 hk
 have h1:=hp.1
 have h2:=hp.2.1
 have h3:=hp.2.2
 unfold rP JH az ak xe
 dsimp only
 rw [a2,b2,c2,ax (n:=p.1+w.1*k / 1024) (by omega) (by omega),ax (n:=p.2.1+w.2.1*k / 1024) (by omega) (by omega),ax (n:=p.2.2+w.2.2*k / 1024) (by omega) (by omega)]
 exact ⟨⟨a1,b1,c1⟩,rfl⟩
end Go.Proofs.YtngdehlpoomaiaaGreat
namespace Go.Proofs.YtngdehlpoomaiaaGreat
open Go Go.Ev Go.Proofs
def S9 (x:I2):Bool:=
 (if (x.1>=0) then
 (decide (x.1<=x.2)) else
 false)
def Wc (_:I2):Prop:=True
def aeZ (x:I2):Tr Bool false:=
 (.iz (x.1>=z0)
 (.ret (decide (x.1<=x.2)))
 (.ret false))
abbrev uf:bF:=⟨(.pair (.one yi) (.one yi)),(.one Ty.bool),Wc,S9⟩
theorem ZV:aq Tryz.prog 97 (ah uf):=aM uf aeZ (fn:=Tryz.f97) Bl
def M4:List (Nat×Ev.Spec):=(97,ah uf)::MP
theorem Bq:aj Tryz.prog M4:=aA (fn:=Tryz.f97) ZV Bl
def DE (x:(Int×I3×I3×I2)):Tr Bool true:=
 (.i10 (x.1>=1)
 (.i10 (x.1<=3)
 (.fn0 uf (x.2.2.2.1,255) trivial fun y=>
 (.BQ y
 (.fn0 uf (x.2.2.2.2,1024) trivial fun aB=>
 (.BQ aB
 (.fn eN [x.2.1,x.2.2.1] fun y_2=>
 (.iY y_2
 (.iY (x.1==2)
 (.ret true)
 (.ret (!((x.2.2.1.1==0)&&((x.2.2.1.2.1==0)&&((x.2.2.1.2.2==0)&&true))))))
 (.ret false)))
 (.ret false)))
 (.ret false)))
 (.ret false))
 (.ret false))
def S7 (x:(Int×I3×I3×I2)):Bool:=(DE x).val
def vu (x:(Int×I3×I3×I2)):Prop:=(DE x).pre
abbrev x9:bF:=⟨(.agg (Ty.prod yi (Ty.prod aG (Ty.prod aG dh)))),(.one Ty.bool),vu,S7⟩
theorem aeV:aq Tryz.prog 64 (ah x9):=aM x9 DE (fn:=Tryz.f64) Bq
def Re:List (Nat×Ev.Spec):=(64,ah x9)::M4
theorem ER:aj Tryz.prog Re:=aA (fn:=Tryz.f64) aeV Bq
def P0 (x:I3):I3:=
 ((au (0- x.1)),(au (0- x.2.1)),(au (0- x.2.2)))
def aeN (_:I3):Prop:=True
def amU (x:I3):Tr I3 false:=
 (.ret ((au (z0- x.1)),(au (z0- x.2.1)),(au (z0- x.2.2))))
abbrev Dy:bF:=⟨(.agg aG),(.agg aG),aeN,P0⟩
theorem aiV:aq Tryz.prog 74 (ah Dy):=aM Dy amU (fn:=Tryz.f74) ER
def XK:List (Nat×Ev.Spec):=(74,ah Dy)::Re
theorem Io:aj Tryz.prog XK:=aA (fn:=Tryz.f74) aiV ER
def ZL (x:((Int×I3×I3×I2)×I3)):(I3×I3×Int):=
 (ak (tR x.1.2.2.1) fun y=>
 (ak (P0 y.1) fun aB=>
 (aB,((au (x.2.1+(au (4*aB.1)))),(au (x.2.2.1+(au (4*aB.2.1)))),(au (x.2.2.2+(au (4*aB.2.2))))),y.2)))
def Ca (x:((Int×I3×I3×I2)×I3)):Prop:=
 (gb x.1.2.2.1)
def aiU (x:((Int×I3×I3×I2)×I3)):Tr (I3×I3×Int) true:=
 (.fn nx x.1.2.2.1 fun y=>
 (.fn0 Dy y.1 trivial fun aB=>
 (.ret (aB,((au (x.2.1+(au (4*aB.1)))),(au (x.2.2.1+(au (4*aB.2.1)))),(au (x.2.2.2+(au (4*aB.2.2))))),y.2))))
abbrev Dx:bF:=⟨(.agg (Ty.prod (Ty.prod yi (Ty.prod aG (Ty.prod aG dh))) aG)),(.pair (.agg aG) (.pair (.agg aG) (.one yi))),Ca,ZL⟩
theorem aeK:aq Tryz.prog 65 (ah Dx):=aM Dx aiU (fn:=Tryz.f65) Io
def Rc:List (Nat×Ev.Spec):=(65,ah Dx)::XK
theorem EO:aj Tryz.prog Rc:=aA (fn:=Tryz.f65) aeK Io
def JT (x:((Int×I3×I3×I2)×I3)):Tr (I3×I3×Int) true:=
 (.fn nx ((au (x.1.2.1.1- x.2.1)),(au (x.1.2.1.2.1- x.2.2.1)),(au (x.1.2.1.2.2- x.2.2.2))) fun y=>
 (.iY (y.2 !=0)
 (.ret (bn,bn,y.2))
 (.ret (y.1,x.1.2.1,0))))
def ai1 (x:((Int×I3×I3×I2)×I3)):(I3×I3×Int):=(JT x).val
def Gn (x:((Int×I3×I3×I2)×I3)):Prop:=(JT x).pre
abbrev DC:bF:=⟨(.agg (Ty.prod (Ty.prod yi (Ty.prod aG (Ty.prod aG dh))) aG)),(.pair (.agg aG) (.pair (.agg aG) (.one yi))),Gn,ai1⟩
theorem ai2:aq Tryz.prog 66 (ah DC):=aM DC JT (fn:=Tryz.f66) EO
def XN:List (Nat×Ev.Spec):=(66,ah DC)::Rc
theorem Iq:aj Tryz.prog XN:=aA (fn:=Tryz.f66) ai2 EO
def aiW (x:((Int×I3×I3×I2)×I3)):Bool:=
 (if ((x.1.1 !=3)=true) then
 false else
 (ak (tR x.1.2.2.1) fun y=>
 (ak (P0 x.2) fun aB=>
 (ak (Dc (y.1,aB)) fun y_2=>
 (decide (y_2.1<x.1.2.2.2.2))))))
def Gm (x:((Int×I3×I3×I2)×I3)):Prop:=
 (¬((x.1.1 !=3)=true)->
 ((gb x.1.2.2.1)/\
 az (tR x.1.2.2.1) fun y=>
 (az (P0 x.2) fun aB=>
 (pD (y.1,aB)))))
def amW (x:((Int×I3×I3×I2)×I3)):Tr Bool true:=
 (.gG (x.1.1 !=3)
 (.ret false)
 (.fn nx x.1.2.2.1 fun y=>
 (.fn0 Dy x.2 trivial fun aB=>
 (.fn qz (y.1,aB) fun y_2=>
 (.ret (decide (y_2.1<x.1.2.2.2.2)))))))
abbrev JR:bF:=⟨(.pair (.agg (Ty.prod yi (Ty.prod aG (Ty.prod aG dh)))) (.agg aG)),(.one Ty.bool),Gm,aiW⟩
theorem aiX:aq Tryz.prog 36 (ah JR):=aM JR amW (fn:=Tryz.f36) Iq
def XL:List (Nat×Ev.Spec):=(36,ah JR)::XN
theorem y7:aj Tryz.prog XL:=aA (fn:=Tryz.f36) aiX Iq
def ai3 (x:(List (Int×I3×I3×I2))):aI:=⟨[],⟨cj 15 0 [(5,.v (.one (.full 0))),(6,.v (.one (.i .i64))),(7,.v (.one (.i .i64)))],[.row (Ty.prod yi (Ty.prod aG (Ty.prod aG dh))) 0],0,none,[],[0,2],[1],[.i],[.i (x.length:Int),.l (Ty.prod yi (Ty.prod aG (Ty.prod aG dh))) x]⟩,[⟨.ret,.ret,⟨cj 15 0 [(2,.v (.one (.b)))],[],0,none,[],[0],[],[],[.b false]⟩⟩,⟨(.exit 0),.normal,⟨cj 15 0 [],[],0,none,[],[],[],[],[]⟩⟩]⟩
def rV (x:(List (Int×I3×I3×I2))) (s:Int):Int⊕(Unit⊕Unit):=
 (if (s<(x.length:Int)) then
 (ak (S7 (x.getD s.toNat (0,(0,0,0),(0,0,0),0,0))) fun y=>
 (if ((!y)=true) then
 (Sum.inr (Sum.inl ())) else
 (Sum.inl (au (s+1))))) else
 (Sum.inr (Sum.inr (()))))
def LN (x:(List (Int×I3×I3×I2))) (s:Int):Prop:=
 ((s<(x.length:Int))->
 (((0<=s)/\ (s<(x.length:Int)))/\
 ((s.toNat<x.length)/\
 ((s.toNat<x.length)/\
 (vu (x.getD s.toNat (0,(0,0,0),(0,0,0),0,0)))))))
def V7 (x:(List (Int×I3×I3×I2))) (s:Int):Tr (Int⊕(Unit⊕Unit)) true:=
 (.i10 (s<(nL x))
 (.A7 s x
 (.fn x9 (gT x s (z0,bn,bn,uQ)) fun y=>
 (.iY (!y)
 (.ret (.inr (Sum.inl ())))
 (.ret (.inl (w1 s))))))
 (.ret (.inr (Sum.inr (())))))
def lis (x:(List (Int×I3×I3×I2))):Bool:=
 (ak (run (rV x) 0) fun r=>
 (Sum.elim (fun a=>
 false) (fun b=>
 true) r))
def JU (x:(List (Int×I3×I3×I2))):Prop:=
 (Term (rV x) (LN x) 0)
def asJ (x:(List (Int×I3×I3×I2))):Tr Bool true:=
 (aI.lp (ai3 x) (V7 x) z0 fun r=>
 (.Jr r (fun a=>
 (.ret false)) (fun b=>
 (.ret true))))
abbrev acu:bF:=⟨(.one (Ty.sl (Ty.prod yi (Ty.prod aG (Ty.prod aG dh))))),(.one Ty.bool),JU,lis⟩
theorem aqb:aq Tryz.prog 51 (ah acu):=bS acu asJ (fn:=Tryz.f51) y7 (aH.nil _ _) (fun x=>(bX y7 0 (ai3 x) (V7 x) aK.nil))
def akj:List (Nat×Ev.Spec):=(51,ah acu)::XL
theorem GY:aj Tryz.prog akj:=aA (fn:=Tryz.f51) aqb y7
def acy (x:(List Int)):aI:=⟨[],⟨cj 20 0 [(3,.v (.one (.i .i64))),(6,.v (.one (.full 0))),(7,.v (.one (.i .i64))),(8,.v (.one (.i .i64)))],[.row yi 0],0,none,[],[1,3],[0,2],[.i,.i],[.i (x.length:Int),.l yi x]⟩,[⟨(.exit 0),.normal,⟨cj 20 0 [(3,.v (.one (.i .i64)))],[],0,none,[],[],[0],[.i],[]⟩⟩]⟩
def mX (x:(List Int)) (s:I2):Tr (I2⊕Int) true:=
 (.i10 (s.2<(x.length:Int))
 (.oR s.2 (x.length:Int)
 (.od (s.2.toNat<x.length)
 (.od (s.2.toNat<x.length)
 (.ret (.inl ((bB (au (s.1+(bB (bw (x.getD s.2.toNat 0) 0) 255))) 255),(au (s.2+1))))))))
 (.ret (.inr (s.1))))
abbrev lR (x:(List Int)) (s:I2):I2⊕Int:=(mX x s).val
abbrev rX (x:(List Int)) (s:I2):Prop:=(mX x s).pre
def ai8 (x:(List Int)):Int:=
 (ak (run (lR x) (0,0)) fun r=>
 r)
def ya (x:(List Int)):Prop:=
 (Term (lR x) (rX x) (0,0))
def aqc (x:(List Int)):Tr Int true:=
 (aI.lp (acy x) (mX x) uQ fun r=>
 (.ret r))
abbrev LS:bF:=⟨(.one (Ty.sl yi)),(.one yi),ya,ai8⟩
theorem am2:aq Tryz.prog 14 (ah LS):=bS LS aqc (fn:=Tryz.f14) GY (aH.nil _ _) (fun x=>(bX GY 0 (acy x) (mX x) aK.nil))
def ade:List (Nat×Ev.Spec):=(14,ah LS)::akj
theorem M1:aj Tryz.prog ade:=aA (fn:=Tryz.f14) am2 GY
def ab6 (x:Us):Tr Bool true:=
 (.fn0 mW (x.1,64) trivial fun y=>
 (.BQ y
 (.fn0 mW (x.2.1,2048) trivial fun aB=>
 (.BQ aB
 (.fn0 mW (x.2.2.1,64) trivial fun y_2=>
 (.BQ y_2
 (.fn0 mW (x.2.2.2.1,255) trivial fun bI=>
 (.BQ bI
 (.i10 ((x.2.2.2.2.length:Int)<=8)
 (.fn acu x.2.2.2.2 fun dG=>
 (.ret dG))
 (.ret false))
 (.ret false)))
 (.ret false)))
 (.ret false)))
 (.ret false)))
def gis (x:Us):Bool:=(ab6 x).val
def Dj (x:Us):Prop:=(ab6 x).pre
abbrev Hr:bF:=⟨(.agg (Ty.prod yi (Ty.prod yi (Ty.prod yi (Ty.prod yi (Ty.sl (Ty.prod yi (Ty.prod aG (Ty.prod aG dh))))))))),(.one Ty.bool),Dj,gis⟩
theorem apk:aq Tryz.prog 22 (ah Hr):=aM Hr ab6 (fn:=Tryz.f22) M1
def akf:List (Nat×Ev.Spec):=(22,ah Hr)::ade
theorem QX:aj Tryz.prog akf:=aA (fn:=Tryz.f22) apk M1
def Ab (x:I2):Bool:=
 (if ((bB x.1 x.2)<0) then
 false else
 (if ((bw x.1 x.2)>65536) then
 false else
 (decide ((au ((au ((au ((au (2*x.1))- 65536))*(au ((au (2*x.1))- 65536))))+(au ((au ((au (2*x.2))- 65536))*(au ((au (2*x.2))- 65536))))))<=4294967296))))
def VM (_:I2):Prop:=True
def aeu (x:I2):Tr Bool false:=
 (.iz ((bB x.1 x.2)<z0)
 (.ret false)
 (.iz ((bw x.1 x.2)>65536)
 (.ret false)
 (.ret (decide ((au ((au ((au ((au (2*x.1))- 65536))*(au ((au (2*x.1))- 65536))))+(au ((au ((au (2*x.2))- 65536))*(au ((au (2*x.2))- 65536))))))<=4294967296)))))
abbrev Ac:bF:=⟨(.agg dh),(.one Ty.bool),VM,Ab⟩
theorem Zq:aq Tryz.prog 127 (ah Ac):=aM Ac aeu (fn:=Tryz.f127) QX
def MX:List (Nat×Ev.Spec):=(127,ah Ac)::akf
theorem Bo:aj Tryz.prog MX:=aA (fn:=Tryz.f127) Zq QX
def qB (x:Int):Int:=
 (au ((au (Int.tdiv (au ((au ((au (2*x))- 65536))+4194304)) 64))- 65536))
def Zl (_:Int):Prop:=True
def aij (x:Int):Tr Int false:=
 (.ret (au ((au (Int.tdiv (au ((au ((au (2*x))- 65536))+4194304)) 64))- 65536)))
abbrev xT:bF:=⟨(.one yi),(.one yi),Zl,qB⟩
theorem aes:aq Tryz.prog 128 (ah xT):=aM xT aij (fn:=Tryz.f128) Bo
def QY:List (Nat×Ev.Spec):=(128,ah xT)::MX
theorem EH:aj Tryz.prog QY:=aA (fn:=Tryz.f128) aes Bo
end Go.Proofs.YtngdehlpoomaiaaGreat
namespace Go.Proofs.YtngdehlpoomaiaaGreat
open Go Go.Ev Go.Proofs
def Af (x:((Int×I3×I3×I2)×I3)):Tr (I3×I3×Int) true:=
 (.fn x9 x.1 fun y=>
 (.gG (!y)
 (.ret (bn,bn,1))
 (.wY ((bB (bB x.2.1 x.2.2.1) x.2.2.2)<(-8192))
 (.ret (bn,bn,5))
 (.wY ((bw (bw x.2.1 x.2.2.1) x.2.2.2)>8192)
 (.ret (bn,bn,5))
 (.oR x.1.1 4
 (.i11 (x.1.1=3)
 (.fn DC x fun aB=>
 (.ret aB))
 (.i11 (x.1.1=2)
 (.fn DC x fun aB=>
 (.ret aB))
 (.i11 (x.1.1=1)
 (.fn Dx x fun aB=>
 (.ret aB))
 (.og false False False.elim (.ret default))))))))))
def S8 (x:((Int×I3×I3×I2)×I3)):(I3×I3×Int):=(Af x).val
def yb (x:((Int×I3×I3×I2)×I3)):Prop:=(Af x).pre
abbrev ud:bF:=⟨(.pair (.agg (Ty.prod yi (Ty.prod aG (Ty.prod aG dh)))) (.agg aG)),(.pair (.agg aG) (.pair (.agg aG) (.one yi))),yb,S8⟩
theorem ZU:aq Tryz.prog 34 (ah ud):=aM ud Af (fn:=Tryz.f34) EH
def M3:List (Nat×Ev.Spec):=(34,ah ud)::QY
theorem Bp:aj Tryz.prog M3:=aA (fn:=Tryz.f34) ZU EH
def DG (x:((Int×I3×I3×I2)×I3×I3)):Tr I2 true:=
 (.fn ud (x.1,x.2.1) fun y=>
 (.BQ (y.2.2==0)
 (.fn nx x.2.2 fun aB=>
 (.gG (aB.2 !=0)
 (.ret (0,aB.2))
 (.fn JR (x.1,y.1) fun y_2=>
 (.gG y_2
 (.ret uQ)
 (.fn qz (aB.1,y.1) fun bI=>
 (.ret ((au (Int.tdiv (au (bI.1*x.1.2.2.2.1)) 1024)),bI.2)))))))
 (.iY (y.2.2==3)
 (.ret uQ)
 (.ret (0,y.2.2)))))
def ZT (x:((Int×I3×I3×I2)×I3×I3)):I2:=(DG x).val
def Cc (x:((Int×I3×I3×I2)×I3×I3)):Prop:=(DG x).pre
abbrev DF:bF:=⟨(.pair (.agg (Ty.prod yi (Ty.prod aG (Ty.prod aG dh)))) (.pair (.agg aG) (.agg aG))),(.pair (.one yi) (.one yi)),Cc,ZT⟩
theorem aeW:aq Tryz.prog 13 (ah DF):=aM DF DG (fn:=Tryz.f13) Bp
def bU:List (Nat×Ev.Spec):=(13,ah DF)::M3
theorem hY:aj Tryz.prog bU:=aA (fn:=Tryz.f13) aeW Bp
end Go.Proofs.YtngdehlpoomaiaaGreat
namespace Go.Ev
open Go.RowKit
def agC (P:Program) (f:FuncId):Prop:= ∀(g:FuncId),b9 P g-> ∀(b off:Nat) (cap:Array Value) (w:World) (Q:World->Prop),w.cell? ⟨b,off,none⟩=some (.int .u32 0)->w.cell? ⟨b,off+1,none⟩=some (.int .i32 0)->w.frozen? ⟨b,off+1,none⟩=false->
      (Calls P g cap (w.setCell ⟨b,off+1,none⟩ (.int .i32 1)) fun e w'=>e= .returned (.tuple #[])/\ Q w')->
      (∀w',Q w'->(∃x,w'.cell? ⟨b,off,none⟩=some x)/\ w'.cell? ⟨b,off+1,none⟩=some (.int .i32 1)/\ w'.frozen? ⟨b,off,none⟩=false/\ w'.frozen? ⟨b,off+1,none⟩=false)->
      Calls P f #[.pointer (some ⟨b,off,none⟩), .func (.func g) #[] cap] w fun e w'=>e= .returned (.tuple #[])/\ ∃w1,Q w1/\ w'=(w1.drew.setCell ⟨b,off,none⟩ (.int .u32 1)).setCell ⟨b,off+1,none⟩ (.int .i32 0)
theorem aH.avp {P:Program} (f g:FuncId) {fn fg:Func} (hk:(P.funcs[f]?,fn.name== "runtime.NumGoroutine",fn.body.isNone)=(some fn,false,false)) (hg:(P.funcs[g]?,fg.name== "runtime.NumGoroutine",fg.body.isNone)=(some fg,false,false)) (hs:agC P f) {ic:cP} {its:List (Nat×cP)} (h:aH P cf ((g,ic)::its)):aH P cf ((f,acV g ic)::((g,ic)::its)):=by
 simp only [Prod.mk.injEq] at hk hg
 exact aH.cons (b9.of hk.1 hk.2.1 hk.2.2) (Xo (h g ic (by simp [aL])).2 fun b off cap w Q h0 h1 f1 hc hQ=>hs g (b9.of hg.1 hg.2.1 hg.2.2) b off cap w Q h0 h1 f1 hc hQ) h
end Go.Ev
