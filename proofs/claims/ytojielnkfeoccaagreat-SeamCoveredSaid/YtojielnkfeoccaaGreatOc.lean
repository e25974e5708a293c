/- Plain laws: pairs are told. -/
import Derived.Test.YtojielnkfeoccaaGreatOa
noncomputable section
set_option linter.unusedSectionVars false
set_option linter.unusedVariables false
set_option linter.unusedSimpArgs false
namespace Go.Proofs.YtojielnkfeoccaaGreat
open Go Go.Ev Go.Proofs
abbrev N9:Type:=P2×(P2×P2×P2×P2×P2×P2×P2×P2)
abbrev EZ:Type:=List (Int×Int)
abbrev Cg:Type:=List (Int×T2)
abbrev NI:Type:=List ((P2×P2)×Bool)
abbrev MA:Type:=vZ×Cd
def l18 (y:N9):List Int:= [y.1.1,y.1.2,y.2.1.1,y.2.1.2,y.2.2.1.1,y.2.2.1.2,y.2.2.2.1.1,y.2.2.2.1.2,y.2.2.2.2.1.1,y.2.2.2.2.1.2,y.2.2.2.2.2.1.1,y.2.2.2.2.2.1.2,y.2.2.2.2.2.2.1.1,y.2.2.2.2.2.2.1.2,y.2.2.2.2.2.2.2.1.1,y.2.2.2.2.2.2.2.1.2,y.2.2.2.2.2.2.2.2.1,y.2.2.2.2.2.2.2.2.2]
def px (y:N9) (n:Int):P2:=(List.getD (l18 y) (0+n.toNat*2) 0,List.getD (l18 y) (0+n.toNat*2+1) 0)
section
variable (of:EZ) (t:Cg) (out:List (P2×P2)) (told:NI) (A B:Int) (tr:List Int) (l:List cA) (pos:Nat) (x y:N9)
def wS (n:Int):EZ×(Cg×List (P2×P2)×NI×Int×Int×List Int×List cA×Nat×Int×Int×Int×Int×Int×Int×Int×Int×Int×Int×Int×Int×Int×Int×Int×Int×Int×Int×Int×Int×Int×Int×Int×Int×Int×Int×Int×Int×Int×Int×Int×Int×Int×Int×Int×Int×Int):=(of,t,out,told,A,B,tr,l,pos,x.1.1,x.1.2,x.2.1.1,x.2.1.2,x.2.2.1.1,x.2.2.1.2,x.2.2.2.1.1,x.2.2.2.1.2,x.2.2.2.2.1.1,x.2.2.2.2.1.2,x.2.2.2.2.2.1.1,x.2.2.2.2.2.1.2,x.2.2.2.2.2.2.1.1,x.2.2.2.2.2.2.1.2,x.2.2.2.2.2.2.2.1.1,x.2.2.2.2.2.2.2.1.2,x.2.2.2.2.2.2.2.2.1,x.2.2.2.2.2.2.2.2.2,y.1.1,y.1.2,y.2.1.1,y.2.1.2,y.2.2.1.1,y.2.2.1.2,y.2.2.2.1.1,y.2.2.2.1.2,y.2.2.2.2.1.1,y.2.2.2.2.1.2,y.2.2.2.2.2.1.1,y.2.2.2.2.2.1.2,y.2.2.2.2.2.2.1.1,y.2.2.2.2.2.2.1.2,y.2.2.2.2.2.2.2.1.1,y.2.2.2.2.2.2.2.1.2,y.2.2.2.2.2.2.2.2.1,y.2.2.2.2.2.2.2.2.2,n)
def wR:EZ×(Cg×List (P2×P2)×NI×Int×Int×List Int×List cA×Nat):=(of,t,out,told,A,B,tr,l,pos)
theorem Pf (X:MA) (n:Int):dg X (wS of t out told A B tr l pos x y n)=
  (if n<9 then (if (!(((px x n).1==(px y n).1)&&(((px x n).2==(px y n).2)&&true)))=true then
   (au (aU (k:=(Ty.prod aH aH)) told (px x n,px y n) false) fun b=>(if (!b)=true then
    (au (bU (k:=(Ty.prod aH aH)) told (px x n,px y n) true) fun m=> .inl (wS of t (out++ [(px x n,px y n)]) m A B tr l pos x y (aj (n+1)))) else .inl (wS of t out told A B tr l pos x y (aj (n+1)))))
   else .inl (wS of t out told A B tr l pos x y (aj (n+1)))) else .inr (wR of t out told A B tr l pos)):=by kernel_rfl
theorem UY (X:MA) (n:Int):fB X (wS of t out told A B tr l pos x y n)=
  (n<9->((0<=n/\ n<9)/\ (0+n.toNat*2+2<=18/\ ((0<=n/\ n<9)/\ (0+n.toNat*2+2<=18/\ ((!(((px x n).1==(px y n).1)&&(((px x n).2==(px y n).2)&&true)))=true->
   aM (aU (k:=(Ty.prod aH aH)) told (px x n,px y n) false) fun b=>((!b)=true->
    aM (bU (k:=(Ty.prod aH aH)) told (px x n,px y n) true) fun m=>out.length+1<1099511627776))))))):=by kernel_rfl
end
structure Lh (P:P2->P2->Prop) (out:List (P2×P2)) (told:NI):Prop where
 nd:out.Nodup
 ok: ∀p∈out,p.1≠p.2/\ P p.1 p.2
 has: ∀p∈out,aU (k:=(Ty.prod aH aH)) told p false=true
theorem N0:(Ty.prod aH aH).flat=true:=rfl
theorem Lh.put {P:P2->P2->Prop} {out:List (P2×P2)} {told:NI} (h:Lh P out told) {p:P2×P2} (hn:p.1≠p.2) (hP:P p.1 p.2) (hl:aU (k:=(Ty.prod aH aH)) told p false=false):
  Lh P (out++ [p]) (bU (k:=(Ty.prod aH aH)) told p true):=by
 have hp:p∉out:=fun q=>by rw [h.has p q] at hl;cases hl
 refine ⟨?_,fun q hq=> ?_,fun q hq=> ?_⟩
 ·rw [List.nodup_append]
  refine ⟨h.nd,by simp,fun a ha b hb=> ?_⟩
  rw [List.mem_singleton] at hb
  subst hb
  exact fun e=>hp (e▸ha)
 ·rw [List.mem_append,List.mem_singleton] at hq
  rcases hq with hq|rfl
  ·exact h.ok q hq
  ·exact ⟨hn,hP⟩
 ·have hg:=tJ N0 p true q told
  rw [List.mem_append,List.mem_singleton] at hq
  unfold aU
  rw [hg]
  rcases hq with hq|rfl
  ·by_cases e:iQ (Ty.prod aH aH) q p=true
   ·rw [if_pos e];rfl
   ·rw [if_neg e]
    exact h.has q hq
  ·rw [if_pos ((dm N0 _ _).2 rfl)];rfl
theorem ZT (p q:P2):(!((p.1==q.1)&&((p.2==q.2)&&true)))=true↔p≠q:=by
 obtain ⟨a,b⟩:=p
 obtain ⟨c,d⟩:=q
 by_cases h1:a=c<;>by_cases h2:b=d<;>simp [h1,h2]
theorem RO (P:P2->P2->Prop) (X:MA) (of:EZ) (t:Cg) (out:List (P2×P2)) (told:NI) (A B:Int) (tr:List Int) (l:List cA) (pos:Nat) (x y:N9) (hP: ∀k:Nat,k<9->P (px x (k:Int)) (px y (k:Int))) (h:Lh P out told) {c:Nat} (hc:out.length<=c) (Yk:c+9<1099511627776):
  TR (dg X) (fB X) (wS of t out told A B tr l pos x y 0) fun r=> ∃out' told',r=wR of t out' told' A B tr l pos/\ Lh P out' told'/\ out'.length<=c+9:=by
 refine dj 9 (fun k s=> ∃out' told',s=wS of t out' told' A B tr l pos x y (k:Int)/\ Lh P out' told'/\ out'.length<=c+k) _ (fun k s hk hj=> ?_) (fun s hj=> ?_) ⟨out,told,rfl,h,hc⟩
 ·obtain ⟨o,m,rfl,hT,hl⟩:=hj
  have hw:aj ((k:Int)+1)=((k+1:Nat):Int):=by rw [bf (by omega) (by omega)];omega
  rw [Pf,UY,if_pos (by omega),hw]
  refine ⟨fun _=>⟨by omega,by rw [Int.toNat_natCast];omega,by omega,by rw [Int.toNat_natCast];omega,fun _ _=>by unfold aM;omega⟩,.inl ?_⟩
  by_cases e:px x (k:Int)=px y (k:Int)
  ·rw [if_neg (fun q=>(ZT _ _).1 q e)]
   exact ⟨_,rfl,o,m,rfl,hT,by omega⟩
  ·rw [if_pos ((ZT _ _).2 e)]
   unfold au
   cases hb:aU (k:=(Ty.prod aH aH)) m (px x (k:Int),px y (k:Int)) false with
   |true=>
    dsimp only
    rw [if_neg (by decide)]
    exact ⟨_,rfl,o,m,rfl,hT,by omega⟩
   |false=>
    dsimp only
    rw [if_pos (by decide)]
    exact ⟨_,rfl,_,_,rfl,hT.put e (hP k hk) hb,by rw [List.length_append,List.length_singleton];omega⟩
 ·obtain ⟨o,m,rfl,hT,hl⟩:=hj
  rw [Pf,UY,if_neg (by omega)]
  exact ⟨fun q=>absurd q (by omega),_,rfl,o,m,rfl,hT,hl⟩
end Go.Proofs.YtojielnkfeoccaaGreat
namespace Go.Proofs.YtojielnkfeoccaaGreat
open Go Go.Ev Go.Proofs
def sx (t:T2):List Int:= [t.1.1,t.1.2,t.2.1.1,t.2.1.2,t.2.2.1,t.2.2.2]
def RV (t:T2) (a:Int):P2:=(List.getD (sx t) (a.toNat*2) 0,List.getD (sx t) (a.toNat*2+1) 0)
def La (X:MA) (i:Int):T3:=X.1.2.2.2.getD i.toNat ((0,0,0),(0,0,0),0,0,0)
def tc (X:MA) (i:Int):List P3:= [(La X i).1,(La X i).2.1,(La X i).2.2]
def alP (p q:P2):Prop:=(bt (p,q,0)/\ aM (along (p,q,0)) fun y0=>(aM (bM y0.1) fun z0=>(bt (p,q,1)/\ aM (along (p,q,1)) fun y1=>(aM (bM y1.1) fun z1=>(bt (p,q,2)/\ aM (along (p,q,2)) fun y2=>(aM (bM y2.1) fun z2=>(bt (p,q,3)/\ aM (along (p,q,3)) fun y3=>(aM (bM y3.1) fun z3=>(bt (p,q,4)/\ aM (along (p,q,4)) fun y4=>(aM (bM y4.1) fun z4=>(bt (p,q,5)/\ aM (along (p,q,5)) fun y5=>(aM (bM y5.1) fun z5=>(bt (p,q,6)/\ aM (along (p,q,6)) fun y6=>(aM (bM y6.1) fun z6=>(bt (p,q,7)/\ aM (along (p,q,7)) fun y7=>(aM (bM y7.1) fun z7=>bt (p,q,8)))))))))))))))))
theorem XY (p q:P2):alP p q:=by
 unfold alP aM
 exact ⟨(fQ p q 0).1,(fQ p q 1).1,(fQ p q 2).1,(fQ p q 3).1,(fQ p q 4).1,(fQ p q 5).1,(fQ p q 6).1,(fQ p q 7).1,(fQ p q 8).1⟩
def nine (p q:P2):N9:=(vO p q 0,vO p q 1,vO p q 2,vO p q 3,vO p q 4,vO p q 5,vO p q 6,vO p q 7,vO p q 8)
theorem OC (p q:P2) {k:Nat} (hk:k<9):px (nine p q) (k:Int)=vO p q (k:Int):=by
 have:k=0\/ k=1\/ k=2\/ k=3\/ k=4\/ k=5\/ k=6\/ k=7\/ k=8:=by omega
 rcases this with rfl|rfl|rfl|rfl|rfl|rfl|rfl|rfl|rfl<;>rfl
def Br (X:MA) (t:Cg) (i A B:Int):N9:=au (iE (tc X i,A)) fun a=>au (aU (k:=yi) t i zT) fun u=>au (iE (tc X i,B)) fun b=>au (aU (k:=yi) t i zT) fun v=>nine (RV u a) (RV v b)
def ID (X:MA) (t:Cg) (i A B:Int):Prop:=((0<=i/\ i<(X.1.2.2.2.length:Int))/\ (i.toNat<X.1.2.2.2.length/\ (i.toNat<X.1.2.2.2.length/\ (eR (tc X i,A)/\ aM (iE (tc X i,A)) fun a=>(aM (aU (k:=yi) t i zT) fun u=>((0<=a/\ a<3)/\ ((0<=i/\ i<(X.1.2.2.2.length:Int))/\ (i.toNat<X.1.2.2.2.length/\ (i.toNat<X.1.2.2.2.length/\ (eR (tc X i,B)/\ aM (iE (tc X i,B)) fun b=>(aM (aU (k:=yi) t i zT) fun v=>((0<=b/\ b<3)/\ alP (RV u a) (RV v b)))))))))))))
def Crn (X:MA) (i A:Int):Prop:=(La X i).1.1=A\/ (La X i).2.1.1=A\/ (La X i).2.2.1=A
theorem NP (t:T2) {k:Nat} (hk:k<3):RV t (k:Int)=pk t k:=by
 have:k=0\/ k=1\/ k=2:=by omega
 rcases this with rfl|rfl|rfl<;>rfl
theorem Pd {X:MA} {i A B:Int} (t:Cg) (hi:Has X.1 i) (hA:Crn X i A) (hB:Crn X i B):ID X t i A B/\ ∃a b:Nat,a<3/\ b<3/\ Br X t i A B=nine (pk (aU (k:=yi) t i zT) a) (pk (aU (k:=yi) t i zT) b):=by
 obtain ⟨p1,a,a1,a2⟩:=JP (La X i) hA
 obtain ⟨p2,b,b1,b2⟩:=JP (La X i) hB
 have q1:eR (tc X i,A):=p1
 have q2:eR (tc X i,B):=p2
 have q3:iE (tc X i,A)=(a:Int):=a2
 have q4:iE (tc X i,B)=(b:Int):=b2
 obtain ⟨h1,h2⟩:=hi
 have h3:i.toNat<X.1.2.2.2.length:=by omega
 refine ⟨?_,a,b,a1,b1,?_⟩
 ·unfold ID aM
  rw [q3,q4]
  exact ⟨⟨h1,h2⟩,h3,h3,q1,by omega,⟨h1,h2⟩,h3,h3,q2,by omega,XY _ _⟩
 ·unfold Br au
  dsimp only
  rw [q3,q4,NP _ a1,NP _ b1]
section
variable (of:EZ) (t:Cg) (out:List (P2×P2)) (told:NI) (A B:Int) (tr:List Int) (i:Int) (l:List cA) (c9 Cu NL NM:Int) (pos:Nat) (n:Int)
def s4 (j:Int):EZ×(Cg×List (P2×P2)×NI×Int×Int×List Int×Int×List cA×Int×Int×Int×Int×Nat×Int×Int):=(of,t,out,told,A,B,tr,i,l,c9,Cu,NL,NM,pos,n,j)
def r4:EZ×(Cg×List (P2×P2)×NI×Int×Int×List Int×List cA×Int×Int×Int×Int):=(of,t,out,told,A,B,tr,l,c9,Cu,NL,NM)
theorem Oc (X:MA) (j:Int):gV X (s4 of t out told A B tr i l c9 Cu NL NM pos n j)=
  (if j<n then (au (aU (k:=yi) of i 0) fun y=>(au (aU (k:=yi) of (tr.getD (pos+j.toNat) 0) 0) fun y1=>
   (if (nj (k:=yi) of i)=true then (if (nj (k:=yi) of (tr.getD (pos+j.toNat) 0))=true then (if (y !=y1)=true then
    (au (Br X t i A B) fun y2=>(au (Br X t (tr.getD (pos+j.toNat) 0) A B) fun y3=>(au (run (dg X) (wS of t out told A B tr l pos y2 y3 0)) fun r=>
     .inl (s4 r.1 r.2.1 r.2.2.1 r.2.2.2.1 r.2.2.2.2.1 r.2.2.2.2.2.1 r.2.2.2.2.2.2.1 i r.2.2.2.2.2.2.2.1 c9 Cu NL NM r.2.2.2.2.2.2.2.2 n (aj (j+1))))))
    else .inl (s4 of t out told A B tr i l c9 Cu NL NM pos n (aj (j+1)))) else .inl (s4 of t out told A B tr i l c9 Cu NL NM pos n (aj (j+1)))) else .inl (s4 of t out told A B tr i l c9 Cu NL NM pos n (aj (j+1))))))
   else .inr (r4 of t out told A B tr l c9 Cu NL NM)):=by kernel_rfl
theorem To (X:MA) (j:Int):mE X (s4 of t out told A B tr i l c9 Cu NL NM pos n j)=
  (j<n->((0<=j/\ j<((tr.length- pos:Nat):Int))/\ (pos+j.toNat<tr.length/\ (pos+j.toNat<tr.length/\ (aM (aU (k:=yi) of i 0) fun y=>(aM (aU (k:=yi) of (tr.getD (pos+j.toNat) 0) 0) fun y1=>
   ((nj (k:=yi) of i)=true->((nj (k:=yi) of (tr.getD (pos+j.toNat) 0))=true->((y !=y1)=true->
    ((∀(e:Env) (S:Nat->Prop),ID X t i A B/\ Br X t i A B=Br X t i A B)/\ aM (Br X t i A B) fun y2=>
     ((∀(e:Env) (S:Nat->Prop),ID X t (tr.getD (pos+j.toNat) 0) A B/\ Br X t (tr.getD (pos+j.toNat) 0) A B=Br X t (tr.getD (pos+j.toNat) 0) A B)/\ aM (Br X t (tr.getD (pos+j.toNat) 0) A B) fun y3=>
      Term (dg X) (fB X) (wS of t out told A B tr l pos y2 y3 0)))))))))))):=by kernel_rfl
end
end Go.Proofs.YtojielnkfeoccaaGreat
