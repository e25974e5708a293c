/- Sorting few elements, plain. -/
import Derived.Test.YtbjfokijjefoeaaGreatTa
import Derived.Test.YtbjfokijjefoeaaGreatQd
import Derived.Sort.AssemblyPlain
import Derived.Test.YtbjfokijjefoeaaGreatAa
import Derived.Test.YtbjfokijjefoeaaGreatHl
noncomputable section
set_option linter.unusedSectionVars false
set_option linter.unusedVariables false
set_option linter.unusedSimpArgs false
namespace Go.Proofs.YtbjfokijjefoeaaGreat
open Go Go.Ev Go.Proofs
def TR {S R:Type} [Inhabited R] (step:S->S⊕R) (pre:S->Prop) (s:S) (Post:R->Prop):Prop:=Term step pre s/\ Post (run step s)
theorem TR.stop {S R:Type} [Inhabited R] {step:S->S⊕R} {pre:S->Prop} {s:S} {Post:R->Prop} {r:R} (hp:pre s) (h:step s= .inr r) (hq:Post r):TR step pre s Post:=
 ⟨.mk s hp (fun s' e=>by rw [h] at e;cases e),by rw [run_eq,h];exact hq⟩
theorem TR.go {S R:Type} [Inhabited R] {step:S->S⊕R} {pre:S->Prop} {s s':S} {Post:R->Prop} (hp:pre s) (h:step s= .inl s') (hn:TR step pre s' Post):TR step pre s Post:=
 ⟨.mk s hp (fun t e=>by rw [h] at e;cases e;exact hn.1),by rw [run_eq,h];exact hn.2⟩
theorem TR.mono {S R:Type} [Inhabited R] {step:S->S⊕R} {pre:S->Prop} {s:S} {Post Post':R->Prop} (h:TR step pre s Post) (hq: ∀r,Post r->Post' r):TR step pre s Post':=⟨h.1,hq _ h.2⟩
theorem xo (l:List Int) (i:Nat):l.toArray[i]! =l.getD i 0:=by
 rw [List.getD_eq_getElem?_getD]
 simp only [List.getElem!_toArray]
 rw [List.getElem!_eq_getElem?_getD];rfl
def sw (l:List Int) (i j:Nat):List Int:=(l.set i (l.getD j 0)).set j (l.getD i 0)
theorem aeL (l:List Int) (i j:Nat):(sw l i j).toArray=Sort.swp l.toArray i j:=by
 unfold sw Sort.swp
 rw [xo,xo]
 simp
theorem Tt (l:List Int) (i j:Nat):(sw l i j).length=l.length:=by simp [sw]
theorem Yq {l:List Int} {i:Nat} (h:i<l.length):l.getD i 0∈l:=by
 rw [List.getD_eq_getElem?_getD,List.getElem?_eq_getElem h];exact List.getElem_mem h
def okE (r:RT) (e:Int):Prop:=0<=e/\ e<(r.length:Int)
def RO (r:RT):Prop:=True
theorem abF (x:Int):isNaN x=false:=by simp [isNaN]
theorem Q9 (a b:Int):compare (a,b)=if a<b then-1 else if a>b then 1 else 0:=by
 simp [compare,abF,ai]
theorem Ka (a b c:Int):CL [a,b,c]/\ TN [a,b,c]=if a≠0 then a else if b≠0 then b else c:=by
 have key:TR (cM [a,b,c]) (dP [a,b,c]) 0 fun r=>Sum.elim (fun a=>a) (fun _=>(0:Int)) r=if a≠0 then a else if b≠0 then b else c:=by
  by_cases ha:a=0
  ·subst ha
   refine TR.go (s':=1) (by simp [dP]) (by simp [cM,aR]) ?_
   by_cases hb:b=0
   ·subst hb
    refine TR.go (s':=2) (by simp [dP]) (by simp [cM,aR]) ?_
    by_cases hc:c=0
    ·subst hc
     refine TR.go (s':=3) (by simp [dP]) (by simp [cM,aR]) ?_
     exact TR.stop (r:= .inr ()) (by simp [dP]) (by simp [cM]) (by simp)
    ·exact TR.stop (r:= .inl c) (by simp [dP]) (by simp [cM,hc]) (by simp)
   ·exact TR.stop (r:= .inl b) (by simp [dP]) (by simp [cM,hb]) (by simp [hb])
  ·exact TR.stop (r:= .inl a) (by simp [dP]) (by simp [cM,ha]) (by simp [ha])
 exact ⟨key.1,by unfold TN ai;exact key.2⟩
def C1 (r:RT) (x y:Int):Bool:=decide (byM (r,x,y)<0)
def hM (r:RT) (x:Int):Int:=(r.getD x.toNat ([],[],0,0)).2.2.2
def wM (r:RT) (x:Int):Int:=(r.getD x.toNat ([],[],0,0)).2.2.1
theorem adD (r:RT) (x y:Int):byM (r,x,y)=if hM r y<hM r x then-1 else if hM r y>hM r x then 1 else if wM r y<wM r x then-1 else if wM r y>wM r x then 1 else if x<y then-1 else if x>y then 1 else 0:=by
 simp only [byM,ai,Q9,(Ka _ _ _).2]
 unfold hM wM
 generalize (r.getD x.toNat ([],[],(0:Int),(0:Int))).2.2=p
 generalize (r.getD y.toNat ([],[],(0:Int),(0:Int))).2.2=q
 repeat' split
 all_goals first|rfl|omega
theorem Fy (r:RT) (x y:Int):C1 r x y=true↔hM r y<hM r x\/ (hM r y=hM r x/\ (wM r y<wM r x\/ (wM r y=wM r x/\ x<y))):=by
 unfold C1
 rw [adD,decide_eq_true_eq]
 repeat' split
 all_goals simp
 all_goals omega
theorem yB (r:RT) (x y:Int):C1 r x y=false↔ ¬(hM r y<hM r x\/ (hM r y=hM r x/\ (wM r y<wM r x\/ (wM r y=wM r x/\ x<y)))):=by
 rw [<- Fy];simp
theorem T8 (r:RT):Sort.SWO (C1 r) where
 irrefl x:=by rw [yB];omega
 trans x y z h1 h2:=by rw [Fy] at*;omega
 ntrans x y z h1 h2:=by rw [yB] at*;omega
theorem KF (r:RT) (x y:Int) (h1:C1 r x y=false) (h2:C1 r y x=false):x=y:=by
 rw [yB] at*;omega
theorem afh {r:RT} (hr:RO r) {x y:Int} (hx:okE r x) (hy:okE r y):Ah (r,x,y):=by
 have h1:0<=x/\ x<(r.length:Int):=hx
 have h2:0<=y/\ y<(r.length:Int):=hy
 simp only [Ah,aA]
 refine ⟨h1,by omega,by omega,h2,by omega,by omega,(Ka _ _ _).1⟩
def Ok (r:RT) (d:List Int):Prop:= ∀e∈d,okE r e
theorem Ok.at_ {r:RT} {d:List Int} (h:Ok r d) {i:Nat} (hi:i<d.length):okE r (d.getD i 0):=h _ (Yq hi)
theorem Ok.sw {r:RT} {d:List Int} (h:Ok r d) {i j:Nat} (hi:i<d.length) (hj:j<d.length):Ok r (sw d i j):=by
 intro e he
 unfold Go.Proofs.YtbjfokijjefoeaaGreat.sw at he
 rcases List.mem_or_eq_of_mem_set he with he|rfl
 ·rcases List.mem_or_eq_of_mem_set he with he|rfl
  ·exact h e he
  ·exact h.at_ hj
 ·exact h.at_ hi
structure CD (r:RT) (d:List Int):Prop where
 len:d.length<4611686018427387904
 ok:Ok r d
 ro:RO r
theorem CD.sw {r:RT} {d:List Int} (h:CD r d) {i j:Nat} (hi:i<d.length) (hj:j<d.length):CD r (sw d i j):=⟨by rw [Tt];exact h.len,h.ok.sw hi hj,h.ro⟩
theorem CD.by_ {r:RT} {d:List Int} (h:CD r d) {i j:Nat} (hi:i<d.length) (hj:j<d.length):Ah (r,d.getD i 0,d.getD j 0):=afh h.ro (h.ok.at_ hi) (h.ok.at_ hj)
theorem XZ (r:RT) (x y:Int):(byM (r,x,y)<0)↔C1 r x y=true:=by unfold C1;simp
def Out (r:RT) (d:List Int) (a b:Nat) (d':List Int):Prop:=Sort.PermIn a b d.toArray d'.toArray/\ d'.length=d.length/\ CD r d'
theorem VZ (x:List Int×Int×Int×RT) (a:Nat) (hx:x.2.1=(a:Int)): ∀(j:Nat) (d:List Int) (i:Int),CD x.2.2.2 d->j<d.length->
  TR (dm x) (iB x) (d,i,(j:Int)) fun r=>r.1.toArray=Sort.insInner (C1 x.2.2.2) a j d.toArray/\ r.2=i/\ r.1.length=d.length/\ CD x.2.2.2 r.1:=by
 intro j
 induction j with
 |zero=>
  intro d i hf hj
  refine TR.stop (r:=(d,i)) ?_ ?_ ⟨?_,rfl,rfl,hf⟩
  ·simp only [iB,hx];intro h;exfalso;omega
  ·simp only [dm,hx];rw [if_neg (by omega)]
  ·rw [Sort.insInner]
 |succ j ih=>
  intro d i hf hj
  have hl:=hf.len
  have e:az (((j+1:Nat):Int)- 1)=(j:Int):=by rw [aR (by omega) (by omega)];omega
  by_cases hja:j+1>a
  ·by_cases hlt:C1 x.2.2.2 (d.getD (j+1) 0) (d.getD j 0)=true
   ·refine TR.go (s':=(sw d (j+1) j,i,(j:Int))) ?_ ?_ ((ih _ i (hf.sw hj (by omega)) (by rw [Tt];omega)).mono fun r hr=>⟨?_,hr.2.1,?_,hr.2.2.2⟩)
    ·simp only [iB,aA,List.length_set,Int.toNat_natCast,e]
     intro _
     refine ⟨?_,?_,?_,?_,?_,?_,hf.by_ hj (by omega),fun _=> ?_⟩<;>omega
    ·simp only [dm,ai,Int.toNat_natCast,e,hx]
     rw [if_pos (by omega),if_pos ((XZ _ _ _).2 hlt)];rfl
    ·rw [hr.1,aeL]
     conv=>rhs;rw [Sort.insInner,xo,xo,if_pos (by rw [Bool.and_eq_true];exact ⟨decide_eq_true hja,hlt⟩)]
    ·rw [hr.2.2.1,Tt]
   ·refine TR.stop (r:=(d,i)) ?_ ?_ ⟨?_,rfl,rfl,hf⟩
    ·simp only [iB,aA,List.length_set,Int.toNat_natCast,e]
     intro _
     refine ⟨?_,?_,?_,?_,?_,?_,hf.by_ hj (by omega),fun h=>absurd ((XZ _ _ _).1 h) hlt⟩<;>omega
    ·simp only [dm,ai,Int.toNat_natCast,e,hx]
     rw [if_pos (by omega),if_neg (fun h=>hlt ((XZ _ _ _).1 h))]
    ·rw [Sort.insInner,xo,xo,if_neg (by rw [Bool.and_eq_true];exact fun h=>hlt h.2)]
  ·refine TR.stop (r:=(d,i)) ?_ ?_ ⟨?_,rfl,rfl,hf⟩
   ·simp only [iB,hx];intro h;exfalso;omega
   ·simp only [dm,hx];rw [if_neg (by omega)]
   ·rw [Sort.insInner,if_neg (by simp [hja])]
theorem V0 (x:List Int×Int×Int×RT) (a b:Nat) (hx:x.2.1=(a:Int)) (hx2:x.2.2.1=(b:Int)): ∀(n:Nat) (d:List Int) (i:Nat),CD x.2.2.2 d->b<=d.length->b- i<=n->
  TR (eD x) (jN x) (d,(i:Int)) fun r=>r.toArray=Sort.insOuter (C1 x.2.2.2) a b i d.toArray/\ r.length=d.length/\ CD x.2.2.2 r:=by
 intro n
 induction n with
 |zero=>
  intro d i hf hj hn
  refine TR.stop (r:=d) ?_ ?_ ⟨?_,rfl,hf⟩
  ·simp only [jN,hx2];intro h;exfalso;omega
  ·simp only [eD,hx2];rw [if_neg (by omega)]
  ·rw [Sort.insOuter,if_neg (by omega)]
 |succ n ih=>
  intro d i hf hb hn
  have hl:=hf.len
  by_cases hi:i<b
  ·obtain ⟨k1,k2,k3,k4,k5⟩:=VZ x a hx i d i hf (by omega)
   refine TR.go (s':=((run (dm x) (d,(i:Int),(i:Int))).1,((i+1:Nat):Int))) ?_ ?_ ((ih _ _ k5 (by omega) (by omega)).mono fun r hr=>⟨?_,by omega,hr.2.2⟩)
   ·simp only [jN];exact fun _=>k1
   ·simp only [eD,ai,hx2,k3]
    rw [if_pos (by omega),aR (by omega) (by omega)];rfl
   ·rw [hr.1,k2]
    conv=>rhs;rw [Sort.insOuter,if_pos hi]
  ·refine TR.stop (r:=d) ?_ ?_ ⟨?_,rfl,hf⟩
   ·simp only [jN,hx2];intro h;exfalso;omega
   ·simp only [eD,hx2];rw [if_neg (by omega)]
   ·rw [Sort.insOuter,if_neg hi]
theorem abE {r:RT} {d:List Int} (hf:CD r d) {a b:Nat} (hab:a<=b) (hb:b<=d.length):
  AQ (d,(a:Int),(b:Int),r)/\ Out r d a b (MS (d,(a:Int),(b:Int),r)).2.1/\ Sort.SortedIn (C1 r) a b (MS (d,(a:Int),(b:Int),r)).2.1.toArray:=by
 have hl:=hf.len
 have e:az ((a:Int)+1)=((a+1:Nat):Int):=by rw [aR (by omega) (by omega)];omega
 obtain ⟨h1,h2,h3,h4⟩:=V0 (d,(a:Int),(b:Int),r) a b rfl rfl _ d (a+1) hf hb (Nat.le_refl _)
 obtain ⟨k1,k2⟩:=Sort.insertionSort_holds (T8 r) d.toArray a b hab (by simpa using hb)
 unfold Sort.insertionSort at k1 k2
 refine ⟨?_,?_,?_⟩
 ·simp only [AQ,aA,e]
  exact ⟨h1,h3⟩
 ·simp only [MS,ai,e]
  exact ⟨by rw [h2];exact k1,h3,h4⟩
 ·simp only [MS,ai,e]
  rw [h2];exact k2
theorem u8w (n:Int):IntKind.wrap IntKind.u8 n=n % 256:=by simp [IntKind.wrap,IntKind.bits,IntKind.signed]
theorem aiO (n:Int):IntKind.wrap IntKind.u64 n=n % 18446744073709551616:=by simp [IntKind.wrap,IntKind.bits,IntKind.signed]
abbrev most:Nat:=12
theorem Ub:most<=1000000:=by decide
theorem agB (n:Nat):tE (n:Int):=by
 simp only [tE,u8w]
 repeat' (first|with_reducible apply And.intro|intro _)
 all_goals omega
def srt (r:RT) (d:List Int):List Int:=d.mergeSort fun x y=> !C1 r y x
theorem aar {r:RT} {d:List Int} (hf:CD r d) (hm:d.length<=most):x6 (d,r)/\ (UA (d,r)).2.1=srt r d:=by
 have hl:=hf.len
 have e:IntKind.wrap IntKind.u64 ((d.length:Nat):Int)=((d.length:Nat):Int):=by rw [aiO];omega
 have e2:az (((d.length:Nat):Int)- 0)=((d.length:Nat):Int):=by rw [aR (by omega) (by omega)];omega
 have Xz:d.length<=12:=hm
 have c:((d.length:Nat):Int)<=12:=by omega
 obtain ⟨i1,i2,i3⟩:=abE hf (Nat.zero_le _) (Nat.le_refl d.length)
 have hi:MS (d,((0:Nat):Int),((d.length:Nat):Int),r)=MS (d,(0:Int),(d.length:Int),r):=rfl
 rw [show (((0:Nat):Int))=0 from rfl] at i1 i2 i3
 refine ⟨?_,?_⟩
 ·simp only [x6,aA,e,Hv,Zy,ai,e2]
  refine ⟨agB _,⟨fun _=>⟨i1,i2.2.1⟩,fun q=>absurd c q⟩,?_⟩
  rw [if_pos c];exact i2.2.1
 ·simp only [UA,ai,e,Zy,e2]
  rw [if_pos c]
  have:=Sort.sorted_unique_holds (T8 r) (KF r) d.toArray _ (by simpa using i2.1) (by simpa using i3)
  simpa [srt] using this
theorem aay (r:RT) (d:List Int):(srt r d).Perm d:=List.mergeSort_perm _ _
end Go.Proofs.YtbjfokijjefoeaaGreat
namespace Go.Proofs.YtbjfokijjefoeaaGreat
open Go Go.Ev Go.Proofs
theorem aZ {S R:Type} [Inhabited R] {step:S->S⊕R} {pre:S->Prop} (n:Nat) (J:Nat->S->Prop) (Post:R->Prop)
  (h1: ∀i s,i<n->J i s->pre s/\ ((∃s',step s= .inl s'/\ J (i+1) s')\/ (∃r,step s= .inr r/\ Post r)))
  (h2: ∀s,J n s->pre s/\ ∃r,step s= .inr r/\ Post r) {s:S} (h0:J 0 s):TR step pre s Post:=by
 have key: ∀k i,i+k=n-> ∀s,J i s->TR step pre s Post:=by
  intro k
  induction k with
  |zero=>
   intro i e s hj
   have:i=n:=by omega
   subst this
   obtain ⟨hp,r,e1,hq⟩:=h2 s hj
   exact TR.stop hp e1 hq
  |succ k ih=>
   intro i e s hj
   obtain ⟨hp,⟨s',e1,hj'⟩|⟨r,e1,hq⟩⟩:=h1 i s (by omega) hj
   ·exact TR.go hp e1 (ih (i+1) (by omega) s' hj')
   ·exact TR.stop hp e1 hq
 exact key n 0 (by omega) s h0
theorem b9 {α:Type} {l:List α} {i:Nat} (h:i<l.length) (d:α):l.take (i+1)=l.take i++ [l.getD i d]:=by
 rw [List.take_add_one,List.getD_eq_getElem?_getD,List.getElem?_eq_getElem h];rfl
theorem bZ {α:Type} {l:List α} {i:Nat} (h:i<l.length) (d:α):l.getD i d∈l:=by
 rw [List.getD_eq_getElem?_getD,List.getElem?_eq_getElem h];exact List.getElem_mem h
theorem fJ {i n:Nat} (h:i<n) (hn:n<4611686018427387904):az ((i:Int)+1)=((i+1:Nat):Int):=cnt h hn
def kF (v:Int):Prop:=1<=v/\ v<=256
theorem E1 (x:List Int) (hl:x.length<4611686018427387904):rf x/\ (uQ x=true↔ ∀v∈x,kF v):=by
 have h:=pW x hl (fun v=>decide (v<1)||decide (v>256)) (iw x) (qt x) (fun i hi=>by
   unfold qt
   intro h
   simp only [Int.toNat_natCast];omega) (fun i v hv=>by
   have hlt:=cD hv
   unfold iw
   rw [if_pos (by omega),Int.toNat_natCast,iM hv]
   by_cases h1:v<1
   ·simp [h1]
   ·by_cases h2:v>256
    ·simp [h1,h2]
    ·simp [h1,h2]) (by
   unfold iw
   rw [if_neg (by omega)])
 refine ⟨h.1,?_⟩
 have e:uQ x= !x.any (fun v=>decide (v<1)||decide (v>256)):=h.2
 rw [e]
 simp only [Bool.not_eq_true',List.any_eq_false,Bool.or_eq_true,decide_eq_true_eq,kF]
 exact ⟨fun q v hv=>by have:=q v hv;omega,fun q v hv=>by have:=q v hv;omega⟩
def nQ (l:List Int) (m:Int):Prop:=m∈l/\ ∀v∈l,v<=m
theorem nQ.uniq {l:List Int} {m m':Int} (h:nQ l m) (h':nQ l m'):m=m':=by
 have:=h.2 _ h'.1
 have:=h'.2 _ h.1
 omega
theorem nQ.snoc {l:List Int} {m:Int} (h:nQ l m) (v:Int):nQ (l++ [v]) (bp m v):=by
 have g:=gJ m v
 refine ⟨?_,fun u hu=> ?_⟩
 ·rcases g.2.2 with e|e
  ·rw [e];simp [h.1]
  ·rw [e];simp
 ·rcases List.mem_append.1 hu with hu|hu
  ·have:=h.2 u hu;omega
  ·simp at hu;omega
theorem Zd (x:List Int) (h0:0<x.length) (hl:x.length<4611686018427387904):v8 x/\ nQ x (Wf x):=by
 have hn: ¬(((x.length:Nat):Int)<1):=by omega
 have key:TR (lF x) (qN x) (x.getD 0 0,1) (nQ x):=by
  refine aZ (x.length- 1) (fun i s=>s.2=((i+1:Nat):Int)/\ nQ (x.take (i+1)) s.1) _ (fun i s hi hj=> ?_) (fun s hj=> ?_) ⟨rfl,?_⟩
  ·obtain ⟨m,z⟩:=s
   obtain ⟨e,hm⟩:=hj
   dsimp only at e hm;subst e
   refine ⟨?_,.inl ⟨(bp m (x.getD (i+1) 0),az (((i+1:Nat):Int)+1)),?_,?_,?_⟩⟩
   ·unfold qN
    intro _
    simp only [Int.toNat_natCast];omega
   ·unfold lF
    rw [if_pos (by dsimp only;omega)]
    simp only [Int.toNat_natCast]
   ·exact fJ (n:=x.length) (by omega) hl
   ·rw [b9 (by omega) 0];exact hm.snoc _
  ·obtain ⟨m,z⟩:=s
   obtain ⟨e,hm⟩:=hj
   dsimp only at e hm;subst e
   refine ⟨?_,m,?_,?_⟩
   ·unfold qN
    intro h
    dsimp only at h;omega
   ·unfold lF
    rw [if_neg (by dsimp only;omega)]
   ·rw [List.take_of_length_le (by omega)] at hm;exact hm
  ·rw [b9 h0 0]
   simp [nQ]
 refine ⟨?_,?_⟩
 ·unfold v8
  exact ⟨fun h=>absurd h hn,fun _=>⟨by omega,h0,h0,key.1⟩⟩
 ·unfold Wf ai
  rw [if_neg hn];exact key.2
def hi (s:List Int) (w x:Nat):Int:=Wf (List.take w (List.drop x s))
def TH (s:List Int):Prop:=s.length<=256/\ ∀v∈s,0<=v/\ v<=256
theorem Rw {s:List Int} {w x:Nat} (h:x+w<=s.length):(List.take w (List.drop x s)).length=w:=by
 rw [List.length_take,List.length_drop];omega
theorem GK {s:List Int} (hs:TH s) {w x:Nat} (hw:0<w) (h:x+w<=s.length):v8 (List.take w (List.drop x s))/\ nQ (List.take w (List.drop x s)) (hi s w x):=
 Zd _ (by rw [Rw h];exact hw) (by rw [Rw h];have:=hs.1;omega)
theorem TS {s:List Int} (hs:TH s) {w x:Nat} (hw:0<w) (h:x+w<=s.length):0<=hi s w x/\ hi s w x<=256:=
 hs.2 _ (List.mem_of_mem_drop (List.mem_of_mem_take (GK hs hw h).2.1))
theorem ac0 {s:List Int} (hs:TH s) {w x c:Nat} (hw:0<w) (h:x+w<=s.length) (hc:x<=c/\ c<x+w):s.getD c 0<=hi s w x:=by
 refine (GK hs hw h).2.2 _ ?_
 have:s.getD c 0=(List.take w (List.drop x s)).getD (c- x) 0:=by
  rw [List.getD_eq_getElem?_getD,List.getD_eq_getElem?_getD,List.getElem?_take,if_pos (by omega),List.getElem?_drop,show x+(c- x)=c by omega]
 rw [this]
 exact bZ (by rw [Rw h];omega) 0
def FO (s:List Int) (w:Nat) (h most:Int) (k:Nat) (a low:Int) (f:Bool):Prop:=
 (f=true->0<=a/\ a.toNat<k/\ low=hi s w a.toNat/\ low+h<=most/\ ∀x,x<k->hi s w x+h<=most->low<=hi s w x/\ (x<a.toNat->low<hi s w x))/\
 (f=false->a=0/\ low=0/\ ∀x,x<k-> ¬hi s w x+h<=most)
theorem Lw {s:List Int} (hs:TH s) {w:Nat} (hw:0<w) (hw2:w<=256) {h:Int} (hh:0<=h/\ h<=256) (most:Int):
  xZ (s,(w:Int),h,most)/\ FO s w h most (s.length+1- w) (BN (s,(w:Int),h,most)).1 (BN (s,(w:Int),h,most)).2.1 (BN (s,(w:Int),h,most)).2.2:=by
 have hl:=hs.1
 have hbound:bp (az ((az (((s.length:Nat):Int)- (w:Int)))+(1:Int))) (0:Int)=((s.length+1- w:Nat):Int):=by
  have e0:az (((s.length:Nat):Int)- (w:Int))=(s.length:Int)- (w:Int):=aR (by omega) (by omega)
  rw [e0,aR (by omega) (by omega)]
  have:=gJ (((s.length:Nat):Int)- (w:Int)+1) 0
  omega
 have key:TR (iJ (s,(w:Int),h,most)) (pF (s,(w:Int),h,most)) (0,0,false,0) fun r=>FO s w h most (s.length+1- w) r.1 r.2.1 r.2.2:=by
  refine aZ (s.length+1- w) (fun k st=>st.2.2.2=(k:Int)/\ FO s w h most k st.1 st.2.1 st.2.2.1) _ (fun k st hk hj=> ?_) (fun st hj=> ?_) ⟨rfl,fun q=>(by cases q),fun _=>⟨rfl,rfl,fun x hx=>absurd hx (by omega)⟩⟩
  ·obtain ⟨a,low,f,z⟩:=st
   obtain ⟨e,hF⟩:=hj
   dsimp only at e hF;subst e
   have hkw:k+w<=s.length:=by omega
   have e1:az ((k:Int)+(w:Int))=((k+w:Nat):Int):=by rw [aR (by omega) (by omega)];omega
   have e2:List.take (Int.toNat (az ((k:Int)+(w:Int)))- Int.toNat (k:Int)) (List.drop (Int.toNat (k:Int)) s)=List.take w (List.drop k s):=by
    rw [e1,Int.toNat_natCast,Int.toNat_natCast,Nat.add_sub_cancel_left]
   obtain ⟨hp,hm⟩:=GK hs hw hkw
   have hin:=TS hs hw hkw
   refine ⟨?_,.inl ?_⟩
   ·unfold pF
    intro _
    dsimp only
    rw [e2,e1]
    simp only [Int.toNat_natCast]
    exact ⟨by omega,by omega,by omega,hp⟩
   ·have e3:az (hi s w k+h)=hi s w k+h:=aR (by omega) (by omega)
    have e4:az ((k:Int)+1)=((k+1:Nat):Int):=fJ (n:=300) (by omega) (by omega)
    have hst:iJ (s,(w:Int),h,most) (a,low,f,(k:Int))= .inl (if hi s w k+h<=most/\ (f=false\/ hi s w k<low) then ((k:Int),hi s w k,true,((k+1:Nat):Int)) else (a,low,f,((k+1:Nat):Int))):=by
     unfold iJ ai
     dsimp only
     rw [hbound,if_pos (by omega),e2,show Wf (List.take w (List.drop k s))=hi s w k from rfl,e3,e4]
     by_cases c1:hi s w k+h<=most
     ·rw [if_pos c1]
      cases f with
      |false=>simp [c1]
      |true=>
       by_cases c2:hi s w k<low
       ·simp [c1,c2]
       ·simp [c1,c2]
     ·simp [c1]
    refine ⟨_,hst,?_⟩
    by_cases c:hi s w k+h<=most/\ (f=false\/ hi s w k<low)
    ·rw [if_pos c]
     refine ⟨rfl,fun _=>⟨by dsimp only;omega,by dsimp only;omega,by simp,c.1,fun x hx hm'=> ?_⟩,fun q=>(by cases q)⟩
     simp only [Int.toNat_natCast]
     rcases Nat.lt_or_ge x k with Jy|Jy
     ·rcases c.2 with hf|hf
      ·exact absurd hm' ((hF.2 hf).2.2 x Jy)
      ·cases f with
       |false=>exact absurd hm' ((hF.2 rfl).2.2 x Jy)
       |true=>have:=((hF.1 rfl).2.2.2.2 x Jy hm').1;exact ⟨by omega,fun _=>by omega⟩
     ·have:x=k:=by omega
      subst this
      exact ⟨Int.le_refl _,fun q=>absurd q (Nat.lt_irrefl _)⟩
    ·rw [if_neg c]
     refine ⟨rfl,fun q=> ?_,fun q=> ?_⟩
     ·obtain ⟨q1,q2,q3,q4,q5⟩:=hF.1 q
      refine ⟨q1,by dsimp only at q2 ⊢;omega,q3,q4,fun x hx hm'=> ?_⟩
      rcases Nat.lt_or_ge x k with Jy|Jy
      ·exact q5 x Jy hm'
      ·have:x=k:=by omega
       subst this
       have c2: ¬hi s w x<low:=fun q=>c ⟨hm',.inr q⟩
       exact ⟨by dsimp only;omega,fun q=>absurd q (by dsimp only at q2 ⊢;omega)⟩
     ·obtain ⟨q1,q2,q3⟩:=hF.2 q
      refine ⟨q1,q2,fun x hx hm'=> ?_⟩
      rcases Nat.lt_or_ge x k with Jy|Jy
      ·exact q3 x Jy hm'
      ·have:x=k:=by omega
       subst this
       exact c ⟨hm',.inl q⟩
  ·obtain ⟨a,low,f,z⟩:=st
   obtain ⟨e,hF⟩:=hj
   dsimp only at e hF;subst e
   refine ⟨?_,(a,low,f),?_,hF⟩
   ·unfold pF
    intro q
    dsimp only at q
    rw [hbound] at q
    omega
   ·unfold iJ
    dsimp only
    rw [hbound,if_neg (by omega)]
 exact ⟨key.1,by unfold BN ai;exact key.2⟩
def jW (s:List Int) (x w:Nat) (to:Int):List Int:=s.take x++List.replicate w to++s.drop (x+w)
theorem BH (s:List Int) (x w:Nat) (to:Int) (h:x+w<=s.length):(jW s x w to).length=s.length:=by
 simp only [jW,List.length_append,List.length_take,List.length_replicate,List.length_drop];omega
theorem Ir (s:List Int) (x w:Nat) (to:Int) (h:x+w<=s.length) (c:Nat):(jW s x w to).getD c 0=if x<=c/\ c<x+w then to else s.getD c 0:=by
 simp only [jW,List.getD_eq_getElem?_getD,List.getElem?_append,List.length_append,List.length_take,List.length_replicate,List.getElem?_replicate,List.getElem?_take,List.getElem?_drop]
 have e:min x s.length=x:=by omega
 rw [e]
 by_cases h1:c<x
 ·rw [if_pos (by omega),if_pos h1,if_pos h1,if_neg (by omega)]
 ·by_cases h2:c<x+w
  ·rw [if_pos h2,if_neg h1,if_pos (by omega),if_pos (by omega)];rfl
  ·rw [if_neg h2,if_neg (by omega),show x+w+(c- (x+w))=c by omega]
theorem Z9 {s:List Int} {x w:Nat} {to v:Int} (h:v∈jW s x w to):v∈s\/ v=to:=by
 simp only [jW,List.mem_append] at h
 rcases h with (h|h)|h
 ·exact .inl (List.mem_of_mem_take h)
 ·exact .inr (List.eq_of_mem_replicate h)
 ·exact .inl (List.mem_of_mem_drop h)
theorem aac (s:List Int) (x i:Nat) (to:Int) (h:x+i<s.length):(jW s x i to).set (x+i) to=jW s x (i+1) to:=by
 apply List.ext_getElem?
 intro c
 simp only [jW,List.getElem?_set,List.getElem?_append,List.length_append,List.length_take,List.length_replicate,List.getElem?_replicate,List.getElem?_take,List.getElem?_drop,List.length_drop]
 have e:min x s.length=x:=by omega
 rw [e]
 by_cases h0:x+i=c
 ·subst h0
  simp
  rw [if_pos (by omega),if_neg (by omega)]
 ·rw [if_neg h0]
  by_cases h1:c<x
  ·simp [h1,show c<x+i by omega,show c<x+(i+1) by omega]
  ·by_cases h2:c<x+i
   ·simp [h1,h2,show c<x+(i+1) by omega,show c- x<i by omega,show c- x<i+1 by omega]
   ·simp [h2,show¬c<x+(i+1) by omega,show x+i+(c- (x+i))=c by omega,show x+(i+1)+(c- (x+(i+1)))=c by omega]
theorem Xq {s:List Int} (hs:s.length<=256) {x w:Nat} (h:x+w<=s.length) (to:Int):x7 (s,(x:Int),(w:Int),to)/\ (Me (s,(x:Int),(w:Int),to)).2.1=jW s x w to:=by
 have key:TR (eW (s,(x:Int),(w:Int),to)) (mu (s,(x:Int),(w:Int),to)) (s,0) fun r=>r=jW s x w to:=by
  refine aZ w (fun i st=>st.2=(i:Int)/\ st.1=jW s x i to) _ (fun i st hi' hj=> ?_) (fun st hj=> ?_) ⟨rfl,by simp [jW]⟩
  ·obtain ⟨l,z⟩:=st
   obtain ⟨e,e'⟩:=hj
   dsimp only at e e';subst e;subst e'
   have e1:az ((x:Int)+(i:Int))=((x+i:Nat):Int):=by rw [aR (by omega) (by omega)];omega
   have hlen:=BH s x i to (by omega)
   refine ⟨?_,.inl ⟨(jW s x (i+1) to,((i+1:Nat):Int)),?_,rfl,rfl⟩⟩
   ·unfold mu
    intro _
    dsimp only
    rw [e1,Int.toNat_natCast,hlen]
    omega
   ·unfold eW ai
    dsimp only
    rw [if_pos (by omega),e1,Int.toNat_natCast,aac s x i to (by omega),fJ (n:=300) (by omega) (by omega)]
  ·obtain ⟨l,z⟩:=st
   obtain ⟨e,e'⟩:=hj
   dsimp only at e e';subst e;subst e'
   refine ⟨?_,_,?_,rfl⟩
   ·unfold mu
    intro q
    dsimp only at q;omega
   ·unfold eW
    dsimp only
    rw [if_neg (by omega)]
 refine ⟨⟨key.1,?_⟩,?_⟩
 ·show aA _ _
  unfold aA
  dsimp only
  rw [key.2];exact BH s x w to h
 ·unfold Me ai
  exact key.2
end Go.Proofs.YtbjfokijjefoeaaGreat
namespace Go.Proofs.YtbjfokijjefoeaaGreat
open Go Go.Ev Go.Proofs
abbrev vf:Type:=Int×(Int×Int×Int)
abbrev zR:vf:=(0,0,0,0)
def FZ (w:Nat) (h:Int) (s:List Int):Prop:=s.length=w/\ ∀v∈s,0<=v/\ v<=h
theorem FZ.sky {w:Nat} {h:Int} {s:List Int} (hs:FZ w h s) (hw:w<=256) (hh:h<=256):TH s:=⟨by rw [hs.1];exact hw,fun v hv=>by have:=hs.2 v hv;omega⟩
def fk (s:List Int) (p:Int×Int) (h:Int):Int×(Int×Bool):=BN (s,p.1,p.2,h)
structure Fnd (s:List Int) (p:Int×Int) (h:Int) (w:Nat) (a low:Int):Prop where
 a0:0<=a
 aw:a+p.1<=w
 l0:0<=low
 lh:low+p.2<=h
 eq:low=hi s p.1.toNat a.toNat
 least: ∀x:Nat,(x:Int)+p.1<=w->hi s p.1.toNat x+p.2<=h->low<=hi s p.1.toNat x/\ (x<a.toNat->low<hi s p.1.toNat x)
theorem Az {w:Nat} {h:Int} {s:List Int} (hs:FZ w h s) (hw:w<=256) (hh:h<=256) {p:Int×Int} (hp:kF p.1/\ kF p.2):
  xZ (s,p.1,p.2,h)/\ ((fk s p h).2.2=true->Fnd s p h w (fk s p h).1 (fk s p h).2.1)/\ ((fk s p h).2.2=false->(fk s p h).1=0/\ (fk s p h).2.1=0/\ ∀x:Nat,(x:Int)+p.1<=w-> ¬hi s p.1.toNat x+p.2<=h):=by
 have hS:=hs.sky hw hh
 obtain ⟨⟨p1,p2⟩,q1,q2⟩:=hp
 have e:((p.1.toNat:Nat):Int)=p.1:=by omega
 have hlen:=hs.1
 have:=Lw hS (w:=p.1.toNat) (by omega) (by omega) (h:=p.2) ⟨by omega,by omega⟩ h
 rw [e] at this
 refine ⟨this.1,fun q=> ?_,fun q=> ?_⟩
 ·obtain ⟨r1,r2,r3,r4,r5⟩:=this.2.1 q
  have hin:=TS hS (w:=p.1.toNat) (x:=(fk s p h).1.toNat) (by omega) (by unfold fk;omega)
  refine ⟨r1,by unfold fk;omega,?_,r4,r3,fun x hx hm=>r5 x (by omega) hm⟩
  rw [show (fk s p h).2.1=hi s p.1.toNat (fk s p h).1.toNat from r3];exact hin.1
 ·obtain ⟨r1,r2,r3⟩:=this.2.2 q
  exact ⟨r1,r2,fun x hx=>r3 x (by omega)⟩
def fC (h:Int):List Int->List (Int×Int)->Option (List vf)
 |_,[]=>some []
 |s,p::r=>if (fk s p h).2.2=true then (match fC h (jW s (fk s p h).1.toNat p.1.toNat ((fk s p h).2.1+p.2)) r with
  |some q=>some (((fk s p h).1,(fk s p h).2.1,p)::q)
  |none=>none) else none
theorem FZ.jW {w:Nat} {h:Int} {s:List Int} (hs:FZ w h s) {p:Int×Int} (hp:kF p.1/\ kF p.2) {a low:Int} (hf:Fnd s p h w a low):FZ w h (jW s a.toNat p.1.toNat (low+p.2)):=by
 have h1:=hf.a0
 have h2:=hf.aw
 have h3:=hf.l0
 have h4:=hf.lh
 obtain ⟨⟨p1,p2⟩,q1,q2⟩:=hp
 have hlen:=hs.1
 refine ⟨by rw [BH _ _ _ _ (by omega)];exact hlen,fun v hv=> ?_⟩
 rcases Z9 hv with hv|hv
 ·exact hs.2 v hv
 ·omega
theorem K5 (p:Int×Int):Dd p/\ (Hx p=false↔kF p.1/\ kF p.2):=by
 have h:=E1 [p.1,p.2] (by simp)
 refine ⟨h.1,?_⟩
 unfold Hx ai
 rw [Bool.not_eq_false',h.2]
 simp
theorem Jp (l:List (Int×Int)) (hl:l.length<4611686018427387904):rz (l,false)/\ pL (l,false)=l.any Hx:=by
 have h:=tA l hl Hx (iX (l,false)) (rH (l,false)) (fun i hi=>by
   unfold rH
   intro h
   simp only [Int.toNat_natCast]
   exact ⟨by dsimp only at h ⊢;omega,by dsimp only at h ⊢;omega,by dsimp only at h ⊢;omega,(K5 _).1⟩) (fun i x hx=>by
   have hlt:=cD hx
   unfold iX ai
   rw [if_pos (by dsimp only;omega),Int.toNat_natCast]
   dsimp only
   rw [iM hx]) (by
   unfold iX
   rw [if_neg (by dsimp only;omega)])
 refine ⟨h.1,?_⟩
 have e:RJ (l,false)=_:=h.2
 unfold pL ai
 dsimp only
 rw [e]
 exact Gw l Hx
theorem Wt {w:Nat} {h:Int} (hw:w<=256) (hh:h<=256) (w':Int) (l:List (Int×Int)) (hl:l.length<1099511627776) (hin: ∀p∈l,kF p.1/\ kF p.2):
  ∀k i,i+k=l.length-> ∀(s:List Int) (out:List vf),FZ w h s->out.length=i->TR (jy (w',h,l)) (nZ (w',h,l)) (s,out,(i:Int)) fun r=>r=(match fC h s (l.drop i) with|some q=> .inr (out++q)|none=> .inl ()):=by
 intro k
 induction k with
 |zero=>
  intro i e s out hs ho
  have:i=l.length:=by omega
  subst this
  refine TR.stop (r:= .inr out) ?_ ?_ ?_
  ·unfold nZ
   intro q
   dsimp only at q;omega
  ·unfold jy
   dsimp only
   rw [if_neg (by omega)]
  ·rw [List.drop_length];simp [fC]
 |succ k ih=>
  intro i e s out hs ho
  have hlt:i<l.length:=by omega
  have hp:=hin _ (bZ hlt (0,0))
  have hd:l.drop i=l.getD i (0,0)::l.drop (i+1):=by
   rw [List.drop_eq_getElem_cons hlt,List.getD_eq_getElem?_getD,List.getElem?_eq_getElem hlt];rfl
  rw [hd]
  generalize l.getD i (0,0)=p at hp hd
  have hgp:l.getD i (0,0)=p:=by
   rw [List.getD_eq_getElem?_getD,<- List.head?_drop,hd];rfl
  obtain ⟨g1,g2,g3⟩:=Az hs hw hh hp
  have hst:jy (w',h,l) (s,out,(i:Int))=if (!(fk s p h).2.2)=true then .inr (.inl ()) else .inl ((Me (s,(fk s p h).1,p.1,az ((fk s p h).2.1+p.2))).2.1,out++ [((fk s p h).1,(fk s p h).2.1,p)],az ((i:Int)+1)):=by
   unfold jy ai
   dsimp only
   rw [if_pos (by omega),Int.toNat_natCast,hgp]
   rfl
  have hpr:((fk s p h).2.2=true->x7 (s,(fk s p h).1,p.1,az ((fk s p h).2.1+p.2)))->nZ (w',h,l) (s,out,(i:Int)):=fun hq=>by
   unfold nZ aA
   intro _
   dsimp only
   rw [Int.toNat_natCast,hgp]
   refine ⟨by omega,hlt,hlt,g1,fun q=>⟨hq ?_,by omega⟩⟩
   have:(!(fk s p h).2.2)≠true:=q
   simpa using this
  cases hf:(fk s p h).2.2 with
  |false=>
   refine TR.stop (r:= .inl ()) (hpr fun q=>by rw [hf] at q;cases q) ?_ ?_
   ·rw [hst,hf];rfl
   ·simp [fC,hf]
  |true=>
   have hF:=g2 hf
   have h1:=hF.a0
   have h2:=hF.aw
   have h3:=hF.l0
   have h4:=hF.lh
   obtain ⟨⟨p1,p2⟩,q1,q2⟩:=hp
   have hlen:=hs.1
   have ea:(((fk s p h).1.toNat:Nat):Int)=(fk s p h).1:=by omega
   have ew:((p.1.toNat:Nat):Int)=p.1:=by omega
   have eto:az ((fk s p h).2.1+p.2)=(fk s p h).2.1+p.2:=aR (by omega) (by omega)
   have hr:=Xq (s:=s) (by omega) (x:=(fk s p h).1.toNat) (w:=p.1.toNat) (by omega) ((fk s p h).2.1+p.2)
   rw [ea,ew] at hr
   refine TR.go (hpr fun _=>by rw [eto];exact hr.1) (s':=(jW s (fk s p h).1.toNat p.1.toNat ((fk s p h).2.1+p.2),out++ [((fk s p h).1,(fk s p h).2.1,p)],((i+1:Nat):Int))) ?_ ?_
   ·rw [hst,hf,eto,hr.2,fJ hlt (by omega)];rfl
   ·refine (ih (i+1) (by omega) _ _ (hs.jW ⟨⟨p1,p2⟩,q1,q2⟩ hF) (by simp [ho])).mono fun r hr'=> ?_
    rw [hr',fC,if_pos hf]
    cases fC h (jW s (fk s p h).1.toNat p.1.toNat ((fk s p h).2.1+p.2)) (l.drop (i+1)) with
    |none=>rfl
    |some q=>simp
theorem Zu {w h:Int} (hw:kF w) (hh:kF h) (l:List (Int×Int)) (hl:l.length<1099511627776) (hin: ∀p∈l,kF p.1/\ kF p.2):
  A9 (w,h,l)/\ pack (w,h,l)=match fC h (List.replicate w.toNat 0) l with|some q=>(q,0)|none=>([],9):=by
 obtain ⟨w1,w2⟩:=hw
 obtain ⟨h1,h2⟩:=hh
 have a1:=E1 [w,h] (by simp)
 have a2:uQ [w,h]=true:=a1.2.2 (by simp [kF];omega)
 have b1:=Jp l (by omega)
 have b2:pL (l,false)=false:=by
  rw [b1.2,List.any_eq_false]
  intro p hp
  rw [(K5 p).2.2 (hin p hp)];simp
 have c:=Wt (w:=w.toNat) (h:=h) (by omega) h2 w l hl hin l.length 0 (by omega) (List.replicate w.toNat 0) [] ⟨by simp,fun v hv=>by have:=List.eq_of_mem_replicate hv;omega⟩ rfl
 refine ⟨?_,?_⟩
 ·unfold A9 aA
  dsimp only
  exact ⟨a1.1,fun _=>⟨b1.1,fun _=>⟨⟨⟨by omega,Int.le_refl _⟩,by omega⟩,c.1⟩⟩⟩
 ·unfold pack ai
  dsimp only
  have e:=c.2
  simp only [List.drop_zero,List.nil_append] at e
  rw [a2,b2]
  simp only [Bool.not_true,Bool.false_eq_true,if_false]
  rw [show ((0:Nat):Int)=0 from rfl] at e
  rw [e]
  cases fC h (List.replicate w.toNat 0) l<;>rfl
def Mn (w h:Int) (r:vf):Prop:=(1<=r.2.2.1/\ 1<=r.2.2.2)/\ (0<=r.1/\ 0<=r.2.1)/\ r.1+r.2.2.1<=w/\ r.2.1+r.2.2.2<=h
def JV (a b:vf):Prop:=a.1+a.2.2.1<=b.1\/ b.1+b.2.2.1<=a.1\/ a.2.1+a.2.2.2<=b.2.1\/ b.2.1+b.2.2.2<=a.2.1
theorem JV.symm {a b:vf} (h:JV a b):JV b a:=by unfold JV at*;omega
def acL (s:List Int) (r:vf):Prop:= ∀c:Nat,r.1<=c->(c:Int)<r.1+r.2.2.1->r.2.1+r.2.2.2<=s.getD c 0
theorem Pf {w:Nat} {h:Int} (hw:w<=256) (hh:h<=256): ∀(l:List (Int×Int)) (s:List Int) (q:List vf),(∀p∈l,kF p.1/\ kF p.2)->FZ w h s->fC h s l=some q->
  q.map (fun r=>r.2.2)=l/\ (∀r∈q,Mn w h r)/\ q.Pairwise JV/\ ∀o:vf,Mn w h o->acL s o-> ∀r∈q,JV o r:=by
 intro l
 induction l with
 |nil=>
  intro s q hl hs he
  simp only [fC,Option.some.injEq] at he
  subst he
  exact ⟨rfl,by simp,List.Pairwise.nil,by simp⟩
 |cons p l ih=>
  intro s q hl hs he
  have hp:=hl p (by simp)
  obtain ⟨g1,g2,g3⟩:=Az hs hw hh hp
  rw [fC] at he
  split at he
  rotate_left
  ·cases he
  rename_i hf
  have hF:=g2 hf
  split at he
  rotate_left
  ·cases he
  rename_i q' hq
  cases he
  obtain ⟨i1,i2,i3,i4⟩:=ih _ q' (fun p hp=>hl p (by simp [hp])) (hs.jW hp hF) hq
  have h1:=hF.a0
  have h2:=hF.aw
  have h3:=hF.l0
  have h4:=hF.lh
  have h5:=hF.eq
  obtain ⟨⟨p1,p2⟩,q1,q2⟩:=hp
  have hlen:=hs.1
  have hin:Mn w h ((fk s p h).1,(fk s p h).2.1,p):=⟨⟨p1,q1⟩,⟨h1,h3⟩,h2,h4⟩
  have hun:acL (jW s (fk s p h).1.toNat p.1.toNat ((fk s p h).2.1+p.2)) ((fk s p h).1,(fk s p h).2.1,p):=fun c c1 c2=>by
   dsimp only at c1 c2 ⊢
   rw [Ir _ _ _ _ (by omega),if_pos (by omega)]
   exact Int.le_refl _
  refine ⟨by simp [i1],fun r hr=> ?_,List.pairwise_cons.2 ⟨fun r hr=>i4 _ hin hun r hr,i3⟩,fun o ho hu r hr=> ?_⟩
  ·rcases List.mem_cons.1 hr with rfl|hr
   ·exact hin
   ·exact i2 r hr
  ·rcases List.mem_cons.1 hr with rfl|hr
   ·
    by_cases c1:o.1+o.2.2.1<=(fk s p h).1
    ·exact .inl c1
    by_cases c2:(fk s p h).1+p.1<=o.1
    ·exact .inr (.inl c2)
    refine .inr (.inr (.inl ?_))
    obtain ⟨⟨o1,o2⟩,⟨o3,o4⟩,o5,o6⟩:=ho
    let c:Nat:=(if o.1<=(fk s p h).1 then (fk s p h).1 else o.1).toNat
    have hc:o.1<=c/\ (c:Int)<o.1+o.2.2.1/\ (fk s p h).1<=c/\ (c:Int)<(fk s p h).1+p.1:=by
     show o.1<=(((if o.1<=(fk s p h).1 then (fk s p h).1 else o.1).toNat:Nat):Int)/\ (((if o.1<=(fk s p h).1 then (fk s p h).1 else o.1).toNat:Nat):Int)<o.1+o.2.2.1/\ (fk s p h).1<=(((if o.1<=(fk s p h).1 then (fk s p h).1 else o.1).toNat:Nat):Int)/\ (((if o.1<=(fk s p h).1 then (fk s p h).1 else o.1).toNat:Nat):Int)<(fk s p h).1+p.1
     split<;>omega
    have hu':=hu c hc.1 hc.2.1
    have:=ac0 (hs.sky hw hh) (w:=p.1.toNat) (x:=(fk s p h).1.toNat) (c:=c) (by omega) (by omega) ⟨by omega,by omega⟩
    show o.2.1+o.2.2.2<=(fk s p h).2.1
    omega
   ·refine i4 o ho (fun c c1 c2=> ?_) r hr
    rw [Ir _ _ _ _ (by omega)]
    have hu':=hu c c1 c2
    split
    ·rename_i hc
     have:=ac0 (hs.sky hw hh) (w:=p.1.toNat) (x:=(fk s p h).1.toNat) (c:=c) (by omega) (by omega) ⟨by omega,by omega⟩
     omega
    ·exact hu'
theorem wrap64 {n:Int} (h1:0<=n) (h2:n<18446744073709551616):IntKind.wrap IntKind.u64 n=n:=by
 unfold IntKind.wrap
 simp [IntKind.bits,IntKind.signed]
 omega
theorem s6 {a n b:Int} (ha:0<=a) (hn:0<=n) (hb:0<=b) (ha2:a<1000) (Rx:n<1000) (iQ:b<1000):behind (a,n,b)=decide (a+n<=b):=by
 unfold behind
 dsimp only
 by_cases h:b>=a
 ·rw [if_pos h,wrap64 hb (by omega),wrap64 ha (by omega),wrap64 hn (by omega),wrap64 (by omega) (by omega),decide_eq_decide]
  omega
 ·rw [if_neg h];symm;exact decide_eq_false (by omega)
theorem Iw {w h:Int} (hw:kF w) (hh:kF h) {a b:vf} (ha:Mn w h a) (hb:Mn w h b):NL (a,b)=true↔JV a b:=by
 obtain ⟨⟨a1,a2⟩,⟨a3,a4⟩,a5,a6⟩:=ha
 obtain ⟨⟨b1,b2⟩,⟨b3,b4⟩,b5,b6⟩:=hb
 obtain ⟨_,w2⟩:=hw
 obtain ⟨_,h2⟩:=hh
 have n1: ¬a.2.2.1<=0:=by omega
 have n2: ¬a.2.2.2<=0:=by omega
 have n3: ¬b.2.2.1<=0:=by omega
 have n4: ¬b.2.2.2<=0:=by omega
 have k1:=s6 (a:=a.1) (n:=a.2.2.1) (b:=b.1) (by omega) (by omega) (by omega) (by omega) (by omega) (by omega)
 have k2:=s6 (a:=b.1) (n:=b.2.2.1) (b:=a.1) (by omega) (by omega) (by omega) (by omega) (by omega) (by omega)
 have k3:=s6 (a:=a.2.1) (n:=a.2.2.2) (b:=b.2.1) (by omega) (by omega) (by omega) (by omega) (by omega) (by omega)
 have k4:=s6 (a:=b.2.1) (n:=b.2.2.2) (b:=a.2.1) (by omega) (by omega) (by omega) (by omega) (by omega) (by omega)
 unfold NL Uy ai
 dsimp only
 rw [if_neg n1,if_neg n2,if_neg n3,if_neg n4,k1,k2,k3,k4]
 unfold JV
 simp only [decide_eq_true_eq]
 by_cases c1:a.1+a.2.2.1<=b.1
 ·simp [c1]
 ·by_cases c2:b.1+b.2.2.1≤a.1
  ·simp [c1,c2]
  ·by_cases c3:a.2.1+a.2.2.2≤b.2.1
   ·simp [c1,c2,c3]
   ·simp [c1,c2,c3]
theorem Jq (l:List vf) (hl:l.length<4611686018427387904) (r:vf):rA (l,r)/\ xb (l,r)=l.any fun o=>O6 (o,r):=by
 have h:=tA l hl (fun o=>O6 (o,r)) (iY (l,r)) (rI (l,r)) (fun i hi=>by
   unfold rI
   intro h
   simp only [Int.toNat_natCast]
   dsimp only at h ⊢;omega) (fun i x hx=>by
   have hlt:=cD hx
   unfold iY ai
   rw [if_pos (by dsimp only;omega),Int.toNat_natCast]
   dsimp only
   rw [iM hx]) (by
   unfold iY
   rw [if_neg (by dsimp only;omega)])
 refine ⟨h.1,?_⟩
 have e:RK (l,r)=_:=h.2
 unfold xb ai
 rw [e]
 exact Gw l _
def Mp (w h:Int) (l:List vf):Prop:= ∀i,i<l.length->Mn w h (l.getD i zR)/\ ∀k,k<i->JV (l.getD k zR) (l.getD i zR)
theorem aam {w h:Int} (hw:kF w) (hh:kF h) (l:List vf) (hl:l.length<4611686018427387904):IA (w,h,l)/\ (aal (w,h,l)=true↔Mp w h l):=by
 have key:TR (mb (w,h,l)) (q7 (w,h,l)) 0 fun r=>(r= .inl ()/\ ¬Mp w h l)\/ (r= .inr ()/\ Mp w h l):=by
  refine aZ l.length (fun i s=>s=(i:Int)/\ ∀j,j<i->Mn w h (l.getD j zR)/\ ∀k,k<j->JV (l.getD k zR) (l.getD j zR)) _ (fun i s hi hj=> ?_) (fun s hj=> ?_) ⟨rfl,fun j hj=>absurd hj (Nat.not_lt_zero _)⟩
  ·obtain ⟨e,hJ⟩:=hj
   subst e
   have Jv:(¬(Mn w h (l.getD i zR)/\ ∀k,k<i->JV (l.getD k zR) (l.getD i zR)))-> ¬Mp w h l:=fun q q'=>q (q' i hi)
   obtain ⟨c1,c2⟩:=Jq (l.take i) (by rw [List.length_take];omega) (l.getD i zR)
   have m1:=lG (l.getD i zR).2.2.1 (l.getD i zR).2.2.2
   have m2:=lG (l.getD i zR).1 (l.getD i zR).2.1
   have XC:=hw
   have CZ:=hh
   obtain ⟨w1,w2⟩:=hw
   obtain ⟨h1,h2⟩:=hh
   refine ⟨?_,?_⟩
   ·unfold q7
    intro _
    dsimp only
    rw [Int.toNat_natCast]
    exact ⟨by omega,hi,hi,fun _ _ _ _ _ _=>⟨by omega,c1⟩⟩
   ·unfold mb ai
    dsimp only
    rw [if_pos (by omega),Int.toNat_natCast]
    by_cases d1:bG (l.getD i zR).2.2.1 (l.getD i zR).2.2.2<1
    ·rw [if_pos d1]
     exact .inr ⟨_,rfl,.inl ⟨rfl,Jv fun q=>by have:=q.1.1;omega⟩⟩
    rw [if_neg d1]
    by_cases d2:bG (l.getD i zR).1 (l.getD i zR).2.1<0
    ·rw [if_pos d2]
     exact .inr ⟨_,rfl,.inl ⟨rfl,Jv fun q=>by have:=q.1.2.1;omega⟩⟩
    rw [if_neg d2]
    by_cases d3:(l.getD i zR).2.2.1>w
    ·rw [if_pos d3]
     exact .inr ⟨_,rfl,.inl ⟨rfl,Jv fun q=>by have:=q.1.2.2.1;have:=q.1.2.1;omega⟩⟩
    rw [if_neg d3]
    by_cases d4:(l.getD i zR).2.2.2>h
    ·rw [if_pos d4]
     exact .inr ⟨_,rfl,.inl ⟨rfl,Jv fun q=>by have:=q.1.2.2.2;have:=q.1.2.1;omega⟩⟩
    rw [if_neg d4,aR (n:=w- (l.getD i zR).2.2.1) (by omega) (by omega)]
    by_cases d5:(l.getD i zR).1>w- (l.getD i zR).2.2.1
    ·rw [if_pos d5]
     exact .inr ⟨_,rfl,.inl ⟨rfl,Jv fun q=>by have:=q.1.2.2.1;omega⟩⟩
    rw [if_neg d5,aR (n:=h- (l.getD i zR).2.2.2) (by omega) (by omega)]
    by_cases d6:(l.getD i zR).2.1>h- (l.getD i zR).2.2.2
    ·rw [if_pos d6]
     exact .inr ⟨_,rfl,.inl ⟨rfl,Jv fun q=>by have:=q.1.2.2.2;omega⟩⟩
    rw [if_neg d6,c2]
    have hin:Mn w h (l.getD i zR):=⟨⟨by omega,by omega⟩,⟨by omega,by omega⟩,by omega,by omega⟩
    have afF:((l.take i).any fun o=>O6 (o,l.getD i zR))=false↔ ∀k,k<i->JV (l.getD k zR) (l.getD i zR):=by
     rw [List.any_eq_false]
     constructor
     ·intro q k hk
      have hm:l.getD k zR∈l.take i:=by
       have:l.getD k zR=(l.take i).getD k zR:=by rw [List.getD_eq_getElem?_getD,List.getD_eq_getElem?_getD,List.getElem?_take,if_pos hk]
       rw [this];exact bZ (by rw [List.length_take];omega) _
      have:=q _ hm
      unfold O6 ai at this
      exact (Iw XC CZ (hJ k hk).1 hin).1 (by simpa using this)
     ·intro q o ho
      obtain ⟨k,hk,rfl⟩:=List.getElem_of_mem ho
      rw [List.length_take] at hk
      have e:(l.take i)[k]=l.getD k zR:=by
       rw [List.getElem_take,List.getD_eq_getElem?_getD,List.getElem?_eq_getElem (by omega)];rfl
      rw [e]
      unfold O6 ai
      rw [(Iw XC CZ (hJ k (by omega)).1 hin).2 (q k (by omega))];simp
    cases hc:(l.take i).any fun o=>O6 (o,l.getD i zR) with
    |true=>
     rw [if_pos rfl]
     refine .inr ⟨_,rfl,.inl ⟨rfl,Jv fun q=> ?_⟩⟩
     rw [afF.2 q.2] at hc;cases hc
    |false=>
     rw [if_neg (by decide)]
     refine .inl ⟨_,rfl,fJ hi hl,fun j hj=> ?_⟩
     rcases Nat.lt_or_ge j i with hji|hji
     ·exact hJ j hji
     ·have:j=i:=by omega
      subst this
      exact ⟨hin,afF.1 hc⟩
  ·obtain ⟨e,hJ⟩:=hj
   subst e
   refine ⟨?_,.inr (),?_,.inr ⟨rfl,hJ⟩⟩
   ·unfold q7
    intro q
    dsimp only at q;omega
   ·unfold mb
    rw [if_neg (by dsimp only;omega)]
 refine ⟨key.1,?_⟩
 unfold aal ai
 rcases key.2 with ⟨e,hn⟩|⟨e,hy⟩
 ·rw [e];exact ⟨fun q=>(by cases q),fun q=>absurd q hn⟩
 ·rw [e];exact ⟨fun _=>hy,fun _=>rfl⟩
end Go.Proofs.YtbjfokijjefoeaaGreat
