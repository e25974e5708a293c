/- Functions whose result is a deep row: the row and its slices lie in blocks that are nobody else's. -/
import Derived.Test.YtbjfokijjefoeaaGreatEvP
noncomputable section
set_option linter.unusedSectionVars false
set_option linter.unusedVariables false
set_option linter.unusedSimpArgs false
namespace Go.Ev
open Go.RowKit
def XG (sub:Nat->Option Addr×Nat):Nat->List ck->List Nat
 |_,[]=> []
 |q,.flat _::r=>XG sub (q+1) r
 |q,.sl _ l::r=>(match l,(sub q).1 with
  |_::_,some a=> [a.block]
  |_,_=> [])++XG sub (q+1) r
theorem M7 {sub:Nat->Option Addr×Nat} {b:Nat} : ∀ {cs:List ck} {q:Nat},b∈XG sub q cs-> ∃i u l' a,cs[i]? =some (.sl u l')/\ 0<l'.length/\ (sub (q+i)).1=some a/\ a.block=b
 | [],q,h=>by cases h
 | .flat _::r,q,h=>by
  obtain ⟨i,u,l',a,h1,h2,h3,h4⟩:=M7 (cs:=r) h
  exact ⟨i+1,u,l',a,by simpa using h1,h2,by rw [show q+(i+1)=q+1+i by omega];exact h3,h4⟩
 | .sl u l::r,q,h=>by
  simp only [XG,List.mem_append] at h
  rcases h with h|h
  ·split at h
   ·rename_i a0 r0 a ha
    exact ⟨0,u,a0::r0,a,rfl,by simp,ha,(List.mem_singleton.1 h).symm⟩
   ·cases h
  ·obtain ⟨i,u,l',a,h1,h2,h3,h4⟩:=M7 (cs:=r) h
   exact ⟨i+1,u,l',a,by simpa using h1,h2,by rw [show q+(i+1)=q+1+i by omega];exact h3,h4⟩
theorem R4 {sub:Nat->Option Addr×Nat} {u:Ty} {l':List u.T} {a:Addr} : ∀ {cs:List ck} {q i:Nat},cs[i]? =some (.sl u l')->0<l'.length->(sub (q+i)).1=some a->a.block∈XG sub q cs
 | [],q,i,h,_,_=>by simp at h
 | .flat _::r,q,0,h,_,_=>by simp at h
 | .flat _::r,q,i+1,h,h2,h3=>R4 (cs:=r) (i:=i) (by simpa using h) h2 (by rw [show q+1+i=q+(i+1) by omega];exact h3)
 | .sl u0 l0::r,q,0,h,h2,h3=>by
  simp only [List.getElem?_cons_zero,Option.some.injEq] at h
  cases h
  rw [Nat.add_zero] at h3
  simp only [XG,List.mem_append]
  left
  rw [h3]
  cases l' with
  |nil=>simp at h2
  |cons x y=>simp
 | .sl u0 l0::r,q,i+1,h,h2,h3=>by
  simp only [XG,List.mem_append]
  exact .inr (R4 (cs:=r) (i:=i) (by simpa using h) h2 (by rw [show q+1+i=q+(i+1) by omega];exact h3))
def unl:List Nat->List Nat
 | []=> []
 |x::r=>if x∈unl r then unl r else x::unl r
theorem xy {b:Nat} : ∀ {l:List Nat},b∈unl l↔b∈l
 | []=>Iff.rfl
 |x::r=>by
  unfold unl
  split
  ·rename_i h
   rw [xy,List.mem_cons]
   refine ⟨.inr,?_⟩
   rintro (rfl|h2)
   ·exact xy.1 h
   ·exact h2
  ·rw [List.mem_cons,List.mem_cons,xy]
theorem TA: ∀(l:List Nat),(unl l).Pairwise (· ≠ ·)
 | []=>List.Pairwise.nil
 |x::r=>by
  unfold unl
  split
  ·exact TA r
  ·rename_i h
   exact List.Pairwise.cons (fun y hy e=>h (e▸hy)) (TA r)
def cellsOf (w:World) (b:Nat):List Value:=match w.heap[b]? with
 |some (.cells cs _ _)=>cs.toList
 |_=> []
def Dt (w:World) (b:Nat):sZ:=⟨⟨.bool,false⟩,some b,some ⟨b,0,Option.none⟩,0,1,(cellsOf w b).length,cellsOf w b⟩
theorem Xw {w:World} {b:Nat} (hc:bA w b) (hu:Mi w b):Dx w (Dt w b):=by
 obtain ⟨cs,e,f,h⟩:=hc
 obtain rfl:=hu cs e f h
 have e1:cellsOf w b=cs.toList:=by unfold cellsOf;rw [h]
 exact .inr ⟨b,[],e,rfl,rfl,by simp only [Dt,e1,List.append_nil,Array.toArray_toList];exact h,Nat.zero_le _,by simp [Dt],(by decide:(1:Nat)<=9223372036854775807)⟩
theorem Jj {w:World} {B:List Nat} {b i:Nat} {v:Value} (hb:b∈B) (hv:w.cell? ⟨b,i,Option.none⟩=some v):jF (B.map (Dt w)) ⟨b,i,Option.none⟩ v:=by
 refine ⟨Dt w b,b,i,List.mem_map_of_mem hb,rfl,rfl,?_⟩
 show (cellsOf w b)[i]? =some v
 unfold World.cell? at hv
 unfold cellsOf
 dsimp only at hv
 split at hv
 ·rename_i cs e f h
  rw [h]
  simpa using hv
 ·cases hv
def Hw:Cell->Bool
 | .raw _=>true
 | .full _=>true
 |_=>false
def Si:A0->Bool
 | .one c=>Hw c
 | .agg l=>l.all Hw
def bl (x y:Loc):Prop:=x.base=y.base/\ x.len=y.len/\ x.cap=y.cap
theorem D5 {ρ ρ':Env} (h: ∀m,bl (ρ m) (ρ' m)): ∀c:Cell,Hw c=true->c.af ρ=c.af ρ'
 | .raw _,_=>rfl
 | .full n,_=>by
  obtain ⟨h1,h2,h3⟩:=h n
  simp only [Cell.af,h1,h2,h3]
theorem Ph {ρ ρ':Env} (h: ∀m,bl (ρ m) (ρ' m)): ∀a:A0,Si a=true->a.af ρ=a.af ρ'
 | .one c,ha=>D5 h c ha
 | .agg l,ha=>by
  simp only [A0.af]
  rw [List.map_congr_left fun c hc=>D5 h c (List.all_eq_true.1 ha c hc)]
theorem tf (rk:Nat): ∀(cs:List ck) (nm:Nat),∀c∈(cx rk nm cs).1,Hw c=true
 | [],nm,c,h=>by simp [cx] at h
 | .flat v::r,nm,c,h=>by
  simp only [cx,List.mem_cons] at h
  rcases h with rfl|h
  ·rfl
  ·exact tf rk r nm c h
 | .sl u l::r,nm,c,h=>by
  simp only [cx,List.mem_cons] at h
  rcases h with rfl|h
  ·rfl
  ·exact tf rk r (nm+1) c h
theorem Gn {a:Bool} {cs:List Cell} (h: ∀c∈cs,Hw c=true):Si (so a cs)=true:=by
 unfold so
 split
 ·split
  ·exact h _ (by simp)
  ·exact List.all_eq_true.2 h
 ·exact List.all_eq_true.2 h
theorem zj (rk:Nat): ∀(p:qw) (x:p.ty.T) (nm:Nat),p.res=true-> ∀a∈(aT rk nm p x).1,Si a=true
 | .one t,x,nm,_,a,h=>by
  simp only [aT,List.mem_singleton] at h
  subst h;exact Gn (tf rk _ nm)
 | .agg t,x,nm,_,a,h=>by
  simp only [aT,List.mem_singleton] at h
  subst h;exact Gn (tf rk _ nm)
 | .ptr t,x,nm,hr,a,h=>by cases hr
 | .mB f p,x,nm,hr,a,h=>by cases hr
 | .mv f agg t,x,nm,hr,a,h=>by cases hr
 | .pair a b,x,nm,hr,c,h=>by
  simp only [qw.res,Bool.and_eq_true] at hr
  simp only [aT,List.mem_append] at h
  rcases h with h|h
  ·exact zj rk a x.1 nm hr.1 c h
  ·exact zj rk b x.2 _ hr.2 c h
 | .none,x,nm,_,a,h=>by simp [aT] at h
def nj (v:AV) (os:List aI) (kk nm:Nat) (t:Ty) (l:List t.T) (st:Bool) (tc:List Nat):Rec:= {val:=v,fresh:=os.set kk (.dp t l (nm+os.length) st true)++ [.set (nm+kk)],aC:=tc}
theorem aft {ax:kz} {W:World} {ρ bu:Env} {Kn K1:Nat->Prop} {Γ yb:HP} {w w':World} {nm N kk:Nat} {os:List aI} {v:AV} {tc:List Nat} {t:Ty} {l:List t.T} {st:Bool} (h:St ax W ρ Kn Γ w) (hn: ∀i,i<os.length+1-> ¬Kn (nm+i))
  (h1:St KS w bu K1 yb w') (Jz: ∀i o,os[i]? =some o->yb (N+i)=some o) (hkk:os[kk]? =some (.row t l 2)) (hrow: ∀i o,i≠kk->os[i]? =some o-> ∃u,∃l:List u.T,o= .row u l 2/\ u.flat=true):
  ∃ρ',(∀m,Kn m->ρ' m=ρ m)/\ (∀i,i<os.length->bl (ρ' (nm+i)) (bu (N+i)))/\ St ax W ρ' (jO Kn nm (nj v os kk nm t l st tc)) (bC (nj v os kk nm t l st tc) nm Γ) w':=by
 have hkl:kk<os.length:=(List.getElem?_eq_some_iff.1 hkk).1
 have hrl:(nj v os kk nm t l st tc).fresh.length=os.length+1:=by simp [nj]
 obtain ⟨o1,o2,o3,sub,m1,m2,_,m4⟩:=h1.at_ _ _ (Jz kk _ hkk)
 obtain ⟨B,rb,hB1,hB2,hB3,hB4⟩: ∃B:List Nat,∃rb,B.Pairwise (· ≠ ·)/\ (l≠ []->(bu (N+kk)).base=some ⟨rb,0,Option.none⟩/\ rb∈B/\ ∀b,b∈XG sub 0 (ak t l)->b≠rb)/\
   (∀b,b∈B->w.heap.size<=b/\ bA w' b/\ Mi w' b/\ ((bu (N+kk)).bq=some b\/ ¬LO bu yb b))/\ ∀b,b∈XG sub 0 (ak t l)->b∈B:=by
  have hnb: ∀b,b∈XG sub 0 (ak t l)->gW bu yb w' b/\ Fh KS w b/\ Mi w' b:=fun b hb=>by
   obtain ⟨i,u,l',a,g1,g2,g3,g4⟩:=M7 hb
   rw [Nat.zero_add] at g3
   obtain ⟨_,_,g5⟩:=m2 i u l' g1
   obtain ⟨a',g6,_,g7⟩:=g5 0 _ (List.getElem?_eq_getElem (by rw [bX];exact Nat.mul_pos g2 u.size_pos))
   rw [g3] at g6;cases g6
   rw [g4] at g7
   exact ⟨g7.1,(g7.2 rfl).1,(g7.2 rfl).2⟩
  have hge: ∀b,Fh KS w b->w.heap.size<=b:=fun b hb=>by
   rcases hb with h2|h2|h2
   ·exact h2
   ·exact h2.elim
   ·exact h2.elim
  rcases (m4 (by decide)).old (by decide) with ⟨_,h0,_⟩|⟨b,rest,e,hb,hbase,hh,_⟩
  ·subst h0
   exact ⟨[],0,List.Pairwise.nil,fun h=>absurd rfl h,fun b hb=>(by cases hb),fun b hb=>(by simp [ak,XG] at hb)⟩
  ·have hbn:w.heap.size≤b:=by
    rcases h1.own (N+kk) b (by rw [Jz kk _ hkk];rfl) hb with h2|h2
    ·exact h2
    ·exact h2.elim
   refine ⟨unl (b::XG sub 0 (ak t l)),b,TA _,fun _=>⟨hbase,xy.2 (by simp),fun b' hb' e=>(hnb b' hb').1.2 (.inl ⟨N+kk,by rw [Jz kk _ hkk];rfl,by rw [e];exact .inl hb⟩)⟩,fun b' hb'=> ?_,fun b' hb'=>xy.2 (by simp [hb'])⟩
   rcases List.mem_cons.1 (xy.1 hb') with rfl|hb'
   ·exact ⟨hbn,⟨_,_,_,hh⟩,Mi.of hh,.inl hb⟩
   ·obtain ⟨g1,g2,g3⟩:=hnb b' hb'
    exact ⟨hge b' g2,g1.1,g3,.inr g1.2⟩
 let X:Loc:= {bW:=B.map (Dt w')}
 have hX: ∀b,X.has b↔b∈B:=fun b=>by
  constructor
  ·rintro (h2|⟨e,h2,h3⟩)
   ·cases h2
   ·obtain ⟨b',hb',rfl⟩:=List.mem_map.1 h2
    cases h3;exact hb'
  ·exact fun hb=> .inr ⟨_,List.mem_map_of_mem hb,rfl⟩
 let ρ':Env:=fun m=>if nm<=m/\ m<nm+os.length then (if m=nm+kk then {bu (N+kk) with bq:=Option.none,bW:= []} else bu (N+(m- nm))) else if m=nm+os.length then X else ρ m
 have hold: ∀m,Kn m->ρ' m=ρ m:=fun m hm=>by
  simp only [ρ']
  rw [if_neg,if_neg]
  ·rintro rfl;exact hn os.length (by omega) hm
  ·rintro ⟨h2,h3⟩
   exact hn (m- nm) (by omega) (by rw [show nm+(m- nm)=m by omega];exact hm)
 have hnew: ∀i,i<os.length->i≠kk->ρ' (nm+i)=bu (N+i):=fun i hi hk=>by
  simp only [ρ']
  rw [if_pos (by omega),if_neg (by omega),show nm+i- nm=i by omega]
 have hdp:ρ' (nm+kk)= {bu (N+kk) with bq:=Option.none,bW:= []} :=by
  simp only [ρ']
  rw [if_pos (by omega),if_pos trivial]
 have iV:ρ' (nm+os.length)=X:=by
  simp only [ρ']
  rw [if_neg (by omega),if_pos trivial]
 generalize VS:nj v os kk nm t l st tc=rec at hrl ⊢
 have cj: ∀m o,bC rec nm Γ m=some o->(∃i u,∃l2:List u.T,m=nm+i/\ i<os.length/\ i≠kk/\ os[i]? =some o/\ o= .row u l2 2/\ u.flat=true)\/ (m=nm+kk/\ o= .dp t l (nm+os.length) st true)\/ (m=nm+os.length/\ o= .set (nm+kk))\/ (Γ m=some o/\ Kn m):=by
  intro m o ho
  subst VS
  simp only [bC,cf,nj] at ho
  split at ho
  ·rename_i hc
   simp only [List.length_append,List.length_set,List.length_singleton] at hc
   rw [List.getElem?_append] at ho
   split at ho
   ·rename_i hlt
    rw [List.length_set] at hlt
    rw [List.getElem?_set] at ho
    split at ho
    ·rename_i e
     cases ho
     exact .inr (.inl ⟨by omega,rfl⟩)
    ·rename_i e
     rw [List.getElem?_eq_getElem hlt] at ho
     obtain ⟨u,l2,e2,e3⟩:=hrow (m- nm) _ (fun e4=>e e4.symm) (List.getElem?_eq_getElem hlt)
     rw [e2] at ho
     cases ho
     exact .inl ⟨m- nm,u,l2,by omega,hlt,fun e4=>e e4.symm,by rw [List.getElem?_eq_getElem hlt,e2],rfl,e3⟩
   ·rename_i hlt
    rw [List.length_set] at hlt ho
    rw [show m- nm- os.length=0 by omega] at ho
    cases ho
    exact .inr (.inr (.inl ⟨by omega,rfl⟩))
  ·exact .inr (.inr (.inr ⟨ho,(h.kn m o ho).1⟩))
 have hf1: ∀b,b<w.heap.size->w'.heap[b]? =w.heap[b]? :=fun b hb=>h1.fr.block b hb id
 have hnb: ∀i b,(yb (N+i)).isSome=true->(bu (N+i)).has b->w.heap.size<=b:=fun i b hs hb=>by
  rcases h1.oF _ b hs hb with h2|h2
  ·exact h2
  ·exact h2.elim
 have hsome: ∀ {i:Nat} {o:aI},os[i]? =some o->(yb (N+i)).isSome=true:=fun ho=>by rw [Jz _ _ ho];rfl
 have mK: ∀m o b,Γ m=some o->(ρ m).has b->b<w.heap.size:=fun m o b ho hb=>h.lt m b (by rw [ho];rfl) hb
 have ahW: ∀b,¬(ρ' (nm+kk)).has b:=fun b hb=>by
  rw [hdp] at hb
  exact we ⟨rfl,rfl⟩ hb
 have YN: ∀m o b,bC rec nm Γ m=some o->(ρ' m).has b->(∃i,m=nm+i/\ i<os.length/\ i≠kk/\ (yb (N+i)).isSome=true/\ (bu (N+i)).has b/\ w.heap.size<=b)\/ (m=nm+os.length/\ b∈B/\ w.heap.size<=b)\/ (Kn m/\ Γ m=some o/\ (ρ m).has b/\ b<w.heap.size):=by
  intro m o b ho hb
  rcases cj m o ho with ⟨i,u,l2,rfl,hi,hk,hoi,_⟩|⟨rfl,_⟩|⟨rfl,_⟩|⟨hg,hk⟩
  ·rw [hnew i hi hk] at hb
   exact .inl ⟨i,rfl,hi,hk,hsome hoi,hb,hnb i b (hsome hoi) hb⟩
  ·exact absurd hb (ahW b)
  ·rw [iV] at hb
   have:=(hX b).1 hb
   exact .inr (.inl ⟨rfl,this,(hB3 b this).1⟩)
  ·rw [hold m hk] at hb
   exact .inr (.inr ⟨hk,hg,hb,mK m o b hg hb⟩)
 have yf: ∀b,HI (bC rec nm Γ) b->HI Γ b:=fun b ⟨m,S,h2,h3⟩=>by
  rcases cj m _ h2 with ⟨i,u,l2,_,_,_,_,e,_⟩|⟨_,e⟩|⟨_,e⟩|⟨hg,hk⟩
  ·cases e
  ·cases e
  ·cases e
  ·exact ⟨m,S,hg,h3⟩
 have hLO: ∀b,b<w.heap.size->LO ρ' (bC rec nm Γ) b->LO ρ Γ b:=by
  rintro b hb (⟨m,h2,h3⟩|h2)
  ·obtain ⟨o,ho⟩:=Option.isSome_iff_exists.1 h2
   rcases YN m o b ho h3 with ⟨_,_,_,_,_,_,h4⟩|⟨_,_,h4⟩|⟨hk,hg,h4,_⟩
   ·omega
   ·omega
   ·exact .inl ⟨m,by rw [hg];rfl,h4⟩
  ·exact .inr (yf b h2)
 have hsz:=h.fr.size
 have aea:=h1.fr.size
 have hfz: ∀b,gW ρ Γ w b->gW ρ' (bC rec nm Γ) w' b/\ w'.heap[b]? =w.heap[b]? :=fun b hb=>by
  have hlt:=hb.1.lt
  exact ⟨⟨hb.1.same (hf1 b hlt),fun hl=>hb.2 (hLO b hlt hl)⟩,hf1 b hlt⟩
 have hkR: ∀m:Nat,m<os.length+1->jO Kn nm rec (nm+m):=fun m hm=> .inr (by rw [hrl];omega)
 refine ⟨ρ',hold,fun i hi=> ?_,⟨h.fr.trans h1.fr.Nc,fun m o ho=> ?_,fun m o ho=> ?_,fun m m' b hm hm' gS iQ=> ?_,fun m b hm hb=> ?_,fun b hh=> ?_,fun m o ho=> ?_⟩⟩
 ·by_cases e:i=kk
  ·subst e;rw [hdp];exact ⟨rfl,rfl,rfl⟩
  ·rw [hnew i hi e];exact ⟨rfl,rfl,rfl⟩
 ·rcases cj m o ho with ⟨i,u,l2,rfl,hi,hk,hoi,rfl,Kr⟩|⟨rfl,rfl⟩|⟨rfl,rfl⟩|⟨hg,hk⟩
  ·obtain ⟨g1,g2,g3,sub',g4,g5,g6,g7⟩:=h1.at_ _ _ (Jz i _ hoi)
   rw [bh,hnew i hi hk]
   refine ⟨g1,g2,g3,sub',fun i x hi=> ?_,fun q u' l' hq=> ?_,g6,g7⟩
   ·obtain ⟨a,e1,e2,_⟩:=g4 i x hi
    exact ⟨a,e1,e2,fun h=>by cases h⟩
   ·obtain ⟨v,hv⟩:=dk Kr (List.mem_of_getElem? hq)
    cases hv
  ·rw [bh,hdp,iV]
   refine ⟨rfl,o1,o2,o3,sub,rb,fun hl=>(hB2 hl).1,fun i x hx=> ?_,fun q u l' hq=> ?_⟩
   ·have hl:l≠ []:=by rintro rfl;simp [ak,aD] at hx
    obtain ⟨a,e1,e2,_⟩:=m1 i x hx
    rw [(hB2 hl).1] at e1;cases e1
    rw [mF,Nat.zero_add] at e2
    exact Jj (hB2 hl).2.1 e2
   ·obtain ⟨g1,g2,g3⟩:=m2 q u l' hq
    refine ⟨g1,g2,fun i x hx=> ?_⟩
    obtain ⟨a,e1,e2,_⟩:=g3 i x hx
    have hpos:0<l'.length:=by
     have h2:=(List.getElem?_eq_some_iff.1 hx).1
     rw [bX] at h2
     rcases Nat.eq_zero_or_pos l'.length with h3|h3
     ·rw [h3,Nat.zero_mul] at h2;omega
     ·exact h3
    have hmem:=R4 (q:=0) hq hpos (by rw [Nat.zero_add];exact e1)
    have hl:l≠ []:=by rintro rfl;simp [ak] at hq
    refine ⟨a,x,e1,(hB2 hl).2.2 _ hmem,?_,fun _=>rfl⟩
    have hab:(a.add i).block=a.block:=dX a i
    have hsp:(a.add i).spot=Option.none:=by
     obtain ⟨cs,e,f,hc⟩:=bA.of e2
     unfold World.cell? at e2
     rw [hc] at e2
     dsimp only at e2
     cases hs:(a.add i).spot with
     |none=>rfl
     |some z=>simp [hs] at e2
    have hae:a.add i=⟨a.block,(a.add i).off,Option.none⟩:=by
     cases ha:a.add i with
     |mk b o s=>
      rw [ha] at hab hsp
      dsimp only at hab hsp
      rw [hab,hsp]
    rw [hae] at e2 ⊢
    exact Jj (hB4 _ hmem) e2
  ·rw [bh,iV]
   refine ⟨rfl,fun e he=> ?_,?_⟩
   ·obtain ⟨b,hb,rfl⟩:=List.mem_map.1 he
    obtain ⟨_,g2,g3,_⟩:=hB3 b hb
    exact Xw g2 g3
   ·refine List.pairwise_map.2 (hB1.imp fun hne b hb hb'=> ?_)
    cases hb;cases hb';exact hne rfl
  ·exact ct (Kn:=Kn) (h.at_ m o hg) hold hk (h.kn m o hg).2 hfz (fun _ _ h=>h) fun b hb=>hf1 b (mK m o b hg hb)
 ·rcases cj m o ho with ⟨i,u,l2,rfl,hi,hk,hoi,rfl,Kr⟩|⟨rfl,rfl⟩|⟨rfl,rfl⟩|⟨hg,hk⟩
  ·exact ⟨hkR i (by omega),trivial⟩
  ·exact ⟨hkR kk (by omega),hkR os.length (by omega)⟩
  ·exact ⟨hkR os.length (by omega),hkR kk (by omega)⟩
  ·exact ⟨.inl hk,aI.bg (fun _=> .inl) o (h.kn m o hg).2⟩
 ·obtain ⟨o,ho⟩:=Option.isSome_iff_exists.1 hm
  obtain ⟨o',yx⟩:=Option.isSome_iff_exists.1 hm'
  have hc: ∀i,i≠kk->(yb (N+i)).isSome=true->(bu (N+i)).has b->b∉B:=fun i hk hs hb hB=>by
   rcases (hB3 b hB).2.2.2 with h2|h2
   ·exact hk (by have:=h1.dK _ _ b hs (hsome hkk) hb (.inl h2);omega)
   ·exact h2 (.inl ⟨_,hs,hb⟩)
  rcases YN m o b ho gS with ⟨i,rfl,hi,hk,hs,g1,g2⟩|⟨rfl,g1,g2⟩|⟨hk,hg,g1,g2⟩<;>rcases YN m' o' b yx iQ with ⟨i',rfl,hi',hk',hs',g1',g2'⟩|⟨rfl,g1',g2'⟩|⟨hk',hg',g1',g2'⟩
  ·have:=h1.dK _ _ b hs hs' g1 g1'
   omega
  ·exact absurd g1' (hc i hk hs g1)
  ·omega
  ·exact absurd g1 (hc i' hk' hs' g1')
  ·rfl
  ·omega
  ·omega
  ·omega
  ·exact h.dK m m' b (by rw [hg];rfl) (by rw [hg'];rfl) g1 g1'
 ·obtain ⟨o,ho⟩:=Option.isSome_iff_exists.1 hm
  rcases YN m o b ho hb with ⟨_,_,_,_,_,_,g⟩|⟨_,_,g⟩|⟨_,hg,g,_⟩
  ·exact .inl (by omega)
  ·exact .inl (by omega)
  ·exact h.oF m b (by rw [hg];rfl) g
 ·obtain ⟨h2,h3⟩:=h.zo b (yf b hh)
  refine ⟨by omega,fun ⟨m,h4,h5⟩=> ?_⟩
  obtain ⟨o,ho⟩:=Option.isSome_iff_exists.1 h4
  rcases YN m o b ho h5 with ⟨_,_,_,_,_,_,g⟩|⟨_,_,g⟩|⟨_,hg,g,_⟩
  ·omega
  ·omega
  ·exact h3 ⟨m,by rw [hg];rfl,g⟩
 ·rcases cj m o ho with ⟨i,u,l2,rfl,hi,hk,hoi,rfl,Kr⟩|⟨rfl,rfl⟩|⟨rfl,rfl⟩|⟨hg,hk⟩
  ·rw [hnew i hi hk];exact h1.yl _ _ (Jz i _ hoi)
  ·rw [hdp];exact .inr rfl
  ·exact .inl ⟨_,rfl⟩
  ·rw [hold m hk];exact h.yl m o hg
def Gx:List aI->Nat->Bool
 | [],_=>true
 |o::r,0=>Gx r 999
 | .row u _ 2::r,k+1=>u.flat&&Gx r k
 |_::_,_+1=>false
theorem Ox: ∀ {os:List aI} {kk i:Nat} {o:aI},Gx os kk=true->os.length<900->i≠kk->os[i]? =some o-> ∃u,∃l:List u.T,o= .row u l 2/\ u.flat=true:=by
 intro os
 induction os with
 |nil=>intro kk i o _ _ _ h;simp at h
 |cons a r ih=>
  intro kk i o h hl hi ho
  simp only [List.length_cons] at hl
  cases kk with
  |zero=>
   cases i with
   |zero=>exact absurd rfl hi
   |succ i=>exact ih (kk:=999) (i:=i) h (by omega) (by have:=(List.getElem?_eq_some_iff.1 ho).1;simp at this;omega) (by simpa using ho)
  |succ kk=>
   unfold Gx at h
   split at h<;>try (cases h;done)
   ·rename_i e;cases e
   ·rename_i e1 e2;cases e1;cases e2
   ·rename_i u l r' k' e1 e2
    cases e1;cases e2
    simp only [Bool.and_eq_true] at h
    cases i with
    |zero=>
     simp only [List.getElem?_cons_zero,Option.some.injEq] at ho
     exact ⟨u,l,ho.symm,h.1⟩
    |succ i=>
     have h2:=h.2
     have NW:i≠kk:=fun e=>hi (by rw [e])
     exact ih h2 (by omega) NW (by simpa using ho)
def Am (s:cC) (kk:Nat) (st:Bool):Spec:=fun _ args hp nm k=>match oB hp s.p args with
 |some (x,[],tc,b)=>ob b (s.pre x/\ ∀y,y=s.f x->match aT 2 nm s.r y with
  |(as,os)=>match os[kk]? with
   |some (.row t l 2)=>if Gx os kk=true/\ os.length<900 then k (nj (jJ as) os kk nm t l st tc) else False
   |_=>False)
 |_=>False
theorem Oj {P:Program} {f:FuncId} {s:cC} {kk:Nat} {st:Bool} (hs:ah P f (aj s)) (hres:s.r.res=true) (hrt: ∀x,∃tc,oB (aq (gC s.p x)) s.p (gB s.p x)=some (x,[],tc,true)):ah P f (Am s kk st):=by
 intro X args hp nm k h
 unfold Am at h
 split at h
 rotate_left
 ·exact h.elim
 rename_i x tc b hd
 obtain ⟨rfl,hpre,hk⟩:=bn h
 have hk:=hk _ rfl
 clear h
 dsimp only at hk
 split at hk<;>try (exact hk.elim)
 rename_i t l hkk
 split at hk<;>try (exact hk.elim)
 rename_i hfl
 obtain ⟨as,e,hargs⟩:=sk s.p _ _ _ _ hd
 rw [List.append_nil] at e
 subst e
 refine ⟨_,⟨fun p eo=>absurd eo (by simp [nj]),?_⟩,hk⟩
 intro ax W ρ Kn Γ w _ _ ht hfr hst
 obtain ⟨xs,hg,hc⟩:=hargs ax W ρ Kn Γ w ht hst 0
 have hb:=St.begin hg
 have hcs:=hc (fun n=>xs.getD n {}) fun i y hy=>by simp [hy]
 obtain ⟨tc0,hd0⟩:=hrt x
 generalize hN:(gC s.p x).length=N at*
 obtain ⟨r,VP,rfl⟩:=hs iE (gB s.p x) (aq (gC s.p x)) N (fun r=>r= {val:=jJ (aT 2 N s.r (s.f x)).1,fresh:=(aT 2 N s.r (s.f x)).2,aC:=tc0}) (by
  unfold aj
  rw [hd0]
  exact ⟨hpre,fun y hy=>by rw [hy]⟩)
 have hN':(aT 0 0 s.p x).2.length=N:=hN
 rw [hN'] at hb
 have ea:(gB s.p x).map (AV.af fun n=>xs.getD n {})=args.map (AV.af ρ):=by
  rw [hcs];simp [gB,AV.af,Function.comp_def]
 have key:=VP.2 KS w (fun n=>xs.getD n {}) (· <N) (aq (gC s.p x)) w (iE.ok KS w) (fun y hy=>by
  obtain ⟨a,ha,rfl⟩:=List.mem_map.1 hy
  exact A0.bg (fun m hm=>by have:=hm.2;rw [hN'] at this;omega) a (jY 0 s.p x 0 a ha)) (fun _ _=>rfl) (fun i _=>by omega) hb
 rw [ea] at key
 refine key.mono ?_
 rintro e w' ⟨bu,rfl,_,_,tx⟩
 have AH:=fun d=>(gF 2 (ρ:=bu) (ρ':=fun m=>bu (m- d)) (d:=d) s.r (s.f x) 0 hres fun i _=>by simp).2
 have hl1:(aT 2 nm s.r (s.f x)).2=(aT 2 0 s.r (s.f x)).2:=by simpa using AH nm
 have tw:(aT 2 N s.r (s.f x)).2=(aT 2 0 s.r (s.f x)).2:=by simpa using AH N
 have OJ:=sq 2 s.r (s.f x) nm hres
 have hlen:(nj (jJ (aT 2 nm s.r (s.f x)).1) (aT 2 nm s.r (s.f x)).2 kk nm t l st tc).fresh.length=(aT 2 nm s.r (s.f x)).2.length+1:=by simp [nj]
 obtain ⟨ρ',r1,r2,r3⟩:=aft (v:=jJ (aT 2 nm s.r (s.f x)).1) (tc:=tc) (nm:=nm) (N:=N) (kk:=kk) (st:=st) hst (fun i hi=>hfr i (by rw [hlen];exact hi)) tx (fun i o ho=>by
   rw [hl1] at ho
   have hil:=(List.getElem?_eq_some_iff.1 ho).1
   obtain ⟨u,l2,e⟩:=OJ o (by rw [hl1];exact List.mem_of_getElem? ho)
   simp only [bC,tw]
   rw [if_pos (by omega),show N+i- N=i by omega,ho,e];rfl) hkk (fun i o hi ho=>Ox hfl.1 hfl.2 hi ho)
 refine ⟨ρ',?_,r1,?_,r3⟩
 ·congr 1
  let oN:Env:=fun m=>if nm<=m/\ m<nm+(aT 2 nm s.r (s.f x)).2.length then bu (N+(m- nm)) else ρ' m
  have h3: ∀m,bl (ρ' m) (oN m):=fun m=>by
   simp only [oN]
   split
   ·rename_i hm
    have:=r2 (m- nm) (by omega)
    rwa [show nm+(m- nm)=m by omega] at this
   ·exact ⟨rfl,rfl,rfl⟩
  have h4:(aT 2 nm s.r (s.f x)).1.map (A0.af oN)=(aT 2 0 s.r (s.f x)).1.map (A0.af fun m=>bu (N+m)):=by
   have:=(gF 2 (ρ:=fun m=>bu (N+m)) (ρ':=oN) (d:=nm) s.r (s.f x) 0 hres fun i hi=>by
    simp only [oN]
    rw [if_pos (by rw [hl1];omega),show 0+i+nm- nm=0+i by omega]).1
   rwa [Nat.zero_add] at this
  have h5:(aT 2 N s.r (s.f x)).1.map (A0.af bu)=(aT 2 0 s.r (s.f x)).1.map (A0.af fun m=>bu (N+m)):=by
   have:=(gF 2 (ρ:=fun m=>bu (N+m)) (ρ':=bu) (d:=N) s.r (s.f x) 0 hres fun i hi=>by
    rw [Nat.zero_add,Nat.add_comm N]).1
   rwa [Nat.zero_add] at this
  have h6:(aT 2 nm s.r (s.f x)).1.map (A0.af ρ')=(aT 2 nm s.r (s.f x)).1.map (A0.af oN):=List.map_congr_left fun a ha=>Ph h3 a (zj 2 s.r (s.f x) nm hres a ha)
  exact xV (by rw [h5,h6,h4])
 ·refine FM fun c hc=>A0.bg (fun m hm=> .inr ?_) c (jY 2 s.r (s.f x) nm c hc)
  rw [hlen];omega
end Go.Ev
