/- Code and functions, out of the condition 'codeE'. -/
import Derived.Test.YtfgdjlhilladhaaGreatEvG
import Derived.RangeFuncLeaves
import Derived.RangeFuncRecord
noncomputable section
set_option linter.unusedSectionVars false
set_option linter.unusedVariables false
set_option linter.unusedSimpArgs false
namespace Go.Ev
open Go.RowKit
def lb (aC:mY) (W:World) (ρ:Env) (Γ:HP) (w:World):mY:= {wr:=fun b=>LOb ρ Γ b\/ ((W.heap.size<=b\/ aC b)/\ bS w b),nw:=VR aC W}
theorem KU {fz pm:Nat->Prop} {ρ:Env} {n b:Nat} {o:aX} {w:World} (h:dF fz pm ρ n o w) (hb:(ρ n).bR=some b): ∀x,w.heap[b]? ≠some (.deferred x):=by
 intro x
 cases o with
 |cells cs e=>obtain ⟨b',hb',hh⟩:=h;rw [hb] at hb';cases hb';rw [hh];simp
 |row t l rk=>
  obtain ⟨_,_,_,sub,_,_,h3,h4⟩:=h
  by_cases e:rk=0
  ·rw [h3 e] at hb;cases hb
  ·rcases h4 e with ⟨h5,_⟩|⟨b',rest,e,h5,_,h6,_⟩
   ·rw [h5] at hb;cases hb
   ·rw [hb] at h5;cases h5;rw [h6];simp
 |alias m s q=>rw [h.1] at hb;cases hb
 |gone=>exact h.elim
 |loop r s j=>obtain ⟨b',hb',hh⟩:=h;rw [hb] at hb';cases hb';rw [hh];simp
 |ji tG n0=>rw [h.1] at hb;cases hb
 |bX S=>rw [show (ρ n).bR=none from h] at hb;cases hb
 |map ka va k v l=>obtain ⟨_,_,b',es,QS,hb',hh,_⟩:=h;rw [hb] at hb';cases hb';rw [hh];simp
 |Om ka k u l c q=>obtain ⟨_,_,_,b',es,QS,hb',hh,_⟩:=h;rw [hb] at hb';cases hb';rw [hh];simp
 |set m=>rw [h.1] at hb;cases hb
 |gv m c k u x l=>rw [h.1] at hb;cases hb
 |rc cs=>rw [h.1] at hb;cases hb
theorem Y1 {aC:mY} {W:World} {ρ:Env} {Kn:Nat->Prop} {Γ:HP} {w:World} (h:St aC W ρ Kn Γ w) {b:Nat} {x:Option (List Deferred)} (hb:w.heap[b]? =some (.deferred x)): ¬lb aC W ρ Γ w b:=by
 rintro (⟨m,h1,h2⟩|⟨_,cs,e,f,h2⟩)
 ·obtain ⟨o,ho⟩:=Option.isSome_iff_exists.1 h1
  rcases h.ala m b h1 h2 with h2|⟨cs,e,f,h2⟩
  ·exact KU (h.at_ m o ho) h2 _ hb
  ·rw [hb] at h2;cases h2
 ·rw [hb] at h2;cases h2
section
variable {aC:mY} {W:World} {ρ:Env} {Kn:Nat->Prop} {Γ:HP} {w:World}
theorem St.LC {N:Nat} (h:St aC W ρ Kn Γ w) (hN: ∀m o,Γ m=some o->m<N/\ o.ok (· <N)):St (lb aC W ρ Γ w) w ρ (· <N) Γ w:=
 ⟨Fr.refl _ _,fun n o ho=>dj (Kn:=(· <N)) (h.at_ n o ho) (fun _ _=>rfl) (hN n o ho).1 (hN n o ho).2 (fun _ hb=>⟨hb,rfl⟩) (fun b h1 h2=> .inr (.inr h2)) (fun _ _=>rfl),hN,h.qC,fun n b hn hb=> .inr (.inl ⟨n,hn,hb⟩),h.F5,h.Nl⟩
theorem aiL (h:St aC W ρ Kn Γ w) {b:Nat} (hb:lb aC W ρ Γ w b):W.heap.size<=b\/ aC b:=by
 rcases hb with ⟨m,h1,h2⟩|⟨h1,_⟩
 ·exact h.yb m b h1 h2
 ·exact h1
theorem GU.LC {X:Addr->Value->Prop} (hX:GU aC W X) (h:St aC W ρ Kn Γ w):GU (lb aC W ρ Γ w) w X:=fun a v hx=>by
 obtain ⟨h1,h2,_⟩:=hX a v hx
 refine ⟨Nat.lt_of_lt_of_le h1 h.fr.size,fun hm=> ?_,hX.cell h.fr hx⟩
 rcases aiL h hm with h5|h5
 ·omega
 ·exact h2 h5
theorem St.agb {ρ':Env} {SR:Nat->Prop} {AI:HP} {w':World} (h:St aC W ρ Kn Γ w) (h':St (lb aC W ρ Γ w) w ρ' SR AI w'):St aC W ρ' SR AI w':=by
 have hs:=h.fr.size
 have own: ∀b,lb aC W ρ Γ w b->W.heap.size<=b\/ aC b:=fun b hb=>aiL h hb
 have pm: ∀b,VR (lb aC W ρ Γ w) w b->VR aC W b:=fun b hb=>by
  rcases hb with h1|h1|h1
  ·exact .inl (by omega)
  ·exact (own b h1).imp_right .inl
  ·exact h1
 refine ⟨⟨h'.fr.os.trans h.fr.os,h'.fr.tape.trans h.fr.tape,h'.fr.output.trans h.fr.output,Nat.le_trans hs h'.fr.size,fun k hk hn=> ?_⟩,fun n o ho=> ?_,h'.kn,h'.qC,fun n b hn hb=>(h'.yb n b hn hb).elim (fun h1=> .inl (by omega)) (own b),h'.F5,h'.Nl⟩
 ·rw [h'.fr.block k (by omega) fun hm=>(own k hm).elim (fun h=>by omega) hn]
  exact h.fr.block k hk hn
 ·exact dj (Kn:=SR) (h'.at_ n o ho) (fun _ _=>rfl) (h'.kn n o ho).1 (h'.kn n o ho).2 (fun _ hb=>⟨hb,rfl⟩) (fun b _ h2=>pm b h2) fun _ _=>rfl
theorem St.put {l:Nat} {o:Obj} {AI:HP} (h:St aC W ρ Kn Γ w) (hl:W.heap.size<=l\/ aC l) (hc: ¬bS w l) (hs: ∀m p,AI m=some p->((ρ m).bR=some l-> ∀fz pm,dF fz pm ρ m p (w.putObj l o))/\ ((ρ m).bR≠some l->Γ m=some p)/\ (Γ m).isSome=true/\ Kn m/\ p.ok Kn):
  St aC W ρ Kn AI (w.putObj l o):=by
 have hsome: ∀n,(AI n).isSome=true->(Γ n).isSome=true:=fun n hn=>by
  obtain ⟨p,hp⟩:=Option.isSome_iff_exists.1 hn
  exact (hs n p hp).2.2.1
 have Kj: ∀b,HI AI b->HI Γ b:=fun b ⟨m,S,h1,h2⟩=>by
  refine ⟨m,S,(hs m _ h1).2.1 fun e=> ?_,h2⟩
  have:=(hs m _ h1).1 e (fun _=>True) (fun _=>True)
  rw [show (ρ m).bR=Option.none from this] at e;cases e
 have hfz: ∀b,lV ρ Γ w b->lV ρ AI (w.putObj l o) b/\ (w.putObj l o).heap[b]? =w.heap[b]? :=fun b hb=>by
  have hne:b≠l:=by rintro rfl;exact hc hb.1
  have e:(w.putObj l o).heap[b]? =w.heap[b]? :=World.putObj_heap_other hne
  refine ⟨⟨hb.1.same e,?_⟩,e⟩
  rintro (⟨m,h1,h2⟩|⟨m,S,h1,h2⟩)
  ·exact hb.2 (.inl ⟨m,hsome m h1,h2⟩)
  ·exact hb.2 (.inr (Kj b ⟨m,S,h1,h2⟩))
 refine ⟨⟨h.fr.os,h.fr.tape,h.fr.output,by rw [World.putObj_size];exact h.fr.size,fun k hk hn=> ?_⟩,fun n p hp=> ?_,fun n p hp=>(hs n p hp).2.2.2,fun n m b hn hm=>h.qC n m b (hsome n hn) (hsome m hm),fun n b hn=>h.yb n b (hsome n hn),fun b hh=> ?_,fun n p hp=> ?_⟩
 rotate_right
 ·by_cases e:(ρ n).bR=some l
  ·obtain ⟨p0,hp0⟩:=Option.isSome_iff_exists.1 (hs n p hp).2.2.1
   rcases h.Nl n p0 hp0 with ⟨g,rfl⟩|he
   ·rw [(h.at_ n _ hp0).1] at e;cases e
   ·exact .inr he
  ·exact h.Nl n p ((hs n p hp).2.1 e)
 rotate_right
 ·obtain ⟨h3,h4⟩:=h.F5 b (Kj b hh)
  exact ⟨by rw [World.putObj_size];exact h3,fun ⟨n,h5,h6⟩=>h4 ⟨n,hsome n h5,h6⟩⟩
 ·rw [World.putObj_heap_other (by rintro rfl;exact hl.elim (fun h=>by omega) hn)]
  exact h.fr.block k hk hn
 ·obtain ⟨h1,h2,_,h4,h5⟩:=hs n p hp
  by_cases e:(ρ n).bR=some l
  ·exact h1 e _ _
  ·exact dj (Kn:=Kn) (h.at_ n p (h2 e)) (fun _ _=>rfl) h4 h5 hfz (fun _ _ h=>h) fun b hb=>World.putObj_heap_other (by rintro rfl;exact (h.ala n _ (by rw [h2 e];rfl) hb).elim e hc)
end
def rW (D:Nat):Deferred:= {target:= .collected D,args:= #[]}
structure AtD (aC:mY) (W:World) (ds:List Nat) (st:AS) (ρ:Env) (a:Act) (w:World):Prop where
 nd:ds.Nodup
 dd: ∀D∈ds,W.heap.size<=D/\ w.heap[D]? =some (.deferred (some []))
 qi:ry aC W (ds.map rW) st ρ a w
def JF (aC:mY) (W:World) (st:AS) (ρ:Env) (a:Act) (w:World):Prop:= ∃ds,AtD aC W ds st ρ a w
section
variable {aC:mY} {W:World} {ds:List Nat} {st:AS} {ρ:Env} {a:Act} {w:World}
theorem AtD.base (h:AtD aC W ds st ρ a w):ry (lb aC W ρ (aA st.heap) w) w (ds.map rW) st ρ a w:=
 ⟨h.qi.tmps,h.qi.size,h.qi.defers,h.qi.kn,h.qi.st.LC fun m o ho=>⟨iX ho,(h.qi.st.kn m o ho).2⟩⟩
theorem AtD.back {st':AS} {ρ':Env} {a':Act} {w':World} (h:AtD aC W ds st ρ a w) (h':ry (lb aC W ρ (aA st.heap) w) w (ds.map rW) st' ρ' a' w'):AtD aC W ds st' ρ' a' w':=by
 refine ⟨h.nd,fun D hD=>⟨(h.dd D hD).1,?_⟩,⟨h'.tmps,h'.size,h'.defers,h'.kn,h.qi.st.agb h'.st⟩⟩
 have h1:=(h.dd D hD).2
 rw [h'.st.fr.block D (Array.getElem?_eq_some_iff.1 h1).1 (Y1 h.qi.st h1)]
 exact h1
theorem JF.weak (h:JF aC W st ρ a w) {st':AS} (hw:pN st st'): ∃ρ',JF aC W st' ρ' a w:=by
 obtain ⟨ds,h⟩:=h
 obtain ⟨ρ',h'⟩:=h.qi.weak hw
 exact ⟨ρ',ds,h.nd,h.dd,h'⟩
theorem JF.eval (h:JF aC W st ρ a w) (x:Operand) (hx:pK st.tmps x≠ .dead):a.eval x=(pK st.tmps x).af ρ:=by
 obtain ⟨ds,h⟩:=h
 exact h.qi.eval x hx
end
def Post (aC:mY) (W:World) (K:Exit->AS->Prop):Exit->Act->World->Prop:=
 fun e a w=> ∃st ρ,K e st/\ JF aC W st ρ a w
def uJ (P:Program) (ctx:Ctx):Code->Prop
 | .seq a b=>uJ P ctx a/\ uJ P ctx b
 | .cond _ a b=>uJ P ctx a/\ uJ P ctx b
 | .loop c=>uJ P ctx c
 | .rangeFunc _ _ a b=>uJ P ctx a/\ uJ P ctx b
 | .block id c=>match aJ ctx.lp id with
  |none=>uJ P ctx c
  |some sp=> ∀aC W ro n,GU aC W ctx.X->(ro=none\/ nc c=true)-> ∀st K,sp st K-> ∀ρ a w,JF aC W st ρ a w->(Code.block id c).wpIn (fw ro) n P (Post aC W K) a w
 |_=>True
section
variable {P:Program} {ctx:Ctx} {aC:mY} {W:World}
theorem JQ {ro:Option Nat} {n id:Nat} {c:Code} {K:Exit->AS->Prop} {a:Act} {w:World} (h:c.wpIn (fw ro) n P (Post aC W (jm id K)) a w):(Code.block id c).wpIn (fw ro) n P (Post aC W K) a w:=by
 refine wpIn_block (wpIn_mono h ?_)
 rintro e a' w' ⟨st',ρ',hk,mV⟩
 cases e with
 |exit id'=>
  simp only [Exit.inBlock]
  simp only [jm] at hk
  split at hk
  ·rename_i e;rw [if_pos e];exact ⟨st',ρ',hk,mV⟩
  ·rename_i e;rw [if_neg e];exact ⟨st',ρ',hk,mV⟩
 |_=>exact ⟨st',ρ',hk,mV⟩
def iB (K:Exit->AS->Prop) (e:Exit) (st:AS):Prop:= ∃st',pN st st'/\ K e st'
theorem abm {K:Exit->AS->Prop} {e:Exit} {a:Act} {w:World} (h:Post aC W (iB K) e a w):Post aC W K e a w:=by
 obtain ⟨st,ρ,⟨st',hw,hk⟩,bE⟩:=h
 obtain ⟨ρ',mV⟩:=bE.weak hw
 exact ⟨st',ρ',hk,mV⟩
theorem KD {o:Option aX} {r:Loop} {K:Prop} (h:YW o r K):o=some (.loop r .ready none)/\ K:=by
 unfold YW at h
 split at h
 ·obtain ⟨rfl,h⟩:=h;exact ⟨rfl,h⟩
 ·exact h.elim
theorem TB {o:Option aX} {r:Loop} {K:Prop} (h:WJ o r K):o=some (.loop r .busy none)/\ K:=by
 unfold WJ at h
 split at h
 ·obtain ⟨rfl,h⟩:=h;exact ⟨rfl,h⟩
 ·exact h.elim
theorem Eu: ∀(ts:List Nat) (l vs:List AV),(Et l ts vs).length=l.length
 | [],l,vs=>by cases vs<;>rfl
 |t::ts,l,[]=>rfl
 |t::ts,l,v::vs=>by simp [Et,Eu ts]
theorem LR (ρ:Env): ∀(ts:List Nat) (l vs:List AV) (tm:Array Value),tm.size=l.length->(∀t,dG l t≠ .dead->tm.getD t undef=(dG l t).af ρ)->
  ((ts.zip (vs.map (AV.af ρ))).foldl (fun (t:Array Value) p=>t.setIfInBounds p.1 p.2) tm).size=l.length/\
  ∀t,dG (Et l ts vs) t≠ .dead->((ts.zip (vs.map (AV.af ρ))).foldl (fun (t:Array Value) p=>t.setIfInBounds p.1 p.2) tm).getD t undef=(dG (Et l ts vs) t).af ρ
 | [],l,vs,tm,hs,h=>by cases vs<;>exact ⟨hs,h⟩
 |t::ts,l,[],tm,hs,h=>⟨hs,h⟩
 |t::ts,l,v::vs,tm,hs,h=>by
  simp only [Et,List.map_cons,List.zip_cons_cons,List.foldl_cons]
  have:=LR ρ ts (l.set t v) vs (tm.setIfInBounds t (v.af ρ)) (by simp [hs]) (fun u hu=>by
   rw [KT] at hu ⊢
   simp only [Array.getD_eq_getD_getElem?,Array.getElem?_setIfInBounds]
   by_cases e:t=u
   ·subst e
    by_cases h2:t<l.length
    ·simp [hs,h2]
    ·have h0:=h t (by simpa [h2] using hu)
     simp only [h2,and_false,if_false]
     rw [<- h0]
     simp [hs,h2,Array.getD_eq_getD_getElem?]
   ·have h0:=h u (by simpa [Ne.symm e] using hu)
    rw [if_neg e,if_neg (by rintro ⟨rfl,_⟩;exact e rfl),<- h0,Array.getD_eq_getD_getElem?])
  simpa using this
theorem U4 {Kn:Nat->Prop} : ∀(ts:List Nat) (l vs:List AV),(∀t,(dG l t).ok Kn)->(∀v∈vs,v.ok Kn)-> ∀t,(dG (Et l ts vs) t).ok Kn
 | [],l,vs,h,_=>by cases vs<;>exact h
 |t::ts,l,[],h,_=>h
 | t::ts,l,v::vs,h,hv=>U4 ts (l.set t v) vs (fun u=>by
   rw [KT];split
   ·exact hv v (by simp)
   ·exact h u) fun x hx=>hv x (by simp [hx])
theorem Ok (ps:Array Nat) (vs:List Value) (tm:Array Value):(ps.zip vs.toArray).foldl (fun (t:Array Value) (p:Nat×Value)=>t.setIfInBounds p.1 p.2) tm=(ps.toList.zip vs).foldl (fun t p=>t.setIfInBounds p.1 p.2) tm:=by
 rw [<- Array.foldl_toList];simp
end
end Go.Ev
