/- Code and functions, out of the condition 'codeE'. -/
import Derived.Test.YtngdehlpoomaiaaGreatEvG
import Derived.RangeFuncLeaves
import Derived.RangeFuncRecord
noncomputable section
set_option linter.unusedSectionVars false
set_option linter.unusedVariables false
set_option linter.unusedSimpArgs false
namespace Go.Ev
open Go.RowKit
def lb (av:fG) (W:World) (ρ:Env) (Γ:HP) (w:World):fG:= {wr:=fun b=>LOb ρ Γ b\/ ((W.heap.size<=b\/ av b)/\ bj w b),nw:=uk av W}
theorem L1 {fz pm:Nat->Prop} {ρ:Env} {n b:Nat} {o:aD} {w:World} (h:bp fz pm ρ n o w) (hb:(ρ n).blk=some b): ∀x,w.heap[b]? ≠some (.deferred x):=by
 intro x
 cases o with
 |cells cs e=>obtain ⟨b',hb',hh⟩:=h;rw [hb] at hb';cases hb';rw [hh];simp
 |row t l rk=>
  obtain ⟨_,_,_,sub,_,_,h3,h4⟩:=h
  by_cases e:rk=0
  ·rw [h3 e] at hb;cases hb
  ·rcases h4 e with ⟨h5,_⟩|⟨b',pre,rest,e,h5,_,h6,_⟩
   ·rw [h5] at hb;cases hb
   ·rw [hb] at h5;cases h5;rw [h6];simp
 |alias m s q=>rw [h.1] at hb;cases hb
 |gone=>exact h.elim
 |loop r s j=>obtain ⟨b',hb',hh⟩:=h;rw [hb] at hb';cases hb';rw [hh];simp
 |cg aW n0=>rw [h.1] at hb;cases hb
 |hide S=>rw [show (ρ n).blk=none from h] at hb;cases hb
 |map ka va k v l=>obtain ⟨_,_,b',es,pB,hb',hh,_⟩:=h;rw [hb] at hb';cases hb';rw [hh];simp
 |Pp ka k u l c q=>obtain ⟨_,_,_,b',es,pB,hb',hh,_⟩:=h;rw [hb] at hb';cases hb';rw [hh];simp
 |set m=>rw [h.1] at hb;cases hb
 |gv m c k u x l=>rw [h.1] at hb;cases hb
 |rc cs=>rw [h.1] at hb;cases hb
 |dp t l c st kn=>rw [h.1] at hb;cases hb
 |nv m c j q u=>rw [h.1] at hb;cases hb
 |hmap es pB=>obtain ⟨b',hb',hh⟩:=h;rw [hb] at hb';cases hb';rw [hh];simp
 |V2 m c es pB ka k u l cur=>obtain ⟨_,_,_,b',_,_,_,hb',hh,_⟩:=h;rw [hb] at hb';cases hb';rw [hh];simp
theorem acp {av:fG} {W:World} {ρ:Env} {Kn:Nat->Prop} {Γ:HP} {w:World} (h:St av W ρ Kn Γ w) {b:Nat} {x:Option (List Deferred)} (hb:w.heap[b]? =some (.deferred x)): ¬lb av W ρ Γ w b:=by
 rintro (⟨m,h1,h2⟩|⟨_,cs,e,f,h2⟩)
 ·obtain ⟨o,ho⟩:=Option.isSome_iff_exists.1 h1
  rcases h.arR m b h1 h2 with h2|⟨cs,e,f,h2⟩
  ·exact L1 (h.at_ m o ho) h2 _ hb
  ·rw [hb] at h2;cases h2
 ·rw [hb] at h2;cases h2
section
variable {av:fG} {W:World} {ρ:Env} {Kn:Nat->Prop} {Γ:HP} {w:World}
theorem St.v5 {N:Nat} (h:St av W ρ Kn Γ w) (hN: ∀m o,Γ m=some o->m<N/\ o.ok (· <N)):St (lb av W ρ Γ w) w ρ (· <N) Γ w:=
 ⟨Fr.refl _ _,fun n o ho=>cx (Kn:=(· <N)) (h.at_ n o ho) (fun _ _=>rfl) (hN n o ho).1 (hN n o ho).2 (fun _ hb=>⟨hb,rfl⟩) (fun b h1 h2=> .inr (.inr h2)) (fun _ _=>rfl),hN,h.dU,fun n b hn hb=> .inr (.inl ⟨n,hn,hb⟩),h.ru,h.wK⟩
theorem aou (h:St av W ρ Kn Γ w) {b:Nat} (hb:lb av W ρ Γ w b):W.heap.size<=b\/ av b:=by
 rcases hb with ⟨m,h1,h2⟩|⟨h1,_⟩
 ·exact h.lC m b h1 h2
 ·exact h1
theorem uR.v5 {X:Addr->Value->Prop} (hX:uR av W X) (h:St av W ρ Kn Γ w):uR (lb av W ρ Γ w) w X:=fun a v hx=>by
 obtain ⟨h1,h2,_⟩:=hX a v hx
 refine ⟨Nat.lt_of_lt_of_le h1 h.fr.size,fun hm=> ?_,hX.cell h.fr hx⟩
 rcases aou h hm with h5|h5
 ·omega
 ·exact h2 h5
theorem St.akz {ρ':Env} {UC:Nat->Prop} {AQ:HP} {w':World} (h:St av W ρ Kn Γ w) (h':St (lb av W ρ Γ w) w ρ' UC AQ w'):St av W ρ' UC AQ w':=by
 have hs:=h.fr.size
 have own: ∀b,lb av W ρ Γ w b->W.heap.size<=b\/ av b:=fun b hb=>aou h hb
 have pm: ∀b,uk (lb av W ρ Γ w) w b->uk av W b:=fun b hb=>by
  rcases hb with h1|h1|h1
  ·exact .inl (by omega)
  ·exact (own b h1).imp_right .inl
  ·exact h1
 refine ⟨⟨h'.fr.os.trans h.fr.os,h'.fr.tape.trans h.fr.tape,h'.fr.output.trans h.fr.output,Nat.le_trans hs h'.fr.size,fun k hk hn=> ?_,Nat.le_trans h.fr.Pd h'.fr.Pd⟩,fun n o ho=> ?_,h'.kn,h'.dU,fun n b hn hb=>(h'.lC n b hn hb).elim (fun h1=> .inl (by omega)) (own b),h'.ru,h'.wK⟩
 ·rw [h'.fr.block k (by omega) fun hm=>(own k hm).elim (fun h=>by omega) hn]
  exact h.fr.block k hk hn
 ·exact cx (Kn:=UC) (h'.at_ n o ho) (fun _ _=>rfl) (h'.kn n o ho).1 (h'.kn n o ho).2 (fun _ hb=>⟨hb,rfl⟩) (fun b _ h2=>pm b h2) fun _ _=>rfl
theorem St.put {l:Nat} {o:Obj} {AQ:HP} (h:St av W ρ Kn Γ w) (hl:W.heap.size<=l\/ av l) (hc: ¬bj w l) (hs: ∀m p,AQ m=some p->((ρ m).blk=some l-> ∀fz pm,bp fz pm ρ m p (w.putObj l o))/\ ((ρ m).blk≠some l->Γ m=some p)/\ (Γ m).isSome=true/\ Kn m/\ p.ok Kn):
  St av W ρ Kn AQ (w.putObj l o):=by
 have hsome: ∀n,(AQ n).isSome=true->(Γ n).isSome=true:=fun n hn=>by
  obtain ⟨p,hp⟩:=Option.isSome_iff_exists.1 hn
  exact (hs n p hp).2.2.1
 have z6: ∀b,HI AQ b->HI Γ b:=fun b ⟨m,S,h1,h2⟩=>by
  refine ⟨m,S,(hs m _ h1).2.1 fun e=> ?_,h2⟩
  have:=(hs m _ h1).1 e (fun _=>True) (fun _=>True)
  rw [show (ρ m).blk=Option.none from this] at e;cases e
 have hfz: ∀b,dV ρ Γ w b->dV ρ AQ (w.putObj l o) b/\ (w.putObj l o).heap[b]? =w.heap[b]? :=fun b hb=>by
  have hne:b≠l:=by rintro rfl;exact hc hb.1
  have e:(w.putObj l o).heap[b]? =w.heap[b]? :=World.putObj_heap_other hne
  refine ⟨⟨hb.1.same e,?_⟩,e⟩
  rintro (⟨m,h1,h2⟩|⟨m,S,h1,h2⟩)
  ·exact hb.2 (.inl ⟨m,hsome m h1,h2⟩)
  ·exact hb.2 (.inr (z6 b ⟨m,S,h1,h2⟩))
 refine ⟨⟨h.fr.os,h.fr.tape,h.fr.output,by rw [World.putObj_size];exact h.fr.size,fun k hk hn=> ?_,h.fr.Pd⟩,fun n p hp=> ?_,fun n p hp=>(hs n p hp).2.2.2,fun n m b hn hm=>h.dU n m b (hsome n hn) (hsome m hm),fun n b hn=>h.lC n b (hsome n hn),fun b hh=> ?_,fun n p hp=> ?_⟩
 rotate_right
 ·by_cases e:(ρ n).blk=some l
  ·obtain ⟨p0,hp0⟩:=Option.isSome_iff_exists.1 (hs n p hp).2.2.1
   rcases h.wK n p0 hp0 with ⟨g,rfl⟩|he
   ·rw [(h.at_ n _ hp0).1] at e;cases e
   ·exact .inr he
  ·exact h.wK n p ((hs n p hp).2.1 e)
 rotate_right
 ·obtain ⟨h3,h4⟩:=h.ru b (z6 b hh)
  exact ⟨by rw [World.putObj_size];exact h3,fun ⟨n,h5,h6⟩=>h4 ⟨n,hsome n h5,h6⟩⟩
 ·rw [World.putObj_heap_other (by rintro rfl;exact hl.elim (fun h=>by omega) hn)]
  exact h.fr.block k hk hn
 ·obtain ⟨h1,h2,_,h4,h5⟩:=hs n p hp
  by_cases e:(ρ n).blk=some l
  ·exact h1 e _ _
  ·exact cx (Kn:=Kn) (h.at_ n p (h2 e)) (fun _ _=>rfl) h4 h5 hfz (fun _ _ h=>h) fun b hb=>World.putObj_heap_other (by rintro rfl;exact (h.arR n _ (by rw [h2 e];rfl) hb).elim e hc)
end
@[reducible] def fG.z (av:fG):fG:= {wr:=av.wr,nw:=av.nw}
theorem St.z {av:fG} {W:World} {ρ:Env} {Kn:Nat->Prop} {Γ:HP} {w:World} (h:St av W ρ Kn Γ w):St av.z W ρ Kn Γ w:=
 ⟨⟨h.fr.os,h.fr.tape,h.fr.output,h.fr.size,h.fr.block,h.fr.Pd⟩,h.at_,h.kn,h.dU,h.lC,h.ru,h.wK⟩
theorem St.unz {av:fG} {W:World} {ρ:Env} {Kn:Nat->Prop} {Γ:HP} {w:World} (h:St av.z W ρ Kn Γ w):St av W ρ Kn Γ w:=
 ⟨⟨h.fr.os,h.fr.tape,h.fr.output,h.fr.size,h.fr.block,h.fr.Pd⟩,h.at_,h.kn,h.dU,h.lC,h.ru,h.wK⟩
theorem uR.z {av:fG} {W:World} {X:Addr->Value->Prop} (h:uR av W X):uR av.z W X:=h
def rY (D:Nat):Deferred:= {target:= .collected D,args:= #[]}
structure AtD (av:fG) (W:World) (ds:List Nat) (st:AS) (ρ:Env) (a:Act) (w:World):Prop where
 nd:ds.Nodup
 dd: ∀D∈ds,W.heap.size<=D/\ w.heap[D]? =some (.deferred (some []))
 aX:mF av W (ds.map rY++av.bd) st ρ a w
def Ki (av:fG) (W:World) (st:AS) (ρ:Env) (a:Act) (w:World):Prop:= ∃ds,AtD av W ds st ρ a w
section
variable {av:fG} {W:World} {ds:List Nat} {st:AS} {ρ:Env} {a:Act} {w:World}
theorem AtD.base (h:AtD av W ds st ρ a w):mF (lb av W ρ (ai st.heap) w) w (ds.map rY++av.bd) st ρ a w:=
 ⟨h.aX.tmps,h.aX.size,h.aX.defers,h.aX.kn,h.aX.st.v5 fun m o ho=>⟨e7 ho,(h.aX.st.kn m o ho).2⟩⟩
theorem AtD.back {st':AS} {ρ':Env} {a':Act} {w':World} (h:AtD av W ds st ρ a w) (h':mF (lb av W ρ (ai st.heap) w) w (ds.map rY++av.bd) st' ρ' a' w'):AtD av W ds st' ρ' a' w':=by
 refine ⟨h.nd,fun D hD=>⟨(h.dd D hD).1,?_⟩,⟨h'.tmps,h'.size,h'.defers,h'.kn,h.aX.st.akz h'.st⟩⟩
 have h1:=(h.dd D hD).2
 rw [h'.st.fr.block D (Array.getElem?_eq_some_iff.1 h1).1 (acp h.aX.st h1)]
 exact h1
theorem Ki.weak (h:Ki av W st ρ a w) {st':AS} (hw:uS st st'): ∃ρ',Ki av W st' ρ' a w:=by
 obtain ⟨ds,h⟩:=h
 obtain ⟨ρ',h'⟩:=h.aX.weak hw
 exact ⟨ρ',ds,h.nd,h.dd,h'⟩
theorem Ki.eval (h:Ki av W st ρ a w) (x:Operand) (hx:cE st.tmps x≠ .dead):a.eval x=(cE st.tmps x).ae ρ:=by
 obtain ⟨ds,h⟩:=h
 exact h.aX.eval x hx
end
def Post (av:fG) (W:World) (K:Exit->AS->Prop):Exit->Act->World->Prop:=
 fun e a w=> ∃st ρ,K e st/\ Ki av W st ρ a w
def tD (P:Program) (ctx:Ctx):Code->Prop
 | .seq a b=>tD P ctx a/\ tD P ctx b
 | .cond _ a b=>tD P ctx a/\ tD P ctx b
 | .loop c=>tD P ctx c
 | .rangeFunc _ _ a b=>tD P ctx a/\ tD P ctx b
 | .block id c=>match aL ctx.lp id with
  |none=>tD P ctx c
  |some sp=> ∀av W ro n,uR av W ctx.X->((ro=none/\ av.bd= [])\/ mZ c=true)-> ∀st K,sp st K-> ∀ρ a w,Ki av W st ρ a w->(Code.block id c).wpIn (fw ro) n P (Post av W K) a w
 |_=>True
section
variable {P:Program} {ctx:Ctx} {av:fG} {W:World}
theorem xg {ro:Option Nat} {n id:Nat} {c:Code} {K:Exit->AS->Prop} {a:Act} {w:World} (h:c.wpIn (fw ro) n P (Post av W (lA id K)) a w):(Code.block id c).wpIn (fw ro) n P (Post av W K) a w:=by
 refine wpIn_block (wpIn_mono h ?_)
 rintro e a' w' ⟨st',ρ',hk,dr⟩
 cases e with
 |exit id'=>
  simp only [Exit.inBlock]
  simp only [lA] at hk
  split at hk
  ·rename_i e;rw [if_pos e];exact ⟨st',ρ',hk,dr⟩
  ·rename_i e;rw [if_neg e];exact ⟨st',ρ',hk,dr⟩
 |_=>exact ⟨st',ρ',hk,dr⟩
def kN (K:Exit->AS->Prop) (e:Exit) (st:AS):Prop:= ∃st',uS st st'/\ K e st'
theorem afg {K:Exit->AS->Prop} {e:Exit} {a:Act} {w:World} (h:Post av W (kN K) e a w):Post av W K e a w:=by
 obtain ⟨st,ρ,⟨st',hw,hk⟩,aQ⟩:=h
 obtain ⟨ρ',dr⟩:=aQ.weak hw
 exact ⟨st',ρ',hk,dr⟩
theorem LI {o:Option aD} {r:Loop} {K:Prop} (h:acm o r K):o=some (.loop r .ready none)/\ K:=by
 unfold acm at h
 split at h
 ·obtain ⟨rfl,h⟩:=h;exact ⟨rfl,h⟩
 ·exact h.elim
theorem VW {o:Option aD} {r:Loop} {K:Prop} (h:ZH o r K):o=some (.loop r .busy none)/\ K:=by
 unfold ZH at h
 split at h
 ·obtain ⟨rfl,h⟩:=h;exact ⟨rfl,h⟩
 ·exact h.elim
theorem Em: ∀(ts:List Nat) (l vs:List AV),(El l ts vs).length=l.length
 | [],l,vs=>by cases vs<;>rfl
 |t::ts,l,[]=>rfl
 |t::ts,l,v::vs=>by simp [El,Em ts]
theorem ME (ρ:Env): ∀(ts:List Nat) (l vs:List AV) (tm:Array Value),tm.size=l.length->(∀t,bY l t≠ .dead->tm.getD t undef=(bY l t).ae ρ)->
  ((ts.zip (vs.map (AV.ae ρ))).foldl (fun (t:Array Value) p=>t.setIfInBounds p.1 p.2) tm).size=l.length/\
  ∀t,bY (El l ts vs) t≠ .dead->((ts.zip (vs.map (AV.ae ρ))).foldl (fun (t:Array Value) p=>t.setIfInBounds p.1 p.2) tm).getD t undef=(bY (El l ts vs) t).ae ρ
 | [],l,vs,tm,hs,h=>by cases vs<;>exact ⟨hs,h⟩
 |t::ts,l,[],tm,hs,h=>⟨hs,h⟩
 |t::ts,l,v::vs,tm,hs,h=>by
  simp only [El,List.map_cons,List.zip_cons_cons,List.foldl_cons]
  have:=ME ρ ts (l.set t v) vs (tm.setIfInBounds t (v.ae ρ)) (by simp [hs]) (fun u hu=>by
   rw [fu] at hu ⊢
   simp only [Array.getD_eq_getD_getElem?,Array.getElem?_setIfInBounds]
   by_cases e:t=u
   ·subst e
    by_cases h2:t<l.length
    ·simp [hs,h2]
    ·have h0:=h t (by simpa [h2] using hu)
     simp only [h2,and_false,if_false]
     rw [<- h0]
     simp [hs,h2,Array.getD_eq_getD_getElem?]
   ·have h0:=h u (by simpa [Ne.symm e] using hu)
    rw [if_neg e,if_neg (by rintro ⟨rfl,_⟩;exact e rfl),<- h0,Array.getD_eq_getD_getElem?])
  simpa using this
theorem Xl {Kn:Nat->Prop} : ∀(ts:List Nat) (l vs:List AV),(∀t,(bY l t).ok Kn)->(∀v∈vs,v.ok Kn)-> ∀t,(bY (El l ts vs) t).ok Kn
 | [],l,vs,h,_=>by cases vs<;>exact h
 |t::ts,l,[],h,_=>h
 | t::ts,l,v::vs,h,hv=>Xl ts (l.set t v) vs (fun u=>by
   rw [fu];split
   ·exact hv v (by simp)
   ·exact h u) fun x hx=>hv x (by simp [hx])
theorem Pj (ps:Array Nat) (vs:List Value) (tm:Array Value):(ps.zip vs.toArray).foldl (fun (t:Array Value) (p:Nat×Value)=>t.setIfInBounds p.1 p.2) tm=(ps.toList.zip vs).foldl (fun t p=>t.setIfInBounds p.1 p.2) tm:=by
 rw [<- Array.foldl_toList];simp
end
end Go.Ev
