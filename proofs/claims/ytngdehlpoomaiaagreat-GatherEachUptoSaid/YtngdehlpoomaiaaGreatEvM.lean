/- Code and functions, out of the condition 'codeE'. -/
import Derived.Test.YtngdehlpoomaiaaGreatEvG
import Derived.RangeFuncLeaves
import Derived.RangeFuncRecord
noncomputable section
set_option linter.unusedSectionVars false
set_option linter.unusedVariables false
set_option linter.unusedSimpArgs false
namespace Go.Ev
open Go.RowKit
def lb (au:eW) (W:World) (ρ:Env) (Γ:HP) (w:World):eW:= {wr:=fun b=>LOb ρ Γ b\/ ((W.heap.size<=b\/ au b)/\ bh w b),nw:=q8 au W}
theorem Gd {fz pm:Nat->Prop} {ρ:Env} {n b:Nat} {o:aG} {w:World} (h:bn fz pm ρ n o w) (hb:(ρ n).blk=some b): ∀x,w.heap[b]? ≠some (.deferred x):=by
 intro x
 cases o with
 |cells cs e=>obtain ⟨b',hb',hh⟩:=h;rw [hb] at hb';cases hb';rw [hh];simp
 |row t l rk=>
  obtain ⟨_,_,_,sub,_,_,h3,h4⟩:=h
  by_cases e:rk=0
  ·rw [h3 e] at hb;cases hb
  ·rcases h4 e with ⟨h5,_⟩|⟨b',pre,rest,e,h5,_,h6,_⟩
   ·rw [h5] at hb;cases hb
   ·rw [hb] at h5;cases h5;rw [h6];simp
 |alias m s q=>rw [h.1] at hb;cases hb
 |gone=>exact h.elim
 |loop r s j=>obtain ⟨b',hb',hh⟩:=h;rw [hb] at hb';cases hb';rw [hh];simp
 |bT aV n0=>rw [h.1] at hb;cases hb
 |hide S=>rw [show (ρ n).blk=none from h] at hb;cases hb
 |map ka va k v l=>obtain ⟨_,_,b',es,mY,hb',hh,_⟩:=h;rw [hb] at hb';cases hb';rw [hh];simp
 |Jp ka k u l c q=>obtain ⟨_,_,_,b',es,mY,hb',hh,_⟩:=h;rw [hb] at hb';cases hb';rw [hh];simp
 |set m=>rw [h.1] at hb;cases hb
 |gv m c k u x l=>rw [h.1] at hb;cases hb
 |rc cs=>rw [h.1] at hb;cases hb
 |dp t l c st kn=>rw [h.1] at hb;cases hb
 |nv m c j q u=>rw [h.1] at hb;cases hb
 |hmap es mY=>obtain ⟨b',hb',hh⟩:=h;rw [hb] at hb';cases hb';rw [hh];simp
 |OP m c es mY ka k u l cur=>obtain ⟨_,_,_,b',_,_,_,hb',hh,_⟩:=h;rw [hb] at hb';cases hb';rw [hh];simp
theorem Ua {au:eW} {W:World} {ρ:Env} {Kn:Nat->Prop} {Γ:HP} {w:World} (h:St au W ρ Kn Γ w) {b:Nat} {x:Option (List Deferred)} (hb:w.heap[b]? =some (.deferred x)): ¬lb au W ρ Γ w b:=by
 rintro (⟨m,h1,h2⟩|⟨_,cs,e,f,h2⟩)
 ·obtain ⟨o,ho⟩:=Option.isSome_iff_exists.1 h1
  rcases h.ajn m b h1 h2 with h2|⟨cs,e,f,h2⟩
  ·exact Gd (h.at_ m o ho) h2 _ hb
  ·rw [hb] at h2;cases h2
 ·rw [hb] at h2;cases h2
section
variable {au:eW} {W:World} {ρ:Env} {Kn:Nat->Prop} {Γ:HP} {w:World}
theorem St.sI {N:Nat} (h:St au W ρ Kn Γ w) (hN: ∀m o,Γ m=some o->m<N/\ o.ok (· <N)):St (lb au W ρ Γ w) w ρ (· <N) Γ w:=
 ⟨Fr.refl _ _,fun n o ho=>ck (Kn:=(· <N)) (h.at_ n o ho) (fun _ _=>rfl) (hN n o ho).1 (hN n o ho).2 (fun _ hb=>⟨hb,rfl⟩) (fun b h1 h2=> .inr (.inr h2)) (fun _ _=>rfl),hN,h.dz,fun n b hn hb=> .inr (.inl ⟨n,hn,hb⟩),h.oX,h.tg⟩
theorem af1 (h:St au W ρ Kn Γ w) {b:Nat} (hb:lb au W ρ Γ w b):W.heap.size<=b\/ au b:=by
 rcases hb with ⟨m,h1,h2⟩|⟨h1,_⟩
 ·exact h.jP m b h1 h2
 ·exact h1
theorem rD.sI {X:Addr->Value->Prop} (hX:rD au W X) (h:St au W ρ Kn Γ w):rD (lb au W ρ Γ w) w X:=fun a v hx=>by
 obtain ⟨h1,h2,_⟩:=hX a v hx
 refine ⟨Nat.lt_of_lt_of_le h1 h.fr.size,fun hm=> ?_,hX.cell h.fr hx⟩
 rcases af1 h hm with h5|h5
 ·omega
 ·exact h2 h5
theorem St.abZ {ρ':Env} {Nb:Nat->Prop} {w9:HP} {w':World} (h:St au W ρ Kn Γ w) (h':St (lb au W ρ Γ w) w ρ' Nb w9 w'):St au W ρ' Nb w9 w':=by
 have hs:=h.fr.size
 have own: ∀b,lb au W ρ Γ w b->W.heap.size<=b\/ au b:=fun b hb=>af1 h hb
 have pm: ∀b,q8 (lb au W ρ Γ w) w b->q8 au W b:=fun b hb=>by
  rcases hb with h1|h1|h1
  ·exact .inl (by omega)
  ·exact (own b h1).imp_right .inl
  ·exact h1
 refine ⟨⟨h'.fr.os.trans h.fr.os,h'.fr.tape.trans h.fr.tape,h'.fr.output.trans h.fr.output,Nat.le_trans hs h'.fr.size,fun k hk hn=> ?_,Nat.le_trans h.fr.Ji h'.fr.Ji⟩,fun n o ho=> ?_,h'.kn,h'.dz,fun n b hn hb=>(h'.jP n b hn hb).elim (fun h1=> .inl (by omega)) (own b),h'.oX,h'.tg⟩
 ·rw [h'.fr.block k (by omega) fun hm=>(own k hm).elim (fun h=>by omega) hn]
  exact h.fr.block k hk hn
 ·exact ck (Kn:=Nb) (h'.at_ n o ho) (fun _ _=>rfl) (h'.kn n o ho).1 (h'.kn n o ho).2 (fun _ hb=>⟨hb,rfl⟩) (fun b _ h2=>pm b h2) fun _ _=>rfl
theorem St.put {l:Nat} {o:Obj} {w9:HP} (h:St au W ρ Kn Γ w) (hl:W.heap.size<=l\/ au l) (hc: ¬bh w l) (hs: ∀m p,w9 m=some p->((ρ m).blk=some l-> ∀fz pm,bn fz pm ρ m p (w.putObj l o))/\ ((ρ m).blk≠some l->Γ m=some p)/\ (Γ m).isSome=true/\ Kn m/\ p.ok Kn):
  St au W ρ Kn w9 (w.putObj l o):=by
 have hsome: ∀n,(w9 n).isSome=true->(Γ n).isSome=true:=fun n hn=>by
  obtain ⟨p,hp⟩:=Option.isSome_iff_exists.1 hn
  exact (hs n p hp).2.2.1
 have wu: ∀b,HI w9 b->HI Γ b:=fun b ⟨m,S,h1,h2⟩=>by
  refine ⟨m,S,(hs m _ h1).2.1 fun e=> ?_,h2⟩
  have:=(hs m _ h1).1 e (fun _=>True) (fun _=>True)
  rw [show (ρ m).blk=Option.none from this] at e;cases e
 have hfz: ∀b,dA ρ Γ w b->dA ρ w9 (w.putObj l o) b/\ (w.putObj l o).heap[b]? =w.heap[b]? :=fun b hb=>by
  have hne:b≠l:=by rintro rfl;exact hc hb.1
  have e:(w.putObj l o).heap[b]? =w.heap[b]? :=World.putObj_heap_other hne
  refine ⟨⟨hb.1.same e,?_⟩,e⟩
  rintro (⟨m,h1,h2⟩|⟨m,S,h1,h2⟩)
  ·exact hb.2 (.inl ⟨m,hsome m h1,h2⟩)
  ·exact hb.2 (.inr (wu b ⟨m,S,h1,h2⟩))
 refine ⟨⟨h.fr.os,h.fr.tape,h.fr.output,by rw [World.putObj_size];exact h.fr.size,fun k hk hn=> ?_,h.fr.Ji⟩,fun n p hp=> ?_,fun n p hp=>(hs n p hp).2.2.2,fun n m b hn hm=>h.dz n m b (hsome n hn) (hsome m hm),fun n b hn=>h.jP n b (hsome n hn),fun b hh=> ?_,fun n p hp=> ?_⟩
 rotate_right
 ·by_cases e:(ρ n).blk=some l
  ·obtain ⟨p0,hp0⟩:=Option.isSome_iff_exists.1 (hs n p hp).2.2.1
   rcases h.tg n p0 hp0 with ⟨g,rfl⟩|he
   ·rw [(h.at_ n _ hp0).1] at e;cases e
   ·exact .inr he
  ·exact h.tg n p ((hs n p hp).2.1 e)
 rotate_right
 ·obtain ⟨h3,h4⟩:=h.oX b (wu b hh)
  exact ⟨by rw [World.putObj_size];exact h3,fun ⟨n,h5,h6⟩=>h4 ⟨n,hsome n h5,h6⟩⟩
 ·rw [World.putObj_heap_other (by rintro rfl;exact hl.elim (fun h=>by omega) hn)]
  exact h.fr.block k hk hn
 ·obtain ⟨h1,h2,_,h4,h5⟩:=hs n p hp
  by_cases e:(ρ n).blk=some l
  ·exact h1 e _ _
  ·exact ck (Kn:=Kn) (h.at_ n p (h2 e)) (fun _ _=>rfl) h4 h5 hfz (fun _ _ h=>h) fun b hb=>World.putObj_heap_other (by rintro rfl;exact (h.ajn n _ (by rw [h2 e];rfl) hb).elim e hc)
end
@[reducible] def eW.z (au:eW):eW:= {wr:=au.wr,nw:=au.nw}
theorem St.z {au:eW} {W:World} {ρ:Env} {Kn:Nat->Prop} {Γ:HP} {w:World} (h:St au W ρ Kn Γ w):St au.z W ρ Kn Γ w:=
 ⟨⟨h.fr.os,h.fr.tape,h.fr.output,h.fr.size,h.fr.block,h.fr.Ji⟩,h.at_,h.kn,h.dz,h.jP,h.oX,h.tg⟩
theorem St.unz {au:eW} {W:World} {ρ:Env} {Kn:Nat->Prop} {Γ:HP} {w:World} (h:St au.z W ρ Kn Γ w):St au W ρ Kn Γ w:=
 ⟨⟨h.fr.os,h.fr.tape,h.fr.output,h.fr.size,h.fr.block,h.fr.Ji⟩,h.at_,h.kn,h.dz,h.jP,h.oX,h.tg⟩
theorem rD.z {au:eW} {W:World} {X:Addr->Value->Prop} (h:rD au W X):rD au.z W X:=h
def pV (D:Nat):Deferred:= {target:= .collected D,args:= #[]}
structure AtD (au:eW) (W:World) (ds:List Nat) (st:AS) (ρ:Env) (a:Act) (w:World):Prop where
 nd:ds.Nodup
 dd: ∀D∈ds,W.heap.size<=D/\ w.heap[D]? =some (.deferred (some []))
 bz:kJ au W (ds.map pV++au.bd) st ρ a w
def Et (au:eW) (W:World) (st:AS) (ρ:Env) (a:Act) (w:World):Prop:= ∃ds,AtD au W ds st ρ a w
section
variable {au:eW} {W:World} {ds:List Nat} {st:AS} {ρ:Env} {a:Act} {w:World}
theorem AtD.base (h:AtD au W ds st ρ a w):kJ (lb au W ρ (aj st.heap) w) w (ds.map pV++au.bd) st ρ a w:=
 ⟨h.bz.tmps,h.bz.size,h.bz.defers,h.bz.kn,h.bz.st.sI fun m o ho=>⟨eu ho,(h.bz.st.kn m o ho).2⟩⟩
theorem AtD.back {st':AS} {ρ':Env} {a':Act} {w':World} (h:AtD au W ds st ρ a w) (h':kJ (lb au W ρ (aj st.heap) w) w (ds.map pV++au.bd) st' ρ' a' w'):AtD au W ds st' ρ' a' w':=by
 refine ⟨h.nd,fun D hD=>⟨(h.dd D hD).1,?_⟩,⟨h'.tmps,h'.size,h'.defers,h'.kn,h.bz.st.abZ h'.st⟩⟩
 have h1:=(h.dd D hD).2
 rw [h'.st.fr.block D (Array.getElem?_eq_some_iff.1 h1).1 (Ua h.bz.st h1)]
 exact h1
theorem Et.weak (h:Et au W st ρ a w) {st':AS} (hw:rF st st'): ∃ρ',Et au W st' ρ' a w:=by
 obtain ⟨ds,h⟩:=h
 obtain ⟨ρ',h'⟩:=h.bz.weak hw
 exact ⟨ρ',ds,h.nd,h.dd,h'⟩
theorem Et.eval (h:Et au W st ρ a w) (x:Operand) (hx:cr st.tmps x≠ .dead):a.eval x=(cr st.tmps x).ae ρ:=by
 obtain ⟨ds,h⟩:=h
 exact h.bz.eval x hx
end
def Post (au:eW) (W:World) (K:Exit->AS->Prop):Exit->Act->World->Prop:=
 fun e a w=> ∃st ρ,K e st/\ Et au W st ρ a w
def qG (P:Program) (ctx:Ctx):Code->Prop
 | .seq a b=>qG P ctx a/\ qG P ctx b
 | .cond _ a b=>qG P ctx a/\ qG P ctx b
 | .loop c=>qG P ctx c
 | .rangeFunc _ _ a b=>qG P ctx a/\ qG P ctx b
 | .block id c=>match aJ ctx.lp id with
  |none=>qG P ctx c
  |some sp=> ∀au W ro n,rD au W ctx.X->((ro=none/\ au.bd= [])\/ lA c=true)-> ∀st K,sp st K-> ∀ρ a w,Et au W st ρ a w->(Code.block id c).wpIn (fw ro) n P (Post au W K) a w
 |_=>True
section
variable {P:Program} {ctx:Ctx} {au:eW} {W:World}
theorem tM {ro:Option Nat} {n id:Nat} {c:Code} {K:Exit->AS->Prop} {a:Act} {w:World} (h:c.wpIn (fw ro) n P (Post au W (jN id K)) a w):(Code.block id c).wpIn (fw ro) n P (Post au W K) a w:=by
 refine wpIn_block (wpIn_mono h ?_)
 rintro e a' w' ⟨st',ρ',hk,cW⟩
 cases e with
 |exit id'=>
  simp only [Exit.inBlock]
  simp only [jN] at hk
  split at hk
  ·rename_i e;rw [if_pos e];exact ⟨st',ρ',hk,cW⟩
  ·rename_i e;rw [if_neg e];exact ⟨st',ρ',hk,cW⟩
 |_=>exact ⟨st',ρ',hk,cW⟩
def jy (K:Exit->AS->Prop) (e:Exit) (st:AS):Prop:= ∃st',rF st st'/\ K e st'
theorem Xd {K:Exit->AS->Prop} {e:Exit} {a:Act} {w:World} (h:Post au W (jy K) e a w):Post au W K e a w:=by
 obtain ⟨st,ρ,⟨st',hw,hk⟩,aO⟩:=h
 obtain ⟨ρ',cW⟩:=aO.weak hw
 exact ⟨st',ρ',hk,cW⟩
theorem FW {o:Option aG} {r:Loop} {K:Prop} (h:T6 o r K):o=some (.loop r .ready none)/\ K:=by
 unfold T6 at h
 split at h
 ·obtain ⟨rfl,h⟩:=h;exact ⟨rfl,h⟩
 ·exact h.elim
theorem OG {o:Option aG} {r:Loop} {K:Prop} (h:R3 o r K):o=some (.loop r .busy none)/\ K:=by
 unfold R3 at h
 split at h
 ·obtain ⟨rfl,h⟩:=h;exact ⟨rfl,h⟩
 ·exact h.elim
theorem Aj: ∀(ts:List Nat) (l vs:List AV),(Ai l ts vs).length=l.length
 | [],l,vs=>by cases vs<;>rfl
 |t::ts,l,[]=>rfl
 |t::ts,l,v::vs=>by simp [Ai,Aj ts]
theorem GD (ρ:Env): ∀(ts:List Nat) (l vs:List AV) (tm:Array Value),tm.size=l.length->(∀t,bP l t≠ .dead->tm.getD t undef=(bP l t).ae ρ)->
  ((ts.zip (vs.map (AV.ae ρ))).foldl (fun (t:Array Value) p=>t.setIfInBounds p.1 p.2) tm).size=l.length/\
  ∀t,bP (Ai l ts vs) t≠ .dead->((ts.zip (vs.map (AV.ae ρ))).foldl (fun (t:Array Value) p=>t.setIfInBounds p.1 p.2) tm).getD t undef=(bP (Ai l ts vs) t).ae ρ
 | [],l,vs,tm,hs,h=>by cases vs<;>exact ⟨hs,h⟩
 |t::ts,l,[],tm,hs,h=>⟨hs,h⟩
 |t::ts,l,v::vs,tm,hs,h=>by
  simp only [Ai,List.map_cons,List.zip_cons_cons,List.foldl_cons]
  have:=GD ρ ts (l.set t v) vs (tm.setIfInBounds t (v.ae ρ)) (by simp [hs]) (fun u hu=>by
   rw [eN] at hu ⊢
   simp only [Array.getD_eq_getD_getElem?,Array.getElem?_setIfInBounds]
   by_cases e:t=u
   ·subst e
    by_cases h2:t<l.length
    ·simp [hs,h2]
    ·have h0:=h t (by simpa [h2] using hu)
     simp only [h2,and_false,if_false]
     rw [<- h0]
     simp [hs,h2,Array.getD_eq_getD_getElem?]
   ·have h0:=h u (by simpa [Ne.symm e] using hu)
    rw [if_neg e,if_neg (by rintro ⟨rfl,_⟩;exact e rfl),<- h0,Array.getD_eq_getD_getElem?])
  simpa using this
theorem Px {Kn:Nat->Prop} : ∀(ts:List Nat) (l vs:List AV),(∀t,(bP l t).ok Kn)->(∀v∈vs,v.ok Kn)-> ∀t,(bP (Ai l ts vs) t).ok Kn
 | [],l,vs,h,_=>by cases vs<;>exact h
 |t::ts,l,[],h,_=>h
 | t::ts,l,v::vs,h,hv=>Px ts (l.set t v) vs (fun u=>by
   rw [eN];split
   ·exact hv v (by simp)
   ·exact h u) fun x hx=>hv x (by simp [hx])
theorem Jn (ps:Array Nat) (vs:List Value) (tm:Array Value):(ps.zip vs.toArray).foldl (fun (t:Array Value) (p:Nat×Value)=>t.setIfInBounds p.1 p.2) tm=(ps.toList.zip vs).foldl (fun t p=>t.setIfInBounds p.1 p.2) tm:=by
 rw [<- Array.foldl_toList];simp
end
end Go.Ev
