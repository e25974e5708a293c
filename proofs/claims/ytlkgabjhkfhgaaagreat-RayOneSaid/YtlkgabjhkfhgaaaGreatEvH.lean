/- Code and functions, out of the condition 'codeE'. -/
import Derived.Test.YtlkgabjhkfhgaaaGreatEvG
import Derived.RangeFuncLeaves
import Derived.RangeFuncRecord
noncomputable section
set_option linter.unusedSectionVars false
set_option linter.unusedVariables false
set_option linter.unusedSimpArgs false
namespace Go.Ev
open Go.RowKit
def lb (ay:iT) (W:World) (ρ:Env) (Γ:HP) (w:World):iT:= {wr:=fun b=>VL ρ Γ b\/ ((W.heap.size<=b\/ ay b)/\ aZ w b),nw:=p7 ay W}
theorem BQ {fz pm:Nat->Prop} {ρ:Env} {n b:Nat} {o:aF} {w:World} (h:bg fz pm ρ n o w) (hb:(ρ n).bW=some b): ∀x,w.heap[b]? ≠some (.deferred x):=by
 intro x
 cases o with
 |cells cs e=>obtain ⟨b',hb',hh⟩:=h;rw [hb] at hb';cases hb';rw [hh];simp
 |row t l rk=>
  obtain ⟨_,_,_,sub,_,_,h3,h4⟩:=h
  by_cases e:rk=0
  ·rw [h3 e] at hb;cases hb
  ·rcases h4 e with ⟨h5,_⟩|⟨b',pre,rest,e,h5,_,h6,_⟩
   ·rw [h5] at hb;cases hb
   ·rw [hb] at h5;cases h5;rw [h6];simp
 |alias m s q=>rw [h.1] at hb;cases hb
 |gone=>exact h.elim
 |loop r s j=>obtain ⟨b',hb',hh⟩:=h;rw [hb] at hb';cases hb';rw [hh];simp
 |dO b8 n0=>rw [h.1] at hb;cases hb
 |fJ S=>rw [show (ρ n).bW=none from h] at hb;cases hb
 |map ka va k v l=>obtain ⟨_,_,b',es,l7,hb',hh,_⟩:=h;rw [hb] at hb';cases hb';rw [hh];simp
 |Ec ka k u l c q=>obtain ⟨_,_,_,b',es,l7,hb',hh,_⟩:=h;rw [hb] at hb';cases hb';rw [hh];simp
 |set m=>rw [h.1] at hb;cases hb
 |gv m c k u x l=>rw [h.1] at hb;cases hb
 |rc cs=>rw [h.1] at hb;cases hb
 |dp t l c st kn=>rw [h.1] at hb;cases hb
 |nv m c j q u=>rw [h.1] at hb;cases hb
 |hmap es l7=>obtain ⟨b',hb',hh⟩:=h;rw [hb] at hb';cases hb';rw [hh];simp
 |It m c es l7 ka k u l cur=>obtain ⟨_,_,_,b',_,_,_,hb',hh,_⟩:=h;rw [hb] at hb';cases hb';rw [hh];simp
theorem Mi {ay:iT} {W:World} {ρ:Env} {Kn:Nat->Prop} {Γ:HP} {w:World} (h:St ay W ρ Kn Γ w) {b:Nat} {x:Option (List Deferred)} (hb:w.heap[b]? =some (.deferred x)): ¬lb ay W ρ Γ w b:=by
 rintro (⟨m,h1,h2⟩|⟨_,cs,e,f,h2⟩)
 ·obtain ⟨o,ho⟩:=Option.isSome_iff_exists.1 h1
  rcases h.YD m b h1 h2 with h2|⟨cs,e,f,h2⟩
  ·exact BQ (h.at_ m o ho) h2 _ hb
  ·rw [hb] at h2;cases h2
 ·rw [hb] at h2;cases h2
section
variable {ay:iT} {W:World} {ρ:Env} {Kn:Nat->Prop} {Γ:HP} {w:World}
theorem St.Ce {N:Nat} (h:St ay W ρ Kn Γ w) (hN: ∀m o,Γ m=some o->m<N/\ o.ok (· <N)):St (lb ay W ρ Γ w) w ρ (· <N) Γ w:=
 ⟨Fr.refl _ _,fun n o ho=>cm (Kn:=(· <N)) (h.at_ n o ho) (fun _ _=>rfl) (hN n o ho).1 (hN n o ho).2 (fun _ hb=>⟨hb,rfl⟩) (fun b h1 h2=> .inr (.inr h2)) (fun _ _=>rfl),hN,h.dV,fun n b hn hb=> .inr (.inl ⟨n,hn,hb⟩),h.sW,h.s8⟩
theorem V6 (h:St ay W ρ Kn Γ w) {b:Nat} (hb:lb ay W ρ Γ w b):W.heap.size<=b\/ ay b:=by
 rcases hb with ⟨m,h1,h2⟩|⟨h1,_⟩
 ·exact h.kq m b h1 h2
 ·exact h1
theorem yw.Ce {X:Addr->Value->Prop} (hX:yw ay W X) (h:St ay W ρ Kn Γ w):yw (lb ay W ρ Γ w) w X:=fun a v hx=>by
 obtain ⟨h1,h2,_⟩:=hX a v hx
 refine ⟨Nat.lt_of_lt_of_le h1 h.fr.size,fun hm=> ?_,hX.cell h.fr hx⟩
 rcases V6 h hm with h5|h5
 ·omega
 ·exact h2 h5
theorem St.SU {ρ':Env} {G7:Nat->Prop} {tC:HP} {w':World} (h:St ay W ρ Kn Γ w) (h':St (lb ay W ρ Γ w) w ρ' G7 tC w'):St ay W ρ' G7 tC w':=by
 have hs:=h.fr.size
 have own: ∀b,lb ay W ρ Γ w b->W.heap.size<=b\/ ay b:=fun b hb=>V6 h hb
 have pm: ∀b,p7 (lb ay W ρ Γ w) w b->p7 ay W b:=fun b hb=>by
  rcases hb with h1|h1|h1
  ·exact .inl (by omega)
  ·exact (own b h1).imp_right .inl
  ·exact h1
 refine ⟨⟨h'.fr.os.trans h.fr.os,h'.fr.tape.trans h.fr.tape,h'.fr.output.trans h.fr.output,Nat.le_trans hs h'.fr.size,fun k hk hn=> ?_,Nat.le_trans h.fr.HR h'.fr.HR⟩,fun n o ho=> ?_,h'.kn,h'.dV,fun n b hn hb=>(h'.kq n b hn hb).elim (fun h1=> .inl (by omega)) (own b),h'.sW,h'.s8⟩
 ·rw [h'.fr.block k (by omega) fun hm=>(own k hm).elim (fun h=>by omega) hn]
  exact h.fr.block k hk hn
 ·exact cm (Kn:=G7) (h'.at_ n o ho) (fun _ _=>rfl) (h'.kn n o ho).1 (h'.kn n o ho).2 (fun _ hb=>⟨hb,rfl⟩) (fun b _ h2=>pm b h2) fun _ _=>rfl
theorem St.put {l:Nat} {o:Obj} {tC:HP} (h:St ay W ρ Kn Γ w) (hl:W.heap.size<=l\/ ay l) (hc: ¬aZ w l) (hs: ∀m p,tC m=some p->((ρ m).bW=some l-> ∀fz pm,bg fz pm ρ m p (w.putObj l o))/\ ((ρ m).bW≠some l->Γ m=some p)/\ (Γ m).isSome=true/\ Kn m/\ p.ok Kn):
  St ay W ρ Kn tC (w.putObj l o):=by
 have hsome: ∀n,(tC n).isSome=true->(Γ n).isSome=true:=fun n hn=>by
  obtain ⟨p,hp⟩:=Option.isSome_iff_exists.1 hn
  exact (hs n p hp).2.2.1
 have sV: ∀b,HI tC b->HI Γ b:=fun b ⟨m,S,h1,h2⟩=>by
  refine ⟨m,S,(hs m _ h1).2.1 fun e=> ?_,h2⟩
  have:=(hs m _ h1).1 e (fun _=>True) (fun _=>True)
  rw [show (ρ m).bW=Option.none from this] at e;cases e
 have hfz: ∀b,dQ ρ Γ w b->dQ ρ tC (w.putObj l o) b/\ (w.putObj l o).heap[b]? =w.heap[b]? :=fun b hb=>by
  have hne:b≠l:=by rintro rfl;exact hc hb.1
  have e:(w.putObj l o).heap[b]? =w.heap[b]? :=World.putObj_heap_other hne
  refine ⟨⟨hb.1.same e,?_⟩,e⟩
  rintro (⟨m,h1,h2⟩|⟨m,S,h1,h2⟩)
  ·exact hb.2 (.inl ⟨m,hsome m h1,h2⟩)
  ·exact hb.2 (.inr (sV b ⟨m,S,h1,h2⟩))
 refine ⟨⟨h.fr.os,h.fr.tape,h.fr.output,by rw [World.putObj_size];exact h.fr.size,fun k hk hn=> ?_,h.fr.HR⟩,fun n p hp=> ?_,fun n p hp=>(hs n p hp).2.2.2,fun n m b hn hm=>h.dV n m b (hsome n hn) (hsome m hm),fun n b hn=>h.kq n b (hsome n hn),fun b hh=> ?_,fun n p hp=> ?_⟩
 rotate_right
 ·by_cases e:(ρ n).bW=some l
  ·obtain ⟨p0,Z7⟩:=Option.isSome_iff_exists.1 (hs n p hp).2.2.1
   rcases h.s8 n p0 Z7 with ⟨g,rfl⟩|he
   ·rw [(h.at_ n _ Z7).1] at e;cases e
   ·exact .inr he
  ·exact h.s8 n p ((hs n p hp).2.1 e)
 rotate_right
 ·obtain ⟨h3,h4⟩:=h.sW b (sV b hh)
  exact ⟨by rw [World.putObj_size];exact h3,fun ⟨n,h5,h6⟩=>h4 ⟨n,hsome n h5,h6⟩⟩
 ·rw [World.putObj_heap_other (by rintro rfl;exact hl.elim (fun h=>by omega) hn)]
  exact h.fr.block k hk hn
 ·obtain ⟨h1,h2,_,h4,h5⟩:=hs n p hp
  by_cases e:(ρ n).bW=some l
  ·exact h1 e _ _
  ·exact cm (Kn:=Kn) (h.at_ n p (h2 e)) (fun _ _=>rfl) h4 h5 hfz (fun _ _ h=>h) fun b hb=>World.putObj_heap_other (by rintro rfl;exact (h.YD n _ (by rw [h2 e];rfl) hb).elim e hc)
end
def nM (D:Nat):Deferred:= {target:= .collected D,args:= #[]}
structure XV (ay:iT) (W:World) (ds:List Nat) (st:AS) (ρ:Env) (a:Act) (w:World):Prop where
 nd:ds.Nodup
 dd: ∀D∈ds,W.heap.size<=D/\ w.heap[D]? =some (.deferred (some []))
 mA:mG ay W (ds.map nM) st ρ a w
def At (ay:iT) (W:World) (st:AS) (ρ:Env) (a:Act) (w:World):Prop:= ∃ds,XV ay W ds st ρ a w
section
variable {ay:iT} {W:World} {ds:List Nat} {st:AS} {ρ:Env} {a:Act} {w:World}
theorem XV.base (h:XV ay W ds st ρ a w):mG (lb ay W ρ (aj st.heap) w) w (ds.map nM) st ρ a w:=
 ⟨h.mA.tmps,h.mA.size,h.mA.defers,h.mA.kn,h.mA.st.Ce fun m o ho=>⟨eo ho,(h.mA.st.kn m o ho).2⟩⟩
theorem XV.back {st':AS} {ρ':Env} {a':Act} {w':World} (h:XV ay W ds st ρ a w) (h':mG (lb ay W ρ (aj st.heap) w) w (ds.map nM) st' ρ' a' w'):XV ay W ds st' ρ' a' w':=by
 refine ⟨h.nd,fun D hD=>⟨(h.dd D hD).1,?_⟩,⟨h'.tmps,h'.size,h'.defers,h'.kn,h.mA.st.SU h'.st⟩⟩
 have h1:=(h.dd D hD).2
 rw [h'.st.fr.block D (Array.getElem?_eq_some_iff.1 h1).1 (Mi h.mA.st h1)]
 exact h1
theorem At.weak (h:At ay W st ρ a w) {st':AS} (hw:Dn st st'): ∃ρ',At ay W st' ρ' a w:=by
 obtain ⟨ds,h⟩:=h
 obtain ⟨ρ',h'⟩:=h.mA.weak hw
 exact ⟨ρ',ds,h.nd,h.dd,h'⟩
theorem At.eval (h:At ay W st ρ a w) (x:Operand) (hx:eO st.tmps x≠ .dead):a.eval x=(eO st.tmps x).af ρ:=by
 obtain ⟨ds,h⟩:=h
 exact h.mA.eval x hx
end
def Post (ay:iT) (W:World) (K:Exit->AS->Prop):Exit->Act->World->Prop:=
 fun e a w=> ∃st ρ,K e st/\ At ay W st ρ a w
def pg (P:Program) (ctx:Ctx):Code->Prop
 | .seq a b=>pg P ctx a/\ pg P ctx b
 | .cond _ a b=>pg P ctx a/\ pg P ctx b
 | .loop c=>pg P ctx c
 | .rangeFunc _ _ a b=>pg P ctx a/\ pg P ctx b
 | .block id c=>match aJ ctx.lp id with
  |none=>pg P ctx c
  |some sp=> ∀ay W ro n,yw ay W ctx.X->(ro=none\/ ko c=true)-> ∀st K,sp st K-> ∀ρ a w,At ay W st ρ a w->(Code.block id c).wpIn (fw ro) n P (Post ay W K) a w
 |_=>True
section
variable {P:Program} {ctx:Ctx} {ay:iT} {W:World}
theorem qJ {ro:Option Nat} {n id:Nat} {c:Code} {K:Exit->AS->Prop} {a:Act} {w:World} (h:c.wpIn (fw ro) n P (Post ay W (tX id K)) a w):(Code.block id c).wpIn (fw ro) n P (Post ay W K) a w:=by
 refine wpIn_block (wpIn_mono h ?_)
 rintro e a' w' ⟨st',ρ',hk,jT⟩
 cases e with
 |exit id'=>
  simp only [Exit.inBlock]
  simp only [tX] at hk
  split at hk
  ·rename_i e;rw [if_pos e];exact ⟨st',ρ',hk,jT⟩
  ·rename_i e;rw [if_neg e];exact ⟨st',ρ',hk,jT⟩
 |_=>exact ⟨st',ρ',hk,jT⟩
def BU (K:Exit->AS->Prop) (e:Exit) (st:AS):Prop:= ∃st',Dn st st'/\ K e st'
theorem OY {K:Exit->AS->Prop} {e:Exit} {a:Act} {w:World} (h:Post ay W (BU K) e a w):Post ay W K e a w:=by
 obtain ⟨st,ρ,⟨st',hw,hk⟩,bB⟩:=h
 obtain ⟨ρ',jT⟩:=bB.weak hw
 exact ⟨st',ρ',hk,jT⟩
theorem Bv {o:Option aF} {r:Loop} {K:Prop} (h:Mg o r K):o=some (.loop r .ready none)/\ K:=by
 unfold Mg at h
 split at h
 ·obtain ⟨rfl,h⟩:=h;exact ⟨rfl,h⟩
 ·exact h.elim
theorem Il {o:Option aF} {r:Loop} {K:Prop} (h:KL o r K):o=some (.loop r .busy none)/\ K:=by
 unfold KL at h
 split at h
 ·obtain ⟨rfl,h⟩:=h;exact ⟨rfl,h⟩
 ·exact h.elim
theorem wD: ∀(ts:List Nat) (l vs:List AV),(wC l ts vs).length=l.length
 | [],l,vs=>by cases vs<;>rfl
 |t::ts,l,[]=>rfl
 |t::ts,l,v::vs=>by simp [wC,wD ts]
theorem Cm (ρ:Env): ∀(ts:List Nat) (l vs:List AV) (tm:Array Value),tm.size=l.length->(∀t,dD l t≠ .dead->tm.getD t undef=(dD l t).af ρ)->
  ((ts.zip (vs.map (AV.af ρ))).foldl (fun (t:Array Value) p=>t.setIfInBounds p.1 p.2) tm).size=l.length/\
  ∀t,dD (wC l ts vs) t≠ .dead->((ts.zip (vs.map (AV.af ρ))).foldl (fun (t:Array Value) p=>t.setIfInBounds p.1 p.2) tm).getD t undef=(dD (wC l ts vs) t).af ρ
 | [],l,vs,tm,hs,h=>by cases vs<;>exact ⟨hs,h⟩
 |t::ts,l,[],tm,hs,h=>⟨hs,h⟩
 |t::ts,l,v::vs,tm,hs,h=>by
  simp only [wC,List.map_cons,List.zip_cons_cons,List.foldl_cons]
  have:=Cm ρ ts (l.set t v) vs (tm.setIfInBounds t (v.af ρ)) (by simp [hs]) (fun u hu=>by
   rw [BP] at hu ⊢
   simp only [Array.getD_eq_getD_getElem?,Array.getElem?_setIfInBounds]
   by_cases e:t=u
   ·subst e
    by_cases h2:t<l.length
    ·simp [hs,h2]
    ·have h0:=h t (by simpa [h2] using hu)
     simp only [h2,and_false,if_false]
     rw [<- h0]
     simp [hs,h2,Array.getD_eq_getD_getElem?]
   ·have h0:=h u (by simpa [Ne.symm e] using hu)
    rw [if_neg e,if_neg (by rintro ⟨rfl,_⟩;exact e rfl),<- h0,Array.getD_eq_getD_getElem?])
  simpa using this
theorem I5 {Kn:Nat->Prop} : ∀(ts:List Nat) (l vs:List AV),(∀t,(dD l t).ok Kn)->(∀v∈vs,v.ok Kn)-> ∀t,(dD (wC l ts vs) t).ok Kn
 | [],l,vs,h,_=>by cases vs<;>exact h
 |t::ts,l,[],h,_=>h
 | t::ts,l,v::vs,h,hv=>I5 ts (l.set t v) vs (fun u=>by
   rw [BP];split
   ·exact hv v (by simp)
   ·exact h u) fun x hx=>hv x (by simp [hx])
theorem Eb (ps:Array Nat) (vs:List Value) (tm:Array Value):(ps.zip vs.toArray).foldl (fun (t:Array Value) (p:Nat×Value)=>t.setIfInBounds p.1 p.2) tm=(ps.toList.zip vs).foldl (fun t p=>t.setIfInBounds p.1 p.2) tm:=by
 rw [<- Array.foldl_toList];simp
end
end Go.Ev
namespace Go.Ev
open Go.RowKit
section
variable {P:Program} {ctx:Ctx} {ay:iT} {W:World}
def Snd (P:Program) (ctx:Ctx) (c:Code):Prop:= ∀ay W ro n,yw ay W ctx.X->(ro=none\/ ko c=true)-> ∀st K,iF ctx c st K-> ∀ρ a w,At ay W st ρ a w->c.wpIn (fw ro) n P (Post ay W K) a w
theorem St.Mm {ay:iT} {W:World} {ρ:Env} {h:List aF} {w:World} {n l:Nat} {r:Loop} {s:LoopState} {j:Option Code} (hst:St ay W ρ (· <h.length) (aj h) w) (hn:aj h n=some (.loop r s j)) (hl:(ρ n).bW=some l)
  (s':LoopState) (j':Option Code):St ay W ρ (· <h.length) (aj (h.set n (.loop r s' j'))) (w.putObj l (.loop {r with state:=s',pending:=j'})):=by
 have hlt:=eo hn
 have hw:l<w.heap.size:=BR (hst.at_ n _ hn) hl
 have hown:=hst.own n l (by simp [hn]) hl
 refine hst.put hown (fun hc=> ?_) fun m p hp=> ?_
 ·obtain ⟨b,hb,hh⟩:=hst.at_ n _ hn
  rw [hl] at hb;cases hb
  obtain ⟨cs,e,f,h2⟩:=hc
  rw [hh] at h2;cases h2
 rw [bt,List.getElem?_set] at hp
 by_cases e:n=m
 ·subst e
  rw [if_pos rfl,if_pos hlt] at hp
  cases hp
  exact ⟨fun _ _ _=>⟨l,hl,World.putObj_heap_same hw⟩,fun h=>absurd hl h,by simp [hn],hlt,trivial⟩
 ·rw [if_neg e,←bt] at hp
  have hk:=hst.kn m p hp
  exact ⟨fun h1=>absurd (hst.inj n m l (by simp [hn]) (by simp [hp]) hl h1) e,fun _=>hp,by simp [hp],hk.1,hk.2⟩
theorem St.Rt {ay:iT} {W:World} {ρ:Env} {h:List aF} {w:World} {n l:Nat} {r:Loop} {s:LoopState} {j:Option Code} (hst:St ay W ρ (· <h.length) (aj h) w) (hn:aj h n=some (.loop r s j)) (hl:(ρ n).bW=some l) (o:Obj):
  St ay W ρ (· <(h.set n .gone).length) (aj (h.set n .gone)) (w.putObj l o):=by
 have hlt:=eo hn
 have hown:=hst.own n l (by simp [hn]) hl
 rw [List.length_set]
 refine hst.put hown (fun hc=> ?_) fun m p hp=> ?_
 ·obtain ⟨b,hb,hh⟩:=hst.at_ n _ hn
  rw [hl] at hb;cases hb
  obtain ⟨cs,e,f,h2⟩:=hc
  rw [hh] at h2;cases h2
 rw [bt,List.getElem?_set] at hp
 by_cases e:n=m
 ·subst e
  rw [if_pos rfl,if_pos hlt] at hp
  cases hp
 ·rw [if_neg e,←bt] at hp
  have hk:=hst.kn m p hp
  exact ⟨fun h1=>absurd (hst.inj n m l (by simp [hn]) (by simp [hp]) hl h1) e,fun _=>hp,by simp [hp],hk.1,hk.2⟩
theorem tj {h:List aF} {n:Nat} {o:aF} :(h.set n o).length=h.length:=List.length_set
theorem Sl {assign body:Code} (ha:Snd P ctx assign) (hb:Snd P ctx body) (Y5:ko assign=true) (hrb:ko body=true) {ps:Array Tmp} {tV:List AV} {n0 l:Nat} {ni:Env} {r:Loop} (hl:(ni n0).bW=some l)
  (hr:r.state= .ready/\ r.pending=none/\ r.params=ps/\ r.assign=assign/\ r.body=body) (hts:r.tmps.size=tV.length) (htm: ∀t,dD tV t≠ .dead->r.tmps.getD t undef=(dD tV t).af ni) (htk: ∀t,(dD tV t).ok (· <n0)):
  vh P [(n0,XT ctx.X n0 tV r ni ps (iF ctx assign) (iF ctx body))]:=by
 intro n s hs X args hp nm k h
 unfold aJ at hs
 split at hs
 rotate_left
 ·cases hs
 rename_i en
 subst en
 cases hs
 unfold XT at h
 obtain ⟨hXX,h⟩:=h
 subst hXX
 split at h
 rotate_left
 ·exact h.elim
 rename_i hsz
 obtain ⟨hp1,h⟩:=fK h
 obtain ⟨Z7,h⟩:=Bv h
 intro ro m ay W ρ w hX hargs hst
 have Bn:=hst.at_ _ _ hp1
 have YC: ∀i,i<n0+1->ρ i=ni i:=Bn.2
 have Z5:(ρ n0).bW=some l:=by rw [YC n0 (by omega)];exact hl
 obtain ⟨l',hl',zL⟩:=hst.at_ _ _ Z7
 rw [Z5] at hl';cases hl'
 have hre:({r with state:= .ready,pending:=none} :Loop)=r:=by cases r;simp only at hr;obtain ⟨rfl,rfl,_⟩:=hr;rfl
 rw [hre] at zL
 have hn0:n0+1<nm:=(hst.kn _ _ hp1).1
 have Eg: ∀m,hp m≠some .gone:=fun m e=>hst.at_ m _ e
 have Z4: ∀m,(hp m).isSome=true->m<nm:=fun m hm=>by
  obtain ⟨o,ho⟩:=Option.isSome_iff_exists.1 hm
  exact (hst.kn m o ho).1
 refine ⟨l,r.fn,(r.params.zip (args.map (AV.af ρ)).toArray).foldl (fun tmps (x:Tmp×Value)=>tmps.setIfInBounds x.1 x.2) r.tmps,assign,body,Z5,?_,?_⟩
 ·have:=run_yield (P:=P) (args:=(args.map (AV.af ρ)).toArray) zL (by simp [hr.2.2.1,hsz])
  rw [this,hr.2.2.2.1,hr.2.2.2.2]
 let yI:=iB hp nm++ [aF.dO ρ nm]
 let xB:=bq ρ nm {}
 have XY:yI.length=nm+1:=by simp [yI,bS]
 have gC: ∀m,m<nm->xB m=ρ m:=fun m hm=>by simp only [xB,bq];rw [if_neg (by omega)]
 have DA: ∀m o,aj yI m=some o->(m<nm/\ hp m=some o)\/ (m=nm/\ o= .dO ρ nm):=by
  intro m o ho
  rw [bt] at ho
  rcases Nat.lt_or_ge m nm with h1|h1
  ·rw [List.getElem?_append_left (by rw [bS];exact h1),y6 h1 (Eg m)] at ho
   exact .inl ⟨h1,ho⟩
  ·have:m<yI.length:=eo (by rw [bt];exact ho)
   have:m=nm:=by omega
   subst this
   rw [List.getElem?_append_right (by rw [bS];exact Nat.le_refl _),bS] at ho
   simp only [Nat.sub_self,List.getElem?_cons_zero,live,Option.some.injEq] at ho
   exact .inr ⟨rfl,ho.symm⟩
 have WR: ∀b,dQ ρ hp w b->dQ xB (aj yI) w b/\ w.heap[b]? =w.heap[b]? :=fun b hb=>by
  refine ⟨⟨hb.1,?_⟩,rfl⟩
  rintro (⟨m,h1,h2⟩|⟨m,S,h1,h2⟩)
  ·obtain ⟨o,ho⟩:=Option.isSome_iff_exists.1 h1
   rcases DA m o ho with ⟨h3,h4⟩|⟨rfl,rfl⟩
   ·rw [gC m h3] at h2
    exact hb.2 (.inl ⟨m,by simp [h4],h2⟩)
   ·simp [xB,bq] at h2
  ·rcases DA m _ h1 with ⟨h3,h4⟩|⟨rfl,e⟩
   ·exact hb.2 (.inr ⟨m,S,h4,h2⟩)
   ·cases e
 have Kw:St ay W xB (· <yI.length) (aj yI) w:=by
  refine ⟨hst.fr,fun m o ho=> ?_,fun m o ho=> ?_,fun m m' b hm hm' fQ fc=> ?_,fun m b hm hb=> ?_,fun b ⟨m,S,h1,h2⟩=> ?_,fun m o ho=> ?_⟩
  rotate_right
  ·rcases DA m o ho with ⟨h1,h2⟩|⟨rfl,rfl⟩
   ·rw [gC m h1];exact hst.s8 m o h2
   ·exact .inr (by simp [xB,bq])
  rotate_right
  ·rcases DA m _ h1 with ⟨_,h4⟩|⟨_,e⟩
   ·obtain ⟨h5,h6⟩:=hst.sW b ⟨m,S,h4,h2⟩
    refine ⟨h5,fun ⟨n,h7,h8⟩=> ?_⟩
    obtain ⟨o,ho⟩:=Option.isSome_iff_exists.1 h7
    rcases DA n o ho with ⟨h9,Yu⟩|⟨rfl,rfl⟩
    ·rw [gC n h9] at h8
     exact h6 ⟨n,by simp [Yu],h8⟩
    ·simp [xB,bq] at h8
   ·cases e
  ·rcases DA m o ho with ⟨h1,h2⟩|⟨rfl,rfl⟩
   ·have hk:=hst.kn m o h2
    exact cm (Kn:=(· <nm)) (hst.at_ m o h2) gC h1 hk.2 WR (fun _ _ h=>h) fun _ _=>rfl
   ·exact ⟨by simp [xB,bq],gC⟩
  ·rcases DA m o ho with ⟨h1,h2⟩|⟨rfl,rfl⟩
   ·exact ⟨by rw [XY];omega,aF.aT (fun i hi=>by rw [XY];omega) o (hst.kn m o h2).2⟩
   ·exact ⟨by rw [XY];omega,fun i hi=>by rw [XY];omega⟩
  ·obtain ⟨o,ho⟩:=Option.isSome_iff_exists.1 hm
   obtain ⟨o',xE⟩:=Option.isSome_iff_exists.1 hm'
   rcases DA m o ho with ⟨h1,h2⟩|⟨rfl,rfl⟩
   ·rcases DA m' o' xE with ⟨h3,h4⟩|⟨rfl,rfl⟩
    ·rw [gC m h1] at fQ;rw [gC m' h3] at fc
     exact hst.dV m m' b (by simp [h2]) (by simp [h4]) fQ fc
    ·simp [xB,bq] at fc
   ·simp [xB,bq] at fQ
  ·obtain ⟨o,ho⟩:=Option.isSome_iff_exists.1 hm
   rcases DA m o ho with ⟨h1,h2⟩|⟨rfl,rfl⟩
   ·rw [gC m h1] at hb
    exact hst.kq m b (by simp [h2]) hb
   ·simp [xB,bq] at hb
 have abI: ∀t,dD tV t≠ .dead->r.tmps.getD t undef=(dD tV t).af xB:=fun t ht=>by
  rw [htm t ht]
  refine (AV.bH (Kn:=(· <n0)) (fun i hi=> ?_) _ (htk t)).symm
  rw [gC i (by omega),YC i (by omega)]
 have Qu:args.map (AV.af ρ)=args.map (AV.af xB):=List.map_congr_left fun x hx=>(AV.bH (Kn:=(· <nm)) gC x (hargs x hx)).symm
 obtain ⟨hs1,hs2⟩:=Cm xB ps.toList tV args r.tmps hts abI
 have aaX:At ay W ⟨wC tV ps.toList args,yI⟩ xB {tmps:=(r.params.zip (args.map (AV.af ρ)).toArray).foldl (fun tmps (x:Tmp×Value)=>tmps.setIfInBounds x.1 x.2) r.tmps,defers:= []} w:=by
  refine ⟨[],List.nodup_nil,fun D hD=>absurd hD (by simp),⟨fun t ht=> ?_,?_,rfl,fun t=> ?_,Kw⟩⟩
  ·dsimp only
   rw [hr.2.2.1,Qu,Eb]
   exact hs2 t ht
  ·dsimp only
   rw [hr.2.2.1,Qu,Eb,wD]
   exact hs1
  ·refine I5 _ _ _ (fun t=>AV.aT (fun i hi=> ?_) _ (htk t)) (fun v hv=>AV.aT (fun i hi=> ?_) _ (hargs v hv)) t<;>(dsimp only;rw [XY];omega)
 refine roundIn_of_wpIn trivial ?_
 refine wpIn_mono (ha ay W (some l) m hX (.inr Y5) _ _ (h ρ) xB _ w aaX) ?_
 rintro e a1 w1 ⟨u9,ρ',VW,gG⟩
 cases e<;>try exact VW.elim
 obtain ⟨hq1,VW⟩:=fK VW
 obtain ⟨Px,VW⟩:=Bv VW
 obtain ⟨ds1,gG⟩:=gG
 have aaV: ∀i,i<nm->ρ' i=ρ i:=(gG.mA.st.at_ _ _ hq1).2
 have YU:(ρ' n0).bW=some l:=by rw [aaV n0 (by omega)];exact Z5
 obtain ⟨l1,YV,V1⟩:=gG.mA.st.at_ _ _ Px
 rw [YU] at YV;cases YV
 refine ⟨_,run_beginRound V1 rfl,?_⟩
 have abE:=gG.mA.st.Mm Px YU .busy none
 have hD: ∀D∈ds1,D≠l:=by
  rintro D hD rfl
  have:=(gG.dd D hD).2
  rw [V1] at this;cases this
 have aaY:At ay W ⟨u9.tmps,u9.heap.set n0 (.loop r .busy none)⟩ ρ' a1 (w1.putObj l (.loop {r with state:= .busy,pending:=none})):=by
  refine ⟨ds1,gG.nd,fun D hd=>⟨(gG.dd D hd).1,?_⟩,⟨gG.mA.tmps,gG.mA.size,gG.mA.defers,fun t=> ?_,?_⟩⟩
  ·rw [World.putObj_heap_other (hD D hd)];exact (gG.dd D hd).2
  ·dsimp only;rw [tj];exact gG.mA.kn t
  ·dsimp only;rw [tj];exact abE
 refine wpIn_mono (hb ay W (some l) m hX (.inr hrb) _ _ VW ρ' _ _ aaY) ?_
 rintro e a2 w2 ⟨Dl,ρ4,YS,ds2,pQ⟩
 have fin: ∀jump:Option Code,rW hp nm n0 r ρ Dl.heap jump k-> ∃v w',(Instr.endRound l jump).run P w2= .ok v w'/\ ∃r ρ',k r/\ (∀p∈r.writes,hp p.1≠none)/\ Ending.returned v= .returned (r.val.af ρ')/\ (∀m,m<nm->ρ' m=ρ m)/\ r.val.ok (lK (· <nm) nm r)/\ St ay W ρ' (lK (· <nm) nm r) (bX r nm hp) w':=by
  intro jump hk
  unfold rW at hk
  obtain ⟨hb0,hk⟩:=Il hk
  obtain ⟨fQ,hk⟩:=fK hk
  have YB: ∀i,i<nm->ρ4 i=ρ i:=(pQ.mA.st.at_ _ _ fQ).2
  have N4:(ρ4 n0).bW=some l:=by rw [YB n0 (by omega)];exact Z5
  obtain ⟨l2,YW,Y6⟩:=pQ.mA.st.at_ _ _ hb0
  rw [N4] at YW;cases YW
  refine ⟨_,_,run_endRound jump Y6,_,ρ4,hk,fun p hp=>vC hp,rfl,YB,trivial,?_⟩
  have hlen:=eo fQ
  have Y9:=pQ.mA.st.Mm hb0 N4 (if jump.isNone then .ready else .done) jump
  obtain ⟨e1,e2⟩:=AF (hp:=hp) (nm:=nm) (v:=bC jump.isNone) (h:=Dl.heap.set n0 (Gm r jump)) (by rw [tj];exact hlen)
  unfold VO
  rw [e2,tj]
  have e3:Gm r jump= .loop r (if jump.isNone then .ready else .done) jump:=by cases jump<;>rfl
  rw [e3] at e1 ⊢
  refine Y9.less fun i o ho=> ?_
  have:=e1 i o ho (Eg i) Z4
  exact ⟨this,Y9.kn i o this⟩
 cases e with
 |normal=>exact fin none YS
 |ret=>exact fin (some .ret) YS
 |exit id=>exact fin (some (.exit id)) YS
 |_=>exact YS.elim
theorem qP (hT:aO P ctx.tt) (hC:qE P ctx) (hm:P.follows .mixedOrders=true): ∀(c:Code),pg P ctx c->Snd P ctx c:=by
 intro c
 induction c with
 |skip=>intro _ ay W ro n hX _ st K h ρ a w bB;exact wpIn_skip ⟨st,ρ,h,bB⟩
 |region id ops draw=>
  intro _ ay W ro n hX _ st K h ρ a w ⟨ds,bB⟩
  have hX':=hX.Ce bB.mA.st
  cases draw with
  |false=>
   have h:mT ctx ops ops.toList [] st [] fun st' _=>K .normal st':=h
   exact wpIn_region_list (kp hT hC hX' ops ops.toList [] st [] _ h (fun st' _ ρ' a' w' hk jT=>⟨st',ρ',hk,ds,bB.back jT⟩) ρ a w bB.base)
  |true=>
   refine wpIn_mono (TE hT hC.sp hm hX' ro n id ops st (K .normal) h ρ a w bB.base) ?_
   rintro e a' w' ⟨st',ρ',⟨rfl,hk⟩,jT⟩
   exact ⟨st',ρ',hk,ds,bB.back jT⟩
 |seq x y ihx ihy=>
  intro xD ay W ro n hX hro st K h ρ a w bB
  have W2:ro=none\/ ko x=true:=hro.imp id fun h=>by simp only [ko,Bool.and_eq_true] at h;exact h.1
  have W3:ro=none\/ ko y=true:=hro.imp id fun h=>by simp only [ko,Bool.and_eq_true] at h;exact h.2
  refine wpIn_seq (wpIn_mono (ihx xD.1 ay W ro n hX W2 st _ h ρ a w bB) ?_)
  rintro e a' w' ⟨st',ρ',hk,jT⟩
  cases e with
  |normal=>exact ihy xD.2 ay W ro n hX W3 st' K hk ρ' a' w' jT
  |_=>exact ⟨st',ρ',hk,jT⟩
 |cond c x y ihx ihy=>
  intro xD ay W ro n hX hro st K h ρ a w bB
  have W2:ro=none\/ ko x=true:=hro.imp id fun h=>by simp only [ko,Bool.and_eq_true] at h;exact h.1
  have W3:ro=none\/ ko y=true:=hro.imp id fun h=>by simp only [ko,Bool.and_eq_true] at h;exact h.2
  unfold iF at h
  split at h
  ·rename_i t hc
   have:=bB.eval c (by rw [hc];simp)
   rw [hc] at this
   exact wpIn_cond_split this (fun ht=>ihx xD.1 ay W ro n hX W2 st K (by subst ht;exact h) ρ a w bB) (fun ht=>ihy xD.2 ay W ro n hX W3 st K (by subst ht;exact h) ρ a w bB)
  ·exact h.elim
 |block id c ih=>
  intro xD ay W ro n hX hro st K h ρ a w bB
  unfold iF at h
  unfold pg at xD
  split at h
  ·rename_i sp hsp
   rw [hsp] at xD
   exact xD ay W ro n hX hro st K h ρ a w bB
  ·rename_i hsp
   rw [hsp] at xD
   exact qJ (ih xD ay W ro n hX hro st _ h ρ a w bB)
 |loop c ih=>
  intro xD ay W ro n hX W0 st K h ρ a w bB
  obtain ⟨I,⟨m,ZH,hw0,h0⟩,hr⟩:=h
  intro b k cs hro hb hroom
  have key: ∀m a w,(∃st ρ,I m st/\ At ay W st ρ a w)-> ∃e a' w',Post ay W K e a' w'/\ ArrivesIn (Machine.fenced P (fw ro)) P (lone (b.atR a (.code c:: .inLoop c::k)) cs w) b k cs e a' w':=by
   intro m
   induction m using Nat.strongRecOn with
   |_ m ihm=>
    rintro a w ⟨st,ρ,hI,bB⟩
    obtain ⟨e,a1,w1,⟨u9,bh,hk,gG⟩,k9⟩:=ih xD ay W ro n hX W0 st _ (hr m st hI) ρ a w bB b (.inLoop c::k) cs hro hb hroom
    cases e with
    |normal=>
     obtain ⟨m',st',hm,hw,Yw⟩:=hk
     obtain ⟨ni,pQ⟩:=gG.weak hw
     obtain ⟨e2,a2,w2,V0,Ic⟩:=ihm m' hm a1 w1 ⟨st',ni,Yw,pQ⟩
     exact ⟨e2,a2,w2,V0,.of_steps (StepsIn.trans k9 (.one (fenced_calm hb hroom rfl) stepR_inLoop)) Ic⟩
    |exit id=>exact ⟨_,a1,w1,⟨u9,bh,hk,gG⟩,.pass (x:= .inLoop c) rfl (fun _ _=> .inl (by simp)) k9⟩
    |goto l=>exact ⟨_,a1,w1,⟨u9,bh,hk,gG⟩,.pass (x:= .inLoop c) rfl (fun _ _=> .inl (by simp)) k9⟩
    |ret=>exact ⟨_,a1,w1,⟨u9,bh,hk,gG⟩,.pass (x:= .inLoop c) rfl (fun _ _=> .inl (by simp)) k9⟩
    |panic ch=>exact ⟨_,a1,w1,⟨u9,bh,hk,gG⟩,.pass (x:= .inLoop c) rfl (fun _ _=> .inl (by simp)) k9⟩
    |outgrown=>exact ⟨_,a1,w1,⟨u9,bh,hk,gG⟩,.pass (x:= .inLoop c) rfl (fun _ _=> .inl (by simp)) k9⟩
  obtain ⟨b8,Kj⟩:=bB.weak hw0
  obtain ⟨e,a',w',hq,k9⟩:=key m a w ⟨ZH,b8,h0,Kj⟩
  exact ⟨e,a',w',hq,.of_steps (.one (fenced_calm hb hroom rfl) stepR_loop) k9⟩
 |exit id=>intro _ ay W ro n hX _ st K h ρ a w bB;exact wpIn_exit ⟨st,ρ,h,bB⟩
 |ret=>intro _ ay W ro n hX _ st K h ρ a w bB;exact wpIn_ret ⟨st,ρ,h,bB⟩
 |rangeFunc g ps assign body Gj Gk=>
  intro xD ay W ro n hX hro st K h ρ a w ⟨ds,bB⟩
  have hro:ro=none:=hro.resolve_right (by simp [ko])
  subst hro
  unfold iF at h
  split at h
  rotate_left
  ·exact h.elim
  rename_i hrf
  simp only [Bool.and_eq_true] at hrf
  split at h
  rotate_left
  ·exact h.elim
  rename_i f cap hg
  split at h
  rotate_left
  ·exact h.elim
  rename_i KN QH
  obtain ⟨TW,QH⟩:=hC.dR f KN QH
  have nj:=bB.mA.eval g (by rw [hg];simp)
  rw [hg] at nj
  have hgk:=bB.mA.Qh g
  rw [hg] at hgk
  obtain ⟨N,hN⟩: ∃N,N=st.heap.length:=⟨_,rfl⟩
  refine wpIn_rangeFunc fun fn _=> ?_
  obtain ⟨r,N5⟩: ∃r:Loop,r= {state:= .ready,pending:=none,fn:=fn,tmps:=a.tmps,params:=ps,assign:=assign,body:=body,defers:=w.heap.size} :=⟨_,rfl⟩
  obtain ⟨W1,X3⟩: ∃W1,W1=(w.alloc (.deferred (some []))).alloc (.loop r):=⟨_,rfl⟩
  have hD1:W1.heap[w.heap.size]? =some (.deferred (some [])):=by
   rw [X3];exact (Below.heap_alloc _ _ _ (by simp)).trans (World.alloc_heap_new w _)
  have hL1:W1.heap[w.heap.size+1]? =some (.loop r):=by
   rw [X3];have:=World.alloc_heap_new (w.alloc (.deferred (some []))) (.loop r);rwa [World.size_alloc] at this
  have Ma: ∀b,b<w.heap.size->W1.heap[b]? =w.heap[b]? :=fun b hb=>by
   rw [X3];exact (Below.heap_alloc _ _ _ (by simp;omega)).trans (Below.heap_alloc _ _ _ hb)
  have hS1:W1.heap.size=w.heap.size+2:=by rw [X3];simp
  let ni:Env:=fun m=>if m=N then {bW:=some (w.heap.size+1)} else if m=N+1 then {} else ρ m
  let tI:=st.heap++ [aF.loop r .ready none,.dO ni (N+1)]
  have N4:tI.length=N+2:=by simp [tI,hN]
  have rz: ∀m,m<N->ni m=ρ m:=fun m hm=>by simp only [ni];rw [if_neg (by omega),if_neg (by omega)]
  have Kt:ni N= {bW:=some (w.heap.size+1)} :=by simp [ni]
  have hp2:ni (N+1)= {} :=by simp [ni]
  have nI: ∀m o,aj tI m=some o->(m<N/\ aj st.heap m=some o)\/ (m=N/\ o= .loop r .ready none)\/ (m=N+1/\ o= .dO ni (N+1)):=by
   intro m o ho
   have hlt:=eo ho
   rw [bt] at ho
   rcases Nat.lt_or_ge m N with h1|h1
   ·rw [List.getElem?_append_left (by omega),←bt] at ho
    exact .inl ⟨h1,ho⟩
   ·rw [List.getElem?_append_right (by omega),←hN] at ho
    have:m=N\/ m=N+1:=by omega
    rcases this with rfl|rfl
    ·simp only [Nat.sub_self,List.getElem?_cons_zero,live,Option.some.injEq] at ho
     exact .inr (.inl ⟨rfl,ho.symm⟩)
    ·simp only [show N+1- N=1 by omega,List.getElem?_cons_succ,List.getElem?_cons_zero,live,Option.some.injEq] at ho
     exact .inr (.inr ⟨rfl,ho.symm⟩)
  have aa9:Fr ay W W1:=by
   rw [X3];exact (bB.mA.st.fr.alloc _).alloc _
  have WX: ∀m o b,aj st.heap m=some o->(ρ m).has b->b<w.heap.size:=fun m o b ho hb=>bB.mA.st.lt m b (by rw [ho];rfl) hb
  have xS:St ay W ni (· <tI.length) (aj tI) W1:=by
   have hre:({r with state:= .ready,pending:=none} :Loop)=r:=by rw [N5]
   have Ih: ∀b,dQ ρ (aj st.heap) w b->dQ ni (aj tI) W1 b/\ W1.heap[b]? =w.heap[b]? :=fun b hb=>by
    refine ⟨⟨hb.1.same (Ma b hb.1.lt),?_⟩,Ma b hb.1.lt⟩
    rintro (⟨m,h1,h2⟩|⟨m,S,h1,h2⟩)
    ·obtain ⟨o,ho⟩:=Option.isSome_iff_exists.1 h1
     rcases nI m o ho with ⟨h3,h4⟩|⟨rfl,rfl⟩|⟨rfl,rfl⟩
     ·rw [rz m h3] at h2
      exact hb.2 (.inl ⟨m,by simp [h4],h2⟩)
     ·rw [Kt] at h2;cases iA.1 h2
      have:=hb.1.lt;omega
     ·rw [hp2] at h2;cases iA.1 h2
    ·rcases nI m _ h1 with ⟨h3,h4⟩|⟨rfl,e⟩|⟨rfl,e⟩
     ·exact hb.2 (.inr ⟨m,S,h4,h2⟩)
     ·cases e
     ·cases e
   refine ⟨aa9,fun m o ho=> ?_,fun m o ho=> ?_,fun m m' b hm hm' fQ fc=> ?_,fun m b hm hb=> ?_,fun b ⟨m,S,h1,h2⟩=> ?_,fun m o ho=> ?_⟩
   rotate_right
   ·rcases nI m o ho with ⟨h1,h2⟩|⟨rfl,rfl⟩|⟨rfl,rfl⟩
    ·rw [rz m h1];exact bB.mA.st.s8 m o h2
    ·exact .inr (by rw [Kt])
    ·exact .inr (by rw [hp2])
   rotate_right
   ·rcases nI m _ h1 with ⟨_,h4⟩|⟨_,e⟩|⟨_,e⟩
    ·obtain ⟨h5,h6⟩:=bB.mA.st.sW b ⟨m,S,h4,h2⟩
     refine ⟨by rw [hS1];omega,fun ⟨n,h7,h8⟩=> ?_⟩
     obtain ⟨o,ho⟩:=Option.isSome_iff_exists.1 h7
     rcases nI n o ho with ⟨h9,Yu⟩|⟨rfl,rfl⟩|⟨rfl,rfl⟩
     ·rw [rz n h9] at h8
      exact h6 ⟨n,by simp [Yu],h8⟩
     ·rw [Kt] at h8;cases iA.1 h8;omega
     ·rw [hp2] at h8;cases iA.1 h8
    ·cases e
    ·cases e
   ·rcases nI m o ho with ⟨h1,h2⟩|⟨rfl,rfl⟩|⟨rfl,rfl⟩
    ·have hk:=bB.mA.st.kn m o h2
     exact cm (Kn:=(· <st.heap.length)) (bB.mA.st.at_ m o h2) (fun i hi=>rz i (by omega)) (by omega) hk.2 Ih (fun _ _ h=>h) fun b hb=>Ma b (WX m o b h2 hb)
    ·exact ⟨w.heap.size+1,by rw [Kt],by rw [hre];exact hL1⟩
    ·exact ⟨by rw [hp2],fun _ _=>rfl⟩
   ·rcases nI m o ho with ⟨h1,h2⟩|⟨rfl,rfl⟩|⟨rfl,rfl⟩
    ·exact ⟨by omega,aF.aT (fun i hi=>by omega) o (bB.mA.st.kn m o h2).2⟩
    ·exact ⟨by omega,trivial⟩
    ·exact ⟨by omega,fun i hi=>by omega⟩
   ·obtain ⟨o,ho⟩:=Option.isSome_iff_exists.1 hm
    obtain ⟨o',xE⟩:=Option.isSome_iff_exists.1 hm'
    rcases nI m o ho with ⟨h1,h2⟩|⟨rfl,rfl⟩|⟨rfl,rfl⟩
    ·rw [rz m h1] at fQ
     have hlt:=WX m o b h2 fQ
     rcases nI m' o' xE with ⟨h3,h4⟩|⟨rfl,rfl⟩|⟨rfl,rfl⟩
     ·rw [rz m' h3] at fc
      exact bB.mA.st.dV m m' b (by simp [h2]) (by simp [h4]) fQ fc
     ·rw [Kt] at fc;cases iA.1 fc;omega
     ·rw [hp2] at fc;cases iA.1 fc
    ·rw [Kt] at fQ;cases iA.1 fQ
     rcases nI m' o' xE with ⟨h3,h4⟩|⟨rfl,rfl⟩|⟨rfl,rfl⟩
     ·rw [rz m' h3] at fc
      have:=WX m' o' _ h4 fc;omega
     ·rfl
     ·rw [hp2] at fc;cases iA.1 fc
    ·rw [hp2] at fQ;cases iA.1 fQ
   ·obtain ⟨o,ho⟩:=Option.isSome_iff_exists.1 hm
    rcases nI m o ho with ⟨h1,h2⟩|⟨rfl,rfl⟩|⟨rfl,rfl⟩
    ·rw [rz m h1] at hb
     exact bB.mA.st.kq m b (by simp [h2]) hb
    ·rw [Kt] at hb;cases iA.1 hb
     have:=bB.mA.st.fr.size
     exact .inl (by omega)
    ·rw [hp2] at hb;cases iA.1 hb
  have Kw:=xS.Ce (N:=tI.length) fun m o ho=>⟨eo ho,(xS.kn m o ho).2⟩
  have hX3:=hX.Ce xS
  have hys:=Sl (P:=P) (ctx:=ctx) (Gj xD.1) (Gk xD.2) hrf.1 hrf.2 (ps:=ps) (tV:=st.tmps) (n0:=N) (l:=w.heap.size+1) (ni:=ni) (r:=r) (by rw [Kt]) (by rw [N5];exact ⟨rfl,rfl,rfl,rfl,rfl⟩)
   (by rw [N5];exact bB.mA.size) (fun t ht=>by
    rw [N5]
    show a.tmps.getD t undef=_
    rw [bB.mA.tmps t ht]
    exact (AV.bH (Kn:=(· <st.heap.length)) (fun i hi=>rz i (by omega)) _ (bB.mA.kn t)).symm) (fun t=>by have:=bB.mA.kn t;rwa [<- hN] at this)
  have hcap: ∀x∈cap.map vU,x.ok (· <st.heap.length):=fun x hx=>by
   obtain ⟨q,hq,rfl⟩:=List.mem_map.1 hx
   exact ID (hgk q hq)
  have Bc:=QH _ _ _ _ (h r ni) (by rw [<- hN];exact hys) (lb ay W ni (aj tI) W1) W1 ni W1 hX3 (by
    intro x hx
    rcases List.mem_cons.1 hx with rfl|hx
    ·show st.heap.length<_
     simp
    ·exact AV.aT (fun i hi=>by simp;omega) x (hcap x hx)) (by
    have:st.heap++ [aF.loop r .ready none,.dO ni (st.heap.length+1)]=tI:=by simp only [tI,hN]
    rw [this];exact Kw)
  refine ⟨w.heap.size+1,[nM w.heap.size],W1,{target:= .fn (.func f) (cap.map (Ref.af ρ)).toArray,args:= #[.func (.yield (w.heap.size+1)) #[] #[]]},W1,f,#[.func (.yield (w.heap.size+1)) #[] #[]]++(cap.map (Ref.af ρ)).toArray,W1,?_,?_,fun _ _=>trivial,?_,fun h=>by simp [fw] at h,uf ?_⟩
  ·have:=run_enterLoop_outer (P:=P) (w:=w) fn a.tmps ps assign body
   rw [X3,N5];exact this
  ·simp only [resolve,nj,AV.af,A0.af,Cell.af]
   simp [go_sem]
  ·simp only [invoke,Sem.run_bind,Sem.run_pure,Result.andThen_ok]
   have:=TW (#[.func (.yield (w.heap.size+1)) #[] #[]]++(cap.map (Ref.af ρ)).toArray) W1
   simpa using this
  have WI:(((AV.v (.one (.Hl st.heap.length))::cap.map vU).map (AV.af ni)).toArray:Array Value)= #[.func (.yield (w.heap.size+1)) #[] #[]]++(cap.map (Ref.af ρ)).toArray:=by
   apply Array.ext'
   simp only [List.map_cons,List.map_map,AV.af,A0.af,Cell.af,<- hN,Kt,Array.toList_append,List.cons_append,List.nil_append,List.cons.injEq,true_and]
   refine List.map_congr_left fun q hq=> ?_
   show (vU q).af ni=q.af ρ
   rw [pW]
   exact Ref.bH (Kn:=(· <st.heap.length)) (fun i hi=>rz i (by omega)) q (hgk q hq)
  rw [WI] at Bc
  refine Bc.mono ?_
  rintro e w' ⟨Dl,ρ',v,rfl,_,hR,Ub⟩
  unfold Ml at hR
  obtain ⟨hpe,hR⟩:=fK hR
  rw [<- hN] at hpe hR
  have pP: ∀i,i<N+1->ρ' i=ni i:=(Ub.at_ _ _ hpe).2
  have hlN:(ρ' N).bW=some (w.heap.size+1):=by rw [pP N (by omega),Kt]
  have acP:=eo hpe
  have behind: ∀(r':Loop) (s:LoopState) (j:Option Code),aj Dl.heap N=some (.loop r' s j)->s≠ .busy->
    (Instr.endLoop (w.heap.size+1)).run P w'= .ok j (w'.putObj (w.heap.size+1) (.loop {r' with state:= .exhausted,pending:=j}))/\
    At ay W ⟨st.tmps,(Dl.heap.set N .gone).set (N+1) .gone⟩ ρ' {a with defers:= [nM w.heap.size]++a.defers} (w'.putObj (w.heap.size+1) (.loop {r' with state:= .exhausted,pending:=j})):=by
   intro r' s j hj hs
   obtain ⟨l,hl,zL⟩:=Ub.at_ _ _ hj
   rw [hlN] at hl;cases hl
   refine ⟨run_endLoop zL hs,w.heap.size::ds,?_,?_,?_⟩
   ·refine List.nodup_cons.2 ⟨fun hm=> ?_,bB.nd⟩
    have:=(Array.getElem?_eq_some_iff.1 (bB.dd _ hm).2).1
    omega
   ·intro D hD
    have Yv:W.heap.size<=D/\ W1.heap[D]? =some (.deferred (some [])):=by
     rcases List.mem_cons.1 hD with rfl|hD
     ·exact ⟨bB.mA.st.fr.size,hD1⟩
     ·have h1:=bB.dd D hD
      exact ⟨h1.1,by rw [Ma D (Array.getElem?_eq_some_iff.1 h1.2).1];exact h1.2⟩
    refine ⟨Yv.1,?_⟩
    have hne:D≠w.heap.size+1:=by
     rintro rfl
     have:=Yv.2;rw [hL1] at this;cases this
    rw [World.putObj_heap_other hne,Ub.fr.block D (Array.getElem?_eq_some_iff.1 Yv.2).1 (Mi xS Yv.2)]
    exact Yv.2
   ·have abF:=((xS.SU Ub).Rt hj hlN (.loop {r' with state:= .exhausted,pending:=j})).VQ (N+1)
    refine ⟨fun t ht=> ?_,bB.mA.size,?_,fun t=> ?_,abF⟩
    ·have h1:=bB.mA.tmps t ht
     rw [show ({a with defers:= [nM w.heap.size]++a.defers} :Act).tmps=a.tmps from rfl,h1]
     exact (AV.bH (Kn:=(· <st.heap.length)) (fun i hi=>by rw [pP i (by omega),rz i (by omega)]) _ (bB.mA.kn t)).symm
    ·simp [bB.mA.defers]
    ·refine AV.aT (fun i hi=> ?_) _ (bB.mA.kn t)
     rw [tj,tj];omega
  split at hR
  ·rename_i r' hj
   obtain ⟨h1,h2⟩:=behind _ _ _ hj (by simp)
   exact ⟨_,_,h1,_,ρ',hR,h2⟩
  ·rename_i r' hj
   obtain ⟨h1,h2⟩:=behind _ _ _ hj (by simp)
   exact ⟨_,_,h1,wpIn_ret ⟨_,ρ',hR,h2⟩⟩
  ·rename_i r' id hj
   obtain ⟨h1,h2⟩:=behind _ _ _ hj (by simp)
   exact ⟨_,_,h1,wpIn_exit ⟨_,ρ',hR,h2⟩⟩
  ·exact hR.elim
 |scope=>intro _ ay W ro n hX _ st K h;exact h.elim
 |label=>intro _ ay W ro n hX _ st K h;exact h.elim
 |goto=>intro _ ay W ro n hX _ st K h;exact h.elim
 |refuse=>intro _ ay W ro n hX _ st K h;exact h.elim
end
end Go.Ev
