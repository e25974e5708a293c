/- Code and functions, out of the condition 'codeE'. -/
import Derived.Test.YtbjfokijjefoeaaGreatEvG
import Derived.RangeFuncLeaves
import Derived.RangeFuncRecord
noncomputable section
set_option linter.unusedSectionVars false
set_option linter.unusedVariables false
set_option linter.unusedSimpArgs false
namespace Go.Ev
open Go.RowKit
def lb (ax:kz) (W:World) (ρ:Env) (Γ:HP) (w:World):kz:= {wr:=fun b=>LOb ρ Γ b\/ ((W.heap.size<=b\/ ax b)/\ bA w b),nw:=Fh ax W}
theorem Ho {fz pm:Nat->Prop} {ρ:Env} {n b:Nat} {o:aI} {w:World} (h:bh fz pm ρ n o w) (hb:(ρ n).bq=some b): ∀x,w.heap[b]? ≠some (.deferred x):=by
 intro x
 cases o with
 |cells cs e=>obtain ⟨b',hb',hh⟩:=h;rw [hb] at hb';cases hb';rw [hh];simp
 |row t l rk=>
  obtain ⟨_,_,_,sub,_,_,h3,h4⟩:=h
  by_cases e:rk=0
  ·rw [h3 e] at hb;cases hb
  ·rcases h4 e with ⟨h5,_⟩|⟨b',pre,rest,e,h5,_,h6,_⟩
   ·rw [h5] at hb;cases hb
   ·rw [hb] at h5;cases h5;rw [h6];simp
 |alias m s q=>rw [h.1] at hb;cases hb
 |gone=>exact h.elim
 |loop r s j=>obtain ⟨b',hb',hh⟩:=h;rw [hb] at hb';cases hb';rw [hh];simp
 |gU jD n0=>rw [h.1] at hb;cases hb
 |cK S=>rw [show (ρ n).bq=none from h] at hb;cases hb
 |map ka va k v l=>obtain ⟨_,_,b',es,dI,hb',hh,_⟩:=h;rw [hb] at hb';cases hb';rw [hh];simp
 |oQ ka k u l c q=>obtain ⟨_,_,_,b',es,dI,hb',hh,_⟩:=h;rw [hb] at hb';cases hb';rw [hh];simp
 |set m=>rw [h.1] at hb;cases hb
 |gv m c k u x l=>rw [h.1] at hb;cases hb
 |rc cs=>rw [h.1] at hb;cases hb
 |dp t l c st kn=>rw [h.1] at hb;cases hb
 |nv m c j q u=>rw [h.1] at hb;cases hb
 |hmap es dI=>obtain ⟨b',hb',hh⟩:=h;rw [hb] at hb';cases hb';rw [hh];simp
 |xq m c es dI ka k u l cur=>obtain ⟨_,_,_,b',_,_,_,hb',hh,_⟩:=h;rw [hb] at hb';cases hb';rw [hh];simp
theorem T3 {ax:kz} {W:World} {ρ:Env} {Kn:Nat->Prop} {Γ:HP} {w:World} (h:St ax W ρ Kn Γ w) {b:Nat} {x:Option (List Deferred)} (hb:w.heap[b]? =some (.deferred x)): ¬lb ax W ρ Γ w b:=by
 rintro (⟨m,h1,h2⟩|⟨_,cs,e,f,h2⟩)
 ·obtain ⟨o,ho⟩:=Option.isSome_iff_exists.1 h1
  rcases h.afG m b h1 h2 with h2|⟨cs,e,f,h2⟩
  ·exact Ho (h.at_ m o ho) h2 _ hb
  ·rw [hb] at h2;cases h2
 ·rw [hb] at h2;cases h2
section
variable {ax:kz} {W:World} {ρ:Env} {Kn:Nat->Prop} {Γ:HP} {w:World}
theorem St.Ik {N:Nat} (h:St ax W ρ Kn Γ w) (hN: ∀m o,Γ m=some o->m<N/\ o.ok (· <N)):St (lb ax W ρ Γ w) w ρ (· <N) Γ w:=
 ⟨Fr.refl _ _,fun n o ho=>ct (Kn:=(· <N)) (h.at_ n o ho) (fun _ _=>rfl) (hN n o ho).1 (hN n o ho).2 (fun _ hb=>⟨hb,rfl⟩) (fun b h1 h2=> .inr (.inr h2)) (fun _ _=>rfl),hN,h.dK,fun n b hn hb=> .inr (.inl ⟨n,hn,hb⟩),h.zo,h.yl⟩
theorem adh (h:St ax W ρ Kn Γ w) {b:Nat} (hb:lb ax W ρ Γ w b):W.heap.size<=b\/ ax b:=by
 rcases hb with ⟨m,h1,h2⟩|⟨h1,_⟩
 ·exact h.oF m b h1 h2
 ·exact h1
theorem Dy.Ik {X:Addr->Value->Prop} (hX:Dy ax W X) (h:St ax W ρ Kn Γ w):Dy (lb ax W ρ Γ w) w X:=fun a v hx=>by
 obtain ⟨h1,h2,_⟩:=hX a v hx
 refine ⟨Nat.lt_of_lt_of_le h1 h.fr.size,fun hm=> ?_,hX.cell h.fr hx⟩
 rcases adh h hm with h5|h5
 ·omega
 ·exact h2 h5
theorem St.aaJ {ρ':Env} {FX:Nat->Prop} {ru:HP} {w':World} (h:St ax W ρ Kn Γ w) (h':St (lb ax W ρ Γ w) w ρ' FX ru w'):St ax W ρ' FX ru w':=by
 have hs:=h.fr.size
 have own: ∀b,lb ax W ρ Γ w b->W.heap.size<=b\/ ax b:=fun b hb=>adh h hb
 have pm: ∀b,Fh (lb ax W ρ Γ w) w b->Fh ax W b:=fun b hb=>by
  rcases hb with h1|h1|h1
  ·exact .inl (by omega)
  ·exact (own b h1).imp_right .inl
  ·exact h1
 refine ⟨⟨h'.fr.os.trans h.fr.os,h'.fr.tape.trans h.fr.tape,h'.fr.output.trans h.fr.output,Nat.le_trans hs h'.fr.size,fun k hk hn=> ?_,Nat.le_trans h.fr.QL h'.fr.QL⟩,fun n o ho=> ?_,h'.kn,h'.dK,fun n b hn hb=>(h'.oF n b hn hb).elim (fun h1=> .inl (by omega)) (own b),h'.zo,h'.yl⟩
 ·rw [h'.fr.block k (by omega) fun hm=>(own k hm).elim (fun h=>by omega) hn]
  exact h.fr.block k hk hn
 ·exact ct (Kn:=FX) (h'.at_ n o ho) (fun _ _=>rfl) (h'.kn n o ho).1 (h'.kn n o ho).2 (fun _ hb=>⟨hb,rfl⟩) (fun b _ h2=>pm b h2) fun _ _=>rfl
theorem St.put {l:Nat} {o:Obj} {ru:HP} (h:St ax W ρ Kn Γ w) (hl:W.heap.size<=l\/ ax l) (hc: ¬bA w l) (hs: ∀m p,ru m=some p->((ρ m).bq=some l-> ∀fz pm,bh fz pm ρ m p (w.putObj l o))/\ ((ρ m).bq≠some l->Γ m=some p)/\ (Γ m).isSome=true/\ Kn m/\ p.ok Kn):
  St ax W ρ Kn ru (w.putObj l o):=by
 have hsome: ∀n,(ru n).isSome=true->(Γ n).isSome=true:=fun n hn=>by
  obtain ⟨p,hp⟩:=Option.isSome_iff_exists.1 hn
  exact (hs n p hp).2.2.1
 have yf: ∀b,HI ru b->HI Γ b:=fun b ⟨m,S,h1,h2⟩=>by
  refine ⟨m,S,(hs m _ h1).2.1 fun e=> ?_,h2⟩
  have:=(hs m _ h1).1 e (fun _=>True) (fun _=>True)
  rw [show (ρ m).bq=Option.none from this] at e;cases e
 have hfz: ∀b,gW ρ Γ w b->gW ρ ru (w.putObj l o) b/\ (w.putObj l o).heap[b]? =w.heap[b]? :=fun b hb=>by
  have hne:b≠l:=by rintro rfl;exact hc hb.1
  have e:(w.putObj l o).heap[b]? =w.heap[b]? :=World.putObj_heap_other hne
  refine ⟨⟨hb.1.same e,?_⟩,e⟩
  rintro (⟨m,h1,h2⟩|⟨m,S,h1,h2⟩)
  ·exact hb.2 (.inl ⟨m,hsome m h1,h2⟩)
  ·exact hb.2 (.inr (yf b ⟨m,S,h1,h2⟩))
 refine ⟨⟨h.fr.os,h.fr.tape,h.fr.output,by rw [World.putObj_size];exact h.fr.size,fun k hk hn=> ?_,h.fr.QL⟩,fun n p hp=> ?_,fun n p hp=>(hs n p hp).2.2.2,fun n m b hn hm=>h.dK n m b (hsome n hn) (hsome m hm),fun n b hn=>h.oF n b (hsome n hn),fun b hh=> ?_,fun n p hp=> ?_⟩
 rotate_right
 ·by_cases e:(ρ n).bq=some l
  ·obtain ⟨p0,YK⟩:=Option.isSome_iff_exists.1 (hs n p hp).2.2.1
   rcases h.yl n p0 YK with ⟨g,rfl⟩|he
   ·rw [(h.at_ n _ YK).1] at e;cases e
   ·exact .inr he
  ·exact h.yl n p ((hs n p hp).2.1 e)
 rotate_right
 ·obtain ⟨h3,h4⟩:=h.zo b (yf b hh)
  exact ⟨by rw [World.putObj_size];exact h3,fun ⟨n,h5,h6⟩=>h4 ⟨n,hsome n h5,h6⟩⟩
 ·rw [World.putObj_heap_other (by rintro rfl;exact hl.elim (fun h=>by omega) hn)]
  exact h.fr.block k hk hn
 ·obtain ⟨h1,h2,_,h4,h5⟩:=hs n p hp
  by_cases e:(ρ n).bq=some l
  ·exact h1 e _ _
  ·exact ct (Kn:=Kn) (h.at_ n p (h2 e)) (fun _ _=>rfl) h4 h5 hfz (fun _ _ h=>h) fun b hb=>World.putObj_heap_other (by rintro rfl;exact (h.afG n _ (by rw [h2 e];rfl) hb).elim e hc)
end
def qL (D:Nat):Deferred:= {target:= .collected D,args:= #[]}
structure AtD (ax:kz) (W:World) (ds:List Nat) (st:AS) (ρ:Env) (a:Act) (w:World):Prop where
 nd:ds.Nodup
 dd: ∀D∈ds,W.heap.size<=D/\ w.heap[D]? =some (.deferred (some []))
 pK:qv ax W (ds.map qL) st ρ a w
def FU (ax:kz) (W:World) (st:AS) (ρ:Env) (a:Act) (w:World):Prop:= ∃ds,AtD ax W ds st ρ a w
section
variable {ax:kz} {W:World} {ds:List Nat} {st:AS} {ρ:Env} {a:Act} {w:World}
theorem AtD.base (h:AtD ax W ds st ρ a w):qv (lb ax W ρ (aq st.heap) w) w (ds.map qL) st ρ a w:=
 ⟨h.pK.tmps,h.pK.size,h.pK.defers,h.pK.kn,h.pK.st.Ik fun m o ho=>⟨iC ho,(h.pK.st.kn m o ho).2⟩⟩
theorem AtD.back {st':AS} {ρ':Env} {a':Act} {w':World} (h:AtD ax W ds st ρ a w) (h':qv (lb ax W ρ (aq st.heap) w) w (ds.map qL) st' ρ' a' w'):AtD ax W ds st' ρ' a' w':=by
 refine ⟨h.nd,fun D hD=>⟨(h.dd D hD).1,?_⟩,⟨h'.tmps,h'.size,h'.defers,h'.kn,h.pK.st.aaJ h'.st⟩⟩
 have h1:=(h.dd D hD).2
 rw [h'.st.fr.block D (Array.getElem?_eq_some_iff.1 h1).1 (T3 h.pK.st h1)]
 exact h1
theorem FU.weak (h:FU ax W st ρ a w) {st':AS} (hw:vn st st'): ∃ρ',FU ax W st' ρ' a w:=by
 obtain ⟨ds,h⟩:=h
 obtain ⟨ρ',h'⟩:=h.pK.weak hw
 exact ⟨ρ',ds,h.nd,h.dd,h'⟩
theorem FU.eval (h:FU ax W st ρ a w) (x:Operand) (hx:oP st.tmps x≠ .dead):a.eval x=(oP st.tmps x).af ρ:=by
 obtain ⟨ds,h⟩:=h
 exact h.pK.eval x hx
end
def Post (ax:kz) (W:World) (K:Exit->AS->Prop):Exit->Act->World->Prop:=
 fun e a w=> ∃st ρ,K e st/\ FU ax W st ρ a w
def s5 (P:Program) (ctx:Ctx):Code->Prop
 | .seq a b=>s5 P ctx a/\ s5 P ctx b
 | .cond _ a b=>s5 P ctx a/\ s5 P ctx b
 | .loop c=>s5 P ctx c
 | .rangeFunc _ _ a b=>s5 P ctx a/\ s5 P ctx b
 | .block id c=>match aG ctx.lp id with
  |none=>s5 P ctx c
  |some sp=> ∀ax W ro n,Dy ax W ctx.X->(ro=none\/ mN c=true)-> ∀st K,sp st K-> ∀ρ a w,FU ax W st ρ a w->(Code.block id c).wpIn (fw ro) n P (Post ax W K) a w
 |_=>True
section
variable {P:Program} {ctx:Ctx} {ax:kz} {W:World}
theorem Gb {ro:Option Nat} {n id:Nat} {c:Code} {K:Exit->AS->Prop} {a:Act} {w:World} (h:c.wpIn (fw ro) n P (Post ax W (mA id K)) a w):(Code.block id c).wpIn (fw ro) n P (Post ax W K) a w:=by
 refine wpIn_block (wpIn_mono h ?_)
 rintro e a' w' ⟨st',ρ',hk,mC⟩
 cases e with
 |exit id'=>
  simp only [Exit.inBlock]
  simp only [mA] at hk
  split at hk
  ·rename_i e;rw [if_pos e];exact ⟨st',ρ',hk,mC⟩
  ·rename_i e;rw [if_neg e];exact ⟨st',ρ',hk,mC⟩
 |_=>exact ⟨st',ρ',hk,mC⟩
def lJ (K:Exit->AS->Prop) (e:Exit) (st:AS):Prop:= ∃st',vn st st'/\ K e st'
theorem Ww {K:Exit->AS->Prop} {e:Exit} {a:Act} {w:World} (h:Post ax W (lJ K) e a w):Post ax W K e a w:=by
 obtain ⟨st,ρ,⟨st',hw,hk⟩,br⟩:=h
 obtain ⟨ρ',mC⟩:=br.weak hw
 exact ⟨st',ρ',hk,mC⟩
theorem GZ {o:Option aI} {r:Loop} {K:Prop} (h:TY o r K):o=some (.loop r .ready none)/\ K:=by
 unfold TY at h
 split at h
 ·obtain ⟨rfl,h⟩:=h;exact ⟨rfl,h⟩
 ·exact h.elim
theorem OO {o:Option aI} {r:Loop} {K:Prop} (h:RP o r K):o=some (.loop r .busy none)/\ K:=by
 unfold RP at h
 split at h
 ·obtain ⟨rfl,h⟩:=h;exact ⟨rfl,h⟩
 ·exact h.elim
theorem BM: ∀(ts:List Nat) (l vs:List AV),(BL l ts vs).length=l.length
 | [],l,vs=>by cases vs<;>rfl
 |t::ts,l,[]=>rfl
 |t::ts,l,v::vs=>by simp [BL,BM ts]
theorem Iy (ρ:Env): ∀(ts:List Nat) (l vs:List AV) (tm:Array Value),tm.size=l.length->(∀t,dM l t≠ .dead->tm.getD t undef=(dM l t).af ρ)->
  ((ts.zip (vs.map (AV.af ρ))).foldl (fun (t:Array Value) p=>t.setIfInBounds p.1 p.2) tm).size=l.length/\
  ∀t,dM (BL l ts vs) t≠ .dead->((ts.zip (vs.map (AV.af ρ))).foldl (fun (t:Array Value) p=>t.setIfInBounds p.1 p.2) tm).getD t undef=(dM (BL l ts vs) t).af ρ
 | [],l,vs,tm,hs,h=>by cases vs<;>exact ⟨hs,h⟩
 |t::ts,l,[],tm,hs,h=>⟨hs,h⟩
 |t::ts,l,v::vs,tm,hs,h=>by
  simp only [BL,List.map_cons,List.zip_cons_cons,List.foldl_cons]
  have:=Iy ρ ts (l.set t v) vs (tm.setIfInBounds t (v.af ρ)) (by simp [hs]) (fun u hu=>by
   rw [Hl] at hu ⊢
   simp only [Array.getD_eq_getD_getElem?,Array.getElem?_setIfInBounds]
   by_cases e:t=u
   ·subst e
    by_cases h2:t<l.length
    ·simp [hs,h2]
    ·have h0:=h t (by simpa [h2] using hu)
     simp only [h2,and_false,if_false]
     rw [<- h0]
     simp [hs,h2,Array.getD_eq_getD_getElem?]
   ·have h0:=h u (by simpa [Ne.symm e] using hu)
    rw [if_neg e,if_neg (by rintro ⟨rfl,_⟩;exact e rfl),<- h0,Array.getD_eq_getD_getElem?])
  simpa using this
theorem Qc {Kn:Nat->Prop} : ∀(ts:List Nat) (l vs:List AV),(∀t,(dM l t).ok Kn)->(∀v∈vs,v.ok Kn)-> ∀t,(dM (BL l ts vs) t).ok Kn
 | [],l,vs,h,_=>by cases vs<;>exact h
 |t::ts,l,[],h,_=>h
 | t::ts,l,v::vs,h,hv=>Qc ts (l.set t v) vs (fun u=>by
   rw [Hl];split
   ·exact hv v (by simp)
   ·exact h u) fun x hx=>hv x (by simp [hx])
theorem Km (ps:Array Nat) (vs:List Value) (tm:Array Value):(ps.zip vs.toArray).foldl (fun (t:Array Value) (p:Nat×Value)=>t.setIfInBounds p.1 p.2) tm=(ps.toList.zip vs).foldl (fun t p=>t.setIfInBounds p.1 p.2) tm:=by
 rw [<- Array.foldl_toList];simp
end
end Go.Ev
namespace Go.Ev
open Go.RowKit
section
variable {P:Program} {ctx:Ctx} {ax:kz} {W:World}
def Snd (P:Program) (ctx:Ctx) (c:Code):Prop:= ∀ax W ro n,Dy ax W ctx.X->(ro=none\/ mN c=true)-> ∀st K,dx ctx c st K-> ∀ρ a w,FU ax W st ρ a w->c.wpIn (fw ro) n P (Post ax W K) a w
theorem St.T7 {ax:kz} {W:World} {ρ:Env} {h:List aI} {w:World} {n l:Nat} {r:Loop} {s:LoopState} {j:Option Code} (hst:St ax W ρ (· <h.length) (aq h) w) (hn:aq h n=some (.loop r s j)) (hl:(ρ n).bq=some l)
  (s':LoopState) (j':Option Code):St ax W ρ (· <h.length) (aq (h.set n (.loop r s' j'))) (w.putObj l (.loop {r with state:=s',pending:=j'})):=by
 have hlt:=iC hn
 have hw:l<w.heap.size:=Hp (hst.at_ n _ hn) hl
 have hown:=hst.own n l (by simp [hn]) hl
 refine hst.put hown (fun hc=> ?_) fun m p hp=> ?_
 ·obtain ⟨b,hb,hh⟩:=hst.at_ n _ hn
  rw [hl] at hb;cases hb
  obtain ⟨cs,e,f,h2⟩:=hc
  rw [hh] at h2;cases h2
 rw [bO,List.getElem?_set] at hp
 by_cases e:n=m
 ·subst e
  rw [if_pos rfl,if_pos hlt] at hp
  cases hp
  exact ⟨fun _ _ _=>⟨l,hl,World.putObj_heap_same hw⟩,fun h=>absurd hl h,by simp [hn],hlt,trivial⟩
 ·rw [if_neg e,←bO] at hp
  have hk:=hst.kn m p hp
  exact ⟨fun h1=>absurd (hst.inj n m l (by simp [hn]) (by simp [hp]) hl h1) e,fun _=>hp,by simp [hp],hk.1,hk.2⟩
theorem St.Za {ax:kz} {W:World} {ρ:Env} {h:List aI} {w:World} {n l:Nat} {r:Loop} {s:LoopState} {j:Option Code} (hst:St ax W ρ (· <h.length) (aq h) w) (hn:aq h n=some (.loop r s j)) (hl:(ρ n).bq=some l) (o:Obj):
  St ax W ρ (· <(h.set n .gone).length) (aq (h.set n .gone)) (w.putObj l o):=by
 have hlt:=iC hn
 have hown:=hst.own n l (by simp [hn]) hl
 rw [List.length_set]
 refine hst.put hown (fun hc=> ?_) fun m p hp=> ?_
 ·obtain ⟨b,hb,hh⟩:=hst.at_ n _ hn
  rw [hl] at hb;cases hb
  obtain ⟨cs,e,f,h2⟩:=hc
  rw [hh] at h2;cases h2
 rw [bO,List.getElem?_set] at hp
 by_cases e:n=m
 ·subst e
  rw [if_pos rfl,if_pos hlt] at hp
  cases hp
 ·rw [if_neg e,←bO] at hp
  have hk:=hst.kn m p hp
  exact ⟨fun h1=>absurd (hst.inj n m l (by simp [hn]) (by simp [hp]) hl h1) e,fun _=>hp,by simp [hp],hk.1,hk.2⟩
theorem xY {h:List aI} {n:Nat} {o:aI} :(h.set n o).length=h.length:=List.length_set
theorem aae {assign body:Code} (ha:Snd P ctx assign) (hb:Snd P ctx body) (hra:mN assign=true) (hrb:mN body=true) {ps:Array Tmp} {yZ:List AV} {n0 l:Nat} {oN:Env} {r:Loop} (hl:(oN n0).bq=some l)
  (hr:r.state= .ready/\ r.pending=none/\ r.params=ps/\ r.assign=assign/\ r.body=body) (hts:r.tmps.size=yZ.length) (htm: ∀t,dM yZ t≠ .dead->r.tmps.getD t undef=(dM yZ t).af oN) (htk: ∀t,(dM yZ t).ok (· <n0)):
  y9 P [(n0,acG ctx.X n0 yZ r oN ps (dx ctx assign) (dx ctx body))]:=by
 intro n s hs X args hp nm k h
 unfold aG at hs
 split at hs
 rotate_left
 ·cases hs
 rename_i en
 subst en
 cases hs
 unfold acG at h
 obtain ⟨hXX,h⟩:=h
 subst hXX
 split at h
 rotate_left
 ·exact h.elim
 rename_i hsz
 obtain ⟨hp1,h⟩:=mL h
 obtain ⟨YK,h⟩:=GZ h
 intro ro m ax W ρ w hX hargs hst
 have RA:=hst.at_ _ _ hp1
 have afE: ∀i,i<n0+1->ρ i=oN i:=RA.2
 have hln:(ρ n0).bq=some l:=by rw [afE n0 (by omega)];exact hl
 obtain ⟨l',hl',VS⟩:=hst.at_ _ _ YK
 rw [hln] at hl';cases hl'
 have hre:({r with state:= .ready,pending:=none} :Loop)=r:=by cases r;simp only at hr;obtain ⟨rfl,rfl,_⟩:=hr;rfl
 rw [hre] at VS
 have hn0:n0+1<nm:=(hst.kn _ _ hp1).1
 have Kq: ∀m,hp m≠some .gone:=fun m e=>hst.at_ m _ e
 have hkl: ∀m,(hp m).isSome=true->m<nm:=fun m hm=>by
  obtain ⟨o,ho⟩:=Option.isSome_iff_exists.1 hm
  exact (hst.kn m o ho).1
 refine ⟨l,r.fn,(r.params.zip (args.map (AV.af ρ)).toArray).foldl (fun tmps (x:Tmp×Value)=>tmps.setIfInBounds x.1 x.2) r.tmps,assign,body,hln,?_,?_⟩
 ·have:=run_yield (P:=P) (args:=(args.map (AV.af ρ)).toArray) VS (by simp [hr.2.2.1,hsz])
  rw [this,hr.2.2.2.1,hr.2.2.2.2]
 let DL:=lA hp nm++ [aI.gU ρ nm]
 let Jn:=aY ρ nm {}
 have h3l:DL.length=nm+1:=by simp [DL,b8]
 have jG: ∀m,m<nm->Jn m=ρ m:=fun m hm=>by simp only [Jn,aY];rw [if_neg (by omega)]
 have Ft: ∀m o,aq DL m=some o->(m<nm/\ hp m=some o)\/ (m=nm/\ o= .gU ρ nm):=by
  intro m o ho
  rw [bO] at ho
  rcases Nat.lt_or_ge m nm with h1|h1
  ·rw [List.getElem?_append_left (by rw [b8];exact h1),D0 h1 (Kq m)] at ho
   exact .inl ⟨h1,ho⟩
  ·have:m<DL.length:=iC (by rw [bO];exact ho)
   have:m=nm:=by omega
   subst this
   rw [List.getElem?_append_right (by rw [b8];exact Nat.le_refl _),b8] at ho
   simp only [Nat.sub_self,List.getElem?_cons_zero,live,Option.some.injEq] at ho
   exact .inr ⟨rfl,ho.symm⟩
 have adU: ∀b,gW ρ hp w b->gW Jn (aq DL) w b/\ w.heap[b]? =w.heap[b]? :=fun b hb=>by
  refine ⟨⟨hb.1,?_⟩,rfl⟩
  rintro (⟨m,h1,h2⟩|⟨m,S,h1,h2⟩)
  ·obtain ⟨o,ho⟩:=Option.isSome_iff_exists.1 h1
   rcases Ft m o ho with ⟨h3,h4⟩|⟨rfl,rfl⟩
   ·rw [jG m h3] at h2
    exact hb.2 (.inl ⟨m,by simp [h4],h2⟩)
   ·simp [Jn,aY] at h2
  ·rcases Ft m _ h1 with ⟨h3,h4⟩|⟨rfl,e⟩
   ·exact hb.2 (.inr ⟨m,S,h4,h2⟩)
   ·cases e
 have RD:St ax W Jn (· <DL.length) (aq DL) w:=by
  refine ⟨hst.fr,fun m o ho=> ?_,fun m o ho=> ?_,fun m m' b hm hm' gS iQ=> ?_,fun m b hm hb=> ?_,fun b ⟨m,S,h1,h2⟩=> ?_,fun m o ho=> ?_⟩
  rotate_right
  ·rcases Ft m o ho with ⟨h1,h2⟩|⟨rfl,rfl⟩
   ·rw [jG m h1];exact hst.yl m o h2
   ·exact .inr (by simp [Jn,aY])
  rotate_right
  ·rcases Ft m _ h1 with ⟨_,h4⟩|⟨_,e⟩
   ·obtain ⟨h5,h6⟩:=hst.zo b ⟨m,S,h4,h2⟩
    refine ⟨h5,fun ⟨n,h7,h8⟩=> ?_⟩
    obtain ⟨o,ho⟩:=Option.isSome_iff_exists.1 h7
    rcases Ft n o ho with ⟨h9,VK⟩|⟨rfl,rfl⟩
    ·rw [jG n h9] at h8
     exact h6 ⟨n,by simp [VK],h8⟩
    ·simp [Jn,aY] at h8
   ·cases e
  ·rcases Ft m o ho with ⟨h1,h2⟩|⟨rfl,rfl⟩
   ·have hk:=hst.kn m o h2
    exact ct (Kn:=(· <nm)) (hst.at_ m o h2) jG h1 hk.2 adU (fun _ _ h=>h) fun _ _=>rfl
   ·exact ⟨by simp [Jn,aY],jG⟩
  ·rcases Ft m o ho with ⟨h1,h2⟩|⟨rfl,rfl⟩
   ·exact ⟨by rw [h3l];omega,aI.bg (fun i hi=>by rw [h3l];omega) o (hst.kn m o h2).2⟩
   ·exact ⟨by rw [h3l];omega,fun i hi=>by rw [h3l];omega⟩
  ·obtain ⟨o,ho⟩:=Option.isSome_iff_exists.1 hm
   obtain ⟨o',yx⟩:=Option.isSome_iff_exists.1 hm'
   rcases Ft m o ho with ⟨h1,h2⟩|⟨rfl,rfl⟩
   ·rcases Ft m' o' yx with ⟨h3,h4⟩|⟨rfl,rfl⟩
    ·rw [jG m h1] at gS;rw [jG m' h3] at iQ
     exact hst.dK m m' b (by simp [h2]) (by simp [h4]) gS iQ
    ·simp [Jn,aY] at iQ
   ·simp [Jn,aY] at gS
  ·obtain ⟨o,ho⟩:=Option.isSome_iff_exists.1 hm
   rcases Ft m o ho with ⟨h1,h2⟩|⟨rfl,rfl⟩
   ·rw [jG m h1] at hb
    exact hst.oF m b (by simp [h2]) hb
   ·simp [Jn,aY] at hb
 have air: ∀t,dM yZ t≠ .dead->r.tmps.getD t undef=(dM yZ t).af Jn:=fun t ht=>by
  rw [htm t ht]
  refine (AV.cg (Kn:=(· <n0)) (fun i hi=> ?_) _ (htk t)).symm
  rw [jG i (by omega),afE i (by omega)]
 have Yv:args.map (AV.af ρ)=args.map (AV.af Jn):=List.map_congr_left fun x hx=>(AV.cg (Kn:=(· <nm)) jG x (hargs x hx)).symm
 obtain ⟨hs1,hs2⟩:=Iy Jn ps.toList yZ args r.tmps hts air
 have ahP:FU ax W ⟨BL yZ ps.toList args,DL⟩ Jn {tmps:=(r.params.zip (args.map (AV.af ρ)).toArray).foldl (fun tmps (x:Tmp×Value)=>tmps.setIfInBounds x.1 x.2) r.tmps,defers:= []} w:=by
  refine ⟨[],List.nodup_nil,fun D hD=>absurd hD (by simp),⟨fun t ht=> ?_,?_,rfl,fun t=> ?_,RD⟩⟩
  ·dsimp only
   rw [hr.2.2.1,Yv,Km]
   exact hs2 t ht
  ·dsimp only
   rw [hr.2.2.1,Yv,Km,BM]
   exact hs1
  ·refine Qc _ _ _ (fun t=>AV.bg (fun i hi=> ?_) _ (htk t)) (fun v hv=>AV.bg (fun i hi=> ?_) _ (hargs v hv)) t<;>(dsimp only;rw [h3l];omega)
 refine roundIn_of_wpIn trivial ?_
 refine wpIn_mono (ha ax W (some l) m hX (.inr hra) _ _ (h ρ) Jn _ w ahP) ?_
 rintro e a1 w1 ⟨rZ,ρ',YF,iP⟩
 cases e<;>try exact YF.elim
 obtain ⟨hq1,YF⟩:=mL YF
 obtain ⟨hq0,YF⟩:=GZ YF
 obtain ⟨ds1,iP⟩:=iP
 have ahO: ∀i,i<nm->ρ' i=ρ i:=(iP.pK.st.at_ _ _ hq1).2
 have hl1:(ρ' n0).bq=some l:=by rw [ahO n0 (by omega)];exact hln
 obtain ⟨l1,af0,ac7⟩:=iP.pK.st.at_ _ _ hq0
 rw [hl1] at af0;cases af0
 refine ⟨_,run_beginRound ac7 rfl,?_⟩
 have ain:=iP.pK.st.T7 hq0 hl1 .busy none
 have hD: ∀D∈ds1,D≠l:=by
  rintro D hD rfl
  have:=(iP.dd D hD).2
  rw [ac7] at this;cases this
 have ahQ:FU ax W ⟨rZ.tmps,rZ.heap.set n0 (.loop r .busy none)⟩ ρ' a1 (w1.putObj l (.loop {r with state:= .busy,pending:=none})):=by
  refine ⟨ds1,iP.nd,fun D hd=>⟨(iP.dd D hd).1,?_⟩,⟨iP.pK.tmps,iP.pK.size,iP.pK.defers,fun t=> ?_,?_⟩⟩
  ·rw [World.putObj_heap_other (hD D hd)];exact (iP.dd D hd).2
  ·dsimp only;rw [xY];exact iP.pK.kn t
  ·dsimp only;rw [xY];exact ain
 refine wpIn_mono (hb ax W (some l) m hX (.inr hrb) _ _ YF ρ' _ _ ahQ) ?_
 rintro e a2 w2 ⟨zY,ρ4,hk2,ds2,oD⟩
 have fin: ∀jump:Option Code,wK hp nm n0 r ρ zY.heap jump k-> ∃v w',(Instr.endRound l jump).run P w2= .ok v w'/\ ∃r ρ',k r/\ (∀p∈r.writes,hp p.1≠none)/\ Ending.returned v= .returned (r.val.af ρ')/\ (∀m,m<nm->ρ' m=ρ m)/\ r.val.ok (jO (· <nm) nm r)/\ St ax W ρ' (jO (· <nm) nm r) (bC r nm hp) w':=by
  intro jump hk
  unfold wK at hk
  obtain ⟨hb0,hk⟩:=OO hk
  obtain ⟨gS,hk⟩:=mL hk
  have afD: ∀i,i<nm->ρ4 i=ρ i:=(oD.pK.st.at_ _ _ gS).2
  have tw:(ρ4 n0).bq=some l:=by rw [afD n0 (by omega)];exact hln
  obtain ⟨l2,af1,agf⟩:=oD.pK.st.at_ _ _ hb0
  rw [tw] at af1;cases af1
  refine ⟨_,_,run_endRound jump agf,_,ρ4,hk,fun p hp=>AJ hp,rfl,afD,trivial,?_⟩
  have hlen:=iC gS
  have agm:=oD.pK.st.T7 hb0 tw (if jump.isNone then .ready else .done) jump
  obtain ⟨e1,e2⟩:=F3 (hp:=hp) (nm:=nm) (v:=cl jump.isNone) (h:=zY.heap.set n0 (MV r jump)) (by rw [xY];exact hlen)
  unfold acT
  rw [e2,xY]
  have e3:MV r jump= .loop r (if jump.isNone then .ready else .done) jump:=by cases jump<;>rfl
  rw [e3] at e1 ⊢
  refine agm.less fun i o ho=> ?_
  have:=e1 i o ho (Kq i) hkl
  exact ⟨this,agm.kn i o this⟩
 cases e with
 |normal=>exact fin none hk2
 |ret=>exact fin (some .ret) hk2
 |exit id=>exact fin (some (.exit id)) hk2
 |_=>exact hk2.elim
theorem qB (hT:aU P ctx.tt) (hC:qx P ctx) (hm:P.follows .mixedOrders=true): ∀(c:Code),s5 P ctx c->Snd P ctx c:=by
 intro c
 induction c with
 |skip=>intro _ ax W ro n hX _ st K h ρ a w br;exact wpIn_skip ⟨st,ρ,h,br⟩
 |region id ops draw=>
  intro _ ax W ro n hX _ st K h ρ a w ⟨ds,br⟩
  have hX':=hX.Ik br.pK.st
  cases draw with
  |false=>
   have h:qd ctx ops ops.toList [] st [] fun st' _=>K .normal st':=h
   exact wpIn_region_list (mO hT hC hX' ops ops.toList [] st [] _ h (fun st' _ ρ' a' w' hk mC=>⟨st',ρ',hk,ds,br.back mC⟩) ρ a w br.base)
  |true=>
   refine wpIn_mono (abd hT hC.sp hm hX' ro n id ops st (K .normal) h ρ a w br.base) ?_
   rintro e a' w' ⟨st',ρ',⟨rfl,hk⟩,mC⟩
   exact ⟨st',ρ',hk,ds,br.back mC⟩
 |seq x y ihx ihy=>
  intro vR ax W ro n hX hro st K h ρ a w br
  have ad7:ro=none\/ mN x=true:=hro.imp id fun h=>by simp only [mN,Bool.and_eq_true] at h;exact h.1
  have ad8:ro=none\/ mN y=true:=hro.imp id fun h=>by simp only [mN,Bool.and_eq_true] at h;exact h.2
  refine wpIn_seq (wpIn_mono (ihx vR.1 ax W ro n hX ad7 st _ h ρ a w br) ?_)
  rintro e a' w' ⟨st',ρ',hk,mC⟩
  cases e with
  |normal=>exact ihy vR.2 ax W ro n hX ad8 st' K hk ρ' a' w' mC
  |_=>exact ⟨st',ρ',hk,mC⟩
 |cond c x y ihx ihy=>
  intro vR ax W ro n hX hro st K h ρ a w br
  have ad7:ro=none\/ mN x=true:=hro.imp id fun h=>by simp only [mN,Bool.and_eq_true] at h;exact h.1
  have ad8:ro=none\/ mN y=true:=hro.imp id fun h=>by simp only [mN,Bool.and_eq_true] at h;exact h.2
  unfold dx at h
  split at h
  ·rename_i t hc
   have:=br.eval c (by rw [hc];simp)
   rw [hc] at this
   exact wpIn_cond_split this (fun ht=>ihx vR.1 ax W ro n hX ad7 st K (by subst ht;exact h) ρ a w br) (fun ht=>ihy vR.2 ax W ro n hX ad8 st K (by subst ht;exact h) ρ a w br)
  ·exact h.elim
 |block id c ih=>
  intro vR ax W ro n hX hro st K h ρ a w br
  unfold dx at h
  unfold s5 at vR
  split at h
  ·rename_i sp hsp
   rw [hsp] at vR
   exact vR ax W ro n hX hro st K h ρ a w br
  ·rename_i hsp
   rw [hsp] at vR
   exact Gb (ih vR ax W ro n hX hro st _ h ρ a w br)
 |loop c ih=>
  intro vR ax W ro n hX ad6 st K h ρ a w br
  obtain ⟨I,⟨m,stw,hw0,h0⟩,hr⟩:=h
  intro b k cs hro hb hroom
  have key: ∀m a w,(∃st ρ,I m st/\ FU ax W st ρ a w)-> ∃e a' w',Post ax W K e a' w'/\ ArrivesIn (Machine.fenced P (fw ro)) P (lone (b.atR a (.code c:: .inLoop c::k)) cs w) b k cs e a' w':=by
   intro m
   induction m using Nat.strongRecOn with
   |_ m ihm=>
    rintro a w ⟨st,ρ,hI,br⟩
    obtain ⟨e,a1,w1,⟨rZ,bu,hk,iP⟩,nV⟩:=ih vR ax W ro n hX ad6 st _ (hr m st hI) ρ a w br b (.inLoop c::k) cs hro hb hroom
    cases e with
    |normal=>
     obtain ⟨m',st',hm,hw,hI'⟩:=hk
     obtain ⟨oN,oD⟩:=iP.weak hw
     obtain ⟨e2,a2,w2,hq2,OC⟩:=ihm m' hm a1 w1 ⟨st',oN,hI',oD⟩
     exact ⟨e2,a2,w2,hq2,.of_steps (StepsIn.trans nV (.one (fenced_calm hb hroom rfl) stepR_inLoop)) OC⟩
    |exit id=>exact ⟨_,a1,w1,⟨rZ,bu,hk,iP⟩,.pass (x:= .inLoop c) rfl (fun _ _=> .inl (by simp)) nV⟩
    |goto l=>exact ⟨_,a1,w1,⟨rZ,bu,hk,iP⟩,.pass (x:= .inLoop c) rfl (fun _ _=> .inl (by simp)) nV⟩
    |ret=>exact ⟨_,a1,w1,⟨rZ,bu,hk,iP⟩,.pass (x:= .inLoop c) rfl (fun _ _=> .inl (by simp)) nV⟩
    |panic ch=>exact ⟨_,a1,w1,⟨rZ,bu,hk,iP⟩,.pass (x:= .inLoop c) rfl (fun _ _=> .inl (by simp)) nV⟩
    |outgrown=>exact ⟨_,a1,w1,⟨rZ,bu,hk,iP⟩,.pass (x:= .inLoop c) rfl (fun _ _=> .inl (by simp)) nV⟩
  obtain ⟨jD,Rn⟩:=br.weak hw0
  obtain ⟨e,a',w',hq,nV⟩:=key m a w ⟨stw,jD,h0,Rn⟩
  exact ⟨e,a',w',hq,.of_steps (.one (fenced_calm hb hroom rfl) stepR_loop) nV⟩
 |exit id=>intro _ ax W ro n hX _ st K h ρ a w br;exact wpIn_exit ⟨st,ρ,h,br⟩
 |ret=>intro _ ax W ro n hX _ st K h ρ a w br;exact wpIn_ret ⟨st,ρ,h,br⟩
 |rangeFunc g ps assign body JA JB=>
  intro vR ax W ro n hX hro st K h ρ a w ⟨ds,br⟩
  have hro:ro=none:=hro.resolve_right (by simp [mN])
  subst hro
  unfold dx at h
  split at h
  rotate_left
  ·exact h.elim
  rename_i hrf
  simp only [Bool.and_eq_true] at hrf
  split at h
  rotate_left
  ·exact h.elim
  rename_i f cap hg
  split at h
  rotate_left
  ·exact h.elim
  rename_i RR YE
  obtain ⟨adQ,YE⟩:=hC.dL f RR YE
  have Jx:=br.pK.eval g (by rw [hg];simp)
  rw [hg] at Jx
  have hgk:=br.pK.Yh g
  rw [hg] at hgk
  obtain ⟨N,hN⟩: ∃N,N=st.heap.length:=⟨_,rfl⟩
  refine wpIn_rangeFunc fun fn _=> ?_
  obtain ⟨r,hrr⟩: ∃r:Loop,r= {state:= .ready,pending:=none,fn:=fn,tmps:=a.tmps,params:=ps,assign:=assign,body:=body,defers:=w.heap.size} :=⟨_,rfl⟩
  obtain ⟨W1,hW1⟩: ∃W1,W1=(w.alloc (.deferred (some []))).alloc (.loop r):=⟨_,rfl⟩
  have hD1:W1.heap[w.heap.size]? =some (.deferred (some [])):=by
   rw [hW1];exact (Below.heap_alloc _ _ _ (by simp)).trans (World.alloc_heap_new w _)
  have hL1:W1.heap[w.heap.size+1]? =some (.loop r):=by
   rw [hW1];have:=World.alloc_heap_new (w.alloc (.deferred (some []))) (.loop r);rwa [World.size_alloc] at this
  have TV: ∀b,b<w.heap.size->W1.heap[b]? =w.heap[b]? :=fun b hb=>by
   rw [hW1];exact (Below.heap_alloc _ _ _ (by simp;omega)).trans (Below.heap_alloc _ _ _ hb)
  have hS1:W1.heap.size=w.heap.size+2:=by rw [hW1];simp
  let oN:Env:=fun m=>if m=N then {bq:=some (w.heap.size+1)} else if m=N+1 then {} else ρ m
  let yw:=st.heap++ [aI.loop r .ready none,.gU oN (N+1)]
  have tw:yw.length=N+2:=by simp [yw,hN]
  have vS: ∀m,m<N->oN m=ρ m:=fun m hm=>by simp only [oN];rw [if_neg (by omega),if_neg (by omega)]
  have Rx:oN N= {bq:=some (w.heap.size+1)} :=by simp [oN]
  have hp2:oN (N+1)= {} :=by simp [oN]
  have qJ: ∀m o,aq yw m=some o->(m<N/\ aq st.heap m=some o)\/ (m=N/\ o= .loop r .ready none)\/ (m=N+1/\ o= .gU oN (N+1)):=by
   intro m o ho
   have hlt:=iC ho
   rw [bO] at ho
   rcases Nat.lt_or_ge m N with h1|h1
   ·rw [List.getElem?_append_left (by omega),←bO] at ho
    exact .inl ⟨h1,ho⟩
   ·rw [List.getElem?_append_right (by omega),←hN] at ho
    have:m=N\/ m=N+1:=by omega
    rcases this with rfl|rfl
    ·simp only [Nat.sub_self,List.getElem?_cons_zero,live,Option.some.injEq] at ho
     exact .inr (.inl ⟨rfl,ho.symm⟩)
    ·simp only [show N+1- N=1 by omega,List.getElem?_cons_succ,List.getElem?_cons_zero,live,Option.some.injEq] at ho
     exact .inr (.inr ⟨rfl,ho.symm⟩)
  have ah1:Fr ax W W1:=by
   rw [hW1];exact (br.pK.st.fr.alloc _).alloc _
  have adY: ∀m o b,aq st.heap m=some o->(ρ m).has b->b<w.heap.size:=fun m o b ho hb=>br.pK.st.lt m b (by rw [ho];rfl) hb
  have oZ:St ax W oN (· <yw.length) (aq yw) W1:=by
   have hre:({r with state:= .ready,pending:=none} :Loop)=r:=by rw [hrr]
   have OE: ∀b,gW ρ (aq st.heap) w b->gW oN (aq yw) W1 b/\ W1.heap[b]? =w.heap[b]? :=fun b hb=>by
    refine ⟨⟨hb.1.same (TV b hb.1.lt),?_⟩,TV b hb.1.lt⟩
    rintro (⟨m,h1,h2⟩|⟨m,S,h1,h2⟩)
    ·obtain ⟨o,ho⟩:=Option.isSome_iff_exists.1 h1
     rcases qJ m o ho with ⟨h3,h4⟩|⟨rfl,rfl⟩|⟨rfl,rfl⟩
     ·rw [vS m h3] at h2
      exact hb.2 (.inl ⟨m,by simp [h4],h2⟩)
     ·rw [Rx] at h2;cases jI.1 h2
      have:=hb.1.lt;omega
     ·rw [hp2] at h2;cases jI.1 h2
    ·rcases qJ m _ h1 with ⟨h3,h4⟩|⟨rfl,e⟩|⟨rfl,e⟩
     ·exact hb.2 (.inr ⟨m,S,h4,h2⟩)
     ·cases e
     ·cases e
   refine ⟨ah1,fun m o ho=> ?_,fun m o ho=> ?_,fun m m' b hm hm' gS iQ=> ?_,fun m b hm hb=> ?_,fun b ⟨m,S,h1,h2⟩=> ?_,fun m o ho=> ?_⟩
   rotate_right
   ·rcases qJ m o ho with ⟨h1,h2⟩|⟨rfl,rfl⟩|⟨rfl,rfl⟩
    ·rw [vS m h1];exact br.pK.st.yl m o h2
    ·exact .inr (by rw [Rx])
    ·exact .inr (by rw [hp2])
   rotate_right
   ·rcases qJ m _ h1 with ⟨_,h4⟩|⟨_,e⟩|⟨_,e⟩
    ·obtain ⟨h5,h6⟩:=br.pK.st.zo b ⟨m,S,h4,h2⟩
     refine ⟨by rw [hS1];omega,fun ⟨n,h7,h8⟩=> ?_⟩
     obtain ⟨o,ho⟩:=Option.isSome_iff_exists.1 h7
     rcases qJ n o ho with ⟨h9,VK⟩|⟨rfl,rfl⟩|⟨rfl,rfl⟩
     ·rw [vS n h9] at h8
      exact h6 ⟨n,by simp [VK],h8⟩
     ·rw [Rx] at h8;cases jI.1 h8;omega
     ·rw [hp2] at h8;cases jI.1 h8
    ·cases e
    ·cases e
   ·rcases qJ m o ho with ⟨h1,h2⟩|⟨rfl,rfl⟩|⟨rfl,rfl⟩
    ·have hk:=br.pK.st.kn m o h2
     exact ct (Kn:=(· <st.heap.length)) (br.pK.st.at_ m o h2) (fun i hi=>vS i (by omega)) (by omega) hk.2 OE (fun _ _ h=>h) fun b hb=>TV b (adY m o b h2 hb)
    ·exact ⟨w.heap.size+1,by rw [Rx],by rw [hre];exact hL1⟩
    ·exact ⟨by rw [hp2],fun _ _=>rfl⟩
   ·rcases qJ m o ho with ⟨h1,h2⟩|⟨rfl,rfl⟩|⟨rfl,rfl⟩
    ·exact ⟨by omega,aI.bg (fun i hi=>by omega) o (br.pK.st.kn m o h2).2⟩
    ·exact ⟨by omega,trivial⟩
    ·exact ⟨by omega,fun i hi=>by omega⟩
   ·obtain ⟨o,ho⟩:=Option.isSome_iff_exists.1 hm
    obtain ⟨o',yx⟩:=Option.isSome_iff_exists.1 hm'
    rcases qJ m o ho with ⟨h1,h2⟩|⟨rfl,rfl⟩|⟨rfl,rfl⟩
    ·rw [vS m h1] at gS
     have hlt:=adY m o b h2 gS
     rcases qJ m' o' yx with ⟨h3,h4⟩|⟨rfl,rfl⟩|⟨rfl,rfl⟩
     ·rw [vS m' h3] at iQ
      exact br.pK.st.dK m m' b (by simp [h2]) (by simp [h4]) gS iQ
     ·rw [Rx] at iQ;cases jI.1 iQ;omega
     ·rw [hp2] at iQ;cases jI.1 iQ
    ·rw [Rx] at gS;cases jI.1 gS
     rcases qJ m' o' yx with ⟨h3,h4⟩|⟨rfl,rfl⟩|⟨rfl,rfl⟩
     ·rw [vS m' h3] at iQ
      have:=adY m' o' _ h4 iQ;omega
     ·rfl
     ·rw [hp2] at iQ;cases jI.1 iQ
    ·rw [hp2] at gS;cases jI.1 gS
   ·obtain ⟨o,ho⟩:=Option.isSome_iff_exists.1 hm
    rcases qJ m o ho with ⟨h1,h2⟩|⟨rfl,rfl⟩|⟨rfl,rfl⟩
    ·rw [vS m h1] at hb
     exact br.pK.st.oF m b (by simp [h2]) hb
    ·rw [Rx] at hb;cases jI.1 hb
     have:=br.pK.st.fr.size
     exact .inl (by omega)
    ·rw [hp2] at hb;cases jI.1 hb
  have RD:=oZ.Ik (N:=yw.length) fun m o ho=>⟨iC ho,(oZ.kn m o ho).2⟩
  have hX3:=hX.Ik oZ
  have hys:=aae (P:=P) (ctx:=ctx) (JA vR.1) (JB vR.2) hrf.1 hrf.2 (ps:=ps) (yZ:=st.tmps) (n0:=N) (l:=w.heap.size+1) (oN:=oN) (r:=r) (by rw [Rx]) (by rw [hrr];exact ⟨rfl,rfl,rfl,rfl,rfl⟩)
   (by rw [hrr];exact br.pK.size) (fun t ht=>by
    rw [hrr]
    show a.tmps.getD t undef=_
    rw [br.pK.tmps t ht]
    exact (AV.cg (Kn:=(· <st.heap.length)) (fun i hi=>vS i (by omega)) _ (br.pK.kn t)).symm) (fun t=>by have:=br.pK.kn t;rwa [<- hN] at this)
  have hcap: ∀x∈cap.map A6,x.ok (· <st.heap.length):=fun x hx=>by
   obtain ⟨q,hq,rfl⟩:=List.mem_map.1 hx
   exact O9 (hgk q hq)
  have TQ:=YE _ _ _ _ (h r oN) (by rw [<- hN];exact hys) (lb ax W oN (aq yw) W1) W1 oN W1 hX3 (by
    intro x hx
    rcases List.mem_cons.1 hx with rfl|hx
    ·show st.heap.length<_
     simp
    ·exact AV.bg (fun i hi=>by simp;omega) x (hcap x hx)) (by
    have:st.heap++ [aI.loop r .ready none,.gU oN (st.heap.length+1)]=yw:=by simp only [yw,hN]
    rw [this];exact RD)
  refine ⟨w.heap.size+1,[qL w.heap.size],W1,{target:= .fn (.func f) (cap.map (Ref.af ρ)).toArray,args:= #[.func (.yield (w.heap.size+1)) #[] #[]]},W1,f,#[.func (.yield (w.heap.size+1)) #[] #[]]++(cap.map (Ref.af ρ)).toArray,W1,?_,?_,fun _ _=>trivial,?_,fun h=>by simp [fw] at h,zb ?_⟩
  ·have:=run_enterLoop_outer (P:=P) (w:=w) fn a.tmps ps assign body
   rw [hW1,hrr];exact this
  ·simp only [resolve,Jx,AV.af,A0.af,Cell.af]
   simp [go_sem]
  ·simp only [invoke,Sem.run_bind,Sem.run_pure,Result.andThen_ok]
   have:=adQ (#[.func (.yield (w.heap.size+1)) #[] #[]]++(cap.map (Ref.af ρ)).toArray) W1
   simpa using this
  have adO:(((AV.v (.one (.Cz st.heap.length))::cap.map A6).map (AV.af oN)).toArray:Array Value)= #[.func (.yield (w.heap.size+1)) #[] #[]]++(cap.map (Ref.af ρ)).toArray:=by
   apply Array.ext'
   simp only [List.map_cons,List.map_map,AV.af,A0.af,Cell.af,<- hN,Rx,Array.toList_append,List.cons_append,List.nil_append,List.cons.injEq,true_and]
   refine List.map_congr_left fun q hq=> ?_
   show (A6 q).af oN=q.af ρ
   rw [tL]
   exact Ref.cg (Kn:=(· <st.heap.length)) (fun i hi=>vS i (by omega)) q (hgk q hq)
  rw [adO] at TQ
  refine TQ.mono ?_
  rintro e w' ⟨zY,ρ',v,rfl,_,hR,abB⟩
  unfold T6 at hR
  obtain ⟨hpe,hR⟩:=mL hR
  rw [<- hN] at hpe hR
  have oS: ∀i,i<N+1->ρ' i=oN i:=(abB.at_ _ _ hpe).2
  have hlN:(ρ' N).bq=some (w.heap.size+1):=by rw [oS N (by omega),Rx]
  have aju:=iC hpe
  have behind: ∀(r':Loop) (s:LoopState) (j:Option Code),aq zY.heap N=some (.loop r' s j)->s≠ .busy->
    (Instr.endLoop (w.heap.size+1)).run P w'= .ok j (w'.putObj (w.heap.size+1) (.loop {r' with state:= .exhausted,pending:=j}))/\
    FU ax W ⟨st.tmps,(zY.heap.set N .gone).set (N+1) .gone⟩ ρ' {a with defers:= [qL w.heap.size]++a.defers} (w'.putObj (w.heap.size+1) (.loop {r' with state:= .exhausted,pending:=j})):=by
   intro r' s j hj hs
   obtain ⟨l,hl,VS⟩:=abB.at_ _ _ hj
   rw [hlN] at hl;cases hl
   refine ⟨run_endLoop VS hs,w.heap.size::ds,?_,?_,?_⟩
   ·refine List.nodup_cons.2 ⟨fun hm=> ?_,br.nd⟩
    have:=(Array.getElem?_eq_some_iff.1 (br.dd _ hm).2).1
    omega
   ·intro D hD
    have hDW:W.heap.size<=D/\ W1.heap[D]? =some (.deferred (some [])):=by
     rcases List.mem_cons.1 hD with rfl|hD
     ·exact ⟨br.pK.st.fr.size,hD1⟩
     ·have h1:=br.dd D hD
      exact ⟨h1.1,by rw [TV D (Array.getElem?_eq_some_iff.1 h1.2).1];exact h1.2⟩
    refine ⟨hDW.1,?_⟩
    have hne:D≠w.heap.size+1:=by
     rintro rfl
     have:=hDW.2;rw [hL1] at this;cases this
    rw [World.putObj_heap_other hne,abB.fr.block D (Array.getElem?_eq_some_iff.1 hDW.2).1 (T3 oZ hDW.2)]
    exact hDW.2
   ·have aio:=((oZ.aaJ abB).Za hj hlN (.loop {r' with state:= .exhausted,pending:=j})).afm (N+1)
    refine ⟨fun t ht=> ?_,br.pK.size,?_,fun t=> ?_,aio⟩
    ·have h1:=br.pK.tmps t ht
     rw [show ({a with defers:= [qL w.heap.size]++a.defers} :Act).tmps=a.tmps from rfl,h1]
     exact (AV.cg (Kn:=(· <st.heap.length)) (fun i hi=>by rw [oS i (by omega),vS i (by omega)]) _ (br.pK.kn t)).symm
    ·simp [br.pK.defers]
    ·refine AV.bg (fun i hi=> ?_) _ (br.pK.kn t)
     rw [xY,xY];omega
  split at hR
  ·rename_i r' hj
   obtain ⟨h1,h2⟩:=behind _ _ _ hj (by simp)
   exact ⟨_,_,h1,_,ρ',hR,h2⟩
  ·rename_i r' hj
   obtain ⟨h1,h2⟩:=behind _ _ _ hj (by simp)
   exact ⟨_,_,h1,wpIn_ret ⟨_,ρ',hR,h2⟩⟩
  ·rename_i r' id hj
   obtain ⟨h1,h2⟩:=behind _ _ _ hj (by simp)
   exact ⟨_,_,h1,wpIn_exit ⟨_,ρ',hR,h2⟩⟩
  ·exact hR.elim
 |scope=>intro _ ax W ro n hX _ st K h;exact h.elim
 |label=>intro _ ax W ro n hX _ st K h;exact h.elim
 |goto=>intro _ ax W ro n hX _ st K h;exact h.elim
 |refuse=>intro _ ax W ro n hX _ st K h;exact h.elim
end
end Go.Ev
