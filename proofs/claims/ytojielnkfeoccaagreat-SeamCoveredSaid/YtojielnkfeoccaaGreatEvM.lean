/- Code and functions, out of the condition 'codeE'. -/
import Derived.Test.YtojielnkfeoccaaGreatEvG
import Derived.RangeFuncLeaves
import Derived.RangeFuncRecord
noncomputable section
set_option linter.unusedSectionVars false
set_option linter.unusedVariables false
set_option linter.unusedSimpArgs false
namespace Go.Ev
open Go.RowKit
def lb (ax:jh) (W:World) (ρ:Env) (Γ:HP) (w:World):jh:= {wr:=fun b=>Vp ρ Γ b\/ ((W.heap.size<=b\/ ax b)/\ cz w b),nw:=B7 ax W}
theorem Du {fz pm:Nat->Prop} {ρ:Env} {n b:Nat} {o:aQ} {w:World} (h:bu fz pm ρ n o w) (hb:(ρ n).blk=some b): ∀x,w.heap[b]? ≠some (.deferred x):=by
 intro x
 cases o with
 |cells cs e=>obtain ⟨b',hb',hh⟩:=h;rw [hb] at hb';cases hb';rw [hh];simp
 |row t l rk=>
  obtain ⟨_,_,_,sub,_,_,h3,h4⟩:=h
  by_cases e:rk=0
  ·rw [h3 e] at hb;cases hb
  ·rcases h4 e with ⟨h5,_⟩|⟨b',pre,rest,e,h5,_,h6,_⟩
   ·rw [h5] at hb;cases hb
   ·rw [hb] at h5;cases h5;rw [h6];simp
 |alias m s q=>rw [h.1] at hb;cases hb
 |gone=>exact h.elim
 |loop r s j=>obtain ⟨b',hb',hh⟩:=h;rw [hb] at hb';cases hb';rw [hh];simp
 |eJ mI n0=>rw [h.1] at hb;cases hb
 |ga S=>rw [show (ρ n).blk=none from h] at hb;cases hb
 |map ka va k v l=>obtain ⟨_,_,b',es,ck,hb',hh,_⟩:=h;rw [hb] at hb';cases hb';rw [hh];simp
 |jO ka k u l c q=>obtain ⟨_,_,_,b',es,ck,hb',hh,_⟩:=h;rw [hb] at hb';cases hb';rw [hh];simp
 |IV ka va k v l y a m=>obtain ⟨_,_,b',es,ck,hb',hh,_⟩:=h;rw [hb] at hb';cases hb';rw [hh];simp
 |set m=>rw [h.1] at hb;cases hb
 |gv m c k u x l=>rw [h.1] at hb;cases hb
 |rc cs=>rw [h.1] at hb;cases hb
 |dp t l c st kn=>rw [h.1] at hb;cases hb
 |nv m c j q u=>rw [h.1] at hb;cases hb
 |hmap es ck=>obtain ⟨b',hb',hh⟩:=h;rw [hb] at hb';cases hb';rw [hh];simp
 |rj m c es ck ka k u l cur=>obtain ⟨_,_,_,b',_,_,_,hb',hh,_⟩:=h;rw [hb] at hb';cases hb';rw [hh];simp
theorem Od {ax:jh} {W:World} {ρ:Env} {Kn:Nat->Prop} {Γ:HP} {w:World} (h:St ax W ρ Kn Γ w) {b:Nat} {x:Option (List Deferred)} (hb:w.heap[b]? =some (.deferred x)): ¬lb ax W ρ Γ w b:=by
 rintro (⟨m,h1,h2⟩|⟨_,cs,e,f,h2⟩)
 ·obtain ⟨o,ho⟩:=Option.isSome_iff_exists.1 h1
  rcases h.aaw m b h1 h2 with h2|⟨cs,e,f,h2⟩
  ·exact Du (h.at_ m o ho) h2 _ hb
  ·rw [hb] at h2;cases h2
 ·rw [hb] at h2;cases h2
section
variable {ax:jh} {W:World} {ρ:Env} {Kn:Nat->Prop} {Γ:HP} {w:World}
theorem St.DC {N:Nat} (h:St ax W ρ Kn Γ w) (hN: ∀m o,Γ m=some o->m<N/\ o.ok (· <N)):St (lb ax W ρ Γ w) w ρ (· <N) Γ w:=
 ⟨Fr.refl _ _,fun n o ho=>cr (Kn:=(· <N)) (h.at_ n o ho) (fun _ _=>rfl) (hN n o ho).1 (hN n o ho).2 (fun _ hb=>⟨hb,rfl⟩) (fun b h1 h2=> .inr (.inr h2)) (fun _ _=>rfl),hN,h.eS,fun n b hn hb=> .inr (.inl ⟨n,hn,hb⟩),h.wZ,h.vX⟩
theorem XC (h:St ax W ρ Kn Γ w) {b:Nat} (hb:lb ax W ρ Γ w b):W.heap.size<=b\/ ax b:=by
 rcases hb with ⟨m,h1,h2⟩|⟨h1,_⟩
 ·exact h.mA m b h1 h2
 ·exact h1
theorem Ac.DC {X:Addr->Value->Prop} (hX:Ac ax W X) (h:St ax W ρ Kn Γ w):Ac (lb ax W ρ Γ w) w X:=fun a v hx=>by
 obtain ⟨h1,h2,_⟩:=hX a v hx
 refine ⟨Nat.lt_of_lt_of_le h1 h.fr.size,fun hm=> ?_,hX.cell h.fr hx⟩
 rcases XC h hm with h5|h5
 ·omega
 ·exact h2 h5
theorem St.UX {ρ':Env} {Bc:Nat->Prop} {mH:HP} {w':World} (h:St ax W ρ Kn Γ w) (h':St (lb ax W ρ Γ w) w ρ' Bc mH w'):St ax W ρ' Bc mH w':=by
 have hs:=h.fr.size
 have own: ∀b,lb ax W ρ Γ w b->W.heap.size<=b\/ ax b:=fun b hb=>XC h hb
 have pm: ∀b,B7 (lb ax W ρ Γ w) w b->B7 ax W b:=fun b hb=>by
  rcases hb with h1|h1|h1
  ·exact .inl (by omega)
  ·exact (own b h1).imp_right .inl
  ·exact h1
 refine ⟨⟨h'.fr.os.trans h.fr.os,h'.fr.tape.trans h.fr.tape,h'.fr.output.trans h.fr.output,Nat.le_trans hs h'.fr.size,fun k hk hn=> ?_,Nat.le_trans h.fr.Ez h'.fr.Ez⟩,fun n o ho=> ?_,h'.kn,h'.eS,fun n b hn hb=>(h'.mA n b hn hb).elim (fun h1=> .inl (by omega)) (own b),h'.wZ,h'.vX⟩
 ·rw [h'.fr.block k (by omega) fun hm=>(own k hm).elim (fun h=>by omega) hn]
  exact h.fr.block k hk hn
 ·exact cr (Kn:=Bc) (h'.at_ n o ho) (fun _ _=>rfl) (h'.kn n o ho).1 (h'.kn n o ho).2 (fun _ hb=>⟨hb,rfl⟩) (fun b _ h2=>pm b h2) fun _ _=>rfl
theorem St.put {l:Nat} {o:Obj} {mH:HP} (h:St ax W ρ Kn Γ w) (hl:W.heap.size<=l\/ ax l) (hc: ¬cz w l) (hs: ∀m p,mH m=some p->((ρ m).blk=some l-> ∀fz pm,bu fz pm ρ m p (w.putObj l o))/\ ((ρ m).blk≠some l->Γ m=some p)/\ (Γ m).isSome=true/\ Kn m/\ p.ok Kn):
  St ax W ρ Kn mH (w.putObj l o):=by
 have hsome: ∀n,(mH n).isSome=true->(Γ n).isSome=true:=fun n hn=>by
  obtain ⟨p,hp⟩:=Option.isSome_iff_exists.1 hn
  exact (hs n p hp).2.2.1
 have Bj: ∀b,HI mH b->HI Γ b:=fun b ⟨m,S,h1,h2⟩=>by
  refine ⟨m,S,(hs m _ h1).2.1 fun e=> ?_,h2⟩
  have:=(hs m _ h1).1 e (fun _=>True) (fun _=>True)
  rw [show (ρ m).blk=Option.none from this] at e;cases e
 have hfz: ∀b,gW ρ Γ w b->gW ρ mH (w.putObj l o) b/\ (w.putObj l o).heap[b]? =w.heap[b]? :=fun b hb=>by
  have hne:b≠l:=by rintro rfl;exact hc hb.1
  have e:(w.putObj l o).heap[b]? =w.heap[b]? :=World.putObj_heap_other hne
  refine ⟨⟨hb.1.same e,?_⟩,e⟩
  rintro (⟨m,h1,h2⟩|⟨m,S,h1,h2⟩)
  ·exact hb.2 (.inl ⟨m,hsome m h1,h2⟩)
  ·exact hb.2 (.inr (Bj b ⟨m,S,h1,h2⟩))
 refine ⟨⟨h.fr.os,h.fr.tape,h.fr.output,by rw [World.putObj_size];exact h.fr.size,fun k hk hn=> ?_,h.fr.Ez⟩,fun n p hp=> ?_,fun n p hp=>(hs n p hp).2.2.2,fun n m b hn hm=>h.eS n m b (hsome n hn) (hsome m hm),fun n b hn=>h.mA n b (hsome n hn),fun b hh=> ?_,fun n p hp=> ?_⟩
 rotate_right
 ·by_cases e:(ρ n).blk=some l
  ·obtain ⟨p0,SV⟩:=Option.isSome_iff_exists.1 (hs n p hp).2.2.1
   rcases h.vX n p0 SV with ⟨g,rfl⟩|he
   ·rw [(h.at_ n _ SV).1] at e;cases e
   ·exact .inr he
  ·exact h.vX n p ((hs n p hp).2.1 e)
 rotate_right
 ·obtain ⟨h3,h4⟩:=h.wZ b (Bj b hh)
  exact ⟨by rw [World.putObj_size];exact h3,fun ⟨n,h5,h6⟩=>h4 ⟨n,hsome n h5,h6⟩⟩
 ·rw [World.putObj_heap_other (by rintro rfl;exact hl.elim (fun h=>by omega) hn)]
  exact h.fr.block k hk hn
 ·obtain ⟨h1,h2,_,h4,h5⟩:=hs n p hp
  by_cases e:(ρ n).blk=some l
  ·exact h1 e _ _
  ·exact cr (Kn:=Kn) (h.at_ n p (h2 e)) (fun _ _=>rfl) h4 h5 hfz (fun _ _ h=>h) fun b hb=>World.putObj_heap_other (by rintro rfl;exact (h.aaw n _ (by rw [h2 e];rfl) hb).elim e hc)
end
def oG (D:Nat):Deferred:= {target:= .collected D,args:= #[]}
structure Zv (ax:jh) (W:World) (ds:List Nat) (st:AS) (ρ:Env) (a:Act) (w:World):Prop where
 nd:ds.Nodup
 dd: ∀D∈ds,W.heap.size<=D/\ w.heap[D]? =some (.deferred (some []))
 mK:nT ax W (ds.map oG) st ρ a w
def Cc (ax:jh) (W:World) (st:AS) (ρ:Env) (a:Act) (w:World):Prop:= ∃ds,Zv ax W ds st ρ a w
section
variable {ax:jh} {W:World} {ds:List Nat} {st:AS} {ρ:Env} {a:Act} {w:World}
theorem Zv.base (h:Zv ax W ds st ρ a w):nT (lb ax W ρ (av st.heap) w) w (ds.map oG) st ρ a w:=
 ⟨h.mK.tmps,h.mK.size,h.mK.defers,h.mK.kn,h.mK.st.DC fun m o ho=>⟨fV ho,(h.mK.st.kn m o ho).2⟩⟩
theorem Zv.back {st':AS} {ρ':Env} {a':Act} {w':World} (h:Zv ax W ds st ρ a w) (h':nT (lb ax W ρ (av st.heap) w) w (ds.map oG) st' ρ' a' w'):Zv ax W ds st' ρ' a' w':=by
 refine ⟨h.nd,fun D hD=>⟨(h.dd D hD).1,?_⟩,⟨h'.tmps,h'.size,h'.defers,h'.kn,h.mK.st.UX h'.st⟩⟩
 have h1:=(h.dd D hD).2
 rw [h'.st.fr.block D (Array.getElem?_eq_some_iff.1 h1).1 (Od h.mK.st h1)]
 exact h1
theorem Cc.weak (h:Cc ax W st ρ a w) {st':AS} (hw:mS st st'): ∃ρ',Cc ax W st' ρ' a w:=by
 obtain ⟨ds,h⟩:=h
 obtain ⟨ρ',h'⟩:=h.mK.weak hw
 exact ⟨ρ',ds,h.nd,h.dd,h'⟩
theorem Cc.eval (h:Cc ax W st ρ a w) (x:Operand) (hx:fM st.tmps x≠ .dead):a.eval x=(fM st.tmps x).ae ρ:=by
 obtain ⟨ds,h⟩:=h
 exact h.mK.eval x hx
end
def Post (ax:jh) (W:World) (K:Exit->AS->Prop):Exit->Act->World->Prop:=
 fun e a w=> ∃st ρ,K e st/\ Cc ax W st ρ a w
def qb (P:Program) (ctx:Ctx):Code->Prop
 | .seq a b=>qb P ctx a/\ qb P ctx b
 | .cond _ a b=>qb P ctx a/\ qb P ctx b
 | .loop c=>qb P ctx c
 | .rangeFunc _ _ a b=>qb P ctx a/\ qb P ctx b
 | .block id c=>match aG ctx.lp id with
  |none=>qb P ctx c
  |some sp=> ∀ax W ro n,Ac ax W ctx.X->(ro=none\/ kM c=true)-> ∀st K,sp st K-> ∀ρ a w,Cc ax W st ρ a w->(Code.block id c).wpIn (fw ro) n P (Post ax W K) a w
 |_=>True
section
variable {P:Program} {ctx:Ctx} {ax:jh} {W:World}
theorem Cs {ro:Option Nat} {n id:Nat} {c:Code} {K:Exit->AS->Prop} {a:Act} {w:World} (h:c.wpIn (fw ro) n P (Post ax W (jK id K)) a w):(Code.block id c).wpIn (fw ro) n P (Post ax W K) a w:=by
 refine wpIn_block (wpIn_mono h ?_)
 rintro e a' w' ⟨st',ρ',hk,kD⟩
 cases e with
 |exit id'=>
  simp only [Exit.inBlock]
  simp only [jK] at hk
  split at hk
  ·rename_i e;rw [if_pos e];exact ⟨st',ρ',hk,kD⟩
  ·rename_i e;rw [if_neg e];exact ⟨st',ρ',hk,kD⟩
 |_=>exact ⟨st',ρ',hk,kD⟩
def ja (K:Exit->AS->Prop) (e:Exit) (st:AS):Prop:= ∃st',mS st st'/\ K e st'
theorem QU {K:Exit->AS->Prop} {e:Exit} {a:Act} {w:World} (h:Post ax W (ja K) e a w):Post ax W K e a w:=by
 obtain ⟨st,ρ,⟨st',hw,hk⟩,bD⟩:=h
 obtain ⟨ρ',kD⟩:=bD.weak hw
 exact ⟨st',ρ',hk,kD⟩
theorem Db {o:Option aQ} {r:Loop} {K:Prop} (h:N8 o r K):o=some (.loop r .ready none)/\ K:=by
 unfold N8 at h
 split at h
 ·obtain ⟨rfl,h⟩:=h;exact ⟨rfl,h⟩
 ·exact h.elim
theorem JU {o:Option aQ} {r:Loop} {K:Prop} (h:Mz o r K):o=some (.loop r .busy none)/\ K:=by
 unfold Mz at h
 split at h
 ·obtain ⟨rfl,h⟩:=h;exact ⟨rfl,h⟩
 ·exact h.elim
theorem xW: ∀(ts:List Nat) (l vs:List AV),(xV l ts vs).length=l.length
 | [],l,vs=>by cases vs<;>rfl
 |t::ts,l,[]=>rfl
 |t::ts,l,v::vs=>by simp [xV,xW ts]
theorem DP (ρ:Env): ∀(ts:List Nat) (l vs:List AV) (tm:Array Value),tm.size=l.length->(∀t,dP l t≠ .dead->tm.getD t undef=(dP l t).ae ρ)->
  ((ts.zip (vs.map (AV.ae ρ))).foldl (fun (t:Array Value) p=>t.setIfInBounds p.1 p.2) tm).size=l.length/\
  ∀t,dP (xV l ts vs) t≠ .dead->((ts.zip (vs.map (AV.ae ρ))).foldl (fun (t:Array Value) p=>t.setIfInBounds p.1 p.2) tm).getD t undef=(dP (xV l ts vs) t).ae ρ
 | [],l,vs,tm,hs,h=>by cases vs<;>exact ⟨hs,h⟩
 |t::ts,l,[],tm,hs,h=>⟨hs,h⟩
 |t::ts,l,v::vs,tm,hs,h=>by
  simp only [xV,List.map_cons,List.zip_cons_cons,List.foldl_cons]
  have:=DP ρ ts (l.set t v) vs (tm.setIfInBounds t (v.ae ρ)) (by simp [hs]) (fun u hu=>by
   rw [Dt] at hu ⊢
   simp only [Array.getD_eq_getD_getElem?,Array.getElem?_setIfInBounds]
   by_cases e:t=u
   ·subst e
    by_cases h2:t<l.length
    ·simp [hs,h2]
    ·have h0:=h t (by simpa [h2] using hu)
     simp only [h2,and_false,if_false]
     rw [<- h0]
     simp [hs,h2,Array.getD_eq_getD_getElem?]
   ·have h0:=h u (by simpa [Ne.symm e] using hu)
    rw [if_neg e,if_neg (by rintro ⟨rfl,_⟩;exact e rfl),<- h0,Array.getD_eq_getD_getElem?])
  simpa using this
theorem KD {Kn:Nat->Prop} : ∀(ts:List Nat) (l vs:List AV),(∀t,(dP l t).ok Kn)->(∀v∈vs,v.ok Kn)-> ∀t,(dP (xV l ts vs) t).ok Kn
 | [],l,vs,h,_=>by cases vs<;>exact h
 |t::ts,l,[],h,_=>h
 | t::ts,l,v::vs,h,hv=>KD ts (l.set t v) vs (fun u=>by
   rw [Dt];split
   ·exact hv v (by simp)
   ·exact h u) fun x hx=>hv x (by simp [hx])
theorem Fo (ps:Array Nat) (vs:List Value) (tm:Array Value):(ps.zip vs.toArray).foldl (fun (t:Array Value) (p:Nat×Value)=>t.setIfInBounds p.1 p.2) tm=(ps.toList.zip vs).foldl (fun t p=>t.setIfInBounds p.1 p.2) tm:=by
 rw [<- Array.foldl_toList];simp
end
end Go.Ev
