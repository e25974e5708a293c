/- What is thrown is caught: the deferred function's two contracts. -/
import Derived.Test.YtngdehlpoomaiaaGreatChecked
import Derived.Tactics
import Derived.Tactics2
import Derived.Defers
import Derived.Recover
import Derived.RecoverIn
import Derived.TacticsInMore
import Derived.Laws.Pointers
import Derived.RegionTactic
import Derived.RegionCalls
import Derived.ChangeAlike
import Derived.Test.YtngdehlpoomaiaaGreatKl
noncomputable section
set_option linter.unusedSectionVars false
set_option linter.unusedVariables false
set_option linter.unusedSimpArgs false
namespace Go.Proofs.YtngdehlpoomaiaaGreat
open Go Go.Proofs
theorem agZ (w:World):(Instr.typeAssert .nilIface 20 30 true).run Tryz.prog w= .ok (.tuple #[.int .i64 0,.bool false]) w:=by kernel_rfl
theorem aaY (k:Value) (w:World):(Instr.typeAssert (.iface 30 k) 20 30 true).run Tryz.prog w= .ok (.tuple #[k,.bool true]) w:=by kernel_rfl
theorem MO (n:Nat) (a cl:Value) (w:World):
  CallsDIn Fence.wide n Tryz.prog 29 #[a,cl] .returning w fun e u' w'=>e= .returned (.tuple #[])/\ u'= .returning/\ w'=w:=by
 refine callsDIn_of_wpSIn Tryz.func29 rfl trivial fun c₀ cs hu=> ?_
 apply wpSIn_seq
 apply wpSIn_region
 simp [wpOpsSIn,go_sem,recoverD,hu,Tryz.ntmps29,Exit.thenS,agZ,Fence.wide]
 apply wpSIn_seq
 apply wpSIn_region
 simp [wpOpsSIn,go_sem,Exit.thenS,Fence.wide]
 refine wpSIn_cond (t:=false) (by simp [Act.eval,Array.replicate]) ?_
 simp only [Bool.false_eq_true,if_false]
 refine wpSIn_of_wpIn rfl (wpIn_skip ?_)
 cases c₀
 simp_all [bodyPostS,results,Tryz.results29]
theorem Qo (n:Nat) (a:Addr) (g:FuncId) (cap:Array Value) (k:Int) (older:List PanicEntry) (w w1 w2:World) (x0:Value) (hc:w.cell? a=some x0) (hz:w.frozen? a=false) (hw1:w1=w.setCell a (.int .i64 k))
  (Bn: ∀args w,(callFunc g args).run Tryz.prog w= .ok (.enter g args) w)
  (hg:Calls Tryz.prog g cap w1 fun e w'=>e= .returned (.tuple #[])/\ w'=w2):
  CallsDIn Fence.wide n Tryz.prog 29 #[.pointer (some a),.func (.func g) #[] cap] (.panicking ({v:= .iface 30 (.int .i64 k),recovered:=false} ::older)) w fun e u' w'=>
   e= .returned (.tuple #[])/\ u'= .panicking ({v:= .iface 30 (.int .i64 k),recovered:=true} ::older)/\ w'=w2:=by
 refine callsDIn_of_wpSIn Tryz.func29 rfl trivial fun c₀ cs hu=> ?_
 apply wpSIn_seq
 apply wpSIn_region
 simp [wpOpsSIn,go_sem,recoverD,hu,Tryz.ntmps29,Exit.thenS,aaY,Fence.wide]
 apply wpSIn_seq
 apply wpSIn_region
 simp [wpOpsSIn,go_sem,Exit.thenS,Fence.wide]
 refine wpSIn_cond (t:=true) (by simp [Act.eval,Array.replicate]) ?_
 simp only [if_true]
 apply wpSIn_seq
 apply wpSIn_region
 simp [wpOpsSIn,go_sem,hc,hz,Exit.thenS,Fence.wide]
 subst hw1
 refine wpSIn_of_wpIn rfl ?_
 refine wpIn_wide.2 ?_
 go_wp2
 rename_i hK
 refine hg.mono ?_
 rintro e w' ⟨rfl,rfl⟩
 refine hK _ _ ?_
 go_wp2
 simp [bodyPostS,results,Tryz.results29]
end Go.Proofs.YtngdehlpoomaiaaGreat
namespace Go.Ev
open Go.RowKit
def BJ (np:Nat) (r0:Env) (R:AV->AS->Prop) (v:AV) (st:AS):Prop:=pE (ai st.heap np) r0 np (R v st)
def Dl (np se ss ne ns:Nat) (r0:Env) (X:AS->Prop) (st:AS):Prop:=match cz st.tmps se with
 | .v (.one (.ptr a i))=>match cz st.tmps ss with
  | .v (.one (.ptr b j))=>ob (decide (a=ne)&&(decide (i=0)&&(decide (b=ns)&&decide (j=0)))) (pE (ai st.heap np) r0 np (X st))
  |_=>False
 |_=>False
theorem Wq {np se ss ne ns:Nat} {r0:Env} {X:AS->Prop} {st:AS} (h:Dl np se ss ne ns r0 X st):cz st.tmps se= .v (.one (.ptr ne 0))/\ cz st.tmps ss= .v (.one (.ptr ns 0))/\ ai st.heap np=some (.cw r0 np)/\ X st:=by
 unfold Dl at h
 split at h
 rotate_left
 ·exact h.elim
 rename_i h1
 split at h
 rotate_left
 ·exact h.elim
 rename_i h2
 obtain ⟨hb,hq⟩:=bk h
 simp only [Bool.and_eq_true,decide_eq_true_eq] at hb
 obtain ⟨h3,h4⟩:=de hq
 obtain ⟨rfl,rfl,rfl,rfl⟩:=hb
 exact ⟨h1,h2,h3,h4⟩
theorem St.afj {aq ab2:e8} {W:World} {ρ:Env} {Kn:Nat->Prop} {Γ:HP} {w:World} (h:St aq W ρ Kn Γ w) (h1:ab2.wr=aq.wr) (h2:ab2.nw=aq.nw):St ab2 W ρ Kn Γ w:=by
 cases aq;cases ab2;cases h1;cases h2
 exact ⟨⟨h.fr.os,h.fr.tape,h.fr.output,h.fr.size,h.fr.block,h.fr.IC⟩,h.at_,h.kn,h.dK,h.jX,h.oK,h.sR⟩
section
variable {P:Program} {o:Oper} {a:Act} {w w2:World} {ro:Option Nat} {n:Nat} {next:Act->World->Prop} {Q:Exit->Act->World->Prop}
theorem Py {t:TypeId} {p x:Operand} (ho:o.op= .store t p x) (h:(Instr.storeAt t (a.eval p) (a.eval x)).run P w= .ok () w2) (hn:next (a.put o.dst undef) w2):o.wpIn (fw ro) n P a w next Q:=by
 refine ⟨fun _ _=>trivial,?_⟩
 rw [Oper.semAt_eq _ _ _ fun c e=>by rw [ho] at e;cases e]
 have r:(execOp a.eval o).run P w= .ok .skip w2:=by
  simp only [execOp,ho,Sem.run_bind,Sem.run_pure,h,Result.andThen_ok]
 rw [r]
 exact hn
theorem aa8 {v:Value} (hd: ∀c,o.op≠ .defer c) (h:(execOp a.eval o).run P w= .ok (.value v) w) (hn:next (a.put o.dst v) w):o.wpIn (fw ro) n P a w next Q:=by
 refine ⟨fun _ _=>trivial,?_⟩
 rw [Oper.semAt_eq _ _ _ hd,h]
 exact hn
def Ye (f g:FuncId) (a:Act) (se ss:Nat):Deferred:= {target:= .fn (.func f) #[],args:= #[a.tmps.getD se undef,.func (.func g) #[] #[a.tmps.getD ss undef]]}
def NN (f g:FuncId) (t se ss:Nat) (o1 o2:Oper):Prop:=(o1.guard=none/\ o1.dst=some t/\ o1.op= .makeFunc (.func g) #[] #[.tmp ss])/\ o2.guard=none/\ o2.dst=none/\ ∃ts,o2.op= .defer ⟨.value (.func f),#[.tmp se,.tmp t],ts⟩
theorem afz {f g:FuncId} {t se ss i:Nat} {o1 o2:Oper} (h:NN f g t se ss o1 o2) (hne: ¬t=se) (ht:t<a.tmps.size) (hd:a.defers= []) (hq:Q .normal {(a.put (some t) (.func (.func g) #[] #[a.tmps.getD ss undef])) with defers:= [Ye f g a se ss]} w):(Code.region i #[o1,o2] false).wpIn (fw none) n P Q a w:=by
 obtain ⟨h1,h2,h3,ts,h4⟩:=h
 refine wpIn_region_list ?_
 show if Region.wanted o1 (Go.yielded _ a.tmps) then _ else _
 rw [if_pos (by simp [Region.wanted,h1.1])]
 refine aa8 (v:= .func (.func g) #[] #[a.tmps.getD ss undef]) (fun c e=>by rw [h1.2.2] at e;cases e) (by
  simp only [execOp,h1.2.2,Sem.run_bind,Sem.run_pure]
  simp [Instr.makeFunc,Act.eval]) ?_
 show if Region.wanted o2 (Go.yielded _ _) then _ else _
 rw [if_pos (by simp [Region.wanted,h2])]
 refine ⟨fun _ _=>trivial,?_⟩
 have r:((Oper.semAt (fw none).round (a.put (some t) (.func (.func g) #[] #[a.tmps.getD ss undef])).eval o2).run P w)= .ok (.defer (Ye f g a se ss)) w:=by
  show (execOp _ o2).run P w=_
  have e1:(a.put (some t) (.func (.func g) #[] #[a.tmps.getD ss undef])).tmps.getD se undef=a.tmps.getD se undef:=by
   rw [iK]
   simp only [Option.some.injEq]
   rw [if_neg fun h=>hne (by first|exact h.1|exact h.1.symm)]
  have e2:(a.put (some t) (.func (.func g) #[] #[a.tmps.getD ss undef])).tmps.getD t undef= .func (.func g) #[] #[a.tmps.getD ss undef]:=by
   rw [iK]
   simp [ht]
  generalize (a.put (some t) (Value.func (Fn.func g) #[] #[a.tmps.getD ss undef]))=a1 at e1 e2 ⊢
  unfold Ye
  generalize a.tmps.getD ss undef=y at e2 ⊢
  generalize a.tmps.getD se undef=x at e1 ⊢
  have e1:a1.eval (.tmp se)=x:=e1
  have e2:a1.eval (.tmp t)= .func (.func g) #[] #[y]:=e2
  have e3:a1.eval (.func f)= .func (.func f) #[] #[]:=rfl
  simp only [execOp,h4,resolve,e3,Deferred.ofValue,Sem.run_bind,Sem.run_pure,Result.andThen_ok]
  simp [e1,e2]
 rw [h1.2.1]
 rw [r]
 simp only [Oper.uponIn]
 rw [h3]
 simp only [put_defers,hd]
 exact hq
end
end Go.Ev
namespace Go.Proofs.YtngdehlpoomaiaaGreat
open Go Go.Ev Go.Proofs
theorem adY {a:Addr} {k:Int} {x:Value} {w w1:World} (hc:w.cell? a=some x) (h:(Instr.storeAt 30 (.pointer (some a)) (.int .i64 k)).run Tryz.prog w= .ok () w1):w.frozen? a=false/\ w1=w.setCell a (.int .i64 k):=by
 simp [go_sem,hc] at h
 split at h
 ·cases h
 ·rename_i hz
  cases h
  exact ⟨by simpa using hz,rfl⟩
def yE (g:FuncId) (t:TypeId) (z:Value):Prop:=cr Tryz.prog g/\ ∀(a:Addr) (w w2:World),(Instr.storeAt t (.pointer (some a)) z).run Tryz.prog w= .ok () w2->Calls Tryz.prog g #[.pointer (some a)] w fun e w'=>e= .returned (.tuple #[])/\ w'=w2
theorem X3 {g:FuncId} {fn:Func} {t:TypeId} {z:Value} {o:Oper} (Bn:cr Tryz.prog g) (hf:Tryz.prog.funcs[g]? =some fn) (hb:fn.body=some (.region 0 #[o] false)) (hr:fn.results= #[]) (ho:o.guard=none/\ o.op= .store t (.tmp 0) (.const z)):yE g t z:=by
 refine ⟨Bn,fun a w w2 h=> ?_⟩
 refine callsIn_wide.1 (callsIn_of_wp (F:=fw none) (n:=0) hf hb trivial ?_ rfl)
 refine wpIn_region_list ?_
 show if Region.wanted o (Go.yielded _ _) then _ else _
 rw [if_pos (by simp [Region.wanted,ho.1])]
 have e0:(Act.eval {tmps:= #[Value.pointer (some a)]++Array.replicate (fn.ntmps- #[Value.pointer (some a)].size) undef,defers:= []} (.tmp 0))= .pointer (some a):=by
  simp only [Act.eval]
  rw [Array.getD_eq_getD_getElem?,Array.getElem?_append_left (by simp)]
  rfl
 refine Py ho.2 (w2:=w2) (by rw [e0];exact h) ?_
 refine ⟨by rw [put_defers],.tuple #[],?_,rfl,rfl⟩
 simp [results,hr]
set_option maxRecDepth 100000 in
theorem ab6:yE 33 27 (.agg #[.int .i64 0,.int .i64 0,.int .i64 0]):=by
 refine ⟨cr.of (fn:=Tryz.f33) (by kernel_rfl) (by kernel_rfl) (by kernel_rfl),fun a w w2 h=> ?_⟩
 have hb:Tryz.f33.body=some (.region 0 #[s8 (opsOf 0 (aG Tryz.f33)) 0,s8 (opsOf 0 (aG Tryz.f33)) 1] false):=by kernel_rfl
 refine callsIn_wide.1 (callsIn_of_wp (F:=fw none) (n:=0) (fn:=Tryz.f33) (by kernel_rfl) hb trivial ?_ rfl)
 have g0:(s8 (opsOf 0 (aG Tryz.f33)) 0).guard=none/\ (s8 (opsOf 0 (aG Tryz.f33)) 0).dst=some 1/\ (s8 (opsOf 0 (aG Tryz.f33)) 0).op= .build 27 #[]:=⟨by kernel_rfl,by kernel_rfl,by kernel_rfl⟩
 have g1:(s8 (opsOf 0 (aG Tryz.f33)) 1).guard=none/\ (s8 (opsOf 0 (aG Tryz.f33)) 1).op= .store 27 (.tmp 0) (.tmp 1):=⟨by kernel_rfl,by kernel_rfl⟩
 have hn:Tryz.f33.ntmps=2:=by kernel_rfl
 have hr:Tryz.f33.results= #[]:=by kernel_rfl
 revert g0 g1 hb hn hr
 generalize s8 (opsOf 0 (aG Tryz.f33)) 0=o0
 generalize s8 (opsOf 0 (aG Tryz.f33)) 1=o1
 generalize Tryz.f33=fn
 intro hb g0 g1 hn hr
 refine wpIn_region_list ?_
 show if Region.wanted o0 (Go.yielded _ _) then _ else _
 rw [if_pos (by simp [Region.wanted,g0.1])]
 have hz: ∀w:World,(Instr.build 27 #[]).run Tryz.prog w= .ok (.agg #[.int .i64 0,.int .i64 0,.int .i64 0]) w:=fun w=>by kernel_rfl
 refine aa8 (v:= .agg #[.int .i64 0,.int .i64 0,.int .i64 0]) (fun c e=>by rw [g0.2.2] at e;cases e) (by
  simp only [execOp,g0.2.2,Sem.run_bind,Sem.run_pure,List.map_toArray,List.map_nil]
  simp [hz]) ?_
 show if Region.wanted o1 (Go.yielded _ _) then _ else _
 rw [if_pos (by simp [Region.wanted,g1.1])]
 refine Py g1.2 (w2:=w2) ?_ ?_
 ·have e0:(Act.eval (Act.put {tmps:= #[Value.pointer (some a)]++Array.replicate (fn.ntmps- #[Value.pointer (some a)].size) undef,defers:= []} o0.dst (.agg #[.int .i64 0,.int .i64 0,.int .i64 0])) (.tmp 0))= .pointer (some a):=by simp [Act.eval,g0.2.1,Act.put,hn]
  have e1:(Act.eval (Act.put {tmps:= #[Value.pointer (some a)]++Array.replicate (fn.ntmps- #[Value.pointer (some a)].size) undef,defers:= []} o0.dst (.agg #[.int .i64 0,.int .i64 0,.int .i64 0])) (.tmp 1))= .agg #[.int .i64 0,.int .i64 0,.int .i64 0]:=by simp [Act.eval,g0.2.1,Act.put,hn]
  rw [e0,e1];exact h
 ·refine ⟨by simp only [put_defers],.tuple #[],?_,rfl,rfl⟩
  simp [results,hr]
end Go.Proofs.YtngdehlpoomaiaaGreat
namespace Go.Proofs.YtngdehlpoomaiaaGreat
open Go Go.Ev Go.Proofs
theorem Jc {P:Program} {f:FuncId} {args cap:Array Value} (Bn:cr P f) (w:World):(invoke (.fn (.func f) cap) args).run P w= .ok (.enter f (args++cap)) w:=Bn _ _
abbrev wL (se ss:Nat) (t:TypeId) (z:Value):PL:= [(se,30,fun c=> .int .i64 c),(ss,t,fun _=>z)]
theorem K1 {ctx:Ctx} (hT:aK Tryz.prog ctx.tt) (hC:fq Tryz.prog ctx) (hX:ctx.X=cy) (hm:Tryz.prog.follows .mixedOrders=true) {f g:FuncId} {fn fm:Func} {i0 i1 t se ss ne ns np:Nat} {Wo:Array Oper} {o1 o2:Oper} {rest:Code} {rs:List Nat} {ty:TypeId} {z:Value}
  (hf:Tryz.prog.funcs[f]? =some fn) (hb:fn.body=some (.seq (.region i0 Wo false) (.seq (.region i1 #[o1,o2] false) rest))) (hd:NN 29 g t se ss o1 o2) (hts: ¬t=se/\ ¬t=ss) (hg:yE g ty z)
  (hrf:Js rest=true) (mL:SA Tryz.prog ctx 30 (SC Tryz.prog (wL se ss ty z)) rs rest)
  {args:List AV} {H B:List aF} {T0:List AV} {aq:e8} {W w:World} {ρ:Env} (hbd:aq.bd= []) {R:AV->AS->Prop} {MY:Ctx} (hT0:aK Tryz.prog MY.tt)
  (hH:gY (ai H) H.length=H) (hHB: ∀ρ,gY (ai ((H++ .cw ρ H.length::B).set H.length .gone)) (H++ .cw ρ H.length::B).length=H++ .gone::B)
  (hl:np=(H++ .gone::B).length) (htl:t<T0.length) (hnn:ne<np/\ ns<np) (hse:cz T0 se= .v (.one (.ptr ne 0))) (hss:cz T0 ss= .v (.one (.ptr ns 0)))
  (hpre: ∀ρ,lP ctx Wo false ⟨args++List.replicate (fn.ntmps- args.length) ck,H++ [.cw ρ H.length]⟩ fun st=>st=⟨T0,H++ .cw ρ H.length::B⟩)
  (Xi:fm= {fn with body:=some (gC rs rest)})
  (h: ∀r0,cJ ctx (gC rs rest) ⟨T0.set t .dead,H++ .gone::B++ [.cw r0 np]⟩ (M6 ctx fn (BJ np r0 R) (Dl np se ss ne ns r0 fun st=>qj MY fn st R)))
  (hargs: ∀x∈args,x.ok (· <H.length)) (hst:St aq W ρ (· <H.length) (ai H) w):
  Calls Tryz.prog f (args.map (AV.ae ρ)).toArray w fun e w'=> ∃st ρ' v,e= .returned (v.ae ρ')/\ v.ok (· <st.heap.length)/\ R v st/\ (∀m,m<H.length->ρ' m=ρ m)/\ St aq W ρ' (· <st.heap.length) (ai st.heap) w':=by
 obtain ⟨aX,IW,m8⟩:=hst.pinned
 rw [hH] at m8
 have hl1:(H++ [aF.cw ρ H.length]).length=H.length+1:=by simp
 have hca:args.map (AV.ae aX)=args.map (AV.ae ρ):=List.map_congr_left fun x hx=>AV.bt (Kn:=(· <H.length)) IW x (hargs x hx)
 rw [<- hca]
 refine callsIn_wide.1 (callsIn_of_wp_defers (F:=fw none) (n:=0) hf hb trivial ?_ rfl)
 have Df:=Pw (aq:=aq) (W:=W) (m:=fn.ntmps) (args:=args) (heap:=H++ [.cw ρ H.length]) (ρ:=aX) (w:=w) (fun x hx=>AV.aV (fun i hi=>by rw [hl1];omega) x (hargs x hx)) (by rw [hl1];exact m8) hbd
 have hXb: ∀aq:e8,ru aq W ctx.X:=fun aq=>by rw [hX];exact cy.ok aq W
 refine wpIn_seq (wpIn_mono (L4 (tE:=30) (Pn:=fun _ _ _ _ _=>True) (K:=fun e st=>match e with| .normal=>st=⟨T0,H++ .cw ρ H.length::B⟩|_=>False) hT hC hm (hXb aq) (hpre ρ) Df) ?_)
 rintro e a w1 (⟨hx,st,jb,hk,aR⟩|⟨_,_,_,_,_,_,st,_,hk,_⟩)
 rotate_left
 ·exact hk.elim
 cases e with
 |normal=> ?_
 |_=>exact hk.elim
 have hk:st=⟨T0,H++ .cw ρ H.length::B⟩:=hk
 subst hk
 have hlt:t<a.tmps.size:=by rw [aR.bz.size];exact htl
 have hdf:a.defers= []:=by have:=aR.bz.defers;rw [hbd] at this;exact this
 refine wpIn_seq (afz hd hts.1 hlt hdf ?_)
 have aiK:=aR.bz.st
 have aiD:ai (H++aF.cw ρ H.length::B) H.length=some (.cw ρ H.length):=by
  rw [bu,List.getElem?_append_right (Nat.le_refl _)]
  simp [live]
 have wJ: ∀m,m<H.length->jb m=ρ m:=(aiK.at_ H.length _ aiD).2
 have aiL:=aiK.Yh H.length
 obtain ⟨sO,eV,VB⟩:=aiL.pinned
 dsimp only at VB eV
 rw [List.length_set] at eV VB
 have Dh:(H++aF.cw ρ H.length::B).length=np:=by rw [hl];simp
 rw [Dh] at eV
 have afO:=hHB ρ
 rw [Dh] at afO VB
 rw [afO] at VB
 obtain ⟨UI,dI⟩: ∃UI:e8,UI= {wr:=aq.wr,nw:=aq.nw,bd:= [Ye 29 g a se ss]} :=⟨_,rfl⟩
 have fF:D5 UI W ⟨T0.set t .dead,H++ .gone::B++ [.cw jb np]⟩ sO {(a.put (some t) (.func (.func g) #[] #[a.tmps.getD ss undef])) with defers:= [Ye 29 g a se ss]} w1:=by
  have DE:(H++aF.gone::B++ [aF.cw jb np]).length=np+1:=by rw [hl];simp;omega
  refine ⟨List.nodup_nil,fun D hD=>absurd hD (by simp),fun q hq=> ?_,?_,by subst dI;rfl,fun q=> ?_,?_⟩
  ·dsimp only at hq ⊢
   rw [iJ] at hq ⊢
   by_cases e:q=t/\ t<T0.length
   ·rw [if_pos e] at hq;exact absurd rfl hq
   ·rw [if_neg e] at hq
    rw [if_neg e]
    have hqt: ¬q=t:=fun h=>e ⟨h,htl⟩
    have e1:(a.put (some t) (.func (.func g) #[] #[a.tmps.getD ss undef])).tmps.getD q undef=a.tmps.getD q undef:=by
     rw [iK]
     simp only [Option.some.injEq]
     rw [if_neg fun h=>hqt (by first|exact h.1|exact h.1.symm)]
    rw [e1,aR.bz.tmps q hq]
    exact (AV.bt (Kn:=(· <np)) eV _ (by have:=aR.bz.kn q;dsimp only at this;rw [Dh] at this;exact this)).symm
  ·rw [mB,aR.bz.size];simp
  ·dsimp only
   rw [iJ]
   split
   ·trivial
   ·refine AV.aV (fun i hi=> ?_) _ (aR.bz.kn q)
    dsimp only at hi
    rw [Dh] at hi
    rw [DE];omega
  ·dsimp only
   rw [DE]
   exact VB.afj (by subst dI;rfl) (by subst dI;rfl)
 refine wpIn_mono (afN hT hC hm rest hrf mL UI W 0 (hXb UI) _ _ (h jb) sO _ w1 fF) ?_
 clear fF VB aiL afO hHB hpre h Df
 have hde:(Ye 29 g a se ss).target= .fn (.func 29) #[]:=rfl
 have fin: ∀a' w' st ρ',D5 UI W st ρ' a' w'->qj MY fn st R->ai st.heap np=some (.cw jb np)->LeavesIn (fw none) 0 Tryz.prog fn a'.tmps (fun e w'=> ∃st ρ' v,e= .returned (v.ae ρ')/\ v.ok (· <st.heap.length)/\ R v st/\ (∀m,m<H.length->ρ' m=ρ m)/\ St aq W ρ' (· <st.heap.length) (ai st.heap) w') [] .returning w':=by
  intro a' w' st ρ' aR hr hp
  obtain ⟨v,h1,h2,h3⟩:=wv hT0 aR.bz hr
  refine ⟨_,h1,st,ρ',v,rfl,h2,h3,fun m hm=> ?_,aR.bz.st.afj (by subst dI;rfl) (by subst dI;rfl)⟩
  have:=(aR.bz.st.at_ np _ hp).2 m (by rw [hl];simp;omega)
  rw [this];exact wJ m hm
 have hcE:cr Tryz.prog 29:=cr.of (fn:=Tryz.f29) (by kernel_rfl) (by kernel_rfl) (by kernel_rfl)
 have hF:(fw none).depth.isSome=true->1<=0:=fun h=>by simp [fw] at h
 rintro e a' w' (⟨hx,st,ρ',hk,c9⟩|⟨k,a2,w2,rfl,hp,hfr,st,ρ',hk,c9⟩)
 ·
  have main:qj ctx fn st (BJ np jb R)->LeavesIn (fw none) 0 Tryz.prog fn a'.tmps (fun e w'=> ∃st ρ' v,e= .returned (v.ae ρ')/\ v.ok (· <st.heap.length)/\ R v st/\ (∀m,m<H.length->ρ' m=ρ m)/\ St aq W ρ' (· <st.heap.length) (ai st.heap) w') a'.defers .returning w':=by
   intro hr
   obtain ⟨v,h1,h2,h3⟩:=wv hT c9.bz hr
   obtain ⟨h4,h5⟩:=de h3
   have hda:a'.defers= [Ye 29 g a se ss]:=by have:=c9.bz.defers;rw [dI] at this;exact this
   rw [hda]
   refine ⟨by simp,hF,_,_,29,_,rfl,Jc hcE w',fun _ _=>trivial,?_⟩
   refine (MO _ _ _ w').mono ?_
   rintro e u' w3 ⟨rfl,rfl,rfl⟩
   refine ⟨_,h1,st,ρ',v,rfl,h2,h5,fun m hm=> ?_,c9.bz.st.afj (by subst dI;rfl) (by subst dI;rfl)⟩
   have:=(c9.bz.st.at_ np _ h4).2 m (by rw [hl];simp;omega)
   rw [this];exact wJ m hm
  cases e with
  |normal=>exact main hk
  |ret=>exact main hk
  |exit n=>
   unfold M6 at hk
   dsimp only at hk
   cases hb:Nat.beq n pN with
   |true=>exact absurd (congrArg Exit.exit (Nat.eq_of_beq_eq_true hb)) hx
   |false=>rw [hb] at hk;exact hk.elim
  |_=>exact hk.elim
 ·
  have hk:Dl np se ss ne ns jb (fun st=>qj MY fn st R) st:=hk
  obtain ⟨k1,k2,k3,k4⟩:=Wq hk
  obtain ⟨⟨aE,xE,p1,p2⟩,w3,p3,⟨⟨aS,xS,p4,p5⟩,w4,p6,p7,p8⟩⟩:=hp
  subst p7 p8
  dsimp only at p1 p3 p4 p6
  have hda:a2.defers= [Ye 29 g a se ss]:=by have:=c9.bz.defers;rw [dI] at this;exact this
  have hpe:=(c9.bz.st.at_ np _ k3).2
  have addr: ∀s n,cz st.tmps s= .v (.one (.ptr n 0))->cz T0 s= .v (.one (.ptr n 0))->n<np-> ∀ad,a2.tmps.getD s undef= .pointer (some ad)->a.tmps.getD s undef= .pointer (some ad):=by
   intro s n q1 q2 hn ad hq
   have r1:=c9.bz.tmps s (by rw [q1];simp)
   have r2:=aR.bz.tmps s (by dsimp only;rw [q2];simp)
   dsimp only at r2
   rw [q1] at r1
   rw [q2] at r2
   rw [r2,<- hq,r1]
   simp only [AV.ae,A0.ae,Cell.ae,addrOf,hpe n hn]
  have gE:=addr se ne k1 hse hnn.1 aE p1
  have gS:=addr ss ns k2 hss hnn.2 aS p4
  show LeavesIn (fw none) 0 Tryz.prog fn a2.tmps _ a2.defers (.panicking [ent 30 k]) w'
  rw [hda]
  refine ⟨by simp,hF,_,_,29,_,rfl,Jc hcE w',fun _ _=>trivial,?_⟩
  rw [p1] at p3
  rw [p4] at p6
  obtain ⟨z1,z2⟩:=adY p2 p3
  have Yl:(Ye 29 g a se ss).args= #[.pointer (some aE),.func (.func g) #[] #[.pointer (some aS)]]:=by simp only [Ye,gE,gS]
  rw [show (Ye 29 g a se ss).args++ #[]= #[.pointer (some aE),.func (.func g) #[] #[.pointer (some aS)]] by rw [Yl];rfl]
  refine (Qo _ aE g #[.pointer (some aS)] k [] w' w3 _ xE p2 z1 z2 hg.1 (hg.2 aS w3 _ p6)).mono ?_
  rintro e u' w5 ⟨rfl,rfl,rfl⟩
  exact fin _ _ _ _ c9 k4 k3
end Go.Proofs.YtngdehlpoomaiaaGreat
