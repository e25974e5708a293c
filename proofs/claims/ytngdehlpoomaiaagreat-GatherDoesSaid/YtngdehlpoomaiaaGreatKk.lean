/- What is thrown is caught: the deferred function's two contracts. -/
import Derived.Test.YtngdehlpoomaiaaGreatChecked
import Derived.Tactics
import Derived.Tactics2
import Derived.Defers
import Derived.Recover
import Derived.RecoverIn
import Derived.TacticsInMore
import Derived.Laws.Pointers
import Derived.RegionTactic
import Derived.RegionCalls
import Derived.ChangeAlike
import Derived.Test.YtngdehlpoomaiaaGreatKl
noncomputable section
set_option linter.unusedSectionVars false
set_option linter.unusedVariables false
set_option linter.unusedSimpArgs false
namespace Go.Proofs.YtngdehlpoomaiaaGreat
open Go Go.Proofs
theorem aqx (w:World):(Instr.typeAssert .nilIface 20 30 true).run Tryz.prog w= .ok (.tuple #[.int .i64 0,.bool false]) w:=by kernel_rfl
theorem aku (k:Value) (w:World):(Instr.typeAssert (.iface 30 k) 20 30 true).run Tryz.prog w= .ok (.tuple #[k,.bool true]) w:=by kernel_rfl
theorem U6 (n:Nat) (a cl:Value) (w:World):
  CallsDIn Fence.wide n Tryz.prog 29 #[a,cl] .returning w fun e u' w'=>e= .returned (.tuple #[])/\ u'= .returning/\ w'=w:=by
 refine callsDIn_of_wpSIn Tryz.func29 rfl trivial fun c₀ cs hu=> ?_
 apply wpSIn_seq
 apply wpSIn_region
 simp [wpOpsSIn,go_sem,recoverD,hu,Tryz.ntmps29,Exit.thenS,aqx,Fence.wide]
 apply wpSIn_seq
 apply wpSIn_region
 simp [wpOpsSIn,go_sem,Exit.thenS,Fence.wide]
 refine wpSIn_cond (t:=false) (by simp [Act.eval,Array.replicate]) ?_
 simp only [Bool.false_eq_true,if_false]
 refine wpSIn_of_wpIn rfl (wpIn_skip ?_)
 cases c₀
 simp_all [bodyPostS,results,Tryz.results29]
theorem YV (n:Nat) (a:Addr) (g:FuncId) (cap:Array Value) (k:Int) (older:List PanicEntry) (w w1 w2:World) (x0:Value) (hc:w.cell? a=some x0) (hz:w.frozen? a=false) (hw1:w1=w.setCell a (.int .i64 k))
  (B5: ∀args w,(callFunc g args).run Tryz.prog w= .ok (.enter g args) w)
  (hg:Calls Tryz.prog g cap w1 fun e w'=>e= .returned (.tuple #[])/\ w'=w2):
  CallsDIn Fence.wide n Tryz.prog 29 #[.pointer (some a),.func (.func g) #[] cap] (.panicking ({v:= .iface 30 (.int .i64 k),recovered:=false} ::older)) w fun e u' w'=>
   e= .returned (.tuple #[])/\ u'= .panicking ({v:= .iface 30 (.int .i64 k),recovered:=true} ::older)/\ w'=w2:=by
 refine callsDIn_of_wpSIn Tryz.func29 rfl trivial fun c₀ cs hu=> ?_
 apply wpSIn_seq
 apply wpSIn_region
 simp [wpOpsSIn,go_sem,recoverD,hu,Tryz.ntmps29,Exit.thenS,aku,Fence.wide]
 apply wpSIn_seq
 apply wpSIn_region
 simp [wpOpsSIn,go_sem,Exit.thenS,Fence.wide]
 refine wpSIn_cond (t:=true) (by simp [Act.eval,Array.replicate]) ?_
 simp only [if_true]
 apply wpSIn_seq
 apply wpSIn_region
 simp [wpOpsSIn,go_sem,hc,hz,Exit.thenS,Fence.wide]
 subst hw1
 refine wpSIn_of_wpIn rfl ?_
 refine wpIn_wide.2 ?_
 go_wp2
 rename_i hK
 refine hg.mono ?_
 rintro e w' ⟨rfl,rfl⟩
 refine hK _ _ ?_
 go_wp2
 simp [bodyPostS,results,Tryz.results29]
end Go.Proofs.YtngdehlpoomaiaaGreat
namespace Go.Ev
open Go.RowKit
def Ct (np:Nat) (r0:Env) (R:AV->AS->Prop) (v:AV) (st:AS):Prop:=rU (ai st.heap np) r0 np (R v st)
def DP (np se ss ne ns:Nat) (r0:Env) (X:AS->Prop) (st:AS):Prop:=match bY st.tmps se with
 | .v (.one (.ptr a i))=>match bY st.tmps ss with
  | .v (.one (.ptr b j))=>ob (decide (a=ne)&&(decide (i=0)&&(decide (b=ns)&&decide (j=0)))) (rU (ai st.heap np) r0 np (X st))
  |_=>False
 |_=>False
theorem afd {np se ss ne ns:Nat} {r0:Env} {X:AS->Prop} {st:AS} (h:DP np se ss ne ns r0 X st):bY st.tmps se= .v (.one (.ptr ne 0))/\ bY st.tmps ss= .v (.one (.ptr ns 0))/\ ai st.heap np=some (.cg r0 np)/\ X st:=by
 unfold DP at h
 split at h
 rotate_left
 ·exact h.elim
 rename_i h1
 split at h
 rotate_left
 ·exact h.elim
 rename_i h2
 obtain ⟨hb,hq⟩:=bh h
 simp only [Bool.and_eq_true,decide_eq_true_eq] at hb
 obtain ⟨h3,h4⟩:=dy hq
 obtain ⟨rfl,rfl,rfl,rfl⟩:=hb
 exact ⟨h1,h2,h3,h4⟩
theorem St.aoS {av alH:fG} {W:World} {ρ:Env} {Kn:Nat->Prop} {Γ:HP} {w:World} (h:St av W ρ Kn Γ w) (h1:alH.wr=av.wr) (h2:alH.nw=av.nw):St alH W ρ Kn Γ w:=by
 cases av;cases alH;cases h1;cases h2
 exact ⟨⟨h.fr.os,h.fr.tape,h.fr.output,h.fr.size,h.fr.block,h.fr.Pd⟩,h.at_,h.kn,h.dU,h.lC,h.ru,h.wK⟩
section
variable {P:Program} {o:Oper} {a:Act} {w w2:World} {ro:Option Nat} {n:Nat} {next:Act->World->Prop} {Q:Exit->Act->World->Prop}
theorem Yh {t:TypeId} {p x:Operand} (ho:o.op= .store t p x) (h:(Instr.storeAt t (a.eval p) (a.eval x)).run P w= .ok () w2) (hn:next (a.put o.dst undef) w2):o.wpIn (fw ro) n P a w next Q:=by
 refine ⟨fun _ _=>trivial,?_⟩
 rw [Oper.semAt_eq _ _ _ fun c e=>by rw [ho] at e;cases e]
 have r:(execOp a.eval o).run P w= .ok .skip w2:=by
  simp only [execOp,ho,Sem.run_bind,Sem.run_pure,h,Result.andThen_ok]
 rw [r]
 exact hn
theorem akD {v:Value} (hd: ∀c,o.op≠ .defer c) (h:(execOp a.eval o).run P w= .ok (.value v) w) (hn:next (a.put o.dst v) w):o.wpIn (fw ro) n P a w next Q:=by
 refine ⟨fun _ _=>trivial,?_⟩
 rw [Oper.semAt_eq _ _ _ hd,h]
 exact hn
def dfr (f g:FuncId) (a:Act) (se ss:Nat):Deferred:= {target:= .fn (.func f) #[],args:= #[a.tmps.getD se undef,.func (.func g) #[] #[a.tmps.getD ss undef]]}
def PT (f g:FuncId) (t se ss:Nat) (o1 o2:Oper):Prop:=(o1.guard=none/\ o1.dst=some t/\ o1.op= .makeFunc (.func g) #[] #[.tmp ss])/\ o2.guard=none/\ o2.dst=none/\ ∃ts,o2.op= .defer ⟨.value (.func f),#[.tmp se,.tmp t],ts⟩
theorem ao6 {f g:FuncId} {t se ss i:Nat} {o1 o2:Oper} (h:PT f g t se ss o1 o2) (hne: ¬t=se) (ht:t<a.tmps.size) (hd:a.defers= []) (hq:Q .normal {(a.put (some t) (.func (.func g) #[] #[a.tmps.getD ss undef])) with defers:= [dfr f g a se ss]} w):(Code.region i #[o1,o2] false).wpIn (fw none) n P Q a w:=by
 obtain ⟨h1,h2,h3,ts,h4⟩:=h
 refine wpIn_region_list ?_
 show if Region.wanted o1 (Go.yielded _ a.tmps) then _ else _
 rw [if_pos (by simp [Region.wanted,h1.1])]
 refine akD (v:= .func (.func g) #[] #[a.tmps.getD ss undef]) (fun c e=>by rw [h1.2.2] at e;cases e) (by
  simp only [execOp,h1.2.2,Sem.run_bind,Sem.run_pure]
  simp [Instr.makeFunc,Act.eval]) ?_
 show if Region.wanted o2 (Go.yielded _ _) then _ else _
 rw [if_pos (by simp [Region.wanted,h2])]
 refine ⟨fun _ _=>trivial,?_⟩
 have r:((Oper.semAt (fw none).round (a.put (some t) (.func (.func g) #[] #[a.tmps.getD ss undef])).eval o2).run P w)= .ok (.defer (dfr f g a se ss)) w:=by
  show (execOp _ o2).run P w=_
  have e1:(a.put (some t) (.func (.func g) #[] #[a.tmps.getD ss undef])).tmps.getD se undef=a.tmps.getD se undef:=by
   rw [jz]
   simp only [Option.some.injEq]
   rw [if_neg fun h=>hne (by first|exact h.1|exact h.1.symm)]
  have e2:(a.put (some t) (.func (.func g) #[] #[a.tmps.getD ss undef])).tmps.getD t undef= .func (.func g) #[] #[a.tmps.getD ss undef]:=by
   rw [jz]
   simp [ht]
  generalize (a.put (some t) (Value.func (Fn.func g) #[] #[a.tmps.getD ss undef]))=a1 at e1 e2 ⊢
  unfold dfr
  generalize a.tmps.getD ss undef=y at e2 ⊢
  generalize a.tmps.getD se undef=x at e1 ⊢
  have e1:a1.eval (.tmp se)=x:=e1
  have e2:a1.eval (.tmp t)= .func (.func g) #[] #[y]:=e2
  have e3:a1.eval (.func f)= .func (.func f) #[] #[]:=rfl
  simp only [execOp,h4,resolve,e3,Deferred.ofValue,Sem.run_bind,Sem.run_pure,Result.andThen_ok]
  simp [e1,e2]
 rw [h1.2.1]
 rw [r]
 simp only [Oper.uponIn]
 rw [h3]
 simp only [put_defers,hd]
 exact hq
end
end Go.Ev
namespace Go.Proofs.YtngdehlpoomaiaaGreat
open Go Go.Ev Go.Proofs
theorem anA {a:Addr} {k:Int} {x:Value} {w w1:World} (hc:w.cell? a=some x) (h:(Instr.storeAt 30 (.pointer (some a)) (.int .i64 k)).run Tryz.prog w= .ok () w1):w.frozen? a=false/\ w1=w.setCell a (.int .i64 k):=by
 simp [go_sem,hc] at h
 split at h
 ·cases h
 ·rename_i hz
  cases h
  exact ⟨by simpa using hz,rfl⟩
def zz (g:FuncId) (t:TypeId) (z:Value):Prop:=b9 Tryz.prog g/\ ∀(a:Addr) (w w2:World),(Instr.storeAt t (.pointer (some a)) z).run Tryz.prog w= .ok () w2->Calls Tryz.prog g #[.pointer (some a)] w fun e w'=>e= .returned (.tuple #[])/\ w'=w2
theorem YW {g:FuncId} {fn:Func} {t:TypeId} {z:Value} {o:Oper} (B5:b9 Tryz.prog g) (hf:Tryz.prog.funcs[g]? =some fn) (hb:fn.body=some (.region 0 #[o] false)) (hr:fn.results= #[]) (ho:o.guard=none/\ o.op= .store t (.tmp 0) (.const z)):zz g t z:=by
 refine ⟨B5,fun a w w2 h=> ?_⟩
 refine callsIn_wide.1 (callsIn_of_wp (F:=fw none) (n:=0) hf hb trivial ?_ rfl)
 refine wpIn_region_list ?_
 show if Region.wanted o (Go.yielded _ _) then _ else _
 rw [if_pos (by simp [Region.wanted,ho.1])]
 have e0:(Act.eval {tmps:= #[Value.pointer (some a)]++Array.replicate (fn.ntmps- #[Value.pointer (some a)].size) undef,defers:= []} (.tmp 0))= .pointer (some a):=by
  simp only [Act.eval]
  rw [Array.getD_eq_getD_getElem?,Array.getElem?_append_left (by simp)]
  rfl
 refine Yh ho.2 (w2:=w2) (by rw [e0];exact h) ?_
 refine ⟨by rw [put_defers],.tuple #[],?_,rfl,rfl⟩
 simp [results,hr]
set_option maxRecDepth 100000 in
theorem alK:zz 33 27 (.agg #[.int .i64 0,.int .i64 0,.int .i64 0]):=by
 refine ⟨b9.of (fn:=Tryz.f33) (by kernel_rfl) (by kernel_rfl) (by kernel_rfl),fun a w w2 h=> ?_⟩
 have hb:Tryz.f33.body=some (.region 0 #[r7 (opsOf 0 (aC Tryz.f33)) 0,r7 (opsOf 0 (aC Tryz.f33)) 1] false):=by kernel_rfl
 refine callsIn_wide.1 (callsIn_of_wp (F:=fw none) (n:=0) (fn:=Tryz.f33) (by kernel_rfl) hb trivial ?_ rfl)
 have g0:(r7 (opsOf 0 (aC Tryz.f33)) 0).guard=none/\ (r7 (opsOf 0 (aC Tryz.f33)) 0).dst=some 1/\ (r7 (opsOf 0 (aC Tryz.f33)) 0).op= .build 27 #[]:=⟨by kernel_rfl,by kernel_rfl,by kernel_rfl⟩
 have g1:(r7 (opsOf 0 (aC Tryz.f33)) 1).guard=none/\ (r7 (opsOf 0 (aC Tryz.f33)) 1).op= .store 27 (.tmp 0) (.tmp 1):=⟨by kernel_rfl,by kernel_rfl⟩
 have hn:Tryz.f33.ntmps=2:=by kernel_rfl
 have hr:Tryz.f33.results= #[]:=by kernel_rfl
 revert g0 g1 hb hn hr
 generalize r7 (opsOf 0 (aC Tryz.f33)) 0=o0
 generalize r7 (opsOf 0 (aC Tryz.f33)) 1=o1
 generalize Tryz.f33=fn
 intro hb g0 g1 hn hr
 refine wpIn_region_list ?_
 show if Region.wanted o0 (Go.yielded _ _) then _ else _
 rw [if_pos (by simp [Region.wanted,g0.1])]
 have hz: ∀w:World,(Instr.build 27 #[]).run Tryz.prog w= .ok (.agg #[.int .i64 0,.int .i64 0,.int .i64 0]) w:=fun w=>by kernel_rfl
 refine akD (v:= .agg #[.int .i64 0,.int .i64 0,.int .i64 0]) (fun c e=>by rw [g0.2.2] at e;cases e) (by
  simp only [execOp,g0.2.2,Sem.run_bind,Sem.run_pure,List.map_toArray,List.map_nil]
  simp [hz]) ?_
 show if Region.wanted o1 (Go.yielded _ _) then _ else _
 rw [if_pos (by simp [Region.wanted,g1.1])]
 refine Yh g1.2 (w2:=w2) ?_ ?_
 ·have e0:(Act.eval (Act.put {tmps:= #[Value.pointer (some a)]++Array.replicate (fn.ntmps- #[Value.pointer (some a)].size) undef,defers:= []} o0.dst (.agg #[.int .i64 0,.int .i64 0,.int .i64 0])) (.tmp 0))= .pointer (some a):=by simp [Act.eval,g0.2.1,Act.put,hn]
  have e1:(Act.eval (Act.put {tmps:= #[Value.pointer (some a)]++Array.replicate (fn.ntmps- #[Value.pointer (some a)].size) undef,defers:= []} o0.dst (.agg #[.int .i64 0,.int .i64 0,.int .i64 0])) (.tmp 1))= .agg #[.int .i64 0,.int .i64 0,.int .i64 0]:=by simp [Act.eval,g0.2.1,Act.put,hn]
  rw [e0,e1];exact h
 ·refine ⟨by simp only [put_defers],.tuple #[],?_,rfl,rfl⟩
  simp [results,hr]
end Go.Proofs.YtngdehlpoomaiaaGreat
namespace Go.Proofs.YtngdehlpoomaiaaGreat
open Go Go.Ev Go.Proofs
theorem PN {P:Program} {f:FuncId} {args cap:Array Value} (B5:b9 P f) (w:World):(invoke (.fn (.func f) cap) args).run P w= .ok (.enter f (args++cap)) w:=B5 _ _
abbrev s7 (se ss:Nat) (t:TypeId) (z:Value):PL:= [(se,30,fun c=> .int .i64 c),(ss,t,fun _=>z)]
theorem KO {ctx:Ctx} (hT:di Tryz.prog ctx.tt) (hC:e8 Tryz.prog ctx) (hX:ctx.X=cf) (hm:Tryz.prog.follows .mixedOrders=true) {f g:FuncId} {fn fm:Func} {i0 i1 t se ss ne ns np:Nat} {Z2:Array Oper} {o1 o2:Oper} {rest:Code} {rs:List Nat} {ty:TypeId} {z:Value}
  (hf:Tryz.prog.funcs[f]? =some fn) (hb:fn.body=some (.seq (.region i0 Z2 false) (.seq (.region i1 #[o1,o2] false) rest))) (hd:PT 29 g t se ss o1 o2) (hts: ¬t=se/\ ¬t=ss) (hg:zz g ty z)
  (hrf:Ow rest=true) (oL:YL Tryz.prog ctx 30 (UL Tryz.prog (s7 se ss ty z)) rs rest)
  {args:List AV} {H B:List aD} {T0:List AV} {av:fG} {W w:World} {ρ:Env} (hbd:av.bd= []) {R:AV->AS->Prop} {So:Ctx} (hT0:di Tryz.prog So.tt)
  (hH:iZ (ai H) H.length=H) (hHB: ∀ρ,iZ (ai ((H++ .cg ρ H.length::B).set H.length .gone)) (H++ .cg ρ H.length::B).length=H++ .gone::B)
  (hl:np=(H++ .gone::B).length) (htl:t<T0.length) (hnn:ne<np/\ ns<np) (hse:bY T0 se= .v (.one (.ptr ne 0))) (hss:bY T0 ss= .v (.one (.ptr ns 0)))
  (hpre: ∀ρ,jW ctx Z2 false ⟨args++List.replicate (fn.ntmps- args.length) ck,H++ [.cg ρ H.length]⟩ fun st=>st=⟨T0,H++ .cg ρ H.length::B⟩)
  (hfm:fm= {fn with body:=some (gC rs rest)})
  (h: ∀r0,cJ ctx (gC rs rest) ⟨T0.set t .dead,H++ .gone::B++ [.cg r0 np]⟩ (Vq ctx fn (Ct np r0 R) (DP np se ss ne ns r0 fun st=>qX So fn st R)))
  (hargs: ∀x∈args,x.ok (· <H.length)) (hst:St av W ρ (· <H.length) (ai H) w):
  Calls Tryz.prog f (args.map (AV.ae ρ)).toArray w fun e w'=> ∃st ρ' v,e= .returned (v.ae ρ')/\ v.ok (· <st.heap.length)/\ R v st/\ (∀m,m<H.length->ρ' m=ρ m)/\ St av W ρ' (· <st.heap.length) (ai st.heap) w':=by
 obtain ⟨aR,Pv,pF⟩:=hst.pinned
 rw [hH] at pF
 have hl1:(H++ [aD.cg ρ H.length]).length=H.length+1:=by simp
 have hca:args.map (AV.ae aR)=args.map (AV.ae ρ):=List.map_congr_left fun x hx=>AV.bu (Kn:=(· <H.length)) Pv x (hargs x hx)
 rw [<- hca]
 refine callsIn_wide.1 (callsIn_of_wp_defers (F:=fw none) (n:=0) hf hb trivial ?_ rfl)
 have Ji:=Yf (av:=av) (W:=W) (m:=fn.ntmps) (args:=args) (heap:=H++ [.cg ρ H.length]) (ρ:=aR) (w:=w) (fun x hx=>AV.aT (fun i hi=>by rw [hl1];omega) x (hargs x hx)) (by rw [hl1];exact pF) hbd
 have hXb: ∀av:fG,uR av W ctx.X:=fun av=>by rw [hX];exact cf.ok av W
 refine wpIn_seq (wpIn_mono (J2 (tE:=30) (Pn:=fun _ _ _ _ _=>True) (K:=fun e st=>match e with| .normal=>st=⟨T0,H++ .cg ρ H.length::B⟩|_=>False) hT hC hm (hXb av) (hpre ρ) Ji) ?_)
 rintro e a w1 (⟨hx,st,jZ,hk,aQ⟩|⟨_,_,_,_,_,_,st,_,hk,_⟩)
 rotate_left
 ·exact hk.elim
 cases e with
 |normal=> ?_
 |_=>exact hk.elim
 have hk:st=⟨T0,H++ .cg ρ H.length::B⟩:=hk
 subst hk
 have hlt:t<a.tmps.size:=by rw [aQ.aX.size];exact htl
 have hdf:a.defers= []:=by have:=aQ.aX.defers;rw [hbd] at this;exact this
 refine wpIn_seq (ao6 hd hts.1 hlt hdf ?_)
 have asp:=aQ.aX.st
 have asf:ai (H++aD.cg ρ H.length::B) H.length=some (.cg ρ H.length):=by
  rw [bz,List.getElem?_append_right (Nat.le_refl _)]
  simp [live]
 have AO: ∀m,m<H.length->jZ m=ρ m:=(asp.at_ H.length _ asf).2
 have asq:=asp.ahn H.length
 obtain ⟨wI,ff,aex⟩:=asq.pinned
 dsimp only at aex ff
 rw [List.length_set] at ff aex
 have Lw:(H++aD.cg ρ H.length::B).length=np:=by rw [hl];simp
 rw [Lw] at ff
 have apm:=hHB ρ
 rw [Lw] at apm aex
 rw [apm] at aex
 obtain ⟨adJ,dR⟩: ∃adJ:fG,adJ= {wr:=av.wr,nw:=av.nw,bd:= [dfr 29 g a se ss]} :=⟨_,rfl⟩
 have fc:Jv adJ W ⟨T0.set t .dead,H++ .gone::B++ [.cg jZ np]⟩ wI {(a.put (some t) (.func (.func g) #[] #[a.tmps.getD ss undef])) with defers:= [dfr 29 g a se ss]} w1:=by
  have JN:(H++aD.gone::B++ [aD.cg jZ np]).length=np+1:=by rw [hl];simp;omega
  refine ⟨List.nodup_nil,fun D hD=>absurd hD (by simp),fun q hq=> ?_,?_,by subst dR;rfl,fun q=> ?_,?_⟩
  ·dsimp only at hq ⊢
   rw [fu] at hq ⊢
   by_cases e:q=t/\ t<T0.length
   ·rw [if_pos e] at hq;exact absurd rfl hq
   ·rw [if_neg e] at hq
    rw [if_neg e]
    have hqt: ¬q=t:=fun h=>e ⟨h,htl⟩
    have e1:(a.put (some t) (.func (.func g) #[] #[a.tmps.getD ss undef])).tmps.getD q undef=a.tmps.getD q undef:=by
     rw [jz]
     simp only [Option.some.injEq]
     rw [if_neg fun h=>hqt (by first|exact h.1|exact h.1.symm)]
    rw [e1,aQ.aX.tmps q hq]
    exact (AV.bu (Kn:=(· <np)) ff _ (by have:=aQ.aX.kn q;dsimp only at this;rw [Lw] at this;exact this)).symm
  ·rw [oz,aQ.aX.size];simp
  ·dsimp only
   rw [fu]
   split
   ·trivial
   ·refine AV.aT (fun i hi=> ?_) _ (aQ.aX.kn q)
    dsimp only at hi
    rw [Lw] at hi
    rw [JN];omega
  ·dsimp only
   rw [JN]
   exact aex.aoS (by subst dR;rfl) (by subst dR;rfl)
 refine wpIn_mono (apl hT hC hm rest hrf oL adJ W 0 (hXb adJ) _ _ (h jZ) wI _ w1 fc) ?_
 clear fc aex asq apm hHB hpre h Ji
 have hde:(dfr 29 g a se ss).target= .fn (.func 29) #[]:=rfl
 have fin: ∀a' w' st ρ',Jv adJ W st ρ' a' w'->qX So fn st R->ai st.heap np=some (.cg jZ np)->LeavesIn (fw none) 0 Tryz.prog fn a'.tmps (fun e w'=> ∃st ρ' v,e= .returned (v.ae ρ')/\ v.ok (· <st.heap.length)/\ R v st/\ (∀m,m<H.length->ρ' m=ρ m)/\ St av W ρ' (· <st.heap.length) (ai st.heap) w') [] .returning w':=by
  intro a' w' st ρ' aQ hr hp
  obtain ⟨v,h1,h2,h3⟩:=AA hT0 aQ.aX hr
  refine ⟨_,h1,st,ρ',v,rfl,h2,h3,fun m hm=> ?_,aQ.aX.st.aoS (by subst dR;rfl) (by subst dR;rfl)⟩
  have:=(aQ.aX.st.at_ np _ hp).2 m (by rw [hl];simp;omega)
  rw [this];exact AO m hm
 have hcE:b9 Tryz.prog 29:=b9.of (fn:=Tryz.f29) (by kernel_rfl) (by kernel_rfl) (by kernel_rfl)
 have hF:(fw none).depth.isSome=true->1<=0:=fun h=>by simp [fw] at h
 rintro e a' w' (⟨hx,st,ρ',hk,dr⟩|⟨k,a2,w2,rfl,hp,hfr,st,ρ',hk,dr⟩)
 ·
  have main:qX ctx fn st (Ct np jZ R)->LeavesIn (fw none) 0 Tryz.prog fn a'.tmps (fun e w'=> ∃st ρ' v,e= .returned (v.ae ρ')/\ v.ok (· <st.heap.length)/\ R v st/\ (∀m,m<H.length->ρ' m=ρ m)/\ St av W ρ' (· <st.heap.length) (ai st.heap) w') a'.defers .returning w':=by
   intro hr
   obtain ⟨v,h1,h2,h3⟩:=AA hT dr.aX hr
   obtain ⟨h4,h5⟩:=dy h3
   have hda:a'.defers= [dfr 29 g a se ss]:=by have:=dr.aX.defers;rw [dR] at this;exact this
   rw [hda]
   refine ⟨by simp,hF,_,_,29,_,rfl,PN hcE w',fun _ _=>trivial,?_⟩
   refine (U6 _ _ _ w').mono ?_
   rintro e u' w3 ⟨rfl,rfl,rfl⟩
   refine ⟨_,h1,st,ρ',v,rfl,h2,h5,fun m hm=> ?_,dr.aX.st.aoS (by subst dR;rfl) (by subst dR;rfl)⟩
   have:=(dr.aX.st.at_ np _ h4).2 m (by rw [hl];simp;omega)
   rw [this];exact AO m hm
  cases e with
  |normal=>exact main hk
  |ret=>exact main hk
  |exit n=>
   unfold Vq at hk
   dsimp only at hk
   cases hb:Nat.beq n pN with
   |true=>exact absurd (congrArg Exit.exit (Nat.eq_of_beq_eq_true hb)) hx
   |false=>rw [hb] at hk;exact hk.elim
  |_=>exact hk.elim
 ·
  have hk:DP np se ss ne ns jZ (fun st=>qX So fn st R) st:=hk
  obtain ⟨k1,k2,k3,k4⟩:=afd hk
  obtain ⟨⟨aE,xE,p1,p2⟩,w3,p3,⟨⟨aS,xS,p4,p5⟩,w4,p6,p7,p8⟩⟩:=hp
  subst p7 p8
  dsimp only at p1 p3 p4 p6
  have hda:a2.defers= [dfr 29 g a se ss]:=by have:=dr.aX.defers;rw [dR] at this;exact this
  have hpe:=(dr.aX.st.at_ np _ k3).2
  have addr: ∀s n,bY st.tmps s= .v (.one (.ptr n 0))->bY T0 s= .v (.one (.ptr n 0))->n<np-> ∀ad,a2.tmps.getD s undef= .pointer (some ad)->a.tmps.getD s undef= .pointer (some ad):=by
   intro s n q1 q2 hn ad hq
   have r1:=dr.aX.tmps s (by rw [q1];simp)
   have r2:=aQ.aX.tmps s (by dsimp only;rw [q2];simp)
   dsimp only at r2
   rw [q1] at r1
   rw [q2] at r2
   rw [r2,<- hq,r1]
   simp only [AV.ae,A0.ae,Cell.ae,addrOf,hpe n hn]
  have gE:=addr se ne k1 hse hnn.1 aE p1
  have gS:=addr ss ns k2 hss hnn.2 aS p4
  show LeavesIn (fw none) 0 Tryz.prog fn a2.tmps _ a2.defers (.panicking [ent 30 k]) w'
  rw [hda]
  refine ⟨by simp,hF,_,_,29,_,rfl,PN hcE w',fun _ _=>trivial,?_⟩
  rw [p1] at p3
  rw [p4] at p6
  obtain ⟨z1,z2⟩:=anA p2 p3
  have ahr:(dfr 29 g a se ss).args= #[.pointer (some aE),.func (.func g) #[] #[.pointer (some aS)]]:=by simp only [dfr,gE,gS]
  rw [show (dfr 29 g a se ss).args++ #[]= #[.pointer (some aE),.func (.func g) #[] #[.pointer (some aS)]] by rw [ahr];rfl]
  refine (YV _ aE g #[.pointer (some aS)] k [] w' w3 _ xE p2 z1 z2 hg.1 (hg.2 aS w3 _ p6)).mono ?_
  rintro e u' w5 ⟨rfl,rfl,rfl⟩
  exact fin _ _ _ _ dr k4 k3
end Go.Proofs.YtngdehlpoomaiaaGreat
