/- Regions that may panic. -/
import Derived.Test.YtngdehlpoomaiaaGreatKa
import Derived.Test.YtngdehlpoomaiaaGreatWb
import Derived.Test.YtngdehlpoomaiaaGreatChecked
import Derived.Tactics
import Derived.Tactics2
import Derived.RegionTactic
import Derived.RegionCalls
import Derived.Test.YtngdehlpoomaiaaGreatLf
import Derived.Test.YtngdehlpoomaiaaGreatEvL
noncomputable section
set_option linter.unusedSectionVars false
set_option linter.unusedVariables false
set_option linter.unusedSimpArgs false
namespace Go.Ev
open Go.RowKit
def FZ (id:Nat):Code->Option (Array Oper)
 | .seq a b=>match FZ id a with|some c=>some c|none=>FZ id b
 | .cond _ a b=>match FZ id a with|some c=>some c|none=>FZ id b
 | .loop c=>FZ id c
 | .block _ c=>FZ id c
 | .region i ops _=>if i=id then some ops else none
 |_=>none
def opsOf (id:Nat) (c:Code):Array Oper:=match FZ id c with|some o=>o|none=> #[]
abbrev PCd:=List AV->HP->(Int->Prop)->Prop
def ae7 (P:Program) (tE:TypeId) (f:FuncId) (pc:PCd):Prop:= ∀args hp k,pc args hp k-> ∃c,k c/\ (c≠0-> ∀aq W ρ Kn w,(∀x∈args,x.ok Kn)->St aq W ρ Kn hp w->
 Calls P f (args.map (AV.ae ρ)).toArray w fun e w'=>e= .panicked [ent tE c]/\ Fr yB w w')
abbrev Pat:=AS->Int->(AS->Prop)->Prop
def SB (P:Program) (X:Addr->Value->Prop) (Pn:SD) (pat:Pat):Prop:= ∀aq W st c k ρ a w,ru aq W X->pat st c k->D5 aq W st ρ a w-> ∃a' w' st' ρ',Pn c a w a' w'/\ k st'/\ D5 aq W st' ρ' a' w'
def adM (ctx:Ctx):List Oper->AS->(AS->Prop)->Prop
 | [],st,k=>k st
 |o::r,st,k=>match o.guard with
  |none=>pO ctx o.op st fun q=>adM ctx r (st.app o.dst q) k
  |some _=>False
def agL (ctx:Ctx):Ctx:= {ctx with ys:= [],its:= []}
def XX (f:FuncId) (o:Oper) (k:List Operand->Prop):Prop:=match o.guard,o.op with
 |none,.call c=>match c.callee with
  | .value (.func g)=>if g=f then k c.args.toList else False
  |_=>False
 |_,_=>False
def NC (ctx:Ctx) (ops:Array Oper) (i:Nat) (f:FuncId) (pc:PCd) (pat:Pat):bC:=fun st K=>
 adM (agL ctx) (ops.toList.take i) st fun lC=>match ops.toList[i]? with
  | some o=>XX f o fun xs=>if xs.all (fun x=> !(dw lC.tmps x).Rf) then
    pc (qh (dw lC.tmps) xs) (ai lC.heap) fun c=>cB (decide (c=0)) (lP ctx ops false st (K .normal)) (pat lC c (K pX)) else False
  |none=>False
def Nz (d:Nat) (x:Operand) (pat:Pat):bC:=fun st K=>if Nat.blt d st.tmps.length then (match dw st.tmps x with
 | .v (.one (.raw (.int .i64 c)))=>pat {st with tmps:=st.tmps.set d .dead} c (K pX)
 |_=>False) else False
section
variable {P:Program} {ctx:Ctx} {aq:e8} {W:World} {df:List Deferred} {tE:TypeId} {Pn:SD} {pat:Pat}
theorem ZO {X:Addr->Value->Prop} {st:AS} {r:Rec} {o:Oper} (hl:bO P X o (dw st.tmps) (ai st.heap) st.heap.length r) (ie: ∀x∈o.op.operands,dw st.tmps x≠ .dead) (hX:ru aq W X) {ρ:Env} {a:Act} {w:World} (aR:lV aq W df st ρ a w)
  {ro:Option Nat} {n:Nat} {next:Act->World->Prop} {Q:Exit->Act->World->Prop} (hn: ∀ρ' a' w',lV aq W df (st.app o.dst r) ρ' a' w'->next a' w'):o.wpIn (fw ro) n P a w next Q:=by
 refine (OpK.Z6 hl (k:=fun q=>q=r) rfl) ro n aq W ρ w a next Q hX (fun x hx=>aR.eval x (ie x hx)) (fun x _=>aR.Lc x) aR.st ?_
 rintro q ρ' w' rfl hw pZ HC hst
 exact hn ρ' _ w' (aR.app hw pZ HC hst)
theorem FR (hT:aK P ctx.tt) (hS:af P ctx.specs): ∀(l:List Oper) (st:AS) (k:AS->Prop),adM (agL ctx) l st k-> ∃lC,k lC/\
  ∀ {aq W df ro n Q all rest},ru aq W ctx.X->(∀ρ a w,lV aq W df lC ρ a w->wpListIn (fw ro) n P all Q rest a w)-> ∀ρ a w,lV aq W df st ρ a w->wpListIn (fw ro) n P all Q (l++rest) a w
 | [],st,k,h=>⟨st,h,fun _ h=>h⟩
 |o::r,st,k,h=>by
  unfold adM at h
  split at h
  ·rename_i hg
   obtain ⟨ie,h⟩:=yu h
   obtain ⟨q,hl,hk⟩:=DP (ctx:=agL ctx) hT ⟨hS,rfl,rfl⟩ h
   obtain ⟨lC,Xj,hrun⟩:=FR hT hS r _ k hk
   refine ⟨lC,Xj,fun {aq W df ro n Q all rest} hX hR ρ a w aR=> ?_⟩
   show if Region.wanted o (Go.yielded all a.tmps) then _ else _
   rw [if_pos (by simp [Region.wanted,hg])]
   exact ZO hl ie hX aR fun ρ' a' w' c9=>hrun hX hR ρ' a' w' c9
  ·exact h.elim
theorem Ql {f:FuncId} {o:Oper} {k:List Operand->Prop} (h:XX f o k):o.guard=none/\ ∃args ts,o.op= .call ⟨.value (.func f),args,ts⟩/\ k args.toList:=by
 unfold XX at h
 split at h
 ·rename_i c hg ho
  obtain ⟨callee,args,ts⟩:=c
  cases callee with
  |value x=>
   cases x with
   |func g=>
    have h2:if g=f then k args.toList else False:=h
    clear h
    by_cases e:g=f
    ·rw [if_pos e] at h2;subst e
     exact ⟨hg,args,ts,ho,h2⟩
    ·rw [if_neg e] at h2;exact h2.elim
   |_=>exact h.elim
  |_=>exact h.elim
 ·exact h.elim
theorem XY {f:FuncId} (Bn:cr P f) {o:Oper} {args:Array Operand} {ts:Array TypeId} (ho:o.op= .call ⟨.value (.func f),args,ts⟩) {xs:List AV} {ρ:Env} {a:Act} {w:World} (he:(args.map a.eval)=(xs.map (AV.ae ρ)).toArray) {c:Int} {R:World->Prop}
  (hc:Calls P f (xs.map (AV.ae ρ)).toArray w fun e w'=>e= .panicked [ent tE c]/\ R w') {ro:Option Nat} {n:Nat} {next:Act->World->Prop} {Q:Exit->Act->World->Prop}
  (hq: ∀w',R w'->Q (.panic [ent tE c]) a w'):o.wpIn (fw ro) n P a w next Q:=by
 have hd: ∀c,o.op≠ .defer c:=fun c e=>by rw [ho] at e;cases e
 refine ⟨fun _ _=>trivial,?_⟩
 have hrun:(execOp a.eval o).run P w= .ok (.enter f (xs.map (AV.ae ρ)).toArray) w:=by
  simp only [execOp,ho,resolve,Act.eval,Sem.run_bind,Deferred.ofValue,Sem.run_pure,Result.andThen_ok,invoke]
  have he':Array.map a.eval args=(xs.map (AV.ae ρ)).toArray:=he
  rw [show (Array.map (fun x=>a.eval x) args)=(xs.map (AV.ae ρ)).toArray from he']
  simp only [Array.empty_append,Array.append_empty]
  exact Bn _ _
 rw [Oper.semAt_eq _ _ _ hd,hrun]
 simp only [Oper.uponIn]
 refine ⟨fun h=>by simp [fw] at h,rB ?_⟩
 refine hc.mono ?_
 rintro e w' ⟨rfl,hr⟩
 exact hq w' hr
theorem ze (hT:aK P ctx.tt) (hC:fq P ctx) (hm:P.follows .mixedOrders=true) {ops:Array Oper} {i id:Nat} {f:FuncId} {pc:PCd} (Bn:cr P f) (hpc:ae7 P tE f pc) (hpat:SB P ctx.X Pn pat):D8 P ctx.X tE Pn (NC ctx ops i f pc pat) (.region id ops false):=by
 intro aq W n hX st K h ρ a w aR
 obtain ⟨lC,h,hrun⟩:=FR hT hC.sp _ _ _ h
 split at h
 rotate_left
 ·exact h.elim
 rename_i o hoi
 obtain ⟨hg,args,ts,ho,h⟩:=Ql h
 split at h
 rotate_left
 ·exact h.elim
 rename_i ie
 obtain ⟨c,h,ak8⟩:=hpc _ _ _ h
 by_cases e:c=0
 ·have h:lP ctx ops false st (K .normal):=by rw [decide_eq_true e] at h;exact h
  exact L4 hT hC hm hX h aR
 ·have h:pat lC c (K pX):=by rw [decide_eq_false e] at h;exact h
  have hX':=hX.uN aR.bz.st
  refine wpIn_region_list ?_
  have Lz:ops.toList=ops.toList.take i++(o::ops.toList.drop (i+1)):=by
   have hi:i<ops.toList.length:=(List.getElem?_eq_some_iff.1 hoi).1
   have:ops.toList[i]=o:=(List.getElem?_eq_some_iff.1 hoi).2
   rw [<- this,<- List.drop_eq_getElem_cons hi,List.take_append_drop]
  rw [Lz]
  refine hrun hX' (fun aX a1 w1 di=> ?_) ρ a w aR.base
  show if Region.wanted o (Go.yielded ops a1.tmps) then _ else _
  rw [if_pos (by simp [Region.wanted,hg])]
  have mR: ∀x∈args.toList,a1.eval x=(dw lC.tmps x).ae aX:=fun x hx=>di.eval x fun hd=>by
   have:=List.all_eq_true.1 ie x hx
   rw [hd] at this;cases this
  refine XY Bn ho (xs:=qh (dw lC.tmps) args.toList) (ρ:=aX) ?_ (ak8 e _ _ aX (· <lC.heap.length) w1 (fun x hx=> ?_) di.st) fun w2 hf=> ?_
  ·apply Array.ext'
   simp only [Array.toList_map,jm,List.map_map]
   exact List.map_congr_left fun x hx=>mR x hx
  ·rw [jm] at hx
   obtain ⟨y,_,rfl⟩:=List.mem_map.1 hx
   exact di.Lc y
  ·have fF:D5 aq W lC aX a1 w2:=AtD.back aR ⟨di.tmps,di.size,di.defers,di.kn,di.st.called hf⟩
   obtain ⟨a',w',st',ρ',h1,h2,h3⟩:=hpat aq W lC c _ aX a1 w2 hX h fF
   exact .inr ⟨c,a',w',rfl,h1,fF.bz.st.fr,st',ρ',h2,h3⟩
theorem Fg {X:Addr->Value->Prop} {d id:Nat} {x:Operand} {o1 o2:Oper} (h1:o1.guard=none/\ o1.dst=some d/\ o1.op= .makeInterface tE x) (h2:o2.guard=none/\ o2.op= .panic (.tmp d))
  (hmk: ∀v w,(Instr.makeInterface tE v).run P w= .ok (.iface tE v) w) (hpn: ∀v w,(Instr.panic (.iface tE v)).run P w= .halt (.panic (.iface tE v)) w) (hpat:SB P X Pn pat):D8 P X tE Pn (Nz d x pat) (.region id #[o1,o2] false):=by
 intro aq W n hX st K h ρ a w aR
 unfold Nz at h
 split at h
 rotate_left
 ·exact h.elim
 rename_i hd
 have hd:d<st.tmps.length:=by simpa [Nat.blt_eq] using hd
 split at h
 rotate_left
 ·exact h.elim
 rename_i c hc
 have mR:=aR.bz.eval x (by rw [hc];simp)
 rw [hc] at mR
 refine wpIn_region_list ?_
 show if Region.wanted o1 (Go.yielded _ a.tmps) then _ else _
 rw [if_pos (by simp [Region.wanted,h1.1])]
 refine ⟨fun _ _=>trivial,?_⟩
 rw [Oper.semAt_eq _ _ _ fun c e=>by rw [h1.2.2] at e;cases e]
 have r1:(execOp a.eval o1).run P w= .ok (.value (.iface tE (.int .i64 c))) w:=by
  simp only [execOp,h1.2.2,Sem.run_bind,Sem.run_pure]
  rw [mR]
  simp [hmk,AV.ae,A0.ae,Cell.ae]
 rw [r1]
 simp only [Oper.uponIn]
 show if Region.wanted o2 (Go.yielded _ _) then _ else _
 rw [if_pos (by simp [Region.wanted,h2.1])]
 refine ⟨fun _ _=>trivial,?_⟩
 rw [Oper.semAt_eq _ _ _ fun c e=>by rw [h2.2] at e;cases e]
 have r2: ∀a1:Act,a1.tmps.getD d undef= .iface tE (.int .i64 c)->(execOp a1.eval o2).run P w= .halt (.panic (.iface tE (.int .i64 c))) w:=by
  intro a1 ha
  simp only [execOp,h2.2,Sem.run_bind,Sem.run_pure,Act.eval]
  rw [ha]
  simp [hpn]
 rw [r2 _ (by rw [iK,h1.2.1];simp [aR.bz.size,hd])]
 simp only [Oper.uponIn]
 have fF:D5 aq W {st with tmps:=st.tmps.set d .dead} ρ (a.put o1.dst (.iface tE (.int .i64 c))) w:=by
  refine ⟨aR.nd,aR.dd,fun t ht=> ?_,by rw [mB,aR.bz.size];simp,by rw [put_defers];exact aR.bz.defers,fun t=> ?_,aR.bz.st⟩
  ·dsimp only at ht ⊢
   rw [iJ] at ht
   have hne:d≠t:=fun e=>by subst e;simp [hd] at ht
   rw [iK,h1.2.1,iJ]
   simp only [Option.some.injEq]
   rw [if_neg fun h=>hne h.1.symm] at ht
   rw [if_neg fun h=>hne h.1.symm,if_neg fun h=>hne h.1.symm]
   exact aR.bz.tmps t ht
  ·dsimp only
   rw [iJ]
   split
   ·trivial
   ·exact aR.bz.kn t
 obtain ⟨a',w',st',ρ',h1,h2,h3⟩:=hpat aq W _ c _ ρ _ w hX h fF
 exact .inr ⟨c,a',w',rfl,h1,fF.bz.st.fr,st',ρ',h2,h3⟩
end
end Go.Ev
namespace Go.Ev
open Go.RowKit
section
variable {P:Program} {ctx:Ctx} {aq:e8} {W:World} {df:List Deferred} {tE:TypeId} {Pn:SD} {pat:Pat} {X:Addr->Value->Prop} {bF:AS} {tr:List (Option Rec)} {el:List fR}
end
end Go.Ev
namespace Go.Ev
open Go.RowKit
abbrev PL:=List (Nat×TypeId×(Int->Value))
def Re (st:AS) (s:Nat):Bool:=match cz st.tmps s with
 | .v (.one (.ptr n off))=>(match ai st.heap n with|some (.cells cs _)=>Nat.blt off cs.length|_=>false)
 |_=>false
def RG (ctx:Ctx):PL->Pat
 | [],st,c,k=>k st
 |p::l,st,c,k=>match aI ctx.tt p.2.1 with
  |some i=>if Re st p.1 then oG i (cz st.tmps p.1) (ofV (p.2.2 c)) (ai st.heap) fun r=>RG ctx l (st.app none r) c k else False
  |none=>False
def SC (P:Program):PL->SD
 | [],c,a,w,a',w'=>a'=a/\ w'=w
 |p::l,c,a,w,a',w'=>(∃ad x,a.tmps.getD p.1 undef= .pointer (some ad)/\ w.cell? ad=some x)/\ ∃w1,(Instr.storeAt p.2.1 (a.tmps.getD p.1 undef) (p.2.2 c)).run P w= .ok () w1/\ SC P l c a w1 a' w'
def aag (s:Nat):Pat:=fun st c k=>if Nat.blt s st.tmps.length then k {st with tmps:=st.tmps.set s (.v (.one (.raw (.int .i64 c))))} else False
def PnR (s:Nat):SD:=fun c a w a' w'=>w'=w/\ a'=a.put (some s) (.int .i64 c)
section
variable {P:Program} {ctx:Ctx}
theorem LZ {X:Addr->Value->Prop} (s:Nat):SB P X (PnR s) (aag s):=by
 intro aq W st c k ρ a w hX h aR
 unfold aag at h
 split at h
 rotate_left
 ·exact h.elim
 rename_i hd
 have hd:s<st.tmps.length:=by simpa [Nat.blt_eq] using hd
 refine ⟨_,w,_,ρ,⟨rfl,rfl⟩,h,aR.nd,aR.dd,fun t ht=> ?_,by rw [mB,aR.bz.size];simp,by rw [put_defers];exact aR.bz.defers,fun t=> ?_,aR.bz.st⟩
 ·dsimp only at ht ⊢
  rw [iJ] at ht
  rw [iK,iJ]
  simp only [Option.some.injEq]
  by_cases e:t=s
  ·subst e
   rw [if_pos ⟨rfl,by rw [aR.bz.size];exact hd⟩,if_pos ⟨rfl,hd⟩]
   rfl
  ·rw [if_neg (fun h=>by first|exact e h.1|exact e h.1.symm)] at ht
   rw [if_neg (fun h=>by first|exact e h.1|exact e h.1.symm),if_neg (fun h=>by first|exact e h.1|exact e h.1.symm)]
   exact aR.bz.tmps t ht
 ·dsimp only
  rw [iJ]
  split
  ·trivial
  ·exact aR.bz.kn t
theorem zM (hT:aK P ctx.tt): ∀l:PL,SB P ctx.X (SC P l) (RG ctx l)
 | []=>fun aq W st c k ρ a w hX h aR=>⟨a,w,st,ρ,⟨rfl,rfl⟩,h,aR⟩
 |p::l=>by
  intro aq W st c k ρ a w hX h aR
  unfold RG at h
  split at h
  rotate_left
  ·exact h.elim
  rename_i i hi
  split at h
  rotate_left
  ·exact h.elim
  rename_i hd
  obtain ⟨r,hl,hv,hk⟩:=GX (P:=P) (nm:=st.heap.length) hT hi h
  have h0:=aR.bz
  have ie:cz st.tmps p.1≠ .dead:=fun e=>by unfold Re at hd;rw [e] at hd;cases hd
  have hx:=h0.tmps p.1 ie
  have hce: ∃ad x,a.tmps.getD p.1 undef= .pointer (some ad)/\ w.cell? ad=some x:=by
   unfold Re at hd
   split at hd
   ·rename_i n off hn
    split at hd
    ·rename_i cs e he
     have ho:off<cs.length:=by simpa [Nat.blt_eq] using hd
     obtain ⟨b,hb,hh⟩:=h0.st.at_ n _ he
     refine ⟨⟨b,off,none⟩,(cs[off]).ae ρ,?_,rC hh (List.getElem?_eq_getElem ho)⟩
     rw [hx,hn]
     simp [AV.ae,A0.ae,Cell.ae,addrOf,hb]
    ·cases hd
   ·cases hd
  have hb:=aR.base
  obtain ⟨ρ',w',hrun,pZ,HC,hst⟩:=hl.2 _ w ρ (· <st.heap.length) (ai st.heap) w (hX.uN h0.st) ⟨h0.kn p.1,x4 _ _⟩ (fun _ _=>rfl) (fun j hj hlt=>by have:st.heap.length+j<st.heap.length:=hlt;omega) hb.st
  have hrun:(Instr.storeAt p.2.1 (a.tmps.getD p.1 undef) (p.2.2 c)).run P w= .ok () w':=by
   rw [hx]
   dsimp only at hrun
   rw [qT] at hrun
   exact hrun
  have fF:D5 aq W (st.app none r) ρ' a w':=aR.back (by have:=hb.app (dst:=none) hl.1 pZ HC hst;exact this)
  obtain ⟨a2,w2,qx,jb,h1,h2,h3⟩:=zM hT l aq W (st.app none r) c k ρ' a w' hX hk fF
  exact ⟨a2,w2,qx,jb,⟨hce,w',hrun,h1⟩,h2,h3⟩
end
end Go.Ev
namespace Go.Ev
open Go.RowKit
section
variable {P:Program} {ctx:Ctx} {aq:e8} {W:World} {tE:TypeId} {Pn:SD} {rs:List Nat}
def M6 (ctx:Ctx) (fn:Func) (R:AV->AS->Prop) (Rp:AS->Prop) (e:Exit) (st:AS):Prop:=match e with
 | .ret=>qj ctx fn st R
 | .normal=>qj ctx fn st R
 | .exit n=>match Nat.beq n pN with
  |true=>Rp st
  |false=>False
 |_=>False
theorem Pw {args:List AV} {heap:List aF} {m:Nat} {ρ:Env} {w:World} (hargs: ∀x∈args,x.ok (· <heap.length)) (hst:St aq W ρ (· <heap.length) (ai heap) w) (hbd:aq.bd= []):
  D5 aq W ⟨args++List.replicate (m- args.length) ck,heap⟩ ρ {tmps:=(args.map (AV.ae ρ)).toArray++Array.replicate (m- (args.map (AV.ae ρ)).toArray.size) undef,defers:= []} w:=by
 refine ⟨List.nodup_nil,fun D hD=>absurd hD (by simp),fun t _=>GV ρ args m t,by simp,by rw [hbd];rfl,fun t=> ?_,hst⟩
 dsimp only
 rw [r9,List.getD,List.getElem?_append]
 split
 ·rename_i hl
  rw [List.getElem?_eq_getElem hl]
  exact hargs _ (List.getElem_mem hl)
 ·rw [List.getElem?_replicate];split<;>exact sM _
theorem XZ (hT:aK P ctx.tt) (hC:fq P ctx) (hm:P.follows .mixedOrders=true) {f:FuncId} {fn:Func} {c:Code} (hf:P.funcs[f]? =some fn) (hb:fn.body=some c) (hrf:Js c=true) (mL:SA P ctx tE Pn rs c) (hX:ru aq W ctx.X) (hbd:aq.bd= [])
  (hpd: ∀k a w a' w',Pn k a w a' w'->a'.defers=a.defers) {args:List AV} {heap:List aF} {R:AV->AS->Prop} {Rp:AS->Prop} (h:cJ ctx (gC rs c) ⟨args++List.replicate (fn.ntmps- args.length) ck,heap⟩ (M6 ctx fn R Rp))
  {ρ:Env} {w:World} (hargs: ∀x∈args,x.ok (· <heap.length)) (hst:St aq W ρ (· <heap.length) (ai heap) w):
  Calls P f (args.map (AV.ae ρ)).toArray w fun e w'=>(∃st ρ' v,e= .returned (v.ae ρ')/\ v.ok (· <st.heap.length)/\ R v st/\ St aq W ρ' (· <st.heap.length) (ai st.heap) w')\/
   ∃k w2 a a2 st ρ',e= .panicked [ent tE k]/\ Pn k a w' a2 w2/\ Fr aq W w'/\ Rp st/\ D5 aq W st ρ' a2 w2:=by
 refine callsIn_wide.1 (callsIn_of_wp (F:=fw none) (n:=0) hf hb trivial ?_ rfl)
 refine wpIn_mono (afN hT hC hm c hrf mL aq W 0 hX _ _ h ρ _ w (Pw hargs hst hbd)) ?_
 have fin: ∀(R:AV->AS->Prop) a' w' st ρ',D5 aq W st ρ' a' w'->qj ctx fn st R->a'.defers= []/\ ∃v,(results fn a'.tmps).run P w'= .ok (v.ae ρ') w'/\ v.ok (· <st.heap.length)/\ R v st/\ St aq W ρ' (· <st.heap.length) (ai st.heap) w':=by
  intro R a' w' st ρ' aR hk
  have hd:a'.defers= []:=by have:=aR.bz.defers;rw [hbd] at this;exact this
  have fF:lV aq W [] st ρ' a' w':=⟨aR.bz.tmps,aR.bz.size,hd,aR.bz.kn,aR.bz.st⟩
  obtain ⟨v,h1,h2,h3⟩:=wv hT fF hk
  exact ⟨hd,v,h1,h2,h3,aR.bz.st⟩
 have good: ∀e a' w',e≠pX->MB aq W (M6 ctx fn R Rp) e a' w'->(e= .normal\/ e= .ret)/\ a'.defers= []/\ ∃st ρ' v,(results fn a'.tmps).run P w'= .ok (v.ae ρ') w'/\ v.ok (· <st.heap.length)/\ R v st/\ St aq W ρ' (· <st.heap.length) (ai st.heap) w':=by
  rintro e a' w' he ⟨st,ρ',hk,aR⟩
  cases e with
  |normal=>obtain ⟨hd,v,h⟩:=fin R a' w' st ρ' aR hk;exact ⟨.inl rfl,hd,st,ρ',v,h⟩
  |ret=>obtain ⟨hd,v,h⟩:=fin R a' w' st ρ' aR hk;exact ⟨.inr rfl,hd,st,ρ',v,h⟩
  |exit n=>
   unfold M6 at hk
   dsimp only at hk
   cases hb:Nat.beq n pN with
   |true=>exact absurd (congrArg Exit.exit (Nat.eq_of_beq_eq_true hb)) he
   |false=>rw [hb] at hk;exact hk.elim
  |_=>exact hk.elim
 rintro e a' w' (⟨he,h⟩|⟨k,a2,w2,rfl,hp,hfr,st,ρ',hk,aR⟩)
 ·obtain ⟨he,hd,st,ρ',v,h1,h2,h3,h4⟩:=good e a' w' he h
  rcases he with rfl|rfl<;>exact ⟨hd,_,h1,.inl ⟨st,ρ',v,rfl,h2,h3,h4⟩⟩
 ·have e:=hpd _ _ _ _ _ hp
  have hd:a2.defers= []:=by have:=aR.bz.defers;rw [hbd] at this;exact this
  exact ⟨by rw [<- e];exact hd,.inr ⟨k,w2,a',a2,st,ρ',rfl,hp,hfr,hk,aR⟩⟩
end
structure PX where
 p:lF
 r:Ty
 args:p.ty.T->List AV
 heap:p.ty.T->Env->List aF
 ret:p.ty.T->Env->(r.T->Prop)->AV->AS->Prop
 pan:p.ty.T->Env->(r.T->Prop)->AS->Prop
@[reducible] def PX.T' (s:PX):Type:=s.p.ty.T
@[reducible] def PX.R' (s:PX):Type:=s.r.T
structure FnX where
 x:PX
 pre:x.p.ty.T->Prop
 f:x.p.ty.T->x.r.T
def goE (ctx:Ctx) (fm:Func) (args:List AV) (heap:List aF) (R:AV->AS->Prop) (Rp:AS->Prop):Prop:=cJ ctx (aG fm) ⟨args++List.replicate (fm.ntmps- args.length) ck,heap⟩ (M6 ctx fm R Rp)
def Sz (P:Program) (tt:List (Nat×TI)) (specs:List (Nat×Spec)) (tE:TypeId) (Pn:SD) (rs:List Nat) (c:Code) (fm:Func) (s:FnX):Prop:= ∀x,s.pre x-> ∃lp its,av P cy its/\ jV P cy tE Pn rs c lp/\ Eh lp (wk rs c)=true/\
 ∀r0,goE ⟨tt,specs,cy,lp,[],its⟩ fm (s.x.args x) (s.x.heap x r0) (s.x.ret x r0 (· =s.f x)) (s.x.pan x r0 (· =s.f x))
theorem Sz.tr {P:Program} {tt:List (Nat×TI)} {specs:List (Nat×Spec)} {tE:TypeId} {Pn:SD} {rs:List Nat} {c:Code} {fm:Func} (s:FnX) {i:Bool} (t:s.x.p.ty.T->Tr s.x.r.T i) {lp:s.x.p.ty.T->List (Nat×bC)} {its:s.x.p.ty.T->List (Nat×cX)}
  (hi: ∀x,av P cy (its x)) (hl: ∀x,jV P cy tE Pn rs c (lp x)) (ha: ∀x,Eh (lp x) (wk rs c)=true) (he: ∀x,(s.pre x,s.f x)=(Tr.pI i (t x).pre,(t x).val))
  (h: ∀x r0 Q,goE ⟨tt,specs,cy,lp x,[],its x⟩ fm (s.x.args x) (s.x.heap x r0) (s.x.ret x r0 Q) (s.x.pan x r0 Q)=(t x).wp Q [.env r0]):Sz P tt specs tE Pn rs c fm s:=by
 intro x hx
 refine ⟨lp x,its x,hi x,hl x,ha x,fun r0=> ?_⟩
 have e:=he x
 simp only [Prod.mk.injEq] at e
 rw [h]
 exact Tr.Hz _ _ _ (by rw [<- e.1];exact hx) e.2.symm
theorem EZ {ctx:Ctx} {fn fm:Func} {c:Code} {rs:List Nat} {args:List AV} {heap:List aF} {R:AV->AS->Prop} {Rp:AS->Prop} (Xi:fm= {fn with body:=some (gC rs c)}) (h:goE ctx fm args heap R Rp):
  cJ ctx (gC rs c) ⟨args++List.replicate (fn.ntmps- args.length) ck,heap⟩ (M6 ctx fn R Rp):=by
 subst Xi;exact h
def s8 (ops:Array Oper) (i:Nat):Oper:=match ops[i]? with|some o=>o|none=>default
end Go.Ev
namespace Go.Proofs.YtngdehlpoomaiaaGreat
open Go Go.Ev Go.Proofs
theorem zF (v:Value) (w:World):(Instr.makeInterface 30 v).run Tryz.prog w= .ok (.iface 30 v) w:=by kernel_rfl
theorem wj (v:Value) (w:World):(Instr.panic (.iface 30 v)).run Tryz.prog w= .halt (.panic (.iface 30 v)) w:=by kernel_rfl
theorem ZY (c:Int) (h:c≠0) (w:World):Calls Tryz.prog 41 #[.int .i64 c] w fun e w'=>e= .panicked [ent 30 c]/\ w'=w:=by
 refine calls_of_wp Tryz.func41 rfl ?_
 go_wp2
 simp_all [zF,wj]
 exact ⟨rfl,rfl,rfl⟩
def RH:PCd:=fun args hp k=>match args with
 | [.v (.one (.raw (.int .i64 c)))]=>k c
 |_=>False
theorem Ws:ae7 Tryz.prog 30 41 RH:=by
 intro args hp k h
 unfold RH at h
 split at h
 ·rename_i c
  refine ⟨c,h,fun hc aq W ρ Kn w _ _=>(ZY c hc w).mono ?_⟩
  rintro e w' ⟨rfl,rfl⟩
  exact ⟨rfl,Fr.refl _ _⟩
 ·exact h.elim
end Go.Proofs.YtngdehlpoomaiaaGreat
namespace Go.Proofs.YtngdehlpoomaiaaGreat
open Go Go.Ev Go.Proofs
abbrev dW:Ty:= .int .i64
abbrev WX:Ty:= .prod dW (.prod dW dW)
abbrev uC:Ty:= .prod dW (.prod WX (.prod WX (.prod dW dW)))
abbrev alA:Ty:= .prod dW (.prod dW (.prod dW (.prod dW (.sl uC))))
abbrev oY:Ty:= .prod .bool (.prod (.prod dW (.prod dW (.prod dW dW))) (.prod WX WX))
def TH (r0:Env) (Q:oY.T->Prop) (v:AV) (st:AS):Prop:=match v with
 | .v (.agg [.raw (.int .i64 a),.raw (.int .i64 b),.raw (.int .i64 c),.raw (.int .i64 d),.full 0,.raw (.int .i64 x),.raw (.int .i64 y),.raw (.int .i64 z),.raw (.int .i64 u),.raw (.int .i64 v),.raw (.int .i64 w)])=>pE (ai st.heap 1) r0 1 (Q (false,(a,b,c,d),(x,y,z),u,v,w))
 |_=>False
def TB (Q:oY.T->Prop) (st:AS):Prop:=match cz st.tmps 13 with
 | .v (.one (.raw (.int .i64 c)))=>Q (true,(c,0,0,0),(0,0,0),0,0,0)
 |_=>False
abbrev bj:lF:= .pair (.agg alA) (.pair (.agg WX) (.agg WX))
def ajg:PX:=⟨bj,oY,fun x=>cY bj x,fun x r0=>dz bj x++ [.cw r0 1],fun _ r0 Q=>TH r0 Q,fun _ _ Q=>TB Q⟩
noncomputable def Tryz.afD:Func:= {Tryz.f31 with body:=some (gC [2,4,6] (aG Tryz.f31))}
noncomputable def ak0:List (Nat×bC):= [(1000002,Nz 13 (.const (.int .i64 1)) (aag 13)),(1000004,Nz 33 (.const (.int .i64 5)) (aag 13)),(1000006,NC ⟨tt,mD,cy,[],[],[]⟩ (opsOf 6 (aG Tryz.f31)) 1 41 RH (aag 13))]
theorem ac2:jV Tryz.prog cy 30 (PnR 13) [2,4,6] (aG Tryz.f31) ak0:=by
 refine jV.cons (d:= .region 2 (opsOf 2 (aG Tryz.f31)) false) (jV.cons (d:= .region 4 (opsOf 4 (aG Tryz.f31)) false) (jV.cons (d:= .region 6 (opsOf 6 (aG Tryz.f31)) false) jV.nil (by kernel_rfl) ?_) (by kernel_rfl) ?_) (by kernel_rfl) ?_
 ·exact ze az (af.ctx u9) mixed (cr.of (fn:=Tryz.f41) (by kernel_rfl) (by kernel_rfl) (by kernel_rfl)) Ws (LZ 13)
 ·have e:opsOf 4 (aG Tryz.f31)= #[s8 (opsOf 4 (aG Tryz.f31)) 0,s8 (opsOf 4 (aG Tryz.f31)) 1]:=by kernel_rfl
  rw [e]
  exact Fg ⟨by kernel_rfl,by kernel_rfl,by kernel_rfl⟩ ⟨by kernel_rfl,by kernel_rfl⟩ zF wj (LZ 13)
 ·have e:opsOf 2 (aG Tryz.f31)= #[s8 (opsOf 2 (aG Tryz.f31)) 0,s8 (opsOf 2 (aG Tryz.f31)) 1]:=by kernel_rfl
  rw [e]
  exact Fg ⟨by kernel_rfl,by kernel_rfl,by kernel_rfl⟩ ⟨by kernel_rfl,by kernel_rfl⟩ zF wj (LZ 13)
def kR (x:((Int×Int×Int×Int×List (Int×I3×I3×I2))×I3×I3)):(Bool×(Int×I3)×I3×I3):=
 (aj (gis x.1) fun y=>
 (if ((!y)=true) then
 (true,(1,0,0,0),(0,0,0),0,0,0) else
 (if ((aY (aY x.2.1.1 x.2.1.2.1) x.2.1.2.2)<(-4160)) then
 (true,(5,0,0,0),(0,0,0),0,0,0) else
 (if ((aT (aT x.2.1.1 x.2.1.2.1) x.2.1.2.2)>4160) then
 (true,(5,0,0,0),(0,0,0),0,0,0) else
 (aj (jK x.2.2) fun aA=>
 (if (aA.2=0) then
 (aj (om aA.2) fun y_2=>
 (aj (vP (x.2.1,aA.1,x.1.2.2.1)) fun bg=>
 (false,(x.1.1,x.1.2.1,x.1.2.2.1,x.1.2.2.2.1),bg,x.2.2))) else
 (true,(aA.2,0,0,0),(0,0,0),0,0,0)))))))
def nR (x:((Int×Int×Int×Int×List (Int×I3×I3×I2))×I3×I3)):Prop:=
 ((vR x.1)/\
 aB (gis x.1) fun y=>
 (¬((!y)=true)->
 (¬((aY (aY x.2.1.1 x.2.1.2.1) x.2.1.2.2)<(-4160))->
 (¬((aT (aT x.2.1.1 x.2.1.2.1) x.2.1.2.2)>4160)->
 ((c8 x.2.2)/\
 aB (jK x.2.2) fun aA=>
 ((aA.2=0)->
 ((gN aA.2)/\
 aB (om aA.2) fun y_2=>
 (l6 (x.2.1,aA.1,x.1.2.2.1)))))))))
def adG (x:((Int×Int×Int×Int×List (Int×I3×I3×I2))×I3×I3)):Tr (Bool×(Int×I3)×I3×I3) true:=
 (.fn IN x.1 fun y=>
 (.kO (!y)
 (.ret (true,(z1,bH),bH,bH))
 (.HX ((aY (aY x.2.1.1 x.2.1.2.1) x.2.1.2.2)<(-4160))
 (.ret (true,(5,bH),bH,bH))
 (.HX ((aT (aT x.2.1.1 x.2.1.2.1) x.2.1.2.2)>4160)
 (.ret (true,(5,bH),bH,bH))
 (.fn lK x.2.2 fun aA=>
 (.i10 (aA.2=z0)
 (.fn ko aA.2 fun y_2=>
 (.fn qI (x.2.1,aA.1,x.1.2.2.1) fun bg=>
 (.pn 0 1
 (.ret (false,(x.1.1,x.1.2.1,x.1.2.2.1,x.1.2.2.2.1),bg,x.2.2)))))
 (.ret (true,(aA.2,bH),bH,bH))))))))
abbrev Tz:FnX:=⟨ajg,nR,kR⟩
theorem Z9:Sz Tryz.prog tt mD 30 (PnR 13) [2,4,6] (aG Tryz.f31) Tryz.afD Tz:=Sz.tr Tz adG (fun x=>(av.nil _ _)) (fun x=>ac2) (fun x=>(by kernel_rfl)) (fun x=>(by kernel_rfl)) fun x r0 Q=>(by kernel_rfl)
end Go.Proofs.YtngdehlpoomaiaaGreat
namespace Go.Ev
open Go.RowKit
section
variable {P:Program}
theorem ah.Tw {f:FuncId} {s:cf} (hres:s.r.res=true)
  (h: ∀x,s.pre x-> ∀aZ w,St yB w aZ (· <(dz s.p x).length) (ai (dz s.p x)) w->Calls P f ((cY s.p x).map (AV.ae aZ)).toArray w fun e w'=> ∃st aX v,e= .returned (v.ae aX)/\ v.ok (· <st.heap.length)/\ qk s.r (· =s.f x) v st/\ St yB w aX (· <st.heap.length) (ai st.heap) w'):ah P f (ak s):=by
 intro X args hp nm k hs
 unfold ak at hs
 split at hs
 rotate_left
 ·exact hs.elim
 rename_i x tc b hd
 obtain ⟨rfl,hpre,hk⟩:=bk hs
 have hk:=hk _ rfl
 obtain ⟨asq,e,hargs⟩:=nK s.p _ _ _ _ hd
 rw [List.append_nil] at e
 subst e
 refine ⟨_,⟨fun p eW=>absurd eW (by simp),?_⟩,hk⟩
 intro aq W ρ Kn Γ w _ _ ht hfr hst
 obtain ⟨xs,hg,hc⟩:=hargs aq W ρ Kn Γ w ht hst 0
 have hb:=St.begin hg
 have hcs:=hc (fun n=>xs.getD n {}) fun i y hy=>by simp [hy]
 have key:=h x hpre _ w hb
 have ea:(cY s.p x).map (AV.ae fun n=>xs.getD n {})=args.map (AV.ae ρ):=by
  rw [hcs];simp [cY,AV.ae,Function.comp_def]
 rw [ea] at key
 refine key.mono ?_
 rintro e w' ⟨st,aX,v,rfl,hv,hR,m8⟩
 obtain ⟨y,rfl,hw⟩:=JI hR
 have aR:lV yB w [] ⟨[v],st.heap⟩ aX {tmps:= #[v.ae aX],defers:= []} w':=by
  refine ⟨fun t _=> ?_,rfl,rfl,fun t=> ?_,m8⟩
  ·match t with
   |0=>rfl
   |t+1=>rfl
  ·match t with
   |0=>exact hv
   |t+1=>exact sM _
 obtain ⟨jb,fF⟩:=aR.weak hw
 have NG:=qE 2 s.r (s.f x) 0 hres
 have IS:=fun d=>(iA 2 (ρ:=jb) (ρ':=fun m=>jb (m- d)) (d:=d) s.r (s.f x) 0 hres fun i _=>by simp).2
 have hlen:(bf 2 nm s.r (s.f x)).2=(bf 2 0 s.r (s.f x)).2:=by simpa using IS nm
 obtain ⟨ρ',r1,r2,r3⟩:=St.grow (v:=jo (bf 2 nm s.r (s.f x)).1) (tc:=tc) (nm:=nm) hst (fun i hi=>hfr i (by rw [hlen];exact hi)) NG fF.st
 have hsh:=(iA 2 (ρ:=jb) (ρ':=ρ') (d:=nm) s.r (s.f x) 0 hres fun i hi=>by rw [Nat.zero_add];exact r2 i hi).1
 rw [Nat.zero_add] at hsh
 refine ⟨ρ',?_,r1,?_,?_⟩
 ·congr 1
  have h1:=fF.tmps 0 (by
   show jo _≠_
   generalize (bf 2 0 s.r (s.f x)).1=l
   match l with
   | []=>exact fun h=>by cases h
   | [_]=>exact fun h=>by cases h
   |_::_::_=>exact fun h=>by cases h)
  have h2:v.ae aX=(jo (bf 2 0 s.r (s.f x)).1).ae jb:=h1
  rw [h2]
  exact (wz hsh).symm
 ·exact DR fun c hc=>A0.aV (fun m hm=> .inr (by simpa using hm)) c (iU 2 s.r (s.f x) nm c hc)
 ·rw [hlen];exact r3
end
end Go.Ev
