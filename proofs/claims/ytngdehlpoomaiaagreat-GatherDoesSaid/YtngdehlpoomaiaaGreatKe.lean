/- Regions that may panic. -/
import Derived.Test.YtngdehlpoomaiaaGreatKa
noncomputable section
set_option linter.unusedSectionVars false
set_option linter.unusedVariables false
set_option linter.unusedSimpArgs false
namespace Go.Ev
open Go.RowKit
def My (id:Nat):Code->Option (Array Oper)
 | .seq a b=>match My id a with|some c=>some c|none=>My id b
 | .cond _ a b=>match My id a with|some c=>some c|none=>My id b
 | .loop c=>My id c
 | .block _ c=>My id c
 | .region i ops _=>if i=id then some ops else none
 |_=>none
def opsOf (id:Nat) (c:Code):Array Oper:=match My id c with|some o=>o|none=> #[]
abbrev PCd:=List AV->HP->(Int->Prop)->Prop
def alq (P:Program) (tE:TypeId) (f:FuncId) (pc:PCd):Prop:= ∀args hp k,pc args hp k-> ∃c,k c/\ (c≠0-> ∀av W ρ Kn w,(∀x∈args,x.ok Kn)->St av W ρ Kn hp w->
 Calls P f (args.map (AV.ae ρ)).toArray w fun e w'=>e= .panicked [ent tE c]/\ Fr A6 w w')
abbrev Pat:=AS->Int->(AS->Prop)->Prop
def UK (P:Program) (X:Addr->Value->Prop) (Pn:PnT) (pat:Pat):Prop:= ∀av W st c k ρ a w,uR av W X->pat st c k->Jv av W st ρ a w-> ∃a' w' st' ρ',Pn c a w a' w'/\ k st'/\ Jv av W st' ρ' a' w'
def ani (ctx:Ctx):List Oper->AS->(AS->Prop)->Prop
 | [],st,k=>k st
 |o::r,st,k=>match o.guard with
  |none=>sG ctx o.op st fun q=>ani ctx r (st.app o.dst q) k
  |some _=>False
def ajf (ctx:Ctx):Ctx:= {ctx with ys:= [],its:= []}
def abO (f:FuncId) (o:Oper) (k:List Operand->Prop):Prop:=match o.guard,o.op with
 |none,.call c=>match c.callee with
  | .value (.func g)=>if g=f then k c.args.toList else False
  |_=>False
 |_,_=>False
def Pw (ctx:Ctx) (ops:Array Oper) (i:Nat) (f:FuncId) (pc:PCd) (pat:Pat):br:=fun st K=>
 ani (ajf ctx) (ops.toList.take i) st fun mE=>match ops.toList[i]? with
  | some o=>abO f o fun xs=>if xs.all (fun x=> !(cE mE.tmps x).LH) then
    pc (qG (cE mE.tmps) xs) (ai mE.heap) fun c=>cB (decide (c=0)) (jW ctx ops false st (K .normal)) (pat mE c (K pX)) else False
  |none=>False
def VL (d:Nat) (x:Operand) (pat:Pat):br:=fun st K=>if Nat.blt d st.tmps.length then (match cE st.tmps x with
 | .v (.one (.raw (.int .i64 c)))=>pat {st with tmps:=st.tmps.set d .dead} c (K pX)
 |_=>False) else False
section
variable {P:Program} {ctx:Ctx} {av:fG} {W:World} {df:List Deferred} {tE:TypeId} {Pn:PnT} {pat:Pat}
theorem ai5 {X:Addr->Value->Prop} {st:AS} {r:Rec} {o:Oper} (hl:bO P X o (cE st.tmps) (ai st.heap) st.heap.length r) (ja: ∀x∈o.op.operands,cE st.tmps x≠ .dead) (hX:uR av W X) {ρ:Env} {a:Act} {w:World} (aQ:mF av W df st ρ a w)
  {ro:Option Nat} {n:Nat} {next:Act->World->Prop} {Q:Exit->Act->World->Prop} (hn: ∀ρ' a' w',mF av W df (st.app o.dst r) ρ' a' w'->next a' w'):o.wpIn (fw ro) n P a w next Q:=by
 refine (OpK.ajm hl (k:=fun q=>q=r) rfl) ro n av W ρ w a next Q hX (fun x hx=>aQ.eval x (ja x hx)) (fun x _=>aQ.Sr x) aQ.st ?_
 rintro q ρ' w' rfl hw sP Oa hst
 exact hn ρ' _ w' (aQ.app hw sP Oa hst)
theorem Mb (hT:di P ctx.tt) (hS:aj P ctx.specs): ∀(l:List Oper) (st:AS) (k:AS->Prop),ani (ajf ctx) l st k-> ∃mE,k mE/\
  ∀ {av W df ro n Q all rest},uR av W ctx.X->(∀ρ a w,mF av W df mE ρ a w->wpListIn (fw ro) n P all Q rest a w)-> ∀ρ a w,mF av W df st ρ a w->wpListIn (fw ro) n P all Q (l++rest) a w
 | [],st,k,h=>⟨st,h,fun _ h=>h⟩
 |o::r,st,k,h=>by
  unfold ani at h
  split at h
  ·rename_i hg
   obtain ⟨ja,h⟩:=CM h
   obtain ⟨q,hl,hk⟩:=JZ (ctx:=ajf ctx) hT ⟨hS,rfl,rfl⟩ h
   obtain ⟨mE,hk1,hrun⟩:=Mb hT hS r _ k hk
   refine ⟨mE,hk1,fun {av W df ro n Q all rest} hX hR ρ a w aQ=> ?_⟩
   show if Region.wanted o (Go.yielded all a.tmps) then _ else _
   rw [if_pos (by simp [Region.wanted,hg])]
   exact ai5 hl ja hX aQ fun ρ' a' w' dr=>hrun hX hR ρ' a' w' dr
  ·exact h.elim
theorem KM {f:FuncId} {o:Oper} {k:List Operand->Prop} (h:abO f o k):o.guard=none/\ ∃args ts,o.op= .call ⟨.value (.func f),args,ts⟩/\ k args.toList:=by
 unfold abO at h
 split at h
 ·rename_i c hg ho
  obtain ⟨callee,args,ts⟩:=c
  cases callee with
  |value x=>
   cases x with
   |func g=>
    have h2:if g=f then k args.toList else False:=h
    clear h
    by_cases e:g=f
    ·rw [if_pos e] at h2;subst e
     exact ⟨hg,args,ts,ho,h2⟩
    ·rw [if_neg e] at h2;exact h2.elim
   |_=>exact h.elim
  |_=>exact h.elim
 ·exact h.elim
theorem U4 {f:FuncId} (B5:b9 P f) {o:Oper} {args:Array Operand} {ts:Array TypeId} (ho:o.op= .call ⟨.value (.func f),args,ts⟩) {xs:List AV} {ρ:Env} {a:Act} {w:World} (he:(args.map a.eval)=(xs.map (AV.ae ρ)).toArray) {c:Int} {R:World->Prop}
  (hc:Calls P f (xs.map (AV.ae ρ)).toArray w fun e w'=>e= .panicked [ent tE c]/\ R w') {ro:Option Nat} {n:Nat} {next:Act->World->Prop} {Q:Exit->Act->World->Prop}
  (hq: ∀w',R w'->Q (.panic [ent tE c]) a w'):o.wpIn (fw ro) n P a w next Q:=by
 have hd: ∀c,o.op≠ .defer c:=fun c e=>by rw [ho] at e;cases e
 refine ⟨fun _ _=>trivial,?_⟩
 have hrun:(execOp a.eval o).run P w= .ok (.enter f (xs.map (AV.ae ρ)).toArray) w:=by
  simp only [execOp,ho,resolve,Act.eval,Sem.run_bind,Deferred.ofValue,Sem.run_pure,Result.andThen_ok,invoke]
  have he':Array.map a.eval args=(xs.map (AV.ae ρ)).toArray:=he
  rw [show (Array.map (fun x=>a.eval x) args)=(xs.map (AV.ae ρ)).toArray from he']
  simp only [Array.empty_append,Array.append_empty]
  exact B5 _ _
 rw [Oper.semAt_eq _ _ _ hd,hrun]
 simp only [Oper.uponIn]
 refine ⟨fun h=>by simp [fw] at h,uV ?_⟩
 refine hc.mono ?_
 rintro e w' ⟨rfl,hr⟩
 exact hq w' hr
theorem xW (hT:di P ctx.tt) (hC:e8 P ctx) (hm:P.follows .mixedOrders=true) {ops:Array Oper} {i id:Nat} {f:FuncId} {pc:PCd} (B5:b9 P f) (hpc:alq P tE f pc) (hpat:UK P ctx.X Pn pat):FQ P ctx.X tE Pn (Pw ctx ops i f pc pat) (.region id ops false):=by
 intro av W n hX st K h ρ a w aQ
 obtain ⟨mE,h,hrun⟩:=Mb hT hC.sp _ _ _ h
 split at h
 rotate_left
 ·exact h.elim
 rename_i o hoi
 obtain ⟨hg,args,ts,ho,h⟩:=KM h
 split at h
 rotate_left
 ·exact h.elim
 rename_i ja
 obtain ⟨c,h,ait⟩:=hpc _ _ _ h
 by_cases e:c=0
 ·have h:jW ctx ops false st (K .normal):=by rw [decide_eq_true e] at h;exact h
  exact J2 hT hC hm hX h aQ
 ·have h:pat mE c (K pX):=by rw [decide_eq_false e] at h;exact h
  have hX':=hX.v5 aQ.aX.st
  refine wpIn_region_list ?_
  have SU:ops.toList=ops.toList.take i++(o::ops.toList.drop (i+1)):=by
   have hi:i<ops.toList.length:=(List.getElem?_eq_some_iff.1 hoi).1
   have:ops.toList[i]=o:=(List.getElem?_eq_some_iff.1 hoi).2
   rw [<- this,<- List.drop_eq_getElem_cons hi,List.take_append_drop]
  rw [SU]
  refine hrun hX' (fun aR a1 w1 cN=> ?_) ρ a w aQ.base
  show if Region.wanted o (Go.yielded ops a1.tmps) then _ else _
  rw [if_pos (by simp [Region.wanted,hg])]
  have ny: ∀x∈args.toList,a1.eval x=(cE mE.tmps x).ae aR:=fun x hx=>cN.eval x fun hd=>by
   have:=List.all_eq_true.1 ja x hx
   rw [hd] at this;cases this
  refine U4 B5 ho (xs:=qG (cE mE.tmps) args.toList) (ρ:=aR) ?_ (ait e _ _ aR (· <mE.heap.length) w1 (fun x hx=> ?_) cN.st) fun w2 hf=> ?_
  ·apply Array.ext'
   simp only [Array.toList_map,iC,List.map_map]
   exact List.map_congr_left fun x hx=>ny x hx
  ·rw [iC] at hx
   obtain ⟨y,_,rfl⟩:=List.mem_map.1 hx
   exact cN.Sr y
  ·have fc:Jv av W mE aR a1 w2:=AtD.back aQ ⟨cN.tmps,cN.size,cN.defers,cN.kn,cN.st.called hf⟩
   obtain ⟨a',w',st',ρ',h1,h2,h3⟩:=hpat av W mE c _ aR a1 w2 hX h fc
   exact .inr ⟨c,a',w',rfl,h1,fc.aX.st.fr,st',ρ',h2,h3⟩
theorem Ly {X:Addr->Value->Prop} {d id:Nat} {x:Operand} {o1 o2:Oper} (h1:o1.guard=none/\ o1.dst=some d/\ o1.op= .makeInterface tE x) (h2:o2.guard=none/\ o2.op= .panic (.tmp d))
  (hmk: ∀v w,(Instr.makeInterface tE v).run P w= .ok (.iface tE v) w) (hpn: ∀v w,(Instr.panic (.iface tE v)).run P w= .halt (.panic (.iface tE v)) w) (hpat:UK P X Pn pat):FQ P X tE Pn (VL d x pat) (.region id #[o1,o2] false):=by
 intro av W n hX st K h ρ a w aQ
 unfold VL at h
 split at h
 rotate_left
 ·exact h.elim
 rename_i hd
 have hd:d<st.tmps.length:=by simpa [Nat.blt_eq] using hd
 split at h
 rotate_left
 ·exact h.elim
 rename_i c hc
 have ny:=aQ.aX.eval x (by rw [hc];simp)
 rw [hc] at ny
 refine wpIn_region_list ?_
 show if Region.wanted o1 (Go.yielded _ a.tmps) then _ else _
 rw [if_pos (by simp [Region.wanted,h1.1])]
 refine ⟨fun _ _=>trivial,?_⟩
 rw [Oper.semAt_eq _ _ _ fun c e=>by rw [h1.2.2] at e;cases e]
 have r1:(execOp a.eval o1).run P w= .ok (.value (.iface tE (.int .i64 c))) w:=by
  simp only [execOp,h1.2.2,Sem.run_bind,Sem.run_pure]
  rw [ny]
  simp [hmk,AV.ae,A0.ae,Cell.ae]
 rw [r1]
 simp only [Oper.uponIn]
 show if Region.wanted o2 (Go.yielded _ _) then _ else _
 rw [if_pos (by simp [Region.wanted,h2.1])]
 refine ⟨fun _ _=>trivial,?_⟩
 rw [Oper.semAt_eq _ _ _ fun c e=>by rw [h2.2] at e;cases e]
 have r2: ∀a1:Act,a1.tmps.getD d undef= .iface tE (.int .i64 c)->(execOp a1.eval o2).run P w= .halt (.panic (.iface tE (.int .i64 c))) w:=by
  intro a1 ha
  simp only [execOp,h2.2,Sem.run_bind,Sem.run_pure,Act.eval]
  rw [ha]
  simp [hpn]
 rw [r2 _ (by rw [jz,h1.2.1];simp [aQ.aX.size,hd])]
 simp only [Oper.uponIn]
 have fc:Jv av W {st with tmps:=st.tmps.set d .dead} ρ (a.put o1.dst (.iface tE (.int .i64 c))) w:=by
  refine ⟨aQ.nd,aQ.dd,fun t ht=> ?_,by rw [oz,aQ.aX.size];simp,by rw [put_defers];exact aQ.aX.defers,fun t=> ?_,aQ.aX.st⟩
  ·dsimp only at ht ⊢
   rw [fu] at ht
   have hne:d≠t:=fun e=>by subst e;simp [hd] at ht
   rw [jz,h1.2.1,fu]
   simp only [Option.some.injEq]
   rw [if_neg fun h=>hne h.1.symm] at ht
   rw [if_neg fun h=>hne h.1.symm,if_neg fun h=>hne h.1.symm]
   exact aQ.aX.tmps t ht
  ·dsimp only
   rw [fu]
   split
   ·trivial
   ·exact aQ.aX.kn t
 obtain ⟨a',w',st',ρ',h1,h2,h3⟩:=hpat av W _ c _ ρ _ w hX h fc
 exact .inr ⟨c,a',w',rfl,h1,fc.aX.st.fr,st',ρ',h2,h3⟩
end
end Go.Ev
namespace Go.Ev
open Go.RowKit
def at5 (o:Oper):Oper:= {o with op:= .move (.const (.int .i64 0)),guard:=none}
def Vl (i:Nat) (l:List Oper):List Oper:=l.take i++(l.drop i).map at5
def dg (i:Nat) (ops:Array Oper):Array Oper:=(Vl i ops.toList).toArray
def Tk (ops:Array Oper) (i:Nat):Bool:=((ops.toList.take i).all fun o=>o.guard.isNone)&&(List.range ops.size).all fun j=>Nat.ble j i||FW (dg i ops) j i
def abI (ops:Array Oper) (i:Nat) (x:Operand):Bool:=match x with
 | .tmp t=>(List.range ops.size).all fun k=>(match xw (dg i ops) k with|some d=> !Nat.beq d t|none=>true)||(Nat.blt k i&&FW (dg i ops) i k)
 |_=>true
def x6:List Oper->List AV->List AV
 | [],l=>l
 |o::r,l=>x6 r (match o.dst with|some d=>l.set d .dead|none=>l)
def PZ (ops:Array Oper) (st:AS):AS:= {tmps:=x6 ops.toList st.tmps,heap:=st.heap}
def quiet (lg:List gD):Bool:=lg.all fun l=>l.wr.isEmpty&&Nat.beq l.cnt 0
def aok (ctx:Ctx) (ops:Array Oper) (i:Nat) (f:FuncId) (pc:PCd) (pat:Pat):br:=fun st K=>
 oM (ajf ctx) (dg i ops) (dg i ops).toList [] st [] fun mE lg=>if vA (dg i ops) lg&&(quiet lg&&Tk ops i) then (match ops.toList[i]? with
  | some o=>abO f o fun xs=>if xs.all (fun x=> !(cE mE.tmps x).LH&&abI ops i x) then
    pc (qG (cE mE.tmps) xs) (ai st.heap) fun c=>cB (decide (c=0)) (jW ctx ops true st (K .normal)) (pat (PZ ops st) c (K pX)) else False
  |none=>False) else False
theorem K4 (i:Nat) (l:List Oper):(Vl i l).length=l.length:=by simp [Vl];omega
theorem kY (i:Nat) (ops:Array Oper):(dg i ops).size=ops.size:=by simp [dg,K4]
theorem alR {i j:Nat} {l:List Oper} (h:j<i):(Vl i l)[j]? =l[j]? :=by
 unfold Vl
 rw [List.getElem?_append]
 split
 ·rw [List.getElem?_take,if_pos h]
 ·rename_i h2
  simp only [List.length_take] at h2
  have:l.length<=j:=by omega
  rw [List.getElem?_eq_none (by simp;omega),List.getElem?_eq_none this]
theorem K3 (i j:Nat) (l:List Oper):(Vl i l)[j]?.map (fun o=>(o.after,o.dst))=l[j]?.map fun o=>(o.after,o.dst):=by
 unfold Vl
 rw [List.getElem?_append]
 split
 ·rename_i h
  simp only [List.length_take] at h
  rw [List.getElem?_take,if_pos (by omega)]
 ·rename_i h
  simp only [List.length_take] at h
  rw [List.getElem?_map,List.getElem?_drop]
  by_cases h2:j<l.length
  ·have:i+(j- min i l.length)=j:=by omega
   simp only [List.length_take]
   rw [this]
   cases l[j]? <;>rfl
  ·simp only [List.length_take]
   rw [List.getElem?_eq_none (by omega),List.getElem?_eq_none (by omega)];rfl
theorem Y2 (i j:Nat) (ops:Array Oper):(dg i ops)[j]?.map (fun o=>(o.after,o.dst))=ops[j]?.map fun o=>(o.after,o.dst):=by
 have:=K3 i j ops.toList
 simpa [dg] using this
theorem GK (i:Nat) (ops:Array Oper) (L:Array Bool):Region.ready .any (dg i ops) L=Region.ready .any ops L:=by
 unfold Region.ready
 rw [kY]
 refine List.filter_congr fun j hj=> ?_
 have h:=Y2 i j ops
 have h2:(dg i ops)[j]?.map (·.after)=ops[j]?.map (·.after):=by
  have:=congrArg (Option.map (·.1)) h
  simpa [Option.map_map,Function.comp_def] using this
 have h3: ∀g:Array Edge->Bool,Option.map (fun x:Oper=>g x.after) (dg i ops)[j]? =Option.map (fun x:Oper=>g x.after) ops[j]? :=fun g=>by
  have:=congrArg (Option.map g) h2
  simpa [Option.map_map,Function.comp_def] using this
 rw [h3 fun af=>af.all fun e=> !Region.binds .any e||L.getD e.on false]
theorem PW: ∀(l:List Oper) (x:List AV) (t:Nat),bY (x6 l x) t≠ .dead->bY (x6 l x) t=bY x t/\ ∀o∈l,o.dst=some t->x.length<=t
 | [],x,t,_=>⟨rfl,fun _ h=>by cases h⟩
 |o::r,x,t,h=>by
  unfold x6 at h ⊢
  obtain ⟨h1,h2⟩:=PW r _ t h
  cases ho:o.dst with
  |none=>
   rw [ho] at h1 h2
   refine ⟨h1,fun p hp hd=> ?_⟩
   rcases List.mem_cons.1 hp with rfl|hp
   ·rw [ho] at hd;cases hd
   ·exact h2 p hp hd
  |some d=>
   rw [ho] at h1 h2 h
   dsimp only at h1 h2 h ⊢
   rw [h1] at h
   rw [fu] at h
   by_cases e:t=d/\ d<x.length
   ·rw [if_pos e] at h;exact absurd rfl h
   ·refine ⟨by rw [h1,fu,if_neg e],fun p hp hd=> ?_⟩
    rcases List.mem_cons.1 hp with rfl|hp
    ·rw [ho] at hd;cases hd
     rcases Nat.lt_or_ge t x.length with h3|h3
     ·exact absurd ⟨rfl,h3⟩ e
     ·exact h3
    ·have:=h2 p hp hd
     simpa using this
theorem PY: ∀(l:List Oper) (x:List AV),(x6 l x).length=x.length
 | [],x=>rfl
 |o::r,x=>by unfold x6;rw [PY r];cases o.dst<;>simp
theorem V3 {Kn:Nat->Prop} : ∀(l:List Oper) (x:List AV),(∀t,(bY x t).ok Kn)-> ∀t,(bY (x6 l x) t).ok Kn
 | [],x,h=>h
 |o::r,x,h=>by
  unfold x6
  refine V3 r _ ?_
  intro t
  cases o.dst with
  |none=>exact h t
  |some d=>
   dsimp only
   rw [fu]
   split
   ·trivial
   ·exact h t
section
variable {P:Program} {ctx:Ctx} {av:fG} {W:World} {df:List Deferred} {tE:TypeId} {Pn:PnT} {pat:Pat} {X:Addr->Value->Prop} {aZ:AS} {tr:List (Option Rec)} {el:List gD}
theorem aaR (hm:P.follows .mixedOrders=true) (hX:uR av W X) {ops:Array Oper} {i:Nat} (h:Good P X (dg i ops) aZ tr el) (hq: ∀j r,dJ tr j=some r->r.writes= []/\ r.fresh= []) (hs:Tk ops i=true) (hi:i<ops.size)
  (ro:Option Nat) (n id:Nat) {Q:Exit->Act->World->Prop} {ρ:Env} {a:Act} {w:World} (aQ:mF av W df aZ ρ a w)
  (ait: ∀o ρ a w,ops[i]? =some o->mF av W df (PZ ops aZ) ρ a w->(∀x,abI ops i x=true->cE (wZ (dg i ops).toList tr aZ ops.size).tmps x≠ .dead->a.eval x=(cE (wZ (dg i ops).toList tr aZ ops.size).tmps x).ae ρ/\ (cE (wZ (dg i ops).toList tr aZ ops.size).tmps x).ok (· <aZ.heap.length))->
   wpOpIn (fw ro) n P ops Q i (fun _ _=>False) a w):(Code.region id ops true).wpIn (fw ro) n P Q a w:=by
 refine wpIn_region_any hm ?_
 let N:=aZ.tmps.length
 have hsz:(dg i ops).toList.length=ops.size:=by simp [dg,K4]
 simp only [Tk,Bool.and_eq_true,List.all_eq_true,List.mem_range,Bool.or_eq_true,Nat.ble_eq] at hs
 have arS: ∀L a w,YJ av W df (dg i ops) tr aZ L a w->L.getD i false=false->Region.ready .any ops L≠ []:=by
  intro L a w hI hL hr
  have:=Vk h hI (by rw [GK];exact hr) i (by rw [kY];exact hi)
  rw [hL] at this;cases this
 have main: ∀fuel L a w,L.toList.countP (!·)<=fuel->YJ av W df (dg i ops) tr aZ L a w->(∀j,i<=j->L.getD j false=false)->wpAnyIn (fw ro) n P .any ops Q fuel L a w:=by
  intro fuel
  induction fuel with
  |zero=>
   intro L a w hc hI hL
   exfalso
   rcases hq:Region.ready .any ops L with _|⟨j,r⟩
   ·exact arS L a w hI (hL i (Nat.le_refl _)) hq
   ·obtain ⟨_,_,hf,_⟩:=tM hX h ro n Q L a w j hI (by rw [GK,hq];simp)
    have:=count_set L.toList j (by simpa using hf)
    omega
  |succ fuel ih=>
   intro L a w hc hI hL
   refine ⟨fun hr=>absurd hr (arS L a w hI (hL i (Nat.le_refl _))),fun j hj=> ?_⟩
   obtain ⟨h1,hjs,hf,aeo⟩:=tM hX h ro n Q L a w j hI (by rw [GK];exact hj)
   rw [kY] at hjs
   rcases Nat.lt_trichotomy j i with hlt|rfl|hlt
   ·have hsame:(dg i ops)[j]? =ops[j]? :=by
     have:=alR (l:=ops.toList) hlt
     simpa [dg] using this
    have hg: ∀o,ops[j]? =some o->o.guard=none:=fun o ho=>by
     have:=hs.1 o (List.mem_of_getElem? (l:=ops.toList.take i) (i:=j) (by rw [List.getElem?_take,if_pos hlt];simpa using ho))
     simpa using this
    have h2:wpOpIn (fw ro) n P ops Q j (fun a' w'=>YJ av W df (dg i ops) tr aZ (L.setIfInBounds j true) a' w') a w:=by
     unfold wpOpIn at h1 ⊢
     rw [hsame] at h1
     cases ho:ops[j]? with
     |none=>rw [ho] at h1;exact h1
     |some o=>
      rw [ho] at h1
      dsimp only at h1 ⊢
      simp only [Region.wanted,hg o ho,if_true] at h1 ⊢
      exact h1
    refine wpOpIn_mono (fun a' w' hI'=>ih _ a' w' ?_ hI' fun k hk=> ?_) h2
    ·have:=count_set L.toList j (by simpa using hf)
     rw [Array.toList_setIfInBounds];omega
    ·have:=hL k hk
     simp only [Array.getD_eq_getD_getElem?,Array.getElem?_setIfInBounds] at this ⊢
     rw [if_neg (by omega)];exact this
   ·
    obtain ⟨hLs,hdc,aR,hR⟩:=hI
    obtain ⟨o,ho⟩: ∃o,ops[j]? =some o:=⟨ops[j],by simp [hjs]⟩
    have hfalse: ∀is,part N (dg j ops).toList tr aZ (fun _=>false) is (fR aZ)=fR aZ:=fun is=>by
     induction is with
     |nil=>rfl
     |cons j r ih=>exact ih
    have arW: ∀k m,¬covers (FO (dg j ops).toList tr aZ k) (dJ tr k) m:=fun k m hc=>by
     rw [qv] at hc
     cases hr:dJ tr k with
     |none=>rw [hr] at hc;dsimp only at hc;omega
     |some r=>rw [hr] at hc;dsimp only at hc;rw [(hq k r hr).2] at hc;simp at hc;omega
    have hwr: ∀k m,m∉wH (dJ tr k):=fun k m hc=>by
     cases hr:dJ tr k with
     |none=>rw [hr] at hc;cases hc
     |some r=>rw [hr] at hc;have hc:m∈r.writes.map (·.1):=hc;rw [(hq k r hr).1] at hc;cases hc
    have hG:(part N (dg j ops).toList tr aZ (fun i=>L.getD i false) (List.range (dg j ops).size) (fR aZ)).G=ai aZ.heap:=funext fun m=>by
     have:=Tm (N:=N) (ops:=(dg j ops).toList) (tr:=tr) (aZ:=aZ) (L:=fun i=>L.getD i false) (L':=fun _=>false) (m:=m) (List.range (dg j ops).size) (fR aZ) (fR aZ) rfl fun k hk hd=>by
      rcases hd with hd|hd
      ·exact absurd hd (arW k m)
      ·exact absurd hd (hwr k m)
     rw [this,hfalse];rfl
    have hKn:(part N (dg j ops).toList tr aZ (fun i=>L.getD i false) (List.range (dg j ops).size) (fR aZ)).Kn=(· <aZ.heap.length):=funext fun m=>by
     apply propext
     rw [DR _ _ (fun k hk=>by rw [hsz];rw [kY] at hk;exact List.mem_range.1 hk)]
     exact ⟨fun h=>h.elim (fun h=>h) fun ⟨k,_,_,hc⟩=>absurd hc (arW k m),.inl⟩
    have hst:St av W aR (· <aZ.heap.length) (ai aZ.heap) w:=by
     have:=hR.st
     rw [hG,hKn] at this;exact this
    have ar5:mF av W df (PZ ops aZ) aR a w:=by
     refine ⟨fun t ht=> ?_,by rw [hR.size];exact (PY _ _).symm,hR.defers,fun t=>V3 _ _ aQ.kn t,hst⟩
     obtain ⟨e1,e2⟩:=PW _ _ _ ht
     show a.tmps.getD t undef=(bY (x6 ops.toList aZ.tmps) t).ae aR
     rw [show bY (x6 ops.toList aZ.tmps) t=bY aZ.tmps t from e1]
     by_cases h3:t<aZ.tmps.length
     ·have e3:(part N (dg j ops).toList tr aZ (fun i=>L.getD i false) (List.range (dg j ops).size) (fR aZ)).T t=bY aZ.tmps t:=by
       have:=L6 (N:=N) (ops:=(dg j ops).toList) (tr:=tr) (aZ:=aZ) (L:=fun i=>L.getD i false) (L':=fun _=>false) (t:=t) (List.range (dg j ops).size) (fR aZ) (fR aZ) rfl fun k hk hd=>by
        exfalso
        have h4:=K3 j k ops.toList
        have h5:(Vl j ops.toList)[k]?.bind (·.dst)=some t:=by simpa [Jh,dg] using hd
        have h6:ops.toList[k]?.bind (·.dst)=some t:=by
         have:=congrArg (fun x=>Option.bind x (·.2)) h4
         simp only [Option.bind_map,Function.comp_def] at this
         rw [<- this];exact h5
        obtain ⟨p,hp,hpd⟩:=Option.bind_eq_some_iff.1 h6
        have:=e2 p (List.mem_of_getElem? hp) hpd
        omega
       rw [this,hfalse];rfl
      have h4:=hR.tmps t
      rw [e3] at h4
      exact h4 (by rw [<- e1];exact ht)
     ·have h4:a.tmps.size≤t:=by rw [hR.size];omega
      rw [rZ,List.getD,List.getElem?_eq_none (by omega),Array.getD_eq_getD_getElem?,Array.getElem?_eq_none h4];rfl
    have hall:=ait o aR a w ho ar5 fun x hx hd=>by
     cases x with
     |tmp t=>
      have e3:(part N (dg j ops).toList tr aZ (fun i=>L.getD i false) (List.range (dg j ops).size) (fR aZ)).T t=bY (wZ (dg j ops).toList tr aZ ops.size).tmps t:=by
       show _=(fR (wZ (dg j ops).toList tr aZ ops.size)).T t
       have h4:=h.text ops.size (by rw [kY];exact Nat.le_refl _)
       rw [<- h4,kY]
       refine L6 _ _ _ rfl fun k hk hdk=> ?_
       simp only [abI,List.all_eq_true,List.mem_range,Bool.or_eq_true,Bool.and_eq_true,Nat.blt_eq] at hx
       have h5:xw (dg j ops) k=some t:=by
        simp only [Jh,Array.getElem?_toList] at hdk
        unfold xw
        cases hk2:(dg j ops)[k]? with
        |none=>rw [hk2] at hdk;cases hdk
        |some p=>rw [hk2] at hdk;exact hdk
       rcases hx k (List.mem_range.1 hk) with h6|⟨_,h6⟩
       ·rw [h5] at h6;simp at h6
       ·exact aeo k (rE h6)
      have h4:=hR.tmps t
      have h5:=hR.ok t
      rw [e3] at h4 h5
      rw [hKn] at h5
      exact ⟨h4 hd,h5⟩
     |const v=>exact ⟨(qK v aR).symm,ym _ _⟩
     |global g=>exact ⟨rfl,trivial⟩
     |func f=>exact ⟨rfl,fun r hr=>absurd hr (by simp)⟩
    exact wpOpIn_mono (fun _ _ h=>h.elim) hall
   ·have:=hs.2 j hjs
    rcases this with h3|h3
    ·omega
    ·have:=aeo i (rE h3)
     rw [hL i (Nat.le_refl _)] at this;cases this
 have apK:(fun i=>(Array.replicate ops.size false).getD i false)=fun _=>false:=by
  funext i;rw [Array.getD_eq_getD_getElem?,Array.getElem?_replicate];split<;>rfl
 refine main _ _ _ _ (by have:=List.countP_le_length (p:=(!·)) (l:=(Array.replicate ops.size false).toList);simpa using this) ⟨by simp [kY],fun i o hi=> ?_,ρ,?_⟩ fun j _=>congrFun apK j
 ·have:=congrFun apK i
  have this:(Array.replicate ops.size false).getD i false=false:=this
  rw [this] at hi;cases hi
 ·have e:part N (dg i ops).toList tr aZ (fun i=>(Array.replicate ops.size false).getD i false) (List.range (dg i ops).size) (fR aZ)=fR aZ:=by
   rw [apK]
   generalize List.range (dg i ops).size=is
   induction is with
   |nil=>rfl
   |cons j r ih=>exact ih
  rw [e]
  exact acQ (aQ.drawn _ (by first|exact Nat.le_succ _|exact Nat.le_add_right _ _|omega))
theorem ais (hT:di P ctx.tt) (hC:e8 P ctx) (hm:P.follows .mixedOrders=true) {ops:Array Oper} {i id:Nat} {f:FuncId} {pc:PCd} (B5:b9 P f) (hpc:alq P tE f pc) (hpat:UK P ctx.X Pn pat):FQ P ctx.X tE Pn (aok ctx ops i f pc pat) (.region id ops true):=by
 intro av W n hX st K h ρ a w aQ
 obtain ⟨tr,h1,h2,h3⟩:=vz (ctx:=ajf ctx) hT ⟨hC.sp,rfl,rfl⟩ (dg i ops) _ _ _ _ _ h
 simp only [List.nil_append] at h3
 split at h3
 rotate_left
 ·exact h3.elim
 rename_i B6
 simp only [Bool.and_eq_true] at B6
 obtain ⟨B6,hqt,hps⟩:=B6
 split at h3
 rotate_left
 ·exact h3.elim
 rename_i o hoi
 obtain ⟨hg,args,ts,ho,h3⟩:=KM h3
 split at h3
 rotate_left
 ·exact h3.elim
 rename_i ja
 obtain ⟨c,h3,ait⟩:=hpc _ _ _ h3
 by_cases e:c=0
 ·have h:jW ctx ops true st (K .normal):=by rw [decide_eq_true e] at h3;exact h3
  exact J2 hT hC hm hX h aQ
 ·have hp3:pat (PZ ops st) c (K pX):=by rw [decide_eq_false e] at h3;exact h3
  have hX':=hX.v5 aQ.aX.st
  have hlen:tr.length=(dg i ops).size:=by simpa using h1
  have aoh:Good P ctx.X (dg i ops) st tr (mJ (dg i ops).toList st tr):=⟨hlen,h2,Cg B6,.inl rfl⟩
  have hi:i<ops.size:=by have:=(List.getElem?_eq_some_iff.1 hoi).1;simpa using this
  have hq: ∀j r,dJ tr j=some r->r.writes= []/\ r.fresh= []:=by
   intro j r hr
   by_cases hj:j<(dg i ops).size
   ·obtain ⟨o',r',_,_,_,hr',_,_,tY⟩:=aoh.at_ hj
    rw [hr] at hr';subst hr'
    have:=List.all_eq_true.1 hqt _ (List.mem_of_getElem? tY)
    obtain ⟨f1,_,_,f4⟩:=LQ o' (wZ (dg i ops).toList tr st j) (some r)
    rw [f1,f4] at this
    simp only [Bool.and_eq_true] at this
    constructor
    ·have h5:(r.writes.map (·.1)).isEmpty=true:=this.1
     simpa using h5
    ·have h5:=Nat.eq_of_beq_eq_true this.2
     exact List.eq_nil_of_length_eq_zero h5
   ·have:tr[j]? =none:=List.getElem?_eq_none (by omega)
    simp [dJ,this] at hr
  have eS:wZ (dg i ops).toList tr st ops.size=pC (dg i ops).toList st tr:=by
   unfold wZ
   rw [List.take_of_length_le (by simp [dg,K4]),List.take_of_length_le (by rw [hlen,kY];exact Nat.le_refl _)]
  refine aaR hm hX' aoh hq hps hi none n id aQ.base fun o1 aR a1 w1 ho1 cN ny=> ?_
  rw [eS] at ny
  have:o1=o:=by
   have h5:ops.toList[i]? =some o1:=by simpa using ho1
   rw [hoi] at h5;exact (Option.some.inj h5).symm
  subst this
  unfold wpOpIn
  rw [ho1]
  dsimp only
  rw [if_pos (by simp [Region.wanted,hg])]
  have hx: ∀x∈args.toList,cE (pC (dg i ops).toList st tr).tmps x≠ .dead/\ abI ops i x=true:=fun x hx=>by
   have:=List.all_eq_true.1 ja x hx
   simp only [Bool.and_eq_true,Bool.not_eq_true'] at this
   exact ⟨fun hd=>by rw [hd] at this;simp [AV.LH] at this,this.2⟩
  refine U4 B5 ho (xs:=qG (cE (pC (dg i ops).toList st tr).tmps) args.toList) (ρ:=aR) ?_ (ait e _ _ aR (· <st.heap.length) w1 (fun x hx'=> ?_) cN.st) fun w2 hf=> ?_
  ·apply Array.ext'
   simp only [Array.toList_map,iC,List.map_map]
   exact List.map_congr_left fun x hx'=>(ny x (hx x hx').2 (hx x hx').1).1
  ·rw [iC] at hx'
   obtain ⟨y,hy,rfl⟩:=List.mem_map.1 hx'
   exact (ny y (hx y hy).2 (hx y hy).1).2
  ·have fc:Jv av W (PZ ops st) aR a1 w2:=AtD.back (st:=st) aQ ⟨cN.tmps,cN.size,cN.defers,cN.kn,cN.st.called hf⟩
   obtain ⟨a',w',st',ρ',h5,h6,h7⟩:=hpat av W (PZ ops st) c _ aR a1 w2 hX hp3 fc
   exact .inr ⟨c,a',w',rfl,h5,fc.aX.st.fr,st',ρ',h6,h7⟩
end
end Go.Ev
