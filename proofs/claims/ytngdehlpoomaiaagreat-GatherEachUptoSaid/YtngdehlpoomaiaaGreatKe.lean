/- Regions that may panic. -/
import Derived.Test.YtngdehlpoomaiaaGreatKa
noncomputable section
set_option linter.unusedSectionVars false
set_option linter.unusedVariables false
set_option linter.unusedSimpArgs false
namespace Go.Ev
open Go.RowKit
def Gv (id:Nat):Code->Option (Array Oper)
 | .seq a b=>match Gv id a with|some c=>some c|none=>Gv id b
 | .cond _ a b=>match Gv id a with|some c=>some c|none=>Gv id b
 | .loop c=>Gv id c
 | .block _ c=>Gv id c
 | .region i ops _=>if i=id then some ops else none
 |_=>none
def opsOf (id:Nat) (c:Code):Array Oper:=match Gv id c with|some o=>o|none=> #[]
abbrev PCd:=List AV->HP->(Int->Prop)->Prop
def acT (P:Program) (tE:TypeId) (f:FuncId) (pc:PCd):Prop:= ∀args hp k,pc args hp k-> ∃c,k c/\ (c≠0-> ∀au W ρ Kn w,(∀x∈args,x.ok Kn)->St au W ρ Kn hp w->
 Calls P f (args.map (AV.ae ρ)).toArray w fun e w'=>e= .panicked [ent tE c]/\ Fr xw w w')
abbrev Pat:=AS->Int->(AS->Prop)->Prop
def Nn (P:Program) (X:Addr->Value->Prop) (Pn:Ti) (pat:Pat):Prop:= ∀au W st c k ρ a w,rD au W X->pat st c k->DK au W st ρ a w-> ∃a' w' st' ρ',Pn c a w a' w'/\ k st'/\ DK au W st' ρ' a' w'
def aeX (ctx:Ctx):List Oper->AS->(AS->Prop)->Prop
 | [],st,k=>k st
 |o::r,st,k=>match o.guard with
  |none=>qb ctx o.op st fun q=>aeX ctx r (st.app o.dst q) k
  |some _=>False
def aaR (ctx:Ctx):Ctx:= {ctx with ys:= [],its:= []}
def Tz (f:FuncId) (o:Oper) (k:List Operand->Prop):Prop:=match o.guard,o.op with
 |none,.call c=>match c.callee with
  | .value (.func g)=>if g=f then k c.args.toList else False
  |_=>False
 |_,_=>False
def Jw (ctx:Ctx) (ops:Array Oper) (i:Nat) (f:FuncId) (pc:PCd) (pat:Pat):bw:=fun st K=>
 aeX (aaR ctx) (ops.toList.take i) st fun kI=>match ops.toList[i]? with
  | some o=>Tz f o fun xs=>if xs.all (fun x=> !(cr kI.tmps x).FV) then
    pc (oE (cr kI.tmps) xs) (aj kI.heap) fun c=>cB (decide (c=0)) (iV ctx ops false st (K .normal)) (pat kI c (K pX)) else False
  |none=>False
def Ox (d:Nat) (x:Operand) (pat:Pat):bw:=fun st K=>if Nat.blt d st.tmps.length then (match cr st.tmps x with
 | .v (.one (.raw (.int .i64 c)))=>pat {st with tmps:=st.tmps.set d .dead} c (K pX)
 |_=>False) else False
section
variable {P:Program} {ctx:Ctx} {au:eW} {W:World} {df:List Deferred} {tE:TypeId} {Pn:Ti} {pat:Pat}
theorem aaD {X:Addr->Value->Prop} {st:AS} {r:Rec} {o:Oper} (hl:bJ P X o (cr st.tmps) (aj st.heap) st.heap.length r) (gU: ∀x∈o.op.operands,cr st.tmps x≠ .dead) (hX:rD au W X) {ρ:Env} {a:Act} {w:World} (aO:kJ au W df st ρ a w)
  {ro:Option Nat} {n:Nat} {next:Act->World->Prop} {Q:Exit->Act->World->Prop} (hn: ∀ρ' a' w',kJ au W df (st.app o.dst r) ρ' a' w'->next a' w'):o.wpIn (fw ro) n P a w next Q:=by
 refine (OpK.aaX hl (k:=fun q=>q=r) rfl) ro n au W ρ w a next Q hX (fun x hx=>aO.eval x (gU x hx)) (fun x _=>aO.LV x) aO.st ?_
 rintro q ρ' w' rfl hw ql Ih hst
 exact hn ρ' _ w' (aO.app hw ql Ih hst)
theorem Gm (hT:cP P ctx.tt) (hS:ah P ctx.specs): ∀(l:List Oper) (st:AS) (k:AS->Prop),aeX (aaR ctx) l st k-> ∃kI,k kI/\
  ∀ {au W df ro n Q all rest},rD au W ctx.X->(∀ρ a w,kJ au W df kI ρ a w->wpListIn (fw ro) n P all Q rest a w)-> ∀ρ a w,kJ au W df st ρ a w->wpListIn (fw ro) n P all Q (l++rest) a w
 | [],st,k,h=>⟨st,h,fun _ h=>h⟩
 |o::r,st,k,h=>by
  unfold aeX at h
  split at h
  ·rename_i hg
   obtain ⟨gU,h⟩:=yK h
   obtain ⟨q,hl,hk⟩:=Ee (ctx:=aaR ctx) hT ⟨hS,rfl,rfl⟩ h
   obtain ⟨kI,X4,hrun⟩:=Gm hT hS r _ k hk
   refine ⟨kI,X4,fun {au W df ro n Q all rest} hX hR ρ a w aO=> ?_⟩
   show if Region.wanted o (Go.yielded all a.tmps) then _ else _
   rw [if_pos (by simp [Region.wanted,hg])]
   exact aaD hl gU hX aO fun ρ' a' w' cW=>hrun hX hR ρ' a' w' cW
  ·exact h.elim
theorem EY {f:FuncId} {o:Oper} {k:List Operand->Prop} (h:Tz f o k):o.guard=none/\ ∃args ts,o.op= .call ⟨.value (.func f),args,ts⟩/\ k args.toList:=by
 unfold Tz at h
 split at h
 ·rename_i c hg ho
  obtain ⟨callee,args,ts⟩:=c
  cases callee with
  |value x=>
   cases x with
   |func g=>
    have h2:if g=f then k args.toList else False:=h
    clear h
    by_cases e:g=f
    ·rw [if_pos e] at h2;subst e
     exact ⟨hg,args,ts,ho,h2⟩
    ·rw [if_neg e] at h2;exact h2.elim
   |_=>exact h.elim
  |_=>exact h.elim
 ·exact h.elim
theorem NH {f:FuncId} (x8:bS P f) {o:Oper} {args:Array Operand} {ts:Array TypeId} (ho:o.op= .call ⟨.value (.func f),args,ts⟩) {xs:List AV} {ρ:Env} {a:Act} {w:World} (he:(args.map a.eval)=(xs.map (AV.ae ρ)).toArray) {c:Int} {R:World->Prop}
  (hc:Calls P f (xs.map (AV.ae ρ)).toArray w fun e w'=>e= .panicked [ent tE c]/\ R w') {ro:Option Nat} {n:Nat} {next:Act->World->Prop} {Q:Exit->Act->World->Prop}
  (hq: ∀w',R w'->Q (.panic [ent tE c]) a w'):o.wpIn (fw ro) n P a w next Q:=by
 have hd: ∀c,o.op≠ .defer c:=fun c e=>by rw [ho] at e;cases e
 refine ⟨fun _ _=>trivial,?_⟩
 have hrun:(execOp a.eval o).run P w= .ok (.enter f (xs.map (AV.ae ρ)).toArray) w:=by
  simp only [execOp,ho,resolve,Act.eval,Sem.run_bind,Deferred.ofValue,Sem.run_pure,Result.andThen_ok,invoke]
  have he':Array.map a.eval args=(xs.map (AV.ae ρ)).toArray:=he
  rw [show (Array.map (fun x=>a.eval x) args)=(xs.map (AV.ae ρ)).toArray from he']
  simp only [Array.empty_append,Array.append_empty]
  exact x8 _ _
 rw [Oper.semAt_eq _ _ _ hd,hrun]
 simp only [Oper.uponIn]
 refine ⟨fun h=>by simp [fw] at h,rI ?_⟩
 refine hc.mono ?_
 rintro e w' ⟨rfl,hr⟩
 exact hq w' hr
theorem uJ (hT:cP P ctx.tt) (hC:eB P ctx) (hm:P.follows .mixedOrders=true) {ops:Array Oper} {i id:Nat} {f:FuncId} {pc:PCd} (x8:bS P f) (hpc:acT P tE f pc) (hpat:Nn P ctx.X Pn pat):Bn P ctx.X tE Pn (Jw ctx ops i f pc pat) (.region id ops false):=by
 intro au W n hX st K h ρ a w aO
 obtain ⟨kI,h,hrun⟩:=Gm hT hC.sp _ _ _ h
 split at h
 rotate_left
 ·exact h.elim
 rename_i o hoi
 obtain ⟨hg,args,ts,ho,h⟩:=EY h
 split at h
 rotate_left
 ·exact h.elim
 rename_i gU
 obtain ⟨c,h,ZZ⟩:=hpc _ _ _ h
 by_cases e:c=0
 ·have h:iV ctx ops false st (K .normal):=by rw [decide_eq_true e] at h;exact h
  exact Ef hT hC hm hX h aO
 ·have h:pat kI c (K pX):=by rw [decide_eq_false e] at h;exact h
  have hX':=hX.sI aO.bz.st
  refine wpIn_region_list ?_
  have Me:ops.toList=ops.toList.take i++(o::ops.toList.drop (i+1)):=by
   have hi:i<ops.toList.length:=(List.getElem?_eq_some_iff.1 hoi).1
   have:ops.toList[i]=o:=(List.getElem?_eq_some_iff.1 hoi).2
   rw [<- this,<- List.drop_eq_getElem_cons hi,List.take_append_drop]
  rw [Me]
  refine hrun hX' (fun aQ a1 w1 cy=> ?_) ρ a w aO.base
  show if Region.wanted o (Go.yielded ops a1.tmps) then _ else _
  rw [if_pos (by simp [Region.wanted,hg])]
  have lO: ∀x∈args.toList,a1.eval x=(cr kI.tmps x).ae aQ:=fun x hx=>cy.eval x fun hd=>by
   have:=List.all_eq_true.1 gU x hx
   rw [hd] at this;cases this
  refine NH x8 ho (xs:=oE (cr kI.tmps) args.toList) (ρ:=aQ) ?_ (ZZ e _ _ aQ (· <kI.heap.length) w1 (fun x hx=> ?_) cy.st) fun w2 hf=> ?_
  ·apply Array.ext'
   simp only [Array.toList_map,gh,List.map_map]
   exact List.map_congr_left fun x hx=>lO x hx
  ·rw [gh] at hx
   obtain ⟨y,_,rfl⟩:=List.mem_map.1 hx
   exact cy.LV y
  ·have eI:DK au W kI aQ a1 w2:=AtD.back aO ⟨cy.tmps,cy.size,cy.defers,cy.kn,cy.st.called hf⟩
   obtain ⟨a',w',st',ρ',h1,h2,h3⟩:=hpat au W kI c _ aQ a1 w2 hX h eI
   exact .inr ⟨c,a',w',rfl,h1,eI.bz.st.fr,st',ρ',h2,h3⟩
theorem FL {X:Addr->Value->Prop} {d id:Nat} {x:Operand} {o1 o2:Oper} (h1:o1.guard=none/\ o1.dst=some d/\ o1.op= .makeInterface tE x) (h2:o2.guard=none/\ o2.op= .panic (.tmp d))
  (hmk: ∀v w,(Instr.makeInterface tE v).run P w= .ok (.iface tE v) w) (hpn: ∀v w,(Instr.panic (.iface tE v)).run P w= .halt (.panic (.iface tE v)) w) (hpat:Nn P X Pn pat):Bn P X tE Pn (Ox d x pat) (.region id #[o1,o2] false):=by
 intro au W n hX st K h ρ a w aO
 unfold Ox at h
 split at h
 rotate_left
 ·exact h.elim
 rename_i hd
 have hd:d<st.tmps.length:=by simpa [Nat.blt_eq] using hd
 split at h
 rotate_left
 ·exact h.elim
 rename_i c hc
 have lO:=aO.bz.eval x (by rw [hc];simp)
 rw [hc] at lO
 refine wpIn_region_list ?_
 show if Region.wanted o1 (Go.yielded _ a.tmps) then _ else _
 rw [if_pos (by simp [Region.wanted,h1.1])]
 refine ⟨fun _ _=>trivial,?_⟩
 rw [Oper.semAt_eq _ _ _ fun c e=>by rw [h1.2.2] at e;cases e]
 have r1:(execOp a.eval o1).run P w= .ok (.value (.iface tE (.int .i64 c))) w:=by
  simp only [execOp,h1.2.2,Sem.run_bind,Sem.run_pure]
  rw [lO]
  simp [hmk,AV.ae,A0.ae,Cell.ae]
 rw [r1]
 simp only [Oper.uponIn]
 show if Region.wanted o2 (Go.yielded _ _) then _ else _
 rw [if_pos (by simp [Region.wanted,h2.1])]
 refine ⟨fun _ _=>trivial,?_⟩
 rw [Oper.semAt_eq _ _ _ fun c e=>by rw [h2.2] at e;cases e]
 have r2: ∀a1:Act,a1.tmps.getD d undef= .iface tE (.int .i64 c)->(execOp a1.eval o2).run P w= .halt (.panic (.iface tE (.int .i64 c))) w:=by
  intro a1 ha
  simp only [execOp,h2.2,Sem.run_bind,Sem.run_pure,Act.eval]
  rw [ha]
  simp [hpn]
 rw [r2 _ (by rw [iF,h1.2.1];simp [aO.bz.size,hd])]
 simp only [Oper.uponIn]
 have eI:DK au W {st with tmps:=st.tmps.set d .dead} ρ (a.put o1.dst (.iface tE (.int .i64 c))) w:=by
  refine ⟨aO.nd,aO.dd,fun t ht=> ?_,by rw [mB,aO.bz.size];simp,by rw [put_defers];exact aO.bz.defers,fun t=> ?_,aO.bz.st⟩
  ·dsimp only at ht ⊢
   rw [eN] at ht
   have hne:d≠t:=fun e=>by subst e;simp [hd] at ht
   rw [iF,h1.2.1,eN]
   simp only [Option.some.injEq]
   rw [if_neg fun h=>hne h.1.symm] at ht
   rw [if_neg fun h=>hne h.1.symm,if_neg fun h=>hne h.1.symm]
   exact aO.bz.tmps t ht
  ·dsimp only
   rw [eN]
   split
   ·trivial
   ·exact aO.bz.kn t
 obtain ⟨a',w',st',ρ',h1,h2,h3⟩:=hpat au W _ c _ ρ _ w hX h eI
 exact .inr ⟨c,a',w',rfl,h1,eI.bz.st.fr,st',ρ',h2,h3⟩
end
end Go.Ev
namespace Go.Ev
open Go.RowKit
def alx (o:Oper):Oper:= {o with op:= .move (.const (.int .i64 0)),guard:=none}
def NY (i:Nat) (l:List Oper):List Oper:=l.take i++(l.drop i).map alx
def cN (i:Nat) (ops:Array Oper):Array Oper:=(NY i ops.toList).toArray
def Mz (ops:Array Oper) (i:Nat):Bool:=((ops.toList.take i).all fun o=>o.guard.isNone)&&(List.range ops.size).all fun j=>Nat.ble j i||Bt (cN i ops) j i
def Tq (ops:Array Oper) (i:Nat) (x:Operand):Bool:=match x with
 | .tmp t=>(List.range ops.size).all fun k=>(match tZ (cN i ops) k with|some d=> !Nat.beq d t|none=>true)||(Nat.blt k i&&Bt (cN i ops) i k)
 |_=>true
def uQ:List Oper->List AV->List AV
 | [],l=>l
 |o::r,l=>uQ r (match o.dst with|some d=>l.set d .dead|none=>l)
def JO (ops:Array Oper) (st:AS):AS:= {tmps:=uQ ops.toList st.tmps,heap:=st.heap}
def quiet (lg:List fD):Bool:=lg.all fun l=>l.wr.isEmpty&&Nat.beq l.cnt 0
def afT (ctx:Ctx) (ops:Array Oper) (i:Nat) (f:FuncId) (pc:PCd) (pat:Pat):bw:=fun st K=>
 mL (aaR ctx) (cN i ops) (cN i ops).toList [] st [] fun kI lg=>if sy (cN i ops) lg&&(quiet lg&&Mz ops i) then (match ops.toList[i]? with
  | some o=>Tz f o fun xs=>if xs.all (fun x=> !(cr kI.tmps x).FV&&Tq ops i x) then
    pc (oE (cr kI.tmps) xs) (aj st.heap) fun c=>cB (decide (c=0)) (iV ctx ops true st (K .normal)) (pat (JO ops st) c (K pX)) else False
  |none=>False) else False
theorem Ff (i:Nat) (l:List Oper):(NY i l).length=l.length:=by simp [NY];omega
theorem jD (i:Nat) (ops:Array Oper):(cN i ops).size=ops.size:=by simp [cN,Ff]
theorem adl {i j:Nat} {l:List Oper} (h:j<i):(NY i l)[j]? =l[j]? :=by
 unfold NY
 rw [List.getElem?_append]
 split
 ·rw [List.getElem?_take,if_pos h]
 ·rename_i h2
  simp only [List.length_take] at h2
  have:l.length<=j:=by omega
  rw [List.getElem?_eq_none (by simp;omega),List.getElem?_eq_none this]
theorem Fe (i j:Nat) (l:List Oper):(NY i l)[j]?.map (fun o=>(o.after,o.dst))=l[j]?.map fun o=>(o.after,o.dst):=by
 unfold NY
 rw [List.getElem?_append]
 split
 ·rename_i h
  simp only [List.length_take] at h
  rw [List.getElem?_take,if_pos (by omega)]
 ·rename_i h
  simp only [List.length_take] at h
  rw [List.getElem?_map,List.getElem?_drop]
  by_cases h2:j<l.length
  ·have:i+(j- min i l.length)=j:=by omega
   simp only [List.length_take]
   rw [this]
   cases l[j]? <;>rfl
  ·simp only [List.length_take]
   rw [List.getElem?_eq_none (by omega),List.getElem?_eq_none (by omega)];rfl
theorem Rl (i j:Nat) (ops:Array Oper):(cN i ops)[j]?.map (fun o=>(o.after,o.dst))=ops[j]?.map fun o=>(o.after,o.dst):=by
 have:=Fe i j ops.toList
 simpa [cN] using this
theorem B4 (i:Nat) (ops:Array Oper) (L:Array Bool):Region.ready .any (cN i ops) L=Region.ready .any ops L:=by
 unfold Region.ready
 rw [jD]
 refine List.filter_congr fun j hj=> ?_
 have h:=Rl i j ops
 have h2:(cN i ops)[j]?.map (·.after)=ops[j]?.map (·.after):=by
  have:=congrArg (Option.map (·.1)) h
  simpa [Option.map_map,Function.comp_def] using this
 have h3: ∀g:Array Edge->Bool,Option.map (fun x:Oper=>g x.after) (cN i ops)[j]? =Option.map (fun x:Oper=>g x.after) ops[j]? :=fun g=>by
  have:=congrArg (Option.map g) h2
  simpa [Option.map_map,Function.comp_def] using this
 rw [h3 fun af=>af.all fun e=> !Region.binds .any e||L.getD e.on false]
theorem JM: ∀(l:List Oper) (x:List AV) (t:Nat),bP (uQ l x) t≠ .dead->bP (uQ l x) t=bP x t/\ ∀o∈l,o.dst=some t->x.length<=t
 | [],x,t,_=>⟨rfl,fun _ h=>by cases h⟩
 |o::r,x,t,h=>by
  unfold uQ at h ⊢
  obtain ⟨h1,h2⟩:=JM r _ t h
  cases ho:o.dst with
  |none=>
   rw [ho] at h1 h2
   refine ⟨h1,fun p hp hd=> ?_⟩
   rcases List.mem_cons.1 hp with rfl|hp
   ·rw [ho] at hd;cases hd
   ·exact h2 p hp hd
  |some d=>
   rw [ho] at h1 h2 h
   dsimp only at h1 h2 h ⊢
   rw [h1] at h
   rw [eN] at h
   by_cases e:t=d/\ d<x.length
   ·rw [if_pos e] at h;exact absurd rfl h
   ·refine ⟨by rw [h1,eN,if_neg e],fun p hp hd=> ?_⟩
    rcases List.mem_cons.1 hp with rfl|hp
    ·rw [ho] at hd;cases hd
     rcases Nat.lt_or_ge t x.length with h3|h3
     ·exact absurd ⟨rfl,h3⟩ e
     ·exact h3
    ·have:=h2 p hp hd
     simpa using this
theorem JN: ∀(l:List Oper) (x:List AV),(uQ l x).length=x.length
 | [],x=>rfl
 |o::r,x=>by unfold uQ;rw [JN r];cases o.dst<;>simp
theorem OQ {Kn:Nat->Prop} : ∀(l:List Oper) (x:List AV),(∀t,(bP x t).ok Kn)-> ∀t,(bP (uQ l x) t).ok Kn
 | [],x,h=>h
 |o::r,x,h=>by
  unfold uQ
  refine OQ r _ ?_
  intro t
  cases o.dst with
  |none=>exact h t
  |some d=>
   dsimp only
   rw [eN]
   split
   ·trivial
   ·exact h t
section
variable {P:Program} {ctx:Ctx} {au:eW} {W:World} {df:List Deferred} {tE:TypeId} {Pn:Ti} {pat:Pat} {X:Addr->Value->Prop} {aX:AS} {tr:List (Option Rec)} {el:List fD}
theorem SD (hm:P.follows .mixedOrders=true) (hX:rD au W X) {ops:Array Oper} {i:Nat} (h:Good P X (cN i ops) aX tr el) (hq: ∀j r,dh tr j=some r->r.writes= []/\ r.fresh= []) (hs:Mz ops i=true) (hi:i<ops.size)
  (ro:Option Nat) (n id:Nat) {Q:Exit->Act->World->Prop} {ρ:Env} {a:Act} {w:World} (aO:kJ au W df aX ρ a w)
  (ZZ: ∀o ρ a w,ops[i]? =some o->kJ au W df (JO ops aX) ρ a w->(∀x,Tq ops i x=true->cr (tG (cN i ops).toList tr aX ops.size).tmps x≠ .dead->a.eval x=(cr (tG (cN i ops).toList tr aX ops.size).tmps x).ae ρ/\ (cr (tG (cN i ops).toList tr aX ops.size).tmps x).ok (· <aX.heap.length))->
   wpOpIn (fw ro) n P ops Q i (fun _ _=>False) a w):(Code.region id ops true).wpIn (fw ro) n P Q a w:=by
 refine wpIn_region_any hm ?_
 let N:=aX.tmps.length
 have hsz:(cN i ops).toList.length=ops.size:=by simp [cN,Ff]
 simp only [Mz,Bool.and_eq_true,List.all_eq_true,List.mem_range,Bool.or_eq_true,Nat.ble_eq] at hs
 have ajo: ∀L a w,Q6 au W df (cN i ops) tr aX L a w->L.getD i false=false->Region.ready .any ops L≠ []:=by
  intro L a w hI hL hr
  have:=NW h hI (by rw [B4];exact hr) i (by rw [jD];exact hi)
  rw [hL] at this;cases this
 have main: ∀fuel L a w,L.toList.countP (!·)<=fuel->Q6 au W df (cN i ops) tr aX L a w->(∀j,i<=j->L.getD j false=false)->wpAnyIn (fw ro) n P .any ops Q fuel L a w:=by
  intro fuel
  induction fuel with
  |zero=>
   intro L a w hc hI hL
   exfalso
   rcases hq:Region.ready .any ops L with _|⟨j,r⟩
   ·exact ajo L a w hI (hL i (Nat.le_refl _)) hq
   ·obtain ⟨_,_,hf,_⟩:=qM hX h ro n Q L a w j hI (by rw [B4,hq];simp)
    have:=count_set L.toList j (by simpa using hf)
    omega
  |succ fuel ih=>
   intro L a w hc hI hL
   refine ⟨fun hr=>absurd hr (ajo L a w hI (hL i (Nat.le_refl _))),fun j hj=> ?_⟩
   obtain ⟨h1,hjs,hf,Wg⟩:=qM hX h ro n Q L a w j hI (by rw [B4];exact hj)
   rw [jD] at hjs
   rcases Nat.lt_trichotomy j i with hlt|rfl|hlt
   ·have hsame:(cN i ops)[j]? =ops[j]? :=by
     have:=adl (l:=ops.toList) hlt
     simpa [cN] using this
    have hg: ∀o,ops[j]? =some o->o.guard=none:=fun o ho=>by
     have:=hs.1 o (List.mem_of_getElem? (l:=ops.toList.take i) (i:=j) (by rw [List.getElem?_take,if_pos hlt];simpa using ho))
     simpa using this
    have h2:wpOpIn (fw ro) n P ops Q j (fun a' w'=>Q6 au W df (cN i ops) tr aX (L.setIfInBounds j true) a' w') a w:=by
     unfold wpOpIn at h1 ⊢
     rw [hsame] at h1
     cases ho:ops[j]? with
     |none=>rw [ho] at h1;exact h1
     |some o=>
      rw [ho] at h1
      dsimp only at h1 ⊢
      simp only [Region.wanted,hg o ho,if_true] at h1 ⊢
      exact h1
    refine wpOpIn_mono (fun a' w' hI'=>ih _ a' w' ?_ hI' fun k hk=> ?_) h2
    ·have:=count_set L.toList j (by simpa using hf)
     rw [Array.toList_setIfInBounds];omega
    ·have:=hL k hk
     simp only [Array.getD_eq_getD_getElem?,Array.getElem?_setIfInBounds] at this ⊢
     rw [if_neg (by omega)];exact this
   ·
    obtain ⟨hLs,hdc,aQ,hR⟩:=hI
    obtain ⟨o,ho⟩: ∃o,ops[j]? =some o:=⟨ops[j],by simp [hjs]⟩
    have hfalse: ∀is,part N (cN j ops).toList tr aX (fun _=>false) is (fa aX)=fa aX:=fun is=>by
     induction is with
     |nil=>rfl
     |cons j r ih=>exact ih
    have ajs: ∀k m,¬covers (Bl (cN j ops).toList tr aX k) (dh tr k) m:=fun k m hc=>by
     rw [oh] at hc
     cases hr:dh tr k with
     |none=>rw [hr] at hc;dsimp only at hc;omega
     |some r=>rw [hr] at hc;dsimp only at hc;rw [(hq k r hr).2] at hc;simp at hc;omega
    have hwr: ∀k m,m∉s9 (dh tr k):=fun k m hc=>by
     cases hr:dh tr k with
     |none=>rw [hr] at hc;cases hc
     |some r=>rw [hr] at hc;have hc:m∈r.writes.map (·.1):=hc;rw [(hq k r hr).1] at hc;cases hc
    have hG:(part N (cN j ops).toList tr aX (fun i=>L.getD i false) (List.range (cN j ops).size) (fa aX)).G=aj aX.heap:=funext fun m=>by
     have:=MB (N:=N) (ops:=(cN j ops).toList) (tr:=tr) (aX:=aX) (L:=fun i=>L.getD i false) (L':=fun _=>false) (m:=m) (List.range (cN j ops).size) (fa aX) (fa aX) rfl fun k hk hd=>by
      rcases hd with hd|hd
      ·exact absurd hd (ajs k m)
      ·exact absurd hd (hwr k m)
     rw [this,hfalse];rfl
    have hKn:(part N (cN j ops).toList tr aX (fun i=>L.getD i false) (List.range (cN j ops).size) (fa aX)).Kn=(· <aX.heap.length):=funext fun m=>by
     apply propext
     rw [z6 _ _ (fun k hk=>by rw [hsz];rw [jD] at hk;exact List.mem_range.1 hk)]
     exact ⟨fun h=>h.elim (fun h=>h) fun ⟨k,_,_,hc⟩=>absurd hc (ajs k m),.inl⟩
    have hst:St au W aQ (· <aX.heap.length) (aj aX.heap) w:=by
     have:=hR.st
     rw [hG,hKn] at this;exact this
    have ajB:kJ au W df (JO ops aX) aQ a w:=by
     refine ⟨fun t ht=> ?_,by rw [hR.size];exact (JN _ _).symm,hR.defers,fun t=>OQ _ _ aO.kn t,hst⟩
     obtain ⟨e1,e2⟩:=JM _ _ _ ht
     show a.tmps.getD t undef=(bP (uQ ops.toList aX.tmps) t).ae aQ
     rw [show bP (uQ ops.toList aX.tmps) t=bP aX.tmps t from e1]
     by_cases h3:t<aX.tmps.length
     ·have e3:(part N (cN j ops).toList tr aX (fun i=>L.getD i false) (List.range (cN j ops).size) (fa aX)).T t=bP aX.tmps t:=by
       have:=Gi (N:=N) (ops:=(cN j ops).toList) (tr:=tr) (aX:=aX) (L:=fun i=>L.getD i false) (L':=fun _=>false) (t:=t) (List.range (cN j ops).size) (fa aX) (fa aX) rfl fun k hk hd=>by
        exfalso
        have h4:=Fe j k ops.toList
        have h5:(NY j ops.toList)[k]?.bind (·.dst)=some t:=by simpa [Dz,cN] using hd
        have h6:ops.toList[k]?.bind (·.dst)=some t:=by
         have:=congrArg (fun x=>Option.bind x (·.2)) h4
         simp only [Option.bind_map,Function.comp_def] at this
         rw [<- this];exact h5
        obtain ⟨p,hp,hpd⟩:=Option.bind_eq_some_iff.1 h6
        have:=e2 p (List.mem_of_getElem? hp) hpd
        omega
       rw [this,hfalse];rfl
      have h4:=hR.tmps t
      rw [e3] at h4
      exact h4 (by rw [<- e1];exact ht)
     ·have h4:a.tmps.size≤t:=by rw [hR.size];omega
      rw [pW,List.getD,List.getElem?_eq_none (by omega),Array.getD_eq_getD_getElem?,Array.getElem?_eq_none h4];rfl
    have hall:=ZZ o aQ a w ho ajB fun x hx hd=>by
     cases x with
     |tmp t=>
      have e3:(part N (cN j ops).toList tr aX (fun i=>L.getD i false) (List.range (cN j ops).size) (fa aX)).T t=bP (tG (cN j ops).toList tr aX ops.size).tmps t:=by
       show _=(fa (tG (cN j ops).toList tr aX ops.size)).T t
       have h4:=h.text ops.size (by rw [jD];exact Nat.le_refl _)
       rw [<- h4,jD]
       refine Gi _ _ _ rfl fun k hk hdk=> ?_
       simp only [Tq,List.all_eq_true,List.mem_range,Bool.or_eq_true,Bool.and_eq_true,Nat.blt_eq] at hx
       have h5:tZ (cN j ops) k=some t:=by
        simp only [Dz,Array.getElem?_toList] at hdk
        unfold tZ
        cases ZU:(cN j ops)[k]? with
        |none=>rw [ZU] at hdk;cases hdk
        |some p=>rw [ZU] at hdk;exact hdk
       rcases hx k (List.mem_range.1 hk) with h6|⟨_,h6⟩
       ·rw [h5] at h6;simp at h6
       ·exact Wg k (pg h6)
      have h4:=hR.tmps t
      have h5:=hR.ok t
      rw [e3] at h4 h5
      rw [hKn] at h5
      exact ⟨h4 hd,h5⟩
     |const v=>exact ⟨(oG v aQ).symm,u7 _ _⟩
     |global g=>exact ⟨rfl,trivial⟩
     |func f=>exact ⟨rfl,fun r hr=>absurd hr (by simp)⟩
    exact wpOpIn_mono (fun _ _ h=>h.elim) hall
   ·have:=hs.2 j hjs
    rcases this with h3|h3
    ·omega
    ·have:=Wg i (pg h3)
     rw [hL i (Nat.le_refl _)] at this;cases this
 have ahj:(fun i=>(Array.replicate ops.size false).getD i false)=fun _=>false:=by
  funext i;rw [Array.getD_eq_getD_getElem?,Array.getElem?_replicate];split<;>rfl
 refine main _ _ _ _ (by have:=List.countP_le_length (p:=(!·)) (l:=(Array.replicate ops.size false).toList);simpa using this) ⟨by simp [jD],fun i o hi=> ?_,ρ,?_⟩ fun j _=>congrFun ahj j
 ·have:=congrFun ahj i
  have this:(Array.replicate ops.size false).getD i false=false:=this
  rw [this] at hi;cases hi
 ·have e:part N (cN i ops).toList tr aX (fun i=>(Array.replicate ops.size false).getD i false) (List.range (cN i ops).size) (fa aX)=fa aX:=by
   rw [ahj]
   generalize List.range (cN i ops).size=is
   induction is with
   |nil=>rfl
   |cons j r ih=>exact ih
  rw [e]
  exact Uz (aO.drawn _ (by first|exact Nat.le_succ _|exact Nat.le_add_right _ _|omega))
theorem ZY (hT:cP P ctx.tt) (hC:eB P ctx) (hm:P.follows .mixedOrders=true) {ops:Array Oper} {i id:Nat} {f:FuncId} {pc:PCd} (x8:bS P f) (hpc:acT P tE f pc) (hpat:Nn P ctx.X Pn pat):Bn P ctx.X tE Pn (afT ctx ops i f pc pat) (.region id ops true):=by
 intro au W n hX st K h ρ a w aO
 obtain ⟨tr,h1,h2,h3⟩:=sx (ctx:=aaR ctx) hT ⟨hC.sp,rfl,rfl⟩ (cN i ops) _ _ _ _ _ h
 simp only [List.nil_append] at h3
 split at h3
 rotate_left
 ·exact h3.elim
 rename_i x9
 simp only [Bool.and_eq_true] at x9
 obtain ⟨x9,hqt,hps⟩:=x9
 split at h3
 rotate_left
 ·exact h3.elim
 rename_i o hoi
 obtain ⟨hg,args,ts,ho,h3⟩:=EY h3
 split at h3
 rotate_left
 ·exact h3.elim
 rename_i gU
 obtain ⟨c,h3,ZZ⟩:=hpc _ _ _ h3
 by_cases e:c=0
 ·have h:iV ctx ops true st (K .normal):=by rw [decide_eq_true e] at h3;exact h3
  exact Ef hT hC hm hX h aO
 ·have hp3:pat (JO ops st) c (K pX):=by rw [decide_eq_false e] at h3;exact h3
  have hX':=hX.sI aO.bz.st
  have hlen:tr.length=(cN i ops).size:=by simpa using h1
  have afQ:Good P ctx.X (cN i ops) st tr (kN (cN i ops).toList st tr):=⟨hlen,h2,yj x9,.inl rfl⟩
  have hi:i<ops.size:=by have:=(List.getElem?_eq_some_iff.1 hoi).1;simpa using this
  have hq: ∀j r,dh tr j=some r->r.writes= []/\ r.fresh= []:=by
   intro j r hr
   by_cases hj:j<(cN i ops).size
   ·obtain ⟨o',r',_,_,_,hr',_,_,qV⟩:=afQ.at_ hj
    rw [hr] at hr';subst hr'
    have:=List.all_eq_true.1 hqt _ (List.mem_of_getElem? qV)
    obtain ⟨f1,_,_,f4⟩:=F4 o' (tG (cN i ops).toList tr st j) (some r)
    rw [f1,f4] at this
    simp only [Bool.and_eq_true] at this
    constructor
    ·have h5:(r.writes.map (·.1)).isEmpty=true:=this.1
     simpa using h5
    ·have h5:=Nat.eq_of_beq_eq_true this.2
     exact List.eq_nil_of_length_eq_zero h5
   ·have:tr[j]? =none:=List.getElem?_eq_none (by omega)
    simp [dh,this] at hr
  have eS:tG (cN i ops).toList tr st ops.size=m7 (cN i ops).toList st tr:=by
   unfold tG
   rw [List.take_of_length_le (by simp [cN,Ff]),List.take_of_length_le (by rw [hlen,jD];exact Nat.le_refl _)]
  refine SD hm hX' afQ hq hps hi none n id aO.base fun o1 aQ a1 w1 ho1 cy lO=> ?_
  rw [eS] at lO
  have:o1=o:=by
   have h5:ops.toList[i]? =some o1:=by simpa using ho1
   rw [hoi] at h5;exact (Option.some.inj h5).symm
  subst this
  unfold wpOpIn
  rw [ho1]
  dsimp only
  rw [if_pos (by simp [Region.wanted,hg])]
  have hx: ∀x∈args.toList,cr (m7 (cN i ops).toList st tr).tmps x≠ .dead/\ Tq ops i x=true:=fun x hx=>by
   have:=List.all_eq_true.1 gU x hx
   simp only [Bool.and_eq_true,Bool.not_eq_true'] at this
   exact ⟨fun hd=>by rw [hd] at this;simp [AV.FV] at this,this.2⟩
  refine NH x8 ho (xs:=oE (cr (m7 (cN i ops).toList st tr).tmps) args.toList) (ρ:=aQ) ?_ (ZZ e _ _ aQ (· <st.heap.length) w1 (fun x hx'=> ?_) cy.st) fun w2 hf=> ?_
  ·apply Array.ext'
   simp only [Array.toList_map,gh,List.map_map]
   exact List.map_congr_left fun x hx'=>(lO x (hx x hx').2 (hx x hx').1).1
  ·rw [gh] at hx'
   obtain ⟨y,hy,rfl⟩:=List.mem_map.1 hx'
   exact (lO y (hx y hy).2 (hx y hy).1).2
  ·have eI:DK au W (JO ops st) aQ a1 w2:=AtD.back (st:=st) aO ⟨cy.tmps,cy.size,cy.defers,cy.kn,cy.st.called hf⟩
   obtain ⟨a',w',st',ρ',h5,h6,h7⟩:=hpat au W (JO ops st) c _ aQ a1 w2 hX hp3 eI
   exact .inr ⟨c,a',w',rfl,h5,eI.bz.st.fr,st',ρ',h6,h7⟩
end
end Go.Ev
