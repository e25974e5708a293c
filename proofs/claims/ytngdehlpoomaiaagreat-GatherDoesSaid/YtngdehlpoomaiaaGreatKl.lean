/- What becomes of a state where a code is thrown: stores. -/
import Derived.Test.YtngdehlpoomaiaaGreatKe
import Derived.Test.YtngdehlpoomaiaaGreatWb
import Derived.Test.YtngdehlpoomaiaaGreatChecked
import Derived.Tactics
import Derived.Tactics2
import Derived.RegionTactic
import Derived.RegionCalls
import Derived.Test.YtngdehlpoomaiaaGreatLf
import Derived.Test.YtngdehlpoomaiaaGreatEvL
noncomputable section
set_option linter.unusedSectionVars false
set_option linter.unusedVariables false
set_option linter.unusedSimpArgs false
namespace Go.Ev
open Go.RowKit
abbrev Uj:Type:=((Int×Int×Int×Int×List (Int×I3×I3×I2))×I3×I3)
abbrev PL:=List (Nat×TypeId×(Int->Value))
def ZI (st:AS) (s:Nat):Bool:=match bY st.tmps s with
 | .v (.one (.ptr n off))=>(match ai st.heap n with|some (.cells cs _)=>Nat.blt off cs.length|_=>false)
 |_=>false
def Tn (ctx:Ctx):PL->Pat
 | [],st,c,k=>k st
 |p::l,st,c,k=>match aL ctx.tt p.2.1 with
  |some i=>if ZI st p.1 then ri i (bY st.tmps p.1) (ofV (p.2.2 c)) (ai st.heap) fun r=>Tn ctx l (st.app none r) c k else False
  |none=>False
def UL (P:Program):PL->PnT
 | [],c,a,w,a',w'=>a'=a/\ w'=w
 |p::l,c,a,w,a',w'=>(∃ad x,a.tmps.getD p.1 undef= .pointer (some ad)/\ w.cell? ad=some x)/\ ∃w1,(Instr.storeAt p.2.1 (a.tmps.getD p.1 undef) (p.2.2 c)).run P w= .ok () w1/\ UL P l c a w1 a' w'
def ajt (s:Nat):Pat:=fun st c k=>if Nat.blt s st.tmps.length then k {st with tmps:=st.tmps.set s (.v (.one (.raw (.int .i64 c))))} else False
def PnR (s:Nat):PnT:=fun c a w a' w'=>w'=w/\ a'=a.put (some s) (.int .i64 c)
section
variable {P:Program} {ctx:Ctx}
theorem Tp {X:Addr->Value->Prop} (s:Nat):UK P X (PnR s) (ajt s):=by
 intro av W st c k ρ a w hX h aQ
 unfold ajt at h
 split at h
 rotate_left
 ·exact h.elim
 rename_i hd
 have hd:s<st.tmps.length:=by simpa [Nat.blt_eq] using hd
 refine ⟨_,w,_,ρ,⟨rfl,rfl⟩,h,aQ.nd,aQ.dd,fun t ht=> ?_,by rw [oz,aQ.aX.size];simp,by rw [put_defers];exact aQ.aX.defers,fun t=> ?_,aQ.aX.st⟩
 ·dsimp only at ht ⊢
  rw [fu] at ht
  rw [jz,fu]
  simp only [Option.some.injEq]
  by_cases e:t=s
  ·subst e
   rw [if_pos ⟨rfl,by rw [aQ.aX.size];exact hd⟩,if_pos ⟨rfl,hd⟩]
   rfl
  ·rw [if_neg (fun h=>by first|exact e h.1|exact e h.1.symm)] at ht
   rw [if_neg (fun h=>by first|exact e h.1|exact e h.1.symm),if_neg (fun h=>by first|exact e h.1|exact e h.1.symm)]
   exact aQ.aX.tmps t ht
 ·dsimp only
  rw [fu]
  split
  ·trivial
  ·exact aQ.aX.kn t
theorem vC (hT:di P ctx.tt): ∀l:PL,UK P ctx.X (UL P l) (Tn ctx l)
 | []=>fun av W st c k ρ a w hX h aQ=>⟨a,w,st,ρ,⟨rfl,rfl⟩,h,aQ⟩
 |p::l=>by
  intro av W st c k ρ a w hX h aQ
  unfold Tn at h
  split at h
  rotate_left
  ·exact h.elim
  rename_i i hi
  split at h
  rotate_left
  ·exact h.elim
  rename_i hd
  obtain ⟨r,hl,hv,hk⟩:=NF (P:=P) (nm:=st.heap.length) hT hi h
  have h0:=aQ.aX
  have ja:bY st.tmps p.1≠ .dead:=fun e=>by unfold ZI at hd;rw [e] at hd;cases hd
  have hx:=h0.tmps p.1 ja
  have hce: ∃ad x,a.tmps.getD p.1 undef= .pointer (some ad)/\ w.cell? ad=some x:=by
   unfold ZI at hd
   split at hd
   ·rename_i n off hn
    split at hd
    ·rename_i cs e he
     have ho:off<cs.length:=by simpa [Nat.blt_eq] using hd
     obtain ⟨b,hb,hh⟩:=h0.st.at_ n _ he
     refine ⟨⟨b,off,none⟩,(cs[off]).ae ρ,?_,uW hh (List.getElem?_eq_getElem ho)⟩
     rw [hx,hn]
     simp [AV.ae,A0.ae,Cell.ae,addrOf,hb]
    ·cases hd
   ·cases hd
  have hb:=aQ.base
  obtain ⟨ρ',w',hrun,sP,Oa,hst⟩:=hl.2 _ w ρ (· <st.heap.length) (ai st.heap) w (hX.v5 h0.st) ⟨h0.kn p.1,ym _ _⟩ (fun _ _=>rfl) (fun j hj hlt=>by have:st.heap.length+j<st.heap.length:=hlt;omega) hb.st
  have hrun:(Instr.storeAt p.2.1 (a.tmps.getD p.1 undef) (p.2.2 c)).run P w= .ok () w':=by
   rw [hx]
   dsimp only at hrun
   rw [qK] at hrun
   exact hrun
  have fc:Jv av W (st.app none r) ρ' a w':=aQ.back (by have:=hb.app (dst:=none) hl.1 sP Oa hst;exact this)
  obtain ⟨a2,w2,tC,jZ,h1,h2,h3⟩:=vC hT l av W (st.app none r) c k ρ' a w' hX hk fc
  exact ⟨a2,w2,tC,jZ,⟨hce,w',hrun,h1⟩,h2,h3⟩
end
end Go.Ev
namespace Go.Ev
open Go.RowKit
section
variable {P:Program} {ctx:Ctx} {av:fG} {W:World} {tE:TypeId} {Pn:PnT} {rs:List Nat}
def Vq (ctx:Ctx) (fn:Func) (R:AV->AS->Prop) (Rp:AS->Prop) (e:Exit) (st:AS):Prop:=match e with
 | .ret=>qX ctx fn st R
 | .normal=>qX ctx fn st R
 | .exit n=>match Nat.beq n pN with
  |true=>Rp st
  |false=>False
 |_=>False
theorem Yf {args:List AV} {heap:List aD} {m:Nat} {ρ:Env} {w:World} (hargs: ∀x∈args,x.ok (· <heap.length)) (hst:St av W ρ (· <heap.length) (ai heap) w) (hbd:av.bd= []):
  Jv av W ⟨args++List.replicate (m- args.length) ck,heap⟩ ρ {tmps:=(args.map (AV.ae ρ)).toArray++Array.replicate (m- (args.map (AV.ae ρ)).toArray.size) undef,defers:= []} w:=by
 refine ⟨List.nodup_nil,fun D hD=>absurd hD (by simp),fun t _=>ND ρ args m t,by simp,by rw [hbd];rfl,fun t=> ?_,hst⟩
 dsimp only
 rw [rZ,List.getD,List.getElem?_append]
 split
 ·rename_i hl
  rw [List.getElem?_eq_getElem hl]
  exact hargs _ (List.getElem_mem hl)
 ·rw [List.getElem?_replicate];split<;>exact wF _
theorem ahb (hT:di P ctx.tt) (hC:e8 P ctx) (hm:P.follows .mixedOrders=true) {f:FuncId} {fn:Func} {c:Code} (hf:P.funcs[f]? =some fn) (hb:fn.body=some c) (hrf:Ow c=true) (oL:YL P ctx tE Pn rs c) (hX:uR av W ctx.X) (hbd:av.bd= [])
  (hpd: ∀k a w a' w',Pn k a w a' w'->a'.defers=a.defers) {args:List AV} {heap:List aD} {R:AV->AS->Prop} {Rp:AS->Prop} (h:cJ ctx (gC rs c) ⟨args++List.replicate (fn.ntmps- args.length) ck,heap⟩ (Vq ctx fn R Rp))
  {ρ:Env} {w:World} (hargs: ∀x∈args,x.ok (· <heap.length)) (hst:St av W ρ (· <heap.length) (ai heap) w):
  Calls P f (args.map (AV.ae ρ)).toArray w fun e w'=>(∃st ρ' v,e= .returned (v.ae ρ')/\ v.ok (· <st.heap.length)/\ R v st/\ St av W ρ' (· <st.heap.length) (ai st.heap) w')\/
   ∃k w2 a a2 st ρ',e= .panicked [ent tE k]/\ Pn k a w' a2 w2/\ Fr av W w'/\ Rp st/\ Jv av W st ρ' a2 w2:=by
 refine callsIn_wide.1 (callsIn_of_wp (F:=fw none) (n:=0) hf hb trivial ?_ rfl)
 refine wpIn_mono (apl hT hC hm c hrf oL av W 0 hX _ _ h ρ _ w (Yf hargs hst hbd)) ?_
 have fin: ∀(R:AV->AS->Prop) a' w' st ρ',Jv av W st ρ' a' w'->qX ctx fn st R->a'.defers= []/\ ∃v,(results fn a'.tmps).run P w'= .ok (v.ae ρ') w'/\ v.ok (· <st.heap.length)/\ R v st/\ St av W ρ' (· <st.heap.length) (ai st.heap) w':=by
  intro R a' w' st ρ' aQ hk
  have hd:a'.defers= []:=by have:=aQ.aX.defers;rw [hbd] at this;exact this
  have fc:mF av W [] st ρ' a' w':=⟨aQ.aX.tmps,aQ.aX.size,hd,aQ.aX.kn,aQ.aX.st⟩
  obtain ⟨v,h1,h2,h3⟩:=AA hT fc hk
  exact ⟨hd,v,h1,h2,h3,aQ.aX.st⟩
 have good: ∀e a' w',e≠pX->UM av W (Vq ctx fn R Rp) e a' w'->(e= .normal\/ e= .ret)/\ a'.defers= []/\ ∃st ρ' v,(results fn a'.tmps).run P w'= .ok (v.ae ρ') w'/\ v.ok (· <st.heap.length)/\ R v st/\ St av W ρ' (· <st.heap.length) (ai st.heap) w':=by
  rintro e a' w' he ⟨st,ρ',hk,aQ⟩
  cases e with
  |normal=>obtain ⟨hd,v,h⟩:=fin R a' w' st ρ' aQ hk;exact ⟨.inl rfl,hd,st,ρ',v,h⟩
  |ret=>obtain ⟨hd,v,h⟩:=fin R a' w' st ρ' aQ hk;exact ⟨.inr rfl,hd,st,ρ',v,h⟩
  |exit n=>
   unfold Vq at hk
   dsimp only at hk
   cases hb:Nat.beq n pN with
   |true=>exact absurd (congrArg Exit.exit (Nat.eq_of_beq_eq_true hb)) he
   |false=>rw [hb] at hk;exact hk.elim
  |_=>exact hk.elim
 rintro e a' w' (⟨he,h⟩|⟨k,a2,w2,rfl,hp,hfr,st,ρ',hk,aQ⟩)
 ·obtain ⟨he,hd,st,ρ',v,h1,h2,h3,h4⟩:=good e a' w' he h
  rcases he with rfl|rfl<;>exact ⟨hd,_,h1,.inl ⟨st,ρ',v,rfl,h2,h3,h4⟩⟩
 ·have e:=hpd _ _ _ _ _ hp
  have hd:a2.defers= []:=by have:=aQ.aX.defers;rw [hbd] at this;exact this
  exact ⟨by rw [<- e];exact hd,.inr ⟨k,w2,a',a2,st,ρ',rfl,hp,hfr,hk,aQ⟩⟩
end
structure PX where
 p:mG
 r:Ty
 args:p.ty.T->List AV
 heap:p.ty.T->Env->List aD
 ret:p.ty.T->Env->(r.T->Prop)->AV->AS->Prop
 pan:p.ty.T->Env->(r.T->Prop)->AS->Prop
@[reducible] def PX.T' (s:PX):Type:=s.p.ty.T
@[reducible] def PX.R' (s:PX):Type:=s.r.T
structure FnX where
 x:PX
 pre:x.p.ty.T->Prop
 f:x.p.ty.T->x.r.T
def goE (ctx:Ctx) (fm:Func) (args:List AV) (heap:List aD) (R:AV->AS->Prop) (Rp:AS->Prop):Prop:=cJ ctx (aC fm) ⟨args++List.replicate (fm.ntmps- args.length) ck,heap⟩ (Vq ctx fm R Rp)
def YC (P:Program) (tt:List (Nat×TI)) (specs:List (Nat×Spec)) (tE:TypeId) (Pn:PnT) (rs:List Nat) (c:Code) (fm:Func) (s:FnX):Prop:= ∀x,s.pre x-> ∃lp its,aH P cf its/\ jg P cf tE Pn rs c lp/\ Kz lp (Ak rs c)=true/\
 ∀r0,goE ⟨tt,specs,cf,lp,[],its⟩ fm (s.x.args x) (s.x.heap x r0) (s.x.ret x r0 (· =s.f x)) (s.x.pan x r0 (· =s.f x))
theorem YC.tr {P:Program} {tt:List (Nat×TI)} {specs:List (Nat×Spec)} {tE:TypeId} {Pn:PnT} {rs:List Nat} {c:Code} {fm:Func} (s:FnX) {i:Bool} (t:s.x.p.ty.T->Tr s.x.r.T i) {lp:s.x.p.ty.T->List (Nat×br)} {its:s.x.p.ty.T->List (Nat×cP)}
  (hi: ∀x,aH P cf (its x)) (hl: ∀x,jg P cf tE Pn rs c (lp x)) (ha: ∀x,Kz (lp x) (Ak rs c)=true) (he: ∀x,(s.pre x,s.f x)=(Tr.pI i (t x).pre,(t x).val))
  (h: ∀x r0 Q,goE ⟨tt,specs,cf,lp x,[],its x⟩ fm (s.x.args x) (s.x.heap x r0) (s.x.ret x r0 Q) (s.x.pan x r0 Q)=(t x).wp Q [.env r0]):YC P tt specs tE Pn rs c fm s:=by
 intro x hx
 refine ⟨lp x,its x,hi x,hl x,ha x,fun r0=> ?_⟩
 have e:=he x
 simp only [Prod.mk.injEq] at e
 rw [h]
 exact Tr.N6 _ _ _ (by rw [<- e.1];exact hx) e.2.symm
theorem Gc {ctx:Ctx} {fn fm:Func} {c:Code} {rs:List Nat} {args:List AV} {heap:List aD} {R:AV->AS->Prop} {Rp:AS->Prop} (hfm:fm= {fn with body:=some (gC rs c)}) (h:goE ctx fm args heap R Rp):
  cJ ctx (gC rs c) ⟨args++List.replicate (fn.ntmps- args.length) ck,heap⟩ (Vq ctx fn R Rp):=by
 subst hfm;exact h
def r7 (ops:Array Oper) (i:Nat):Oper:=match ops[i]? with|some o=>o|none=>default
end Go.Ev
namespace Go.Proofs.YtngdehlpoomaiaaGreat
open Go Go.Ev Go.Proofs
theorem DK (v:Value) (w:World):(Instr.makeInterface 30 v).run Tryz.prog w= .ok (.iface 30 v) w:=by kernel_rfl
theorem Ai (v:Value) (w:World):(Instr.panic (.iface 30 v)).run Tryz.prog w= .halt (.panic (.iface 30 v)) w:=by kernel_rfl
theorem ajd (c:Int) (h:c≠0) (w:World):Calls Tryz.prog 41 #[.int .i64 c] w fun e w'=>e= .panicked [ent 30 c]/\ w'=w:=by
 refine calls_of_wp Tryz.func41 rfl ?_
 go_wp2
 simp_all [DK,Ai]
 exact ⟨rfl,rfl,rfl⟩
def Tq:PCd:=fun args hp k=>match args with
 | [.v (.one (.raw (.int .i64 c)))]=>k c
 |_=>False
theorem Qk:alq Tryz.prog 30 41 Tq:=by
 intro args hp k h
 unfold Tq at h
 split at h
 ·rename_i c
  refine ⟨c,h,fun hc av W ρ Kn w _ _=>(ajd c hc w).mono ?_⟩
  rintro e w' ⟨rfl,rfl⟩
  exact ⟨rfl,Fr.refl _ _⟩
 ·exact h.elim
end Go.Proofs.YtngdehlpoomaiaaGreat
namespace Go.Proofs.YtngdehlpoomaiaaGreat
open Go Go.Ev Go.Proofs
abbrev dD:Ty:= .int .i64
abbrev v3Y:Ty:= .prod dD (.prod dD dD)
abbrev vq:Ty:= .prod dD (.prod v3Y (.prod v3Y (.prod dD dD)))
abbrev amT:Ty:= .prod dD (.prod dD (.prod dD (.prod dD (.sl vq))))
abbrev oY:Ty:= .prod .bool (.prod (.prod dD (.prod dD (.prod dD dD))) (.prod v3Y v3Y))
def acR (r0:Env) (Q:oY.T->Prop) (v:AV) (st:AS):Prop:=match v with
 | .v (.agg [.raw (.int .i64 a),.raw (.int .i64 b),.raw (.int .i64 c),.raw (.int .i64 d),.full 0,.raw (.int .i64 x),.raw (.int .i64 y),.raw (.int .i64 z),.raw (.int .i64 u),.raw (.int .i64 v),.raw (.int .i64 w)])=>rU (ai st.heap 1) r0 1 (Q (false,(a,b,c,d),(x,y,z),u,v,w))
 |_=>False
def acJ (Q:oY.T->Prop) (st:AS):Prop:=match bY st.tmps 13 with
 | .v (.one (.raw (.int .i64 c)))=>Q (true,(c,0,0,0),(0,0,0),0,0,0)
 |_=>False
abbrev bg:mG:= .pair (.agg amT) (.pair (.agg v3Y) (.agg v3Y))
def asV:PX:=⟨bg,oY,fun x=>cy bg x,fun x r0=>da bg x++ [.cg r0 1],fun _ r0 Q=>acR r0 Q,fun _ _ Q=>acJ Q⟩
noncomputable def Tryz.apb:Func:= {Tryz.f31 with body:=some (gC [2,4,6] (aC Tryz.f31))}
noncomputable def auQ:List (Nat×br):= [(1000002,VL 13 (.const (.int .i64 1)) (ajt 13)),(1000004,VL 33 (.const (.int .i64 5)) (ajt 13)),(1000006,Pw ⟨tt,oF,cf,[],[],[]⟩ (opsOf 6 (aC Tryz.f31)) 1 41 Tq (ajt 13))]
theorem amC:jg Tryz.prog cf 30 (PnR 13) [2,4,6] (aC Tryz.f31) auQ:=by
 refine jg.cons (d:= .region 2 (opsOf 2 (aC Tryz.f31)) false) (jg.cons (d:= .region 4 (opsOf 4 (aC Tryz.f31)) false) (jg.cons (d:= .region 6 (opsOf 6 (aC Tryz.f31)) false) jg.nil (by kernel_rfl) ?_) (by kernel_rfl) ?_) (by kernel_rfl) ?_
 ·exact xW bt (aj.ctx yZ) mixed (b9.of (fn:=Tryz.f41) (by kernel_rfl) (by kernel_rfl) (by kernel_rfl)) Qk (Tp 13)
 ·have e:opsOf 4 (aC Tryz.f31)= #[r7 (opsOf 4 (aC Tryz.f31)) 0,r7 (opsOf 4 (aC Tryz.f31)) 1]:=by kernel_rfl
  rw [e]
  exact Ly ⟨by kernel_rfl,by kernel_rfl,by kernel_rfl⟩ ⟨by kernel_rfl,by kernel_rfl⟩ DK Ai (Tp 13)
 ·have e:opsOf 2 (aC Tryz.f31)= #[r7 (opsOf 2 (aC Tryz.f31)) 0,r7 (opsOf 2 (aC Tryz.f31)) 1]:=by kernel_rfl
  rw [e]
  exact Ly ⟨by kernel_rfl,by kernel_rfl,by kernel_rfl⟩ ⟨by kernel_rfl,by kernel_rfl⟩ DK Ai (Tp 13)
def mK (x:Uj):(Bool×(Int×I3)×I3×I3):=
 (ak (gis x.1) fun y=>
 (if ((!y)=true) then
 (true,(1,0,0,0),(0,0,0),0,0,0) else
 (if ((bB (bB x.2.1.1 x.2.1.2.1) x.2.1.2.2)<(-4160)) then
 (true,(5,0,0,0),(0,0,0),0,0,0) else
 (if ((bw (bw x.2.1.1 x.2.1.2.1) x.2.1.2.2)>4160) then
 (true,(5,0,0,0),(0,0,0),0,0,0) else
 (ak (tR x.2.2) fun aB=>
 (if (aB.2=0) then
 (ak (Li aB.2) fun y_2=>
 (ak (JH (x.2.1,aB.1,x.1.2.2.1)) fun bI=>
 (false,(x.1.1,x.1.2.1,x.1.2.2.1,x.1.2.2.2.1),bI,x.2.2))) else
 (true,(aB.2,0,0,0),(0,0,0),0,0,0)))))))
def qh (x:Uj):Prop:=
 ((Dj x.1)/\
 az (gis x.1) fun y=>
 (¬((!y)=true)->
 (¬((bB (bB x.2.1.1 x.2.1.2.1) x.2.1.2.2)<(-4160))->
 (¬((bw (bw x.2.1.1 x.2.1.2.1) x.2.1.2.2)>4160)->
 ((gb x.2.2)/\
 az (tR x.2.2) fun aB=>
 ((aB.2=0)->
 ((qe aB.2)/\
 az (Li aB.2) fun y_2=>
 (rP (x.2.1,aB.1,x.1.2.2.1)))))))))
def anb (x:Uj):Tr (Bool×(Int×I3)×I3×I3) true:=
 (.fn Hr x.1 fun y=>
 (.gG (!y)
 (.ret (true,(z1,bn),bn,bn))
 (.wY ((bB (bB x.2.1.1 x.2.1.2.1) x.2.1.2.2)<(-4160))
 (.ret (true,(5,bn),bn,bn))
 (.wY ((bw (bw x.2.1.1 x.2.1.2.1) x.2.1.2.2)>4160)
 (.ret (true,(5,bn),bn,bn))
 (.fn nx x.2.2 fun aB=>
 (.i10 (aB.2=z0)
 (.fn kA aB.2 fun y_2=>
 (.fn tS (x.2.1,aB.1,x.1.2.2.1) fun bI=>
 (.pn 0 1
 (.ret (false,(x.1.1,x.1.2.1,x.1.2.2.1,x.1.2.2.2.1),bI,x.2.2)))))
 (.ret (true,(aB.2,bn),bn,bn))))))))
abbrev acH:FnX:=⟨asV,qh,mK⟩
theorem ajp:YC Tryz.prog tt oF 30 (PnR 13) [2,4,6] (aC Tryz.f31) Tryz.apb acH:=YC.tr acH anb (fun x=>(aH.nil _ _)) (fun x=>amC) (fun x=>(by kernel_rfl)) (fun x=>(by kernel_rfl)) fun x r0 Q=>(by kernel_rfl)
end Go.Proofs.YtngdehlpoomaiaaGreat
namespace Go.Ev
open Go.RowKit
section
variable {P:Program}
theorem aq.Tg {f:FuncId} {s:bF} (hres:s.r.res=true)
  (h: ∀x,s.pre x-> ∀aW w,St A6 w aW (· <(da s.p x).length) (ai (da s.p x)) w->Calls P f ((cy s.p x).map (AV.ae aW)).toArray w fun e w'=> ∃st aR v,e= .returned (v.ae aR)/\ v.ok (· <st.heap.length)/\ l9 s.r (· =s.f x) v st/\ St A6 w aR (· <st.heap.length) (ai st.heap) w'):aq P f (ah s):=by
 intro X args hp nm k hs
 unfold ah at hs
 split at hs
 rotate_left
 ·exact hs.elim
 rename_i x tc b hd
 obtain ⟨rfl,hpre,hk⟩:=bh hs
 have hk:=hk _ rfl
 obtain ⟨as1,e,hargs⟩:=qa s.p _ _ _ _ hd
 rw [List.append_nil] at e
 subst e
 refine ⟨_,⟨fun p fh=>absurd fh (by simp),?_⟩,hk⟩
 intro av W ρ Kn Γ w _ _ ht hfr hst
 obtain ⟨xs,hg,hc⟩:=hargs av W ρ Kn Γ w ht hst 0
 have hb:=St.begin hg
 have hcs:=hc (fun n=>xs.getD n {}) fun i y hy=>by simp [hy]
 have key:=h x hpre _ w hb
 have ea:(cy s.p x).map (AV.ae fun n=>xs.getD n {})=args.map (AV.ae ρ):=by
  rw [hcs];simp [cy,AV.ae,Function.comp_def]
 rw [ea] at key
 refine key.mono ?_
 rintro e w' ⟨st,aR,v,rfl,hv,hR,pF⟩
 obtain ⟨y,rfl,hw⟩:=QC hR
 have aQ:mF A6 w [] ⟨[v],st.heap⟩ aR {tmps:= #[v.ae aR],defers:= []} w':=by
  refine ⟨fun t _=> ?_,rfl,rfl,fun t=> ?_,pF⟩
  ·match t with
   |0=>rfl
   |t+1=>rfl
  ·match t with
   |0=>exact hv
   |t+1=>exact wF _
 obtain ⟨jZ,fc⟩:=aQ.weak hw
 have VO:=tO 2 s.r (s.f x) 0 hres
 have Pr:=fun d=>(jo 2 (ρ:=jZ) (ρ':=fun m=>jZ (m- d)) (d:=d) s.r (s.f x) 0 hres fun i _=>by simp).2
 have hlen:(aY 2 nm s.r (s.f x)).2=(aY 2 0 s.r (s.f x)).2:=by simpa using Pr nm
 obtain ⟨ρ',r1,r2,r3⟩:=St.grow (v:=kp (aY 2 nm s.r (s.f x)).1) (tc:=tc) (nm:=nm) hst (fun i hi=>hfr i (by rw [hlen];exact hi)) VO fc.st
 have hsh:=(jo 2 (ρ:=jZ) (ρ':=ρ') (d:=nm) s.r (s.f x) 0 hres fun i hi=>by rw [Nat.zero_add];exact r2 i hi).1
 rw [Nat.zero_add] at hsh
 refine ⟨ρ',?_,r1,?_,?_⟩
 ·congr 1
  have h1:=fc.tmps 0 (by
   show kp _≠_
   generalize (aY 2 0 s.r (s.f x)).1=l
   match l with
   | []=>exact fun h=>by cases h
   | [_]=>exact fun h=>by cases h
   |_::_::_=>exact fun h=>by cases h)
  have h2:v.ae aR=(kp (aY 2 0 s.r (s.f x)).1).ae jZ:=h1
  rw [h2]
  exact (AB hsh).symm
 ·exact J3 fun c hc=>A0.aT (fun m hm=> .inr (by simpa using hm)) c (jc 2 s.r (s.f x) nm c hc)
 ·rw [hlen];exact r3
end
end Go.Ev
