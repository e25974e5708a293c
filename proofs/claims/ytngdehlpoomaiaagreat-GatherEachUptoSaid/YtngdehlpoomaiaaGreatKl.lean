/- What becomes of a state where a code is thrown: stores. -/
import Derived.Test.YtngdehlpoomaiaaGreatKe
import Derived.Test.YtngdehlpoomaiaaGreatWb
import Derived.Test.YtngdehlpoomaiaaGreatChecked
import Derived.Tactics
import Derived.Tactics2
import Derived.RegionTactic
import Derived.RegionCalls
import Derived.Test.YtngdehlpoomaiaaGreatLf
import Derived.Test.YtngdehlpoomaiaaGreatEvL
noncomputable section
set_option linter.unusedSectionVars false
set_option linter.unusedVariables false
set_option linter.unusedSimpArgs false
namespace Go.Ev
open Go.RowKit
abbrev PL:=List (Nat×TypeId×(Int->Value))
def R4 (st:AS) (s:Nat):Bool:=match bP st.tmps s with
 | .v (.one (.ptr n off))=>(match aj st.heap n with|some (.cells cs _)=>Nat.blt off cs.length|_=>false)
 |_=>false
def MC (ctx:Ctx):PL->Pat
 | [],st,c,k=>k st
 |p::l,st,c,k=>match aJ ctx.tt p.2.1 with
  |some i=>if R4 st p.1 then oP i (bP st.tmps p.1) (ofV (p.2.2 c)) (aj st.heap) fun r=>MC ctx l (st.app none r) c k else False
  |none=>False
def Np (P:Program):PL->Ti
 | [],c,a,w,a',w'=>a'=a/\ w'=w
 |p::l,c,a,w,a',w'=>(∃ad x,a.tmps.getD p.1 undef= .pointer (some ad)/\ w.cell? ad=some x)/\ ∃w1,(Instr.storeAt p.2.1 (a.tmps.getD p.1 undef) (p.2.2 c)).run P w= .ok () w1/\ Np P l c a w1 a' w'
def aa3 (s:Nat):Pat:=fun st c k=>if Nat.blt s st.tmps.length then k {st with tmps:=st.tmps.set s (.v (.one (.raw (.int .i64 c))))} else False
def PnR (s:Nat):Ti:=fun c a w a' w'=>w'=w/\ a'=a.put (some s) (.int .i64 c)
section
variable {P:Program} {ctx:Ctx}
theorem MD {X:Addr->Value->Prop} (s:Nat):Nn P X (PnR s) (aa3 s):=by
 intro au W st c k ρ a w hX h aO
 unfold aa3 at h
 split at h
 rotate_left
 ·exact h.elim
 rename_i hd
 have hd:s<st.tmps.length:=by simpa [Nat.blt_eq] using hd
 refine ⟨_,w,_,ρ,⟨rfl,rfl⟩,h,aO.nd,aO.dd,fun t ht=> ?_,by rw [mB,aO.bz.size];simp,by rw [put_defers];exact aO.bz.defers,fun t=> ?_,aO.bz.st⟩
 ·dsimp only at ht ⊢
  rw [eN] at ht
  rw [iF,eN]
  simp only [Option.some.injEq]
  by_cases e:t=s
  ·subst e
   rw [if_pos ⟨rfl,by rw [aO.bz.size];exact hd⟩,if_pos ⟨rfl,hd⟩]
   rfl
  ·rw [if_neg (fun h=>by first|exact e h.1|exact e h.1.symm)] at ht
   rw [if_neg (fun h=>by first|exact e h.1|exact e h.1.symm),if_neg (fun h=>by first|exact e h.1|exact e h.1.symm)]
   exact aO.bz.tmps t ht
 ·dsimp only
  rw [eN]
  split
  ·trivial
  ·exact aO.bz.kn t
theorem sD (hT:cP P ctx.tt): ∀l:PL,Nn P ctx.X (Np P l) (MC ctx l)
 | []=>fun au W st c k ρ a w hX h aO=>⟨a,w,st,ρ,⟨rfl,rfl⟩,h,aO⟩
 |p::l=>by
  intro au W st c k ρ a w hX h aO
  unfold MC at h
  split at h
  rotate_left
  ·exact h.elim
  rename_i i hi
  split at h
  rotate_left
  ·exact h.elim
  rename_i hd
  obtain ⟨r,hl,hv,hk⟩:=HC (P:=P) (nm:=st.heap.length) hT hi h
  have h0:=aO.bz
  have gU:bP st.tmps p.1≠ .dead:=fun e=>by unfold R4 at hd;rw [e] at hd;cases hd
  have hx:=h0.tmps p.1 gU
  have hce: ∃ad x,a.tmps.getD p.1 undef= .pointer (some ad)/\ w.cell? ad=some x:=by
   unfold R4 at hd
   split at hd
   ·rename_i n off hn
    split at hd
    ·rename_i cs e he
     have ho:off<cs.length:=by simpa [Nat.blt_eq] using hd
     obtain ⟨b,hb,hh⟩:=h0.st.at_ n _ he
     refine ⟨⟨b,off,none⟩,(cs[off]).ae ρ,?_,rJ hh (List.getElem?_eq_getElem ho)⟩
     rw [hx,hn]
     simp [AV.ae,A0.ae,Cell.ae,addrOf,hb]
    ·cases hd
   ·cases hd
  have hb:=aO.base
  obtain ⟨ρ',w',hrun,ql,Ih,hst⟩:=hl.2 _ w ρ (· <st.heap.length) (aj st.heap) w (hX.sI h0.st) ⟨h0.kn p.1,u7 _ _⟩ (fun _ _=>rfl) (fun j hj hlt=>by have:st.heap.length+j<st.heap.length:=hlt;omega) hb.st
  have hrun:(Instr.storeAt p.2.1 (a.tmps.getD p.1 undef) (p.2.2 c)).run P w= .ok () w':=by
   rw [hx]
   dsimp only at hrun
   rw [oG] at hrun
   exact hrun
  have eI:DK au W (st.app none r) ρ' a w':=aO.back (by have:=hb.app (dst:=none) hl.1 ql Ih hst;exact this)
  obtain ⟨a2,w2,qF,iY,h1,h2,h3⟩:=sD hT l au W (st.app none r) c k ρ' a w' hX hk eI
  exact ⟨a2,w2,qF,iY,⟨hce,w',hrun,h1⟩,h2,h3⟩
end
end Go.Ev
namespace Go.Ev
open Go.RowKit
section
variable {P:Program} {ctx:Ctx} {au:eW} {W:World} {tE:TypeId} {Pn:Ti} {rs:List Nat}
def N5 (ctx:Ctx) (fn:Func) (R:AV->AS->Prop) (Rp:AS->Prop) (e:Exit) (st:AS):Prop:=match e with
 | .ret=>oK ctx fn st R
 | .normal=>oK ctx fn st R
 | .exit n=>match Nat.beq n pN with
  |true=>Rp st
  |false=>False
 |_=>False
theorem Qw {args:List AV} {heap:List aG} {m:Nat} {ρ:Env} {w:World} (hargs: ∀x∈args,x.ok (· <heap.length)) (hst:St au W ρ (· <heap.length) (aj heap) w) (hbd:au.bd= []):
  DK au W ⟨args++List.replicate (m- args.length) bU,heap⟩ ρ {tmps:=(args.map (AV.ae ρ)).toArray++Array.replicate (m- (args.map (AV.ae ρ)).toArray.size) undef,defers:= []} w:=by
 refine ⟨List.nodup_nil,fun D hD=>absurd hD (by simp),fun t _=>HB ρ args m t,by simp,by rw [hbd];rfl,fun t=> ?_,hst⟩
 dsimp only
 rw [pW,List.getD,List.getElem?_append]
 split
 ·rename_i hl
  rw [List.getElem?_eq_getElem hl]
  exact hargs _ (List.getElem_mem hl)
 ·rw [List.getElem?_replicate];split<;>exact s7 _
theorem YJ (hT:cP P ctx.tt) (hC:eB P ctx) (hm:P.follows .mixedOrders=true) {f:FuncId} {fn:Func} {c:Code} (hf:P.funcs[f]? =some fn) (hb:fn.body=some c) (hrf:II c=true) (mJ:Q8 P ctx tE Pn rs c) (hX:rD au W ctx.X) (hbd:au.bd= [])
  (hpd: ∀k a w a' w',Pn k a w a' w'->a'.defers=a.defers) {args:List AV} {heap:List aG} {R:AV->AS->Prop} {Rp:AS->Prop} (h:cz ctx (gC rs c) ⟨args++List.replicate (fn.ntmps- args.length) bU,heap⟩ (N5 ctx fn R Rp))
  {ρ:Env} {w:World} (hargs: ∀x∈args,x.ok (· <heap.length)) (hst:St au W ρ (· <heap.length) (aj heap) w):
  Calls P f (args.map (AV.ae ρ)).toArray w fun e w'=>(∃st ρ' v,e= .returned (v.ae ρ')/\ v.ok (· <st.heap.length)/\ R v st/\ St au W ρ' (· <st.heap.length) (aj st.heap) w')\/
   ∃k w2 a a2 st ρ',e= .panicked [ent tE k]/\ Pn k a w' a2 w2/\ Fr au W w'/\ Rp st/\ DK au W st ρ' a2 w2:=by
 refine callsIn_wide.1 (callsIn_of_wp (F:=fw none) (n:=0) hf hb trivial ?_ rfl)
 refine wpIn_mono (agY hT hC hm c hrf mJ au W 0 hX _ _ h ρ _ w (Qw hargs hst hbd)) ?_
 have fin: ∀(R:AV->AS->Prop) a' w' st ρ',DK au W st ρ' a' w'->oK ctx fn st R->a'.defers= []/\ ∃v,(results fn a'.tmps).run P w'= .ok (v.ae ρ') w'/\ v.ok (· <st.heap.length)/\ R v st/\ St au W ρ' (· <st.heap.length) (aj st.heap) w':=by
  intro R a' w' st ρ' aO hk
  have hd:a'.defers= []:=by have:=aO.bz.defers;rw [hbd] at this;exact this
  have eI:kJ au W [] st ρ' a' w':=⟨aO.bz.tmps,aO.bz.size,hd,aO.bz.kn,aO.bz.st⟩
  obtain ⟨v,h1,h2,h3⟩:=wO hT eI hk
  exact ⟨hd,v,h1,h2,h3,aO.bz.st⟩
 have good: ∀e a' w',e≠pX->Nq au W (N5 ctx fn R Rp) e a' w'->(e= .normal\/ e= .ret)/\ a'.defers= []/\ ∃st ρ' v,(results fn a'.tmps).run P w'= .ok (v.ae ρ') w'/\ v.ok (· <st.heap.length)/\ R v st/\ St au W ρ' (· <st.heap.length) (aj st.heap) w':=by
  rintro e a' w' he ⟨st,ρ',hk,aO⟩
  cases e with
  |normal=>obtain ⟨hd,v,h⟩:=fin R a' w' st ρ' aO hk;exact ⟨.inl rfl,hd,st,ρ',v,h⟩
  |ret=>obtain ⟨hd,v,h⟩:=fin R a' w' st ρ' aO hk;exact ⟨.inr rfl,hd,st,ρ',v,h⟩
  |exit n=>
   unfold N5 at hk
   dsimp only at hk
   cases hb:Nat.beq n pN with
   |true=>exact absurd (congrArg Exit.exit (Nat.eq_of_beq_eq_true hb)) he
   |false=>rw [hb] at hk;exact hk.elim
  |_=>exact hk.elim
 rintro e a' w' (⟨he,h⟩|⟨k,a2,w2,rfl,hp,hfr,st,ρ',hk,aO⟩)
 ·obtain ⟨he,hd,st,ρ',v,h1,h2,h3,h4⟩:=good e a' w' he h
  rcases he with rfl|rfl<;>exact ⟨hd,_,h1,.inl ⟨st,ρ',v,rfl,h2,h3,h4⟩⟩
 ·have e:=hpd _ _ _ _ _ hp
  have hd:a2.defers= []:=by have:=aO.bz.defers;rw [hbd] at this;exact this
  exact ⟨by rw [<- e];exact hd,.inr ⟨k,w2,a',a2,st,ρ',rfl,hp,hfr,hk,aO⟩⟩
end
structure PX where
 p:kK
 r:Ty
 args:p.ty.T->List AV
 heap:p.ty.T->Env->List aG
 ret:p.ty.T->Env->(r.T->Prop)->AV->AS->Prop
 pan:p.ty.T->Env->(r.T->Prop)->AS->Prop
@[reducible] def PX.T' (s:PX):Type:=s.p.ty.T
@[reducible] def PX.R' (s:PX):Type:=s.r.T
structure FnX where
 x:PX
 pre:x.p.ty.T->Prop
 f:x.p.ty.T->x.r.T
def goE (ctx:Ctx) (fm:Func) (args:List AV) (heap:List aG) (R:AV->AS->Prop) (Rp:AS->Prop):Prop:=cz ctx (aD fm) ⟨args++List.replicate (fm.ntmps- args.length) bU,heap⟩ (N5 ctx fm R Rp)
def QX (P:Program) (tt:List (Nat×TI)) (specs:List (Nat×Spec)) (tE:TypeId) (Pn:Ti) (rs:List Nat) (c:Code) (fm:Func) (s:FnX):Prop:= ∀x,s.pre x-> ∃lp its,ax P cf its/\ gZ P cf tE Pn rs c lp/\ EJ lp (wK rs c)=true/\
 ∀r0,goE ⟨tt,specs,cf,lp,[],its⟩ fm (s.x.args x) (s.x.heap x r0) (s.x.ret x r0 (· =s.f x)) (s.x.pan x r0 (· =s.f x))
theorem QX.tr {P:Program} {tt:List (Nat×TI)} {specs:List (Nat×Spec)} {tE:TypeId} {Pn:Ti} {rs:List Nat} {c:Code} {fm:Func} (s:FnX) {i:Bool} (t:s.x.p.ty.T->Tr s.x.r.T i) {lp:s.x.p.ty.T->List (Nat×bw)} {its:s.x.p.ty.T->List (Nat×cD)}
  (hi: ∀x,ax P cf (its x)) (hl: ∀x,gZ P cf tE Pn rs c (lp x)) (ha: ∀x,EJ (lp x) (wK rs c)=true) (he: ∀x,(s.pre x,s.f x)=(Tr.pI i (t x).pre,(t x).val))
  (h: ∀x r0 Q,goE ⟨tt,specs,cf,lp x,[],its x⟩ fm (s.x.args x) (s.x.heap x r0) (s.x.ret x r0 Q) (s.x.pan x r0 Q)=(t x).wp Q [.env r0]):QX P tt specs tE Pn rs c fm s:=by
 intro x hx
 refine ⟨lp x,its x,hi x,hl x,ha x,fun r0=> ?_⟩
 have e:=he x
 simp only [Prod.mk.injEq] at e
 rw [h]
 exact Tr.Ib _ _ _ (by rw [<- e.1];exact hx) e.2.symm
theorem BI {ctx:Ctx} {fn fm:Func} {c:Code} {rs:List Nat} {args:List AV} {heap:List aG} {R:AV->AS->Prop} {Rp:AS->Prop} (X3:fm= {fn with body:=some (gC rs c)}) (h:goE ctx fm args heap R Rp):
  cz ctx (gC rs c) ⟨args++List.replicate (fn.ntmps- args.length) bU,heap⟩ (N5 ctx fn R Rp):=by
 subst X3;exact h
def pY (ops:Array Oper) (i:Nat):Oper:=match ops[i]? with|some o=>o|none=>default
end Go.Ev
namespace Go.Proofs.YtngdehlpoomaiaaGreat
open Go Go.Ev Go.Proofs
theorem zW (v:Value) (w:World):(Instr.makeInterface 30 v).run Tryz.prog w= .ok (.iface 30 v) w:=by kernel_rfl
theorem wI (v:Value) (w:World):(Instr.panic (.iface 30 v)).run Tryz.prog w= .halt (.panic (.iface 30 v)) w:=by kernel_rfl
theorem aaO (c:Int) (h:c≠0) (w:World):Calls Tryz.prog 41 #[.int .i64 c] w fun e w'=>e= .panicked [ent 30 c]/\ w'=w:=by
 refine calls_of_wp Tryz.func41 rfl ?_
 go_wp2
 simp_all [zW,wI]
 exact ⟨rfl,rfl,rfl⟩
def ME:PCd:=fun args hp k=>match args with
 | [.v (.one (.raw (.int .i64 c)))]=>k c
 |_=>False
theorem Ka:acT Tryz.prog 30 41 ME:=by
 intro args hp k h
 unfold ME at h
 split at h
 ·rename_i c
  refine ⟨c,h,fun hc au W ρ Kn w _ _=>(aaO c hc w).mono ?_⟩
  rintro e w' ⟨rfl,rfl⟩
  exact ⟨rfl,Fr.refl _ _⟩
 ·exact h.elim
end Go.Proofs.YtngdehlpoomaiaaGreat
namespace Go.Proofs.YtngdehlpoomaiaaGreat
open Go Go.Ev Go.Proofs
abbrev da:Ty:= .int .i64
abbrev Vi:Ty:= .prod da (.prod da da)
abbrev si:Ty:= .prod da (.prod Vi (.prod Vi (.prod da da)))
abbrev aey:Ty:= .prod da (.prod da (.prod da (.prod da (.sl si))))
abbrev oY:Ty:= .prod .bool (.prod (.prod da (.prod da (.prod da da))) (.prod Vi Vi))
def UC (r0:Env) (Q:oY.T->Prop) (v:AV) (st:AS):Prop:=match v with
 | .v (.agg [.raw (.int .i64 a),.raw (.int .i64 b),.raw (.int .i64 c),.raw (.int .i64 d),.full 0,.raw (.int .i64 x),.raw (.int .i64 y),.raw (.int .i64 z),.raw (.int .i64 u),.raw (.int .i64 v),.raw (.int .i64 w)])=>pR (aj st.heap 1) r0 1 (Q (false,(a,b,c,d),(x,y,z),u,v,w))
 |_=>False
def Us (Q:oY.T->Prop) (st:AS):Prop:=match bP st.tmps 13 with
 | .v (.one (.raw (.int .i64 c)))=>Q (true,(c,0,0,0),(0,0,0),0,0,0)
 |_=>False
abbrev aZ:kK:= .pair (.agg aey) (.pair (.agg Vi) (.agg Vi))
def akr:PX:=⟨aZ,oY,fun x=>cq aZ x,fun x r0=>c9 aZ x++ [.bT r0 1],fun _ r0 Q=>UC r0 Q,fun _ _ Q=>Us Q⟩
noncomputable def Tryz.agP:Func:= {Tryz.f31 with body:=some (gC [2,4,6] (aD Tryz.f31))}
noncomputable def amf:List (Nat×bw):= [(1000002,Ox 13 (.const (.int .i64 1)) (aa3 13)),(1000004,Ox 33 (.const (.int .i64 5)) (aa3 13)),(1000006,Jw ⟨tt,mD,cf,[],[],[]⟩ (opsOf 6 (aD Tryz.f31)) 1 41 ME (aa3 13))]
theorem aef:gZ Tryz.prog cf 30 (PnR 13) [2,4,6] (aD Tryz.f31) amf:=by
 refine gZ.cons (d:= .region 2 (opsOf 2 (aD Tryz.f31)) false) (gZ.cons (d:= .region 4 (opsOf 4 (aD Tryz.f31)) false) (gZ.cons (d:= .region 6 (opsOf 6 (aD Tryz.f31)) false) gZ.nil (by kernel_rfl) ?_) (by kernel_rfl) ?_) (by kernel_rfl) ?_
 ·exact uJ aA (ah.ctx vz) mixed (bS.of (fn:=Tryz.f41) (by kernel_rfl) (by kernel_rfl) (by kernel_rfl)) Ka (MD 13)
 ·have e:opsOf 4 (aD Tryz.f31)= #[pY (opsOf 4 (aD Tryz.f31)) 0,pY (opsOf 4 (aD Tryz.f31)) 1]:=by kernel_rfl
  rw [e]
  exact FL ⟨by kernel_rfl,by kernel_rfl,by kernel_rfl⟩ ⟨by kernel_rfl,by kernel_rfl⟩ zW wI (MD 13)
 ·have e:opsOf 2 (aD Tryz.f31)= #[pY (opsOf 2 (aD Tryz.f31)) 0,pY (opsOf 2 (aD Tryz.f31)) 1]:=by kernel_rfl
  rw [e]
  exact FL ⟨by kernel_rfl,by kernel_rfl,by kernel_rfl⟩ ⟨by kernel_rfl,by kernel_rfl⟩ zW wI (MD 13)
def kP (x:((Int×Int×Int×Int×List (Int×I3×I3×I2))×I3×I3)):(Bool×(Int×I3)×I3×I3):=
 (aq (gis x.1) fun y=>
 (if ((!y)=true) then
 (true,(1,0,0,0),(0,0,0),0,0,0) else
 (if ((bt (bt x.2.1.1 x.2.1.2.1) x.2.1.2.2)<(-4160)) then
 (true,(5,0,0,0),(0,0,0),0,0,0) else
 (if ((bf (bf x.2.1.1 x.2.1.2.1) x.2.1.2.2)>4160) then
 (true,(5,0,0,0),(0,0,0),0,0,0) else
 (aq (jE x.2.2) fun aB=>
 (if (aB.2=0) then
 (aq (oz aB.2) fun y_2=>
 (aq (wk (x.2.1,aB.1,x.1.2.2.1)) fun bk=>
 (false,(x.1.1,x.1.2.1,x.1.2.2.1,x.1.2.2.2.1),bk,x.2.2))) else
 (true,(aB.2,0,0,0),(0,0,0),0,0,0)))))))
def nU (x:((Int×Int×Int×Int×List (Int×I3×I3×I2))×I3×I3)):Prop:=
 ((rV x.1)/\
 aC (gis x.1) fun y=>
 (¬((!y)=true)->
 (¬((bt (bt x.2.1.1 x.2.1.2.1) x.2.1.2.2)<(-4160))->
 (¬((bf (bf x.2.1.1 x.2.1.2.1) x.2.1.2.2)>4160)->
 ((cU x.2.2)/\
 aC (jE x.2.2) fun aB=>
 ((aB.2=0)->
 ((fx aB.2)/\
 aC (oz aB.2) fun y_2=>
 (l7 (x.2.1,aB.1,x.1.2.2.1)))))))))
def aeS (x:((Int×Int×Int×Int×List (Int×I3×I3×I2))×I3×I3)):Tr (Bool×(Int×I3)×I3×I3) true:=
 (.fn Fx x.1 fun y=>
 (.nM (!y)
 (.ret (true,(z1,bX),bX,bX))
 (.FN ((bt (bt x.2.1.1 x.2.1.2.1) x.2.1.2.2)<(-4160))
 (.ret (true,(5,bX),bX,bX))
 (.FN ((bf (bf x.2.1.1 x.2.1.2.1) x.2.1.2.2)>4160)
 (.ret (true,(5,bX),bX,bX))
 (.fn lN x.2.2 fun aB=>
 (.i10 (aB.2=z0)
 (.fn jm aB.2 fun y_2=>
 (.fn qQ (x.2.1,aB.1,x.1.2.2.1) fun bk=>
 (.pn 0 1
 (.ret (false,(x.1.1,x.1.2.1,x.1.2.2.1,x.1.2.2.2.1),bk,x.2.2)))))
 (.ret (true,(aB.2,bX),bX,bX))))))))
abbrev Uq:FnX:=⟨akr,nU,kP⟩
theorem aa0:QX Tryz.prog tt mD 30 (PnR 13) [2,4,6] (aD Tryz.f31) Tryz.agP Uq:=QX.tr Uq aeS (fun x=>(ax.nil _ _)) (fun x=>aef) (fun x=>(by kernel_rfl)) (fun x=>(by kernel_rfl)) fun x r0 Q=>(by kernel_rfl)
end Go.Proofs.YtngdehlpoomaiaaGreat
namespace Go.Ev
open Go.RowKit
section
variable {P:Program}
theorem ai.Mv {f:FuncId} {s:bY} (hres:s.r.res=true)
  (h: ∀x,s.pre x-> ∀aV w,St xw w aV (· <(c9 s.p x).length) (aj (c9 s.p x)) w->Calls P f ((cq s.p x).map (AV.ae aV)).toArray w fun e w'=> ∃st aQ v,e= .returned (v.ae aQ)/\ v.ok (· <st.heap.length)/\ lE s.r (· =s.f x) v st/\ St xw w aQ (· <st.heap.length) (aj st.heap) w'):ai P f (ak s):=by
 intro X args hp nm k hs
 unfold ak at hs
 split at hs
 rotate_left
 ·exact hs.elim
 rename_i x tc b hd
 obtain ⟨rfl,hpre,hk⟩:=bg hs
 have hk:=hk _ rfl
 obtain ⟨as1,e,hargs⟩:=nP s.p _ _ _ _ hd
 rw [List.append_nil] at e
 subst e
 refine ⟨_,⟨fun p eL=>absurd eL (by simp),?_⟩,hk⟩
 intro au W ρ Kn Γ w _ _ ht hfr hst
 obtain ⟨xs,hg,hc⟩:=hargs au W ρ Kn Γ w ht hst 0
 have hb:=St.begin hg
 have hcs:=hc (fun n=>xs.getD n {}) fun i y hy=>by simp [hy]
 have key:=h x hpre _ w hb
 have ea:(cq s.p x).map (AV.ae fun n=>xs.getD n {})=args.map (AV.ae ρ):=by
  rw [hcs];simp [cq,AV.ae,Function.comp_def]
 rw [ea] at key
 refine key.mono ?_
 rintro e w' ⟨st,aQ,v,rfl,hv,hR,m9⟩
 obtain ⟨y,rfl,hw⟩:=Kl hR
 have aO:kJ xw w [] ⟨[v],st.heap⟩ aQ {tmps:= #[v.ae aQ],defers:= []} w':=by
  refine ⟨fun t _=> ?_,rfl,rfl,fun t=> ?_,m9⟩
  ·match t with
   |0=>rfl
   |t+1=>rfl
  ·match t with
   |0=>exact hv
   |t+1=>exact s7 _
 obtain ⟨iY,eI⟩:=aO.weak hw
 have OA:=qN 2 s.r (s.f x) 0 hres
 have Jr:=fun d=>(iu 2 (ρ:=iY) (ρ':=fun m=>iY (m- d)) (d:=d) s.r (s.f x) 0 hres fun i _=>by simp).2
 have hlen:(aW 2 nm s.r (s.f x)).2=(aW 2 0 s.r (s.f x)).2:=by simpa using Jr nm
 obtain ⟨ρ',r1,r2,r3⟩:=St.grow (v:=ji (aW 2 nm s.r (s.f x)).1) (tc:=tc) (nm:=nm) hst (fun i hi=>hfr i (by rw [hlen];exact hi)) OA eI.st
 have hsh:=(iu 2 (ρ:=iY) (ρ':=ρ') (d:=nm) s.r (s.f x) 0 hres fun i hi=>by rw [Nat.zero_add];exact r2 i hi).1
 rw [Nat.zero_add] at hsh
 refine ⟨ρ',?_,r1,?_,?_⟩
 ·congr 1
  have h1:=eI.tmps 0 (by
   show ji _≠_
   generalize (aW 2 0 s.r (s.f x)).1=l
   match l with
   | []=>exact fun h=>by cases h
   | [_]=>exact fun h=>by cases h
   |_::_::_=>exact fun h=>by cases h)
  have h2:v.ae aQ=(ji (aW 2 0 s.r (s.f x)).1).ae iY:=h1
  rw [h2]
  exact (wP hsh).symm
 ·exact Eg fun c hc=>A0.aR (fun m hm=> .inr (by simpa using hm)) c (gW 2 s.r (s.f x) nm c hc)
 ·rw [hlen];exact r3
end
end Go.Ev
