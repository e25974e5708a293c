/- More operations: aggregates, indexes, '=='. -/
import Derived.Test.YtngdehlpoomaiaaGreatEvC
noncomputable section
set_option linter.unusedSectionVars false
set_option linter.unusedVariables false
set_option linter.unusedSimpArgs false
namespace Go.Ev
open Go.RowKit
section
variable {P:Program} {ctx:Ctx} {hp:HP} {nm:Nat} {k:Rec->Prop}
theorem aei (vs:List Value): ∀(off m:Nat) (cs:List Value),(vs.zipIdx m).foldl (fun (a:Array Value) (p:Value×Nat)=>a.setIfInBounds (off+p.2) p.1) cs.toArray=(setCells cs (off+m) vs).toArray:=by
 induction vs with
 |nil=>intro off m cs;rfl
 |cons v r ih=>
  intro off m cs
  simp only [List.zipIdx_cons,List.foldl_cons,setCells]
  rw [List.setIfInBounds_toArray,ih off (m+1)]
  rfl
theorem aeg (place:Nat->Option (Nat×Nat)) (cs:List Value) (i:Nat) (v:Value) (vs:List Value) (rest:List (Nat×Value)) (hv:v.cells=vs.toArray) {off size:Nat}
  (hp:place i=some (off,size)) (hs:vs.length=size) (hl:off+size<=cs.length):
  Instr.fill place cs.toArray ((i,v)::rest)=Instr.fill place (setCells cs off vs).toArray rest:=by
 have: ¬(vs.length≠size\/ off+vs.length>cs.length):=by omega
 simp only [Instr.fill,hp,hv,List.size_toArray]
 have h1:(decide (vs.length≠size)||decide (off+vs.length>cs.length))=false:=by simp;omega
 rw [show ((if (decide (vs.length≠size)||decide (off+vs.length>cs.length))=true then none else _):Option (Array Value))=_ from if_neg (by rw [h1];simp)]
 congr 1
 have:=aei vs off 0 cs
 simpa using this
theorem vg (place:Nat->Option (Nat×Nat)) (ev:Operand->AV) (ρ:Env): ∀(parts:List (Nat×Operand)) (cs out:List Cell),A1 place ev cs parts=some out->
  Instr.fill place (cs.map (Cell.ae ρ)).toArray (parts.map fun p=>(p.1,(ev p.2).ae ρ))=some (out.map (Cell.ae ρ)).toArray
 | [],cs,out,h=>by simp only [A1,Option.some.injEq] at h;subst h;rfl
 |(i,x)::r,cs,out,h=>by
  simp only [A1] at h
  split at h
  ·rename_i off size xs Aa hx
   split at h
   ·rename_i h1
    split at h
    ·rename_i h2
     have:=vg place ev ρ r _ _ h
     rw [nK] at this
     simp only [List.map_cons]
     rw [aeg place (cs.map (Cell.ae ρ)) i ((ev x).ae ρ) (xs.map (Cell.ae ρ)) _ (AV.kJ hx ρ) Aa (by simpa using h1) (by simpa using h2)]
     exact this
    ·cases h
   ·cases h
  ·cases h
theorem Db (place:Nat->Option (Nat×Nat)) (ev:Operand->AV) (Kn:Nat->Prop): ∀(parts:List (Nat×Operand)) (cs out:List Cell),A1 place ev cs parts=some out->
  (∀c∈cs,c.ok Kn)->(∀p∈parts,(ev p.2).ok Kn)-> ∀c∈out,c.ok Kn
 | [],cs,out,h,hc,_=>by simp only [A1,Option.some.injEq] at h;subst h;exact hc
 |(i,x)::r,cs,out,h,hc,hv=>by
  simp only [A1] at h
  split at h
  ·rename_i off size xs Aa hx
   split at h
   ·rename_i h1
    split at h
    ·rename_i h2
     refine Db place ev Kn r _ _ h (fun c hm=> ?_) (fun p hp=>hv p (by simp [hp]))
     rcases wg (by omega) hm with h3|h3
     ·exact hc c h3
     ·exact AV.C0 hx (hv (i,x) (by simp)) c h3
    ·cases h
   ·cases h
  ·cases h
theorem Ja (v:Value) (ρ:Env):((mB v).map (Cell.ae ρ)).toArray=v.cells:=by
 unfold mB;rw [JV]
theorem run_places (hT:di P ctx.tt) (w:World): ∀(fs:List Field),fs.all (fun f=>(aL ctx.tt f.type).isSome)=true->
  (fs.mapM fun f=>do pure (f.offset,<- sizeOf f.type):Sem (List (Nat×Nat))).run P w= .ok (fs.map fun f=>(f.offset,((aL ctx.tt f.type).map (·.size)).getD 0)) w
 | [],_=>by simp
 |f::r,h=>by
  simp only [List.all_cons,Bool.and_eq_true] at h
  obtain ⟨fi,SL⟩:=Option.isSome_iff_exists.1 h.1
  have ih:=run_places hT w r h.2
  simp only [List.mapM_cons,Sem.run_bind,hT.sz SL,Result.andThen_ok,Sem.run_pure,ih,List.map_cons,SL,Option.map_some,Option.getD_some]
theorem YR (hT:di P ctx.tt) {t:TypeId} {i:TI} (ht:aL ctx.tt t=some i) {parts:Array (Nat×Operand)} {ev:Operand->AV} (h:YQ ctx i parts.toList ev k):
  ∃r,aO P ctx.X hp nm (fun Kn=> ∀p∈parts.toList,(ev p.2).ok Kn) (fun ρ=>Instr.build t (parts.map fun (i,x)=>(i,(ev x).ae ρ))) (fun ρ=>r.val.ae ρ) r/\ k r:=by
 unfold YQ at h
 split at h
 ·rename_i fs hd
  split at h
  ·rename_i hall
   split at h
   ·rename_i cs hcs
    refine ⟨_,aO.pure ?_,h⟩
    intro av W ρ Kn Γ w _ hk _ _
    refine ⟨?_,Db _ _ _ _ _ _ hcs (TY _ _) hk⟩
    have hs:=vg _ ev ρ _ _ _ hcs
    rw [Ja] at hs
    have Aa:=run_places hT w fs.toList hall
    have auW:(fs.mapM fun f=>do pure (f.offset,<- sizeOf f.type):Sem (Array (Nat×Nat))).run P w= .ok (fs.map fun f=>(f.offset,((aL ctx.tt f.type).map (·.size)).getD 0)) w:=by
     rw [Array.mapM_eq_mapM_toList]
     simp only [Sem.run_map,Aa,Result.andThen_ok]
     congr 1
     apply Array.ext';simp
    have e2:(fun x:Nat=>(fs.map fun (f:Field)=>(f.offset,((aL ctx.tt f.type).map (·.size)).getD 0))[x]?)=
      Z9 ctx fs:=by
     funext j
     simp only [Array.getElem?_map,Z9]
     cases hj:fs[j]? with
     |none=>rfl
     |some f=>
      have hf:(aL ctx.tt f.type).isSome=true:=by
       have:=List.all_eq_true.1 hall f (Array.mem_toList_iff.2 (Array.mem_of_getElem? hj));simpa using this
      obtain ⟨fi,SL⟩:=Option.isSome_iff_exists.1 hf
      simp [SL]
    simp only [Instr.build,Sem.run_bind,hT.z ht,Result.andThen_ok,hT.u ht,hd,auW,Array.toList_map]
    rw [e2,hs]
    rfl
   ·exact h.elim
  ·exact h.elim
 ·rename_i n e hd
  split at h
  ·rename_i ei mC
   split at h
   ·rename_i cs hcs
    refine ⟨_,aO.pure ?_,h⟩
    intro av W ρ Kn Γ w _ hk _ _
    refine ⟨?_,Db _ _ _ _ _ _ hcs (TY _ _) hk⟩
    have hs:=vg _ ev ρ _ _ _ hcs
    rw [Ja] at hs
    simp only [Instr.build,Sem.run_bind,hT.z ht,Result.andThen_ok,hT.u ht,hd,hT.sz mC,Array.toList_map]
    rw [hs]
    rfl
   ·exact h.elim
  ·exact h.elim
 ·exact h.elim
theorem W8 (ei:TI) (m:Nat) (ρ:Env):(((List.range m).map fun j=>Cell.raw (ei.zero.cells[j % ei.zero.cells.size]!)).map (Cell.ae ρ)).toArray=(Array.range m).map (ei.zero.cells[· % ei.zero.cells.size]!):=by
 apply Array.ext'
 simp [Array.toList_range,Cell.ae]
theorem Xn (ρ:Env) (w:World) (off len cap:Nat):(AV.v (.one (.sl nm off len cap))).ae (bA ρ nm {blk:=some w.heap.size})= .slice (some ⟨w.heap.size,off,none⟩) len cap:=by
 simp [AV.ae,A0.ae,Cell.ae,addrOf,bA]
theorem Jf (hT:di P ctx.tt) {t:TypeId} {i:TI} (ht:aL ctx.tt t=some i) {len:Nat} {parts:Array (Nat×Operand)} {ev:Operand->AV} (h:xj ctx i len parts.toList ev nm k):
  ∃r,aO P ctx.X hp nm (fun Kn=> ∀p∈parts.toList,(ev p.2).ok Kn) (fun ρ=>Instr.buildSlice t len (parts.map fun (i,x)=>(i,(ev x).ae ρ))) (fun ρ=>r.val.ae ρ) r/\ k r:=by
 unfold xj at h
 split at h
 ·rename_i e hd
  split at h
  ·rename_i ei mC
   split at h
   ·exact h.elim
   ·rename_i h24
    split at h
    ·exact h.elim
    ·rename_i h0
     split at h
     ·rename_i cs hcs
      refine ⟨_,Cf _ _ (.v (.one (.sl nm 0 len len))) _ _ (fun Kn hk=>Db _ _ _ _ _ _ hcs ?_ hk) (fun Kn=>(Or.inr rfl:Ob Kn nm nm)) fun ρ w=> ?_,h⟩
      ·intro c hc;obtain ⟨j,_,rfl⟩:=List.mem_map.1 hc;trivial
      ·rw [Xn]
       have hs:=vg _ ev ρ _ _ _ hcs
       rw [W8] at hs
       simp only [Instr.buildSlice,Sem.run_bind,hT.u ht,Result.andThen_ok,hd,hT.sz mC,gt_iff_lt,h24,↓reduceIte,h0,hT.z mC,Sem.run_pure,Array.toList_map,hs,newRow,run_newObj,World.alloc_eq]
     ·exact h.elim
  ·exact h.elim
 ·exact h.elim
theorem c7 {n:Nat} {p:Prop} (h:dX hp n p):(∃o,hp n=some o/\ ∀(fz pm:Nat->Prop) (ρ:Env) (w:World),bp fz pm ρ n o w-> ∃b,(ρ n).blk=some b)/\ p:=by
 unfold dX at h
 split at h
 ·rename_i cs e he
  exact ⟨⟨_,he,fun fz pm ρ w ⟨b,hb,_⟩=>⟨b,hb⟩⟩,h⟩
 ·exact h.elim
theorem MA {fz pm:Nat->Prop} {ρ:Env} {n j:Nat} {t:Ty} {l:List t.T} {rk:Nat} {w:World} (h:bp fz pm ρ n (.row t l rk) w) (hj:j<l.length): ∃a,(ρ n).base=some a:=by
 obtain ⟨_,_,_,sub,m1,_⟩:=h
 have hl:0<(aJ sub 0 (ay t l)).length:=by
  rw [bM,bE]
  exact Nat.mul_pos (by omega) t.size_pos
 obtain ⟨a,ha,_⟩:=m1 0 _ (List.getElem?_eq_getElem hl)
 exact ⟨a,ha⟩
def CU (t:Ty) (l:List t.T) (o:aD):Prop:=(∃rk,o= .row t l rk)\/ (∃n c k x,o= .gv n c k t x l)\/ ∃c st kn,o= .dp t l c st kn
theorem CU.at {t:Ty} {l:List t.T} {o:aD} (h:CU t l o) {fz pm:Nat->Prop} {ρ:Env} {n:Nat} {w:World} (ho:bp fz pm ρ n o w):(ρ n).len=l.length/\ (ρ n).es=t.size/\ l.length<=(ρ n).cap/\ ∀j,j<l.length-> ∃a,(ρ n).base=some a:=by
 rcases h with ⟨rk,rfl⟩|⟨g,c,k,x,rfl⟩|⟨c,st,kn,rfl⟩
 ·exact ⟨ho.1,ho.2.1,ho.2.2.1,fun j hj=>MA ho hj⟩
 ·obtain ⟨_,h1,h2,h3,_,h4⟩:=ho
  refine ⟨h1,h2,h3,fun j hj=> ?_⟩
  rcases h4 with ⟨e,_⟩|⟨e,b,_,_,_,h5,h6,_⟩
  ·rw [e] at hj;exact absurd hj (Nat.not_lt_zero _)
  ·exact ⟨_,by rw [<- h5,h6]⟩
 ·obtain ⟨_,h1,h2,h3,_,rb,h4,_⟩:=ho
  exact ⟨h1,h2,h3,fun j hj=>⟨_,h4 (by rintro rfl;exact absurd hj (Nat.not_lt_zero _))⟩⟩
theorem CU.uniq {t t':Ty} {l:List t.T} {l':List t'.T} {o:aD} (h:CU t l o) (h':CU t' l' o):(⟨t,l⟩:Sigma fun t:Ty=>List t.T)=⟨t',l'⟩:=by
 rcases h with ⟨rk,rfl⟩|⟨g,c,k,x,rfl⟩|⟨c,st,kn,rfl⟩<;>rcases h' with ⟨rk',e⟩|⟨g,c,k,x,e⟩|⟨c,st,kn,e⟩<;>cases e<;>rfl
theorem CU.row {t t':Ty} {l:List t.T} {l':List t'.T} {rk:Nat} (h:CU t l (.row t' l' rk)):(⟨t,l⟩:Sigma fun t:Ty=>List t.T)=⟨t',l'⟩:=h.uniq (.inl ⟨rk,rfl⟩)
theorem dY {n j:Nat} {p:Ty->Prop} (h:mz hp n j p): ∃t l,∃o: {o // CU t l o},hp n=some o.1/\ j<l.length/\ p t:=by
 unfold mz at h
 split at h
 ·rename_i t l rk he
  obtain ⟨h1,h2⟩:=bh h
  exact ⟨t,l,⟨_,.inl ⟨rk,rfl⟩⟩,he,by simpa using h1,h2⟩
 ·rename_i g c k t x l he
  obtain ⟨h1,h2⟩:=bh h
  exact ⟨t,l,⟨_,.inr (.inl ⟨g,c,k,x,rfl⟩)⟩,he,by simpa using h1,h2⟩
 ·rename_i t l c st kn he
  obtain ⟨h1,h2⟩:=bh h
  exact ⟨t,l,⟨_,.inr (.inr ⟨c,st,kn,rfl⟩)⟩,he,by simpa using h1,h2⟩
 ·exact h.elim
theorem sH {p:Nat} {kk:(n:Nat)->Option Nat->Option Nat->Nat->List Nat->Prop} (h:G7 hp p kk): ∃n s q t l,∃rk: {o // CU t l o},∃len tc,hp n=some rk.1/\ kk n s q len tc/\ n∈tc/\ p∈tc/\ (∀j,j<len->iD s j<l.length)/\ (q=none->len=l.length- iD s 0)/\ len<=l.length- iD s 0/\
  (p=n\/ ∃s',hp p=some (.alias n s' q))/\ (s=none->p=n)/\
  ∀av W ρ Kn Γ w,(∀m∈tc,Γ m=hp m)->St av W ρ Kn Γ w->(ρ n).len=l.length/\ (ρ n).es=t.size/\ (ρ p).es=t.size/\ (ρ p).len=len/\ len<=(ρ p).cap/\ Kn n/\ Kn p/\ ∀j,j<len-> ∃a b,(ρ n).base=some a/\ (ρ p).base=some b/\ b.add (j*t.size)=a.add (iD s j*t.size):=by
 unfold G7 at h
 split at h
 ·rename_i t l rk he
  refine ⟨p,none,none,t,l,⟨_,.inl ⟨rk,rfl⟩⟩,_,_,he,h,by simp,by simp,fun j hj=>hj,fun _=>rfl,Nat.le_refl _,.inl rfl,fun _=>rfl,fun av W ρ Kn Γ w ht hst=> ?_⟩
  have bQ:Γ p=some (.row t l rk):=by rw [ht p (by simp),he]
  obtain ⟨o1,o2,o3,o4⟩:=hst.at_ p _ bQ
  refine ⟨o1,o2,o2,o1,o3,(hst.kn p _ bQ).1,(hst.kn p _ bQ).1,fun j hj=> ?_⟩
  obtain ⟨a,ha⟩:=MA (hst.at_ p _ bQ) hj
  exact ⟨a,a,ha,ha,rfl⟩
 ·rename_i g c k t x l he
  refine ⟨p,none,none,t,l,⟨_,.inr (.inl ⟨g,c,k,x,rfl⟩)⟩,_,_,he,h,by simp,by simp,fun j hj=>hj,fun _=>rfl,Nat.le_refl _,.inl rfl,fun _=>rfl,fun av W ρ Kn Γ w ht hst=> ?_⟩
  have bQ:Γ p=some (.gv g c k t x l):=by rw [ht p (by simp),he]
  obtain ⟨o1,o2,o3,o4⟩:=CU.at (l:=l) (.inr (.inl ⟨g,c,k,x,rfl⟩)) (hst.at_ p _ bQ)
  refine ⟨o1,o2,o2,o1,o3,(hst.kn p _ bQ).1,(hst.kn p _ bQ).1,fun j hj=> ?_⟩
  obtain ⟨a,ha⟩:=o4 j hj
  exact ⟨a,a,ha,ha,rfl⟩
 ·rename_i t l c st kn he
  refine ⟨p,none,none,t,l,⟨_,.inr (.inr ⟨c,st,kn,rfl⟩)⟩,_,_,he,h,by simp,by simp,fun j hj=>hj,fun _=>rfl,Nat.le_refl _,.inl rfl,fun _=>rfl,fun av W ρ Kn Γ w ht hst=> ?_⟩
  have bQ:Γ p=some (.dp t l c st kn):=by rw [ht p (by simp),he]
  obtain ⟨o1,o2,o3,o4⟩:=CU.at (l:=l) (.inr (.inr ⟨c,st,kn,rfl⟩)) (hst.at_ p _ bQ)
  refine ⟨o1,o2,o2,o1,o3,(hst.kn p _ bQ).1,(hst.kn p _ bQ).1,fun j hj=> ?_⟩
  obtain ⟨a,ha⟩:=o4 j hj
  exact ⟨a,a,ha,ha,rfl⟩
 ·rename_i n s q he
  split at h
  ·rename_i t l rk Pr
   refine ⟨n,some s,q,t,l,⟨_,.inl ⟨rk,rfl⟩⟩,_,_,Pr,h,by simp,by simp,fun j hj=> ?_,fun e=> ?_,?_,.inr ⟨s,he⟩,fun e=>(by cases e),fun av W ρ Kn Γ w ht hst=> ?_⟩
   ·unfold fT at hj
    simp only [iD]
    split at hj<;>omega
   ·subst e;simp [fT,iD]
   ·show fT l.length s q<=l.length- (s+0);unfold fT;split<;>omega
   ·have asz:Γ p=some (.alias n s q):=by rw [ht p (by simp),he]
    have bQ:Γ n=some (.row t l rk):=by rw [ht n (by simp),Pr]
    obtain ⟨o1,o2,o3,o4⟩:=hst.at_ n _ bQ
    obtain ⟨_,p1,p2,p3,p4⟩:=hst.at_ p _ asz
    refine ⟨o1,o2,by rw [p2,o2],by rw [p1,o1],by rw [p1,o1] at p3;exact p3,(hst.kn n _ bQ).1,(hst.kn p _ asz).1,fun j hj=> ?_⟩
    have hj2:s+j<l.length:=by unfold fT at hj;split at hj<;>omega
    obtain ⟨a,ha⟩:=MA (hst.at_ n _ bQ) hj2
    refine ⟨a,a.add (s*(ρ n).es),ha,?_,?_⟩
    ·rw [p4 (by rw [p1,o1];omega),ha];rfl
    ·rw [eA,o2];simp only [iD,Nat.add_mul]
  ·exact h.elim
 ·exact h.elim
theorem Yy {n es:Nat} {p:Prop} (h:abp hp n es p): ∃t l rk,hp n=some (.row t l rk)/\ es=t.size/\ p:=by
 unfold abp at h
 split at h
 ·rename_i t l rk he
  split at h
  ·exact ⟨t,l,rk,he,‹_›,h⟩
  ·exact h.elim
 ·exact h.elim
theorem lH {n off:Nat} {p:Prop} (hw:dX hp n p) (HM:(Nat->Prop)->Prop) (hok: ∀Kn,HM Kn->Kn n) (f:Env->Sem Value)
    (hf: ∀(ρ:Env) (w:World) b,(ρ n).blk=some b->(f ρ).run P w= .ok (.pointer (some ⟨b,off,none⟩)) w):
    aO P ctx.X hp nm HM f (fun ρ=>(AV.v (.one (.ptr n off))).ae ρ) {val:= .v (.one (.ptr n off)),aF:= [n]} /\
    aO P ctx.X hp nm HM f (fun ρ=>(AV.v (.one (.nW n off))).ae ρ) {val:= .v (.one (.nW n off)),aF:= [n]} :=by
  obtain ⟨⟨o,ho,hb⟩,_⟩:=c7 hw
  constructor
  all_goals
    refine aO.pure ?_
    intro av W ρ Kn Γ w _ hk j7 hst
    have bQ:Γ n=some o:=by rw [j7 n (by simp),ho]
    obtain ⟨b,hb⟩:=hb _ _ ρ w (hst.at_ n o bQ)
    exact ⟨by first|rw [ow hb]|rw [pY hb]
              exact hf ρ w b hb,hok Kn hk⟩
theorem iQ {ρ:Env} {n j q:Nat} {a:Addr} (ha:(ρ n).base=some a):(AV.v (.one (.c9 n j q))).ae ρ= .pointer (some (a.add (j*(ρ n).es+q))):=by
 simp [AV.ae,A0.ae,Cell.ae,ha]
theorem qx {ρ:Env} {n j q:Nat} {a:Addr} (ha:(ρ n).base=some a):(AV.v (.one (.fY n j q))).ae ρ= .pointer (some (a.add (j*(ρ n).es+q))):=by
 simp [AV.ae,A0.ae,Cell.ae,ha]
theorem acU {n j j' q':Nat} {p:Ty->Prop} (hw:mz hp n j p) (HM:(Nat->Prop)->Prop) (hok: ∀Kn,HM Kn->Kn n) (f:Env->Sem Value)
  (hf: ∀(ρ:Env) (w:World) (a:Addr) t,p t->(ρ n).es=t.size->(ρ n).base=some a->(∃(l:List t.T) (rk: {o // CU t l o}),hp n=some rk.1/\ (ρ n).len=l.length/\ l.length<=(ρ n).cap/\ j<l.length)->(f ρ).run P w= .ok (.pointer (some (a.add (j'*(ρ n).es+q')))) w):
  aO P ctx.X hp nm HM f (fun ρ=>(AV.v (.one (.c9 n j' q'))).ae ρ) {val:= .v (.one (.c9 n j' q')),aF:= [n]} :=by
 obtain ⟨t,l,rk,he,hj,fh⟩:=dY hw
 refine aO.pure ?_
 intro av W ρ Kn Γ w _ hk j7 hst
 have bQ:Γ n=some rk.1:=by rw [j7 n (by simp),he]
 have aQ:=rk.2.at (hst.at_ n _ bQ)
 obtain ⟨a,ha⟩:=aQ.2.2.2 _ hj
 exact ⟨by rw [iQ ha];exact hf ρ w a t fh aQ.2.1 ha ⟨l,rk,he,aQ.1,aQ.2.2.1,hj⟩,hok Kn hk⟩
theorem MB {n j j' q':Nat} {p:Ty->Prop} (hw:mz hp n j p) (HM:(Nat->Prop)->Prop) (hok: ∀Kn,HM Kn->Kn n) (f:Env->Sem Value)
  (hf: ∀(ρ:Env) (w:World) (a:Addr) t,p t->(ρ n).es=t.size->(ρ n).base=some a->(∃(l:List t.T) (rk: {o // CU t l o}),hp n=some rk.1/\ (ρ n).len=l.length/\ l.length<=(ρ n).cap/\ j<l.length)->(f ρ).run P w= .ok (.pointer (some (a.add (j'*(ρ n).es+q')))) w):
  aO P ctx.X hp nm HM f (fun ρ=>(AV.v (.one (.fY n j' q'))).ae ρ) {val:= .v (.one (.fY n j' q')),aF:= [n]} :=by
 obtain ⟨t,l,rk,he,hj,fh⟩:=dY hw
 refine aO.pure ?_
 intro av W ρ Kn Γ w _ hk j7 hst
 have bQ:Γ n=some rk.1:=by rw [j7 n (by simp),he]
 have aQ:=rk.2.at (hst.at_ n _ bQ)
 obtain ⟨a,ha⟩:=aQ.2.2.2 _ hj
 exact ⟨by rw [qx ha];exact hf ρ w a t fh aQ.2.1 ha ⟨l,rk,he,aQ.1,aQ.2.2.1,hj⟩,hok Kn hk⟩
theorem PU {n:Nat} (h:aiL hp n=true): ∃c cs,hp n=some (.rc (c::cs)):=by
 unfold aiL at h
 split at h
 ·exact ⟨_,_,‹_›⟩
 ·cases h
theorem acN {ρ:Env} {n:Nat} {fz pm:Nat->Prop} {c:Cell} {cs:List Cell} {w:World} (h:bp fz pm ρ n (.rc (c::cs)) w): ∃a,(ρ n).base=some a:=by
 obtain ⟨a,ha,_⟩:=h.2 0 c rfl
 exact ⟨a,ha⟩
theorem aqr {n j' q':Nat} (hw:aiL hp n=true) (HM:(Nat->Prop)->Prop) (hok: ∀Kn,HM Kn->Kn n) (f:Env->Sem Value)
  (hf: ∀(ρ:Env) (w:World) (a:Addr),(ρ n).base=some a->(f ρ).run P w= .ok (.pointer (some (a.add (j'*(ρ n).es+q')))) w):
  aO P ctx.X hp nm HM f (fun ρ=>(AV.v (.one (.c9 n j' q'))).ae ρ) {val:= .v (.one (.c9 n j' q')),aF:= [n]} :=by
 obtain ⟨c,cs,he⟩:=PU hw
 refine aO.pure ?_
 intro av W ρ Kn Γ w _ hk j7 hst
 obtain ⟨a,ha⟩:=acN (hst.at_ n (.rc (c::cs)) (by rw [j7 n (by simp),he]))
 exact ⟨by rw [iQ ha];exact hf ρ w a ha,hok Kn hk⟩
theorem BO (b off m:Nat):(⟨b,off,none⟩:Addr).add m=⟨b,off+m,none⟩:=by unfold Addr.add;split<;>simp_all
theorem Ld (hT:di P ctx.tt) {t:TypeId} {i:TI} (ht:aL ctx.tt t=some i) {x:AV} {f:Nat} (h:mU ctx i x f hp k):
  ∃r,aO P ctx.X hp nm (fun Kn=>x.ok Kn) (fun ρ=>Instr.fieldAt t (x.ae ρ) f) (fun ρ=>r.val.ae ρ) r/\ k r:=by
 unfold mU at h
 split at h
 ·rename_i fs hd
  split at h
  ·rename_i fd hfd
   split at h
   ·rename_i fi SL
    split at h
    ·exact h.elim
    ·rename_i hnz
     split at h
     ·rename_i n off
      refine ⟨_,(lH h _ (fun Kn hk=>hk) _ (fun ρ w b hb=> ?_)).1,(c7 h).2⟩
      rw [ow hb]
      simp [Instr.fieldAt,hT.u ht,hd,hfd,Instr.sureAddr,fieldPlace,hT.sz SL,hnz,BO]
     ·rename_i n off
      refine ⟨_,(lH h _ (fun Kn hk=>hk) _ (fun ρ w b hb=> ?_)).2,(c7 h).2⟩
      rw [pY hb]
      simp [Instr.fieldAt,hT.u ht,hd,hfd,Instr.sureAddr,fieldPlace,hT.sz SL,hnz,BO]
     ·rename_i n j q
      split at h
      ·rename_i hrc
       refine ⟨_,aqr hrc _ (fun Kn hk=>hk) _ (fun ρ w a ha=> ?_),h⟩
       rw [iQ ha]
       simp [Instr.fieldAt,hT.u ht,hd,hfd,Instr.sureAddr,fieldPlace,hT.sz SL,hnz,eA,Nat.add_assoc]
      obtain ⟨_,_,_,_,_,hk⟩:=dY h
      refine ⟨_,acU h _ (fun Kn hk=>hk) _ (fun ρ w a u _ _ ha _=> ?_),hk⟩
      rw [iQ ha]
      simp [Instr.fieldAt,hT.u ht,hd,hfd,Instr.sureAddr,fieldPlace,hT.sz SL,hnz,eA,Nat.add_assoc]
     ·rename_i n j q
      obtain ⟨_,_,_,_,_,hk⟩:=dY h
      refine ⟨_,MB h _ (fun Kn hk=>hk) _ (fun ρ w a u _ _ ha _=> ?_),hk⟩
      rw [qx ha]
      simp [Instr.fieldAt,hT.u ht,hd,hfd,Instr.sureAddr,fieldPlace,hT.sz SL,hnz,eA,Nat.add_assoc]
     ·exact h.elim
   ·exact h.elim
  ·exact h.elim
 ·exact h.elim
theorem Qi (hT:di P ctx.tt) {t:TypeId} {i:TI} (ht:aL ctx.tt t=some i) {cs:List Cell} {off:Nat} (h:Qh i cs off k):
  ∃v,k {val:=v} /\ (∀(ρ:Env) (w:World),(part t (cs.map (Cell.ae ρ)).toArray off).run P w= .ok (v.ae ρ) w)/\ ∀Kn,(∀c∈cs,c.ok Kn)->v.ok Kn:=by
 unfold Qh at h
 split at h
 ·rename_i ha
  split at h
  ·rename_i hl
   refine ⟨_,h,fun ρ w=> ?_,fun Kn hk c hc=>hk c (List.mem_of_mem_drop (List.mem_of_mem_take hc))⟩
   simp only [part,Sem.run_bind,hT.ag ht,Result.andThen_ok,ha,if_true,hT.sz ht,Sem.run_pure,AV.ae,A0.ae,iP]
   congr 2
   simp [List.extract_toArray]
  ·exact h.elim
 ·rename_i ha
  split at h
  ·rename_i c hc
   refine ⟨_,h,fun ρ w=> ?_,fun Kn hk=>hk c (List.mem_of_getElem? hc)⟩
   simp [part,hT.ag ht,ha,hc,AV.ae,A0.ae]
  ·exact h.elim
theorem Y9 (hT:di P ctx.tt) {t:TypeId} {i:TI} (ht:aL ctx.tt t=some i) {x:AV} {f:Nat} (h:Y8 ctx i x f k):
  ∃r,aO P ctx.X hp nm (fun Kn=>x.ok Kn) (fun ρ=>Instr.field t (x.ae ρ) f) (fun ρ=>r.val.ae ρ) r/\ k r:=by
 unfold Y8 at h
 split at h
 ·rename_i fs cs hd
  split at h
  ·rename_i fd hfd
   split at h
   ·rename_i fi SL
    obtain ⟨v,hk,hrun,hok⟩:=Qi hT SL h
    refine ⟨_,aO.pure ?_,hk⟩
    intro av W ρ Kn Γ w _ hk j7 hst
    refine ⟨?_,hok Kn hk⟩
    simp [AV.ae,A0.ae,Instr.field,hT.u ht,hd,hfd,asAgg,hrun]
   ·exact h.elim
  ·exact h.elim
 ·exact h.elim
def valOf (d:TypeDesc) (cs:List Value):Option Value:=if dx d then some (.agg cs.toArray) else match cs with| [v]=>some v|_=>none
theorem yI (hT:di P ctx.tt) {t:TypeId} {i:TI} (ht:aL ctx.tt t=some i) (cs:List Value) (off:Nat) {v:Value} (hv:valOf i.desc ((cs.drop off).take i.size)=some v) (w:World):
  (part t cs.toArray off).run P w= .ok v w:=by
 unfold valOf at hv
 split at hv
 ·rename_i ha
  cases hv
  simp only [part,Sem.run_bind,hT.ag ht,Result.andThen_ok,ha,if_true,hT.sz ht,Sem.run_pure]
  congr 2
  simp [List.extract_toArray]
 ·rename_i ha
  split at hv
  ·rename_i u hu
   cases hv
   have:cs[off]? =some v:=by
    have h0:((cs.drop off).take i.size)[0]? =some v:=by rw [hu];rfl
    rw [List.getElem?_take] at h0
    split at h0
    ·rw [List.getElem?_drop] at h0;simpa using h0
    ·cases h0
   simp [part,hT.ag ht,ha,this]
  ·cases hv
theorem n9 {j:Int} {n:Nat} (h:inR j n=true):0<=j/\ j<(n:Int):=by simpa [inR] using h
theorem IY {j:Int} {K:Nat->Prop} : ∀ {i:Nat},0<=j->j<=(i:Int)->Ue j K i->K j.toNat
 |0,h0,h1,h=>by
  have:j.toNat=0:=by omega
  rw [this];exact h
 |i+1,h0,h1,h=>by
  unfold Ue at h
  by_cases e:j=((i+1:Nat):Int)
  ·rw [decide_eq_true e] at h
   have:j.toNat=i+1:=by omega
   rw [this];exact h
  ·rw [decide_eq_false e] at h
   exact IY h0 (by omega) h
theorem LA (hT:di P ctx.tt) {t:TypeId} {i:TI} (ht:aL ctx.tt t=some i) {x ix:AV} {lit:Bool} (h:B8 ctx i x ix lit hp k):
  ∃r,aO P ctx.X hp nm (fun Kn=>x.ok Kn) (fun ρ=>Instr.indexAt t (x.ae ρ) (ix.ae ρ)) (fun ρ=>r.val.ae ρ) r/\ k r:=by
 unfold B8 at h
 split at h
 ·rename_i kk j
  split at h
  ·rename_i n e hd
   split at h
   ·rename_i ei mC
    split at h
    ·rename_i m off
     obtain ⟨hj,h⟩:=bh h
     have hj:=n9 hj
     have hk:=(c7 h).2
     have hf: ∀(ρ:Env) (w:World) b,(ρ m).blk=some b->(Instr.indexAt t ((AV.v (.one (.ptr m off))).ae ρ) ((AV.v (.one (.raw (.int kk j)))).ae ρ)).run P w= .ok (.pointer (some ⟨b,off+j.toNat*ei.size,none⟩)) w:=fun ρ w b hb=>by
      rw [ow hb]
      simp [AV.ae,A0.ae,Cell.ae,Instr.indexAt,asIntOf,hT.u ht,hd,Instr.sureAddr,hj,hT.sz mC,BO]
     split at hk
     ·exact ⟨_,(lH h _ (fun Kn hk=>hk) _ hf).2,hk⟩
     ·split at hk
      ·exact ⟨_,(lH h _ (fun Kn hk=>hk) _ hf).1,IY (K:=fun q=>k {val:= .v (.one (.ptr m (off+q*ei.size))),aF:= [m]}) hj.1 (by omega) hk⟩
      ·exact ⟨_,(lH h _ (fun Kn hk=>hk) _ hf).1,hk⟩
    ·rename_i m off
     obtain ⟨hj,h⟩:=bh h
     have hj:=n9 hj
     refine ⟨_,(lH h _ (fun Kn hk=>hk) _ (fun ρ w b hb=> ?_)).2,(c7 h).2⟩
     rw [pY hb]
     simp [AV.ae,A0.ae,Cell.ae,Instr.indexAt,asIntOf,hT.u ht,hd,Instr.sureAddr,hj,hT.sz mC,BO]
    ·rename_i m jj q
     obtain ⟨hj,h⟩:=bh h
     have hj:=n9 hj
     obtain ⟨_,_,_,_,_,hk⟩:=dY h
     have hf: ∀(ρ:Env) (w:World) (a:Addr),(ρ m).base=some a->(Instr.indexAt t ((AV.v (.one (.c9 m jj q))).ae ρ) ((AV.v (.one (.raw (.int kk j)))).ae ρ)).run P w= .ok (.pointer (some (a.add (jj*(ρ m).es+(q+j.toNat*ei.size))))) w:=fun ρ w a ha=>by
      rw [iQ ha]
      simp [AV.ae,A0.ae,Cell.ae,Instr.indexAt,asIntOf,hT.u ht,hd,Instr.sureAddr,hj,hT.sz mC,eA,Nat.add_assoc]
     split at hk
     ·exact ⟨_,MB h _ (fun Kn hk=>hk) _ (fun ρ w a u _ _ ha _=>hf ρ w a ha),hk⟩
     ·exact ⟨_,acU h _ (fun Kn hk=>hk) _ (fun ρ w a u _ _ ha _=>hf ρ w a ha),hk⟩
    ·rename_i m jj q
     obtain ⟨hj,h⟩:=bh h
     have hj:=n9 hj
     obtain ⟨_,_,_,_,_,hk⟩:=dY h
     refine ⟨_,MB h _ (fun Kn hk=>hk) _ (fun ρ w a u _ _ ha _=> ?_),hk⟩
     rw [qx ha]
     simp [AV.ae,A0.ae,Cell.ae,Instr.indexAt,asIntOf,hT.u ht,hd,Instr.sureAddr,hj,hT.sz mC,eA,Nat.add_assoc]
    ·exact h.elim
   ·exact h.elim
  ·rename_i e hd
   split at h
   ·rename_i ei mC
    split at h
    ·rename_i m off len cap
     obtain ⟨hj,h⟩:=bh h
     have hj:=n9 hj
     have hk:=(c7 h).2
     have hf: ∀(ρ:Env) (w:World) b,(ρ m).blk=some b->(Instr.indexAt t ((AV.v (.one (.sl m off len cap))).ae ρ) ((AV.v (.one (.raw (.int kk j)))).ae ρ)).run P w= .ok (.pointer (some ⟨b,off+j.toNat*ei.size,none⟩)) w:=fun ρ w b hb=>by
      simp [AV.ae,A0.ae,Cell.ae,addrOf,hb,Instr.indexAt,asIntOf,hT.u ht,hd,hj,hT.sz mC,BO]
     split at hk
     ·rename_i hl1
      have hl1:len=1:=Nat.eq_of_beq_eq_true hl1
      have hj0:j.toNat=0:=by omega
      exact ⟨_,(lH h _ (fun Kn hk=>hk) _ (by intro ρ w b hb;have:=hf ρ w b hb;rwa [hj0,Nat.zero_mul,Nat.add_zero] at this)).1,hk⟩
     split at hk
     ·exact ⟨_,(lH h _ (fun Kn hk=>hk) _ hf).2,hk⟩
     ·exact ⟨_,(lH h _ (fun Kn hk=>hk) _ hf).1,hk⟩
    ·rename_i p
     obtain ⟨m,s,q,t0,l0,rk0,len,tc,he0,h,Lx,hm2,_,_,_,_,_,hall⟩:=sH h
     obtain ⟨hj,h⟩:=bh h
     have hj:=n9 hj
     obtain ⟨t1,l1,rk1,he1,hj1,hk⟩:=dY h
     rw [he0] at he1
     have he1:=Option.some.inj he1
     have hu:=rk0.2.uniq (he1▸rk1.2)
     cases hu
     split at hk
     ·rename_i hsz
      refine ⟨_,aO.pure ?_,hk⟩
      intro av W ρ Kn Γ w _ hk j7 hst
      obtain ⟨g1,g2,g3,g4,g5,g6,g7,g8⟩:=hall av W ρ Kn Γ w j7 hst
      obtain ⟨a,b,ha,hb,hab⟩:=g8 j.toNat (by omega)
      refine ⟨?_,g6⟩
      rw [iQ ha]
      simp [AV.ae,A0.ae,Cell.ae,hb,Instr.indexAt,asIntOf,hT.u ht,hd,g4,hj,hT.sz mC,hsz,hab,g2]
     ·exact hk.elim
    ·exact (bh h).2.elim
    ·exact h.elim
   ·exact h.elim
  ·exact h.elim
 ·exact h.elim
theorem at2 (s:ByteArray) (i:Nat) (h:i<s.size):s[i]=s.get! i:=by
 obtain ⟨d⟩:=s
 exact (getElem!_pos d i h).symm
theorem ZA (hT:di P ctx.tt) {t:TypeId} {i:TI} (ht:aL ctx.tt t=some i) {x ix:AV} {lit:Bool} (h:Zz ctx i x ix lit k):
  ∃r,aO P ctx.X hp nm (fun Kn=>x.ok Kn) (fun ρ=>Instr.index t (x.ae ρ) (ix.ae ρ)) (fun ρ=>r.val.ae ρ) r/\ k r:=by
 unfold Zz at h
 split at h
 ·rename_i kk j
  split at h
  ·rename_i n e cs hd
   split at h
   ·rename_i ei mC
    obtain ⟨hj,h⟩:=bh h
    have hj:=n9 hj
    have aom:Qh ei cs (j.toNat*ei.size) k-> ∃r,aO P ctx.X hp nm (fun Kn=>(AV.v (.agg cs)).ok Kn) (fun ρ=>Instr.index t ((AV.v (.agg cs)).ae ρ) ((AV.v (.one (.raw (.int kk j)))).ae ρ)) (fun ρ=>r.val.ae ρ) r/\ k r:=fun h=>by
     obtain ⟨v,hk,hrun,hok⟩:=Qi hT mC h
     refine ⟨_,aO.pure ?_,hk⟩
     intro av W ρ Kn Γ w _ hk j7 hst
     refine ⟨?_,hok Kn hk⟩
     simp [AV.ae,A0.ae,Cell.ae,Instr.index,asIntOf,hT.u ht,hd,hj,hT.sz mC,hrun]
    split at h
    ·exact aom h
    split at h
    ·rename_i ns UE
     split at h
     ·rename_i hlen
      split at h
      ·rename_i v hv
       refine ⟨_,aO.pure ?_,h⟩
       intro av W ρ Kn Γ w _ hk j7 hst
       have ecs:=iS ρ cs _ UE
       have Lw:cs.length=ns.length:=by rw [ecs];simp
       have hb:j.toNat*ei.size+ei.size<=n*ei.size:=by rw [<- Nat.succ_mul];exact Nat.mul_le_mul_right _ (by omega)
       have aQ:sK ns (j.toNat*ei.size) ei.size=(cs.drop (j.toNat*ei.size)).take ei.size:=by rw [zG _ _ _ (by omega),<- ecs]
       rw [aQ] at hv
       have hrun:(part e (cs.map (Cell.ae ρ)).toArray (j.toNat*ei.size)).run P w= .ok (v.ae ρ) w:=by
        refine yI hT mC _ _ ?_ w
        unfold yh at hv
        unfold valOf
        split at hv
        ·rename_i ha
         cases hv
         rw [if_pos ha];simp [AV.ae,A0.ae,List.map_take,List.map_drop]
        ·rename_i ha
         rw [if_neg ha]
         split at hv
         ·rename_i c hc
          cases hv
          have:=congrArg (List.map (Cell.ae ρ)) hc
          simp only [List.map_take,List.map_drop,List.map_cons,List.map_nil] at this
          rw [this];rfl
         ·cases hv
       refine ⟨?_,?_⟩
       ·simp [AV.ae,A0.ae,Cell.ae,Instr.index,asIntOf,hT.u ht,hd,hj,hT.sz mC] at hrun ⊢
        exact hrun
       ·have hall: ∀c∈(cs.drop (j.toNat*ei.size)).take ei.size,c.ok Kn:=fun c hc=>hk c (List.mem_of_mem_drop (List.mem_of_mem_take hc))
        unfold yh at hv
        split at hv
        ·cases hv;exact hall
        ·split at hv
         ·rename_i c hc;cases hv;exact hall c (by rw [hc];simp)
         ·cases hv
      ·exact h.elim
     ·exact h.elim
    ·exact aom h
   ·exact h.elim
  ·rename_i s hd
   obtain ⟨hj,h⟩:=bh h
   have hj:=n9 hj
   refine ⟨_,aO.pure ?_,h⟩
   intro av W ρ Kn Γ w _ hk j7 hst
   refine ⟨?_,trivial⟩
   have hlt:j.toNat<s.size:=by omega
   have e1:s[j.toNat]? =some (s.get! j.toNat):=by
    rw [getElem?_pos s j.toNat hlt]
    simp only [Option.some.injEq]
    exact at2 s _ hlt
   simp [AV.ae,A0.ae,Cell.ae,Instr.index,asIntOf,hT.u ht,hd,hj.1,e1,iA]
  ·exact h.elim
 ·exact h.elim
def CT (P:Program) (b:Option AV) (top dflt m:Nat):Prop:=match b with
 |none=>m=dflt
 |some v=> ∀(ρ:Env) (c:BoundsCode) (w:World),(Instr.sliceBound (v.ae ρ) top c).run P w= .ok m w
theorem cH {b:Option AV} {top dflt:Nat} {kk:Nat->Prop} (h:uU b top dflt kk): ∃m,kk m/\ (dflt<=top->m<=top)/\ ∀top',top<=top'->CT P b top' dflt m:=by
 unfold uU at h
 split at h
 ·exact ⟨_,h,fun h=>h,fun _ _=>rfl⟩
 ·obtain ⟨h1,h2⟩:=bh h
  simp only [Bool.and_eq_true,decide_eq_true_eq] at h1
  exact ⟨_,h2,fun _=>by omega,fun top' ht ρ c w=>by simp only [AV.ae,A0.ae,Cell.ae,Instr.sliceBound,asIntOf,Sem.run_bind,Sem.run_pure,Result.andThen_ok];rw [if_pos (by omega)];rfl⟩
 ·exact h.elim
theorem kQ {isS:Bool} {len cap:Nat} {lo hi mx:Option AV} {c h l:Nat} (hm:CT P mx cap cap c) (hh:CT P hi (if mx.isSome then c else cap) len h) (hl:CT P lo h 0 l)
  (hmh:mx.isSome=true->hi.isSome=true) (ρ:Env) (w:World):
  (Instr.sliceBounds isS len cap (lo.map (AV.ae ρ)) (hi.map (AV.ae ρ)) (mx.map (AV.ae ρ))).run P w= .ok (l,h,c) w:=by
 unfold Instr.sliceBounds
 cases mx with
 |none=>
  have hc:c=cap:=hm
  subst hc
  cases hi with
  |none=>
   have:h=len:=hh
   subst this
   cases lo with
   |none=>have:l=0:=hl;subst this;simp
   |some v=>simp [hl ρ]
  |some v=>
   have YE: ∀(ρ:Env) (cc:BoundsCode) (w:World),(Instr.sliceBound (v.ae ρ) c cc).run P w= .ok h w:=hh
   cases lo with
   |none=>have:l=0:=hl;subst this;simp [YE ρ]
   |some v=>simp [YE ρ,hl ρ]
 |some mv=>
  have hm': ∀(ρ:Env) (cc:BoundsCode) (w:World),(Instr.sliceBound (mv.ae ρ) cap cc).run P w= .ok c w:=hm
  cases hi with
  |none=>exact absurd (hmh rfl) (by simp)
  |some v=>
   have YE: ∀(ρ:Env) (cc:BoundsCode) (w:World),(Instr.sliceBound (v.ae ρ) c cc).run P w= .ok h w:=hh
   cases lo with
   |none=>have:l=0:=hl;subst this;simp [hm' ρ,YE ρ]
   |some v=>simp [hm' ρ,YE ρ,hl ρ]
theorem YN (ρ:Env) (n off m:Nat):(addrOf ρ n off).map (·.add m)=addrOf ρ n (off+m):=by
 unfold addrOf;cases (ρ n).blk<;>simp [BO]
theorem ae9 (s:Option Nat) (j:Nat):iD s j=iD s 0+j:=by cases s<;>simp [iD]
theorem L7 (hT:di P ctx.tt) {t:TypeId} {i ei:TI} {e:TypeId} (ht:aL ctx.tt t=some i) (hd:i.desc= .slice e) (mC:aL ctx.tt e=some ei) {p m:Nat} {s q':Option Nat} {len h' l':Nat} {tc:List Nat} {lo hi mx:Option AV} {u:Ty} {l:List u.T} {rk:Nat}
  (he:hp m=some (.row u l rk)) (hm:m∈tc) (hlen:len<=l.length- iD s 0) (hsz:ei.size=u.size)
  (hall: ∀av W ρ Kn Γ w,(∀m∈tc,Γ m=hp m)->St av W ρ Kn Γ w->(ρ m).len=l.length/\ (ρ m).es=u.size/\ (ρ p).es=u.size/\ (ρ p).len=len/\ len<=(ρ p).cap/\ Kn m/\ Kn p/\ ∀j,j<len-> ∃a b,(ρ m).base=some a/\ (ρ p).base=some b/\ b.add (j*u.size)=a.add (iD s j*u.size))
  (hb: ∀cap,len<=cap-> ∃c,h'<=c/\ c<=cap/\ CT P mx cap cap c/\ CT P hi (if mx.isSome then c else cap) len h') (hmh:mx.isSome=true->hi.isSome=true) (hhl:h'<=len) (hll:l'<=h') (hl:CT P lo h' 0 l') (hq:fT l.length (iD s l') q'=h'- l'):
  aO P ctx.X hp nm (fun Kn=>(AV.v (.one (.full p))).ok Kn) (fun ρ=>Instr.sliceAt t ((AV.v (.one (.full p))).ae ρ) (lo.map (AV.ae ρ)) (hi.map (AV.ae ρ)) (mx.map (AV.ae ρ))) (fun ρ=>(AV.v (.one (.full nm))).ae ρ) {val:= .v (.one (.full nm)),fresh:= [.alias m (iD s l') q'],aF:=tc} :=by
 refine ⟨fun p hp=>absurd hp (by simp),?_⟩
 intro av W ρ Kn Γ w _ _ j7 hfr hst
 obtain ⟨g1,g2,g3,g4,g5,g6,g7,g8⟩:=hall av W ρ Kn Γ w j7 hst
 have hn: ¬Kn nm:=by simpa using hfr 0 (by simp)
 obtain ⟨c,hc1,hc2,hb0,gy⟩:=hb _ g5
 have hmn:m≠nm:=by rintro rfl;exact hn g6
 let x:Loc:= {blk:=none,base:=if c=l' then (ρ p).base else (ρ p).base.map (·.add (l'*ei.size)),len:=h'- l',cap:=c- l',es:=u.size}
 have hx:bA ρ nm x nm=x:=by simp [bA]
 have Hu:bA ρ nm x m=ρ m:=by simp [bA,hmn]
 refine ⟨bA ρ nm x,w,?_,jL hn,.inr (by simp),?_⟩
 ·have hbd:=kQ (P:=P) (isS:=true) (len:=len) (cap:=(ρ p).cap) hb0 gy hl hmh ρ w
  show (Instr.sliceAt t (.slice (ρ p).base (ρ p).len (ρ p).cap) (lo.map (AV.ae ρ)) (hi.map (AV.ae ρ)) (mx.map (AV.ae ρ))).run P w= .ok (.slice (bA ρ nm x nm).base (bA ρ nm x nm).len (bA ρ nm x nm).cap) w
  rw [hx,g4]
  simp only [Instr.sliceAt,Sem.run_bind,hT.u ht,Result.andThen_ok,hd,Instr.slice,hbd,hT.sz mC,Sem.run_pure]
  rfl
 ·rw [JQ]
  have ea:bV {val:= .v (.one (.full nm)),fresh:= [.alias m (iD s l') q'],aF:=tc} nm Γ=fO Γ nm (.alias m (iD s l') q'):=by
   funext z;simp only [bV,fO,List.length_singleton,cm]
   by_cases h:z=nm
   ·subst h;simp [live]
   ·have: ¬(nm≤z∧z<nm+1):=by omega
    simp [h,this]
  rw [ea]
  refine hst.swap (G:= []) (o:= .alias m (iD s l') q') (x:=x) hn hst.fr (fun _ _ _=>rfl) (fun b hb=>by cases hb) (fun z o hz=> ?_) (.inl g6) (fun _ h=>by cases h) fun _ _=> ?_
  ·unfold fO at hz
   split at hz
   ·rename_i e1;cases hz;exact .inl ⟨e1,rfl⟩
   ·rename_i e1;exact .inr ⟨e1,by simp,hz⟩
  ·rw [bp,hx,Hu]
   refine ⟨rfl,?_,g2.symm,?_,fun hlt=> ?_⟩
   ·rw [g1,hq]
   ·show h'- l'<=c- l';omega
   ·have hlt:h'- l'≠0:=hlt
    have hne:c≠l':=by omega
    show (if c=l' then _ else _)=_
    rw [if_neg hne]
    obtain ⟨a,b,ha,hb',hab⟩:=g8 l' (by omega)
    rw [ha,hb']
    simp only [Option.map_some,Option.some.injEq,hsz,hab,g2]
theorem Fq {p:Nat} {l:List Int} (h:J7 hp p=some l):hp p=some (.row (.int .i64) l 3):=by
 unfold J7 at h
 split at h
 ·rename_i l' he
  cases h;exact he
 ·cases h
theorem NN (sub:Nat->Option Addr×Nat): ∀(l:List Int) (q:Nat),aJ sub q (ay (.int .i64) l)=l.map (Value.int .i64)
 | [],_=>rfl
 |x::r,q=>by
  have:aJ sub q (ay (.int .i64) (x::r))=Value.int .i64 x::aJ sub (q+1) (ay (.int .i64) r):=rfl
  rw [this,NN sub r (q+1)];rfl
theorem akv (hT:di P ctx.tt) {t:TypeId} {i ei:TI} {e:TypeId} (ht:aL ctx.tt t=some i) (hd:i.desc= .slice e) (mC:aL ctx.tt e=some ei) {p lv:Nat} {l0:List Int} {lo:Option AV} (he:hp p=some (.row (.int .i64) l0 3)) (hsz:ei.size=1) (hl:lv<=l0.length) (hb:CT P lo l0.length 0 lv):
  aO P ctx.X hp nm (fun Kn=>(AV.v (.one (.full p))).ok Kn) (fun ρ=>Instr.sliceAt t ((AV.v (.one (.full p))).ae ρ) (lo.map (AV.ae ρ)) none none) (fun ρ=>(AV.v (.one (.full nm))).ae ρ) {val:= .v (.one (.full nm)),fresh:= [.row (.int .i64) (l0.drop lv) 3],writes:= [(p,.gone)],aF:= [p]} :=by
 refine ⟨fun q hq=>by simp only [List.mem_singleton] at hq;subst hq;rw [he];simp,?_⟩
 intro av W ρ Kn Γ w _ _ j7 hfr hst
 have hn: ¬Kn nm:=by simpa using hfr 0 (by simp)
 have bQ:Γ p=some (.row (.int .i64) l0 3):=by rw [j7 p (by simp),he]
 obtain ⟨o1,o2,o3,sub,m1,m2,m3,m4⟩:=hst.at_ p _ bQ
 have m4:=m4 (by decide)
 rw [NN] at m1 m4
 let x:Loc:= {blk:=if (ρ p).cap=lv then none else (ρ p).blk,base:=if (ρ p).cap=lv then (ρ p).base else (ρ p).base.map (·.add (lv*ei.size)),len:=l0.length- lv,cap:=(ρ p).cap- lv,es:=1}
 have hx:bA ρ nm x nm=x:=by simp [bA]
 have Oj: ∀(b q j:Nat),(⟨b,q,none⟩:Addr).add j=⟨b,q+j,none⟩:=fun b q j=>by unfold Addr.add;split<;>simp_all
 refine ⟨bA ρ nm x,w,?_,jL hn,.inr (by simp),?_⟩
 ·have hbd:=kQ (P:=P) (isS:=true) (len:=l0.length) (cap:=(ρ p).cap) (lo:=lo) (hi:=none) (mx:=none) (c:=(ρ p).cap) rfl rfl hb (by simp) ρ w
  simp only [Option.map_none] at hbd
  show (Instr.sliceAt t (.slice (ρ p).base (ρ p).len (ρ p).cap) (lo.map (AV.ae ρ)) none none).run P w= .ok (.slice (bA ρ nm x nm).base (bA ρ nm x nm).len (bA ρ nm x nm).cap) w
  rw [hx,o1]
  simp only [Instr.sliceAt,Sem.run_bind,hT.u ht,Result.andThen_ok,hd,Instr.slice,hbd,hT.sz mC,Sem.run_pure]
  rfl
 ·rw [show oI Kn nm {val:=AV.v (.one (.full nm)),fresh:= [aD.row (.int .i64) (l0.drop lv) 3],writes:= [(p,.gone)],aF:= [p]} =Ob Kn nm by
   funext m;simp only [oI,Ob,List.length_singleton];congr 1;apply propext;omega]
  refine hst.swap (G:= [p]) (o:=aD.row (.int .i64) (l0.drop lv) 3) (x:=x) hn hst.fr (fun _ _ _=>rfl) (fun b hb=> ?_) (fun m q hq=> ?_) trivial (fun _ h=>by cases h) fun _ _=> ?_
  ·have hb:(if (ρ p).cap=lv then none else (ρ p).blk)=some b:=hb
   split at hb
   ·cases hb
   ·exact ⟨.inr ⟨p,by simp,by rw [bQ];rfl,hb⟩,hst.own p b (by rw [bQ];rfl) hb⟩
  ·simp only [bV,List.length_singleton,cm] at hq
   by_cases h6:nm<=m/\ m<nm+1
   ·rw [if_pos h6,show m- nm=0 by omega] at hq
    simp only [List.getElem?_cons_zero,live,Option.some.injEq] at hq
    exact .inl ⟨by omega,hq.symm⟩
   ·rw [if_neg h6] at hq
    by_cases h7:m=p
    ·subst h7;simp [live] at hq
    ·refine .inr ⟨by omega,by simpa using h7,?_⟩
     simpa [Ne.symm h7,h7] using hq
  ·have hlen:(l0.drop lv).length=l0.length- lv:=List.length_drop
   rw [bp,hx]
   refine ⟨hlen.symm,rfl,?_,fun _=>(none,0),fun i v hv=> ?_,fun q u' l' hq=> ?_,fun e=>(by cases e),fun _=> ?_⟩
   ·show (l0.drop lv).length≤(ρ p).cap- lv
    omega
   ·rw [NN,List.map_drop,List.getElem?_drop] at hv
    obtain ⟨a,h1,h2,_⟩:=m1 (lv+i) v hv
    have hlt:=(List.getElem?_eq_some_iff.1 hv).1
    rw [List.length_map] at hlt
    have hne:(ρ p).cap≠lv:=by omega
    refine ⟨a.add lv,?_,?_,fun e=>by cases e⟩
    ·show (if (ρ p).cap=lv then _ else _)=_
     rw [if_neg hne,h1,hsz,Nat.mul_one];rfl
    ·rw [Addr.add_add];exact h2
   ·exfalso
    have: ∀(l:List Int) (q:Nat),(ay (.int .i64) l)[q]? ≠some (.sl u' l'):=by
     intro l
     induction l with
     |nil=>intro q h;simp [ay] at h
     |cons y r ih=>
      intro q h
      have e:ay (.int .i64) (y::r)= .flat (.int .i64 y)::ay (.int .i64) r:=rfl
      rw [e] at h
      cases q with
      |zero=>cases h
      |succ q=>exact ih q (by simpa using h)
    exact this _ _ hq
   ·rw [NN]
    rcases m4 with ⟨h1,h2,h3,_⟩|⟨b,pre,rest,e0,h1,h2,h3,h4,h5,_⟩
    ·have h0:(l0.drop lv).length=0:=by omega
     exact .inl ⟨by show (if (ρ p).cap=lv then none else (ρ p).blk)=none;rw [h1];split<;>rfl,h0,by show (ρ p).cap- lv=0;omega,fun q=>absurd rfl q⟩
    ·by_cases hne:(ρ p).cap=lv
     ·exact .inl ⟨by show (if (ρ p).cap=lv then none else (ρ p).blk)=none;rw [if_pos hne],by omega,by show (ρ p).cap- lv=0;omega,fun q=>absurd rfl q⟩
     ·refine .inr ⟨b,pre++(l0.take lv).map (Value.int .i64),rest,e0,by show (if (ρ p).cap=lv then none else (ρ p).blk)=some b;rw [if_neg hne,h1],?_,?_,?_,by show (ρ p).cap- lv≤_;omega,fun q=>absurd rfl q⟩
      ·show (if (ρ p).cap=lv then _ else _)=_
       rw [if_neg hne,h2,hsz,Nat.mul_one,Option.map_some,Oj,List.length_append,List.length_map,List.length_take,Nat.min_eq_left hl]
      ·rw [h3]
       congr 3
       rw [List.append_assoc,<- List.append_assoc (List.map _ _),<- List.map_append,List.take_append_drop]
      ·have:(ρ p).cap*1=_:=h4
       show ((ρ p).cap- lv)*1=_
       simp only [List.length_append,List.length_map,List.length_drop] at this ⊢
       omega
theorem aih (hT:di P ctx.tt) {t:TypeId} {i ei:TI} {e:TypeId} (ht:aL ctx.tt t=some i) (hd:i.desc= .slice e) (mC:aL ctx.tt e=some ei) {p hv:Nat} {l0:List Int} {hi:Option AV} (he:hp p=some (.row (.int .i64) l0 3)) (hsz:ei.size=1) (hl:hv<=l0.length) (hb: ∀cap,l0.length<=cap->CT P hi cap l0.length hv):
  aO P ctx.X hp nm (fun Kn=>(AV.v (.one (.full p))).ok Kn) (fun ρ=>Instr.sliceAt t ((AV.v (.one (.full p))).ae ρ) none (hi.map (AV.ae ρ)) none) (fun ρ=>(AV.v (.one (.full nm))).ae ρ) {val:= .v (.one (.full nm)),fresh:= [.row (.int .i64) (l0.take hv) 3],writes:= [(p,.gone)],aF:= [p]} :=by
 refine ⟨fun q hq=>by simp only [List.mem_singleton] at hq;subst hq;rw [he];simp,?_⟩
 intro av W ρ Kn Γ w _ _ j7 hfr hst
 have hn: ¬Kn nm:=by simpa using hfr 0 (by simp)
 have bQ:Γ p=some (.row (.int .i64) l0 3):=by rw [j7 p (by simp),he]
 obtain ⟨o1,o2,o3,sub,m1,m2,m3,m4⟩:=hst.at_ p _ bQ
 have m4:=m4 (by decide)
 rw [NN] at m1 m4
 let x:Loc:= {blk:=(ρ p).blk,base:=(ρ p).base,len:=hv,cap:=(ρ p).cap,es:=1}
 have hx:bA ρ nm x nm=x:=by simp [bA]
 have Oj: ∀(b q j:Nat),(⟨b,q,none⟩:Addr).add j=⟨b,q+j,none⟩:=fun b q j=>by unfold Addr.add;split<;>simp_all
 refine ⟨bA ρ nm x,w,?_,jL hn,.inr (by simp),?_⟩
 ·have hbd:=kQ (P:=P) (isS:=true) (len:=l0.length) (cap:=(ρ p).cap) (lo:=none) (hi:=hi) (mx:=none) (c:=(ρ p).cap) rfl (hb _ o3) rfl (by simp) ρ w
  simp only [Option.map_none] at hbd
  show (Instr.sliceAt t (.slice (ρ p).base (ρ p).len (ρ p).cap) none (hi.map (AV.ae ρ)) none).run P w= .ok (.slice (bA ρ nm x nm).base (bA ρ nm x nm).len (bA ρ nm x nm).cap) w
  rw [hx,o1]
  simp only [Instr.sliceAt,Sem.run_bind,hT.u ht,Result.andThen_ok,hd,Instr.slice,hbd,hT.sz mC,Sem.run_pure]
  rw [Nat.zero_mul,Nat.sub_zero,Nat.sub_zero]
  have h00:(if (ρ p).cap=0 then (ρ p).base else Option.map (fun a:Addr=>a.add 0) (ρ p).base)=(ρ p).base:=by
   split
   ·rfl
   ·cases (ρ p).base with
    |none=>rfl
    |some a=>simp [Addr.add]
  rw [h00]
 ·rw [show oI Kn nm {val:=AV.v (.one (.full nm)),fresh:= [aD.row (.int .i64) (l0.take hv) 3],writes:= [(p,.gone)],aF:= [p]} =Ob Kn nm by
   funext m;simp only [oI,Ob,List.length_singleton];congr 1;apply propext;omega]
  refine hst.swap (G:= [p]) (o:=aD.row (.int .i64) (l0.take hv) 3) (x:=x) hn hst.fr (fun _ _ _=>rfl) (fun b hb=> ?_) (fun m q hq=> ?_) trivial (fun _ h=>by cases h) fun _ _=> ?_
  ·exact ⟨.inr ⟨p,by simp,by rw [bQ];rfl,hb⟩,hst.own p b (by rw [bQ];rfl) hb⟩
  ·simp only [bV,List.length_singleton,cm] at hq
   by_cases h6:nm<=m/\ m<nm+1
   ·rw [if_pos h6,show m- nm=0 by omega] at hq
    simp only [List.getElem?_cons_zero,live,Option.some.injEq] at hq
    exact .inl ⟨by omega,hq.symm⟩
   ·rw [if_neg h6] at hq
    by_cases h7:m=p
    ·subst h7;simp [live] at hq
    ·refine .inr ⟨by omega,by simpa using h7,?_⟩
     simpa [Ne.symm h7,h7] using hq
  ·have hlen:(l0.take hv).length=hv:=by rw [List.length_take];omega
   rw [bp,hx]
   refine ⟨hlen.symm,rfl,?_,fun _=>(none,0),fun i v hv'=> ?_,fun q u' l' hq=> ?_,fun e=>(by cases e),fun _=> ?_⟩
   ·show (l0.take hv).length≤(ρ p).cap
    omega
   ·rw [NN,List.map_take,List.getElem?_take] at hv'
    split at hv'
    ·obtain ⟨a,h1,h2,_⟩:=m1 i v hv'
     exact ⟨a,h1,h2,fun e=>by cases e⟩
    ·cases hv'
   ·exfalso
    have: ∀(l:List Int) (q:Nat),(ay (.int .i64) l)[q]? ≠some (.sl u' l'):=by
     intro l
     induction l with
     |nil=>intro q h;simp [ay] at h
     |cons y r ih=>
      intro q h
      have e:ay (.int .i64) (y::r)= .flat (.int .i64 y)::ay (.int .i64) r:=rfl
      rw [e] at h
      cases q with
      |zero=>cases h
      |succ q=>exact ih q (by simpa using h)
    exact this _ _ hq
   ·rw [NN]
    rcases m4 with ⟨h1,h2,h3,_⟩|⟨b,pre,rest,e0,h1,h2,h3,h4,h5,_⟩
    ·exact .inl ⟨h1,by omega,h3,fun q=>absurd rfl q⟩
    ·refine .inr ⟨b,pre,(l0.drop hv).map (Value.int .i64)++rest,e0,h1,h2,?_,?_,h5,fun q=>absurd rfl q⟩
     ·have e:(l0.take hv).map (Value.int .i64)++(l0.drop hv).map (Value.int .i64)=l0.map (Value.int .i64):=by rw [←List.map_append,List.take_append_drop]
      rw [h3,<- e]
      simp only [List.append_assoc]
     ·have:(ρ p).cap*1=_:=h4
      show (ρ p).cap*1=_
      simp only [List.length_append,List.length_map,List.length_drop,List.length_take] at this ⊢
      omega
theorem aa2 (hT:di P ctx.tt) {t:TypeId} {i:TI} (ht:aL ctx.tt t=some i) {x:AV} {lo hi mx:Option AV} (h:aa1 ctx i x lo hi mx hp nm k):
  ∃r,aO P ctx.X hp nm (fun Kn=>x.ok Kn) (fun ρ=>Instr.sliceAt t (x.ae ρ) (lo.map (AV.ae ρ)) (hi.map (AV.ae ρ)) (mx.map (AV.ae ρ))) (fun ρ=>r.val.ae ρ) r/\ k r:=by
 unfold aa1 at h
 split at h
 ·rename_i n e hd
  split at h
  ·rename_i ei m off mC
   obtain ⟨hv,h,_,gy⟩:=cH (P:=P) h
   obtain ⟨lv,h,_,dR⟩:=cH (P:=P) h
   obtain ⟨⟨o,ho,dS⟩,hk⟩:=c7 h
   refine ⟨_,aO.pure ?_,hk⟩
   intro av W ρ Kn Γ w _ hk j7 hst
   obtain ⟨b,hb⟩:=dS _ _ ρ w (hst.at_ m o (by rw [j7 m (by simp),ho]))
   refine ⟨?_,hk⟩
   rw [ow hb]
   have hbd:=kQ (P:=P) (isS:=false) (len:=n) (cap:=n) (lo:=lo) (hi:=hi) (mx:=none) (c:=n) rfl (gy _ (Nat.le_refl _)) (dR _ (Nat.le_refl _)) (by simp) ρ w
   simp only [Option.map_none] at hbd
   simp only [Instr.sliceAt,Sem.run_bind,hT.u ht,Result.andThen_ok,hd,Instr.sureAddr,Sem.run_pure,Option.map_none,hbd,hT.sz mC,AV.ae,A0.ae,Cell.ae,addrOf,hb,Option.map_some]
   split<;>simp [BO]
  ·exact h.elim
 ·rename_i e hd
  split at h
  ·rename_i ei m off len cap mC
   obtain ⟨cv,h,_,hb0⟩:=cH (P:=P) h
   obtain ⟨hv,h,_,gy⟩:=cH (P:=P) h
   obtain ⟨lv,h,_,dR⟩:=cH (P:=P) h
   split at h
   ·exact h.elim
   rename_i hmh
   refine ⟨_,aO.pure ?_,h⟩
   intro av W ρ Kn Γ w _ hk j7 hst
   refine ⟨?_,hk⟩
   have hbd:=kQ (P:=P) (isS:=true) (hb0 _ (Nat.le_refl _)) (gy _ (Nat.le_refl _)) (dR _ (Nat.le_refl _)) (fun h1=>by
    cases hi with
    |none=>simp [h1] at hmh
    |some a=>rfl) ρ w
   simp only [Instr.sliceAt,Sem.run_bind,hT.u ht,Result.andThen_ok,hd,Instr.slice,hbd,hT.sz mC,AV.ae,A0.ae,Cell.ae,Sem.run_pure]
   split<;>simp [YN]
  ·rename_i ei p mC
   obtain ⟨m,s,q,u,l,rk,len,tc,he,h,Lx,hm2,_,hq0,hlen,hpn,_,hall⟩:=sH h
   obtain ⟨u',l',rk',he',hsz,h⟩:=Yy h
   rw [he] at he'
   have Pr:=Option.some.inj he'
   have hu:=CU.row (Pr▸rk.2)
   cases hu
   rw [Pr] at he
   have hz:=ae9 s
   split at h
   ·split at h
    ·split at h
     ·rename_i l0 htl
      have hr:=Fq htl
      obtain ⟨lv,h,hlv,dR⟩:=cH (P:=P) h
      have hu1:ei.size=1:=by
       rcases hpn with e|⟨s',e⟩
       ·rw [←e,hr] at he
        cases he
        exact hsz
       ·rw [hr] at e;cases e
      exact ⟨_,akv hT ht hd mC hr hu1 (hlv (Nat.zero_le _)) (dR _ (Nat.le_refl _)),h⟩
     obtain ⟨lv,h,hlv,dR⟩:=cH (P:=P) h
     refine ⟨_,L7 (h':=len) (l':=lv) hT ht hd mC he Lx hlen hsz hall (fun cap hcap=>⟨cap,hcap,Nat.le_refl _,rfl,rfl⟩) (by simp) (Nat.le_refl _) (hlv (Nat.zero_le _)) (dR _ (Nat.le_refl _)) ?_,h⟩
     have:=hlv (Nat.zero_le _)
     have h1:=hz lv
     cases q with
     |none=>have:=hq0 rfl;simp only [Option.map_none,fT];omega
     |some q=>simp only [Option.map_some,fT];omega
    ·rename_i hv0
     split at h
     ·rename_i l0 htl _
      have hr:=Fq htl
      obtain ⟨hv,h,hhv,gy⟩:=cH (P:=P) h
      have hu1:ei.size=1:=by
       rcases hpn with e|⟨s',e⟩
       ·rw [←e,hr] at he
        cases he
        exact hsz
       ·rw [hr] at e;cases e
      exact ⟨_,aih hT ht hd mC hr hu1 (hhv (Nat.le_refl _)) (fun cap hc=>gy _ hc),h⟩
     obtain ⟨hv,h,hhv,gy⟩:=cH (P:=P) h
     obtain ⟨lv,h,hlv,dR⟩:=cH (P:=P) h
     have:=hlv (Nat.zero_le _)
     have h2:=hhv (Nat.le_refl _)
     refine ⟨_,L7 (h':=hv) (l':=lv) hT ht hd mC he Lx hlen hsz hall (fun cap hcap=>⟨cap,by omega,Nat.le_refl _,rfl,gy _ hcap⟩) (by simp) h2 this (dR _ (Nat.le_refl _)) ?_,h⟩
     have h1:=hz lv
     simp only [fT];omega
   ·rename_i mx0
    obtain ⟨cv,h,hcv,hb0⟩:=cH (P:=P) h
    obtain ⟨hv,hg1,hhv,gy⟩:=cH (P:=P) h
    obtain ⟨lv,hg2,hlv,dR⟩:=cH (P:=P) hg1
    split at hg2
    ·exact hg2.elim
    rename_i hmh
    clear h hg1
    have:=hlv (Nat.zero_le _)
    have h2:=hhv (Nat.zero_le _)
    have h3:=hcv (Nat.le_refl _)
    obtain ⟨hi0,rfl⟩: ∃a,hi=some a:=by
     cases hi with
     |none=>exact absurd rfl hmh
     |some a=>exact ⟨a,rfl⟩
    refine ⟨_,L7 (h':=hv) (l':=lv) hT ht hd mC he Lx hlen hsz hall (fun cap hcap=>⟨cv,h2,by omega,hb0 _ hcap,gy _ (Nat.le_refl _)⟩) (by simp) (by omega) this (dR _ (Nat.le_refl _)) ?_,hg2⟩
    have h1:=hz lv
    simp only [fT];omega
  ·rename_i ei c mC
   split at h
   ·obtain ⟨hv,h,_,gy⟩:=cH (P:=P) h
    obtain ⟨lv,hg2,_,dR⟩:=cH (P:=P) h
    split at hg2
    ·rename_i hc
     clear h
     obtain ⟨rfl,rfl,rfl⟩:=hc
     refine ⟨_,aO.pure ?_,hg2⟩
     intro av W ρ Kn Γ w _ hk j7 hst
     refine ⟨?_,trivial⟩
     have hbd:=kQ (P:=P) (isS:=true) (len:=0) (cap:=0) (lo:=lo) (hi:=hi) (mx:=none) (c:=0) rfl (gy _ (Nat.le_refl _)) (dR _ (Nat.le_refl _)) (by simp) ρ w
     simp only [Option.map_none] at hbd
     simp [Instr.sliceAt,hT.u ht,hd,Instr.slice,hbd,hT.sz mC,AV.ae,A0.ae,Cell.ae]
    ·exact hg2.elim
   ·exact h.elim
  ·exact h.elim
 ·rename_i hd
  split at h
  ·rename_i s
   obtain ⟨hv,h,_,gy⟩:=cH (P:=P) h
   obtain ⟨lv,h,_,dR⟩:=cH (P:=P) h
   refine ⟨_,aO.pure ?_,h⟩
   intro av W ρ Kn Γ w _ hk j7 hst
   refine ⟨?_,trivial⟩
   have hbd:=kQ (P:=P) (isS:=false) (len:=s.size) (cap:=s.size) (lo:=lo) (hi:=hi) (mx:=none) (c:=s.size) rfl (gy _ (Nat.le_refl _)) (dR _ (Nat.le_refl _)) (by simp) ρ w
   simp only [Option.map_none] at hbd
   simp [Instr.sliceAt,hT.u ht,hd,Instr.slice,hbd,AV.ae,A0.ae,Cell.ae]
  ·exact h.elim
 ·exact h.elim
theorem K9 (hT:di P ctx.tt): ∀(d:Nat) (t:TypeId) (xs ys:List Cell) (b:Bool),eqE ctx.tt d t xs ys=some b-> ∀(D:Nat),d<=D-> ∀(ρ:Env) (w:World),
  ∃i,aL ctx.tt t=some i/\ ∃u v,valOf i.desc (xs.map (Cell.ae ρ))=some u/\ valOf i.desc (ys.map (Cell.ae ρ))=some v/\ (Op.equalIn D t u v).run P w= .ok b w
 |0,_,_,_,_,h,_,_,_,_=>by simp [eqE] at h
 |d+1,t,xs,ys,b,h,D,hD,ρ,w=>by
  obtain ⟨D,rfl⟩: ∃D',D=D'+1:=⟨D- 1,by omega⟩
  simp only [eqE] at h
  split at h
  ·cases h
  ·rename_i i hi
   refine ⟨i,hi,?_⟩
   have hu:=(hT t i hi).1
   split at h
   ·rename_i k0 hd
    split at h
    ·rename_i k1 a k2 b'
     split at h
     ·rename_i hk;subst hk
      cases h
      refine ⟨.int k1 a,.int k1 b',by simp [valOf,hd,dx,Cell.ae],by simp [valOf,hd,dx,Cell.ae],?_⟩
      exact run_equalIn_int w D t k1 k0 a b' (by rw [hu,hd])
     ·cases h
    ·cases h
   ·rename_i hd
    split at h
    ·rename_i a b'
     cases h
     refine ⟨.bool a,.bool b',by simp [valOf,hd,dx,Cell.ae],by simp [valOf,hd,dx,Cell.ae],?_⟩
     exact run_equalIn_bool' w D t a b' (by rw [hu,hd])
    ·cases h
   ·rename_i hd
    split at h
    ·rename_i a b'
     cases h
     refine ⟨.string a,.string b',by simp [valOf,hd,dx,Cell.ae],by simp [valOf,hd,dx,Cell.ae],?_⟩
     rw [run_equalIn_string w D t a b' (by rw [hu,hd]),beq_toListBytes]
    ·cases h
   ·rename_i fs hd
    refine ⟨.agg (xs.map (Cell.ae ρ)).toArray,.agg (ys.map (Cell.ae ρ)).toArray,by simp [valOf,hd,dx],by simp [valOf,hd,dx],?_⟩
    have hfs:P.underlying t=some (.struct (P.fieldsOf t)):=by
     have e0:P.underlying t=some (.struct fs):=by rw [hu,hd]
     rw [e0];simp [Program.fieldsOf,e0]
    have hfo:P.fieldsOf t=fs:=by
     have e0:P.underlying t=some (.struct fs):=by rw [hu,hd]
     simp [Program.fieldsOf,e0]
    have sP:P.stoodInHeld t=false:=by
     obtain ⟨_,_,inf,_,_,_,_,hh⟩:=hT t i hi
     exact (hh (by rw [hd];rfl)).1
    rw [run_equalIn_struct w D t _ _ hfs sP,hfo]
    generalize fs.toList=l at h
    clear hfs hfo hd hu
    induction l generalizing b with
    |nil=>simp only [eqFields,Option.some.injEq] at h;subst h;simp [Op.eqFields]
    |cons f r ih=>
     simp only [eqFields] at h
     split at h
     ·cases h
     ·rename_i fi SL
      split at h
      ·cases h
      ·rename_i hnm
       split at h
       ·rename_i b1 b2 h1 h2
        cases h
        obtain ⟨fi',ar2,u,v,hu1,hv1,hr⟩:=K9 hT d f.type _ _ b1 h1 D (by omega) ρ w
        rw [SL] at ar2;cases ar2
        rw [iP] at hu1 hv1
        simp only [Op.eqFields,ne_eq,hnm,not_false_eq_true,if_true,Sem.run_bind,yI hT SL _ _ hu1,yI hT SL _ _ hv1,Result.andThen_ok,hr]
        cases b1 with
        |true=>simpa using ih b2 h2
        |false=>simp
       ·cases h
   ·rename_i n e hd
    split at h
    ·rename_i ei mC
     refine ⟨.agg (xs.map (Cell.ae ρ)).toArray,.agg (ys.map (Cell.ae ρ)).toArray,by simp [valOf,hd,dx],by simp [valOf,hd,dx],?_⟩
     have e0:P.underlying t=some (.array n e):=by rw [hu,hd]
     simp only [Op.equalIn,Sem.run_bind,run_underlying e0,Result.andThen_ok,hT.sz mC]
     rw [Std.Legacy.Range.forIn_eq_forIn_range']
     simp only [Std.Legacy.Range.size,Nat.sub_zero,Nat.add_sub_cancel,Nat.div_one]
     clear hd e0 hu
     generalize 0=s at h ⊢
     induction n generalizing s b with
     |zero=>simp only [JB,Option.some.injEq] at h;subst h;simp
     |succ n ih=>
      simp only [JB] at h
      split at h
      ·rename_i b1 b2 h1 h2
       cases h
       obtain ⟨ei',ar0,u,v,hu1,hv1,hr⟩:=K9 hT d e _ _ b1 h1 D (by omega) ρ w
       rw [mC] at ar0;cases ar0
       rw [iP] at hu1 hv1
       simp only [List.range'_succ,List.forIn_cons,Sem.run_bind,yI hT mC _ _ hu1,yI hT mC _ _ hv1,Result.andThen_ok,hr]
       cases b1 with
       |true=>simpa using ih b2 (s+1) h2
       |false=>simp
      ·cases h
    ·cases h
   ·cases h
theorem dc (op:BinOp) (t:TypeId) (x y:Operand) (a b:Value) (w:World) (h: ∀c,a≠ .agg c) (h2:a≠ .nilIface):(eqGuard op t x y a b).run P w= .ok () w:=by
 unfold eqGuard
 cases op<;>simp<;>cases a<;>simp_all
theorem ahy (hT:di P ctx.tt) {t:TypeId} {xs ys:List Cell} {b:Bool} (h:eqE ctx.tt 20 t xs ys=some b) (ho: ∃i,aL ctx.tt t=some i/\ dx i.desc=true) (ρ:Env) (w:World) (x y:Operand):
  (∀op,(eqGuard op t x y (.agg (xs.map (Cell.ae ρ)).toArray) (.agg (ys.map (Cell.ae ρ)).toArray)).run P w= .ok () w)/\
  (Op.equalIn 10000 t (.agg (xs.map (Cell.ae ρ)).toArray) (.agg (ys.map (Cell.ae ρ)).toArray)).run P w= .ok b w:=by
 obtain ⟨i,hi,ha⟩:=ho
 obtain ⟨_,_,inf,_,_,_,_,hh⟩:=hT t i hi
 obtain ⟨i',hi',u,v,hu,hv,hr⟩:=K9 hT 20 t xs ys b h 10000 (by omega) ρ w
 rw [hi] at hi';cases hi'
 simp only [valOf,ha,if_true,Option.some.injEq] at hu hv
 subst hu;subst hv
 exact ⟨fun op=>run_eqGuard_agg w op t x y _ _ (hh ha).2,hr⟩
theorem ZG {op:BinOp} {kk:IntKind} {a b:Int} (h:ZF op kk a b k) (t:TypeId) (x y:Operand):
  ∃r,aO P ctx.X hp nm (fun _=>True) (fun _=>do eqGuard op t x y (.int kk a) (.int kk b);binOp op t (.int kk a) (.int kk b)) (fun ρ=>r.val.ae ρ) r/\ k r:=by
 have hg: ∀w,(eqGuard op t x y (.int kk a) (.int kk b)).run P w= .ok () w:=fun w=>dc op t x y _ _ w (by simp) (by simp)
 unfold ZF at h
 split at h
 case h_4|h_5=>
  obtain ⟨hb,h⟩:=bh h
  have hb:=of_decide_eq_true hb
  refine ⟨_,aO.pure ?_,h⟩
  intro av W ρ Kn Γ w _ _ _ _
  refine ⟨?_,trivial⟩
  simp [hg,binOp,Op.intDiv,hb,iA,AV.ae,A0.ae,Cell.ae]
 case h_16=>exact h.elim
 all_goals
  refine ⟨_,aO.pure ?_,h⟩
  intro av W ρ Kn Γ w _ _ _ _
  refine ⟨?_,trivial⟩
  simp [hg,binOp,Op.intArith,Op.intCmp,Op.intBits,iA,bG,AV.ae,A0.ae,Cell.ae]
theorem OV {tt:List (Nat×TI)} {t:TypeId} (h:alC tt t=true): ∃i,aL tt t=some i/\ dx i.desc=true:=by
 unfold alC at h;split at h
 ·exact ⟨_,‹_›,h⟩
 ·cases h
theorem nN (hT:di P ctx.tt) {t:TypeId} {i:TI} (ht:aL ctx.tt t=some i) {e:TypeId} (hd:i.desc= .slice e) (a:Option Addr) (n c n' c':Nat) (w:World):
  (Op.equal t (.slice a n c) (.slice none n' c')).run P w= .ok a.isNone w:=by
 have hu:=(hT t i ht).1
 rw [hd] at hu
 show (Op.equalIn (9999+1) t (.slice a n c) (.slice none n' c')).run P w=_
 rw [Op.equalIn]
 simp only [Sem.run_bind,run_underlying hu,Result.andThen_ok]
 cases a<;>simp
theorem ag0 (hT:di P ctx.tt) {op:BinOp} {t:TypeId} {x y:AV} {ox oy:Operand} (h:aoY ctx op t x y k):
    ∃r,aO P ctx.X hp nm (fun _=>True) (fun ρ=>do eqGuard op t ox oy (x.ae ρ) (y.ae ρ);binOp op t (x.ae ρ) (y.ae ρ)) (fun ρ=>r.val.ae ρ) r/\ k r:=by
  unfold aoY at h
  split at h
  · rename_i kk a k' b
    have hg: ∀op w,(eqGuard op t ox oy (.int kk a) (.int k' b)).run P w= .ok () w:=fun op w=>dc op t ox oy _ _ w (by simp) (by simp)
    split at h
    · obtain ⟨hb,h⟩:=bh h
      have hb:=of_decide_eq_true hb
      refine ⟨_,aO.pure ?_,h⟩
      intro av W ρ Kn Γ w _ _ _ _
      refine ⟨?_,trivial⟩
      simp [AV.ae,A0.ae,Cell.ae,hg,binOp,Op.shift,Int.not_lt.2 hb,iA]
    · obtain ⟨hb,h⟩:=bh h
      have hb:=of_decide_eq_true hb
      refine ⟨_,aO.pure ?_,h⟩
      intro av W ρ Kn Γ w _ _ _ _
      refine ⟨?_,trivial⟩
      simp [AV.ae,A0.ae,Cell.ae,hg,binOp,Op.shift,Int.not_lt.2 hb,iA]
    · split at h
      · rename_i hk;subst hk
        exact ZG h t ox oy
      · exact h.elim
  · rename_i a b
    have hg: ∀op w,(eqGuard op t ox oy (.bool a) (.bool b)).run P w= .ok () w:=fun op w=>dc op t ox oy _ _ w (by simp) (by simp)
    split at h
    all_goals first
      |exact h.elim
      | (split at h
         · rename_i i hi
           split at h
           · rename_i hd
             refine ⟨_,aO.pure ?_,h⟩
             intro av W ρ Kn Γ w _ _ _ _
             refine ⟨?_,trivial⟩
             have hu:=(hT t i hi).1
             rw [hd] at hu
             simp [AV.ae,A0.ae,Cell.ae,hg,binOp,Op.equal,Op.maxDepth,run_equalIn_bool' w 9999 t a b hu,bG]
           · exact h.elim
         · exact h.elim)
  · rename_i a b
    have hg: ∀op w,(eqGuard op t ox oy (.string a) (.string b)).run P w= .ok () w:=fun op w=>dc op t ox oy _ _ w (by simp) (by simp)
    split at h
    case h_3=>
      obtain ⟨hb,h⟩:=bh h
      have hb:=of_decide_eq_true hb
      refine ⟨_,aO.pure ?_,h⟩
      intro av W ρ Kn Γ w _ _ _ _
      refine ⟨?_,trivial⟩
      have: ¬IntKind.i64.max<((a.size+b.size:Nat):Int):=by show¬(9223372036854775807:Int)<_;omega
      simp only [AV.ae,A0.ae,Cell.ae,Sem.run_bind,hg,Result.andThen_ok,binOp,Op.stringOp,gt_iff_lt,this,if_false,Sem.run_pure]
    all_goals first
      |exact h.elim
      | (refine ⟨_,aO.pure ?_,h⟩
         intro av W ρ Kn Γ w _ _ _ _
         refine ⟨?_,trivial⟩
         simp [AV.ae,A0.ae,Cell.ae,hg,binOp,Op.stringOp,bG,bne,beq_toListBytes])
  · rename_i xs ys
    split at h
    · split at h
      · rename_i b ha hb
        refine ⟨_,aO.pure ?_,h⟩
        intro av W ρ Kn Γ w _ _ _ _
        refine ⟨?_,trivial⟩
        obtain ⟨h1,h2⟩:=ahy (P:=P) hT hb (OV ha) ρ w ox oy
        simp only [AV.ae,A0.ae,Cell.ae,Sem.run_bind,h1,Result.andThen_ok,run_eql_struct,h2,bG]
      · exact h.elim
    · split at h
      · rename_i b ha hb
        refine ⟨_,aO.pure ?_,h⟩
        intro av W ρ Kn Γ w _ _ _ _
        refine ⟨?_,trivial⟩
        obtain ⟨h1,h2⟩:=ahy (P:=P) hT hb (OV ha) ρ w ox oy
        simp only [AV.ae,A0.ae,Cell.ae,Sem.run_bind,h1,Result.andThen_ok,run_neq_struct,h2,bG]
      · exact h.elim
    · exact h.elim
  · rename_i a n1 c1 n2 c2
    split at h
    · rename_i i hi
      split at h
      · rename_i e hd
        refine ⟨_,aO.pure ?_,h⟩
        intro av W ρ Kn Γ w _ _ _ _
        refine ⟨?_,trivial⟩
        have hg: ∀op w,(eqGuard op t ox oy (.slice a n1 c1) (.slice none n2 c2)).run P w= .ok () w:=fun op w=>dc op t ox oy _ _ w (by simp) (by simp)
        simp [AV.ae,A0.ae,Cell.ae,hg,binOp,nN hT hi hd,bG]
      · rename_i e hd
        refine ⟨_,aO.pure ?_,h⟩
        intro av W ρ Kn Γ w _ _ _ _
        refine ⟨?_,trivial⟩
        have hg: ∀op w,(eqGuard op t ox oy (.slice a n1 c1) (.slice none n2 c2)).run P w= .ok () w:=fun op w=>dc op t ox oy _ _ w (by simp) (by simp)
        simp [AV.ae,A0.ae,Cell.ae,hg,binOp,nN hT hi hd,bG]
      · exact h.elim
    · exact h.elim
  · exact h.elim
theorem kC (hT:di P ctx.tt) {t:TypeId} {i:TI} (ht:aL ctx.tt t=some i) {e:TypeId} (hd:i.desc= .pointer e) (a:Option Addr) (w:World):
  (Op.equal t (.pointer a) (.pointer none)).run P w= .ok a.isNone w:=by
 have hu:=(hT t i ht).1
 rw [hd] at hu
 show (Op.equalIn (9999+1) t (.pointer a) (.pointer none)).run P w=_
 rw [Op.equalIn]
 simp only [Sem.run_bind,run_underlying hu,Result.andThen_ok]
 cases a<;>simp
theorem ajy (hT:di P ctx.tt) {op:BinOp} {t:TypeId} {x y:AV} {ox oy:Operand} (h:aqq ctx op t x y hp k):
  ∃r,aO P ctx.X hp nm (fun _=>True) (fun ρ=>do eqGuard op t ox oy (x.ae ρ) (y.ae ρ);binOp op t (x.ae ρ) (y.ae ρ)) (fun ρ=>r.val.ae ρ) r/\ k r:=by
 unfold aqq at h
 have hg: ∀(a b:Option Addr) w,(eqGuard op t ox oy (.pointer a) (.pointer b)).run P w= .ok () w:=fun a b w=>dc op t ox oy _ _ w (by simp) (by simp)
 split at h
 ·rename_i n off
  split at h
  rotate_left
  ·exact h.elim
  rename_i i hi
  split at h
  ·rename_i e hd
   obtain ⟨⟨o,ho,dS⟩,hk⟩:=c7 h
   refine ⟨_,aO.pure ?_,hk⟩
   intro av W ρ Kn Γ w _ _ j7 hst
   obtain ⟨b,hb⟩:=dS _ _ ρ w (hst.at_ n o (by rw [j7 n (by simp),ho]))
   refine ⟨?_,trivial⟩
   simp [AV.ae,A0.ae,Cell.ae,addrOf,hb,hg,binOp,kC hT hi hd,bG]
  ·rename_i e hd
   obtain ⟨⟨o,ho,dS⟩,hk⟩:=c7 h
   refine ⟨_,aO.pure ?_,hk⟩
   intro av W ρ Kn Γ w _ _ j7 hst
   obtain ⟨b,hb⟩:=dS _ _ ρ w (hst.at_ n o (by rw [j7 n (by simp),ho]))
   refine ⟨?_,trivial⟩
   simp [AV.ae,A0.ae,Cell.ae,addrOf,hb,hg,binOp,kC hT hi hd,bG]
  ·exact h.elim
 ·rename_i a
  split at h
  rotate_left
  ·exact h.elim
  rename_i i hi
  split at h
  ·rename_i e hd
   refine ⟨_,aO.pure ?_,h⟩
   intro av W ρ Kn Γ w _ _ _ _
   refine ⟨?_,trivial⟩
   simp [AV.ae,A0.ae,Cell.ae,hg,binOp,kC hT hi hd,bG]
  ·rename_i e hd
   refine ⟨_,aO.pure ?_,h⟩
   intro av W ρ Kn Γ w _ _ _ _
   refine ⟨?_,trivial⟩
   simp [AV.ae,A0.ae,Cell.ae,hg,binOp,kC hT hi hd,bG]
  ·exact h.elim
 ·exact h.elim
theorem vj (f:Int->Int->Int) (g:Value->Value->Sem Value) (hg: ∀kk x k' y w,(g (.int kk x) (.int k' y)).run P w= .ok (.int kk (f x y)) w) (ρ:Env) (kk:IntKind):
  ∀(l:List AV) (a n:Int),zW f a l=some n-> ∀w,((l.map (AV.ae ρ)).foldlM g (.int kk a)).run P w= .ok (.int kk n) w
 | [],a,n,h,w=>by simp only [zW,Option.some.injEq] at h;subst h;simp
 |x::r,a,n,h,w=>by
  unfold zW at h
  split at h
  ·simp_all
  ·rename_i k' b r' heq
   cases heq
   have ih:=vj f g hg ρ kk r _ n h w
   simp only [List.map_cons,List.foldlM_cons,Sem.run_bind,AV.ae,A0.ae,Cell.ae,hg,Result.andThen_ok]
   exact ih
  ·cases h
end
end Go.Ev
