/- More operations: aggregates, indexes, '=='. -/
import Derived.Test.YtfgdjlhilladhaaGreatEvC
noncomputable section
set_option linter.unusedSectionVars false
set_option linter.unusedVariables false
set_option linter.unusedSimpArgs false
namespace Go.Ev
open Go.RowKit
section
variable {P:Program} {ctx:Ctx} {hp:HP} {nm:Nat} {k:Rec->Prop}
theorem aaD (vs:List Value): ∀(off m:Nat) (cs:List Value),(vs.zipIdx m).foldl (fun (a:Array Value) (p:Value×Nat)=>a.setIfInBounds (off+p.2) p.1) cs.toArray=(setCells cs (off+m) vs).toArray:=by
 induction vs with
 |nil=>intro off m cs;rfl
 |cons v r ih=>
  intro off m cs
  simp only [List.zipIdx_cons,List.foldl_cons,setCells]
  rw [List.setIfInBounds_toArray,ih off (m+1)]
  rfl
theorem aaB (place:Nat->Option (Nat×Nat)) (cs:List Value) (i:Nat) (v:Value) (vs:List Value) (rest:List (Nat×Value)) (hv:v.cells=vs.toArray) {off size:Nat}
  (hp:place i=some (off,size)) (hs:vs.length=size) (hl:off+size<=cs.length):
  Instr.fill place cs.toArray ((i,v)::rest)=Instr.fill place (setCells cs off vs).toArray rest:=by
 have: ¬(vs.length≠size\/ off+vs.length>cs.length):=by omega
 simp only [Instr.fill,hp,hv,List.size_toArray]
 have h1:(decide (vs.length≠size)||decide (off+vs.length>cs.length))=false:=by simp;omega
 rw [show ((if (decide (vs.length≠size)||decide (off+vs.length>cs.length))=true then none else _):Option (Array Value))=_ from if_neg (by rw [h1];simp)]
 congr 1
 have:=aaD vs off 0 cs
 simpa using this
theorem uX (place:Nat->Option (Nat×Nat)) (ev:Operand->AV) (ρ:Env): ∀(parts:List (Nat×Operand)) (cs out:List Cell),AO place ev cs parts=some out->
  Instr.fill place (cs.map (Cell.af ρ)).toArray (parts.map fun p=>(p.1,(ev p.2).af ρ))=some (out.map (Cell.af ρ)).toArray
 | [],cs,out,h=>by simp only [AO,Option.some.injEq] at h;subst h;rfl
 |(i,x)::r,cs,out,h=>by
  simp only [AO] at h
  split at h
  ·rename_i off size xs FD hx
   split at h
   ·rename_i h1
    split at h
    ·rename_i h2
     have:=uX place ev ρ r _ _ h
     rw [oh] at this
     simp only [List.map_cons]
     rw [aaB place (cs.map (Cell.af ρ)) i ((ev x).af ρ) (xs.map (Cell.af ρ)) _ (AV.kS hx ρ) FD (by simpa using h1) (by simpa using h2)]
     exact this
    ·cases h
   ·cases h
  ·cases h
theorem CU (place:Nat->Option (Nat×Nat)) (ev:Operand->AV) (Kn:Nat->Prop): ∀(parts:List (Nat×Operand)) (cs out:List Cell),AO place ev cs parts=some out->
  (∀c∈cs,c.ok Kn)->(∀p∈parts,(ev p.2).ok Kn)-> ∀c∈out,c.ok Kn
 | [],cs,out,h,hc,_=>by simp only [AO,Option.some.injEq] at h;subst h;exact hc
 |(i,x)::r,cs,out,h,hc,hv=>by
  simp only [AO] at h
  split at h
  ·rename_i off size xs FD hx
   split at h
   ·rename_i h1
    split at h
    ·rename_i h2
     refine CU place ev Kn r _ _ h (fun c hm=> ?_) (fun p hp=>hv p (by simp [hp]))
     rcases vV (by omega) hm with h3|h3
     ·exact hc c h3
     ·exact AV.CI hx (hv (i,x) (by simp)) c h3
    ·cases h
   ·cases h
  ·cases h
theorem IG (v:Value) (ρ:Env):((kj v).map (Cell.af ρ)).toArray=v.cells:=by
 unfold kj;rw [Jk]
theorem run_places (hT:aW P ctx.tt) (w:World): ∀(fs:List Field),fs.all (fun f=>(aJ ctx.tt f.type).isSome)=true->
  (fs.mapM fun f=>do pure (f.offset,<- sizeOf f.type):Sem (List (Nat×Nat))).run P w= .ok (fs.map fun f=>(f.offset,((aJ ctx.tt f.type).map (·.size)).getD 0)) w
 | [],_=>by simp
 |f::r,h=>by
  simp only [List.all_cons,Bool.and_eq_true] at h
  obtain ⟨fi,Ri⟩:=Option.isSome_iff_exists.1 h.1
  have ih:=run_places hT w r h.2
  simp only [List.mapM_cons,Sem.run_bind,hT.sz Ri,Result.andThen_ok,Sem.run_pure,ih,List.map_cons,Ri,Option.map_some,Option.getD_some]
theorem VZ (hT:aW P ctx.tt) {t:TypeId} {i:TI} (ht:aJ ctx.tt t=some i) {parts:Array (Nat×Operand)} {ev:Operand->AV} (h:VY ctx i parts.toList ev k):
  ∃r,aS P ctx.X hp nm (fun Kn=> ∀p∈parts.toList,(ev p.2).ok Kn) (fun ρ=>Instr.build t (parts.map fun (i,x)=>(i,(ev x).af ρ))) (fun ρ=>r.val.af ρ) r/\ k r:=by
 unfold VY at h
 split at h
 ·rename_i fs hd
  split at h
  ·rename_i pA
   split at h
   ·rename_i cs hcs
    refine ⟨_,aS.pure ?_,h⟩
    intro aC W ρ Kn Γ w _ hk _ _
    refine ⟨?_,CU _ _ _ _ _ _ hcs (So _ _) hk⟩
    have hs:=uX _ ev ρ _ _ _ hcs
    rw [IG] at hs
    have FD:=run_places hT w fs.toList pA
    have anh:(fs.mapM fun f=>do pure (f.offset,<- sizeOf f.type):Sem (Array (Nat×Nat))).run P w= .ok (fs.map fun f=>(f.offset,((aJ ctx.tt f.type).map (·.size)).getD 0)) w:=by
     rw [Array.mapM_eq_mapM_toList]
     simp only [Sem.run_map,FD,Result.andThen_ok]
     congr 1
     apply Array.ext';simp
    have e2:(fun x:Nat=>(fs.map fun (f:Field)=>(f.offset,((aJ ctx.tt f.type).map (·.size)).getD 0))[x]?)=
      Xb ctx fs:=by
     funext j
     simp only [Array.getElem?_map,Xb]
     cases hj:fs[j]? with
     |none=>rfl
     |some f=>
      have hf:(aJ ctx.tt f.type).isSome=true:=by
       have:=List.all_eq_true.1 pA f (Array.mem_toList_iff.2 (Array.mem_of_getElem? hj));simpa using this
      obtain ⟨fi,Ri⟩:=Option.isSome_iff_exists.1 hf
      simp [Ri]
    simp only [Instr.build,Sem.run_bind,hT.z ht,Result.andThen_ok,hT.u ht,hd,anh,Array.toList_map]
    rw [e2,hs]
    rfl
   ·exact h.elim
  ·exact h.elim
 ·rename_i n e hd
  split at h
  ·rename_i ei mW
   split at h
   ·rename_i cs hcs
    refine ⟨_,aS.pure ?_,h⟩
    intro aC W ρ Kn Γ w _ hk _ _
    refine ⟨?_,CU _ _ _ _ _ _ hcs (So _ _) hk⟩
    have hs:=uX _ ev ρ _ _ _ hcs
    rw [IG] at hs
    simp only [Instr.build,Sem.run_bind,hT.z ht,Result.andThen_ok,hT.u ht,hd,hT.sz mW,Array.toList_map]
    rw [hs]
    rfl
   ·exact h.elim
  ·exact h.elim
 ·exact h.elim
theorem US (ei:TI) (m:Nat) (ρ:Env):(((List.range m).map fun j=>Cell.raw (ei.zero.cells[j % ei.zero.cells.size]!)).map (Cell.af ρ)).toArray=(Array.range m).map (ei.zero.cells[· % ei.zero.cells.size]!):=by
 apply Array.ext'
 simp [Array.toList_range,Cell.af]
theorem U6 (ρ:Env) (w:World) (off len cap:Nat):(AV.v (.one (.sl nm off len cap))).af (b9 ρ nm {bR:=some w.heap.size})= .slice (some ⟨w.heap.size,off,none⟩) len cap:=by
 simp [AV.af,A0.af,Cell.af,addrOf,b9]
theorem IL (hT:aW P ctx.tt) {t:TypeId} {i:TI} (ht:aJ ctx.tt t=some i) {len:Nat} {parts:Array (Nat×Operand)} {ev:Operand->AV} (h:xk ctx i len parts.toList ev nm k):
  ∃r,aS P ctx.X hp nm (fun Kn=> ∀p∈parts.toList,(ev p.2).ok Kn) (fun ρ=>Instr.buildSlice t len (parts.map fun (i,x)=>(i,(ev x).af ρ))) (fun ρ=>r.val.af ρ) r/\ k r:=by
 unfold xk at h
 split at h
 ·rename_i e hd
  split at h
  ·rename_i ei mW
   split at h
   ·exact h.elim
   ·rename_i h24
    split at h
    ·exact h.elim
    ·rename_i h0
     split at h
     ·rename_i cs hcs
      refine ⟨_,B4 _ _ (.v (.one (.sl nm 0 len len))) _ _ (fun Kn hk=>CU _ _ _ _ _ _ hcs ?_ hk) (fun Kn=>(Or.inr rfl:YY Kn nm nm)) fun ρ w=> ?_,h⟩
      ·intro c hc;obtain ⟨j,_,rfl⟩:=List.mem_map.1 hc;trivial
      ·rw [U6]
       have hs:=uX _ ev ρ _ _ _ hcs
       rw [US] at hs
       simp only [Instr.buildSlice,Sem.run_bind,hT.u ht,Result.andThen_ok,hd,hT.sz mW,gt_iff_lt,h24,↓reduceIte,h0,hT.z mW,Sem.run_pure,Array.toList_map,hs,newRow,run_newObj,World.alloc_eq]
     ·exact h.elim
  ·exact h.elim
 ·exact h.elim
theorem eC {n:Nat} {p:Prop} (h:mS hp n p):(∃o,hp n=some o/\ ∀(fz pm:Nat->Prop) (ρ:Env) (w:World),dF fz pm ρ n o w-> ∃b,(ρ n).bR=some b)/\ p:=by
 unfold mS at h
 split at h
 ·rename_i cs e he
  exact ⟨⟨_,he,fun fz pm ρ w ⟨b,hb,_⟩=>⟨b,hb⟩⟩,h⟩
 ·exact h.elim
theorem LL {fz pm:Nat->Prop} {ρ:Env} {n j:Nat} {t:Ty} {l:List t.T} {rk:Nat} {w:World} (h:dF fz pm ρ n (.row t l rk) w) (hj:j<l.length): ∃a,(ρ n).base=some a:=by
 obtain ⟨_,_,_,sub,m1,_⟩:=h
 have hl:0<(aL sub 0 (aD t l)).length:=by
  rw [bM,bA]
  exact Nat.mul_pos (by omega) t.size_pos
 obtain ⟨a,ha,_⟩:=m1 0 _ (List.getElem?_eq_getElem hl)
 exact ⟨a,ha⟩
def FH (t:Ty) (l:List t.T) (o:aX):Prop:=(∃rk,o= .row t l rk)\/ ∃n c k x,o= .gv n c k t x l
theorem FH.at {t:Ty} {l:List t.T} {o:aX} (h:FH t l o) {fz pm:Nat->Prop} {ρ:Env} {n:Nat} {w:World} (ho:dF fz pm ρ n o w):(ρ n).len=l.length/\ (ρ n).es=t.size/\ l.length<=(ρ n).cap/\ ∀j,j<l.length-> ∃a,(ρ n).base=some a:=by
 rcases h with ⟨rk,rfl⟩|⟨g,c,k,x,rfl⟩
 ·exact ⟨ho.1,ho.2.1,ho.2.2.1,fun j hj=>LL ho hj⟩
 ·obtain ⟨_,h1,h2,h3,_,h4⟩:=ho
  refine ⟨h1,h2,h3,fun j hj=> ?_⟩
  rcases h4 with ⟨e,_⟩|⟨e,b,_,_,_,h5,h6,_⟩
  ·rw [e] at hj;exact absurd hj (Nat.not_lt_zero _)
  ·exact ⟨_,by rw [<- h5,h6]⟩
theorem FH.uniq {t t':Ty} {l:List t.T} {l':List t'.T} {o:aX} (h:FH t l o) (h':FH t' l' o):(⟨t,l⟩:Sigma fun t:Ty=>List t.T)=⟨t',l'⟩:=by
 rcases h with ⟨rk,rfl⟩|⟨g,c,k,x,rfl⟩
 ·rcases h' with ⟨rk',e⟩|⟨g,c,k,x,e⟩
  ·cases e;rfl
  ·cases e
 ·rcases h' with ⟨rk',e⟩|⟨g,c,k,x,e⟩
  ·cases e
  ·cases e;rfl
theorem FH.row {t t':Ty} {l:List t.T} {l':List t'.T} {rk:Nat} (h:FH t l (.row t' l' rk)):(⟨t,l⟩:Sigma fun t:Ty=>List t.T)=⟨t',l'⟩:=h.uniq (.inl ⟨rk,rfl⟩)
theorem eE {n j:Nat} {p:Ty->Prop} (h:mT hp n j p): ∃t l,∃o: {o // FH t l o},hp n=some o.1/\ j<l.length/\ p t:=by
 unfold mT at h
 split at h
 ·rename_i t l rk he
  obtain ⟨h1,h2⟩:=cl h
  exact ⟨t,l,⟨_,.inl ⟨rk,rfl⟩⟩,he,by simpa using h1,h2⟩
 ·rename_i g c k t x l he
  obtain ⟨h1,h2⟩:=cl h
  exact ⟨t,l,⟨_,.inr ⟨g,c,k,x,rfl⟩⟩,he,by simpa using h1,h2⟩
 ·exact h.elim
theorem sI {p:Nat} {kk:(n:Nat)->Option Nat->Option Nat->Nat->List Nat->Prop} (h:GO hp p kk): ∃n s q t l,∃rk: {o // FH t l o},∃len tc,hp n=some rk.1/\ kk n s q len tc/\ n∈tc/\ p∈tc/\ (∀j,j<len->iL s j<l.length)/\ (q=none->len=l.length- iL s 0)/\ len<=l.length- iL s 0/\
  (p=n\/ ∃s',hp p=some (.alias n s' q))/\ (s=none->p=n)/\
  ∀aC W ρ Kn Γ w,(∀m∈tc,Γ m=hp m)->St aC W ρ Kn Γ w->(ρ n).len=l.length/\ (ρ n).es=t.size/\ (ρ p).es=t.size/\ (ρ p).len=len/\ len<=(ρ p).cap/\ Kn n/\ Kn p/\ ∀j,j<len-> ∃a b,(ρ n).base=some a/\ (ρ p).base=some b/\ b.add (j*t.size)=a.add (iL s j*t.size):=by
 unfold GO at h
 split at h
 ·rename_i t l rk he
  refine ⟨p,none,none,t,l,⟨_,.inl ⟨rk,rfl⟩⟩,_,_,he,h,by simp,by simp,fun j hj=>hj,fun _=>rfl,Nat.le_refl _,.inl rfl,fun _=>rfl,fun aC W ρ Kn Γ w ht hst=> ?_⟩
  have dw:Γ p=some (.row t l rk):=by rw [ht p (by simp),he]
  obtain ⟨o1,o2,o3,o4⟩:=hst.at_ p _ dw
  refine ⟨o1,o2,o2,o1,o3,(hst.kn p _ dw).1,(hst.kn p _ dw).1,fun j hj=> ?_⟩
  obtain ⟨a,ha⟩:=LL (hst.at_ p _ dw) hj
  exact ⟨a,a,ha,ha,rfl⟩
 ·rename_i g c k t x l he
  refine ⟨p,none,none,t,l,⟨_,.inr ⟨g,c,k,x,rfl⟩⟩,_,_,he,h,by simp,by simp,fun j hj=>hj,fun _=>rfl,Nat.le_refl _,.inl rfl,fun _=>rfl,fun aC W ρ Kn Γ w ht hst=> ?_⟩
  have dw:Γ p=some (.gv g c k t x l):=by rw [ht p (by simp),he]
  obtain ⟨o1,o2,o3,o4⟩:=FH.at (l:=l) (.inr ⟨g,c,k,x,rfl⟩) (hst.at_ p _ dw)
  refine ⟨o1,o2,o2,o1,o3,(hst.kn p _ dw).1,(hst.kn p _ dw).1,fun j hj=> ?_⟩
  obtain ⟨a,ha⟩:=o4 j hj
  exact ⟨a,a,ha,ha,rfl⟩
 ·rename_i n s q he
  split at h
  ·rename_i t l rk VP
   refine ⟨n,some s,q,t,l,⟨_,.inl ⟨rk,rfl⟩⟩,_,_,VP,h,by simp,by simp,fun j hj=> ?_,fun e=> ?_,?_,.inr ⟨s,he⟩,fun e=>(by cases e),fun aC W ρ Kn Γ w ht hst=> ?_⟩
   ·unfold gy at hj
    simp only [iL]
    split at hj<;>omega
   ·subst e;simp [gy,iL]
   ·show gy l.length s q<=l.length- (s+0);unfold gy;split<;>omega
   ·have alN:Γ p=some (.alias n s q):=by rw [ht p (by simp),he]
    have dw:Γ n=some (.row t l rk):=by rw [ht n (by simp),VP]
    obtain ⟨o1,o2,o3,o4⟩:=hst.at_ n _ dw
    obtain ⟨_,p1,p2,p3,p4⟩:=hst.at_ p _ alN
    refine ⟨o1,o2,by rw [p2,o2],by rw [p1,o1],by rw [p1,o1] at p3;exact p3,(hst.kn n _ dw).1,(hst.kn p _ alN).1,fun j hj=> ?_⟩
    have hj2:s+j<l.length:=by unfold gy at hj;split at hj<;>omega
    obtain ⟨a,ha⟩:=LL (hst.at_ n _ dw) hj2
    refine ⟨a,a.add (s*(ρ n).es),ha,?_,?_⟩
    ·rw [p4 (by rw [p1,o1];omega),ha];rfl
    ·rw [eY,o2];simp only [iL,Nat.add_mul]
  ·exact h.elim
 ·exact h.elim
theorem VL {n es:Nat} {p:Prop} (h:Yv hp n es p): ∃t l rk,hp n=some (.row t l rk)/\ es=t.size/\ p:=by
 unfold Yv at h
 split at h
 ·rename_i t l rk he
  split at h
  ·exact ⟨t,l,rk,he,‹_›,h⟩
  ·exact h.elim
 ·exact h.elim
theorem qu {n off:Nat} {p:Prop} (hw:mS hp n p) (Ht:(Nat->Prop)->Prop) (hok: ∀Kn,Ht Kn->Kn n) (f:Env->Sem Value)
    (hf: ∀(ρ:Env) (w:World) b,(ρ n).bR=some b->(f ρ).run P w= .ok (.pointer (some ⟨b,off,none⟩)) w):
    aS P ctx.X hp nm Ht f (fun ρ=>(AV.v (.one (.ptr n off))).af ρ) {val:= .v (.one (.ptr n off)),aO:= [n]} /\
    aS P ctx.X hp nm Ht f (fun ρ=>(AV.v (.one (.oB n off))).af ρ) {val:= .v (.one (.oB n off)),aO:= [n]} :=by
  obtain ⟨⟨o,ho,hb⟩,_⟩:=eC hw
  constructor
  all_goals
    refine aS.pure ?_
    intro aC W ρ Kn Γ w _ hk kI hst
    have dw:Γ n=some o:=by rw [kI n (by simp),ho]
    obtain ⟨b,hb⟩:=hb _ _ ρ w (hst.at_ n o dw)
    exact ⟨by first|rw [oN hb]|rw [qh hb]
              exact hf ρ w b hb,hok Kn hk⟩
theorem iV {ρ:Env} {n j q:Nat} {a:Addr} (ha:(ρ n).base=some a):(AV.v (.one (.br n j q))).af ρ= .pointer (some (a.add (j*(ρ n).es+q))):=by
 simp [AV.af,A0.af,Cell.af,ha]
theorem qy {ρ:Env} {n j q:Nat} {a:Addr} (ha:(ρ n).base=some a):(AV.v (.one (.gJ n j q))).af ρ= .pointer (some (a.add (j*(ρ n).es+q))):=by
 simp [AV.af,A0.af,Cell.af,ha]
theorem Zv {n j j' q':Nat} {p:Ty->Prop} (hw:mT hp n j p) (Ht:(Nat->Prop)->Prop) (hok: ∀Kn,Ht Kn->Kn n) (f:Env->Sem Value)
  (hf: ∀(ρ:Env) (w:World) (a:Addr) t,p t->(ρ n).es=t.size->(ρ n).base=some a->(∃(l:List t.T) (rk: {o // FH t l o}),hp n=some rk.1/\ (ρ n).len=l.length/\ l.length<=(ρ n).cap/\ j<l.length)->(f ρ).run P w= .ok (.pointer (some (a.add (j'*(ρ n).es+q')))) w):
  aS P ctx.X hp nm Ht f (fun ρ=>(AV.v (.one (.br n j' q'))).af ρ) {val:= .v (.one (.br n j' q')),aO:= [n]} :=by
 obtain ⟨t,l,rk,he,hj,m6⟩:=eE hw
 refine aS.pure ?_
 intro aC W ρ Kn Γ w _ hk kI hst
 have dw:Γ n=some rk.1:=by rw [kI n (by simp),he]
 have bE:=rk.2.at (hst.at_ n _ dw)
 obtain ⟨a,ha⟩:=bE.2.2.2 _ hj
 exact ⟨by rw [iV ha];exact hf ρ w a t m6 bE.2.1 ha ⟨l,rk,he,bE.1,bE.2.2.1,hj⟩,hok Kn hk⟩
theorem LM {n j j' q':Nat} {p:Ty->Prop} (hw:mT hp n j p) (Ht:(Nat->Prop)->Prop) (hok: ∀Kn,Ht Kn->Kn n) (f:Env->Sem Value)
  (hf: ∀(ρ:Env) (w:World) (a:Addr) t,p t->(ρ n).es=t.size->(ρ n).base=some a->(∃(l:List t.T) (rk: {o // FH t l o}),hp n=some rk.1/\ (ρ n).len=l.length/\ l.length<=(ρ n).cap/\ j<l.length)->(f ρ).run P w= .ok (.pointer (some (a.add (j'*(ρ n).es+q')))) w):
  aS P ctx.X hp nm Ht f (fun ρ=>(AV.v (.one (.gJ n j' q'))).af ρ) {val:= .v (.one (.gJ n j' q')),aO:= [n]} :=by
 obtain ⟨t,l,rk,he,hj,m6⟩:=eE hw
 refine aS.pure ?_
 intro aC W ρ Kn Γ w _ hk kI hst
 have dw:Γ n=some rk.1:=by rw [kI n (by simp),he]
 have bE:=rk.2.at (hst.at_ n _ dw)
 obtain ⟨a,ha⟩:=bE.2.2.2 _ hj
 exact ⟨by rw [qy ha];exact hf ρ w a t m6 bE.2.1 ha ⟨l,rk,he,bE.1,bE.2.2.1,hj⟩,hok Kn hk⟩
theorem OA {n:Nat} (h:aec hp n=true): ∃c cs,hp n=some (.rc (c::cs)):=by
 unfold aec at h
 split at h
 ·exact ⟨_,_,‹_›⟩
 ·cases h
theorem Zq {ρ:Env} {n:Nat} {fz pm:Nat->Prop} {c:Cell} {cs:List Cell} {w:World} (h:dF fz pm ρ n (.rc (c::cs)) w): ∃a,(ρ n).base=some a:=by
 obtain ⟨a,ha,_⟩:=h.2 0 c rfl
 exact ⟨a,ha⟩
theorem aj5 {n j' q':Nat} (hw:aec hp n=true) (Ht:(Nat->Prop)->Prop) (hok: ∀Kn,Ht Kn->Kn n) (f:Env->Sem Value)
  (hf: ∀(ρ:Env) (w:World) (a:Addr),(ρ n).base=some a->(f ρ).run P w= .ok (.pointer (some (a.add (j'*(ρ n).es+q')))) w):
  aS P ctx.X hp nm Ht f (fun ρ=>(AV.v (.one (.br n j' q'))).af ρ) {val:= .v (.one (.br n j' q')),aO:= [n]} :=by
 obtain ⟨c,cs,he⟩:=OA hw
 refine aS.pure ?_
 intro aC W ρ Kn Γ w _ hk kI hst
 obtain ⟨a,ha⟩:=Zq (hst.at_ n (.rc (c::cs)) (by rw [kI n (by simp),he]))
 exact ⟨by rw [iV ha];exact hf ρ w a ha,hok Kn hk⟩
theorem BH (b off m:Nat):(⟨b,off,none⟩:Addr).add m=⟨b,off+m,none⟩:=by unfold Addr.add;split<;>simp_all
theorem J9 (hT:aW P ctx.tt) {t:TypeId} {i:TI} (ht:aJ ctx.tt t=some i) {x:AV} {f:Nat} (h:BU ctx i x f hp k):
  ∃r,aS P ctx.X hp nm (fun Kn=>x.ok Kn) (fun ρ=>Instr.fieldAt t (x.af ρ) f) (fun ρ=>r.val.af ρ) r/\ k r:=by
 unfold BU at h
 split at h
 ·rename_i fs hd
  split at h
  ·rename_i fd hfd
   split at h
   ·rename_i fi Ri
    split at h
    ·exact h.elim
    ·rename_i hnz
     split at h
     ·rename_i n off
      refine ⟨_,(qu h _ (fun Kn hk=>hk) _ (fun ρ w b hb=> ?_)).1,(eC h).2⟩
      rw [oN hb]
      simp [Instr.fieldAt,hT.u ht,hd,hfd,Instr.sureAddr,fieldPlace,hT.sz Ri,hnz,BH]
     ·rename_i n off
      refine ⟨_,(qu h _ (fun Kn hk=>hk) _ (fun ρ w b hb=> ?_)).2,(eC h).2⟩
      rw [qh hb]
      simp [Instr.fieldAt,hT.u ht,hd,hfd,Instr.sureAddr,fieldPlace,hT.sz Ri,hnz,BH]
     ·rename_i n j q
      split at h
      ·rename_i hrc
       refine ⟨_,aj5 hrc _ (fun Kn hk=>hk) _ (fun ρ w a ha=> ?_),h⟩
       rw [iV ha]
       simp [Instr.fieldAt,hT.u ht,hd,hfd,Instr.sureAddr,fieldPlace,hT.sz Ri,hnz,eY,Nat.add_assoc]
      obtain ⟨_,_,_,_,_,hk⟩:=eE h
      refine ⟨_,Zv h _ (fun Kn hk=>hk) _ (fun ρ w a u _ _ ha _=> ?_),hk⟩
      rw [iV ha]
      simp [Instr.fieldAt,hT.u ht,hd,hfd,Instr.sureAddr,fieldPlace,hT.sz Ri,hnz,eY,Nat.add_assoc]
     ·rename_i n j q
      obtain ⟨_,_,_,_,_,hk⟩:=eE h
      refine ⟨_,LM h _ (fun Kn hk=>hk) _ (fun ρ w a u _ _ ha _=> ?_),hk⟩
      rw [qy ha]
      simp [Instr.fieldAt,hT.u ht,hd,hfd,Instr.sureAddr,fieldPlace,hT.sz Ri,hnz,eY,Nat.add_assoc]
     ·exact h.elim
   ·exact h.elim
  ·exact h.elim
 ·exact h.elim
theorem OX (hT:aW P ctx.tt) {t:TypeId} {i:TI} (ht:aJ ctx.tt t=some i) {cs:List Cell} {off:Nat} (h:OW i cs off k):
  ∃v,k {val:=v} /\ (∀(ρ:Env) (w:World),(part t (cs.map (Cell.af ρ)).toArray off).run P w= .ok (v.af ρ) w)/\ ∀Kn,(∀c∈cs,c.ok Kn)->v.ok Kn:=by
 unfold OW at h
 split at h
 ·rename_i ha
  split at h
  ·rename_i hl
   refine ⟨_,h,fun ρ w=> ?_,fun Kn hk c hc=>hk c (List.mem_of_mem_drop (List.mem_of_mem_take hc))⟩
   simp only [part,Sem.run_bind,hT.ag ht,Result.andThen_ok,ha,if_true,hT.sz ht,Sem.run_pure,AV.af,A0.af,eG]
   congr 2
   simp [List.extract_toArray]
  ·exact h.elim
 ·rename_i ha
  split at h
  ·rename_i c hc
   refine ⟨_,h,fun ρ w=> ?_,fun Kn hk=>hk c (List.mem_of_getElem? hc)⟩
   simp [part,hT.ag ht,ha,hc,AV.af,A0.af]
  ·exact h.elim
theorem Wg (hT:aW P ctx.tt) {t:TypeId} {i:TI} (ht:aJ ctx.tt t=some i) {x:AV} {f:Nat} (h:Wf ctx i x f k):
  ∃r,aS P ctx.X hp nm (fun Kn=>x.ok Kn) (fun ρ=>Instr.field t (x.af ρ) f) (fun ρ=>r.val.af ρ) r/\ k r:=by
 unfold Wf at h
 split at h
 ·rename_i fs cs hd
  split at h
  ·rename_i fd hfd
   split at h
   ·rename_i fi Ri
    obtain ⟨v,hk,hrun,hok⟩:=OX hT Ri h
    refine ⟨_,aS.pure ?_,hk⟩
    intro aC W ρ Kn Γ w _ hk kI hst
    refine ⟨?_,hok Kn hk⟩
    simp [AV.af,A0.af,Instr.field,hT.u ht,hd,hfd,asAgg,hrun]
   ·exact h.elim
  ·exact h.elim
 ·exact h.elim
def valOf (d:TypeDesc) (cs:List Value):Option Value:=if aR d then some (.agg cs.toArray) else match cs with| [v]=>some v|_=>none
theorem qW (hT:aW P ctx.tt) {t:TypeId} {i:TI} (ht:aJ ctx.tt t=some i) (cs:List Value) (off:Nat) {v:Value} (hv:valOf i.desc ((cs.drop off).take i.size)=some v) (w:World):
  (part t cs.toArray off).run P w= .ok v w:=by
 unfold valOf at hv
 split at hv
 ·rename_i ha
  cases hv
  simp only [part,Sem.run_bind,hT.ag ht,Result.andThen_ok,ha,if_true,hT.sz ht,Sem.run_pure]
  congr 2
  simp [List.extract_toArray]
 ·rename_i ha
  split at hv
  ·rename_i u hu
   cases hv
   have:cs[off]? =some v:=by
    have h0:((cs.drop off).take i.size)[0]? =some v:=by rw [hu];rfl
    rw [List.getElem?_take] at h0
    split at h0
    ·rw [List.getElem?_drop] at h0;simpa using h0
    ·cases h0
   simp [part,hT.ag ht,ha,this]
  ·cases hv
theorem oI {j:Int} {n:Nat} (h:inR j n=true):0<=j/\ j<(n:Int):=by simpa [inR] using h
theorem Kp (hT:aW P ctx.tt) {t:TypeId} {i:TI} (ht:aJ ctx.tt t=some i) {x ix:AV} {lit:Bool} (h:BY ctx i x ix lit hp k):
  ∃r,aS P ctx.X hp nm (fun Kn=>x.ok Kn) (fun ρ=>Instr.indexAt t (x.af ρ) (ix.af ρ)) (fun ρ=>r.val.af ρ) r/\ k r:=by
 unfold BY at h
 split at h
 ·rename_i kk j
  split at h
  ·rename_i n e hd
   split at h
   ·rename_i ei mW
    split at h
    ·rename_i m off
     obtain ⟨hj,h⟩:=cl h
     have hj:=oI hj
     have hk:=(eC h).2
     have hf: ∀(ρ:Env) (w:World) b,(ρ m).bR=some b->(Instr.indexAt t ((AV.v (.one (.ptr m off))).af ρ) ((AV.v (.one (.raw (.int kk j)))).af ρ)).run P w= .ok (.pointer (some ⟨b,off+j.toNat*ei.size,none⟩)) w:=fun ρ w b hb=>by
      rw [oN hb]
      simp [AV.af,A0.af,Cell.af,Instr.indexAt,asIntOf,hT.u ht,hd,Instr.sureAddr,hj,hT.sz mW,BH]
     split at hk
     ·exact ⟨_,(qu h _ (fun Kn hk=>hk) _ hf).2,hk⟩
     ·exact ⟨_,(qu h _ (fun Kn hk=>hk) _ hf).1,hk⟩
    ·rename_i m off
     obtain ⟨hj,h⟩:=cl h
     have hj:=oI hj
     refine ⟨_,(qu h _ (fun Kn hk=>hk) _ (fun ρ w b hb=> ?_)).2,(eC h).2⟩
     rw [qh hb]
     simp [AV.af,A0.af,Cell.af,Instr.indexAt,asIntOf,hT.u ht,hd,Instr.sureAddr,hj,hT.sz mW,BH]
    ·rename_i m jj q
     obtain ⟨hj,h⟩:=cl h
     have hj:=oI hj
     obtain ⟨_,_,_,_,_,hk⟩:=eE h
     have hf: ∀(ρ:Env) (w:World) (a:Addr),(ρ m).base=some a->(Instr.indexAt t ((AV.v (.one (.br m jj q))).af ρ) ((AV.v (.one (.raw (.int kk j)))).af ρ)).run P w= .ok (.pointer (some (a.add (jj*(ρ m).es+(q+j.toNat*ei.size))))) w:=fun ρ w a ha=>by
      rw [iV ha]
      simp [AV.af,A0.af,Cell.af,Instr.indexAt,asIntOf,hT.u ht,hd,Instr.sureAddr,hj,hT.sz mW,eY,Nat.add_assoc]
     split at hk
     ·exact ⟨_,LM h _ (fun Kn hk=>hk) _ (fun ρ w a u _ _ ha _=>hf ρ w a ha),hk⟩
     ·exact ⟨_,Zv h _ (fun Kn hk=>hk) _ (fun ρ w a u _ _ ha _=>hf ρ w a ha),hk⟩
    ·rename_i m jj q
     obtain ⟨hj,h⟩:=cl h
     have hj:=oI hj
     obtain ⟨_,_,_,_,_,hk⟩:=eE h
     refine ⟨_,LM h _ (fun Kn hk=>hk) _ (fun ρ w a u _ _ ha _=> ?_),hk⟩
     rw [qy ha]
     simp [AV.af,A0.af,Cell.af,Instr.indexAt,asIntOf,hT.u ht,hd,Instr.sureAddr,hj,hT.sz mW,eY,Nat.add_assoc]
    ·exact h.elim
   ·exact h.elim
  ·rename_i e hd
   split at h
   ·rename_i ei mW
    split at h
    ·rename_i m off len cap
     obtain ⟨hj,h⟩:=cl h
     have hj:=oI hj
     have hk:=(eC h).2
     have hf: ∀(ρ:Env) (w:World) b,(ρ m).bR=some b->(Instr.indexAt t ((AV.v (.one (.sl m off len cap))).af ρ) ((AV.v (.one (.raw (.int kk j)))).af ρ)).run P w= .ok (.pointer (some ⟨b,off+j.toNat*ei.size,none⟩)) w:=fun ρ w b hb=>by
      simp [AV.af,A0.af,Cell.af,addrOf,hb,Instr.indexAt,asIntOf,hT.u ht,hd,hj,hT.sz mW,BH]
     split at hk
     ·exact ⟨_,(qu h _ (fun Kn hk=>hk) _ hf).2,hk⟩
     ·exact ⟨_,(qu h _ (fun Kn hk=>hk) _ hf).1,hk⟩
    ·rename_i p
     obtain ⟨m,s,q,t0,l0,rk0,len,tc,he0,h,hm1,hm2,_,_,_,_,_,pA⟩:=sI h
     obtain ⟨hj,h⟩:=cl h
     have hj:=oI hj
     obtain ⟨t1,l1,rk1,he1,hj1,hk⟩:=eE h
     rw [he0] at he1
     have he1:=Option.some.inj he1
     have hu:=rk0.2.uniq (he1▸rk1.2)
     cases hu
     split at hk
     ·rename_i hsz
      refine ⟨_,aS.pure ?_,hk⟩
      intro aC W ρ Kn Γ w _ hk kI hst
      obtain ⟨g1,g2,g3,g4,g5,g6,g7,g8⟩:=pA aC W ρ Kn Γ w kI hst
      obtain ⟨a,b,ha,hb,hab⟩:=g8 j.toNat (by omega)
      refine ⟨?_,g6⟩
      rw [iV ha]
      simp [AV.af,A0.af,Cell.af,hb,Instr.indexAt,asIntOf,hT.u ht,hd,g4,hj,hT.sz mW,hsz,hab,g2]
     ·exact hk.elim
    ·exact (cl h).2.elim
    ·exact h.elim
   ·exact h.elim
  ·exact h.elim
 ·exact h.elim
theorem amJ (s:ByteArray) (i:Nat) (h:i<s.size):s[i]=s.get! i:=by
 obtain ⟨d⟩:=s
 exact (getElem!_pos d i h).symm
theorem Wy (hT:aW P ctx.tt) {t:TypeId} {i:TI} (ht:aJ ctx.tt t=some i) {x ix:AV} {lit:Bool} (h:Wx ctx i x ix lit k):
  ∃r,aS P ctx.X hp nm (fun Kn=>x.ok Kn) (fun ρ=>Instr.index t (x.af ρ) (ix.af ρ)) (fun ρ=>r.val.af ρ) r/\ k r:=by
 unfold Wx at h
 split at h
 ·rename_i kk j
  split at h
  ·rename_i n e cs hd
   split at h
   ·rename_i ei mW
    obtain ⟨hj,h⟩:=cl h
    have hj:=oI hj
    have aiD:OW ei cs (j.toNat*ei.size) k-> ∃r,aS P ctx.X hp nm (fun Kn=>(AV.v (.agg cs)).ok Kn) (fun ρ=>Instr.index t ((AV.v (.agg cs)).af ρ) ((AV.v (.one (.raw (.int kk j)))).af ρ)) (fun ρ=>r.val.af ρ) r/\ k r:=fun h=>by
     obtain ⟨v,hk,hrun,hok⟩:=OX hT mW h
     refine ⟨_,aS.pure ?_,hk⟩
     intro aC W ρ Kn Γ w _ hk kI hst
     refine ⟨?_,hok Kn hk⟩
     simp [AV.af,A0.af,Cell.af,Instr.index,asIntOf,hT.u ht,hd,hj,hT.sz mW,hrun]
    split at h
    ·exact aiD h
    split at h
    ·rename_i ns hns
     split at h
     ·rename_i hlen
      split at h
      ·rename_i v hv
       refine ⟨_,aS.pure ?_,h⟩
       intro aC W ρ Kn Γ w _ hk kI hst
       have ecs:=iW ρ cs _ hns
       have FC:cs.length=ns.length:=by rw [ecs];simp
       have hb:j.toNat*ei.size+ei.size<=n*ei.size:=by rw [<- Nat.succ_mul];exact Nat.mul_le_mul_right _ (by omega)
       have bE:sM ns (j.toNat*ei.size) ei.size=(cs.drop (j.toNat*ei.size)).take ei.size:=by rw [zj _ _ _ (by omega),<- ecs]
       rw [bE] at hv
       have hrun:(part e (cs.map (Cell.af ρ)).toArray (j.toNat*ei.size)).run P w= .ok (v.af ρ) w:=by
        refine qW hT mW _ _ ?_ w
        unfold xQ at hv
        unfold valOf
        split at hv
        ·rename_i ha
         cases hv
         rw [if_pos ha];simp [AV.af,A0.af,List.map_take,List.map_drop]
        ·rename_i ha
         rw [if_neg ha]
         split at hv
         ·rename_i c hc
          cases hv
          have:=congrArg (List.map (Cell.af ρ)) hc
          simp only [List.map_take,List.map_drop,List.map_cons,List.map_nil] at this
          rw [this];rfl
         ·cases hv
       refine ⟨?_,?_⟩
       ·simp [AV.af,A0.af,Cell.af,Instr.index,asIntOf,hT.u ht,hd,hj,hT.sz mW] at hrun ⊢
        exact hrun
       ·have pA: ∀c∈(cs.drop (j.toNat*ei.size)).take ei.size,c.ok Kn:=fun c hc=>hk c (List.mem_of_mem_drop (List.mem_of_mem_take hc))
        unfold xQ at hv
        split at hv
        ·cases hv;exact pA
        ·split at hv
         ·rename_i c hc;cases hv;exact pA c (by rw [hc];simp)
         ·cases hv
      ·exact h.elim
     ·exact h.elim
    ·exact aiD h
   ·exact h.elim
  ·rename_i s hd
   obtain ⟨hj,h⟩:=cl h
   have hj:=oI hj
   refine ⟨_,aS.pure ?_,h⟩
   intro aC W ρ Kn Γ w _ hk kI hst
   refine ⟨?_,trivial⟩
   have hlt:j.toNat<s.size:=by omega
   have e1:s[j.toNat]? =some (s.get! j.toNat):=by
    rw [getElem?_pos s j.toNat hlt]
    simp only [Option.some.injEq]
    exact amJ s _ hlt
   simp [AV.af,A0.af,Cell.af,Instr.index,asIntOf,hT.u ht,hd,hj.1,e1,iI]
  ·exact h.elim
 ·exact h.elim
def JG (P:Program) (b:Option AV) (top dflt m:Nat):Prop:=match b with
 |none=>m=dflt
 |some v=> ∀(ρ:Env) (c:BoundsCode) (w:World),(Instr.sliceBound (v.af ρ) top c).run P w= .ok m w
theorem dz {b:Option AV} {top dflt:Nat} {kk:Nat->Prop} (h:xj b top dflt kk): ∃m,kk m/\ (dflt<=top->m<=top)/\ ∀top',top<=top'->JG P b top' dflt m:=by
 unfold xj at h
 split at h
 ·exact ⟨_,h,fun h=>h,fun _ _=>rfl⟩
 ·obtain ⟨h1,h2⟩:=cl h
  simp only [Bool.and_eq_true,decide_eq_true_eq] at h1
  exact ⟨_,h2,fun _=>by omega,fun top' ht ρ c w=>by simp only [AV.af,A0.af,Cell.af,Instr.sliceBound,asIntOf,Sem.run_bind,Sem.run_pure,Result.andThen_ok];rw [if_pos (by omega)];rfl⟩
 ·exact h.elim
theorem qV {isS:Bool} {len cap:Nat} {lo hi mx:Option AV} {c h l:Nat} (hm:JG P mx cap cap c) (hh:JG P hi (if mx.isSome then c else cap) len h) (hl:JG P lo h 0 l)
  (hmh:mx.isSome=true->hi.isSome=true) (ρ:Env) (w:World):
  (Instr.sliceBounds isS len cap (lo.map (AV.af ρ)) (hi.map (AV.af ρ)) (mx.map (AV.af ρ))).run P w= .ok (l,h,c) w:=by
 unfold Instr.sliceBounds
 cases mx with
 |none=>
  have hc:c=cap:=hm
  subst hc
  cases hi with
  |none=>
   have:h=len:=hh
   subst this
   cases lo with
   |none=>have:l=0:=hl;subst this;simp
   |some v=>simp [hl ρ]
  |some v=>
   have IS: ∀(ρ:Env) (cc:BoundsCode) (w:World),(Instr.sliceBound (v.af ρ) c cc).run P w= .ok h w:=hh
   cases lo with
   |none=>have:l=0:=hl;subst this;simp [IS ρ]
   |some v=>simp [IS ρ,hl ρ]
 |some mv=>
  have hm': ∀(ρ:Env) (cc:BoundsCode) (w:World),(Instr.sliceBound (mv.af ρ) cap cc).run P w= .ok c w:=hm
  cases hi with
  |none=>exact absurd (hmh rfl) (by simp)
  |some v=>
   have IS: ∀(ρ:Env) (cc:BoundsCode) (w:World),(Instr.sliceBound (v.af ρ) c cc).run P w= .ok h w:=hh
   cases lo with
   |none=>have:l=0:=hl;subst this;simp [hm' ρ,IS ρ]
   |some v=>simp [hm' ρ,IS ρ,hl ρ]
theorem VW (ρ:Env) (n off m:Nat):(addrOf ρ n off).map (·.add m)=addrOf ρ n (off+m):=by
 unfold addrOf;cases (ρ n).bR<;>simp [BH]
theorem abi (s:Option Nat) (j:Nat):iL s j=iL s 0+j:=by cases s<;>simp [iL]
theorem KX (hT:aW P ctx.tt) {t:TypeId} {i ei:TI} {e:TypeId} (ht:aJ ctx.tt t=some i) (hd:i.desc= .slice e) (mW:aJ ctx.tt e=some ei) {p m:Nat} {s q':Option Nat} {len h' l':Nat} {tc:List Nat} {lo hi mx:Option AV} {u:Ty} {l:List u.T} {rk:Nat}
  (he:hp m=some (.row u l rk)) (hm:m∈tc) (hlen:len<=l.length- iL s 0) (hsz:ei.size=u.size)
  (pA: ∀aC W ρ Kn Γ w,(∀m∈tc,Γ m=hp m)->St aC W ρ Kn Γ w->(ρ m).len=l.length/\ (ρ m).es=u.size/\ (ρ p).es=u.size/\ (ρ p).len=len/\ len<=(ρ p).cap/\ Kn m/\ Kn p/\ ∀j,j<len-> ∃a b,(ρ m).base=some a/\ (ρ p).base=some b/\ b.add (j*u.size)=a.add (iL s j*u.size))
  (hb: ∀cap,len<=cap-> ∃c,h'<=c/\ c<=cap/\ JG P mx cap cap c/\ JG P hi (if mx.isSome then c else cap) len h') (hmh:mx.isSome=true->hi.isSome=true) (hhl:h'<=len) (hll:l'<=h') (hl:JG P lo h' 0 l') (hq:gy l.length (iL s l') q'=h'- l'):
  aS P ctx.X hp nm (fun Kn=>(AV.v (.one (.full p))).ok Kn) (fun ρ=>Instr.sliceAt t ((AV.v (.one (.full p))).af ρ) (lo.map (AV.af ρ)) (hi.map (AV.af ρ)) (mx.map (AV.af ρ))) (fun ρ=>(AV.v (.one (.full nm))).af ρ) {val:= .v (.one (.full nm)),fresh:= [.alias m (iL s l') q'],aO:=tc} :=by
 refine ⟨fun p hp=>absurd hp (by simp),?_⟩
 intro aC W ρ Kn Γ w _ _ kI hfr hst
 obtain ⟨g1,g2,g3,g4,g5,g6,g7,g8⟩:=pA aC W ρ Kn Γ w kI hst
 have hn: ¬Kn nm:=by simpa using hfr 0 (by simp)
 obtain ⟨c,hc1,hc2,hb0,lX⟩:=hb _ g5
 have hmn:m≠nm:=by rintro rfl;exact hn g6
 let x:Loc:= {bR:=none,base:=if c=l' then (ρ p).base else (ρ p).base.map (·.add (l'*ei.size)),len:=h'- l',cap:=c- l',es:=u.size}
 have hx:b9 ρ nm x nm=x:=by simp [b9]
 have G6:b9 ρ nm x m=ρ m:=by simp [b9,hmn]
 refine ⟨b9 ρ nm x,w,?_,pc hn,.inr (by simp),?_⟩
 ·have hbd:=qV (P:=P) (isS:=true) (len:=len) (cap:=(ρ p).cap) hb0 lX hl hmh ρ w
  show (Instr.sliceAt t (.slice (ρ p).base (ρ p).len (ρ p).cap) (lo.map (AV.af ρ)) (hi.map (AV.af ρ)) (mx.map (AV.af ρ))).run P w= .ok (.slice (b9 ρ nm x nm).base (b9 ρ nm x nm).len (b9 ρ nm x nm).cap) w
  rw [hx,g4]
  simp only [Instr.sliceAt,Sem.run_bind,hT.u ht,Result.andThen_ok,hd,Instr.slice,hbd,hT.sz mW,Sem.run_pure]
  rfl
 ·rw [Df]
  have ea:dO {val:= .v (.one (.full nm)),fresh:= [.alias m (iL s l') q'],aO:=tc} nm Γ=eX Γ nm (.alias m (iL s l') q'):=by
   funext z;simp only [dO,eX,List.length_singleton,dP]
   by_cases h:z=nm
   ·subst h;simp [live]
   ·have: ¬(nm≤z∧z<nm+1):=by omega
    simp [h,this]
  rw [ea]
  refine hst.swap (G:= []) (o:= .alias m (iL s l') q') (x:=x) hn hst.fr (fun _ _ _=>rfl) (fun b hb=>by cases hb) (fun z o hz=> ?_) (.inl g6) (fun _ h=>by cases h) fun _ _=> ?_
  ·unfold eX at hz
   split at hz
   ·rename_i e1;cases hz;exact .inl ⟨e1,rfl⟩
   ·rename_i e1;exact .inr ⟨e1,by simp,hz⟩
  ·rw [dF,hx,G6]
   refine ⟨rfl,?_,g2.symm,?_,fun hlt=> ?_⟩
   ·rw [g1,hq]
   ·show h'- l'<=c- l';omega
   ·have hlt:h'- l'≠0:=hlt
    have hne:c≠l':=by omega
    show (if c=l' then _ else _)=_
    rw [if_neg hne]
    obtain ⟨a,b,ha,hb',hab⟩:=g8 l' (by omega)
    rw [ha,hb']
    simp only [Option.map_some,Option.some.injEq,hsz,hab,g2]
theorem Yd (hT:aW P ctx.tt) {t:TypeId} {i:TI} (ht:aJ ctx.tt t=some i) {x:AV} {lo hi mx:Option AV} (h:Yc ctx i x lo hi mx hp nm k):
  ∃r,aS P ctx.X hp nm (fun Kn=>x.ok Kn) (fun ρ=>Instr.sliceAt t (x.af ρ) (lo.map (AV.af ρ)) (hi.map (AV.af ρ)) (mx.map (AV.af ρ))) (fun ρ=>r.val.af ρ) r/\ k r:=by
 unfold Yc at h
 split at h
 ·rename_i n e hd
  split at h
  ·rename_i ei m off mW
   obtain ⟨hv,h,_,lX⟩:=dz (P:=P) h
   obtain ⟨lv,h,_,kH⟩:=dz (P:=P) h
   obtain ⟨⟨o,ho,pQ⟩,hk⟩:=eC h
   refine ⟨_,aS.pure ?_,hk⟩
   intro aC W ρ Kn Γ w _ hk kI hst
   obtain ⟨b,hb⟩:=pQ _ _ ρ w (hst.at_ m o (by rw [kI m (by simp),ho]))
   refine ⟨?_,hk⟩
   rw [oN hb]
   have hbd:=qV (P:=P) (isS:=false) (len:=n) (cap:=n) (lo:=lo) (hi:=hi) (mx:=none) (c:=n) rfl (lX _ (Nat.le_refl _)) (kH _ (Nat.le_refl _)) (by simp) ρ w
   simp only [Option.map_none] at hbd
   simp only [Instr.sliceAt,Sem.run_bind,hT.u ht,Result.andThen_ok,hd,Instr.sureAddr,Sem.run_pure,Option.map_none,hbd,hT.sz mW,AV.af,A0.af,Cell.af,addrOf,hb,Option.map_some]
   split<;>simp [BH]
  ·exact h.elim
 ·rename_i e hd
  split at h
  ·rename_i ei m off len cap mW
   obtain ⟨cv,h,_,hb0⟩:=dz (P:=P) h
   obtain ⟨hv,h,_,lX⟩:=dz (P:=P) h
   obtain ⟨lv,h,_,kH⟩:=dz (P:=P) h
   split at h
   ·exact h.elim
   rename_i hmh
   refine ⟨_,aS.pure ?_,h⟩
   intro aC W ρ Kn Γ w _ hk kI hst
   refine ⟨?_,hk⟩
   have hbd:=qV (P:=P) (isS:=true) (hb0 _ (Nat.le_refl _)) (lX _ (Nat.le_refl _)) (kH _ (Nat.le_refl _)) (fun h1=>by
    cases hi with
    |none=>simp [h1] at hmh
    |some a=>rfl) ρ w
   simp only [Instr.sliceAt,Sem.run_bind,hT.u ht,Result.andThen_ok,hd,Instr.slice,hbd,hT.sz mW,AV.af,A0.af,Cell.af,Sem.run_pure]
   split<;>simp [VW]
  ·rename_i ei p mW
   obtain ⟨m,s,q,u,l,rk,len,tc,he,h,hm1,hm2,_,hq0,hlen,_,_,pA⟩:=sI h
   obtain ⟨u',l',rk',he',hsz,h⟩:=VL h
   rw [he] at he'
   have VP:=Option.some.inj he'
   have hu:=FH.row (VP▸rk.2)
   cases hu
   rw [VP] at he
   have hz:=abi s
   split at h
   ·split at h
    ·obtain ⟨lv,h,hlv,kH⟩:=dz (P:=P) h
     refine ⟨_,KX (h':=len) (l':=lv) hT ht hd mW he hm1 hlen hsz pA (fun cap hcap=>⟨cap,hcap,Nat.le_refl _,rfl,rfl⟩) (by simp) (Nat.le_refl _) (hlv (Nat.zero_le _)) (kH _ (Nat.le_refl _)) ?_,h⟩
     have:=hlv (Nat.zero_le _)
     have h1:=hz lv
     cases q with
     |none=>have:=hq0 rfl;simp only [Option.map_none,gy];omega
     |some q=>simp only [Option.map_some,gy];omega
    ·rename_i hv0
     obtain ⟨hv,h,hhv,lX⟩:=dz (P:=P) h
     obtain ⟨lv,h,hlv,kH⟩:=dz (P:=P) h
     have:=hlv (Nat.zero_le _)
     have h2:=hhv (Nat.le_refl _)
     refine ⟨_,KX (h':=hv) (l':=lv) hT ht hd mW he hm1 hlen hsz pA (fun cap hcap=>⟨cap,by omega,Nat.le_refl _,rfl,lX _ hcap⟩) (by simp) h2 this (kH _ (Nat.le_refl _)) ?_,h⟩
     have h1:=hz lv
     simp only [gy];omega
   ·rename_i mx0
    obtain ⟨cv,h,hcv,hb0⟩:=dz (P:=P) h
    obtain ⟨hv,hg1,hhv,lX⟩:=dz (P:=P) h
    obtain ⟨lv,hg2,hlv,kH⟩:=dz (P:=P) hg1
    split at hg2
    ·exact hg2.elim
    rename_i hmh
    clear h hg1
    have:=hlv (Nat.zero_le _)
    have h2:=hhv (Nat.zero_le _)
    have h3:=hcv (Nat.le_refl _)
    obtain ⟨hi0,rfl⟩: ∃a,hi=some a:=by
     cases hi with
     |none=>exact absurd rfl hmh
     |some a=>exact ⟨a,rfl⟩
    refine ⟨_,KX (h':=hv) (l':=lv) hT ht hd mW he hm1 hlen hsz pA (fun cap hcap=>⟨cv,h2,by omega,hb0 _ hcap,lX _ (Nat.le_refl _)⟩) (by simp) (by omega) this (kH _ (Nat.le_refl _)) ?_,hg2⟩
    have h1:=hz lv
    simp only [gy];omega
  ·rename_i ei c mW
   split at h
   ·obtain ⟨hv,h,_,lX⟩:=dz (P:=P) h
    obtain ⟨lv,hg2,_,kH⟩:=dz (P:=P) h
    split at hg2
    ·rename_i hc
     clear h
     obtain ⟨rfl,rfl,rfl⟩:=hc
     refine ⟨_,aS.pure ?_,hg2⟩
     intro aC W ρ Kn Γ w _ hk kI hst
     refine ⟨?_,trivial⟩
     have hbd:=qV (P:=P) (isS:=true) (len:=0) (cap:=0) (lo:=lo) (hi:=hi) (mx:=none) (c:=0) rfl (lX _ (Nat.le_refl _)) (kH _ (Nat.le_refl _)) (by simp) ρ w
     simp only [Option.map_none] at hbd
     simp [Instr.sliceAt,hT.u ht,hd,Instr.slice,hbd,hT.sz mW,AV.af,A0.af,Cell.af]
    ·exact hg2.elim
   ·exact h.elim
  ·exact h.elim
 ·rename_i hd
  split at h
  ·rename_i s
   obtain ⟨hv,h,_,lX⟩:=dz (P:=P) h
   obtain ⟨lv,h,_,kH⟩:=dz (P:=P) h
   refine ⟨_,aS.pure ?_,h⟩
   intro aC W ρ Kn Γ w _ hk kI hst
   refine ⟨?_,trivial⟩
   have hbd:=qV (P:=P) (isS:=false) (len:=s.size) (cap:=s.size) (lo:=lo) (hi:=hi) (mx:=none) (c:=s.size) rfl (lX _ (Nat.le_refl _)) (kH _ (Nat.le_refl _)) (by simp) ρ w
   simp only [Option.map_none] at hbd
   simp [Instr.sliceAt,hT.u ht,hd,Instr.slice,hbd,AV.af,A0.af,Cell.af]
  ·exact h.elim
 ·exact h.elim
theorem CP (hT:aW P ctx.tt): ∀(d:Nat) (t:TypeId) (xs ys:List Cell) (b:Bool),eqE ctx.tt d t xs ys=some b-> ∀(D:Nat),d<=D-> ∀(ρ:Env) (w:World),
  ∃i,aJ ctx.tt t=some i/\ ∃u v,valOf i.desc (xs.map (Cell.af ρ))=some u/\ valOf i.desc (ys.map (Cell.af ρ))=some v/\ (Op.equalIn D t u v).run P w= .ok b w
 |0,_,_,_,_,h,_,_,_,_=>by simp [eqE] at h
 |d+1,t,xs,ys,b,h,D,hD,ρ,w=>by
  obtain ⟨D,rfl⟩: ∃D',D=D'+1:=⟨D- 1,by omega⟩
  simp only [eqE] at h
  split at h
  ·cases h
  ·rename_i i hi
   refine ⟨i,hi,?_⟩
   have hu:=(hT t i hi).1
   split at h
   ·rename_i k0 hd
    split at h
    ·rename_i k1 a k2 b'
     split at h
     ·rename_i hk;subst hk
      cases h
      refine ⟨.int k1 a,.int k1 b',by simp [valOf,hd,aR,Cell.af],by simp [valOf,hd,aR,Cell.af],?_⟩
      exact run_equalIn_int w D t k1 k0 a b' (by rw [hu,hd])
     ·cases h
    ·cases h
   ·rename_i hd
    split at h
    ·rename_i a b'
     cases h
     refine ⟨.bool a,.bool b',by simp [valOf,hd,aR,Cell.af],by simp [valOf,hd,aR,Cell.af],?_⟩
     exact run_equalIn_bool' w D t a b' (by rw [hu,hd])
    ·cases h
   ·rename_i hd
    split at h
    ·rename_i a b'
     cases h
     refine ⟨.string a,.string b',by simp [valOf,hd,aR,Cell.af],by simp [valOf,hd,aR,Cell.af],?_⟩
     rw [run_equalIn_string w D t a b' (by rw [hu,hd]),beq_toListBytes]
    ·cases h
   ·rename_i fs hd
    refine ⟨.agg (xs.map (Cell.af ρ)).toArray,.agg (ys.map (Cell.af ρ)).toArray,by simp [valOf,hd,aR],by simp [valOf,hd,aR],?_⟩
    have hfs:P.underlying t=some (.struct (P.fieldsOf t)):=by
     have e0:P.underlying t=some (.struct fs):=by rw [hu,hd]
     rw [e0];simp [Program.fieldsOf,e0]
    have hfo:P.fieldsOf t=fs:=by
     have e0:P.underlying t=some (.struct fs):=by rw [hu,hd]
     simp [Program.fieldsOf,e0]
    have uI:P.stoodInHeld t=false:=by
     obtain ⟨_,_,inf,_,_,_,_,hh⟩:=hT t i hi
     exact (hh (by rw [hd];rfl)).1
    rw [run_equalIn_struct w D t _ _ hfs uI,hfo]
    generalize fs.toList=l at h
    clear hfs hfo hd hu
    induction l generalizing b with
    |nil=>simp only [eqFields,Option.some.injEq] at h;subst h;simp [Op.eqFields]
    |cons f r ih=>
     simp only [eqFields] at h
     split at h
     ·cases h
     ·rename_i fi Ri
      split at h
      ·cases h
      ·rename_i hnm
       split at h
       ·rename_i b1 b2 h1 h2
        cases h
        obtain ⟨fi',adO,u,v,hu1,hv1,hr⟩:=CP hT d f.type _ _ b1 h1 D (by omega) ρ w
        rw [Ri] at adO;cases adO
        rw [eG] at hu1 hv1
        simp only [Op.eqFields,ne_eq,hnm,not_false_eq_true,if_true,Sem.run_bind,qW hT Ri _ _ hu1,qW hT Ri _ _ hv1,Result.andThen_ok,hr]
        cases b1 with
        |true=>simpa using ih b2 h2
        |false=>simp
       ·cases h
   ·rename_i n e hd
    split at h
    ·rename_i ei mW
     refine ⟨.agg (xs.map (Cell.af ρ)).toArray,.agg (ys.map (Cell.af ρ)).toArray,by simp [valOf,hd,aR],by simp [valOf,hd,aR],?_⟩
     have e0:P.underlying t=some (.array n e):=by rw [hu,hd]
     simp only [Op.equalIn,Sem.run_bind,run_underlying e0,Result.andThen_ok,hT.sz mW]
     rw [Std.Legacy.Range.forIn_eq_forIn_range']
     simp only [Std.Legacy.Range.size,Nat.sub_zero,Nat.add_sub_cancel,Nat.div_one]
     clear hd e0 hu
     generalize 0=s at h ⊢
     induction n generalizing s b with
     |zero=>simp only [CQ,Option.some.injEq] at h;subst h;simp
     |succ n ih=>
      simp only [CQ] at h
      split at h
      ·rename_i b1 b2 h1 h2
       cases h
       obtain ⟨ei',adN,u,v,hu1,hv1,hr⟩:=CP hT d e _ _ b1 h1 D (by omega) ρ w
       rw [mW] at adN;cases adN
       rw [eG] at hu1 hv1
       simp only [List.range'_succ,List.forIn_cons,Sem.run_bind,qW hT mW _ _ hu1,qW hT mW _ _ hv1,Result.andThen_ok,hr]
       cases b1 with
       |true=>simpa using ih b2 (s+1) h2
       |false=>simp
      ·cases h
    ·cases h
   ·cases h
theorem dZ (op:BinOp) (t:TypeId) (x y:Operand) (a b:Value) (w:World) (h: ∀c,a≠ .agg c) (h2:a≠ .nilIface):(eqGuard op t x y a b).run P w= .ok () w:=by
 unfold eqGuard
 cases op<;>simp<;>cases a<;>simp_all
theorem adl (hT:aW P ctx.tt) {t:TypeId} {xs ys:List Cell} {b:Bool} (h:eqE ctx.tt 20 t xs ys=some b) (ho: ∃i,aJ ctx.tt t=some i/\ aR i.desc=true) (ρ:Env) (w:World) (x y:Operand):
  (∀op,(eqGuard op t x y (.agg (xs.map (Cell.af ρ)).toArray) (.agg (ys.map (Cell.af ρ)).toArray)).run P w= .ok () w)/\
  (Op.equalIn 10000 t (.agg (xs.map (Cell.af ρ)).toArray) (.agg (ys.map (Cell.af ρ)).toArray)).run P w= .ok b w:=by
 obtain ⟨i,hi,ha⟩:=ho
 obtain ⟨_,_,inf,_,_,_,_,hh⟩:=hT t i hi
 obtain ⟨i',hi',u,v,hu,hv,hr⟩:=CP hT 20 t xs ys b h 10000 (by omega) ρ w
 rw [hi] at hi';cases hi'
 simp only [valOf,ha,if_true,Option.some.injEq] at hu hv
 subst hu;subst hv
 exact ⟨fun op=>run_eqGuard_agg w op t x y _ _ (hh ha).2,hr⟩
theorem WI {op:BinOp} {kk:IntKind} {a b:Int} (h:WH op kk a b k) (t:TypeId) (x y:Operand):
  ∃r,aS P ctx.X hp nm (fun _=>True) (fun _=>do eqGuard op t x y (.int kk a) (.int kk b);binOp op t (.int kk a) (.int kk b)) (fun ρ=>r.val.af ρ) r/\ k r:=by
 have hg: ∀w,(eqGuard op t x y (.int kk a) (.int kk b)).run P w= .ok () w:=fun w=>dZ op t x y _ _ w (by simp) (by simp)
 unfold WH at h
 split at h
 case h_4|h_5=>
  obtain ⟨hb,h⟩:=cl h
  have hb:=of_decide_eq_true hb
  refine ⟨_,aS.pure ?_,h⟩
  intro aC W ρ Kn Γ w _ _ _ _
  refine ⟨?_,trivial⟩
  simp [hg,binOp,Op.intDiv,hb,iI,AV.af,A0.af,Cell.af]
 case h_16=>exact h.elim
 all_goals
  refine ⟨_,aS.pure ?_,h⟩
  intro aC W ρ Kn Γ w _ _ _ _
  refine ⟨?_,trivial⟩
  simp [hg,binOp,Op.intArith,Op.intCmp,Op.intBits,iI,cf,AV.af,A0.af,Cell.af]
theorem NZ {tt:List (Nat×TI)} {t:TypeId} (h:agE tt t=true): ∃i,aJ tt t=some i/\ aR i.desc=true:=by
 unfold agE at h;split at h
 ·exact ⟨_,‹_›,h⟩
 ·cases h
theorem om (hT:aW P ctx.tt) {t:TypeId} {i:TI} (ht:aJ ctx.tt t=some i) {e:TypeId} (hd:i.desc= .slice e) (a:Option Addr) (n c n' c':Nat) (w:World):
  (Op.equal t (.slice a n c) (.slice none n' c')).run P w= .ok a.isNone w:=by
 have hu:=(hT t i ht).1
 rw [hd] at hu
 show (Op.equalIn (9999+1) t (.slice a n c) (.slice none n' c')).run P w=_
 rw [Op.equalIn]
 simp only [Sem.run_bind,run_underlying hu,Result.andThen_ok]
 cases a<;>simp
theorem ac2 (hT:aW P ctx.tt) {op:BinOp} {t:TypeId} {x y:AV} {ox oy:Operand} (h:ai4 ctx op t x y k):
    ∃r,aS P ctx.X hp nm (fun _=>True) (fun ρ=>do eqGuard op t ox oy (x.af ρ) (y.af ρ);binOp op t (x.af ρ) (y.af ρ)) (fun ρ=>r.val.af ρ) r/\ k r:=by
  unfold ai4 at h
  split at h
  · rename_i kk a k' b
    have hg: ∀op w,(eqGuard op t ox oy (.int kk a) (.int k' b)).run P w= .ok () w:=fun op w=>dZ op t ox oy _ _ w (by simp) (by simp)
    split at h
    · obtain ⟨hb,h⟩:=cl h
      have hb:=of_decide_eq_true hb
      refine ⟨_,aS.pure ?_,h⟩
      intro aC W ρ Kn Γ w _ _ _ _
      refine ⟨?_,trivial⟩
      simp [AV.af,A0.af,Cell.af,hg,binOp,Op.shift,Int.not_lt.2 hb,iI]
    · obtain ⟨hb,h⟩:=cl h
      have hb:=of_decide_eq_true hb
      refine ⟨_,aS.pure ?_,h⟩
      intro aC W ρ Kn Γ w _ _ _ _
      refine ⟨?_,trivial⟩
      simp [AV.af,A0.af,Cell.af,hg,binOp,Op.shift,Int.not_lt.2 hb,iI]
    · split at h
      · rename_i hk;subst hk
        exact WI h t ox oy
      · exact h.elim
  · rename_i a b
    have hg: ∀op w,(eqGuard op t ox oy (.bool a) (.bool b)).run P w= .ok () w:=fun op w=>dZ op t ox oy _ _ w (by simp) (by simp)
    split at h
    all_goals first
      |exact h.elim
      | (split at h
         · rename_i i hi
           split at h
           · rename_i hd
             refine ⟨_,aS.pure ?_,h⟩
             intro aC W ρ Kn Γ w _ _ _ _
             refine ⟨?_,trivial⟩
             have hu:=(hT t i hi).1
             rw [hd] at hu
             simp [AV.af,A0.af,Cell.af,hg,binOp,Op.equal,Op.maxDepth,run_equalIn_bool' w 9999 t a b hu,cf]
           · exact h.elim
         · exact h.elim)
  · rename_i a b
    have hg: ∀op w,(eqGuard op t ox oy (.string a) (.string b)).run P w= .ok () w:=fun op w=>dZ op t ox oy _ _ w (by simp) (by simp)
    split at h
    case h_3=>
      obtain ⟨hb,h⟩:=cl h
      have hb:=of_decide_eq_true hb
      refine ⟨_,aS.pure ?_,h⟩
      intro aC W ρ Kn Γ w _ _ _ _
      refine ⟨?_,trivial⟩
      have: ¬IntKind.i64.max<((a.size+b.size:Nat):Int):=by show¬(9223372036854775807:Int)<_;omega
      simp only [AV.af,A0.af,Cell.af,Sem.run_bind,hg,Result.andThen_ok,binOp,Op.stringOp,gt_iff_lt,this,if_false,Sem.run_pure]
    all_goals first
      |exact h.elim
      | (refine ⟨_,aS.pure ?_,h⟩
         intro aC W ρ Kn Γ w _ _ _ _
         refine ⟨?_,trivial⟩
         simp [AV.af,A0.af,Cell.af,hg,binOp,Op.stringOp,cf,bne,beq_toListBytes])
  · rename_i xs ys
    split at h
    · split at h
      · rename_i b ha hb
        refine ⟨_,aS.pure ?_,h⟩
        intro aC W ρ Kn Γ w _ _ _ _
        refine ⟨?_,trivial⟩
        obtain ⟨h1,h2⟩:=adl (P:=P) hT hb (NZ ha) ρ w ox oy
        simp only [AV.af,A0.af,Cell.af,Sem.run_bind,h1,Result.andThen_ok,run_eql_struct,h2,cf]
      · exact h.elim
    · split at h
      · rename_i b ha hb
        refine ⟨_,aS.pure ?_,h⟩
        intro aC W ρ Kn Γ w _ _ _ _
        refine ⟨?_,trivial⟩
        obtain ⟨h1,h2⟩:=adl (P:=P) hT hb (NZ ha) ρ w ox oy
        simp only [AV.af,A0.af,Cell.af,Sem.run_bind,h1,Result.andThen_ok,run_neq_struct,h2,cf]
      · exact h.elim
    · exact h.elim
  · rename_i a n1 c1 n2 c2
    split at h
    · rename_i i hi
      split at h
      · rename_i e hd
        refine ⟨_,aS.pure ?_,h⟩
        intro aC W ρ Kn Γ w _ _ _ _
        refine ⟨?_,trivial⟩
        have hg: ∀op w,(eqGuard op t ox oy (.slice a n1 c1) (.slice none n2 c2)).run P w= .ok () w:=fun op w=>dZ op t ox oy _ _ w (by simp) (by simp)
        simp [AV.af,A0.af,Cell.af,hg,binOp,om hT hi hd,cf]
      · rename_i e hd
        refine ⟨_,aS.pure ?_,h⟩
        intro aC W ρ Kn Γ w _ _ _ _
        refine ⟨?_,trivial⟩
        have hg: ∀op w,(eqGuard op t ox oy (.slice a n1 c1) (.slice none n2 c2)).run P w= .ok () w:=fun op w=>dZ op t ox oy _ _ w (by simp) (by simp)
        simp [AV.af,A0.af,Cell.af,hg,binOp,om hT hi hd,cf]
      · exact h.elim
    · exact h.elim
  · exact h.elim
theorem uY (f:Int->Int->Int) (g:Value->Value->Sem Value) (hg: ∀kk x k' y w,(g (.int kk x) (.int k' y)).run P w= .ok (.int kk (f x y)) w) (ρ:Env) (kk:IntKind):
  ∀(l:List AV) (a n:Int),zz f a l=some n-> ∀w,((l.map (AV.af ρ)).foldlM g (.int kk a)).run P w= .ok (.int kk n) w
 | [],a,n,h,w=>by simp only [zz,Option.some.injEq] at h;subst h;simp
 |x::r,a,n,h,w=>by
  unfold zz at h
  split at h
  ·simp_all
  ·rename_i k' b r' heq
   cases heq
   have ih:=uY f g hg ρ kk r _ n h w
   simp only [List.map_cons,List.foldlM_cons,Sem.run_bind,AV.af,A0.af,Cell.af,hg,Result.andThen_ok]
   exact ih
  ·cases h
end
end Go.Ev
