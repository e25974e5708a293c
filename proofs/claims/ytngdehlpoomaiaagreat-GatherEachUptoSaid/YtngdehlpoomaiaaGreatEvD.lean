/- More operations: aggregates, indexes, '=='. -/
import Derived.Test.YtngdehlpoomaiaaGreatEvC
noncomputable section
set_option linter.unusedSectionVars false
set_option linter.unusedVariables false
set_option linter.unusedSimpArgs false
namespace Go.Ev
open Go.RowKit
section
variable {P:Program} {ctx:Ctx} {hp:HP} {nm:Nat} {k:Rec->Prop}
theorem V5 (vs:List Value): ∀(off m:Nat) (cs:List Value),(vs.zipIdx m).foldl (fun (a:Array Value) (p:Value×Nat)=>a.setIfInBounds (off+p.2) p.1) cs.toArray=(setCells cs (off+m) vs).toArray:=by
 induction vs with
 |nil=>intro off m cs;rfl
 |cons v r ih=>
  intro off m cs
  simp only [List.zipIdx_cons,List.foldl_cons,setCells]
  rw [List.setIfInBounds_toArray,ih off (m+1)]
  rfl
theorem V3 (place:Nat->Option (Nat×Nat)) (cs:List Value) (i:Nat) (v:Value) (vs:List Value) (rest:List (Nat×Value)) (hv:v.cells=vs.toArray) {off size:Nat}
  (hp:place i=some (off,size)) (hs:vs.length=size) (hl:off+size<=cs.length):
  Instr.fill place cs.toArray ((i,v)::rest)=Instr.fill place (setCells cs off vs).toArray rest:=by
 have: ¬(vs.length≠size\/ off+vs.length>cs.length):=by omega
 simp only [Instr.fill,hp,hv,List.size_toArray]
 have h1:(decide (vs.length≠size)||decide (off+vs.length>cs.length))=false:=by simp;omega
 rw [show ((if (decide (vs.length≠size)||decide (off+vs.length>cs.length))=true then none else _):Option (Array Value))=_ from if_neg (by rw [h1];simp)]
 congr 1
 have:=V5 vs off 0 cs
 simpa using this
theorem rS (place:Nat->Option (Nat×Nat)) (ev:Operand->AV) (ρ:Env): ∀(parts:List (Nat×Operand)) (cs out:List Cell),xl place ev cs parts=some out->
  Instr.fill place (cs.map (Cell.ae ρ)).toArray (parts.map fun p=>(p.1,(ev p.2).ae ρ))=some (out.map (Cell.ae ρ)).toArray
 | [],cs,out,h=>by simp only [xl,Option.some.injEq] at h;subst h;rfl
 |(i,x)::r,cs,out,h=>by
  simp only [xl] at h
  split at h
  ·rename_i off size xs xq hx
   split at h
   ·rename_i h1
    split at h
    ·rename_i h2
     have:=rS place ev ρ r _ _ h
     rw [lS] at this
     simp only [List.map_cons]
     rw [V3 place (cs.map (Cell.ae ρ)) i ((ev x).ae ρ) (xs.map (Cell.ae ρ)) _ (AV.ju hx ρ) xq (by simpa using h1) (by simpa using h2)]
     exact this
    ·cases h
   ·cases h
  ·cases h
theorem zm (place:Nat->Option (Nat×Nat)) (ev:Operand->AV) (Kn:Nat->Prop): ∀(parts:List (Nat×Operand)) (cs out:List Cell),xl place ev cs parts=some out->
  (∀c∈cs,c.ok Kn)->(∀p∈parts,(ev p.2).ok Kn)-> ∀c∈out,c.ok Kn
 | [],cs,out,h,hc,_=>by simp only [xl,Option.some.injEq] at h;subst h;exact hc
 |(i,x)::r,cs,out,h,hc,hv=>by
  simp only [xl] at h
  split at h
  ·rename_i off size xs xq hx
   split at h
   ·rename_i h1
    split at h
    ·rename_i h2
     refine zm place ev Kn r _ _ h (fun c hm=> ?_) (fun p hp=>hv p (by simp [hp]))
     rcases sN (by omega) hm with h3|h3
     ·exact hc c h3
     ·exact AV.za hx (hv (i,x) (by simp)) c h3
    ·cases h
   ·cases h
  ·cases h
theorem Du (v:Value) (ρ:Env):((kE v).map (Cell.ae ρ)).toArray=v.cells:=by
 unfold kE;rw [Ea]
theorem run_places (hT:cP P ctx.tt) (w:World): ∀(fs:List Field),fs.all (fun f=>(aJ ctx.tt f.type).isSome)=true->
  (fs.mapM fun f=>do pure (f.offset,<- sizeOf f.type):Sem (List (Nat×Nat))).run P w= .ok (fs.map fun f=>(f.offset,((aJ ctx.tt f.type).map (·.size)).getD 0)) w
 | [],_=>by simp
 |f::r,h=>by
  simp only [List.all_cons,Bool.and_eq_true] at h
  obtain ⟨fi,L7⟩:=Option.isSome_iff_exists.1 h.1
  have ih:=run_places hT w r h.2
  simp only [List.mapM_cons,Sem.run_bind,hT.sz L7,Result.andThen_ok,Sem.run_pure,ih,List.map_cons,L7,Option.map_some,Option.getD_some]
theorem Rc (hT:cP P ctx.tt) {t:TypeId} {i:TI} (ht:aJ ctx.tt t=some i) {parts:Array (Nat×Operand)} {ev:Operand->AV} (h:Rb ctx i parts.toList ev k):
  ∃r,aL P ctx.X hp nm (fun Kn=> ∀p∈parts.toList,(ev p.2).ok Kn) (fun ρ=>Instr.build t (parts.map fun (i,x)=>(i,(ev x).ae ρ))) (fun ρ=>r.val.ae ρ) r/\ k r:=by
 unfold Rb at h
 split at h
 ·rename_i fs hd
  split at h
  ·rename_i hall
   split at h
   ·rename_i cs hcs
    refine ⟨_,aL.pure ?_,h⟩
    intro au W ρ Kn Γ w _ hk _ _
    refine ⟨?_,zm _ _ _ _ _ _ hcs (MG _ _) hk⟩
    have hs:=rS _ ev ρ _ _ _ hcs
    rw [Du] at hs
    have xq:=run_places hT w fs.toList hall
    have amn:(fs.mapM fun f=>do pure (f.offset,<- sizeOf f.type):Sem (Array (Nat×Nat))).run P w= .ok (fs.map fun f=>(f.offset,((aJ ctx.tt f.type).map (·.size)).getD 0)) w:=by
     rw [Array.mapM_eq_mapM_toList]
     simp only [Sem.run_map,xq,Result.andThen_ok]
     congr 1
     apply Array.ext';simp
    have e2:(fun x:Nat=>(fs.map fun (f:Field)=>(f.offset,((aJ ctx.tt f.type).map (·.size)).getD 0))[x]?)=
      Sx ctx fs:=by
     funext j
     simp only [Array.getElem?_map,Sx]
     cases hj:fs[j]? with
     |none=>rfl
     |some f=>
      have hf:(aJ ctx.tt f.type).isSome=true:=by
       have:=List.all_eq_true.1 hall f (Array.mem_toList_iff.2 (Array.mem_of_getElem? hj));simpa using this
      obtain ⟨fi,L7⟩:=Option.isSome_iff_exists.1 hf
      simp [L7]
    simp only [Instr.build,Sem.run_bind,hT.z ht,Result.andThen_ok,hT.u ht,hd,amn,Array.toList_map]
    rw [e2,hs]
    rfl
   ·exact h.elim
  ·exact h.elim
 ·rename_i n e hd
  split at h
  ·rename_i ei kH
   split at h
   ·rename_i cs hcs
    refine ⟨_,aL.pure ?_,h⟩
    intro au W ρ Kn Γ w _ hk _ _
    refine ⟨?_,zm _ _ _ _ _ _ hcs (MG _ _) hk⟩
    have hs:=rS _ ev ρ _ _ _ hcs
    rw [Du] at hs
    simp only [Instr.build,Sem.run_bind,hT.z ht,Result.andThen_ok,hT.u ht,hd,hT.sz kH,Array.toList_map]
    rw [hs]
    rfl
   ·exact h.elim
  ·exact h.elim
 ·exact h.elim
theorem Ph (ei:TI) (m:Nat) (ρ:Env):(((List.range m).map fun j=>Cell.raw (ei.zero.cells[j % ei.zero.cells.size]!)).map (Cell.ae ρ)).toArray=(Array.range m).map (ei.zero.cells[· % ei.zero.cells.size]!):=by
 apply Array.ext'
 simp [Array.toList_range,Cell.ae]
theorem Pz (ρ:Env) (w:World) (off len cap:Nat):(AV.v (.one (.sl nm off len cap))).ae (bu ρ nm {blk:=some w.heap.size})= .slice (some ⟨w.heap.size,off,none⟩) len cap:=by
 simp [AV.ae,A0.ae,Cell.ae,addrOf,bu]
theorem Dx (hT:cP P ctx.tt) {t:TypeId} {i:TI} (ht:aJ ctx.tt t=some i) {len:Nat} {parts:Array (Nat×Operand)} {ev:Operand->AV} (h:tP ctx i len parts.toList ev nm k):
  ∃r,aL P ctx.X hp nm (fun Kn=> ∀p∈parts.toList,(ev p.2).ok Kn) (fun ρ=>Instr.buildSlice t len (parts.map fun (i,x)=>(i,(ev x).ae ρ))) (fun ρ=>r.val.ae ρ) r/\ k r:=by
 unfold tP at h
 split at h
 ·rename_i e hd
  split at h
  ·rename_i ei kH
   split at h
   ·exact h.elim
   ·rename_i h24
    split at h
    ·exact h.elim
    ·rename_i h0
     split at h
     ·rename_i cs hcs
      refine ⟨_,yg _ _ (.v (.one (.sl nm 0 len len))) _ _ (fun Kn hk=>zm _ _ _ _ _ _ hcs ?_ hk) (fun Kn=>(Or.inr rfl:Ii Kn nm nm)) fun ρ w=> ?_,h⟩
      ·intro c hc;obtain ⟨j,_,rfl⟩:=List.mem_map.1 hc;trivial
      ·rw [Pz]
       have hs:=rS _ ev ρ _ _ _ hcs
       rw [Ph] at hs
       simp only [Instr.buildSlice,Sem.run_bind,hT.u ht,Result.andThen_ok,hd,hT.sz kH,gt_iff_lt,h24,↓reduceIte,h0,hT.z kH,Sem.run_pure,Array.toList_map,hs,newRow,run_newObj,World.alloc_eq]
     ·exact h.elim
  ·exact h.elim
 ·exact h.elim
theorem cJ {n:Nat} {p:Prop} (h:dB hp n p):(∃o,hp n=some o/\ ∀(fz pm:Nat->Prop) (ρ:Env) (w:World),bn fz pm ρ n o w-> ∃b,(ρ n).blk=some b)/\ p:=by
 unfold dB at h
 split at h
 ·rename_i cs e he
  exact ⟨⟨_,he,fun fz pm ρ w ⟨b,hb,_⟩=>⟨b,hb⟩⟩,h⟩
 ·exact h.elim
theorem Gx {fz pm:Nat->Prop} {ρ:Env} {n j:Nat} {t:Ty} {l:List t.T} {rk:Nat} {w:World} (h:bn fz pm ρ n (.row t l rk) w) (hj:j<l.length): ∃a,(ρ n).base=some a:=by
 obtain ⟨_,_,_,sub,m1,_⟩:=h
 have hl:0<(aI sub 0 (az t l)).length:=by
  rw [bI,bB]
  exact Nat.mul_pos (by omega) t.size_pos
 obtain ⟨a,ha,_⟩:=m1 0 _ (List.getElem?_eq_getElem hl)
 exact ⟨a,ha⟩
def yW (t:Ty) (l:List t.T) (o:aG):Prop:=(∃rk,o= .row t l rk)\/ (∃n c k x,o= .gv n c k t x l)\/ ∃c st kn,o= .dp t l c st kn
theorem yW.at {t:Ty} {l:List t.T} {o:aG} (h:yW t l o) {fz pm:Nat->Prop} {ρ:Env} {n:Nat} {w:World} (ho:bn fz pm ρ n o w):(ρ n).len=l.length/\ (ρ n).es=t.size/\ l.length<=(ρ n).cap/\ ∀j,j<l.length-> ∃a,(ρ n).base=some a:=by
 rcases h with ⟨rk,rfl⟩|⟨g,c,k,x,rfl⟩|⟨c,st,kn,rfl⟩
 ·exact ⟨ho.1,ho.2.1,ho.2.2.1,fun j hj=>Gx ho hj⟩
 ·obtain ⟨_,h1,h2,h3,_,h4⟩:=ho
  refine ⟨h1,h2,h3,fun j hj=> ?_⟩
  rcases h4 with ⟨e,_⟩|⟨e,b,_,_,_,h5,h6,_⟩
  ·rw [e] at hj;exact absurd hj (Nat.not_lt_zero _)
  ·exact ⟨_,by rw [<- h5,h6]⟩
 ·obtain ⟨_,h1,h2,h3,_,rb,h4,_⟩:=ho
  exact ⟨h1,h2,h3,fun j hj=>⟨_,h4 (by rintro rfl;exact absurd hj (Nat.not_lt_zero _))⟩⟩
theorem yW.uniq {t t':Ty} {l:List t.T} {l':List t'.T} {o:aG} (h:yW t l o) (h':yW t' l' o):(⟨t,l⟩:Sigma fun t:Ty=>List t.T)=⟨t',l'⟩:=by
 rcases h with ⟨rk,rfl⟩|⟨g,c,k,x,rfl⟩|⟨c,st,kn,rfl⟩<;>rcases h' with ⟨rk',e⟩|⟨g,c,k,x,e⟩|⟨c,st,kn,e⟩<;>cases e<;>rfl
theorem yW.row {t t':Ty} {l:List t.T} {l':List t'.T} {rk:Nat} (h:yW t l (.row t' l' rk)):(⟨t,l⟩:Sigma fun t:Ty=>List t.T)=⟨t',l'⟩:=h.uniq (.inl ⟨rk,rfl⟩)
theorem dD {n j:Nat} {p:Ty->Prop} (h:kC hp n j p): ∃t l,∃o: {o // yW t l o},hp n=some o.1/\ j<l.length/\ p t:=by
 unfold kC at h
 split at h
 ·rename_i t l rk he
  obtain ⟨h1,h2⟩:=bg h
  exact ⟨t,l,⟨_,.inl ⟨rk,rfl⟩⟩,he,by simpa using h1,h2⟩
 ·rename_i g c k t x l he
  obtain ⟨h1,h2⟩:=bg h
  exact ⟨t,l,⟨_,.inr (.inl ⟨g,c,k,x,rfl⟩)⟩,he,by simpa using h1,h2⟩
 ·rename_i t l c st kn he
  obtain ⟨h1,h2⟩:=bg h
  exact ⟨t,l,⟨_,.inr (.inr ⟨c,st,kn,rfl⟩)⟩,he,by simpa using h1,h2⟩
 ·exact h.elim
theorem qd {p:Nat} {kk:(n:Nat)->Option Nat->Option Nat->Nat->List Nat->Prop} (h:Co hp p kk): ∃n s q t l,∃rk: {o // yW t l o},∃len tc,hp n=some rk.1/\ kk n s q len tc/\ n∈tc/\ p∈tc/\ (∀j,j<len->gk s j<l.length)/\ (q=none->len=l.length- gk s 0)/\ len<=l.length- gk s 0/\
  (p=n\/ ∃s',hp p=some (.alias n s' q))/\ (s=none->p=n)/\
  ∀au W ρ Kn Γ w,(∀m∈tc,Γ m=hp m)->St au W ρ Kn Γ w->(ρ n).len=l.length/\ (ρ n).es=t.size/\ (ρ p).es=t.size/\ (ρ p).len=len/\ len<=(ρ p).cap/\ Kn n/\ Kn p/\ ∀j,j<len-> ∃a b,(ρ n).base=some a/\ (ρ p).base=some b/\ b.add (j*t.size)=a.add (gk s j*t.size):=by
 unfold Co at h
 split at h
 ·rename_i t l rk he
  refine ⟨p,none,none,t,l,⟨_,.inl ⟨rk,rfl⟩⟩,_,_,he,h,by simp,by simp,fun j hj=>hj,fun _=>rfl,Nat.le_refl _,.inl rfl,fun _=>rfl,fun au W ρ Kn Γ w ht hst=> ?_⟩
  have bL:Γ p=some (.row t l rk):=by rw [ht p (by simp),he]
  obtain ⟨o1,o2,o3,o4⟩:=hst.at_ p _ bL
  refine ⟨o1,o2,o2,o1,o3,(hst.kn p _ bL).1,(hst.kn p _ bL).1,fun j hj=> ?_⟩
  obtain ⟨a,ha⟩:=Gx (hst.at_ p _ bL) hj
  exact ⟨a,a,ha,ha,rfl⟩
 ·rename_i g c k t x l he
  refine ⟨p,none,none,t,l,⟨_,.inr (.inl ⟨g,c,k,x,rfl⟩)⟩,_,_,he,h,by simp,by simp,fun j hj=>hj,fun _=>rfl,Nat.le_refl _,.inl rfl,fun _=>rfl,fun au W ρ Kn Γ w ht hst=> ?_⟩
  have bL:Γ p=some (.gv g c k t x l):=by rw [ht p (by simp),he]
  obtain ⟨o1,o2,o3,o4⟩:=yW.at (l:=l) (.inr (.inl ⟨g,c,k,x,rfl⟩)) (hst.at_ p _ bL)
  refine ⟨o1,o2,o2,o1,o3,(hst.kn p _ bL).1,(hst.kn p _ bL).1,fun j hj=> ?_⟩
  obtain ⟨a,ha⟩:=o4 j hj
  exact ⟨a,a,ha,ha,rfl⟩
 ·rename_i t l c st kn he
  refine ⟨p,none,none,t,l,⟨_,.inr (.inr ⟨c,st,kn,rfl⟩)⟩,_,_,he,h,by simp,by simp,fun j hj=>hj,fun _=>rfl,Nat.le_refl _,.inl rfl,fun _=>rfl,fun au W ρ Kn Γ w ht hst=> ?_⟩
  have bL:Γ p=some (.dp t l c st kn):=by rw [ht p (by simp),he]
  obtain ⟨o1,o2,o3,o4⟩:=yW.at (l:=l) (.inr (.inr ⟨c,st,kn,rfl⟩)) (hst.at_ p _ bL)
  refine ⟨o1,o2,o2,o1,o3,(hst.kn p _ bL).1,(hst.kn p _ bL).1,fun j hj=> ?_⟩
  obtain ⟨a,ha⟩:=o4 j hj
  exact ⟨a,a,ha,ha,rfl⟩
 ·rename_i n s q he
  split at h
  ·rename_i t l rk Jr
   refine ⟨n,some s,q,t,l,⟨_,.inl ⟨rk,rfl⟩⟩,_,_,Jr,h,by simp,by simp,fun j hj=> ?_,fun e=> ?_,?_,.inr ⟨s,he⟩,fun e=>(by cases e),fun au W ρ Kn Γ w ht hst=> ?_⟩
   ·unfold fc at hj
    simp only [gk]
    split at hj<;>omega
   ·subst e;simp [fc,gk]
   ·show fc l.length s q<=l.length- (s+0);unfold fc;split<;>omega
   ·have aj2:Γ p=some (.alias n s q):=by rw [ht p (by simp),he]
    have bL:Γ n=some (.row t l rk):=by rw [ht n (by simp),Jr]
    obtain ⟨o1,o2,o3,o4⟩:=hst.at_ n _ bL
    obtain ⟨_,p1,p2,p3,p4⟩:=hst.at_ p _ aj2
    refine ⟨o1,o2,by rw [p2,o2],by rw [p1,o1],by rw [p1,o1] at p3;exact p3,(hst.kn n _ bL).1,(hst.kn p _ aj2).1,fun j hj=> ?_⟩
    have hj2:s+j<l.length:=by unfold fc at hj;split at hj<;>omega
    obtain ⟨a,ha⟩:=Gx (hst.at_ n _ bL) hj2
    refine ⟨a,a.add (s*(ρ n).es),ha,?_,?_⟩
    ·rw [p4 (by rw [p1,o1];omega),ha];rfl
    ·rw [dM,o2];simp only [gk,Nat.add_mul]
  ·exact h.elim
 ·exact h.elim
theorem QT {n es:Nat} {p:Prop} (h:S8 hp n es p): ∃t l rk,hp n=some (.row t l rk)/\ es=t.size/\ p:=by
 unfold S8 at h
 split at h
 ·rename_i t l rk he
  split at h
  ·exact ⟨t,l,rk,he,‹_›,h⟩
  ·exact h.elim
 ·exact h.elim
theorem jU {n off:Nat} {p:Prop} (hw:dB hp n p) (CT:(Nat->Prop)->Prop) (hok: ∀Kn,CT Kn->Kn n) (f:Env->Sem Value)
    (hf: ∀(ρ:Env) (w:World) b,(ρ n).blk=some b->(f ρ).run P w= .ok (.pointer (some ⟨b,off,none⟩)) w):
    aL P ctx.X hp nm CT f (fun ρ=>(AV.v (.one (.ptr n off))).ae ρ) {val:= .v (.one (.ptr n off)),aH:= [n]} /\
    aL P ctx.X hp nm CT f (fun ρ=>(AV.v (.one (.lZ n off))).ae ρ) {val:= .v (.one (.lZ n off)),aH:= [n]} :=by
  obtain ⟨⟨o,ho,hb⟩,_⟩:=cJ hw
  constructor
  all_goals
    refine aL.pure ?_
    intro au W ρ Kn Γ w _ hk ja hst
    have bL:Γ n=some o:=by rw [ja n (by simp),ho]
    obtain ⟨b,hb⟩:=hb _ _ ρ w (hst.at_ n o bL)
    exact ⟨by first|rw [mA hb]|rw [nK hb]
              exact hf ρ w b hb,hok Kn hk⟩
theorem gG {ρ:Env} {n j q:Nat} {a:Addr} (ha:(ρ n).base=some a):(AV.v (.one (.cK n j q))).ae ρ= .pointer (some (a.add (j*(ρ n).es+q))):=by
 simp [AV.ae,A0.ae,Cell.ae,ha]
theorem oo {ρ:Env} {n j q:Nat} {a:Addr} (ha:(ρ n).base=some a):(AV.v (.one (.fk n j q))).ae ρ= .pointer (some (a.add (j*(ρ n).es+q))):=by
 simp [AV.ae,A0.ae,Cell.ae,ha]
theorem UF {n j j' q':Nat} {p:Ty->Prop} (hw:kC hp n j p) (CT:(Nat->Prop)->Prop) (hok: ∀Kn,CT Kn->Kn n) (f:Env->Sem Value)
  (hf: ∀(ρ:Env) (w:World) (a:Addr) t,p t->(ρ n).es=t.size->(ρ n).base=some a->(∃(l:List t.T) (rk: {o // yW t l o}),hp n=some rk.1/\ (ρ n).len=l.length/\ l.length<=(ρ n).cap/\ j<l.length)->(f ρ).run P w= .ok (.pointer (some (a.add (j'*(ρ n).es+q')))) w):
  aL P ctx.X hp nm CT f (fun ρ=>(AV.v (.one (.cK n j' q'))).ae ρ) {val:= .v (.one (.cK n j' q')),aH:= [n]} :=by
 obtain ⟨t,l,rk,he,hj,eL⟩:=dD hw
 refine aL.pure ?_
 intro au W ρ Kn Γ w _ hk ja hst
 have bL:Γ n=some rk.1:=by rw [ja n (by simp),he]
 have aO:=rk.2.at (hst.at_ n _ bL)
 obtain ⟨a,ha⟩:=aO.2.2.2 _ hj
 exact ⟨by rw [gG ha];exact hf ρ w a t eL aO.2.1 ha ⟨l,rk,he,aO.1,aO.2.2.1,hj⟩,hok Kn hk⟩
theorem Gy {n j j' q':Nat} {p:Ty->Prop} (hw:kC hp n j p) (CT:(Nat->Prop)->Prop) (hok: ∀Kn,CT Kn->Kn n) (f:Env->Sem Value)
  (hf: ∀(ρ:Env) (w:World) (a:Addr) t,p t->(ρ n).es=t.size->(ρ n).base=some a->(∃(l:List t.T) (rk: {o // yW t l o}),hp n=some rk.1/\ (ρ n).len=l.length/\ l.length<=(ρ n).cap/\ j<l.length)->(f ρ).run P w= .ok (.pointer (some (a.add (j'*(ρ n).es+q')))) w):
  aL P ctx.X hp nm CT f (fun ρ=>(AV.v (.one (.fk n j' q'))).ae ρ) {val:= .v (.one (.fk n j' q')),aH:= [n]} :=by
 obtain ⟨t,l,rk,he,hj,eL⟩:=dD hw
 refine aL.pure ?_
 intro au W ρ Kn Γ w _ hk ja hst
 have bL:Γ n=some rk.1:=by rw [ja n (by simp),he]
 have aO:=rk.2.at (hst.at_ n _ bL)
 obtain ⟨a,ha⟩:=aO.2.2.2 _ hj
 exact ⟨by rw [oo ha];exact hf ρ w a t eL aO.2.1 ha ⟨l,rk,he,aO.1,aO.2.2.1,hj⟩,hok Kn hk⟩
theorem JL {n:Nat} (h:aak hp n=true): ∃c cs,hp n=some (.rc (c::cs)):=by
 unfold aak at h
 split at h
 ·exact ⟨_,_,‹_›⟩
 ·cases h
theorem Uw {ρ:Env} {n:Nat} {fz pm:Nat->Prop} {c:Cell} {cs:List Cell} {w:World} (h:bn fz pm ρ n (.rc (c::cs)) w): ∃a,(ρ n).base=some a:=by
 obtain ⟨a,ha,_⟩:=h.2 0 c rfl
 exact ⟨a,ha⟩
theorem ah0 {n j' q':Nat} (hw:aak hp n=true) (CT:(Nat->Prop)->Prop) (hok: ∀Kn,CT Kn->Kn n) (f:Env->Sem Value)
  (hf: ∀(ρ:Env) (w:World) (a:Addr),(ρ n).base=some a->(f ρ).run P w= .ok (.pointer (some (a.add (j'*(ρ n).es+q')))) w):
  aL P ctx.X hp nm CT f (fun ρ=>(AV.v (.one (.cK n j' q'))).ae ρ) {val:= .v (.one (.cK n j' q')),aH:= [n]} :=by
 obtain ⟨c,cs,he⟩:=JL hw
 refine aL.pure ?_
 intro au W ρ Kn Γ w _ hk ja hst
 obtain ⟨a,ha⟩:=Uw (hst.at_ n (.rc (c::cs)) (by rw [ja n (by simp),he]))
 exact ⟨by rw [gG ha];exact hf ρ w a ha,hok Kn hk⟩
theorem xT (b off m:Nat):(⟨b,off,none⟩:Addr).add m=⟨b,off+m,none⟩:=by unfold Addr.add;split<;>simp_all
theorem Fq (hT:cP P ctx.tt) {t:TypeId} {i:TI} (ht:aJ ctx.tt t=some i) {x:AV} {f:Nat} (h:ld ctx i x f hp k):
  ∃r,aL P ctx.X hp nm (fun Kn=>x.ok Kn) (fun ρ=>Instr.fieldAt t (x.ae ρ) f) (fun ρ=>r.val.ae ρ) r/\ k r:=by
 unfold ld at h
 split at h
 ·rename_i fs hd
  split at h
  ·rename_i fd hfd
   split at h
   ·rename_i fi L7
    split at h
    ·exact h.elim
    ·rename_i hnz
     split at h
     ·rename_i n off
      refine ⟨_,(jU h _ (fun Kn hk=>hk) _ (fun ρ w b hb=> ?_)).1,(cJ h).2⟩
      rw [mA hb]
      simp [Instr.fieldAt,hT.u ht,hd,hfd,Instr.sureAddr,fieldPlace,hT.sz L7,hnz,xT]
     ·rename_i n off
      refine ⟨_,(jU h _ (fun Kn hk=>hk) _ (fun ρ w b hb=> ?_)).2,(cJ h).2⟩
      rw [nK hb]
      simp [Instr.fieldAt,hT.u ht,hd,hfd,Instr.sureAddr,fieldPlace,hT.sz L7,hnz,xT]
     ·rename_i n j q
      split at h
      ·rename_i hrc
       refine ⟨_,ah0 hrc _ (fun Kn hk=>hk) _ (fun ρ w a ha=> ?_),h⟩
       rw [gG ha]
       simp [Instr.fieldAt,hT.u ht,hd,hfd,Instr.sureAddr,fieldPlace,hT.sz L7,hnz,dM,Nat.add_assoc]
      obtain ⟨_,_,_,_,_,hk⟩:=dD h
      refine ⟨_,UF h _ (fun Kn hk=>hk) _ (fun ρ w a u _ _ ha _=> ?_),hk⟩
      rw [gG ha]
      simp [Instr.fieldAt,hT.u ht,hd,hfd,Instr.sureAddr,fieldPlace,hT.sz L7,hnz,dM,Nat.add_assoc]
     ·rename_i n j q
      obtain ⟨_,_,_,_,_,hk⟩:=dD h
      refine ⟨_,Gy h _ (fun Kn hk=>hk) _ (fun ρ w a u _ _ ha _=> ?_),hk⟩
      rw [oo ha]
      simp [Instr.fieldAt,hT.u ht,hd,hfd,Instr.sureAddr,fieldPlace,hT.sz L7,hnz,dM,Nat.add_assoc]
     ·exact h.elim
   ·exact h.elim
  ·exact h.elim
 ·exact h.elim
theorem J8 (hT:cP P ctx.tt) {t:TypeId} {i:TI} (ht:aJ ctx.tt t=some i) {cs:List Cell} {off:Nat} (h:J7 i cs off k):
  ∃v,k {val:=v} /\ (∀(ρ:Env) (w:World),(part t (cs.map (Cell.ae ρ)).toArray off).run P w= .ok (v.ae ρ) w)/\ ∀Kn,(∀c∈cs,c.ok Kn)->v.ok Kn:=by
 unfold J7 at h
 split at h
 ·rename_i ha
  split at h
  ·rename_i hl
   refine ⟨_,h,fun ρ w=> ?_,fun Kn hk c hc=>hk c (List.mem_of_mem_drop (List.mem_of_mem_take hc))⟩
   simp only [part,Sem.run_bind,hT.ag ht,Result.andThen_ok,ha,if_true,hT.sz ht,Sem.run_pure,AV.ae,A0.ae,gF]
   congr 2
   simp [List.extract_toArray]
  ·exact h.elim
 ·rename_i ha
  split at h
  ·rename_i c hc
   refine ⟨_,h,fun ρ w=> ?_,fun Kn hk=>hk c (List.mem_of_getElem? hc)⟩
   simp [part,hT.ag ht,ha,hc,AV.ae,A0.ae]
  ·exact h.elim
theorem Rt (hT:cP P ctx.tt) {t:TypeId} {i:TI} (ht:aJ ctx.tt t=some i) {x:AV} {f:Nat} (h:Rs ctx i x f k):
  ∃r,aL P ctx.X hp nm (fun Kn=>x.ok Kn) (fun ρ=>Instr.field t (x.ae ρ) f) (fun ρ=>r.val.ae ρ) r/\ k r:=by
 unfold Rs at h
 split at h
 ·rename_i fs cs hd
  split at h
  ·rename_i fd hfd
   split at h
   ·rename_i fi L7
    obtain ⟨v,hk,hrun,hok⟩:=J8 hT L7 h
    refine ⟨_,aL.pure ?_,hk⟩
    intro au W ρ Kn Γ w _ hk ja hst
    refine ⟨?_,hok Kn hk⟩
    simp [AV.ae,A0.ae,Instr.field,hT.u ht,hd,hfd,asAgg,hrun]
   ·exact h.elim
  ·exact h.elim
 ·exact h.elim
def valOf (d:TypeDesc) (cs:List Value):Option Value:=if cY d then some (.agg cs.toArray) else match cs with| [v]=>some v|_=>none
theorem vg (hT:cP P ctx.tt) {t:TypeId} {i:TI} (ht:aJ ctx.tt t=some i) (cs:List Value) (off:Nat) {v:Value} (hv:valOf i.desc ((cs.drop off).take i.size)=some v) (w:World):
  (part t cs.toArray off).run P w= .ok v w:=by
 unfold valOf at hv
 split at hv
 ·rename_i ha
  cases hv
  simp only [part,Sem.run_bind,hT.ag ht,Result.andThen_ok,ha,if_true,hT.sz ht,Sem.run_pure]
  congr 2
  simp [List.extract_toArray]
 ·rename_i ha
  split at hv
  ·rename_i u hu
   cases hv
   have:cs[off]? =some v:=by
    have h0:((cs.drop off).take i.size)[0]? =some v:=by rw [hu];rfl
    rw [List.getElem?_take] at h0
    split at h0
    ·rw [List.getElem?_drop] at h0;simpa using h0
    ·cases h0
   simp [part,hT.ag ht,ha,this]
  ·cases hv
theorem mg {j:Int} {n:Nat} (h:Z6 j n=true):0<=j/\ j<(n:Int):=by simpa [Z6] using h
theorem Dk {j:Int} {K:Nat->Prop} : ∀ {i:Nat},0<=j->j<=(i:Int)->MU j K i->K j.toNat
 |0,h0,h1,h=>by
  have:j.toNat=0:=by omega
  rw [this];exact h
 |i+1,h0,h1,h=>by
  unfold MU at h
  by_cases e:j=((i+1:Nat):Int)
  ·rw [decide_eq_true e] at h
   have:j.toNat=i+1:=by omega
   rw [this];exact h
  ·rw [decide_eq_false e] at h
   exact Dk h0 (by omega) h
theorem FO (hT:cP P ctx.tt) {t:TypeId} {i:TI} (ht:aJ ctx.tt t=some i) {x ix:AV} {lit:Bool} (h:ya ctx i x ix lit hp k):
  ∃r,aL P ctx.X hp nm (fun Kn=>x.ok Kn) (fun ρ=>Instr.indexAt t (x.ae ρ) (ix.ae ρ)) (fun ρ=>r.val.ae ρ) r/\ k r:=by
 unfold ya at h
 split at h
 ·rename_i kk j
  split at h
  ·rename_i n e hd
   split at h
   ·rename_i ei kH
    split at h
    ·rename_i m off
     obtain ⟨hj,h⟩:=bg h
     have hj:=mg hj
     have hk:=(cJ h).2
     have hf: ∀(ρ:Env) (w:World) b,(ρ m).blk=some b->(Instr.indexAt t ((AV.v (.one (.ptr m off))).ae ρ) ((AV.v (.one (.raw (.int kk j)))).ae ρ)).run P w= .ok (.pointer (some ⟨b,off+j.toNat*ei.size,none⟩)) w:=fun ρ w b hb=>by
      rw [mA hb]
      simp [AV.ae,A0.ae,Cell.ae,Instr.indexAt,asIntOf,hT.u ht,hd,Instr.sureAddr,hj,hT.sz kH,xT]
     split at hk
     ·exact ⟨_,(jU h _ (fun Kn hk=>hk) _ hf).2,hk⟩
     ·split at hk
      ·exact ⟨_,(jU h _ (fun Kn hk=>hk) _ hf).1,Dk (K:=fun q=>k {val:= .v (.one (.ptr m (off+q*ei.size))),aH:= [m]}) hj.1 (by omega) hk⟩
      ·exact ⟨_,(jU h _ (fun Kn hk=>hk) _ hf).1,hk⟩
    ·rename_i m off
     obtain ⟨hj,h⟩:=bg h
     have hj:=mg hj
     refine ⟨_,(jU h _ (fun Kn hk=>hk) _ (fun ρ w b hb=> ?_)).2,(cJ h).2⟩
     rw [nK hb]
     simp [AV.ae,A0.ae,Cell.ae,Instr.indexAt,asIntOf,hT.u ht,hd,Instr.sureAddr,hj,hT.sz kH,xT]
    ·rename_i m jj q
     obtain ⟨hj,h⟩:=bg h
     have hj:=mg hj
     obtain ⟨_,_,_,_,_,hk⟩:=dD h
     have hf: ∀(ρ:Env) (w:World) (a:Addr),(ρ m).base=some a->(Instr.indexAt t ((AV.v (.one (.cK m jj q))).ae ρ) ((AV.v (.one (.raw (.int kk j)))).ae ρ)).run P w= .ok (.pointer (some (a.add (jj*(ρ m).es+(q+j.toNat*ei.size))))) w:=fun ρ w a ha=>by
      rw [gG ha]
      simp [AV.ae,A0.ae,Cell.ae,Instr.indexAt,asIntOf,hT.u ht,hd,Instr.sureAddr,hj,hT.sz kH,dM,Nat.add_assoc]
     split at hk
     ·exact ⟨_,Gy h _ (fun Kn hk=>hk) _ (fun ρ w a u _ _ ha _=>hf ρ w a ha),hk⟩
     ·exact ⟨_,UF h _ (fun Kn hk=>hk) _ (fun ρ w a u _ _ ha _=>hf ρ w a ha),hk⟩
    ·rename_i m jj q
     obtain ⟨hj,h⟩:=bg h
     have hj:=mg hj
     obtain ⟨_,_,_,_,_,hk⟩:=dD h
     refine ⟨_,Gy h _ (fun Kn hk=>hk) _ (fun ρ w a u _ _ ha _=> ?_),hk⟩
     rw [oo ha]
     simp [AV.ae,A0.ae,Cell.ae,Instr.indexAt,asIntOf,hT.u ht,hd,Instr.sureAddr,hj,hT.sz kH,dM,Nat.add_assoc]
    ·exact h.elim
   ·exact h.elim
  ·rename_i e hd
   split at h
   ·rename_i ei kH
    split at h
    ·rename_i m off len cap
     obtain ⟨hj,h⟩:=bg h
     have hj:=mg hj
     have hk:=(cJ h).2
     have hf: ∀(ρ:Env) (w:World) b,(ρ m).blk=some b->(Instr.indexAt t ((AV.v (.one (.sl m off len cap))).ae ρ) ((AV.v (.one (.raw (.int kk j)))).ae ρ)).run P w= .ok (.pointer (some ⟨b,off+j.toNat*ei.size,none⟩)) w:=fun ρ w b hb=>by
      simp [AV.ae,A0.ae,Cell.ae,addrOf,hb,Instr.indexAt,asIntOf,hT.u ht,hd,hj,hT.sz kH,xT]
     split at hk
     ·rename_i hl1
      have hl1:len=1:=Nat.eq_of_beq_eq_true hl1
      have hj0:j.toNat=0:=by omega
      exact ⟨_,(jU h _ (fun Kn hk=>hk) _ (by intro ρ w b hb;have:=hf ρ w b hb;rwa [hj0,Nat.zero_mul,Nat.add_zero] at this)).1,hk⟩
     split at hk
     ·exact ⟨_,(jU h _ (fun Kn hk=>hk) _ hf).2,hk⟩
     ·exact ⟨_,(jU h _ (fun Kn hk=>hk) _ hf).1,hk⟩
    ·rename_i p
     obtain ⟨m,s,q,t0,l0,rk0,len,tc,he0,h,FK,hm2,_,_,_,_,_,hall⟩:=qd h
     obtain ⟨hj,h⟩:=bg h
     have hj:=mg hj
     obtain ⟨t1,l1,rk1,he1,hj1,hk⟩:=dD h
     rw [he0] at he1
     have he1:=Option.some.inj he1
     have hu:=rk0.2.uniq (he1▸rk1.2)
     cases hu
     split at hk
     ·rename_i hsz
      refine ⟨_,aL.pure ?_,hk⟩
      intro au W ρ Kn Γ w _ hk ja hst
      obtain ⟨g1,g2,g3,g4,g5,g6,g7,g8⟩:=hall au W ρ Kn Γ w ja hst
      obtain ⟨a,b,ha,hb,hab⟩:=g8 j.toNat (by omega)
      refine ⟨?_,g6⟩
      rw [gG ha]
      simp [AV.ae,A0.ae,Cell.ae,hb,Instr.indexAt,asIntOf,hT.u ht,hd,g4,hj,hT.sz kH,hsz,hab,g2]
     ·exact hk.elim
    ·exact (bg h).2.elim
    ·exact h.elim
   ·exact h.elim
  ·exact h.elim
 ·exact h.elim
theorem als (s:ByteArray) (i:Nat) (h:i<s.size):s[i]=s.get! i:=by
 obtain ⟨d⟩:=s
 exact (getElem!_pos d i h).symm
theorem RV (hT:cP P ctx.tt) {t:TypeId} {i:TI} (ht:aJ ctx.tt t=some i) {x ix:AV} {lit:Bool} (h:RU ctx i x ix lit k):
  ∃r,aL P ctx.X hp nm (fun Kn=>x.ok Kn) (fun ρ=>Instr.index t (x.ae ρ) (ix.ae ρ)) (fun ρ=>r.val.ae ρ) r/\ k r:=by
 unfold RU at h
 split at h
 ·rename_i kk j
  split at h
  ·rename_i n e cs hd
   split at h
   ·rename_i ei kH
    obtain ⟨hj,h⟩:=bg h
    have hj:=mg hj
    have afV:J7 ei cs (j.toNat*ei.size) k-> ∃r,aL P ctx.X hp nm (fun Kn=>(AV.v (.agg cs)).ok Kn) (fun ρ=>Instr.index t ((AV.v (.agg cs)).ae ρ) ((AV.v (.one (.raw (.int kk j)))).ae ρ)) (fun ρ=>r.val.ae ρ) r/\ k r:=fun h=>by
     obtain ⟨v,hk,hrun,hok⟩:=J8 hT kH h
     refine ⟨_,aL.pure ?_,hk⟩
     intro au W ρ Kn Γ w _ hk ja hst
     refine ⟨?_,hok Kn hk⟩
     simp [AV.ae,A0.ae,Cell.ae,Instr.index,asIntOf,hT.u ht,hd,hj,hT.sz kH,hrun]
    split at h
    ·exact afV h
    split at h
    ·rename_i ns Nf
     split at h
     ·rename_i hlen
      split at h
      ·rename_i v hv
       refine ⟨_,aL.pure ?_,h⟩
       intro au W ρ Kn Γ w _ hk ja hst
       have ecs:=gJ ρ cs _ Nf
       have Nd:cs.length=ns.length:=by rw [ecs];simp
       have hb:j.toNat*ei.size+ei.size<=n*ei.size:=by rw [<- Nat.succ_mul];exact Nat.mul_le_mul_right _ (by omega)
       have aO:qg ns (j.toNat*ei.size) ei.size=(cs.drop (j.toNat*ei.size)).take ei.size:=by rw [vW _ _ _ (by omega),<- ecs]
       rw [aO] at hv
       have hrun:(part e (cs.map (Cell.ae ρ)).toArray (j.toNat*ei.size)).run P w= .ok (v.ae ρ) w:=by
        refine vg hT kH _ _ ?_ w
        unfold uY at hv
        unfold valOf
        split at hv
        ·rename_i ha
         cases hv
         rw [if_pos ha];simp [AV.ae,A0.ae,List.map_take,List.map_drop]
        ·rename_i ha
         rw [if_neg ha]
         split at hv
         ·rename_i c hc
          cases hv
          have:=congrArg (List.map (Cell.ae ρ)) hc
          simp only [List.map_take,List.map_drop,List.map_cons,List.map_nil] at this
          rw [this];rfl
         ·cases hv
       refine ⟨?_,?_⟩
       ·simp [AV.ae,A0.ae,Cell.ae,Instr.index,asIntOf,hT.u ht,hd,hj,hT.sz kH] at hrun ⊢
        exact hrun
       ·have hall: ∀c∈(cs.drop (j.toNat*ei.size)).take ei.size,c.ok Kn:=fun c hc=>hk c (List.mem_of_mem_drop (List.mem_of_mem_take hc))
        unfold uY at hv
        split at hv
        ·cases hv;exact hall
        ·split at hv
         ·rename_i c hc;cases hv;exact hall c (by rw [hc];simp)
         ·cases hv
      ·exact h.elim
     ·exact h.elim
    ·exact afV h
   ·exact h.elim
  ·rename_i s hd
   obtain ⟨hj,h⟩:=bg h
   have hj:=mg hj
   refine ⟨_,aL.pure ?_,h⟩
   intro au W ρ Kn Γ w _ hk ja hst
   refine ⟨?_,trivial⟩
   have hlt:j.toNat<s.size:=by omega
   have e1:s[j.toNat]? =some (s.get! j.toNat):=by
    rw [getElem?_pos s j.toNat hlt]
    simp only [Option.some.injEq]
    exact als s _ hlt
   simp [AV.ae,A0.ae,Cell.ae,Instr.index,asIntOf,hT.u ht,hd,hj.1,e1,gb]
  ·exact h.elim
 ·exact h.elim
def yU (P:Program) (b:Option AV) (top dflt m:Nat):Prop:=match b with
 |none=>m=dflt
 |some v=> ∀(ρ:Env) (c:BoundsCode) (w:World),(Instr.sliceBound (v.ae ρ) top c).run P w= .ok m w
theorem cu {b:Option AV} {top dflt:Nat} {kk:Nat->Prop} (h:rH b top dflt kk): ∃m,kk m/\ (dflt<=top->m<=top)/\ ∀top',top<=top'->yU P b top' dflt m:=by
 unfold rH at h
 split at h
 ·exact ⟨_,h,fun h=>h,fun _ _=>rfl⟩
 ·obtain ⟨h1,h2⟩:=bg h
  simp only [Bool.and_eq_true,decide_eq_true_eq] at h1
  exact ⟨_,h2,fun _=>by omega,fun top' ht ρ c w=>by simp only [AV.ae,A0.ae,Cell.ae,Instr.sliceBound,asIntOf,Sem.run_bind,Sem.run_pure,Result.andThen_ok];rw [if_pos (by omega)];rfl⟩
 ·exact h.elim
theorem jz {isS:Bool} {len cap:Nat} {lo hi mx:Option AV} {c h l:Nat} (hm:yU P mx cap cap c) (hh:yU P hi (if mx.isSome then c else cap) len h) (hl:yU P lo h 0 l)
  (hmh:mx.isSome=true->hi.isSome=true) (ρ:Env) (w:World):
  (Instr.sliceBounds isS len cap (lo.map (AV.ae ρ)) (hi.map (AV.ae ρ)) (mx.map (AV.ae ρ))).run P w= .ok (l,h,c) w:=by
 unfold Instr.sliceBounds
 cases mx with
 |none=>
  have hc:c=cap:=hm
  subst hc
  cases hi with
  |none=>
   have:h=len:=hh
   subst this
   cases lo with
   |none=>have:l=0:=hl;subst this;simp
   |some v=>simp [hl ρ]
  |some v=>
   have QZ: ∀(ρ:Env) (cc:BoundsCode) (w:World),(Instr.sliceBound (v.ae ρ) c cc).run P w= .ok h w:=hh
   cases lo with
   |none=>have:l=0:=hl;subst this;simp [QZ ρ]
   |some v=>simp [QZ ρ,hl ρ]
 |some mv=>
  have hm': ∀(ρ:Env) (cc:BoundsCode) (w:World),(Instr.sliceBound (mv.ae ρ) cap cc).run P w= .ok c w:=hm
  cases hi with
  |none=>exact absurd (hmh rfl) (by simp)
  |some v=>
   have QZ: ∀(ρ:Env) (cc:BoundsCode) (w:World),(Instr.sliceBound (v.ae ρ) c cc).run P w= .ok h w:=hh
   cases lo with
   |none=>have:l=0:=hl;subst this;simp [hm' ρ,QZ ρ]
   |some v=>simp [hm' ρ,QZ ρ,hl ρ]
theorem Ra (ρ:Env) (n off m:Nat):(addrOf ρ n off).map (·.add m)=addrOf ρ n (off+m):=by
 unfold addrOf;cases (ρ n).blk<;>simp [xT]
theorem W6 (s:Option Nat) (j:Nat):gk s j=gk s 0+j:=by cases s<;>simp [gk]
theorem Gj (hT:cP P ctx.tt) {t:TypeId} {i ei:TI} {e:TypeId} (ht:aJ ctx.tt t=some i) (hd:i.desc= .slice e) (kH:aJ ctx.tt e=some ei) {p m:Nat} {s q':Option Nat} {len h' l':Nat} {tc:List Nat} {lo hi mx:Option AV} {u:Ty} {l:List u.T} {rk:Nat}
  (he:hp m=some (.row u l rk)) (hm:m∈tc) (hlen:len<=l.length- gk s 0) (hsz:ei.size=u.size)
  (hall: ∀au W ρ Kn Γ w,(∀m∈tc,Γ m=hp m)->St au W ρ Kn Γ w->(ρ m).len=l.length/\ (ρ m).es=u.size/\ (ρ p).es=u.size/\ (ρ p).len=len/\ len<=(ρ p).cap/\ Kn m/\ Kn p/\ ∀j,j<len-> ∃a b,(ρ m).base=some a/\ (ρ p).base=some b/\ b.add (j*u.size)=a.add (gk s j*u.size))
  (hb: ∀cap,len<=cap-> ∃c,h'<=c/\ c<=cap/\ yU P mx cap cap c/\ yU P hi (if mx.isSome then c else cap) len h') (hmh:mx.isSome=true->hi.isSome=true) (hhl:h'<=len) (hll:l'<=h') (hl:yU P lo h' 0 l') (hq:fc l.length (gk s l') q'=h'- l'):
  aL P ctx.X hp nm (fun Kn=>(AV.v (.one (.full p))).ok Kn) (fun ρ=>Instr.sliceAt t ((AV.v (.one (.full p))).ae ρ) (lo.map (AV.ae ρ)) (hi.map (AV.ae ρ)) (mx.map (AV.ae ρ))) (fun ρ=>(AV.v (.one (.full nm))).ae ρ) {val:= .v (.one (.full nm)),fresh:= [.alias m (gk s l') q'],aH:=tc} :=by
 refine ⟨fun p hp=>absurd hp (by simp),?_⟩
 intro au W ρ Kn Γ w _ _ ja hfr hst
 obtain ⟨g1,g2,g3,g4,g5,g6,g7,g8⟩:=hall au W ρ Kn Γ w ja hst
 have hn: ¬Kn nm:=by simpa using hfr 0 (by simp)
 obtain ⟨c,hc1,hc2,hb0,fC⟩:=hb _ g5
 have hmn:m≠nm:=by rintro rfl;exact hn g6
 let x:Loc:= {blk:=none,base:=if c=l' then (ρ p).base else (ρ p).base.map (·.add (l'*ei.size)),len:=h'- l',cap:=c- l',es:=u.size}
 have hx:bu ρ nm x nm=x:=by simp [bu]
 have CB:bu ρ nm x m=ρ m:=by simp [bu,hmn]
 refine ⟨bu ρ nm x,w,?_,iM hn,.inr (by simp),?_⟩
 ·have hbd:=jz (P:=P) (isS:=true) (len:=len) (cap:=(ρ p).cap) hb0 fC hl hmh ρ w
  show (Instr.sliceAt t (.slice (ρ p).base (ρ p).len (ρ p).cap) (lo.map (AV.ae ρ)) (hi.map (AV.ae ρ)) (mx.map (AV.ae ρ))).run P w= .ok (.slice (bu ρ nm x nm).base (bu ρ nm x nm).len (bu ρ nm x nm).cap) w
  rw [hx,g4]
  simp only [Instr.sliceAt,Sem.run_bind,hT.u ht,Result.andThen_ok,hd,Instr.slice,hbd,hT.sz kH,Sem.run_pure]
  rfl
 ·rw [D7]
  have ea:bO {val:= .v (.one (.full nm)),fresh:= [.alias m (gk s l') q'],aH:=tc} nm Γ=eZ Γ nm (.alias m (gk s l') q'):=by
   funext z;simp only [bO,eZ,List.length_singleton,bV]
   by_cases h:z=nm
   ·subst h;simp [live]
   ·have: ¬(nm≤z∧z<nm+1):=by omega
    simp [h,this]
  rw [ea]
  refine hst.swap (G:= []) (o:= .alias m (gk s l') q') (x:=x) hn hst.fr (fun _ _ _=>rfl) (fun b hb=>by cases hb) (fun z o hz=> ?_) (.inl g6) (fun _ h=>by cases h) fun _ _=> ?_
  ·unfold eZ at hz
   split at hz
   ·rename_i e1;cases hz;exact .inl ⟨e1,rfl⟩
   ·rename_i e1;exact .inr ⟨e1,by simp,hz⟩
  ·rw [bn,hx,CB]
   refine ⟨rfl,?_,g2.symm,?_,fun hlt=> ?_⟩
   ·rw [g1,hq]
   ·show h'- l'<=c- l';omega
   ·have hlt:h'- l'≠0:=hlt
    have hne:c≠l':=by omega
    show (if c=l' then _ else _)=_
    rw [if_neg hne]
    obtain ⟨a,b,ha,hb',hab⟩:=g8 l' (by omega)
    rw [ha,hb']
    simp only [Option.map_some,Option.some.injEq,hsz,hab,g2]
theorem A5 {p:Nat} {l:List Int} (h:Ek hp p=some l):hp p=some (.row (.int .i64) l 3):=by
 unfold Ek at h
 split at h
 ·rename_i l' he
  cases h;exact he
 ·cases h
theorem HL (sub:Nat->Option Addr×Nat): ∀(l:List Int) (q:Nat),aI sub q (az (.int .i64) l)=l.map (Value.int .i64)
 | [],_=>rfl
 |x::r,q=>by
  have:aI sub q (az (.int .i64) (x::r))=Value.int .i64 x::aI sub (q+1) (az (.int .i64) r):=rfl
  rw [this,HL sub r (q+1)];rfl
theorem abV (hT:cP P ctx.tt) {t:TypeId} {i ei:TI} {e:TypeId} (ht:aJ ctx.tt t=some i) (hd:i.desc= .slice e) (kH:aJ ctx.tt e=some ei) {p lv:Nat} {l0:List Int} {lo:Option AV} (he:hp p=some (.row (.int .i64) l0 3)) (hsz:ei.size=1) (hl:lv<=l0.length) (hb:yU P lo l0.length 0 lv):
  aL P ctx.X hp nm (fun Kn=>(AV.v (.one (.full p))).ok Kn) (fun ρ=>Instr.sliceAt t ((AV.v (.one (.full p))).ae ρ) (lo.map (AV.ae ρ)) none none) (fun ρ=>(AV.v (.one (.full nm))).ae ρ) {val:= .v (.one (.full nm)),fresh:= [.row (.int .i64) (l0.drop lv) 3],writes:= [(p,.gone)],aH:= [p]} :=by
 refine ⟨fun q hq=>by simp only [List.mem_singleton] at hq;subst hq;rw [he];simp,?_⟩
 intro au W ρ Kn Γ w _ _ ja hfr hst
 have hn: ¬Kn nm:=by simpa using hfr 0 (by simp)
 have bL:Γ p=some (.row (.int .i64) l0 3):=by rw [ja p (by simp),he]
 obtain ⟨o1,o2,o3,sub,m1,m2,m3,m4⟩:=hst.at_ p _ bL
 have m4:=m4 (by decide)
 rw [HL] at m1 m4
 let x:Loc:= {blk:=if (ρ p).cap=lv then none else (ρ p).blk,base:=if (ρ p).cap=lv then (ρ p).base else (ρ p).base.map (·.add (lv*ei.size)),len:=l0.length- lv,cap:=(ρ p).cap- lv,es:=1}
 have hx:bu ρ nm x nm=x:=by simp [bu]
 have Iu: ∀(b q j:Nat),(⟨b,q,none⟩:Addr).add j=⟨b,q+j,none⟩:=fun b q j=>by unfold Addr.add;split<;>simp_all
 refine ⟨bu ρ nm x,w,?_,iM hn,.inr (by simp),?_⟩
 ·have hbd:=jz (P:=P) (isS:=true) (len:=l0.length) (cap:=(ρ p).cap) (lo:=lo) (hi:=none) (mx:=none) (c:=(ρ p).cap) rfl rfl hb (by simp) ρ w
  simp only [Option.map_none] at hbd
  show (Instr.sliceAt t (.slice (ρ p).base (ρ p).len (ρ p).cap) (lo.map (AV.ae ρ)) none none).run P w= .ok (.slice (bu ρ nm x nm).base (bu ρ nm x nm).len (bu ρ nm x nm).cap) w
  rw [hx,o1]
  simp only [Instr.sliceAt,Sem.run_bind,hT.u ht,Result.andThen_ok,hd,Instr.slice,hbd,hT.sz kH,Sem.run_pure]
  rfl
 ·rw [show mG Kn nm {val:=AV.v (.one (.full nm)),fresh:= [aG.row (.int .i64) (l0.drop lv) 3],writes:= [(p,.gone)],aH:= [p]} =Ii Kn nm by
   funext m;simp only [mG,Ii,List.length_singleton];congr 1;apply propext;omega]
  refine hst.swap (G:= [p]) (o:=aG.row (.int .i64) (l0.drop lv) 3) (x:=x) hn hst.fr (fun _ _ _=>rfl) (fun b hb=> ?_) (fun m q hq=> ?_) trivial (fun _ h=>by cases h) fun _ _=> ?_
  ·have hb:(if (ρ p).cap=lv then none else (ρ p).blk)=some b:=hb
   split at hb
   ·cases hb
   ·exact ⟨.inr ⟨p,by simp,by rw [bL];rfl,hb⟩,hst.own p b (by rw [bL];rfl) hb⟩
  ·simp only [bO,List.length_singleton,bV] at hq
   by_cases h6:nm<=m/\ m<nm+1
   ·rw [if_pos h6,show m- nm=0 by omega] at hq
    simp only [List.getElem?_cons_zero,live,Option.some.injEq] at hq
    exact .inl ⟨by omega,hq.symm⟩
   ·rw [if_neg h6] at hq
    by_cases h7:m=p
    ·subst h7;simp [live] at hq
    ·refine .inr ⟨by omega,by simpa using h7,?_⟩
     simpa [Ne.symm h7,h7] using hq
  ·have hlen:(l0.drop lv).length=l0.length- lv:=List.length_drop
   rw [bn,hx]
   refine ⟨hlen.symm,rfl,?_,fun _=>(none,0),fun i v hv=> ?_,fun q u' l' hq=> ?_,fun e=>(by cases e),fun _=> ?_⟩
   ·show (l0.drop lv).length≤(ρ p).cap- lv
    omega
   ·rw [HL,List.map_drop,List.getElem?_drop] at hv
    obtain ⟨a,h1,h2,_⟩:=m1 (lv+i) v hv
    have hlt:=(List.getElem?_eq_some_iff.1 hv).1
    rw [List.length_map] at hlt
    have hne:(ρ p).cap≠lv:=by omega
    refine ⟨a.add lv,?_,?_,fun e=>by cases e⟩
    ·show (if (ρ p).cap=lv then _ else _)=_
     rw [if_neg hne,h1,hsz,Nat.mul_one];rfl
    ·rw [Addr.add_add];exact h2
   ·exfalso
    have: ∀(l:List Int) (q:Nat),(az (.int .i64) l)[q]? ≠some (.sl u' l'):=by
     intro l
     induction l with
     |nil=>intro q h;simp [az] at h
     |cons y r ih=>
      intro q h
      have e:az (.int .i64) (y::r)= .flat (.int .i64 y)::az (.int .i64) r:=rfl
      rw [e] at h
      cases q with
      |zero=>cases h
      |succ q=>exact ih q (by simpa using h)
    exact this _ _ hq
   ·rw [HL]
    rcases m4 with ⟨h1,h2,h3,_⟩|⟨b,pre,rest,e0,h1,h2,h3,h4,h5,_⟩
    ·have h0:(l0.drop lv).length=0:=by omega
     exact .inl ⟨by show (if (ρ p).cap=lv then none else (ρ p).blk)=none;rw [h1];split<;>rfl,h0,by show (ρ p).cap- lv=0;omega,fun q=>absurd rfl q⟩
    ·by_cases hne:(ρ p).cap=lv
     ·exact .inl ⟨by show (if (ρ p).cap=lv then none else (ρ p).blk)=none;rw [if_pos hne],by omega,by show (ρ p).cap- lv=0;omega,fun q=>absurd rfl q⟩
     ·refine .inr ⟨b,pre++(l0.take lv).map (Value.int .i64),rest,e0,by show (if (ρ p).cap=lv then none else (ρ p).blk)=some b;rw [if_neg hne,h1],?_,?_,?_,by show (ρ p).cap- lv≤_;omega,fun q=>absurd rfl q⟩
      ·show (if (ρ p).cap=lv then _ else _)=_
       rw [if_neg hne,h2,hsz,Nat.mul_one,Option.map_some,Iu,List.length_append,List.length_map,List.length_take,Nat.min_eq_left hl]
      ·rw [h3]
       congr 3
       rw [List.append_assoc,<- List.append_assoc (List.map _ _),<- List.map_append,List.take_append_drop]
      ·have:(ρ p).cap*1=_:=h4
       show ((ρ p).cap- lv)*1=_
       simp only [List.length_append,List.length_map,List.length_drop] at this ⊢
       omega
theorem ZO (hT:cP P ctx.tt) {t:TypeId} {i ei:TI} {e:TypeId} (ht:aJ ctx.tt t=some i) (hd:i.desc= .slice e) (kH:aJ ctx.tt e=some ei) {p hv:Nat} {l0:List Int} {hi:Option AV} (he:hp p=some (.row (.int .i64) l0 3)) (hsz:ei.size=1) (hl:hv<=l0.length) (hb: ∀cap,l0.length<=cap->yU P hi cap l0.length hv):
  aL P ctx.X hp nm (fun Kn=>(AV.v (.one (.full p))).ok Kn) (fun ρ=>Instr.sliceAt t ((AV.v (.one (.full p))).ae ρ) none (hi.map (AV.ae ρ)) none) (fun ρ=>(AV.v (.one (.full nm))).ae ρ) {val:= .v (.one (.full nm)),fresh:= [.row (.int .i64) (l0.take hv) 3],writes:= [(p,.gone)],aH:= [p]} :=by
 refine ⟨fun q hq=>by simp only [List.mem_singleton] at hq;subst hq;rw [he];simp,?_⟩
 intro au W ρ Kn Γ w _ _ ja hfr hst
 have hn: ¬Kn nm:=by simpa using hfr 0 (by simp)
 have bL:Γ p=some (.row (.int .i64) l0 3):=by rw [ja p (by simp),he]
 obtain ⟨o1,o2,o3,sub,m1,m2,m3,m4⟩:=hst.at_ p _ bL
 have m4:=m4 (by decide)
 rw [HL] at m1 m4
 let x:Loc:= {blk:=(ρ p).blk,base:=(ρ p).base,len:=hv,cap:=(ρ p).cap,es:=1}
 have hx:bu ρ nm x nm=x:=by simp [bu]
 have Iu: ∀(b q j:Nat),(⟨b,q,none⟩:Addr).add j=⟨b,q+j,none⟩:=fun b q j=>by unfold Addr.add;split<;>simp_all
 refine ⟨bu ρ nm x,w,?_,iM hn,.inr (by simp),?_⟩
 ·have hbd:=jz (P:=P) (isS:=true) (len:=l0.length) (cap:=(ρ p).cap) (lo:=none) (hi:=hi) (mx:=none) (c:=(ρ p).cap) rfl (hb _ o3) rfl (by simp) ρ w
  simp only [Option.map_none] at hbd
  show (Instr.sliceAt t (.slice (ρ p).base (ρ p).len (ρ p).cap) none (hi.map (AV.ae ρ)) none).run P w= .ok (.slice (bu ρ nm x nm).base (bu ρ nm x nm).len (bu ρ nm x nm).cap) w
  rw [hx,o1]
  simp only [Instr.sliceAt,Sem.run_bind,hT.u ht,Result.andThen_ok,hd,Instr.slice,hbd,hT.sz kH,Sem.run_pure]
  rw [Nat.zero_mul,Nat.sub_zero,Nat.sub_zero]
  have h00:(if (ρ p).cap=0 then (ρ p).base else Option.map (fun a:Addr=>a.add 0) (ρ p).base)=(ρ p).base:=by
   split
   ·rfl
   ·cases (ρ p).base with
    |none=>rfl
    |some a=>simp [Addr.add]
  rw [h00]
 ·rw [show mG Kn nm {val:=AV.v (.one (.full nm)),fresh:= [aG.row (.int .i64) (l0.take hv) 3],writes:= [(p,.gone)],aH:= [p]} =Ii Kn nm by
   funext m;simp only [mG,Ii,List.length_singleton];congr 1;apply propext;omega]
  refine hst.swap (G:= [p]) (o:=aG.row (.int .i64) (l0.take hv) 3) (x:=x) hn hst.fr (fun _ _ _=>rfl) (fun b hb=> ?_) (fun m q hq=> ?_) trivial (fun _ h=>by cases h) fun _ _=> ?_
  ·exact ⟨.inr ⟨p,by simp,by rw [bL];rfl,hb⟩,hst.own p b (by rw [bL];rfl) hb⟩
  ·simp only [bO,List.length_singleton,bV] at hq
   by_cases h6:nm<=m/\ m<nm+1
   ·rw [if_pos h6,show m- nm=0 by omega] at hq
    simp only [List.getElem?_cons_zero,live,Option.some.injEq] at hq
    exact .inl ⟨by omega,hq.symm⟩
   ·rw [if_neg h6] at hq
    by_cases h7:m=p
    ·subst h7;simp [live] at hq
    ·refine .inr ⟨by omega,by simpa using h7,?_⟩
     simpa [Ne.symm h7,h7] using hq
  ·have hlen:(l0.take hv).length=hv:=by rw [List.length_take];omega
   rw [bn,hx]
   refine ⟨hlen.symm,rfl,?_,fun _=>(none,0),fun i v Wr=> ?_,fun q u' l' hq=> ?_,fun e=>(by cases e),fun _=> ?_⟩
   ·show (l0.take hv).length≤(ρ p).cap
    omega
   ·rw [HL,List.map_take,List.getElem?_take] at Wr
    split at Wr
    ·obtain ⟨a,h1,h2,_⟩:=m1 i v Wr
     exact ⟨a,h1,h2,fun e=>by cases e⟩
    ·cases Wr
   ·exfalso
    have: ∀(l:List Int) (q:Nat),(az (.int .i64) l)[q]? ≠some (.sl u' l'):=by
     intro l
     induction l with
     |nil=>intro q h;simp [az] at h
     |cons y r ih=>
      intro q h
      have e:az (.int .i64) (y::r)= .flat (.int .i64 y)::az (.int .i64) r:=rfl
      rw [e] at h
      cases q with
      |zero=>cases h
      |succ q=>exact ih q (by simpa using h)
    exact this _ _ hq
   ·rw [HL]
    rcases m4 with ⟨h1,h2,h3,_⟩|⟨b,pre,rest,e0,h1,h2,h3,h4,h5,_⟩
    ·exact .inl ⟨h1,by omega,h3,fun q=>absurd rfl q⟩
    ·refine .inr ⟨b,pre,(l0.drop hv).map (Value.int .i64)++rest,e0,h1,h2,?_,?_,h5,fun q=>absurd rfl q⟩
     ·have e:(l0.take hv).map (Value.int .i64)++(l0.drop hv).map (Value.int .i64)=l0.map (Value.int .i64):=by rw [←List.map_append,List.take_append_drop]
      rw [h3,<- e]
      simp only [List.append_assoc]
     ·have:(ρ p).cap*1=_:=h4
      show (ρ p).cap*1=_
      simp only [List.length_append,List.length_map,List.length_drop,List.length_take] at this ⊢
      omega
theorem SO (hT:cP P ctx.tt) {t:TypeId} {i:TI} (ht:aJ ctx.tt t=some i) {x:AV} {lo hi mx:Option AV} (h:SN ctx i x lo hi mx hp nm k):
  ∃r,aL P ctx.X hp nm (fun Kn=>x.ok Kn) (fun ρ=>Instr.sliceAt t (x.ae ρ) (lo.map (AV.ae ρ)) (hi.map (AV.ae ρ)) (mx.map (AV.ae ρ))) (fun ρ=>r.val.ae ρ) r/\ k r:=by
 unfold SN at h
 split at h
 ·rename_i n e hd
  split at h
  ·rename_i ei m off kH
   obtain ⟨hv,h,_,fC⟩:=cu (P:=P) h
   obtain ⟨lv,h,_,dI⟩:=cu (P:=P) h
   obtain ⟨⟨o,ho,dy⟩,hk⟩:=cJ h
   refine ⟨_,aL.pure ?_,hk⟩
   intro au W ρ Kn Γ w _ hk ja hst
   obtain ⟨b,hb⟩:=dy _ _ ρ w (hst.at_ m o (by rw [ja m (by simp),ho]))
   refine ⟨?_,hk⟩
   rw [mA hb]
   have hbd:=jz (P:=P) (isS:=false) (len:=n) (cap:=n) (lo:=lo) (hi:=hi) (mx:=none) (c:=n) rfl (fC _ (Nat.le_refl _)) (dI _ (Nat.le_refl _)) (by simp) ρ w
   simp only [Option.map_none] at hbd
   simp only [Instr.sliceAt,Sem.run_bind,hT.u ht,Result.andThen_ok,hd,Instr.sureAddr,Sem.run_pure,Option.map_none,hbd,hT.sz kH,AV.ae,A0.ae,Cell.ae,addrOf,hb,Option.map_some]
   split<;>simp [xT]
  ·exact h.elim
 ·rename_i e hd
  split at h
  ·rename_i ei m off len cap kH
   obtain ⟨cv,h,_,hb0⟩:=cu (P:=P) h
   obtain ⟨hv,h,_,fC⟩:=cu (P:=P) h
   obtain ⟨lv,h,_,dI⟩:=cu (P:=P) h
   split at h
   ·exact h.elim
   rename_i hmh
   refine ⟨_,aL.pure ?_,h⟩
   intro au W ρ Kn Γ w _ hk ja hst
   refine ⟨?_,hk⟩
   have hbd:=jz (P:=P) (isS:=true) (hb0 _ (Nat.le_refl _)) (fC _ (Nat.le_refl _)) (dI _ (Nat.le_refl _)) (fun h1=>by
    cases hi with
    |none=>simp [h1] at hmh
    |some a=>rfl) ρ w
   simp only [Instr.sliceAt,Sem.run_bind,hT.u ht,Result.andThen_ok,hd,Instr.slice,hbd,hT.sz kH,AV.ae,A0.ae,Cell.ae,Sem.run_pure]
   split<;>simp [Ra]
  ·rename_i ei p kH
   obtain ⟨m,s,q,u,l,rk,len,tc,he,h,FK,hm2,_,Wo,hlen,hpn,_,hall⟩:=qd h
   obtain ⟨u',l',rk',he',hsz,h⟩:=QT h
   rw [he] at he'
   have Jr:=Option.some.inj he'
   have hu:=yW.row (Jr▸rk.2)
   cases hu
   rw [Jr] at he
   have hz:=W6 s
   split at h
   ·split at h
    ·split at h
     ·rename_i l0 htl
      have hr:=A5 htl
      obtain ⟨lv,h,hlv,dI⟩:=cu (P:=P) h
      have hu1:ei.size=1:=by
       rcases hpn with e|⟨s',e⟩
       ·rw [←e,hr] at he
        cases he
        exact hsz
       ·rw [hr] at e;cases e
      exact ⟨_,abV hT ht hd kH hr hu1 (hlv (Nat.zero_le _)) (dI _ (Nat.le_refl _)),h⟩
     obtain ⟨lv,h,hlv,dI⟩:=cu (P:=P) h
     refine ⟨_,Gj (h':=len) (l':=lv) hT ht hd kH he FK hlen hsz hall (fun cap hcap=>⟨cap,hcap,Nat.le_refl _,rfl,rfl⟩) (by simp) (Nat.le_refl _) (hlv (Nat.zero_le _)) (dI _ (Nat.le_refl _)) ?_,h⟩
     have:=hlv (Nat.zero_le _)
     have h1:=hz lv
     cases q with
     |none=>have:=Wo rfl;simp only [Option.map_none,fc];omega
     |some q=>simp only [Option.map_some,fc];omega
    ·rename_i hv0
     split at h
     ·rename_i l0 htl _
      have hr:=A5 htl
      obtain ⟨hv,h,hhv,fC⟩:=cu (P:=P) h
      have hu1:ei.size=1:=by
       rcases hpn with e|⟨s',e⟩
       ·rw [←e,hr] at he
        cases he
        exact hsz
       ·rw [hr] at e;cases e
      exact ⟨_,ZO hT ht hd kH hr hu1 (hhv (Nat.le_refl _)) (fun cap hc=>fC _ hc),h⟩
     obtain ⟨hv,h,hhv,fC⟩:=cu (P:=P) h
     obtain ⟨lv,h,hlv,dI⟩:=cu (P:=P) h
     have:=hlv (Nat.zero_le _)
     have h2:=hhv (Nat.le_refl _)
     refine ⟨_,Gj (h':=hv) (l':=lv) hT ht hd kH he FK hlen hsz hall (fun cap hcap=>⟨cap,by omega,Nat.le_refl _,rfl,fC _ hcap⟩) (by simp) h2 this (dI _ (Nat.le_refl _)) ?_,h⟩
     have h1:=hz lv
     simp only [fc];omega
   ·rename_i mx0
    obtain ⟨cv,h,hcv,hb0⟩:=cu (P:=P) h
    obtain ⟨hv,hg1,hhv,fC⟩:=cu (P:=P) h
    obtain ⟨lv,hg2,hlv,dI⟩:=cu (P:=P) hg1
    split at hg2
    ·exact hg2.elim
    rename_i hmh
    clear h hg1
    have:=hlv (Nat.zero_le _)
    have h2:=hhv (Nat.zero_le _)
    have h3:=hcv (Nat.le_refl _)
    obtain ⟨hi0,rfl⟩: ∃a,hi=some a:=by
     cases hi with
     |none=>exact absurd rfl hmh
     |some a=>exact ⟨a,rfl⟩
    refine ⟨_,Gj (h':=hv) (l':=lv) hT ht hd kH he FK hlen hsz hall (fun cap hcap=>⟨cv,h2,by omega,hb0 _ hcap,fC _ (Nat.le_refl _)⟩) (by simp) (by omega) this (dI _ (Nat.le_refl _)) ?_,hg2⟩
    have h1:=hz lv
    simp only [fc];omega
  ·rename_i ei c kH
   split at h
   ·obtain ⟨hv,h,_,fC⟩:=cu (P:=P) h
    obtain ⟨lv,hg2,_,dI⟩:=cu (P:=P) h
    split at hg2
    ·rename_i hc
     clear h
     obtain ⟨rfl,rfl,rfl⟩:=hc
     refine ⟨_,aL.pure ?_,hg2⟩
     intro au W ρ Kn Γ w _ hk ja hst
     refine ⟨?_,trivial⟩
     have hbd:=jz (P:=P) (isS:=true) (len:=0) (cap:=0) (lo:=lo) (hi:=hi) (mx:=none) (c:=0) rfl (fC _ (Nat.le_refl _)) (dI _ (Nat.le_refl _)) (by simp) ρ w
     simp only [Option.map_none] at hbd
     simp [Instr.sliceAt,hT.u ht,hd,Instr.slice,hbd,hT.sz kH,AV.ae,A0.ae,Cell.ae]
    ·exact hg2.elim
   ·exact h.elim
  ·exact h.elim
 ·rename_i hd
  split at h
  ·rename_i s
   obtain ⟨hv,h,_,fC⟩:=cu (P:=P) h
   obtain ⟨lv,h,_,dI⟩:=cu (P:=P) h
   refine ⟨_,aL.pure ?_,h⟩
   intro au W ρ Kn Γ w _ hk ja hst
   refine ⟨?_,trivial⟩
   have hbd:=jz (P:=P) (isS:=false) (len:=s.size) (cap:=s.size) (lo:=lo) (hi:=hi) (mx:=none) (c:=s.size) rfl (fC _ (Nat.le_refl _)) (dI _ (Nat.le_refl _)) (by simp) ρ w
   simp only [Option.map_none] at hbd
   simp [Instr.sliceAt,hT.u ht,hd,Instr.slice,hbd,AV.ae,A0.ae,Cell.ae]
  ·exact h.elim
 ·exact h.elim
theorem Fi (hT:cP P ctx.tt): ∀(d:Nat) (t:TypeId) (xs ys:List Cell) (b:Bool),eqE ctx.tt d t xs ys=some b-> ∀(D:Nat),d<=D-> ∀(ρ:Env) (w:World),
  ∃i,aJ ctx.tt t=some i/\ ∃u v,valOf i.desc (xs.map (Cell.ae ρ))=some u/\ valOf i.desc (ys.map (Cell.ae ρ))=some v/\ (Op.equalIn D t u v).run P w= .ok b w
 |0,_,_,_,_,h,_,_,_,_=>by simp [eqE] at h
 |d+1,t,xs,ys,b,h,D,hD,ρ,w=>by
  obtain ⟨D,rfl⟩: ∃D',D=D'+1:=⟨D- 1,by omega⟩
  simp only [eqE] at h
  split at h
  ·cases h
  ·rename_i i hi
   refine ⟨i,hi,?_⟩
   have hu:=(hT t i hi).1
   split at h
   ·rename_i k0 hd
    split at h
    ·rename_i k1 a k2 b'
     split at h
     ·rename_i hk;subst hk
      cases h
      refine ⟨.int k1 a,.int k1 b',by simp [valOf,hd,cY,Cell.ae],by simp [valOf,hd,cY,Cell.ae],?_⟩
      exact run_equalIn_int w D t k1 k0 a b' (by rw [hu,hd])
     ·cases h
    ·cases h
   ·rename_i hd
    split at h
    ·rename_i a b'
     cases h
     refine ⟨.bool a,.bool b',by simp [valOf,hd,cY,Cell.ae],by simp [valOf,hd,cY,Cell.ae],?_⟩
     exact run_equalIn_bool' w D t a b' (by rw [hu,hd])
    ·cases h
   ·rename_i hd
    split at h
    ·rename_i a b'
     cases h
     refine ⟨.string a,.string b',by simp [valOf,hd,cY,Cell.ae],by simp [valOf,hd,cY,Cell.ae],?_⟩
     rw [run_equalIn_string w D t a b' (by rw [hu,hd]),beq_toListBytes]
    ·cases h
   ·rename_i fs hd
    refine ⟨.agg (xs.map (Cell.ae ρ)).toArray,.agg (ys.map (Cell.ae ρ)).toArray,by simp [valOf,hd,cY],by simp [valOf,hd,cY],?_⟩
    have hfs:P.underlying t=some (.struct (P.fieldsOf t)):=by
     have e0:P.underlying t=some (.struct fs):=by rw [hu,hd]
     rw [e0];simp [Program.fieldsOf,e0]
    have hfo:P.fieldsOf t=fs:=by
     have e0:P.underlying t=some (.struct fs):=by rw [hu,hd]
     simp [Program.fieldsOf,e0]
    have ql:P.stoodInHeld t=false:=by
     obtain ⟨_,_,inf,_,_,_,_,hh⟩:=hT t i hi
     exact (hh (by rw [hd];rfl)).1
    rw [run_equalIn_struct w D t _ _ hfs ql,hfo]
    generalize fs.toList=l at h
    clear hfs hfo hd hu
    induction l generalizing b with
    |nil=>simp only [eqFields,Option.some.injEq] at h;subst h;simp [Op.eqFields]
    |cons f r ih=>
     simp only [eqFields] at h
     split at h
     ·cases h
     ·rename_i fi L7
      split at h
      ·cases h
      ·rename_i hnm
       split at h
       ·rename_i b1 b2 h1 h2
        cases h
        obtain ⟨fi',ajy,u,v,hu1,hv1,hr⟩:=Fi hT d f.type _ _ b1 h1 D (by omega) ρ w
        rw [L7] at ajy;cases ajy
        rw [gF] at hu1 hv1
        simp only [Op.eqFields,ne_eq,hnm,not_false_eq_true,if_true,Sem.run_bind,vg hT L7 _ _ hu1,vg hT L7 _ _ hv1,Result.andThen_ok,hr]
        cases b1 with
        |true=>simpa using ih b2 h2
        |false=>simp
       ·cases h
   ·rename_i n e hd
    split at h
    ·rename_i ei kH
     refine ⟨.agg (xs.map (Cell.ae ρ)).toArray,.agg (ys.map (Cell.ae ρ)).toArray,by simp [valOf,hd,cY],by simp [valOf,hd,cY],?_⟩
     have e0:P.underlying t=some (.array n e):=by rw [hu,hd]
     simp only [Op.equalIn,Sem.run_bind,run_underlying e0,Result.andThen_ok,hT.sz kH]
     rw [Std.Legacy.Range.forIn_eq_forIn_range']
     simp only [Std.Legacy.Range.size,Nat.sub_zero,Nat.add_sub_cancel,Nat.div_one]
     clear hd e0 hu
     generalize 0=s at h ⊢
     induction n generalizing s b with
     |zero=>simp only [DQ,Option.some.injEq] at h;subst h;simp
     |succ n ih=>
      simp only [DQ] at h
      split at h
      ·rename_i b1 b2 h1 h2
       cases h
       obtain ⟨ei',ajw,u,v,hu1,hv1,hr⟩:=Fi hT d e _ _ b1 h1 D (by omega) ρ w
       rw [kH] at ajw;cases ajw
       rw [gF] at hu1 hv1
       simp only [List.range'_succ,List.forIn_cons,Sem.run_bind,vg hT kH _ _ hu1,vg hT kH _ _ hv1,Result.andThen_ok,hr]
       cases b1 with
       |true=>simpa using ih b2 (s+1) h2
       |false=>simp
      ·cases h
    ·cases h
   ·cases h
theorem cM (op:BinOp) (t:TypeId) (x y:Operand) (a b:Value) (w:World) (h: ∀c,a≠ .agg c) (h2:a≠ .nilIface):(eqGuard op t x y a b).run P w= .ok () w:=by
 unfold eqGuard
 cases op<;>simp<;>cases a<;>simp_all
theorem Za (hT:cP P ctx.tt) {t:TypeId} {xs ys:List Cell} {b:Bool} (h:eqE ctx.tt 20 t xs ys=some b) (ho: ∃i,aJ ctx.tt t=some i/\ cY i.desc=true) (ρ:Env) (w:World) (x y:Operand):
  (∀op,(eqGuard op t x y (.agg (xs.map (Cell.ae ρ)).toArray) (.agg (ys.map (Cell.ae ρ)).toArray)).run P w= .ok () w)/\
  (Op.equalIn 10000 t (.agg (xs.map (Cell.ae ρ)).toArray) (.agg (ys.map (Cell.ae ρ)).toArray)).run P w= .ok b w:=by
 obtain ⟨i,hi,ha⟩:=ho
 obtain ⟨_,_,inf,_,_,_,_,hh⟩:=hT t i hi
 obtain ⟨i',hi',u,v,hu,hv,hr⟩:=Fi hT 20 t xs ys b h 10000 (by omega) ρ w
 rw [hi] at hi';cases hi'
 simp only [valOf,ha,if_true,Option.some.injEq] at hu hv
 subst hu;subst hv
 exact ⟨fun op=>run_eqGuard_agg w op t x y _ _ (hh ha).2,hr⟩
theorem R2 {op:BinOp} {kk:IntKind} {a b:Int} (h:R1 op kk a b k) (t:TypeId) (x y:Operand):
  ∃r,aL P ctx.X hp nm (fun _=>True) (fun _=>do eqGuard op t x y (.int kk a) (.int kk b);binOp op t (.int kk a) (.int kk b)) (fun ρ=>r.val.ae ρ) r/\ k r:=by
 have hg: ∀w,(eqGuard op t x y (.int kk a) (.int kk b)).run P w= .ok () w:=fun w=>cM op t x y _ _ w (by simp) (by simp)
 unfold R1 at h
 split at h
 case h_4|h_5=>
  obtain ⟨hb,h⟩:=bg h
  have hb:=of_decide_eq_true hb
  refine ⟨_,aL.pure ?_,h⟩
  intro au W ρ Kn Γ w _ _ _ _
  refine ⟨?_,trivial⟩
  simp [hg,binOp,Op.intDiv,hb,gb,AV.ae,A0.ae,Cell.ae]
 case h_16=>exact h.elim
 all_goals
  refine ⟨_,aL.pure ?_,h⟩
  intro au W ρ Kn Γ w _ _ _ _
  refine ⟨?_,trivial⟩
  simp [hg,binOp,Op.intArith,Op.intCmp,Op.intBits,gb,bD,AV.ae,A0.ae,Cell.ae]
theorem IV {tt:List (Nat×TI)} {t:TypeId} (h:ac2 tt t=true): ∃i,aJ tt t=some i/\ cY i.desc=true:=by
 unfold ac2 at h;split at h
 ·exact ⟨_,‹_›,h⟩
 ·cases h
theorem lU (hT:cP P ctx.tt) {t:TypeId} {i:TI} (ht:aJ ctx.tt t=some i) {e:TypeId} (hd:i.desc= .slice e) (a:Option Addr) (n c n' c':Nat) (w:World):
  (Op.equal t (.slice a n c) (.slice none n' c')).run P w= .ok a.isNone w:=by
 have hu:=(hT t i ht).1
 rw [hd] at hu
 show (Op.equalIn (9999+1) t (.slice a n c) (.slice none n' c')).run P w=_
 rw [Op.equalIn]
 simp only [Sem.run_bind,run_underlying hu,Result.andThen_ok]
 cases a<;>simp
theorem Yz (hT:cP P ctx.tt) {op:BinOp} {t:TypeId} {x y:AV} {ox oy:Operand} (h:agB ctx op t x y k):
    ∃r,aL P ctx.X hp nm (fun _=>True) (fun ρ=>do eqGuard op t ox oy (x.ae ρ) (y.ae ρ);binOp op t (x.ae ρ) (y.ae ρ)) (fun ρ=>r.val.ae ρ) r/\ k r:=by
  unfold agB at h
  split at h
  · rename_i kk a k' b
    have hg: ∀op w,(eqGuard op t ox oy (.int kk a) (.int k' b)).run P w= .ok () w:=fun op w=>cM op t ox oy _ _ w (by simp) (by simp)
    split at h
    · obtain ⟨hb,h⟩:=bg h
      have hb:=of_decide_eq_true hb
      refine ⟨_,aL.pure ?_,h⟩
      intro au W ρ Kn Γ w _ _ _ _
      refine ⟨?_,trivial⟩
      simp [AV.ae,A0.ae,Cell.ae,hg,binOp,Op.shift,Int.not_lt.2 hb,gb]
    · obtain ⟨hb,h⟩:=bg h
      have hb:=of_decide_eq_true hb
      refine ⟨_,aL.pure ?_,h⟩
      intro au W ρ Kn Γ w _ _ _ _
      refine ⟨?_,trivial⟩
      simp [AV.ae,A0.ae,Cell.ae,hg,binOp,Op.shift,Int.not_lt.2 hb,gb]
    · split at h
      · rename_i hk;subst hk
        exact R2 h t ox oy
      · exact h.elim
  · rename_i a b
    have hg: ∀op w,(eqGuard op t ox oy (.bool a) (.bool b)).run P w= .ok () w:=fun op w=>cM op t ox oy _ _ w (by simp) (by simp)
    split at h
    all_goals first
      |exact h.elim
      | (split at h
         · rename_i i hi
           split at h
           · rename_i hd
             refine ⟨_,aL.pure ?_,h⟩
             intro au W ρ Kn Γ w _ _ _ _
             refine ⟨?_,trivial⟩
             have hu:=(hT t i hi).1
             rw [hd] at hu
             simp [AV.ae,A0.ae,Cell.ae,hg,binOp,Op.equal,Op.maxDepth,run_equalIn_bool' w 9999 t a b hu,bD]
           · exact h.elim
         · exact h.elim)
  · rename_i a b
    have hg: ∀op w,(eqGuard op t ox oy (.string a) (.string b)).run P w= .ok () w:=fun op w=>cM op t ox oy _ _ w (by simp) (by simp)
    split at h
    case h_3=>
      obtain ⟨hb,h⟩:=bg h
      have hb:=of_decide_eq_true hb
      refine ⟨_,aL.pure ?_,h⟩
      intro au W ρ Kn Γ w _ _ _ _
      refine ⟨?_,trivial⟩
      have: ¬IntKind.i64.max<((a.size+b.size:Nat):Int):=by show¬(9223372036854775807:Int)<_;omega
      simp only [AV.ae,A0.ae,Cell.ae,Sem.run_bind,hg,Result.andThen_ok,binOp,Op.stringOp,gt_iff_lt,this,if_false,Sem.run_pure]
    all_goals first
      |exact h.elim
      | (refine ⟨_,aL.pure ?_,h⟩
         intro au W ρ Kn Γ w _ _ _ _
         refine ⟨?_,trivial⟩
         simp [AV.ae,A0.ae,Cell.ae,hg,binOp,Op.stringOp,bD,bne,beq_toListBytes])
  · rename_i xs ys
    split at h
    · split at h
      · rename_i b ha hb
        refine ⟨_,aL.pure ?_,h⟩
        intro au W ρ Kn Γ w _ _ _ _
        refine ⟨?_,trivial⟩
        obtain ⟨h1,h2⟩:=Za (P:=P) hT hb (IV ha) ρ w ox oy
        simp only [AV.ae,A0.ae,Cell.ae,Sem.run_bind,h1,Result.andThen_ok,run_eql_struct,h2,bD]
      · exact h.elim
    · split at h
      · rename_i b ha hb
        refine ⟨_,aL.pure ?_,h⟩
        intro au W ρ Kn Γ w _ _ _ _
        refine ⟨?_,trivial⟩
        obtain ⟨h1,h2⟩:=Za (P:=P) hT hb (IV ha) ρ w ox oy
        simp only [AV.ae,A0.ae,Cell.ae,Sem.run_bind,h1,Result.andThen_ok,run_neq_struct,h2,bD]
      · exact h.elim
    · exact h.elim
  · rename_i a n1 c1 n2 c2
    split at h
    · rename_i i hi
      split at h
      · rename_i e hd
        refine ⟨_,aL.pure ?_,h⟩
        intro au W ρ Kn Γ w _ _ _ _
        refine ⟨?_,trivial⟩
        have hg: ∀op w,(eqGuard op t ox oy (.slice a n1 c1) (.slice none n2 c2)).run P w= .ok () w:=fun op w=>cM op t ox oy _ _ w (by simp) (by simp)
        simp [AV.ae,A0.ae,Cell.ae,hg,binOp,lU hT hi hd,bD]
      · rename_i e hd
        refine ⟨_,aL.pure ?_,h⟩
        intro au W ρ Kn Γ w _ _ _ _
        refine ⟨?_,trivial⟩
        have hg: ∀op w,(eqGuard op t ox oy (.slice a n1 c1) (.slice none n2 c2)).run P w= .ok () w:=fun op w=>cM op t ox oy _ _ w (by simp) (by simp)
        simp [AV.ae,A0.ae,Cell.ae,hg,binOp,lU hT hi hd,bD]
      · exact h.elim
    · exact h.elim
  · exact h.elim
theorem jo (hT:cP P ctx.tt) {t:TypeId} {i:TI} (ht:aJ ctx.tt t=some i) {e:TypeId} (hd:i.desc= .pointer e) (a:Option Addr) (w:World):
  (Op.equal t (.pointer a) (.pointer none)).run P w= .ok a.isNone w:=by
 have hu:=(hT t i ht).1
 rw [hd] at hu
 show (Op.equalIn (9999+1) t (.pointer a) (.pointer none)).run P w=_
 rw [Op.equalIn]
 simp only [Sem.run_bind,run_underlying hu,Result.andThen_ok]
 cases a<;>simp
theorem aa8 (hT:cP P ctx.tt) {op:BinOp} {t:TypeId} {x y:AV} {ox oy:Operand} (h:ahZ ctx op t x y hp k):
  ∃r,aL P ctx.X hp nm (fun _=>True) (fun ρ=>do eqGuard op t ox oy (x.ae ρ) (y.ae ρ);binOp op t (x.ae ρ) (y.ae ρ)) (fun ρ=>r.val.ae ρ) r/\ k r:=by
 unfold ahZ at h
 have hg: ∀(a b:Option Addr) w,(eqGuard op t ox oy (.pointer a) (.pointer b)).run P w= .ok () w:=fun a b w=>cM op t ox oy _ _ w (by simp) (by simp)
 split at h
 ·rename_i n off
  split at h
  rotate_left
  ·exact h.elim
  rename_i i hi
  split at h
  ·rename_i e hd
   obtain ⟨⟨o,ho,dy⟩,hk⟩:=cJ h
   refine ⟨_,aL.pure ?_,hk⟩
   intro au W ρ Kn Γ w _ _ ja hst
   obtain ⟨b,hb⟩:=dy _ _ ρ w (hst.at_ n o (by rw [ja n (by simp),ho]))
   refine ⟨?_,trivial⟩
   simp [AV.ae,A0.ae,Cell.ae,addrOf,hb,hg,binOp,jo hT hi hd,bD]
  ·rename_i e hd
   obtain ⟨⟨o,ho,dy⟩,hk⟩:=cJ h
   refine ⟨_,aL.pure ?_,hk⟩
   intro au W ρ Kn Γ w _ _ ja hst
   obtain ⟨b,hb⟩:=dy _ _ ρ w (hst.at_ n o (by rw [ja n (by simp),ho]))
   refine ⟨?_,trivial⟩
   simp [AV.ae,A0.ae,Cell.ae,addrOf,hb,hg,binOp,jo hT hi hd,bD]
  ·exact h.elim
 ·rename_i a
  split at h
  rotate_left
  ·exact h.elim
  rename_i i hi
  split at h
  ·rename_i e hd
   refine ⟨_,aL.pure ?_,h⟩
   intro au W ρ Kn Γ w _ _ _ _
   refine ⟨?_,trivial⟩
   simp [AV.ae,A0.ae,Cell.ae,hg,binOp,jo hT hi hd,bD]
  ·rename_i e hd
   refine ⟨_,aL.pure ?_,h⟩
   intro au W ρ Kn Γ w _ _ _ _
   refine ⟨?_,trivial⟩
   simp [AV.ae,A0.ae,Cell.ae,hg,binOp,jo hT hi hd,bD]
  ·exact h.elim
 ·exact h.elim
theorem rT (f:Int->Int->Int) (g:Value->Value->Sem Value) (hg: ∀kk x k' y w,(g (.int kk x) (.int k' y)).run P w= .ok (.int kk (f x y)) w) (ρ:Env) (kk:IntKind):
  ∀(l:List AV) (a n:Int),wg f a l=some n-> ∀w,((l.map (AV.ae ρ)).foldlM g (.int kk a)).run P w= .ok (.int kk n) w
 | [],a,n,h,w=>by simp only [wg,Option.some.injEq] at h;subst h;simp
 |x::r,a,n,h,w=>by
  unfold wg at h
  split at h
  ·simp_all
  ·rename_i k' b r' heq
   cases heq
   have ih:=rT f g hg ρ kk r _ n h w
   simp only [List.map_cons,List.foldlM_cons,Sem.run_bind,AV.ae,A0.ae,Cell.ae,hg,Result.andThen_ok]
   exact ih
  ·cases h
end
end Go.Ev
