/- From the reading of a row's arguments to typed values; from a contract to the row. -/
import Derived.Test.YtngdehlpoomaiaaGreatEvR
import Derived.Carry
import Derived.OpenShut
import Derived.JoinedOf
import Derived.JoinedAt
import Derived.ChangeMaps5
noncomputable section
set_option linter.unusedSectionVars false
set_option linter.unusedVariables false
set_option linter.unusedSimpArgs false
namespace Go.Ev
open Go.RowKit Go.ChangeShapes Go.WideShapes Go.ChangeAt
def vals:(y:Ty)->y.T->List Value
 | .int k,n=> [.int k n]
 | .bool,b=> [.bool b]
 | .str,s=> [.string s]
 | .prod a b,x=>vals a x.1++vals b x.2
 | .sl _,_=> []
def MF (tt:List (Nat×TI)) (t:TypeId) (a:Ty):Bool:=match aL tt t with
 |some i=>Nat.beq i.size a.size
 |none=>false
def lK (tt:List (Nat×TI)) (f:TypeId->Ty->Bool):List Field->Nat->Ty->Bool
 | [],_,_=>false
 | [fl],o,y=>Nat.beq fl.offset o&&MF tt fl.type y&&f fl.type y
 |fl::r,o,.prod a b=>Nat.beq fl.offset o&&MF tt fl.type a&&f fl.type a&&lK tt f r (o+a.size) b
 |_,_,_=>false
def sO (tt:List (Nat×TI)) (f:TypeId->Ty->Bool) (e:TypeId):Nat->Ty->Bool
 |0,_=>false
 |1,y=>MF tt e y&&f e y
 |n+1,.prod a b=>MF tt e a&&f e a&&sO tt f e n b
 |_,_=>false
section
variable {H:Type} {enc:TypeId×Value->H} {P:Program} {w:World} {base:Nat} {sp:Nat->Bool} {hd:Bool} {tt:List (Nat×TI)}
theorem di.cells (h:di P tt) {t:TypeId} {i:TI} (ht:aL tt t=some i):P.cellsOf t=i.size:=by
 obtain ⟨_,_,inf,h1,h2,_⟩:=h t i ht
 simp [Program.cellsOf,h1,h2]
theorem lz (h:di P tt) {t:TypeId} {a:Ty} (hb:MF tt t a=true):P.cellsOf t=a.size:=by
 unfold MF at hb
 split at hb
 ·rename_i i hi
  rw [h.cells hi];exact Nat.eq_of_beq_eq_true hb
 ·cases hb
theorem lS {α β:Type} {f:α->Option β} {a:α} {l:List α} {ys:List β} (h:(a::l).mapM f=some ys): ∃y ys',f a=some y/\ l.mapM f=some ys'/\ ys=y::ys':=by
 rw [List.mapM_cons] at h
 cases ha:f a with
 |none=>rw [ha] at h;cases h
 |some y=>
  rw [ha] at h
  cases hl:l.mapM f with
  |none=>rw [hl] at h;cases h
  |some ys'=>
   rw [hl] at h
   exact ⟨y,ys',rfl,rfl,(Option.some.inj h).symm⟩
structure avB (ρ:Env) (nm:Nat) (p:mG) (x:p.ty.T) (vs:List Value):Prop where
 vals:vs=(aY 0 nm p x).1.map (A0.ae ρ)
 none:(aY 0 nm p x).2= []
 ok: ∀a∈(aY 0 nm p x).1,AV.ok (fun _=>False) (.v a)
end
section
variable {H:Type} {enc:TypeId×Value->H} {P:Program} {tt:List (Nat×TI)}
theorem BJ (hl:laidOutB P=true) {W W':World} (hb:Below W.heap.size W W'): ∀(ts:List TypeId) (vs:List Value) (ds:List (DataW H)) (ps:List MemPlace),(ts.all fun t=>P.readableRec t&&decide (t<P.types.size))=true->
  (∀x∈ps,x.block<W.heap.size)->DataW.TrodAll enc P W 0 (fun _=>true) true ts vs ds ps->DataW.TrodAll enc P W' 0 (fun b=>decide (b<W.heap.size)) true ts vs ds ps
 | [],vs,ds,ps,_,_,h=>by
  obtain ⟨rfl,rfl,rfl⟩:=trodAll_nil h
  exact trodAll_mk0
 |t::ts,vs,ds,ps,hr,hlt,h=>by
  simp only [List.all_cons,Bool.and_eq_true,decide_eq_true_eq] at hr
  obtain ⟨v,vs',d,ds',p0,q0,rfl,rfl,rfl,h1,h2⟩:=trodAll_cons h
  exact trodAll_cons_mk (Below.trod hl hr.1.1 hr.1.2 h1 hb fun x hx=>hlt x (List.mem_append_left _ hx)) (BJ hl hb ts vs' ds' q0 hr.2 (fun x hx=>hlt x (List.mem_append_right _ hx)) h2)
theorem I0 {W:World} {base:Nat} {sp:Nat->Bool} {hd:Bool} : ∀(ts:List TypeId) (vs:List Value) (ds:List (DataW H)) (ps:List MemPlace),DataW.TrodAll enc P W base sp hd ts vs ds ps->ds.length=ts.length
 | [],vs,ds,ps,h=>by
  obtain ⟨rfl,rfl,rfl⟩:=trodAll_nil h
  rfl
 |t::ts,vs,ds,ps,h=>by
  obtain ⟨v,vs',d,ds',p0,q0,rfl,rfl,rfl,h1,h2⟩:=trodAll_cons h
  simp [I0 ts vs' ds' q0 h2]
theorem Fr.below {av:fG} {W w:World} (h:Fr av W w) (hn: ∀k,¬av k):Below W.heap.size W w:=⟨h.os,h.tape,h.output,h.size,fun k hk=>h.block k hk (hn k)⟩
end
end Go.Ev
namespace Go.Ev
open Go.RowKit Go.ChangeShapes Go.WideShapes Go.ChangeAt
def Ty.top:Ty->Bool
 | .prod a b=>a.top&&b.top
 | .sl t=>t.shallow
 |_=>true
def ni (tt:List (Nat×TI)):Nat->TypeId->Ty->Bool
 |0,_,_=>false
 |k+1,t,y=>match aL tt t with
  |none=>false
  |some i=>match i.desc,y with
   | .int k1,.int k2=>decide (k1=k2)
   | .bool,.bool=>true
   | .string,.str=>true
   | .struct fs,y=>Nat.beq i.size y.size&&lK tt (ni tt k) fs.toList 0 y
   | .array n e,y=>Nat.beq i.size y.size&&sO tt (ni tt k) e n y
   | .slice e,.sl u=>MF tt e u&&ni tt k e u
   |_,_=>false
section
variable {H:Type} {enc:TypeId×Value->H} {P:Program} {w:World} {base:Nat} {sp:Nat->Bool} {hd:Bool} {tt:List (Nat×TI)}
theorem vf (hT:di P tt) {C:cw->Value->Prop} {Q:Ty->Bool} (hQ: ∀a b,Q (.prod a b)=(Q a&&Q b)) {f:TypeId->Ty->Bool} {g:TypeId->List Value->Option (DataW H×List MemPlace)}
  (hf: ∀t y cs d ps,f t y=true->Q y=true->g t cs=some (d,ps)-> ∃x:y.T,bN C (y.aU x) cs) (cs:List Value):
  ∀(fs:List Field) (o:Nat) (y:Ty) (xs:List (DataW H×List MemPlace)),lK tt f fs o y=true->Q y=true->cs.length=o+y.size->
   fs.mapM (fun fl=>g fl.type ((cs.drop fl.offset).take (P.cellsOf fl.type)))=some xs-> ∃x:y.T,bN C (y.aU x) (cs.drop o)
 | [],o,y,xs,hb,_,_,_=>by simp [lK] at hb
 | [fl],o,y,xs,hb,hy,hl,h=>by
  simp only [lK,Bool.and_eq_true] at hb
  obtain ⟨⟨h1,h2⟩,h3⟩:=hb
  obtain ⟨z,zs,e1,e2,rfl⟩:=lS h
  rw [Nat.eq_of_beq_eq_true h1,lz hT h2,List.take_of_length_le (by simp;omega)] at e1
  exact hf _ _ _ z.1 z.2 h3 hy e1
 |fl::fl2::r,o,.prod a b,xs,hb,hy,hl,h=>by
  simp only [lK,Bool.and_eq_true] at hb
  obtain ⟨⟨⟨h1,h2⟩,h3⟩,h4⟩:=hb
  rw [hQ,Bool.and_eq_true] at hy
  simp only [Ty.size] at hl
  obtain ⟨z,zs,e1,e2,rfl⟩:=lS h
  rw [Nat.eq_of_beq_eq_true h1,lz hT h2] at e1
  obtain ⟨x,e3⟩:=hf _ _ _ z.1 z.2 h3 hy.1 e1
  obtain ⟨x',e5⟩:=vf hT hQ hf cs (fl2::r) (o+a.size) b zs (by simpa [lK] using h4) hy.2 (by omega) e2
  refine ⟨(x,x'),?_⟩
  simp only [Ty.aU]
  rw [<- List.take_append_drop a.size (cs.drop o),List.drop_drop]
  exact e3.append e5
 |fl::fl2::r,o,.int _,xs,hb,_,_,_=>by simp [lK] at hb
 |fl::fl2::r,o,.bool,xs,hb,_,_,_=>by simp [lK] at hb
 |fl::fl2::r,o,.str,xs,hb,_,_,_=>by simp [lK] at hb
 |fl::fl2::r,o,.sl _,xs,hb,_,_,_=>by simp [lK] at hb
theorem xx (hT:di P tt) {C:cw->Value->Prop} {Q:Ty->Bool} (hQ: ∀a b,Q (.prod a b)=(Q a&&Q b)) {f:TypeId->Ty->Bool} {g:TypeId->List Value->Option (DataW H×List MemPlace)} {e:TypeId}
  (hf: ∀t y cs d ps,f t y=true->Q y=true->g t cs=some (d,ps)-> ∃x:y.T,bN C (y.aU x) cs) (cs:List Value):
  ∀(n j:Nat) (y:Ty) (xs:List (DataW H×List MemPlace)),sO tt f e n y=true->Q y=true->cs.length=j*P.cellsOf e+y.size->
   (List.range' j n).mapM (fun i=>g e ((cs.drop (i*P.cellsOf e)).take (P.cellsOf e)))=some xs-> ∃x:y.T,bN C (y.aU x) (cs.drop (j*P.cellsOf e))
 |0,j,y,xs,hb,_,_,_=>by simp [sO] at hb
 |1,j,y,xs,hb,hy,hl,h=>by
  simp only [sO,Bool.and_eq_true] at hb
  obtain ⟨z,zs,e1,e2,rfl⟩:=lS h
  have hs:=lz hT hb.1
  rw [List.take_of_length_le (by simp;omega)] at e1
  exact hf _ _ _ z.1 z.2 hb.2 hy e1
 |n+2,j,.prod a b,xs,hb,hy,hl,h=>by
  simp only [sO,Bool.and_eq_true] at hb
  obtain ⟨⟨h2,h3⟩,h4⟩:=hb
  rw [hQ,Bool.and_eq_true] at hy
  simp only [Ty.size] at hl
  rw [List.range'_succ] at h
  obtain ⟨z,zs,e1,e2,rfl⟩:=lS h
  have hs:=lz hT h2
  obtain ⟨x,e3⟩:=hf _ _ _ z.1 z.2 h3 hy.1 e1
  have hj:(j+1)*P.cellsOf e=j*P.cellsOf e+P.cellsOf e:=by rw [Nat.add_mul,Nat.one_mul]
  obtain ⟨x',e5⟩:=xx hT hQ hf cs (n+1) (j+1) b zs h4 hy.2 (by rw [hj];omega) e2
  refine ⟨(x,x'),?_⟩
  simp only [Ty.aU]
  rw [hj,<- List.drop_drop] at e5
  rw [<- List.take_append_drop (P.cellsOf e) (cs.drop (j*P.cellsOf e))]
  exact e3.append e5
 |n+2,j,.int _,xs,hb,_,_,_=>by simp [sO] at hb
 |n+2,j,.bool,xs,hb,_,_,_=>by simp [sO] at hb
 |n+2,j,.str,xs,hb,_,_,_=>by simp [sO] at hb
 |n+2,j,.sl _,xs,hb,_,_,_=>by simp [sO] at hb
theorem QE {u:Ty} {a:Addr} {b0:Nat} : ∀(len:Nat),(∀i,i<len-> ∃cs:List Value,w.cells? b0 (a.add (i*u.size)) u.size=some cs/\ ∃x:u.T,bN (dQ w (bj w)) (u.aU x) cs)->
  ∃l:List u.T,l.length=len/\ mH w (bj w) (some a) u l
 |0,_=>⟨[],rfl,[],trivial,fun i v h=>by simp at h⟩
 |len+1,h=>by
  obtain ⟨l,hl,vals,h1,h2⟩:=QE len fun i hi=>h i (by omega)
  obtain ⟨cs,hc,x,hx⟩:=h len (by omega)
  obtain ⟨_,c2,c3⟩:=World.cells?_some hc
  have hv:vals.length=len*u.size:=by rw [<- h1.length,bE,hl]
  refine ⟨l++ [x],by simp [hl],vals++cs,?_,fun i v hi=> ?_⟩
  ·have e:ay u (l++ [x])=ay u l++u.aU x:=by simp [ay]
   rw [e]
   exact h1.append hx
  ·rcases Nat.lt_or_ge i vals.length with hlt|hge
   ·rw [List.getElem?_append_left hlt] at hi
    exact h2 i v hi
   ·rw [List.getElem?_append_right hge] at hi
    have hlt:i- vals.length<u.size:=by rw [<- c2];exact (List.getElem?_eq_some_iff.1 hi).1
    have:=c3 (i- vals.length) hlt
    rw [hi,eA,show len*u.size+(i- vals.length)=i by omega] at this
    have hcb:=bj.of this
    rw [fU] at hcb
    exact ⟨a,rfl,this,hcb⟩
theorem Ib {t e:TypeId} {cs:List Value} {fuel:Nat} {x:DataW H×List MemPlace} (ht:P.underlying t=some (.slice e)) {u:Ty} (hs:P.cellsOf e=u.size) (h:DataW.trod enc P w base sp hd fuel t cs=some x)
  (hr: ∀fuel cs d ps,DataW.trod enc P w base sp hd fuel e cs=some (d,ps)-> ∃x:u.T,bN (dQ w (bj w)) (u.aU x) cs):
  ∃l:List u.T,∃a c,cs= [.slice a l.length c]/\ l.length<=c/\ mH w (bj w) a u l:=by
 rcases DataW.trod_slice ht h with ⟨rfl,_⟩|⟨a,len,cap,elems,rest,n,_,rfl,_,_,hlc,_,hel,he,_⟩
 ·exact ⟨[],none,0,rfl,Nat.le_refl _,[],trivial,fun i v h=>by simp at h⟩
 ·obtain ⟨l,hl,hrow⟩:=QE (w:=w) (u:=u) (a:=a) (b0:=base) len fun i hi=>by
   have:=he i hi
   rw [List.getElem?_eq_getElem (by omega)] at this
   rw [hs] at this
   cases hc:w.cells? base (a.add (i*u.size)) u.size with
   |none=>rw [hc] at this;cases this
   |some cs'=>
    rw [hc,Option.bind_some] at this
    exact ⟨cs',rfl,hr n cs' _ _ this⟩
  exact ⟨l,some a,cap,by rw [hl],by omega,hrow⟩
theorem Qc (hT:di P tt): ∀(k:Nat) (t:TypeId) (y:Ty) (fuel:Nat) (cs:List Value) (d:DataW H) (ps:List MemPlace),ni tt k t y=true->y.shallow=true->DataW.trod enc P w base sp hd fuel t cs=some (d,ps)-> ∃x:y.T,bN (dQ w (bj w)) (y.aU x) cs
 |0,t,y,fuel,cs,d,ps,hb,_,_=>by simp [ni] at hb
 |k+1,t,y,0,cs,d,ps,hb,_,h=>by simp [DataW.trod] at h
 |k+1,t,y,fuel+1,cs,d,ps,hb,hy,h=>by
  unfold ni at hb
  split at hb
  ·cases hb
  rename_i i hi
  have hu:=(hT t i hi).1
  have hc:=hT.cells hi
  have ih: ∀fuel t y cs d ps,ni tt k t y=true->y.shallow=true->DataW.trod enc P w base sp hd fuel t cs=some (d,ps)-> ∃x:y.T,bN (dQ w (bj w)) (y.aU x) cs:=fun fuel t y cs d ps=>Qc hT k t y fuel cs d ps
  split at hb
  ·rename_i k1 k2 xN
   simp only [decide_eq_true_eq] at hb
   subst hb
   rw [xN] at hu
   obtain ⟨n,rfl,e,_⟩:=DataW.trod_int hu h
   exact ⟨n,rfl,trivial⟩
  ·rename_i xN
   rw [xN] at hu
   obtain ⟨b,rfl,e⟩:=DataW.trod_bool hu h
   exact ⟨b,rfl,trivial⟩
  ·rename_i xN
   rw [xN] at hu
   obtain ⟨b,rfl,e,_⟩:=DataW.trod_string hu h
   exact ⟨b,rfl,trivial⟩
  ·rename_i y _ _ fs xN
   simp only [Bool.and_eq_true] at hb
   rw [xN] at hu
   unfold DataW.trod at h
   rw [hu] at h
   dsimp only at h
   split at h
   ·rename_i hl
    rw [hc,Nat.eq_of_beq_eq_true hb.1] at hl
    cases hm:fs.toList.mapM fun f=>DataW.trod enc P w base sp hd fuel f.type ((cs.drop f.offset).take (P.cellsOf f.type)) with
    |none=>rw [hm] at h;cases h
    |some xs=>
     obtain ⟨x,e1⟩:=vf hT (Q:=Ty.shallow) (fun _ _=>rfl) (ih fuel) cs fs.toList 0 y xs hb.2 hy (by omega) hm
     exact ⟨x,by simpa using e1⟩
   ·cases h
  ·rename_i y _ _ n e xN
   simp only [Bool.and_eq_true] at hb
   rw [xN] at hu
   unfold DataW.trod at h
   rw [hu] at h
   dsimp only at h
   split at h
   ·rename_i hl
    rw [hc,Nat.eq_of_beq_eq_true hb.1] at hl
    cases hm:(List.range n).mapM fun i=>DataW.trod enc P w base sp hd fuel e ((cs.drop (i*P.cellsOf e)).take (P.cellsOf e)) with
    |none=>rw [hm] at h;cases h
    |some xs=>
     obtain ⟨x,e1⟩:=xx hT (Q:=Ty.shallow) (fun _ _=>rfl) (ih fuel) cs n 0 y xs hb.2 hy (by omega) (by rw [<- List.range_eq_range'];exact hm)
     exact ⟨x,by simpa using e1⟩
   ·cases h
  ·rename_i e u xN
   simp only [Bool.and_eq_true] at hb
   rw [xN] at hu
   have huf:u.flat=true:=hy
   obtain ⟨l,a,c,rfl,hlc,hrow⟩:=Ib (u:=u) hu (lz hT hb.1) h fun fuel cs d ps hh=>ih fuel e u cs d ps hb.2 (lM huf) hh
   exact ⟨l,⟨a,c,rfl,hrow.nest huf hlc⟩,trivial⟩
  ·cases hb
theorem NK (hT:di P tt): ∀(k:Nat) (t:TypeId) (y:Ty) (fuel:Nat) (cs:List Value) (d:DataW H) (ps:List MemPlace),ni tt k t y=true->y.top=true->DataW.trod enc P w base sp hd fuel t cs=some (d,ps)-> ∃x:y.T,bN (Kp w (Zx w)) (y.aU x) cs
 |0,t,y,fuel,cs,d,ps,hb,_,_=>by simp [ni] at hb
 |k+1,t,y,0,cs,d,ps,hb,_,h=>by simp [DataW.trod] at h
 |k+1,t,y,fuel+1,cs,d,ps,hb,hy,h=>by
  unfold ni at hb
  split at hb
  ·cases hb
  rename_i i hi
  have hu:=(hT t i hi).1
  have hc:=hT.cells hi
  have ih: ∀fuel t y cs d ps,ni tt k t y=true->y.top=true->DataW.trod enc P w base sp hd fuel t cs=some (d,ps)-> ∃x:y.T,bN (Kp w (Zx w)) (y.aU x) cs:=fun fuel t y cs d ps=>NK hT k t y fuel cs d ps
  split at hb
  ·rename_i k1 k2 xN
   simp only [decide_eq_true_eq] at hb
   subst hb
   rw [xN] at hu
   obtain ⟨n,rfl,e,_⟩:=DataW.trod_int hu h
   exact ⟨n,rfl,trivial⟩
  ·rename_i xN
   rw [xN] at hu
   obtain ⟨b,rfl,e⟩:=DataW.trod_bool hu h
   exact ⟨b,rfl,trivial⟩
  ·rename_i xN
   rw [xN] at hu
   obtain ⟨b,rfl,e,_⟩:=DataW.trod_string hu h
   exact ⟨b,rfl,trivial⟩
  ·rename_i y _ _ fs xN
   simp only [Bool.and_eq_true] at hb
   rw [xN] at hu
   unfold DataW.trod at h
   rw [hu] at h
   dsimp only at h
   split at h
   ·rename_i hl
    rw [hc,Nat.eq_of_beq_eq_true hb.1] at hl
    cases hm:fs.toList.mapM fun f=>DataW.trod enc P w base sp hd fuel f.type ((cs.drop f.offset).take (P.cellsOf f.type)) with
    |none=>rw [hm] at h;cases h
    |some xs=>
     obtain ⟨x,e1⟩:=vf hT (Q:=Ty.top) (fun _ _=>rfl) (ih fuel) cs fs.toList 0 y xs hb.2 hy (by omega) hm
     exact ⟨x,by simpa using e1⟩
   ·cases h
  ·rename_i y _ _ n e xN
   simp only [Bool.and_eq_true] at hb
   rw [xN] at hu
   unfold DataW.trod at h
   rw [hu] at h
   dsimp only at h
   split at h
   ·rename_i hl
    rw [hc,Nat.eq_of_beq_eq_true hb.1] at hl
    cases hm:(List.range n).mapM fun i=>DataW.trod enc P w base sp hd fuel e ((cs.drop (i*P.cellsOf e)).take (P.cellsOf e)) with
    |none=>rw [hm] at h;cases h
    |some xs=>
     obtain ⟨x,e1⟩:=xx hT (Q:=Ty.top) (fun _ _=>rfl) (ih fuel) cs n 0 y xs hb.2 hy (by omega) (by rw [<- List.range_eq_range'];exact hm)
     exact ⟨x,by simpa using e1⟩
   ·cases h
  ·rename_i e u xN
   simp only [Bool.and_eq_true] at hb
   rw [xN] at hu
   have hus:u.shallow=true:=hy
   obtain ⟨l,a,c,rfl,hlc,hrow⟩:=Ib (u:=u) hu (lz hT hb.1) h fun fuel cs d ps hh=>Qc hT k e u fuel cs d ps hb.2 hus hh
   exact ⟨l,⟨a,c,rfl,hlc,hrow⟩,trivial⟩
  ·cases hb
def DQ (tt:List (Nat×TI)) (t:TypeId):mG->Bool
 | .agg y=>(match aL tt t with|some i=>dx i.desc|none=>false)&&y.top&&ni tt 20 t y
 | .one y=>match aL tt t with
  |some i=>match i.desc,y with
   | .int k,.int k'=>decide (k=k')
   | .bool,.bool=>true
   | .string,.str=>true
   | .slice _,.sl u=>u.shallow&&ni tt 20 t (.sl u)
   |_,_=>false
  |none=>false
 |_=>false
def Jq (tt:List (Nat×TI)):List TypeId->mG->Bool
 | [],.none=>true
 | [t],p=>DQ tt t p
 |t::ts,.pair a b=>DQ tt t a&&Jq tt ts b
 |_,_=>false
def anZ (w:World) (nm:Nat) (p:mG) (x:p.ty.T) (vs:List Value):Prop:=
 ∃xs,bN (z4 w) (aY 0 nm p x).2 xs/\ ∀aR:Env,(∀i y,xs[i]? =some y->aR (nm+i)=y)->(aY 0 nm p x).1.map (A0.ae aR)=vs
theorem Qg (hT:di P tt) (nm:Nat) {r:Reach} {b0:Nat} : ∀(p:mG) (t:TypeId) (v:Value) (d:DataW H) (ps:List MemPlace),DQ tt t p=true->Value.okWide P w r b0 t v->DataW.Trod enc P w base sp hd t v d ps->
  ∃x:p.ty.T,anZ w nm p x [v]
 | .agg y,t,v,d,ps,hb,hv,h=>by
  simp only [DQ,Bool.and_eq_true] at hb
  obtain ⟨⟨h1,h2⟩,h3⟩:=hb
  split at h1
  rotate_left
  ·cases h1
  rename_i i hi
  have hu:=(hT t i hi).1
  obtain ⟨fuel,hf⟩:=h
  obtain ⟨x,e1⟩:=NK hT 20 t y fuel _ d ps h3 h2 hf
  obtain ⟨cs,rfl⟩: ∃cs,v= .agg cs:=by
   unfold Value.okWide at hv
   rw [hu] at hv
   cases hd':i.desc<;>rw [hd'] at hv h1<;>first|(obtain ⟨cs,e,_⟩:=hv;exact ⟨cs,e⟩)|(simp [dx] at h1)
  have e1:bN (Kp w (Zx w)) (y.aU x) cs.toList:=e1
  obtain ⟨xs,g1,g2⟩:=kK _ _ nm e1
  refine ⟨x,xs,g1,fun aR hr=> ?_⟩
  have:=g2 aR hr
  simp only [aY,wW,List.map_cons,List.map_nil,A0.ae,this]
 | .one y,t,v,d,ps,hb,hv,h=>by
  simp only [DQ] at hb
  split at hb
  rotate_left
  ·cases hb
  rename_i i hi
  have hu:=(hT t i hi).1
  split at hb
  ·rename_i k k' xN
   simp only [decide_eq_true_eq] at hb
   subst hb
   rw [xN] at hu
   obtain ⟨n,rfl,_,rfl,_⟩:=open_int hu hv h
   exact ⟨n,[],trivial,fun _ _=>rfl⟩
  ·rename_i xN
   rw [xN] at hu
   obtain ⟨n,rfl,_,rfl⟩:=open_bool hu hv h
   exact ⟨n,[],trivial,fun _ _=>rfl⟩
  ·rename_i xN
   rw [xN] at hu
   obtain ⟨n,rfl,_,rfl,_⟩:=Go.ChangeMaps.open_string hu hv h
   exact ⟨n,[],trivial,fun _ _=>rfl⟩
  ·rename_i e u xN
   simp only [Bool.and_eq_true] at hb
   rw [xN] at hu
   obtain ⟨a0,len,cap,rfl⟩:=okWide_slice hu hv
   obtain ⟨fuel,hf⟩:=h
   obtain ⟨x,e1⟩:=NK hT 20 t (.sl u) fuel _ d ps hb.2 hb.1 hf
   have e1:bN (Kp w (Zx w)) ((Ty.sl u).aU x) [.slice a0 len cap]:=e1
   obtain ⟨xs,g1,g2⟩:=kK _ _ nm e1
   refine ⟨x,xs,g1,fun aR hr=> ?_⟩
   have:=g2 aR hr
   simp only [Ty.aU,cA,List.map_cons,List.map_nil,List.cons.injEq,and_true] at this
   simp only [aY,wW,Ty.aU,cA,List.map_cons,List.map_nil,A0.ae,this]
  ·cases hb
 | .ptr _,_,_,_,_,hb,_,_=>by simp [DQ] at hb
 | .jO _ _,_,_,_,_,hb,_,_=>by simp [DQ] at hb
 | .pair _ _,_,_,_,_,hb,_,_=>by simp [DQ] at hb
 | .none,_,_,_,_,hb,_,_=>by simp [DQ] at hb
theorem KE (hT:di P tt) {r:Reach} {b0:Nat} : ∀(ts:List TypeId) (p:mG) (nm:Nat) (vs:List Value) (ds:List (DataW H)) (ps:List MemPlace),Jq tt ts p=true->
  (∀(j:Nat) t v,ts[j]? =some t->vs[j]? =some v->Value.okWide P w r b0 t v)->DataW.TrodAll enc P w base sp hd ts vs ds ps-> ∃x:p.ty.T,anZ w nm p x vs
 | [],p,nm,vs,ds,ps,hb,_,h=>by
  cases p<;>simp [Jq] at hb
  obtain ⟨rfl,_,_⟩:=trodAll_nil h
  exact ⟨false,[],trivial,fun _ _=>rfl⟩
 | [t],p,nm,vs,ds,ps,hb,hv,h=>by
  obtain ⟨v,vs',d,ds',p0,q0,rfl,rfl,rfl,h1,h2⟩:=trodAll_cons h
  obtain ⟨rfl,rfl,rfl⟩:=trodAll_nil h2
  exact Qg hT nm p t v d p0 (by simpa [Jq] using hb) (hv 0 t v rfl rfl) h1
 |t::t2::ts,.pair a b,nm,vs,ds,ps,hb,hv,h=>by
  simp only [Jq,Bool.and_eq_true] at hb
  obtain ⟨v,vs',d,ds',p0,q0,rfl,rfl,rfl,h1,h2⟩:=trodAll_cons h
  obtain ⟨x,xs,g1,g2⟩:=Qg hT nm a t v d p0 hb.1 (hv 0 t v rfl rfl) h1
  obtain ⟨y,ys,g3,g4⟩:=KE hT (t2::ts) b (nm+(aY 0 nm a x).2.length) vs' ds' q0 (by simpa [Jq] using hb.2) (fun j t' v' ht hv'=>hv (j+1) t' v' (by simpa using ht) (by simpa using hv')) h2
  refine ⟨(x,y),xs++ys,g1.append g3,fun aR hr=> ?_⟩
  have hl:=g1.length
  show ((aY 0 nm a x).1++(aY 0 (nm+(aY 0 nm a x).2.length) b y).1).map (A0.ae aR)=v::vs'
  rw [List.map_append,g2 aR fun i z hi=>hr i z (by rw [List.getElem?_append_left (List.getElem?_eq_some_iff.1 hi).1];exact hi),g4 aR fun i z hi=>by
   have:=hr (xs.length+i) z (by rw [List.getElem?_append_right (by omega)];simpa using hi)
   rwa [<- hl,<- Nat.add_assoc] at this]
  rfl
 |t::t2::ts,.agg _,_,_,_,_,hb,_,_=>by simp [Jq] at hb
 |t::t2::ts,.one _,_,_,_,_,hb,_,_=>by simp [Jq] at hb
 |t::t2::ts,.ptr _,_,_,_,_,hb,_,_=>by simp [Jq] at hb
 |t::t2::ts,.jO _ _,_,_,_,_,hb,_,_=>by simp [Jq] at hb
 |t::t2::ts,.none,_,_,_,_,hb,_,_=>by simp [Jq] at hb
end
section
variable {H:Type} {enc:TypeId×Value->H} {P:Program} {tt:List (Nat×TI)}
theorem Ot (hT:di P tt) {n:FuncId} {fn:Func} {s:ChangeSpec} {S:bF} {tb:TypeId} {tc:List Nat} (hS:aq P n (ah S)) (hpre: ∀x,S.pre x) (hf: ∀x nm ρ,AV.ae ρ (kp (aY 2 nm S.r (S.f x)).1)= .bool true)
  (hp:Jq tt fn.params.toList S.p=true) (apx: ∀x,fJ (ai (da S.p x)) S.p (cy S.p x)=some (x,[],tc,true))
  (hl:laidOutB P=true) (hr:(fn.params.toList.all fun t=>P.readableRec t&&decide (t<P.types.size))=true) (hv:s.vars= [])
  (hs: ∀(H:Type) (ds:List (DataW H)),ds.length=fn.params.toList.length->s.fn H ds= {results:= [.lit (.bool true)],args:=ds})
  (hres:fn.resultTypes= #[tb]) (hb:P.underlying tb=some .bool)
  (W:World) (base:Nat) (args:Array Value) (ds gs:List (DataW H)) (before:List MemPlace)
  (hval: ∀(j:Nat) t v,fn.params[j]? =some t->args[j]? =some v->Value.okWide P W .any base t v)
  (hW:DataW.Whole enc P fn.params.toList s.vars false W args.toList ds gs before):
  Calls P n args W fun e W'=> ∃v,e= .returned v/\ s.post enc P fn false true false false W args v W':=by
 have hW':=hW
 obtain ⟨p,q,hA,hV,rfl,hfz,ja⟩:=hW
 rw [hv] at hV
 obtain ⟨rfl,rfl⟩:=trodVars_none hV
 rw [List.append_nil] at hW'
 obtain ⟨x,xs,hx1,hx2⟩:=KE hT fn.params.toList S.p 0 args.toList ds p hp (fun j t v h1 h2=>hval j t v (by simpa using h1) (by simpa using h2)) hA
 have hst:=St.begin hx1
 have hargs:=hx2 (fun n=>xs.getD n {}) fun i y hi=>by
  rw [Nat.zero_add,List.getD_eq_getElem?_getD,hi];rfl
 obtain ⟨r,⟨_,hc⟩,hk⟩:=hS cf (cy S.p x) (ai (da S.p x)) (da S.p x).length (fun r=> ∀ρ,AV.ae ρ r.val= .bool true) (by
  unfold ah
  rw [apx x]
  exact ⟨hpre x,fun y hy ρ=>by rw [hy];exact hf x _ ρ⟩)
 have ah6:=hc A6 W _ _ _ W (fun a v h=>h.elim) (fun a ha=>by
  obtain ⟨a0,h1,rfl⟩:=List.mem_map.1 ha
  exact A0.aT (fun m hm=>by simpa [da] using hm.2) a0 (jc 0 S.p x 0 a0 h1)) (fun _ _=>rfl) (fun i _ h=>by
   have h:(da S.p x).length+i<(da S.p x).length:=h
   omega) hst
 have e:((cy S.p x).map (AV.ae fun n=>xs.getD n {})).toArray=args:=by
  unfold cy
  rw [List.map_map]
  have:(AV.ae fun n=>xs.getD n {})∘AV.v=A0.ae fun n=>xs.getD n {} :=rfl
  rw [this,hargs]
 rw [e] at ah6
 refine ah6.mono fun e' W' ⟨ρ',he,_,_,hst⟩=> ?_
 rw [hk ρ'] at he
 have ah5:=hst.fr.below fun _ h=>h
 have hlen:=I0 _ _ _ _ hA
 refine ⟨_,he,ds,[],p,[],p,[],hW',?_,?_,?_,ah5.frame _,fun h=>by cases h⟩
 ·rw [List.append_nil,hs H ds hlen,hres]
  exact trodAll_mk1 (shut_bool hb true)
 ·rw [List.append_nil,hs H ds hlen]
  exact BJ hl ah5 _ _ _ _ hr (fun y hy=>by simpa using hW'.lt y hy) hA
 ·rw [List.append_nil,hs H ds hlen,hv]
  rfl
end
end Go.Ev
