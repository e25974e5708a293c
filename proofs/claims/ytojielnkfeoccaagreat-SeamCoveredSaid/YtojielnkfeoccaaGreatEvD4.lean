/- Maps of flat keys and values. -/
import Derived.Test.YtojielnkfeoccaaGreatEvD3
import Derived.MapKept
noncomputable section
set_option linter.unusedSectionVars false
set_option linter.unusedVariables false
set_option linter.unusedSimpArgs false
namespace Go.Ev
open Go.RowKit
theorem I1.nil:I1 #[] 0:=⟨by simp,by simp⟩
theorem I1.push {es:Array MapEntry} {ck:Nat} (h:I1 es ck) (x v:Value):I1 (es.push {key:=x,val:=v,born:=ck}) (ck+1):=by
 refine ⟨fun e he=> ?_,?_⟩
 ·simp only [Array.toList_push,List.mem_append,List.mem_singleton] at he
  rcases he with he|rfl
  ·exact Nat.lt_succ_of_lt (h.1 e he)
  ·exact Nat.lt_succ_self _
 ·simp only [Array.toList_push,List.map_append,List.map_cons,List.map_nil]
  refine List.nodup_append.2 ⟨h.2,by simp,fun b hb c hc=> ?_⟩
  obtain ⟨e,he,rfl⟩:=List.mem_map.1 hb
  rw [List.mem_singleton] at hc
  subst hc
  exact Nat.ne_of_lt (h.1 e he)
theorem I1.modify {es:Array MapEntry} {ck:Nat} (h:I1 es ck) (j:Nat) (f:MapEntry->MapEntry) (hf: ∀e,(f e).born=e.born):I1 (es.modify j f) ck:=by
 have e:(es.modify j f).toList=es.toList.modify j f:=by simp
 have hb:(es.toList.modify j f).map (·.born)=es.toList.map (·.born):=by
  apply List.ext_getElem?
  intro i
  simp only [List.getElem?_map,List.getElem?_modify]
  cases es.toList[i]? with
  |none=>simp
  |some x=>by_cases hij:j=i<;>simp [hij,hf]
 refine ⟨fun x hx=> ?_,by rw [e,hb];exact h.2⟩
 rw [e] at hx
 have hm:x.born∈es.toList.map (·.born):=by rw [<- hb];exact List.mem_map_of_mem hx
 obtain ⟨y,hy,hyx⟩:=List.mem_map.1 hm
 rw [<- hyx];exact h.1 y hy
theorem tQ (t:Ty) (x:t.T) (ρ:Env):(qG t x).map (Cell.ae ρ)=(t.aL x).map aR:=by
 simp [qG,List.map_map,Cell.ae,Function.comp_def]
theorem kV (a:Bool) (t:Ty) (x:t.T) (ρ:Env):(nR a t x).ae ρ=bQ a t x:=by
 unfold nR bQ
 cases a with
 |true=>simp only [A0.ae,tQ]
 |false=>
  have h:=tQ t x ρ
  dsimp only
  rw [<- h]
  match qG t x with
  | []=>rfl
  | [c]=>rfl
  |_::_::_=>rfl
theorem yN (a:Bool) (t:Ty) (x:t.T) (Kn:Nat->Prop):(nR a t x).ok Kn:=by
 have h: ∀c∈qG t x,c.ok Kn:=fun c hc=>by
  obtain ⟨_,_,rfl⟩:=List.mem_map.1 hc;trivial
 unfold nR
 cases a with
 |true=>exact h
 |false=>
  dsimp only
  split
  ·rename_i c hm
   exact h c (by rw [hm];simp)
  ·trivial
theorem Jo {t:Ty} {x:t.T} {cs:List Cell} {tc:List Nat} (hf:t.flat=true) (h:cL (fun _=>none) t cs=some (x,[],tc)) (w:World) (ρ:Env):cs.map (Cell.ae ρ)=(t.aL x).map aR:=by
 obtain ⟨ys,e,_,ha⟩:=jz _ t _ _ _ _ h
 have:=ha Kg w ρ (fun _=>False) (fun _=>none) w (fun _ _=>rfl) (St.none w _)
 rw [List.append_nil] at e
 subst e
 have key: ∀(cs:List cD) (vs:List Value),(∀c∈cs,∃v,c= .flat v)->cn (Ch w (Lk w)) cs vs->vs=cs.map aR:=by
  intro cs
  induction cs with
  |nil=>intro vs _ h;cases vs<;>first|rfl|exact h.elim
  |cons c r ih=>
   intro vs hc h
   cases vs with
   |nil=>exact h.elim
   |cons v s=>
    obtain ⟨u,rfl⟩:=hc c (by simp)
    have h1:v=u:=h.1
    rw [h1,ih s (fun c hm=>hc c (by simp [hm])) h.2];rfl
 exact key _ _ (fun c hc=>dL hf hc) this
theorem kH {a:Bool} {t:Ty} {v:AV} {x:t.T} (hf:t.flat=true) (h:HM a t v=some x) (w:World) (ρ:Env):v.ae ρ=bQ a t x:=by
 unfold HM at h
 split at h
 ·split at h<;>try (cases h;done)
  rename_i cs ha
  split at h<;>try (cases h;done)
  rename_i hd
  cases h
  have:=Jo hf hd w ρ
  rw [ha]
  simp only [AV.ae,A0.ae,this,bQ]
 ·split at h<;>try (cases h;done)
  rename_i c ha
  split at h<;>try (cases h;done)
  rename_i hd
  cases h
  have:=Jo hf hd w ρ
  have ha:a=false:=by simpa using ha
  rw [ha]
  unfold bQ
  dsimp only
  rw [<- this]
  rfl
 ·cases h
theorem dm: ∀ {t:Ty},t.flat=true-> ∀(x y:t.T),iQ t x y=true↔x=y
 | .int _,_,x,y=>by simp [iQ]
 | .bool,_,x,y=>by simp [iQ]
 | .str,_,x,y=>MapKept.bytes_beq x y
 | .prod a b,h,x,y=>by
  simp only [Ty.flat,Bool.and_eq_true] at h
  simp only [iQ,Bool.and_eq_true,dm h.1,dm h.2]
  exact ⟨fun ⟨h1,h2⟩=>Prod.ext h1 h2,fun h=>by subst h;exact ⟨rfl,rfl⟩⟩
 | .sl _,h,_,_=>by simp [Ty.flat] at h
theorem Cn {k:Ty} {β:Type} (x:k.T): ∀(l:List (k.T×β)) (i:Nat),(rB x l i).map (·.2)=eI l x
 | [],_=>rfl
 |p::r,i=>by
  unfold rB eI
  cases iQ k x p.1 with
  |true=>rfl
  |false=>exact Cn x r (i+1)
theorem wj {k:Ty} {β:Type} (x:k.T) (y:β): ∀(l:List (k.T×β)) (i:Nat),match rB x l i with
  |none=>bU l x y=l++ [(x,y)]
  |some (j,_)=>i<=j/\ ∃p,l[j- i]? =some p/\ iQ k x p.1=true/\ bU l x y=l.set (j- i) (x,y)
 | [],_=>rfl
 |p::r,i=>by
  unfold rB bU
  cases h:iQ k x p.1 with
  |true=>exact ⟨Nat.le_refl _,p,by simp,h,by simp⟩
  |false=>
   have:=wj x y r (i+1)
   dsimp only
   split
   ·rename_i e
    rw [e] at this
    simp only at this
    rw [this];rfl
   ·rename_i j q e
    rw [e] at this
    obtain ⟨h1,p',h2,h3,h4⟩:=this
    have e1:j- i=(j- (i+1))+1:=by omega
    exact ⟨by omega,p',by rw [e1];simpa using h2,h3,by rw [e1,h4];simp⟩
end Go.Ev
namespace Go.Ev
open Go.RowKit
section
variable {P:Program} {ctx:Ctx} {hp:HP} {nm:Nat} {k:Rec->Prop}
theorem kX (hT:aX P ctx.tt) (em:Bool): ∀(d:Nat) (t:TypeId) (xs:List Cell) (b:Bool),P5 ctx.tt d t xs xs=some b-> ∀(D:Nat),d<=D-> ∀(ρ:Env) (w:World),
  ∃i,aG ctx.tt t=some i/\ ∃u,valOf i.desc (xs.map (Cell.ae ρ))=some u/\ (Instr.checkKey em D t u).run P w= .ok () w
 |0,_,_,_,h,_,_,_,_=>by simp [P5] at h
 |d+1,t,xs,b,h,D,hD,ρ,w=>by
  obtain ⟨D,rfl⟩: ∃D',D=D'+1:=⟨D- 1,by omega⟩
  simp only [P5] at h
  split at h
  ·cases h
  ·rename_i i hi
   refine ⟨i,hi,?_⟩
   have hu:=(hT t i hi).1
   split at h
   ·rename_i k0 hd
    split at h
    ·refine ⟨_,(by simp only [valOf,hd,az,Bool.false_eq_true,if_false,List.map_cons,List.map_nil];rfl),?_⟩
     have e0:P.underlying t=some (.int k0):=by rw [hu,hd]
     simp [Instr.checkKey,run_underlying e0]
    ·cases h
   ·rename_i hd
    split at h
    ·refine ⟨_,(by simp only [valOf,hd,az,Bool.false_eq_true,if_false,List.map_cons,List.map_nil];rfl),?_⟩
     have e0:P.underlying t=some .bool:=by rw [hu,hd]
     simp [Instr.checkKey,run_underlying e0]
    ·cases h
   ·rename_i hd
    split at h
    ·refine ⟨_,(by simp only [valOf,hd,az,Bool.false_eq_true,if_false,List.map_cons,List.map_nil];rfl),?_⟩
     have e0:P.underlying t=some .string:=by rw [hu,hd]
     simp [Instr.checkKey,run_underlying e0]
    ·cases h
   ·rename_i fs hd
    refine ⟨.agg (xs.map (Cell.ae ρ)).toArray,by simp [valOf,hd,az],?_⟩
    have e0:P.underlying t=some (.struct fs):=by rw [hu,hd]
    simp only [Instr.checkKey,Sem.run_bind,run_underlying e0,Result.andThen_ok]
    rw [<- Array.forIn_toList]
    clear hd e0 hu
    generalize fs.toList=l at h ⊢
    induction l generalizing b with
    |nil=>simp
    |cons f r ih=>
     simp only [eqFields] at h
     split at h
     ·cases h
     ·rename_i fi Et
      split at h
      ·cases h
      ·rename_i hnm
       split at h
       ·rename_i b1 b2 h1 h2
        obtain ⟨fi',SN,u,IQ,hr⟩:=kX hT em d f.type _ b1 h1 D (by omega) ρ w
        rw [Et] at SN;cases SN
        rw [eE] at IQ
        simp only [List.forIn_cons,ne_eq,hnm,not_false_eq_true,if_true,Sem.run_bind,nJ hT Et _ _ IQ,Result.andThen_ok,hr,Sem.run_pure]
        exact ih b2 h2
       ·cases h
   ·rename_i n e hd
    split at h
    ·rename_i ei iD
     refine ⟨.agg (xs.map (Cell.ae ρ)).toArray,by simp [valOf,hd,az],?_⟩
     have e0:P.underlying t=some (.array n e):=by rw [hu,hd]
     simp only [Instr.checkKey,Sem.run_bind,run_underlying e0,Result.andThen_ok]
     rw [Std.Legacy.Range.forIn_eq_forIn_range']
     simp only [Std.Legacy.Range.size,Nat.sub_zero,Nat.add_sub_cancel,Nat.div_one]
     clear hd e0 hu
     generalize 0=s at h ⊢
     induction n generalizing s b with
     |zero=>simp
     |succ n ih=>
      simp only [wI] at h
      split at h
      ·rename_i b1 b2 h1 h2
       obtain ⟨ei',SM,u,IQ,hr⟩:=kX hT em d e _ b1 h1 D (by omega) ρ w
       rw [iD] at SM;cases SM
       rw [eE] at IQ
       simp only [List.range'_succ,List.forIn_cons,Sem.run_bind,hT.sz iD,nJ hT iD _ _ IQ,Result.andThen_ok,hr,Sem.run_pure]
       exact ih b2 (s+1) h2
      ·cases h
    ·cases h
   ·cases h
theorem qT {t:Ty} {d:TypeDesc} {x:t.T} {u:Value} {ρ:Env} (h:valOf d ((qG t x).map (Cell.ae ρ))=some u):u=bQ (az d) t x:=by
 rw [tQ] at h
 unfold valOf at h
 unfold bQ
 split at h
 ·rename_i ha
  cases h;rw [ha]
 ·rename_i ha
  have:az d=false:=by simpa using ha
  rw [this]
  dsimp only
  split at h
  ·rename_i v hv
   cases h;rw [hv]
  ·cases h
theorem jV (hT:aX P ctx.tt) {kt:TypeId} {ki:TI} (JM:aG ctx.tt kt=some ki) {kT:Ty} (hK:jL ctx.tt kt kT) (em:Bool) (x:kT.T) (w:World):
  (Instr.checkKey em 10000 kt (bQ (az ki.desc) kT x)).run P w= .ok () w:=by
 obtain ⟨i,hi,u,hu,hr⟩:=kX hT em 20 kt _ _ (hK x x) 10000 (by omega) (fun _=> {}) w
 rw [JM] at hi;cases hi
 rw [<- qT hu];exact hr
theorem P6 (hT:aX P ctx.tt) {kt:TypeId} {ki:TI} (JM:aG ctx.tt kt=some ki) {kT:Ty} (hK:jL ctx.tt kt kT) (x y:kT.T) (w:World):
  (Op.equal kt (bQ (az ki.desc) kT x) (bQ (az ki.desc) kT y)).run P w= .ok (iQ kT x y) w:=by
 obtain ⟨i,hi,u,v,hu,hv,hr⟩:=wH hT 20 kt _ _ _ (hK x y) 10000 (by omega) (fun _=> {}) w
 rw [JM] at hi;cases hi
 rw [<- qT hu,<- qT hv];exact hr
def Se (ka va:Bool) (kT vT:Ty) (l:List (kT.T×vT.T)):List (Value×Value):=l.map fun p=>(bQ ka kT p.1,bQ va vT p.2)
def tX {β:Type} (ka:Bool) (kT:Ty) (f:β->Value) (l:List (kT.T×β)):List (Value×Value):=l.map fun p=>(bQ ka kT p.1,f p.2)
theorem rZ {β:Type} (f:β->Value) (hT:aX P ctx.tt) {kt:TypeId} {ki:TI} (JM:aG ctx.tt kt=some ki) {kT:Ty} (hK:jL ctx.tt kt kT) (x:kT.T) (w:World):
  ∀(es:List MapEntry) (l:List (kT.T×β)) (i:Nat),es.map (fun e=>(e.key,e.val))=tX (az ki.desc) kT f l->
   (Instr.findAsking kt (bQ (az ki.desc) kT x) es i).run P w= .ok ((rB x l i).map fun q=>(q.1,f q.2)) w
 | [],l,i,h=>by
  cases l with
  |nil=>rfl
  |cons p r=>simp [tX] at h
 |e::es,l,i,h=>by
  cases l with
  |nil=>simp [tX] at h
  |cons p r=>
   simp only [tX,List.map_cons,List.cons.injEq,Prod.mk.injEq] at h
   obtain ⟨⟨h1,h2⟩,h3⟩:=h
   simp only [Instr.findAsking,Sem.run_bind,h1,P6 hT JM hK,Result.andThen_ok,rB]
   cases iQ kT x p.1 with
   |true=>simp [h2]
   |false=>exact rZ f hT JM hK x w es r (i+1) h3
theorem Nf (hT:aX P ctx.tt) {kt:TypeId} {ki:TI} (JM:aG ctx.tt kt=some ki) {kT:Ty} (hf:kT.flat=true) (hK:jL ctx.tt kt kT) (ha:az ki.desc=false) (x y:kT.T):
  Instr.sameNow ki.desc (bQ false kT x) (bQ false kT y)=some (iQ kT x y):=by
 have h:=hK x y
 simp only [P5,JM] at h
 split at h
 ·rename_i k0 hd
  cases kT with
  |int k1=>
   simp only [qG,Ty.aL,List.map_cons,List.map_nil,aR,if_true] at h
   simp only [hd,bQ,Ty.aL,List.map_cons,List.map_nil,aR,Instr.sameNow,if_true,iQ]
  |bool=>simp [qG,Ty.aL,aR] at h
  |str=>simp [qG,Ty.aL,aR] at h
  |prod a b=>
   split at h
   ·rename_i hx hy
    have h1:=congrArg List.length hx
    have h2:=Ty.size_pos a
    have h3:=Ty.size_pos b
    simp [qG,aK,Ty.size] at h1;omega
   ·cases h
  |sl u=>simp [Ty.flat] at hf
 ·rename_i hd
  cases kT with
  |bool=>simp only [hd,bQ,Ty.aL,List.map_cons,List.map_nil,aR,Instr.sameNow,iQ]
  |int k1=>simp [qG,Ty.aL,aR] at h
  |str=>simp [qG,Ty.aL,aR] at h
  |prod a b=>
   split at h
   ·rename_i hx hy
    have h1:=congrArg List.length hx
    have h2:=Ty.size_pos a
    have h3:=Ty.size_pos b
    simp [qG,aK,Ty.size] at h1;omega
   ·cases h
  |sl u=>simp [Ty.flat] at hf
 ·rename_i hd
  cases kT with
  |str=>simp only [hd,bQ,Ty.aL,List.map_cons,List.map_nil,aR,Instr.sameNow,iQ]
  |int k1=>simp [qG,Ty.aL,aR] at h
  |bool=>simp [qG,Ty.aL,aR] at h
  |prod a b=>
   split at h
   ·rename_i hx hy
    have h1:=congrArg List.length hx
    have h2:=Ty.size_pos a
    have h3:=Ty.size_pos b
    simp [qG,aK,Ty.size] at h1;omega
   ·cases h
  |sl u=>simp [Ty.flat] at hf
 ·rename_i fs hd;rw [hd] at ha;cases ha
 ·rename_i n e hd;rw [hd] at ha;cases ha
 ·cases h
theorem Ao {β:Type} (f:β->Value) (hT:aX P ctx.tt) {kt:TypeId} {ki:TI} (JM:aG ctx.tt kt=some ki) {kT:Ty} (hf:kT.flat=true) (hK:jL ctx.tt kt kT) (ha:az ki.desc=false) (x:kT.T):
  ∀(es:List MapEntry) (l:List (kT.T×β)) (i:Nat),es.map (fun e=>(e.key,e.val))=tX false kT f l->
   Instr.findNow ki.desc (bQ false kT x) es i=some ((rB x l i).map fun q=>(q.1,f q.2))
 | [],l,i,h=>by
  cases l with
  |nil=>rfl
  |cons p r=>simp [tX] at h
 |e::es,l,i,h=>by
  cases l with
  |nil=>simp [tX] at h
  |cons p r=>
   simp only [tX,List.map_cons,List.cons.injEq,Prod.mk.injEq] at h
   obtain ⟨⟨h1,h2⟩,h3⟩:=h
   simp only [Instr.findNow,h1,Nf hT JM hf hK ha,rB]
   cases iQ kT x p.1 with
   |true=>simp [h2]
   |false=>exact Ao f hT JM hf hK ha x es r (i+1) h3
theorem lM {β:Type} (f:β->Value) (hT:aX P ctx.tt) {kt:TypeId} {ki:TI} (JM:aG ctx.tt kt=some ki) {kT:Ty} (hf:kT.flat=true) (hK:jL ctx.tt kt kT) (x:kT.T) (w:World)
  (es:List MapEntry) (l:List (kT.T×β)) (h:es.map (fun e=>(e.key,e.val))=tX (az ki.desc) kT f l):
  (Instr.findKey kt (bQ (az ki.desc) kT x) es).run P w= .ok ((rB x l 0).map fun q=>(q.1,f q.2)) w:=by
 have hu:=hT.u JM w
 unfold Instr.findKey
 simp only [Sem.run_bind,hu,Result.andThen_ok]
 cases ha:az ki.desc with
 |false=>
  rw [ha] at h
  rw [Ao f hT JM hf hK ha x es l 0 h]
  rfl
 |true=>
  cases es with
  |nil=>
   cases l with
   |nil=>rfl
   |cons p r=>simp [tX] at h
  |cons e es=>
   have:Instr.findNow ki.desc (bQ true kT x) (e::es) 0=none:=by
    have:Instr.sameNow ki.desc (bQ true kT x) e.key=none:=by
     unfold Instr.sameNow bQ
     cases ki.desc<;>simp_all [az]
    simp only [Instr.findNow,this]
   rw [this]
   rw [<- ha]
   exact rZ f hT JM hK x w (e::es) l 0 h
theorem St.Aa {ax:jh} {W w w1:World} {ρ:Env} {Kn:Nat->Prop} {Γ:HP} {n b:Nat} {o o':aQ} (h:St ax W ρ Kn Γ w) (hn:Γ n=some o) (hb:(ρ n).blk=some b) (tY:o'.ok Kn) (hno: ∀S,o'≠ .ga S)
  (hf:Fr ax W w1) (hw: ∀b',b'≠b->w1.heap[b']? =w.heap[b']?) (hsz:w.heap.size<=w1.heap.size)
  (bD:(∀b',gW ρ Γ w b'->gW ρ (bK Γ n o') w1 b'/\ w1.heap[b']? =w.heap[b']?)->bu (gW ρ (bK Γ n o') w1) (B7 ax W) ρ n o' w1):St ax W ρ Kn (bK Γ n o') w1:=by
 have hs: ∀m,(bK Γ n o' m).isSome=true->(Γ m).isSome=true:=fun m hm=>by
  unfold bK at hm;split at hm
  ·rename_i e;subst e;simp [hn]
  ·exact hm
 have Bj: ∀b,HI (bK Γ n o') b->HI Γ b:=fun b ⟨m,S,h1,h2⟩=>by
  unfold bK at h1
  split at h1
  ·cases h1;exact absurd rfl (hno S)
  ·exact ⟨m,S,h1,h2⟩
 have hfz: ∀b',gW ρ Γ w b'->gW ρ (bK Γ n o') w1 b'/\ w1.heap[b']? =w.heap[b']? :=fun b' hf=>by
  have hne:b'≠b:=by rintro rfl;exact hf.2 (.inl ⟨n,by simp [hn],.inl hb⟩)
  refine ⟨⟨hf.1.same (hw _ hne),?_⟩,hw _ hne⟩
  rintro (⟨m,h1,h2⟩|⟨m,S,h1,h2⟩)
  ·exact hf.2 (.inl ⟨m,hs m h1,h2⟩)
  ·exact hf.2 (.inr (Bj b' ⟨m,S,h1,h2⟩))
 refine ⟨hf,fun m p hp=> ?_,fun m p hp=> ?_,fun m m' c hm hm' ik iW=>h.eS m m' c (hs m hm) (hs m' hm') ik iW,fun m c hm hc=>h.mA m c (hs m hm) hc,fun c hc=> ?_,fun m p hp=> ?_⟩
 rotate_right
 ·unfold bK at hp
  split at hp
  ·rename_i e;subst e
   rcases h.vX m o hn with ⟨g,rfl⟩|he
   ·have:=(h.at_ m _ hn).1
    rw [hb] at this;cases this
   ·exact .inr he
  ·exact h.vX m p hp
 rotate_right
 ·obtain ⟨h1,h2⟩:=h.wZ c (Bj c hc)
  exact ⟨by omega,fun ⟨m,h3,h4⟩=>h2 ⟨m,hs m h3,h4⟩⟩
 ·unfold bK at hp;split at hp
  ·rename_i e;subst e;cases hp;exact bD hfz
  ·rename_i e
   refine cr (Kn:=Kn) (h.at_ m p hp) (fun _ _=>rfl) (h.kn m p hp).1 (h.kn m p hp).2 hfz (fun _ _ h=>h) fun c hc=>hw _ ?_
   rintro rfl
   exact e (h.eS m n _ (by simp [hp]) (by simp [hn]) hc (.inl hb))
 ·unfold bK at hp;split at hp
  ·rename_i e;subst e;cases hp;exact ⟨(h.kn m o hn).1,tY⟩
  ·exact h.kn m p hp
theorem qA {i:TI} {kk:TypeId->TI->TI->Ty->Ty->Prop} (h:FJ ctx i kk): ∃kt et ki ei kT vT,i.desc= .map kt et/\ aG ctx.tt kt=some ki/\ aG ctx.tt et=some ei/\ kT.flat=true/\ vT.flat=true/\ C9 ei.zero=az ei.desc/\ kk kt ki ei kT vT:=by
 unfold FJ at h
 split at h
 ·rename_i kt et hd
  split at h
  ·rename_i ki ei h1 h2
   split at h
   ·rename_i kT vT h3 h4
    split at h
    ·rename_i h5
     simp only [Bool.and_eq_true,beq_iff_eq] at h5
     exact ⟨kt,et,ki,ei,kT,vT,hd,h1,h2,h5.1.1,h5.1.2,h5.2,h⟩
    ·exact h.elim
   ·exact h.elim
  ·exact h.elim
 ·exact h.elim
theorem G0 {t:Ty} {z:t.T} {v:Value} {tc:List Nat} (hf:t.flat=true) (h:cL (fun _=>none) t (gX v)=some (z,[],tc)) (w:World):v=bQ (C9 v) t z:=by
 have:=G1 hf h w
 cases v with
 |agg cs=>
  simp only [C9,bQ]
  rw [<- this]
  rfl
 |_=>
  simp only [C9,bQ]
  rw [<- this]
  rfl
theorem HV {i:TI} {t:TypeId} (h:J6 ctx i nm k): ∃r,aJ P ctx.X hp nm (fun _=>True) (fun _=>Instr.makeMap t none) (fun ρ=>r.val.ae ρ) r/\ k r:=by
 have h0:=qA h
 clear h
 obtain ⟨kt,et,ki,ei,kT,vT,hd,h1,h2,h3,h4,h5,h⟩:=h0
 refine ⟨_,⟨fun p hp=>absurd hp (by simp),?_⟩,h⟩
 intro ax W ρ Kn Γ w _ _ _ hfr hst
 have hn: ¬Kn nm:=by simpa using hfr 0 (by simp)
 refine ⟨aZ ρ nm {blk:=some w.heap.size},w.alloc (.map #[] 0),?_,bY hn,?_,?_⟩
 ·simp only [AV.ae,A0.ae,Cell.ae,aZ,if_true];rfl
 ·exact .inr ⟨Nat.le_refl _,by simp⟩
 ·rw [oD]
  have e: ∀(v:AV) (o:aQ) (tc:List Nat),live (some o)=some o->cq {val:=v,fresh:= [o],aB:=tc} nm Γ=bK Γ nm o:=fun v o tc ho=>by
   funext m;simp only [cq,bK,List.length_singleton,ct]
   by_cases h:m=nm
   ·subst h;simpa using ho
   ·have: ¬(nm≤m∧m<nm+1):=by omega
    simp [h,this]
  rw [e _ _ _ rfl]
  have hsz:=hst.fr.size
  refine hst.swap (G:= []) (o:= .map (az ki.desc) (az ei.desc) kT vT []) hn (hst.fr.alloc _) (fun b hb _=>Below.heap_alloc _ _ _ hb) (fun b hb=> ?_) (fun m p hp=> ?_) trivial (fun _ h=>by cases h) fun _ _=> ?_
  ·cases hb;exact ⟨.inl (Nat.le_refl _),.inl hsz⟩
  ·unfold bK at hp
   split at hp
   ·rename_i e1;cases hp;exact .inl ⟨e1,rfl⟩
   ·rename_i e1;exact .inr ⟨e1,by simp,hp⟩
  ·exact ⟨h3,h4,w.heap.size,#[],0,by simp [aZ],by show (w.heap.push _)[w.heap.size]? =_;simp,rfl,I1.nil⟩
theorem J4 (hT:aX P ctx.tt) {t:TypeId} {i:TI} (ht:aG ctx.tt t=some i) {x ix:AV} {ok:Bool} (h:Oe ctx i x ix ok hp k):
  ∃r,aJ P ctx.X hp nm (fun _=>True) (fun ρ=>Instr.lookup t (x.ae ρ) (ix.ae ρ) ok) (fun ρ=>r.val.ae ρ) r/\ k r:=by
 have h0:=qA h
 clear h
 obtain ⟨kt,et,ki,ei,kT,vT,hd,h1,h2,h3,h4,h5,h⟩:=h0
 split at h<;>try (exact h.elim)
 rename_i n
 split at h<;>try (exact h.elim)
 rename_i ka va fu lF l hn
 split at h<;>try (exact h.elim)
 rename_i l5
 split at h<;>try (exact h.elim)
 rename_i SY
 obtain ⟨rfl,rfl⟩:=SY
 obtain ⟨rfl,rfl⟩:=l5
 split at h<;>try (exact h.elim)
 rename_i a z tc hk hz
 obtain ⟨hK,_,h⟩:=h
 refine ⟨_,aJ.pure ?_,h _ rfl⟩
 intro ax W ρ Kn Γ w _ _ dH hst
 obtain ⟨_,_,b,es,ck,hb,hh,he,_⟩:=hst.at_ n _ (by rw [dH n (by simp),hn])
 have hkey:=kH h3 hk w ρ
 have hfind:=lM (fun y:lF.T=>bQ (az ei.desc) lF y) hT h1 h3 hK a w es.toList l he
 have zn:=jV hT h1 hK es.isEmpty a w
 have hzero:=G0 h4 hz w
 rw [h5] at hzero
 have uq:=Cn a l 0
 have eb: ∀v:Value,(A0.one (.raw v)).ae ρ=v:=fun _=>rfl
 refine ⟨?_,?_⟩
 ·rw [hkey]
  have Mh:(AV.v (.one (.mp n))).ae ρ= .map (some b):=by simp only [AV.ae,A0.ae,Cell.ae,hb]
  rw [Mh]
  simp only [Instr.lookup,Sem.run_bind,hT.u ht,hd,Result.andThen_ok,MapKept.run_getObj_map hh,Sem.run_pure,zn,hfind]
  cases bD:rB a l 0 with
  |none=>
   rw [bD] at uq
   have e1:eI l a=none:=uq.symm
   simp only [Option.map_none,Sem.run_bind,hT.z h2,Result.andThen_ok,Sem.run_pure]
   have e2:aU l a z=z:=by simp [aU,e1]
   have e3:nj l a=false:=by simp [nj,e1]
   cases ok with
   |true=>
    simp only [if_true,Sem.run_pure,AV.ae,List.map_cons,List.map_nil,kV,eb,e2,e3,hzero]
   |false=>
    simp only [Bool.false_eq_true,if_false,Sem.run_pure,AV.ae,kV,e2,hzero]
  |some q=>
   rw [bD] at uq
   have e1:eI l a=some q.2:=uq.symm
   simp only [Option.map_some,Sem.run_bind,Result.andThen_ok,Sem.run_pure]
   have e2:aU l a z=q.2:=by simp [aU,e1]
   have e3:nj l a=true:=by simp [nj,e1]
   cases ok with
   |true=>
    simp only [if_true,Sem.run_pure,AV.ae,List.map_cons,List.map_nil,kV,eb,e2,e3]
   |false=>
    simp only [Bool.false_eq_true,if_false,Sem.run_pure,AV.ae,kV,e2]
 ·cases ok with
  |true=>
   intro x hx
   simp only [if_true,List.mem_cons,List.not_mem_nil,or_false] at hx
   rcases hx with rfl|rfl
   ·exact yN _ _ _ _
   ·trivial
  |false=>exact yN _ _ _ _
theorem pA {t:Ty} (hf:t.flat=true) (a:Bool) (x:t.T) (n:Nat) (hv:bQ a t x≠ .tuple #[]):Instr.sameBits (n+1) (bQ a t x) (bQ a t x)=true:=by
 have h1: ∀m v,v∈(t.aL x).map aR->Instr.sameBits m v v=true:=fun m v hv=>by
  obtain ⟨c,hc,rfl⟩:=List.mem_map.1 hv
  have key: ∀(t:Ty) (x:t.T) (c:cD),t.flat=true->c∈t.aL x->Instr.sameBits m (aR c) (aR c)=true:=by
   intro t
   induction t with
   |int k=>intro x c _ hc;simp only [Ty.aL,List.mem_singleton] at hc;subst hc;cases m<;>simp [aR,Instr.sameBits]
   |bool=>intro x c _ hc;simp only [Ty.aL,List.mem_singleton] at hc;subst hc;cases m<;>simp [aR,Instr.sameBits]
   |str=>
    intro x c _ hc
    simp only [Ty.aL,List.mem_singleton] at hc
    subst hc
    cases m<;>exact (MapKept.bytes_beq _ _).2 rfl
   |prod a b iha ihb=>
    intro x c hf hc
    simp only [Ty.flat,Bool.and_eq_true] at hf
    simp only [Ty.aL,List.mem_append] at hc
    exact hc.elim (iha x.1 c hf.1) (ihb x.2 c hf.2)
   |sl u _=>intro x c hf;simp [Ty.flat] at hf
  exact key t x c hf hc
 unfold bQ at hv ⊢
 cases a with
 |true=>
  simp only [Instr.sameBits,beq_self_eq_true,Bool.true_and,List.all_eq_true]
  rintro ⟨u,v⟩ huv
  have:u=v/\ u∈(t.aL x).map aR:=by
   revert huv
   generalize (t.aL x).map aR=l
   induction l with
   |nil=>intro h;simp at h
   |cons c r ih=>
    intro h
    simp only [List.zip_cons_cons,List.mem_cons,Prod.mk.injEq] at h
    rcases h with ⟨rfl,rfl⟩|h
    ·exact ⟨rfl,by simp⟩
    ·have:=ih h;exact ⟨this.1,by simp [this.2]⟩
  obtain ⟨rfl,hu⟩:=this
  exact h1 n u hu
 |false=>
  dsimp only at hv ⊢
  split
  ·rename_i v hm
   exact h1 _ v (by rw [hm];simp)
  ·rename_i hm
   split at hv
   ·rename_i v V6;exact absurd V6 (hm v)
   ·exact absurd rfl hv
theorem IJ {t:Ty} {ki:TI} {kt:TypeId} (hT:aX P ctx.tt) (JM:aG ctx.tt kt=some ki) (hK:jL ctx.tt kt t) (x:t.T) (w:World):bQ (az ki.desc) t x≠ .tuple #[]:=by
 obtain ⟨i,hi,u,hu,hr⟩:=kX hT false 20 kt _ _ (hK x x) 10000 (by omega) (fun _=> {}) w
 rw [JM] at hi;cases hi
 rw [<- qT hu]
 unfold valOf at hu
 split at hu
 ·cases hu;intro h;cases h
 ·split at hu
  ·rename_i v hm
   cases hu
   have hm':=hm
   rw [tQ] at hm'
   cases t with
   |int k=>simp only [Ty.aL,List.map_cons,List.map_nil,aR,List.cons.injEq,and_true] at hm';subst hm';intro h;cases h
   |bool=>simp only [Ty.aL,List.map_cons,List.map_nil,aR,List.cons.injEq,and_true] at hm';subst hm';intro h;cases h
   |str=>simp only [Ty.aL,List.map_cons,List.map_nil,aR,List.cons.injEq,and_true] at hm';subst hm';intro h;cases h
   |prod a b=>
    have h1:=congrArg List.length hm'
    have h2:=Ty.size_pos a
    have h3:=Ty.size_pos b
    simp only [List.length_map,aK,Ty.size,List.length_singleton] at h1
    omega
   |sl u=>simp only [Ty.aL,List.map_cons,List.map_nil,aR,List.cons.injEq,and_true] at hm';subst hm';intro h;cases h
  ·cases hu
theorem sw (hT:aX P ctx.tt) {t:TypeId} {i:TI} (ht:aG ctx.tt t=some i) {x ix v:AV} (h:vn ctx i x ix v hp k):
  ∃r,aJ P ctx.X hp nm (fun _=>True) (fun ρ=>Instr.mapUpdate t (x.ae ρ) (ix.ae ρ) (v.ae ρ)) (fun _=>()) r/\ k r/\ r.val=aT:=by
 have h0:=qA h
 clear h
 obtain ⟨kt,et,ki,ei,kT,vT,hd,h1,h2,h3,h4,h5,h⟩:=h0
 split at h<;>try (exact h.elim)
 rename_i n
 split at h<;>try (exact h.elim)
 rename_i ka va fu lF l hn
 split at h<;>try (exact h.elim)
 rename_i l5
 split at h<;>try (exact h.elim)
 rename_i SY
 obtain ⟨rfl,rfl⟩:=SY
 obtain ⟨rfl,rfl⟩:=l5
 split at h<;>try (exact h.elim)
 rename_i a y hk hv
 obtain ⟨hK,_,h⟩:=h
 refine ⟨_,⟨fun p hp=> ?_,?_⟩,h _ rfl,rfl⟩
 ·simp only [List.mem_singleton] at hp;subst hp;rw [hn];intro e;cases e
 intro ax W ρ Kn Γ w _ _ dH _ hst
 have cm:Γ n=some (.map (az ki.desc) (az ei.desc) fu lF l):=by rw [dH n (by simp),hn]
 obtain ⟨_,_,b,es,ck,hb,hh,he,hsp⟩:=hst.at_ n _ cm
 have hkey:=kH h3 hk w ρ
 have hval:=kH h4 hv w ρ
 have hfind:=lM (fun y:lF.T=>bQ (az ei.desc) lF y) hT h1 h3 hK a w es.toList l he
 have zn:=jV hT h1 hK false a w
 have hput:=wj a y l 0
 have Mh:(AV.v (.one (.mp n))).ae ρ= .map (some b):=by simp only [AV.ae,A0.ae,Cell.ae,hb]
 have hlt:b<w.heap.size:=(Array.getElem?_eq_some_iff.1 hh).1
 have hown:=hst.own n b (by simp [cm]) hb
 have fin: ∀(es':Array MapEntry) (iy:Nat),es'.toList.map (fun e=>(e.key,e.val))=Se (az ki.desc) (az ei.desc) fu lF (bU l a y)->I1 es' iy->
   (Instr.mapUpdate t ((AV.v (.one (.mp n))).ae ρ) (ix.ae ρ) (v.ae ρ)).run P w= .ok () {w with heap:=w.heap.setIfInBounds b (.map es' iy)} ->
   ∃ρ' w',(Instr.mapUpdate t ((AV.v (.one (.mp n))).ae ρ) (ix.ae ρ) (v.ae ρ)).run P w= .ok () w'/\ (∀m,Kn m->ρ' m=ρ m)/\ aT.ok (iK Kn nm {val:=aT,writes:= [(n,.map (az ki.desc) (az ei.desc) fu lF (bU l a y))],aB:= [n]})/\
    St ax W ρ' (iK Kn nm {val:=aT,writes:= [(n,.map (az ki.desc) (az ei.desc) fu lF (bU l a y))],aB:= [n]}) (cq {val:=aT,writes:= [(n,.map (az ki.desc) (az ei.desc) fu lF (bU l a y))],aB:= [n]} nm Γ) w':=by
  intro es' iy V2 YG hrun
  refine ⟨ρ,_,hrun,fun _ _=>rfl,nQ _,?_⟩
  rw [fe,gp _ _ _ _ _ _ rfl]
  have gw:=MapKept.heap_set (o':=Obj.map es' iy) hh
  refine hst.Aa cm hb trivial (fun _ h=>by cases h) ⟨hst.fr.os,hst.fr.tape,hst.fr.output,by simpa using hst.fr.size,fun k hk hnb=> ?_,hst.fr.Ez⟩ (fun b' hne=>gw.2 b' hne) (by simp) fun _=> ?_
  ·have hne:k≠b:=by
    rintro rfl
    rcases hown with h|h
    ·omega
    ·exact hnb h
   rw [<- hst.fr.block k hk hnb]
   exact gw.2 k hne
  ·exact ⟨h3,h4,b,es',iy,hb,gw.1,V2,YG⟩
 have ac3: ∀(f:Result Unit->Prop),True:=fun _=>trivial
 cases bD:rB a l 0 with
 |none=>
  rw [bD] at hfind hput
  simp only [Option.map_none] at hfind
  simp only at hput
  refine fin (es.push {key:=bQ (az ki.desc) fu a,val:=bQ (az ei.desc) lF y,born:=ck}) (ck+1) ?_ (hsp.push _ _) ?_
  ·rw [hput]
   simp only [Array.toList_push,List.map_append,he,Se,List.map_cons,List.map_nil]
  ·rw [Mh,hkey,hval]
   simp only [Instr.mapUpdate,Sem.run_bind,hT.u ht,hd,Result.andThen_ok,MapKept.run_getObj_map hh,zn,hfind,MapKept.run_setObj_map _ hh]
 |some q=>
  obtain ⟨j,q2⟩:=q
  rw [bD] at hfind hput
  simp only [Option.map_some] at hfind
  simp only [Nat.sub_zero] at hput
  obtain ⟨_,p,hp1,hp2,hp3⟩:=hput
  have Yz:a=p.1:=(dm h3 _ _).1 hp2
  have hj: ∃e,es.toList[j]? =some e/\ e.key=bQ (az ki.desc) fu a:=by
   have:(es.toList.map (fun e=>(e.key,e.val)))[j]? =some (bQ (az ki.desc) fu p.1,bQ (az ei.desc) lF p.2):=by
    rw [he,List.getElem?_map,hp1];rfl
   rw [List.getElem?_map] at this
   obtain ⟨e,BR,vg⟩:=Option.map_eq_some_iff.1 this
   exact ⟨e,BR,by rw [Yz];exact congrArg Prod.fst vg⟩
  obtain ⟨e,BR,vg⟩:=hj
  have N3:es[j]? =some e:=by rw [<- Array.getElem?_toList];exact BR
  have JO:(Instr.keyThatStays (((es[j]?).map (·.key)).getD (bQ (az ki.desc) fu a)) (bQ (az ki.desc) fu a)).run P w= .ok (bQ (az ki.desc) fu a) w:=by
   rw [N3]
   simp only [Option.map_some,Option.getD_some,vg,Instr.keyThatStays]
   rw [if_pos (pA h3 _ _ 9999 (IJ hT h1 hK a w))]
   rfl
  refine fin (es.modify j fun e=> {e with key:=bQ (az ki.desc) fu a,val:=bQ (az ei.desc) lF y}) ck ?_ (hsp.modify _ _ fun _=>rfl) ?_
  ·rw [hp3]
   simp only [Se,List.map_set]
   have e3:(es.modify j fun e=> {e with key:=bQ (az ki.desc) fu a,val:=bQ (az ei.desc) lF y}).toList=es.toList.modify j fun e=> {e with key:=bQ (az ki.desc) fu a,val:=bQ (az ei.desc) lF y} :=by simp
   rw [e3]
   have e4:List.map (fun p=>(bQ (az ki.desc) fu p.1,bQ (az ei.desc) lF p.2)) l=es.toList.map (fun e=>(e.key,e.val)):=he.symm
   rw [e4]
   apply List.ext_getElem?
   intro i
   simp only [List.getElem?_map,List.getElem?_modify,List.getElem?_set]
   by_cases hij:j=i
   ·subst hij
    have Rp:j<es.toList.length:=(List.getElem?_eq_some_iff.1 BR).1
    simp [BR,Rp]
    have:j<es.size:=by simpa using Rp
    simp [this]
   ·simp [hij]
  ·rw [Mh,hkey,hval]
   simp only [Instr.mapUpdate,Sem.run_bind,hT.u ht,hd,Result.andThen_ok,MapKept.run_getObj_map hh,zn,hfind,JO,MapKept.run_setObj_map _ hh]
theorem Co {k:Ty} {β:Type} {x:k.T} : ∀ {l:List (k.T×β)} {i:Nat} {q:Nat×β},rB x l i=some q->i<=q.1/\ ∃p,l[q.1- i]? =some p/\ iQ k x p.1=true
 | [],_,_,h=>by cases h
 |p::r,i,q,h=>by
  unfold rB at h
  cases he:iQ k x p.1 with
  |true=>rw [he] at h;cases h;exact ⟨Nat.le_refl _,p,by simp,he⟩
  |false=>
   rw [he] at h
   obtain ⟨h1,p',h2,h3⟩:=Co h
   have e1:q.1- i=(q.1- (i+1))+1:=by omega
   exact ⟨by omega,p',by rw [e1];simpa using h2,h3⟩
theorem Ja {k:Ty} {β:Type} (hf:k.flat=true) (x:k.T) (y:β): ∀(l:List (k.T×β)) (i:Nat),(rB x (bU l x y) i).map (·.1)=some (match rB x l i with|some q=>q.1|none=>i+l.length)
 | [],i=>by simp [bU,rB,(dm hf x x).2 rfl]
 |p::r,i=>by
  unfold bU
  cases h:iQ k x p.1 with
  |true=>simp [rB,h,(dm hf x x).2 rfl]
  |false=>
   have:=Ja hf x y r (i+1)
   simp only [rB,h,List.length_cons]
   rw [this]
   cases rB x r (i+1) with
   |none=>simp;omega
   |some q=>rfl
theorem Kp {k:Ty} {β:Type} (hf:k.flat=true) (x:k.T) (y z:β): ∀(l:List (k.T×β)),bU (bU l x y) x z=bU l x z
 | []=>by simp [bU,(dm hf x x).2 rfl]
 |p::r=>by
  cases h:iQ k x p.1 with
  |true=>simp [bU,h,(dm hf x x).2 rfl]
  |false=>simp [bU,h,Kp hf x y z r]
theorem F3 {k:Ty} {β:Type} (hf:k.flat=true) (x:k.T) (z:β): ∀(l:List (k.T×β)) (i:Nat) (q:Nat×β),rB x l i=some q->bU l x q.2=l
 | [],_,_,h=>by cases h
 |p::r,i,q,h=>by
  unfold rB at h
  cases he:iQ k x p.1 with
  |true=>
   rw [he] at h;cases h
   have e:=(dm hf _ _).1 he
   show (match iQ k x p.1 with|true=>(x,p.2)::r|false=>p::bU r x p.2)=_
   rw [he,e]
  |false=>
   rw [he] at h
   simp [bU,he,F3 hf x z r _ _ h]
theorem St.more {ax:jh} {W w:World} {ρ:Env} {Kn:Nat->Prop} {Γ:HP} {nm:Nat} {x:Loc} (h:St ax W ρ Kn Γ w) (hn: ¬Kn nm):St ax W (aZ ρ nm x) (rq Kn nm) Γ w:=by
 have hk: ∀m,(Γ m).isSome=true->aZ ρ nm x m=ρ m:=fun m hm=>by
  obtain ⟨o,ho⟩:=Option.isSome_iff_exists.1 hm
  exact bY hn m (h.kn m o ho).1
 have ZB: ∀b,LO (aZ ρ nm x) Γ b->LO ρ Γ b:=by
  rintro b (⟨m,h1,h2⟩|⟨m,S,h1,h2⟩)
  ·rw [hk m h1] at h2;exact .inl ⟨m,h1,h2⟩
  ·exact .inr ⟨m,S,h1,h2⟩
 refine ⟨h.fr,fun m o ho=> ?_,fun m o ho=> ?_,fun m m' b hm hm' hb hb'=> ?_,fun m b hm hb=> ?_,fun b hb=> ?_,fun m o ho=> ?_⟩
 ·have hkm:=h.kn m o ho
  exact cr (Kn:=Kn) (h.at_ m o ho) (bY hn) hkm.1 hkm.2 (fun b hb=>⟨⟨hb.1,fun hl=>hb.2 (ZB b hl)⟩,rfl⟩) (fun _ _ h=>h) fun _ _=>rfl
 ·exact ⟨.inl (h.kn m o ho).1,aQ.bC (fun _ h=> .inl h) o (h.kn m o ho).2⟩
 ·rw [hk m hm] at hb;rw [hk m' hm'] at hb';exact h.eS m m' b hm hm' hb hb'
 ·rw [hk m hm] at hb;exact h.mA m b hm hb
 ·obtain ⟨h1,h2⟩:=h.wZ b hb
  refine ⟨h1,fun ⟨m,h3,h4⟩=>h2 ⟨m,h3,?_⟩⟩
  rw [hk m h3] at h4;exact h4
 ·rw [hk m (by rw [ho];rfl)];exact h.vX m o ho
theorem EI (hT:aX P ctx.tt) {t:TypeId} {i:TI} (ht:aG ctx.tt t=some i) {x ix:AV} (h:FI ctx i x ix hp nm k):
  ∃r,aJ P ctx.X hp nm (fun _=>True) (fun ρ=>Instr.mapEntry t (x.ae ρ) (ix.ae ρ)) (fun ρ=>r.val.ae ρ) r/\ k r:=by
 have h0:=qA h
 clear h
 obtain ⟨kt,et,ki,ei,kT,vT,hd,h1,h2,h3,h4,h5,h⟩:=h0
 split at h<;>try (exact h.elim)
 rename_i n
 split at h<;>try (exact h.elim)
 rename_i ka va fu lF l hn
 split at h<;>try (exact h.elim)
 rename_i l5
 split at h<;>try (exact h.elim)
 rename_i SY
 obtain ⟨rfl,rfl⟩:=SY
 obtain ⟨rfl,rfl⟩:=l5
 split at h<;>try (exact h.elim)
 rename_i a z tc hk hz
 obtain ⟨hK,h⟩:=h
 refine ⟨_,⟨fun p hp=> ?_,?_⟩,h⟩
 ·simp only [List.mem_singleton] at hp;subst hp;rw [hn];intro e;cases e
 intro ax W ρ Kn Γ w _ _ dH hfr hst
 have hnm: ¬Kn nm:=by simpa using hfr 0 (by simp)
 have cm:Γ n=some (.map (az ki.desc) (az ei.desc) fu lF l):=by rw [dH n (by simp),hn]
 have hKn:Kn n:=(hst.kn n _ cm).1
 have hne:n≠nm:=fun e=>hnm (e▸hKn)
 obtain ⟨_,_,b,es,ck,hb,hh,he,hsp⟩:=hst.at_ n _ cm
 have hkey:=kH h3 hk w ρ
 have hfind:=lM (fun y:lF.T=>bQ (az ei.desc) lF y) hT h1 h3 hK a w es.toList l he
 have zn:=jV hT h1 hK false a w
 have hzero:=G0 h4 hz w
 rw [h5] at hzero
 have uq:=Cn a l 0
 have Mh:(AV.v (.one (.mp n))).ae ρ= .map (some b):=by simp only [AV.ae,A0.ae,Cell.ae,hb]
 have hlt:b<w.heap.size:=(Array.getElem?_eq_some_iff.1 hh).1
 have hown:=hst.own n b (by simp [cm]) hb
 have hpos:=Ja h3 a (aU l a z) l 0
 have fin: ∀(es':Array MapEntry) (iy s:Nat) (e:MapEntry) (j:Nat),es'.toList.map (fun e=>(e.key,e.val))=Se (az ki.desc) (az ei.desc) fu lF (bU l a (aU l a z))->I1 es' iy->(rB a (bU l a (aU l a z)) 0).map (·.1)=some j->es'[j]? =some e->e.born=s->
   (Instr.mapEntry t ((AV.v (.one (.mp n))).ae ρ) (ix.ae ρ)).run P w= .ok (.tuple #[bQ (az ei.desc) lF (aU l a z),goInt s]) {w with heap:=w.heap.setIfInBounds b (.map es' iy)} ->
   ∃ρ' w',(Instr.mapEntry t ((AV.v (.one (.mp n))).ae ρ) (ix.ae ρ)).run P w= .ok ((AV.lZ [nR (az ei.desc) lF (aU l a z),.one (.GR nm)]).ae ρ') w'/\ (∀m,Kn m->ρ' m=ρ m)/\ (AV.lZ [nR (az ei.desc) lF (aU l a z),.one (.GR nm)]).ok (iK Kn nm {val:= .lZ [nR (az ei.desc) lF (aU l a z),.one (.GR nm)],fresh:= [.gone],writes:= [(n,.IV (az ki.desc) (az ei.desc) fu lF l (aU l a z) a nm)],aB:= [n]})/\
    St ax W ρ' (iK Kn nm {val:= .lZ [nR (az ei.desc) lF (aU l a z),.one (.GR nm)],fresh:= [.gone],writes:= [(n,.IV (az ki.desc) (az ei.desc) fu lF l (aU l a z) a nm)],aB:= [n]}) (cq {val:= .lZ [nR (az ei.desc) lF (aU l a z),.one (.GR nm)],fresh:= [.gone],writes:= [(n,.IV (az ki.desc) (az ei.desc) fu lF l (aU l a z) a nm)],aB:= [n]} nm Γ) w':=by
  intro es' iy s e j V2 YG hj N3 Ro hrun
  have hkn:iK Kn nm {val:= .lZ [nR (az ei.desc) lF (aU l a z),.one (.GR nm)],fresh:= [.gone],writes:= [(n,.IV (az ki.desc) (az ei.desc) fu lF l (aU l a z) a nm)],aB:= [n]} =rq Kn nm:=by
   funext m;simp only [iK,rq,List.length_singleton];apply propext
   constructor
   ·rintro (h|h)
    ·exact .inl h
    ·exact .inr (by omega)
   ·rintro (h|h)
    ·exact .inl h
    ·exact .inr (by omega)
  have hap:cq {val:= .lZ [nR (az ei.desc) lF (aU l a z),.one (.GR nm)],fresh:= [.gone],writes:= [(n,.IV (az ki.desc) (az ei.desc) fu lF l (aU l a z) a nm)],aB:= [n]} nm Γ=bK Γ n (.IV (az ki.desc) (az ei.desc) fu lF l (aU l a z) a nm):=by
   funext m
   simp only [cq,bK,List.length_singleton,ct]
   by_cases hm:nm<=m/\ m<nm+1
   ·have:m=nm:=by omega
    subst this
    rw [if_pos hm,if_neg (Ne.symm hne)]
    have:Γ m=none:=by
     cases hq:Γ m with
     |none=>rfl
     |some o=>exact absurd (hst.kn m o hq).1 hnm
    rw [this];simp [live]
   ·rw [if_neg hm]
    by_cases hmn:n=m
    ·subst hmn;simp [live]
    ·rw [if_neg hmn,if_neg (Ne.symm hmn)]
  rw [hkn,hap]
  have S2:aZ ρ nm {len:=s} n=ρ n:=bY hnm n hKn
  refine ⟨aZ ρ nm {len:=s},{w with heap:=w.heap.setIfInBounds b (.map es' iy)},?_,bY hnm,?_,?_⟩
  ·rw [hrun]
   have e1:(AV.lZ [nR (az ei.desc) lF (aU l a z),.one (.GR nm)]).ae (aZ ρ nm {len:=s})= .tuple #[bQ (az ei.desc) lF (aU l a z),goInt s]:=by
    have e2:(A0.one (.GR nm)).ae (aZ ρ nm {len:=s})=goInt s:=by simp [A0.ae,Cell.ae,aZ,goInt]
    simp only [AV.ae,List.map_cons,List.map_nil,kV,e2]
   rw [e1]
  ·intro q hq
   simp only [List.mem_cons,List.not_mem_nil,or_false] at hq
   rcases hq with rfl|rfl
   ·exact yN _ _ _ _
   ·exact .inr rfl
  ·have gw:=MapKept.heap_set (o':=Obj.map es' iy) hh
   have sn:=hst.more (x:= {len:=s}) hnm
   refine sn.Aa cm (by rw [S2];exact hb) (.inr rfl) (fun _ h=>by cases h) ⟨hst.fr.os,hst.fr.tape,hst.fr.output,by simpa using hst.fr.size,fun k hk hnb=> ?_,hst.fr.Ez⟩ (fun b' hne=>gw.2 b' hne) (by simp) fun _=> ?_
   ·have hne:k≠b:=by
     rintro rfl
     rcases hown with h|h
     ·omega
     ·exact hnb h
    rw [<- hst.fr.block k hk hnb]
    exact gw.2 k hne
   ·exact ⟨h3,h4,b,es',iy,by rw [S2];exact hb,gw.1,V2,YG,j,e,hj,N3,by rw [Ro];simp [aZ]⟩
 cases bD:rB a l 0 with
 |none=>
  rw [bD] at hfind hpos uq
  simp only [Option.map_none] at hfind
  simp only [Nat.zero_add] at hpos
  have e1:eI l a=none:=uq.symm
  have e2:aU l a z=z:=by simp [aU,e1]
  have hput:=wj a z l 0
  rw [bD] at hput
  simp only at hput
  have hlen:es.size=l.length:=by
   have:=congrArg List.length he
   simpa using this
  refine fin (es.push {key:=bQ (az ki.desc) fu a,val:=bQ (az ei.desc) lF z,born:=ck}) (ck+1) ck {key:=bQ (az ki.desc) fu a,val:=bQ (az ei.desc) lF z,born:=ck} l.length ?_ (hsp.push _ _) hpos (by rw [<- hlen];simp) rfl ?_
  ·rw [e2,hput]
   simp only [Array.toList_push,List.map_append,he,Se,List.map_cons,List.map_nil]
  ·rw [Mh,hkey,e2]
   simp only [Instr.mapEntry,Sem.run_bind,hT.u ht,hd,Result.andThen_ok,MapKept.run_getObj_map hh,zn,hfind,hT.z h2,MapKept.run_setObj_map _ hh,Sem.run_pure,hzero]
 |some q=>
  obtain ⟨j,q2⟩:=q
  rw [bD] at hfind hpos uq
  simp only [Option.map_some] at hfind uq
  have e1:eI l a=some q2:=uq.symm
  have e2:aU l a z=q2:=by simp [aU,e1]
  have e3:bU l a q2=l:=F3 h3 a z l 0 (j,q2) bD
  obtain ⟨_,p,hp1,hp2⟩:=Co bD
  simp only [Nat.sub_zero] at hp1
  have Yz:a=p.1:=(dm h3 _ _).1 hp2
  have hj: ∃e,es.toList[j]? =some e/\ e.key=bQ (az ki.desc) fu a:=by
   have:(es.toList.map (fun e=>(e.key,e.val)))[j]? =some (bQ (az ki.desc) fu p.1,bQ (az ei.desc) lF p.2):=by
    rw [he,List.getElem?_map,hp1];rfl
   rw [List.getElem?_map] at this
   obtain ⟨e,BR,vg⟩:=Option.map_eq_some_iff.1 this
   exact ⟨e,BR,by rw [Yz];exact congrArg Prod.fst vg⟩
  obtain ⟨e,BR,vg⟩:=hj
  have N3:es[j]? =some e:=by rw [<- Array.getElem?_toList];exact BR
  have JO:(Instr.keyThatStays e.key (bQ (az ki.desc) fu a)).run P w= .ok (bQ (az ki.desc) fu a) w:=by
   simp only [vg,Instr.keyThatStays]
   rw [if_pos (pA h3 _ _ 9999 (IJ hT h1 hK a w))]
   rfl
  have adj:(es.modify j fun e=> {e with key:=bQ (az ki.desc) fu a}).toList.map (fun e=>(e.key,e.val))=es.toList.map (fun e=>(e.key,e.val)):=by
   have e4:(es.modify j fun e=> {e with key:=bQ (az ki.desc) fu a}).toList=es.toList.modify j fun e=> {e with key:=bQ (az ki.desc) fu a} :=by simp
   rw [e4]
   apply List.ext_getElem?
   intro i
   simp only [List.getElem?_map,List.getElem?_modify]
   by_cases hij:j=i
   ·subst hij;rw [BR];simp [vg]
   ·simp [hij]
  refine fin (es.modify j fun e=> {e with key:=bQ (az ki.desc) fu a}) ck e.born {e with key:=bQ (az ki.desc) fu a} j ?_ (hsp.modify _ _ fun _=>rfl) hpos ?_ rfl ?_
  ·rw [e2,e3,adj];exact he
  ·rw [Array.getElem?_modify,N3];simp
  ·rw [Mh,hkey,e2]
   simp only [Instr.mapEntry,Sem.run_bind,hT.u ht,hd,Result.andThen_ok,MapKept.run_getObj_map hh,zn,hfind,N3,Option.map_some,Option.getD_some,JO,MapKept.run_setObj_map _ hh,Sem.run_pure]
theorem Be {t:TypeId} {x s v:AV} (h:rV x s v hp k):
  ∃r,aJ P ctx.X hp nm (fun _=>True) (fun ρ=>Instr.entryStore t (x.ae ρ) (s.ae ρ) (v.ae ρ)) (fun _=>()) r/\ k r/\ r.val=aT:=by
 unfold rV at h
 split at h<;>try (exact h.elim)
 rename_i n m
 split at h<;>try (exact h.elim)
 rename_i ka va kT vT l y a m' hn
 split at h<;>try (exact h.elim)
 rename_i hm
 subst hm
 split at h<;>try (exact h.elim)
 rename_i b0 hv
 obtain ⟨_,h⟩:=h
 refine ⟨_,⟨fun p hp=> ?_,?_⟩,h _ rfl,rfl⟩
 ·simp only [List.mem_singleton] at hp;subst hp;rw [hn];intro e;cases e
 intro ax W ρ Kn Γ w _ _ dH _ hst
 have cm:Γ n=some (.IV ka va kT vT l y a m'):=by rw [dH n (by simp),hn]
 obtain ⟨h3,h4,b,es,ck,hb,hh,he,hsp,j,e,hj,N3,Ro⟩:=hst.at_ n _ cm
 have hval:=kH h4 hv w ρ
 have Mh:(AV.v (.one (.mp n))).ae ρ= .map (some b):=by simp only [AV.ae,A0.ae,Cell.ae,hb]
 have hsc:(AV.v (.one (.GR m'))).ae ρ= .int .i64 ((ρ m').len:Int):=rfl
 have hown:=hst.own n b (by simp [cm]) hb
 have Rp:j<es.size:=(Array.getElem?_eq_some_iff.1 N3).1
 have hidx:es.findIdx? (fun x=>(x.born:Int)==((ρ m').len:Int))=some j:=by
  rw [Array.findIdx?_eq_some_iff_getElem]
  refine ⟨Rp,?_,fun i hi=> ?_⟩
  ·rw [(Array.getElem?_eq_some_iff.1 N3).2,Ro];simp
  ·have Ys:i<es.size:=by omega
   have ur:=List.pairwise_iff_getElem.1 hsp.2
   have:=ur i j (by simpa using Ys) (by simpa using Rp) hi
   simp only [List.getElem_map,Array.getElem_toList] at this
   rw [(Array.getElem?_eq_some_iff.1 N3).2,Ro] at this
   refine fun hbe=>this ?_
   have:=eq_of_beq hbe
   omega
 obtain ⟨q,hq1,Rr⟩:=Option.map_eq_some_iff.1 hj
 obtain ⟨_,p,hp1,hp2⟩:=Co hq1
 have hput:=wj a b0 (bU l a y) 0
 rw [hq1] at hput
 simp only [Nat.sub_zero] at hput hp1
 obtain ⟨_,_,_,_,hput⟩:=hput
 rw [Kp h3] at hput
 rw [Rr] at hput hp1
 have Yz:a=p.1:=(dm h3 _ _).1 hp2
 have hek:e.key=bQ ka kT a:=by
  have:(es.toList.map (fun e=>(e.key,e.val)))[j]? =some (bQ ka kT p.1,bQ va vT p.2):=by
   rw [he,List.getElem?_map,hp1];rfl
  rw [List.getElem?_map,Array.getElem?_toList,N3] at this
  rw [Yz]
  exact congrArg Prod.fst (Option.some.inj this)
 refine ⟨ρ,{w with heap:=w.heap.setIfInBounds b (.map (es.modify j fun e=> {e with val:=bQ va vT b0}) ck)},?_,fun _ _=>rfl,nQ _,?_⟩
 ·show (Instr.entryStore t ((AV.v (.one (.mp n))).ae ρ) ((AV.v (.one (.GR m'))).ae ρ) (v.ae ρ)).run P w=_
  rw [Mh,hsc,hval]
  simp only [Instr.entryStore,Sem.run_bind,Result.andThen_ok,MapKept.run_getObj_map hh,asInt,asIntOf,Sem.run_pure,Sem.run_map,hidx,MapKept.run_setObj_map _ hh]
 ·rw [fe,gp _ _ _ _ _ _ rfl]
  have gw:=MapKept.heap_set (o':=Obj.map (es.modify j fun e=> {e with val:=bQ va vT b0}) ck) hh
  refine hst.Aa cm hb trivial (fun _ h=>by cases h) ⟨hst.fr.os,hst.fr.tape,hst.fr.output,by simpa using hst.fr.size,fun k hk hnb=> ?_,hst.fr.Ez⟩ (fun b' hne=>gw.2 b' hne) (by simp) fun _=> ?_
  ·have hne:k≠b:=by
    rintro rfl
    rcases hown with h|h
    ·omega
    ·exact hnb h
   rw [<- hst.fr.block k hk hnb]
   exact gw.2 k hne
  ·refine ⟨h3,h4,b,_,ck,hb,gw.1,?_,hsp.modify _ _ fun _=>rfl⟩
   rw [hput]
   have e4:(es.modify j fun e=> {e with val:=bQ va vT b0}).toList=es.toList.modify j fun e=> {e with val:=bQ va vT b0} :=by simp
   rw [e4,List.map_set,<- he]
   apply List.ext_getElem?
   intro i
   simp only [List.getElem?_map,List.getElem?_modify,List.getElem?_set]
   by_cases hij:j=i
   ·subst hij
    rw [Array.getElem?_toList,N3]
    simp [hek,Rp]
   ·simp [hij]
end
end Go.Ev
