/- Maps of flat keys and values. -/
import Derived.Test.YtfgdjlhilladhaaGreatEvD3
import Derived.MapKept
noncomputable section
set_option linter.unusedSectionVars false
set_option linter.unusedVariables false
set_option linter.unusedSimpArgs false
namespace Go.Ev
open Go.RowKit
theorem An (t:Ty) (x:t.T) (ρ:Env):(vP t x).map (Cell.af ρ)=(t.aM x).map aT:=by
 simp [vP,List.map_map,Cell.af,Function.comp_def]
theorem Ax (a:Bool) (t:Ty) (x:t.T) (ρ:Env):(acD a t x).af ρ=dN a t x:=by
 unfold acD dN
 cases a with
 |true=>simp only [A0.af,An]
 |false=>
  have h:=An t x ρ
  dsimp only
  rw [<- h]
  match vP t x with
  | []=>rfl
  | [c]=>rfl
  |_::_::_=>rfl
theorem Z3 (a:Bool) (t:Ty) (x:t.T) (Kn:Nat->Prop):(acD a t x).ok Kn:=by
 have h: ∀c∈vP t x,c.ok Kn:=fun c hc=>by
  obtain ⟨_,_,rfl⟩:=List.mem_map.1 hc;trivial
 unfold acD
 cases a with
 |true=>exact h
 |false=>
  dsimp only
  split
  ·rename_i c hm
   exact h c (by rw [hm];simp)
  ·trivial
theorem Tb {t:Ty} {x:t.T} {cs:List Cell} {tc:List Nat} (hf:t.flat=true) (h:cN (fun _=>none) t cs=some (x,[],tc)) (w:World) (ρ:Env):cs.map (Cell.af ρ)=(t.aM x).map aT:=by
 obtain ⟨ys,e,_,ha⟩:=lq _ t _ _ _ _ h
 have:=ha W3 w ρ (fun _=>False) (fun _=>none) w (fun _ _=>rfl) (St.none w _)
 rw [List.append_nil] at e
 subst e
 have key: ∀(cs:List cD) (vs:List Value),(∀c∈cs,∃v,c= .flat v)->bN (IK w (VQ w)) cs vs->vs=cs.map aT:=by
  intro cs
  induction cs with
  |nil=>intro vs _ h;cases vs<;>first|rfl|exact h.elim
  |cons c r ih=>
   intro vs hc h
   cases vs with
   |nil=>exact h.elim
   |cons v s=>
    obtain ⟨u,rfl⟩:=hc c (by simp)
    have h1:v=u:=h.1
    rw [h1,ih s (fun c hm=>hc c (by simp [hm])) h.2];rfl
 exact key _ _ (fun c hc=>fW hf hc) this
theorem F7 {a:Bool} {t:Ty} {v:AV} {x:t.T} (hf:t.flat=true) (h:aef a t v=some x) (w:World) (ρ:Env):v.af ρ=dN a t x:=by
 unfold aef at h
 split at h
 ·split at h<;>try (cases h;done)
  rename_i cs ha
  split at h<;>try (cases h;done)
  rename_i hd
  cases h
  have:=Tb hf hd w ρ
  rw [ha]
  simp only [AV.af,A0.af,this,dN]
 ·split at h<;>try (cases h;done)
  rename_i c ha
  split at h<;>try (cases h;done)
  rename_i hd
  cases h
  have:=Tb hf hd w ρ
  have ha:a=false:=by simpa using ha
  rw [ha]
  unfold dN
  dsimp only
  rw [<- this]
  rfl
 ·cases h
theorem Q6: ∀ {t:Ty},t.flat=true-> ∀(x y:t.T),BS t x y=true↔x=y
 | .int _,_,x,y=>by simp [BS]
 | .bool,_,x,y=>by simp [BS]
 | .str,_,x,y=>MapKept.bytes_beq x y
 | .prod a b,h,x,y=>by
  simp only [Ty.flat,Bool.and_eq_true] at h
  simp only [BS,Bool.and_eq_true,Q6 h.1,Q6 h.2]
  exact ⟨fun ⟨h1,h2⟩=>Prod.ext h1 h2,fun h=>by subst h;exact ⟨rfl,rfl⟩⟩
 | .sl _,h,_,_=>by simp [Ty.flat] at h
def atM {k:Ty} {β:Type} (x:k.T):List (k.T×β)->Nat->Option (Nat×β)
 | [],_=>none
 |p::r,i=>match BS k x p.1 with
  |true=>some (i,p.2)
  |false=>atM x r (i+1)
theorem S2 {k:Ty} {β:Type} (x:k.T): ∀(l:List (k.T×β)) (i:Nat),(atM x l i).map (·.2)=rT l x
 | [],_=>rfl
 |p::r,i=>by
  unfold atM rT
  cases BS k x p.1 with
  |true=>rfl
  |false=>exact S2 x r (i+1)
theorem YI {k:Ty} {β:Type} (x:k.T) (y:β): ∀(l:List (k.T×β)) (i:Nat),match atM x l i with
  |none=>AF l x y=l++ [(x,y)]
  |some (j,_)=>i<=j/\ ∃p,l[j- i]? =some p/\ BS k x p.1=true/\ AF l x y=l.set (j- i) (x,y)
 | [],_=>rfl
 |p::r,i=>by
  unfold atM AF
  cases h:BS k x p.1 with
  |true=>exact ⟨Nat.le_refl _,p,by simp,h,by simp⟩
  |false=>
   have:=YI x y r (i+1)
   dsimp only
   split
   ·rename_i e
    rw [e] at this
    simp only at this
    rw [this];rfl
   ·rename_i j q e
    rw [e] at this
    obtain ⟨h1,p',h2,h3,h4⟩:=this
    have e1:j- i=(j- (i+1))+1:=by omega
    exact ⟨by omega,p',by rw [e1];simpa using h2,h3,by rw [e1,h4];simp⟩
end Go.Ev
namespace Go.Ev
open Go.RowKit
section
variable {P:Program} {ctx:Ctx} {hp:HP} {nm:Nat} {k:Rec->Prop}
theorem nF (hT:aW P ctx.tt) (em:Bool): ∀(d:Nat) (t:TypeId) (xs:List Cell) (b:Bool),eqE ctx.tt d t xs xs=some b-> ∀(D:Nat),d<=D-> ∀(ρ:Env) (w:World),
  ∃i,aJ ctx.tt t=some i/\ ∃u,valOf i.desc (xs.map (Cell.af ρ))=some u/\ (Instr.checkKey em D t u).run P w= .ok () w
 |0,_,_,_,h,_,_,_,_=>by simp [eqE] at h
 |d+1,t,xs,b,h,D,hD,ρ,w=>by
  obtain ⟨D,rfl⟩: ∃D',D=D'+1:=⟨D- 1,by omega⟩
  simp only [eqE] at h
  split at h
  ·cases h
  ·rename_i i hi
   refine ⟨i,hi,?_⟩
   have hu:=(hT t i hi).1
   split at h
   ·rename_i k0 hd
    split at h
    ·refine ⟨_,(by simp only [valOf,hd,aR,Bool.false_eq_true,if_false,List.map_cons,List.map_nil];rfl),?_⟩
     have e0:P.underlying t=some (.int k0):=by rw [hu,hd]
     simp [Instr.checkKey,run_underlying e0]
    ·cases h
   ·rename_i hd
    split at h
    ·refine ⟨_,(by simp only [valOf,hd,aR,Bool.false_eq_true,if_false,List.map_cons,List.map_nil];rfl),?_⟩
     have e0:P.underlying t=some .bool:=by rw [hu,hd]
     simp [Instr.checkKey,run_underlying e0]
    ·cases h
   ·rename_i hd
    split at h
    ·refine ⟨_,(by simp only [valOf,hd,aR,Bool.false_eq_true,if_false,List.map_cons,List.map_nil];rfl),?_⟩
     have e0:P.underlying t=some .string:=by rw [hu,hd]
     simp [Instr.checkKey,run_underlying e0]
    ·cases h
   ·rename_i fs hd
    refine ⟨.agg (xs.map (Cell.af ρ)).toArray,by simp [valOf,hd,aR],?_⟩
    have e0:P.underlying t=some (.struct fs):=by rw [hu,hd]
    simp only [Instr.checkKey,Sem.run_bind,run_underlying e0,Result.andThen_ok]
    rw [<- Array.forIn_toList]
    clear hd e0 hu
    generalize fs.toList=l at h ⊢
    induction l generalizing b with
    |nil=>simp
    |cons f r ih=>
     simp only [eqFields] at h
     split at h
     ·cases h
     ·rename_i fi Ri
      split at h
      ·cases h
      ·rename_i hnm
       split at h
       ·rename_i b1 b2 h1 h2
        obtain ⟨fi',adO,u,hu1,hr⟩:=nF hT em d f.type _ b1 h1 D (by omega) ρ w
        rw [Ri] at adO;cases adO
        rw [eG] at hu1
        simp only [List.forIn_cons,ne_eq,hnm,not_false_eq_true,if_true,Sem.run_bind,qW hT Ri _ _ hu1,Result.andThen_ok,hr,Sem.run_pure]
        exact ih b2 h2
       ·cases h
   ·rename_i n e hd
    split at h
    ·rename_i ei mW
     refine ⟨.agg (xs.map (Cell.af ρ)).toArray,by simp [valOf,hd,aR],?_⟩
     have e0:P.underlying t=some (.array n e):=by rw [hu,hd]
     simp only [Instr.checkKey,Sem.run_bind,run_underlying e0,Result.andThen_ok]
     rw [Std.Legacy.Range.forIn_eq_forIn_range']
     simp only [Std.Legacy.Range.size,Nat.sub_zero,Nat.add_sub_cancel,Nat.div_one]
     clear hd e0 hu
     generalize 0=s at h ⊢
     induction n generalizing s b with
     |zero=>simp
     |succ n ih=>
      simp only [CQ] at h
      split at h
      ·rename_i b1 b2 h1 h2
       obtain ⟨ei',adN,u,hu1,hr⟩:=nF hT em d e _ b1 h1 D (by omega) ρ w
       rw [mW] at adN;cases adN
       rw [eG] at hu1
       simp only [List.range'_succ,List.forIn_cons,Sem.run_bind,hT.sz mW,qW hT mW _ _ hu1,Result.andThen_ok,hr,Sem.run_pure]
       exact ih b2 (s+1) h2
      ·cases h
    ·cases h
   ·cases h
theorem wE {t:Ty} {d:TypeDesc} {x:t.T} {u:Value} {ρ:Env} (h:valOf d ((vP t x).map (Cell.af ρ))=some u):u=dN (aR d) t x:=by
 rw [An] at h
 unfold valOf at h
 unfold dN
 split at h
 ·rename_i ha
  cases h;rw [ha]
 ·rename_i ha
  have:aR d=false:=by simpa using ha
  rw [this]
  dsimp only
  split at h
  ·rename_i v hv
   cases h;rw [hv]
  ·cases h
theorem CJ (hT:aW P ctx.tt) {kt:TypeId} {ki:TI} (Ts:aJ ctx.tt kt=some ki) {kT:Ty} (hK:IJ ctx.tt kt kT) (em:Bool) (x:kT.T) (w:World):
  (Instr.checkKey em 10000 kt (dN (aR ki.desc) kT x)).run P w= .ok () w:=by
 obtain ⟨i,hi,u,hu,hr⟩:=nF hT em 20 kt _ _ (hK x x) 10000 (by omega) (fun _=> {}) w
 rw [Ts] at hi;cases hi
 rw [<- wE hu];exact hr
theorem aat (hT:aW P ctx.tt) {kt:TypeId} {ki:TI} (Ts:aJ ctx.tt kt=some ki) {kT:Ty} (hK:IJ ctx.tt kt kT) (x y:kT.T) (w:World):
  (Op.equal kt (dN (aR ki.desc) kT x) (dN (aR ki.desc) kT y)).run P w= .ok (BS kT x y) w:=by
 obtain ⟨i,hi,u,v,hu,hv,hr⟩:=CP hT 20 kt _ _ _ (hK x y) 10000 (by omega) (fun _=> {}) w
 rw [Ts] at hi;cases hi
 rw [<- wE hu,<- wE hv];exact hr
def ajb (ka va:Bool) (kT vT:Ty) (l:List (kT.T×vT.T)):List (Value×Value):=l.map fun p=>(dN ka kT p.1,dN va vT p.2)
def M9 {β:Type} (ka:Bool) (kT:Ty) (f:β->Value) (l:List (kT.T×β)):List (Value×Value):=l.map fun p=>(dN ka kT p.1,f p.2)
theorem xC {β:Type} (f:β->Value) (hT:aW P ctx.tt) {kt:TypeId} {ki:TI} (Ts:aJ ctx.tt kt=some ki) {kT:Ty} (hK:IJ ctx.tt kt kT) (x:kT.T) (w:World):
  ∀(es:List MapEntry) (l:List (kT.T×β)) (i:Nat),es.map (fun e=>(e.key,e.val))=M9 (aR ki.desc) kT f l->
   (Instr.findAsking kt (dN (aR ki.desc) kT x) es i).run P w= .ok ((atM x l i).map fun q=>(q.1,f q.2)) w
 | [],l,i,h=>by
  cases l with
  |nil=>rfl
  |cons p r=>simp [M9] at h
 |e::es,l,i,h=>by
  cases l with
  |nil=>simp [M9] at h
  |cons p r=>
   simp only [M9,List.map_cons,List.cons.injEq,Prod.mk.injEq] at h
   obtain ⟨⟨h1,h2⟩,h3⟩:=h
   simp only [Instr.findAsking,Sem.run_bind,h1,aat hT Ts hK,Result.andThen_ok,atM]
   cases BS kT x p.1 with
   |true=>simp [h2]
   |false=>exact xC f hT Ts hK x w es r (i+1) h3
theorem Yb (hT:aW P ctx.tt) {kt:TypeId} {ki:TI} (Ts:aJ ctx.tt kt=some ki) {kT:Ty} (hf:kT.flat=true) (hK:IJ ctx.tt kt kT) (ha:aR ki.desc=false) (x y:kT.T):
  Instr.sameNow ki.desc (dN false kT x) (dN false kT y)=some (BS kT x y):=by
 have h:=hK x y
 simp only [eqE,Ts] at h
 split at h
 ·rename_i k0 hd
  cases kT with
  |int k1=>
   simp only [vP,Ty.aM,List.map_cons,List.map_nil,aT,if_true] at h
   simp only [hd,dN,Ty.aM,List.map_cons,List.map_nil,aT,Instr.sameNow,if_true,BS]
  |bool=>simp [vP,Ty.aM,aT] at h
  |str=>simp [vP,Ty.aM,aT] at h
  |prod a b=>
   split at h
   ·rename_i hx hy
    have h1:=congrArg List.length hx
    have h2:=Ty.size_pos a
    have h3:=Ty.size_pos b
    simp [vP,aV,Ty.size] at h1;omega
   ·cases h
  |sl u=>simp [Ty.flat] at hf
 ·rename_i hd
  cases kT with
  |bool=>simp only [hd,dN,Ty.aM,List.map_cons,List.map_nil,aT,Instr.sameNow,BS]
  |int k1=>simp [vP,Ty.aM,aT] at h
  |str=>simp [vP,Ty.aM,aT] at h
  |prod a b=>
   split at h
   ·rename_i hx hy
    have h1:=congrArg List.length hx
    have h2:=Ty.size_pos a
    have h3:=Ty.size_pos b
    simp [vP,aV,Ty.size] at h1;omega
   ·cases h
  |sl u=>simp [Ty.flat] at hf
 ·rename_i hd
  cases kT with
  |str=>simp only [hd,dN,Ty.aM,List.map_cons,List.map_nil,aT,Instr.sameNow,BS]
  |int k1=>simp [vP,Ty.aM,aT] at h
  |bool=>simp [vP,Ty.aM,aT] at h
  |prod a b=>
   split at h
   ·rename_i hx hy
    have h1:=congrArg List.length hx
    have h2:=Ty.size_pos a
    have h3:=Ty.size_pos b
    simp [vP,aV,Ty.size] at h1;omega
   ·cases h
  |sl u=>simp [Ty.flat] at hf
 ·rename_i fs hd;rw [hd] at ha;cases ha
 ·rename_i n e hd;rw [hd] at ha;cases ha
 ·cases h
theorem G3 {β:Type} (f:β->Value) (hT:aW P ctx.tt) {kt:TypeId} {ki:TI} (Ts:aJ ctx.tt kt=some ki) {kT:Ty} (hf:kT.flat=true) (hK:IJ ctx.tt kt kT) (ha:aR ki.desc=false) (x:kT.T):
  ∀(es:List MapEntry) (l:List (kT.T×β)) (i:Nat),es.map (fun e=>(e.key,e.val))=M9 false kT f l->
   Instr.findNow ki.desc (dN false kT x) es i=some ((atM x l i).map fun q=>(q.1,f q.2))
 | [],l,i,h=>by
  cases l with
  |nil=>rfl
  |cons p r=>simp [M9] at h
 |e::es,l,i,h=>by
  cases l with
  |nil=>simp [M9] at h
  |cons p r=>
   simp only [M9,List.map_cons,List.cons.injEq,Prod.mk.injEq] at h
   obtain ⟨⟨h1,h2⟩,h3⟩:=h
   simp only [Instr.findNow,h1,Yb hT Ts hf hK ha,atM]
   cases BS kT x p.1 with
   |true=>simp [h2]
   |false=>exact G3 f hT Ts hf hK ha x es r (i+1) h3
theorem G2 {β:Type} (f:β->Value) (hT:aW P ctx.tt) {kt:TypeId} {ki:TI} (Ts:aJ ctx.tt kt=some ki) {kT:Ty} (hf:kT.flat=true) (hK:IJ ctx.tt kt kT) (x:kT.T) (w:World)
  (es:List MapEntry) (l:List (kT.T×β)) (h:es.map (fun e=>(e.key,e.val))=M9 (aR ki.desc) kT f l):
  (Instr.findKey kt (dN (aR ki.desc) kT x) es).run P w= .ok ((atM x l 0).map fun q=>(q.1,f q.2)) w:=by
 have hu:=hT.u Ts w
 unfold Instr.findKey
 simp only [Sem.run_bind,hu,Result.andThen_ok]
 cases ha:aR ki.desc with
 |false=>
  rw [ha] at h
  rw [G3 f hT Ts hf hK ha x es l 0 h]
  rfl
 |true=>
  cases es with
  |nil=>
   cases l with
   |nil=>rfl
   |cons p r=>simp [M9] at h
  |cons e es=>
   have:Instr.findNow ki.desc (dN true kT x) (e::es) 0=none:=by
    have:Instr.sameNow ki.desc (dN true kT x) e.key=none:=by
     unfold Instr.sameNow dN
     cases ki.desc<;>simp_all [aR]
    simp only [Instr.findNow,this]
   rw [this]
   rw [<- ha]
   exact xC f hT Ts hK x w (e::es) l 0 h
theorem St.akm {aC:mY} {W w w1:World} {ρ:Env} {Kn:Nat->Prop} {Γ:HP} {n b:Nat} {o o':aX} (h:St aC W ρ Kn Γ w) (hn:Γ n=some o) (hb:(ρ n).bR=some b) (Cx:o'.ok Kn) (hno: ∀S,o'≠ .bX S)
  (hf:Fr aC W w1) (hw: ∀b',b'≠b->w1.heap[b']? =w.heap[b']?) (hsz:w.heap.size<=w1.heap.size)
  (bE:(∀b',lV ρ Γ w b'->lV ρ (eX Γ n o') w1 b'/\ w1.heap[b']? =w.heap[b']?)->dF (lV ρ (eX Γ n o') w1) (VR aC W) ρ n o' w1):St aC W ρ Kn (eX Γ n o') w1:=by
 have hs: ∀m,(eX Γ n o' m).isSome=true->(Γ m).isSome=true:=fun m hm=>by
  unfold eX at hm;split at hm
  ·rename_i e;subst e;simp [hn]
  ·exact hm
 have Kj: ∀b,HI (eX Γ n o') b->HI Γ b:=fun b ⟨m,S,h1,h2⟩=>by
  unfold eX at h1
  split at h1
  ·cases h1;exact absurd rfl (hno S)
  ·exact ⟨m,S,h1,h2⟩
 have hfz: ∀b',lV ρ Γ w b'->lV ρ (eX Γ n o') w1 b'/\ w1.heap[b']? =w.heap[b']? :=fun b' hf=>by
  have hne:b'≠b:=by rintro rfl;exact hf.2 (.inl ⟨n,by simp [hn],.inl hb⟩)
  refine ⟨⟨hf.1.same (hw _ hne),?_⟩,hw _ hne⟩
  rintro (⟨m,h1,h2⟩|⟨m,S,h1,h2⟩)
  ·exact hf.2 (.inl ⟨m,hs m h1,h2⟩)
  ·exact hf.2 (.inr (Kj b' ⟨m,S,h1,h2⟩))
 refine ⟨hf,fun m p hp=> ?_,fun m p hp=> ?_,fun m m' c hm hm' lX kH=>h.qC m m' c (hs m hm) (hs m' hm') lX kH,fun m c hm hc=>h.yb m c (hs m hm) hc,fun c hc=> ?_,fun m p hp=> ?_⟩
 rotate_right
 ·unfold eX at hp
  split at hp
  ·rename_i e;subst e
   rcases h.Nl m o hn with ⟨g,rfl⟩|he
   ·have:=(h.at_ m _ hn).1
    rw [hb] at this;cases this
   ·exact .inr he
  ·exact h.Nl m p hp
 rotate_right
 ·obtain ⟨h1,h2⟩:=h.F5 c (Kj c hc)
  exact ⟨by omega,fun ⟨m,h3,h4⟩=>h2 ⟨m,hs m h3,h4⟩⟩
 ·unfold eX at hp;split at hp
  ·rename_i e;subst e;cases hp;exact bE hfz
  ·rename_i e
   refine dj (Kn:=Kn) (h.at_ m p hp) (fun _ _=>rfl) (h.kn m p hp).1 (h.kn m p hp).2 hfz (fun _ _ h=>h) fun c hc=>hw _ ?_
   rintro rfl
   exact e (h.qC m n _ (by simp [hp]) (by simp [hn]) hc (.inl hb))
 ·unfold eX at hp;split at hp
  ·rename_i e;subst e;cases hp;exact ⟨(h.kn m o hn).1,Cx⟩
  ·exact h.kn m p hp
theorem B1 {i:TI} {kk:TypeId->TI->TI->Ty->Ty->Prop} (h:TU ctx i kk): ∃kt et ki ei kT vT,i.desc= .map kt et/\ aJ ctx.tt kt=some ki/\ aJ ctx.tt et=some ei/\ kT.flat=true/\ vT.flat=true/\ KA ei.zero=aR ei.desc/\ kk kt ki ei kT vT:=by
 unfold TU at h
 split at h
 ·rename_i kt et hd
  split at h
  ·rename_i ki ei h1 h2
   split at h
   ·rename_i kT vT h3 h4
    split at h
    ·rename_i h5
     simp only [Bool.and_eq_true,beq_iff_eq] at h5
     exact ⟨kt,et,ki,ei,kT,vT,hd,h1,h2,h5.1.1,h5.1.2,h5.2,h⟩
    ·exact h.elim
   ·exact h.elim
  ·exact h.elim
 ·exact h.elim
theorem acK {t:Ty} {z:t.T} {v:Value} {tc:List Nat} (hf:t.flat=true) (h:cN (fun _=>none) t (kj v)=some (z,[],tc)) (w:World):v=dN (KA v) t z:=by
 have:=QF hf h w
 cases v with
 |agg cs=>
  simp only [KA,dN]
  rw [<- this]
  rfl
 |_=>
  simp only [KA,dN]
  rw [<- this]
  rfl
theorem Rw {i:TI} {t:TypeId} (h:TS ctx i nm k): ∃r,aS P ctx.X hp nm (fun _=>True) (fun _=>Instr.makeMap t none) (fun ρ=>r.val.af ρ) r/\ k r:=by
 have h0:=B1 h
 clear h
 obtain ⟨kt,et,ki,ei,kT,vT,hd,h1,h2,h3,h4,h5,h⟩:=h0
 refine ⟨_,⟨fun p hp=>absurd hp (by simp),?_⟩,h⟩
 intro aC W ρ Kn Γ w _ _ _ hfr hst
 have hn: ¬Kn nm:=by simpa using hfr 0 (by simp)
 refine ⟨b9 ρ nm {bR:=some w.heap.size},w.alloc (.map #[] 0),?_,pc hn,?_,?_⟩
 ·simp only [AV.af,A0.af,Cell.af,b9,if_true];rfl
 ·exact .inr ⟨Nat.le_refl _,by simp⟩
 ·rw [Df]
  have e: ∀(v:AV) (o:aX) (tc:List Nat),live (some o)=some o->dO {val:=v,fresh:= [o],aO:=tc} nm Γ=eX Γ nm o:=fun v o tc ho=>by
   funext m;simp only [dO,eX,List.length_singleton,dP]
   by_cases h:m=nm
   ·subst h;simpa using ho
   ·have: ¬(nm≤m∧m<nm+1):=by omega
    simp [h,this]
  rw [e _ _ _ rfl]
  have hsz:=hst.fr.size
  refine hst.swap (G:= []) (o:= .map (aR ki.desc) (aR ei.desc) kT vT []) hn (hst.fr.alloc _) (fun b hb _=>Below.heap_alloc _ _ _ hb) (fun b hb=> ?_) (fun m p hp=> ?_) trivial (fun _ h=>by cases h) fun _ _=> ?_
  ·cases hb;exact ⟨.inl (Nat.le_refl _),.inl hsz⟩
  ·unfold eX at hp
   split at hp
   ·rename_i e1;cases hp;exact .inl ⟨e1,rfl⟩
   ·rename_i e1;exact .inr ⟨e1,by simp,hp⟩
  ·exact ⟨h3,h4,w.heap.size,#[],0,by simp [b9],by show (w.heap.push _)[w.heap.size]? =_;simp,rfl⟩
theorem TN (hT:aW P ctx.tt) {t:TypeId} {i:TI} (ht:aJ ctx.tt t=some i) {x ix:AV} {ok:Bool} (h:Y2 ctx i x ix ok hp k):
  ∃r,aS P ctx.X hp nm (fun _=>True) (fun ρ=>Instr.lookup t (x.af ρ) (ix.af ρ) ok) (fun ρ=>r.val.af ρ) r/\ k r:=by
 have h0:=B1 h
 clear h
 obtain ⟨kt,et,ki,ei,kT,vT,hd,h1,h2,h3,h4,h5,h⟩:=h0
 split at h<;>try (exact h.elim)
 rename_i n
 split at h<;>try (exact h.elim)
 rename_i ka va IV I0 l hn
 split at h<;>try (exact h.elim)
 rename_i uI
 split at h<;>try (exact h.elim)
 rename_i hty
 obtain ⟨rfl,rfl⟩:=hty
 obtain ⟨rfl,rfl⟩:=uI
 split at h<;>try (exact h.elim)
 rename_i a z tc hk hz
 obtain ⟨hK,_,h⟩:=h
 refine ⟨_,aS.pure ?_,h _ rfl⟩
 intro aC W ρ Kn Γ w _ _ kI hst
 obtain ⟨_,_,b,es,QS,hb,hh,he⟩:=hst.at_ n _ (by rw [kI n (by simp),hn])
 have hkey:=F7 h3 hk w ρ
 have hfind:=G2 (fun y:I0.T=>dN (aR ei.desc) I0 y) hT h1 h3 hK a w es.toList l he
 have ag8:=CJ hT h1 hK es.isEmpty a w
 have hzero:=acK h4 hz w
 rw [h5] at hzero
 have YS:=S2 a l 0
 have eb: ∀v:Value,(A0.one (.raw v)).af ρ=v:=fun _=>rfl
 refine ⟨?_,?_⟩
 ·rw [hkey]
  have hxc:(AV.v (.one (.mp n))).af ρ= .map (some b):=by simp only [AV.af,A0.af,Cell.af,hb]
  rw [hxc]
  simp only [Instr.lookup,Sem.run_bind,hT.u ht,hd,Result.andThen_ok,MapKept.run_getObj_map hh,Sem.run_pure,ag8,hfind]
  cases bE:atM a l 0 with
  |none=>
   rw [bE] at YS
   have e1:rT l a=none:=YS.symm
   simp only [Option.map_none,Sem.run_bind,hT.z h2,Result.andThen_ok,Sem.run_pure]
   have e2:mX l a z=z:=by simp [mX,e1]
   have e3:adJ l a=false:=by simp [adJ,e1]
   cases ok with
   |true=>
    simp only [if_true,Sem.run_pure,AV.af,List.map_cons,List.map_nil,Ax,eb,e2,e3,hzero]
   |false=>
    simp only [Bool.false_eq_true,if_false,Sem.run_pure,AV.af,Ax,e2,hzero]
  |some q=>
   rw [bE] at YS
   have e1:rT l a=some q.2:=YS.symm
   simp only [Option.map_some,Sem.run_bind,Result.andThen_ok,Sem.run_pure]
   have e2:mX l a z=q.2:=by simp [mX,e1]
   have e3:adJ l a=true:=by simp [adJ,e1]
   cases ok with
   |true=>
    simp only [if_true,Sem.run_pure,AV.af,List.map_cons,List.map_nil,Ax,eb,e2,e3]
   |false=>
    simp only [Bool.false_eq_true,if_false,Sem.run_pure,AV.af,Ax,e2]
 ·cases ok with
  |true=>
   intro x hx
   simp only [if_true,List.mem_cons,List.not_mem_nil,or_false] at hx
   rcases hx with rfl|rfl
   ·exact Z3 _ _ _ _
   ·trivial
  |false=>exact Z3 _ _ _ _
theorem NR {t:Ty} (hf:t.flat=true) (a:Bool) (x:t.T) (n:Nat) (hv:dN a t x≠ .tuple #[]):Instr.sameBits (n+1) (dN a t x) (dN a t x)=true:=by
 have h1: ∀m v,v∈(t.aM x).map aT->Instr.sameBits m v v=true:=fun m v hv=>by
  obtain ⟨c,hc,rfl⟩:=List.mem_map.1 hv
  have key: ∀(t:Ty) (x:t.T) (c:cD),t.flat=true->c∈t.aM x->Instr.sameBits m (aT c) (aT c)=true:=by
   intro t
   induction t with
   |int k=>intro x c _ hc;simp only [Ty.aM,List.mem_singleton] at hc;subst hc;cases m<;>simp [aT,Instr.sameBits]
   |bool=>intro x c _ hc;simp only [Ty.aM,List.mem_singleton] at hc;subst hc;cases m<;>simp [aT,Instr.sameBits]
   |str=>
    intro x c _ hc
    simp only [Ty.aM,List.mem_singleton] at hc
    subst hc
    cases m<;>exact (MapKept.bytes_beq _ _).2 rfl
   |prod a b iha ihb=>
    intro x c hf hc
    simp only [Ty.flat,Bool.and_eq_true] at hf
    simp only [Ty.aM,List.mem_append] at hc
    exact hc.elim (iha x.1 c hf.1) (ihb x.2 c hf.2)
   |sl u _=>intro x c hf;simp [Ty.flat] at hf
  exact key t x c hf hc
 unfold dN at hv ⊢
 cases a with
 |true=>
  simp only [Instr.sameBits,beq_self_eq_true,Bool.true_and,List.all_eq_true]
  rintro ⟨u,v⟩ huv
  have:u=v/\ u∈(t.aM x).map aT:=by
   revert huv
   generalize (t.aM x).map aT=l
   induction l with
   |nil=>intro h;simp at h
   |cons c r ih=>
    intro h
    simp only [List.zip_cons_cons,List.mem_cons,Prod.mk.injEq] at h
    rcases h with ⟨rfl,rfl⟩|h
    ·exact ⟨rfl,by simp⟩
    ·have:=ih h;exact ⟨this.1,by simp [this.2]⟩
  obtain ⟨rfl,hu⟩:=this
  exact h1 n u hu
 |false=>
  dsimp only at hv ⊢
  split
  ·rename_i v hm
   exact h1 _ v (by rw [hm];simp)
  ·rename_i hm
   split at hv
   ·rename_i v hm2;exact absurd hm2 (hm v)
   ·exact absurd rfl hv
theorem aii {t:Ty} {ki:TI} {kt:TypeId} (hT:aW P ctx.tt) (Ts:aJ ctx.tt kt=some ki) (hK:IJ ctx.tt kt t) (x:t.T) (w:World):dN (aR ki.desc) t x≠ .tuple #[]:=by
 obtain ⟨i,hi,u,hu,hr⟩:=nF hT false 20 kt _ _ (hK x x) 10000 (by omega) (fun _=> {}) w
 rw [Ts] at hi;cases hi
 rw [<- wE hu]
 unfold valOf at hu
 split at hu
 ·cases hu;intro h;cases h
 ·split at hu
  ·rename_i v hm
   cases hu
   have hm':=hm
   rw [An] at hm'
   cases t with
   |int k=>simp only [Ty.aM,List.map_cons,List.map_nil,aT,List.cons.injEq,and_true] at hm';subst hm';intro h;cases h
   |bool=>simp only [Ty.aM,List.map_cons,List.map_nil,aT,List.cons.injEq,and_true] at hm';subst hm';intro h;cases h
   |str=>simp only [Ty.aM,List.map_cons,List.map_nil,aT,List.cons.injEq,and_true] at hm';subst hm';intro h;cases h
   |prod a b=>
    have h1:=congrArg List.length hm'
    have h2:=Ty.size_pos a
    have h3:=Ty.size_pos b
    simp only [List.length_map,aV,Ty.size,List.length_singleton] at h1
    omega
   |sl u=>simp only [Ty.aM,List.map_cons,List.map_nil,aT,List.cons.injEq,and_true] at hm';subst hm';intro h;cases h
  ·cases hu
theorem xM (hT:aW P ctx.tt) {t:TypeId} {i:TI} (ht:aJ ctx.tt t=some i) {x ix v:AV} (h:B2 ctx i x ix v hp k):
  ∃r,aS P ctx.X hp nm (fun _=>True) (fun ρ=>Instr.mapUpdate t (x.af ρ) (ix.af ρ) (v.af ρ)) (fun _=>()) r/\ k r/\ r.val=aH:=by
 have h0:=B1 h
 clear h
 obtain ⟨kt,et,ki,ei,kT,vT,hd,h1,h2,h3,h4,h5,h⟩:=h0
 split at h<;>try (exact h.elim)
 rename_i n
 split at h<;>try (exact h.elim)
 rename_i ka va IV I0 l hn
 split at h<;>try (exact h.elim)
 rename_i uI
 split at h<;>try (exact h.elim)
 rename_i hty
 obtain ⟨rfl,rfl⟩:=hty
 obtain ⟨rfl,rfl⟩:=uI
 split at h<;>try (exact h.elim)
 rename_i a y hk hv
 obtain ⟨hK,_,h⟩:=h
 refine ⟨_,⟨fun p hp=> ?_,?_⟩,h _ rfl,rfl⟩
 ·simp only [List.mem_singleton] at hp;subst hp;rw [hn];intro e;cases e
 intro aC W ρ Kn Γ w _ _ kI _ hst
 have dw:Γ n=some (.map (aR ki.desc) (aR ei.desc) IV I0 l):=by rw [kI n (by simp),hn]
 obtain ⟨_,_,b,es,QS,hb,hh,he⟩:=hst.at_ n _ dw
 have hkey:=F7 h3 hk w ρ
 have hval:=F7 h4 hv w ρ
 have hfind:=G2 (fun y:I0.T=>dN (aR ei.desc) I0 y) hT h1 h3 hK a w es.toList l he
 have ag8:=CJ hT h1 hK false a w
 have hput:=YI a y l 0
 have hxc:(AV.v (.one (.mp n))).af ρ= .map (some b):=by simp only [AV.af,A0.af,Cell.af,hb]
 have hlt:b<w.heap.size:=(Array.getElem?_eq_some_iff.1 hh).1
 have hown:=hst.own n b (by simp [dw]) hb
 have fin: ∀(es':Array MapEntry) (agN:Nat),es'.toList.map (fun e=>(e.key,e.val))=ajb (aR ki.desc) (aR ei.desc) IV I0 (AF l a y)->
   (Instr.mapUpdate t ((AV.v (.one (.mp n))).af ρ) (ix.af ρ) (v.af ρ)).run P w= .ok () {w with heap:=w.heap.setIfInBounds b (.map es' agN)} ->
   ∃ρ' w',(Instr.mapUpdate t ((AV.v (.one (.mp n))).af ρ) (ix.af ρ) (v.af ρ)).run P w= .ok () w'/\ (∀m,Kn m->ρ' m=ρ m)/\ aH.ok (tP Kn nm {val:=aH,writes:= [(n,.map (aR ki.desc) (aR ei.desc) IV I0 (AF l a y))],aO:= [n]})/\
    St aC W ρ' (tP Kn nm {val:=aH,writes:= [(n,.map (aR ki.desc) (aR ei.desc) IV I0 (AF l a y))],aO:= [n]}) (dO {val:=aH,writes:= [(n,.map (aR ki.desc) (aR ei.desc) IV I0 (AF l a y))],aO:= [n]} nm Γ) w':=by
  intro es' agN hes hrun
  refine ⟨ρ,_,hrun,fun _ _=>rfl,MO _,?_⟩
  rw [jN,mZ _ _ _ _ _ _ rfl]
  have Wu:=MapKept.heap_set (o':=Obj.map es' agN) hh
  refine hst.akm dw hb trivial (fun _ h=>by cases h) ⟨hst.fr.os,hst.fr.tape,hst.fr.output,by simpa using hst.fr.size,fun k hk hnb=> ?_⟩ (fun b' hne=>Wu.2 b' hne) (by simp) fun _=> ?_
  ·have hne:k≠b:=by
    rintro rfl
    rcases hown with h|h
    ·omega
    ·exact hnb h
   rw [<- hst.fr.block k hk hnb]
   exact Wu.2 k hne
  ·exact ⟨h3,h4,b,es',agN,hb,Wu.1,hes⟩
 have amX: ∀(f:Result Unit->Prop),True:=fun _=>trivial
 cases bE:atM a l 0 with
 |none=>
  rw [bE] at hfind hput
  simp only [Option.map_none] at hfind
  simp only at hput
  refine fin (es.push {key:=dN (aR ki.desc) IV a,val:=dN (aR ei.desc) I0 y,born:=QS}) (QS+1) ?_ ?_
  ·rw [hput]
   simp only [Array.toList_push,List.map_append,he,ajb,List.map_cons,List.map_nil]
  ·rw [hxc,hkey,hval]
   simp only [Instr.mapUpdate,Sem.run_bind,hT.u ht,hd,Result.andThen_ok,MapKept.run_getObj_map hh,ag8,hfind,MapKept.run_setObj_map _ hh]
 |some q=>
  obtain ⟨j,q2⟩:=q
  rw [bE] at hfind hput
  simp only [Option.map_some] at hfind
  simp only [Nat.sub_zero] at hput
  obtain ⟨_,p,hp1,hp2,hp3⟩:=hput
  have hpa:a=p.1:=(Q6 h3 _ _).1 hp2
  have hj: ∃e,es.toList[j]? =some e/\ e.key=dN (aR ki.desc) IV a:=by
   have:(es.toList.map (fun e=>(e.key,e.val)))[j]? =some (dN (aR ki.desc) IV p.1,dN (aR ei.desc) I0 p.2):=by
    rw [he,List.getElem?_map,hp1];rfl
   rw [List.getElem?_map] at this
   obtain ⟨e,he1,VP⟩:=Option.map_eq_some_iff.1 this
   exact ⟨e,he1,by rw [hpa];exact congrArg Prod.fst VP⟩
  obtain ⟨e,he1,VP⟩:=hj
  have hej:es[j]? =some e:=by rw [<- Array.getElem?_toList];exact he1
  have alG:(Instr.keyThatStays (((es[j]?).map (·.key)).getD (dN (aR ki.desc) IV a)) (dN (aR ki.desc) IV a)).run P w= .ok (dN (aR ki.desc) IV a) w:=by
   rw [hej]
   simp only [Option.map_some,Option.getD_some,VP,Instr.keyThatStays]
   rw [if_pos (NR h3 _ _ 9999 (aii hT h1 hK a w))]
   rfl
  refine fin (es.modify j fun e=> {e with key:=dN (aR ki.desc) IV a,val:=dN (aR ei.desc) I0 y}) QS ?_ ?_
  ·rw [hp3]
   simp only [ajb,List.map_set]
   have e3:(es.modify j fun e=> {e with key:=dN (aR ki.desc) IV a,val:=dN (aR ei.desc) I0 y}).toList=es.toList.modify j fun e=> {e with key:=dN (aR ki.desc) IV a,val:=dN (aR ei.desc) I0 y} :=by simp
   rw [e3]
   have e4:List.map (fun p=>(dN (aR ki.desc) IV p.1,dN (aR ei.desc) I0 p.2)) l=es.toList.map (fun e=>(e.key,e.val)):=he.symm
   rw [e4]
   apply List.ext_getElem?
   intro i
   simp only [List.getElem?_map,List.getElem?_modify,List.getElem?_set]
   by_cases hij:j=i
   ·subst hij
    have hjl:j<es.toList.length:=(List.getElem?_eq_some_iff.1 he1).1
    simp [he1,hjl]
    have:j<es.size:=by simpa using hjl
    simp [this]
   ·simp [hij]
  ·rw [hxc,hkey,hval]
   simp only [Instr.mapUpdate,Sem.run_bind,hT.u ht,hd,Result.andThen_ok,MapKept.run_getObj_map hh,ag8,hfind,alG,MapKept.run_setObj_map _ hh]
end
end Go.Ev
