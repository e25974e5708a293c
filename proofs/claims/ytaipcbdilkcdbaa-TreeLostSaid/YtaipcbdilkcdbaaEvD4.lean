/- Maps of flat keys and values. -/
import Derived.Test.YtaipcbdilkcdbaaEvD3
import Derived.MapKept
noncomputable section
set_option linter.unusedSectionVars false
set_option linter.unusedVariables false
set_option linter.unusedSimpArgs false
namespace Go.Ev
open Go.RowKit
theorem sW (t:Ty) (x:t.T) (ρ:Env):(kM t x).map (Cell.af ρ)=(t.aI x).map aM:=by
 simp [kM,List.map_map,Cell.af,Function.comp_def]
theorem mN (a:Bool) (t:Ty) (x:t.T) (ρ:Env):(xk a t x).af ρ=cO a t x:=by
 unfold xk cO
 cases a with
 |true=>simp only [A0.af,sW]
 |false=>
  have h:=sW t x ρ
  dsimp only
  rw [<- h]
  match kM t x with
  | []=>rfl
  | [c]=>rfl
  |_::_::_=>rfl
theorem Ab (a:Bool) (t:Ty) (x:t.T) (Kn:Nat->Prop):(xk a t x).ok Kn:=by
 have h: ∀c∈kM t x,c.ok Kn:=fun c hc=>by
  obtain ⟨_,_,rfl⟩:=List.mem_map.1 hc;trivial
 unfold xk
 cases a with
 |true=>exact h
 |false=>
  dsimp only
  split
  ·rename_i c hm
   exact h c (by rw [hm];simp)
  ·trivial
theorem F7 {t:Ty} {x:t.T} {cs:List Cell} {tc:List Nat} (hf:t.flat=true) (h:b8 (fun _=>none) t cs=some (x,[],tc)) (w:World) (ρ:Env):cs.map (Cell.af ρ)=(t.aI x).map aM:=by
 obtain ⟨ys,e,_,ha⟩:=js _ t _ _ _ _ h
 have:=ha zC w ρ (fun _=>False) (fun _=>none) w (fun _ _=>rfl) (St.none w _)
 rw [List.append_nil] at e
 subst e
 have key: ∀(cs:List cn) (vs:List Value),(∀c∈cs,∃v,c= .flat v)->bK (zn w (Il w)) cs vs->vs=cs.map aM:=by
  intro cs
  induction cs with
  |nil=>intro vs _ h;cases vs<;>first|rfl|exact h.elim
  |cons c r ih=>
   intro vs hc h
   cases vs with
   |nil=>exact h.elim
   |cons v s=>
    obtain ⟨u,rfl⟩:=hc c (by simp)
    have h1:v=u:=h.1
    rw [h1,ih s (fun c hm=>hc c (by simp [hm])) h.2];rfl
 exact key _ _ (fun c hc=>cZ hf hc) this
theorem pz {a:Bool} {t:Ty} {v:AV} {x:t.T} (hf:t.flat=true) (h:Jn a t v=some x) (w:World) (ρ:Env):v.af ρ=cO a t x:=by
 unfold Jn at h
 split at h
 ·split at h<;>try (cases h;done)
  rename_i cs ha
  split at h<;>try (cases h;done)
  rename_i hd
  cases h
  have:=F7 hf hd w ρ
  rw [ha]
  simp only [AV.af,A0.af,this,cO]
 ·split at h<;>try (cases h;done)
  rename_i c ha
  split at h<;>try (cases h;done)
  rename_i hd
  cases h
  have:=F7 hf hd w ρ
  have ha:a=false:=by simpa using ha
  rw [ha]
  unfold cO
  dsimp only
  rw [<- this]
  rfl
 ·cases h
theorem lf: ∀ {t:Ty},t.flat=true-> ∀(x y:t.T),qO t x y=true↔x=y
 | .int _,_,x,y=>by simp [qO]
 | .bool,_,x,y=>by simp [qO]
 | .str,_,x,y=>MapKept.bytes_beq x y
 | .prod a b,h,x,y=>by
  simp only [Ty.flat,Bool.and_eq_true] at h
  simp only [qO,Bool.and_eq_true,lf h.1,lf h.2]
  exact ⟨fun ⟨h1,h2⟩=>Prod.ext h1 h2,fun h=>by subst h;exact ⟨rfl,rfl⟩⟩
 | .sl _,h,_,_=>by simp [Ty.flat] at h
def Ak {k:Ty} {β:Type} (x:k.T):List (k.T×β)->Nat->Option (Nat×β)
 | [],_=>none
 |p::r,i=>match qO k x p.1 with
  |true=>some (i,p.2)
  |false=>Ak x r (i+1)
theorem FW {k:Ty} {β:Type} (x:k.T): ∀(l:List (k.T×β)) (i:Nat),(Ak x l i).map (·.2)=tJ l x
 | [],_=>rfl
 |p::r,i=>by
  unfold Ak tJ
  cases qO k x p.1 with
  |true=>rfl
  |false=>exact FW x r (i+1)
theorem EG {k:Ty} {β:Type} (x:k.T) (y:β): ∀(l:List (k.T×β)) (i:Nat),match Ak x l i with
  |none=>ni l x y=l++ [(x,y)]
  |some (j,_)=>i<=j/\ ∃p,l[j- i]? =some p/\ qO k x p.1=true/\ ni l x y=l.set (j- i) (x,y)
 | [],_=>rfl
 |p::r,i=>by
  unfold Ak ni
  cases h:qO k x p.1 with
  |true=>exact ⟨Nat.le_refl _,p,by simp,h,by simp⟩
  |false=>
   have:=EG x y r (i+1)
   dsimp only
   split
   ·rename_i e
    rw [e] at this
    simp only at this
    rw [this];rfl
   ·rename_i j q e
    rw [e] at this
    obtain ⟨h1,p',h2,h3,h4⟩:=this
    have e1:j- i=(j- (i+1))+1:=by omega
    exact ⟨by omega,p',by rw [e1];simpa using h2,h3,by rw [e1,h4];simp⟩
end Go.Ev
namespace Go.Ev
open Go.RowKit
section
variable {P:Program} {ctx:Ctx} {hp:HP} {nm:Nat} {k:Rec->Prop}
theorem kZ (hT:br P ctx.tt) (em:Bool): ∀(d:Nat) (t:TypeId) (xs:List Cell) (b:Bool),L1 ctx.tt d t xs xs=some b-> ∀(D:Nat),d<=D-> ∀(ρ:Env) (w:World),
  ∃i,aF ctx.tt t=some i/\ ∃u,valOf i.desc (xs.map (Cell.af ρ))=some u/\ (Instr.checkKey em D t u).run P w= .ok () w
 |0,_,_,_,h,_,_,_,_=>by simp [L1] at h
 |d+1,t,xs,b,h,D,hD,ρ,w=>by
  obtain ⟨D,rfl⟩: ∃D',D=D'+1:=⟨D- 1,by omega⟩
  simp only [L1] at h
  split at h
  ·cases h
  ·rename_i i hi
   refine ⟨i,hi,?_⟩
   have hu:=(hT t i hi).1
   split at h
   ·rename_i k0 hd
    split at h
    ·refine ⟨_,(by simp only [valOf,hd,aE,Bool.false_eq_true,if_false,List.map_cons,List.map_nil];rfl),?_⟩
     have e0:P.underlying t=some (.int k0):=by rw [hu,hd]
     simp [Instr.checkKey,run_underlying e0]
    ·cases h
   ·rename_i hd
    split at h
    ·refine ⟨_,(by simp only [valOf,hd,aE,Bool.false_eq_true,if_false,List.map_cons,List.map_nil];rfl),?_⟩
     have e0:P.underlying t=some .bool:=by rw [hu,hd]
     simp [Instr.checkKey,run_underlying e0]
    ·cases h
   ·rename_i hd
    split at h
    ·refine ⟨_,(by simp only [valOf,hd,aE,Bool.false_eq_true,if_false,List.map_cons,List.map_nil];rfl),?_⟩
     have e0:P.underlying t=some .string:=by rw [hu,hd]
     simp [Instr.checkKey,run_underlying e0]
    ·cases h
   ·rename_i fs hd
    refine ⟨.agg (xs.map (Cell.af ρ)).toArray,by simp [valOf,hd,aE],?_⟩
    have e0:P.underlying t=some (.struct fs):=by rw [hu,hd]
    simp only [Instr.checkKey,Sem.run_bind,run_underlying e0,Result.andThen_ok]
    rw [<- Array.forIn_toList]
    clear hd e0 hu
    generalize fs.toList=l at h ⊢
    induction l generalizing b with
    |nil=>simp
    |cons f r ih=>
     simp only [eqFields] at h
     split at h
     ·cases h
     ·rename_i fi EY
      split at h
      ·cases h
      ·rename_i hnm
       split at h
       ·rename_i b1 b2 h1 h2
        obtain ⟨fi',Oz,u,Ih,hr⟩:=kZ hT em d f.type _ b1 h1 D (by omega) ρ w
        rw [EY] at Oz;cases Oz
        rw [dQ] at Ih
        simp only [List.forIn_cons,ne_eq,hnm,not_false_eq_true,if_true,Sem.run_bind,nk hT EY _ _ Ih,Result.andThen_ok,hr,Sem.run_pure]
        exact ih b2 h2
       ·cases h
   ·rename_i n e hd
    split at h
    ·rename_i ei jd
     refine ⟨.agg (xs.map (Cell.af ρ)).toArray,by simp [valOf,hd,aE],?_⟩
     have e0:P.underlying t=some (.array n e):=by rw [hu,hd]
     simp only [Instr.checkKey,Sem.run_bind,run_underlying e0,Result.andThen_ok]
     rw [Std.Legacy.Range.forIn_eq_forIn_range']
     simp only [Std.Legacy.Range.size,Nat.sub_zero,Nat.add_sub_cancel,Nat.div_one]
     clear hd e0 hu
     generalize 0=s at h ⊢
     induction n generalizing s b with
     |zero=>simp
     |succ n ih=>
      simp only [vl] at h
      split at h
      ·rename_i b1 b2 h1 h2
       obtain ⟨ei',Oy,u,Ih,hr⟩:=kZ hT em d e _ b1 h1 D (by omega) ρ w
       rw [jd] at Oy;cases Oy
       rw [dQ] at Ih
       simp only [List.range'_succ,List.forIn_cons,Sem.run_bind,hT.sz jd,nk hT jd _ _ Ih,Result.andThen_ok,hr,Sem.run_pure]
       exact ih b2 (s+1) h2
      ·cases h
    ·cases h
   ·cases h
theorem qE {t:Ty} {d:TypeDesc} {x:t.T} {u:Value} {ρ:Env} (h:valOf d ((kM t x).map (Cell.af ρ))=some u):u=cO (aE d) t x:=by
 rw [sW] at h
 unfold valOf at h
 unfold cO
 split at h
 ·rename_i ha
  cases h;rw [ha]
 ·rename_i ha
  have:aE d=false:=by simpa using ha
  rw [this]
  dsimp only
  split at h
  ·rename_i v hv
   cases h;rw [hv]
  ·cases h
theorem mw (hT:br P ctx.tt) {kt:TypeId} {ki:TI} (Gs:aF ctx.tt kt=some ki) {kT:Ty} (hK:Af ctx.tt kt kT) (em:Bool) (x:kT.T) (w:World):
  (Instr.checkKey em 10000 kt (cO (aE ki.desc) kT x)).run P w= .ok () w:=by
 obtain ⟨i,hi,u,hu,hr⟩:=kZ hT em 20 kt _ _ (hK x x) 10000 (by omega) (fun _=> {}) w
 rw [Gs] at hi;cases hi
 rw [<- qE hu];exact hr
theorem L2 (hT:br P ctx.tt) {kt:TypeId} {ki:TI} (Gs:aF ctx.tt kt=some ki) {kT:Ty} (hK:Af ctx.tt kt kT) (x y:kT.T) (w:World):
  (Op.equal kt (cO (aE ki.desc) kT x) (cO (aE ki.desc) kT y)).run P w= .ok (qO kT x y) w:=by
 obtain ⟨i,hi,u,v,hu,hv,hr⟩:=vk hT 20 kt _ _ _ (hK x y) 10000 (by omega) (fun _=> {}) w
 rw [Gs] at hi;cases hi
 rw [<- qE hu,<- qE hv];exact hr
def TH (ka va:Bool) (kT vT:Ty) (l:List (kT.T×vT.T)):List (Value×Value):=l.map fun p=>(cO ka kT p.1,cO va vT p.2)
def td {β:Type} (ka:Bool) (kT:Ty) (f:β->Value) (l:List (kT.T×β)):List (Value×Value):=l.map fun p=>(cO ka kT p.1,f p.2)
theorem ru {β:Type} (f:β->Value) (hT:br P ctx.tt) {kt:TypeId} {ki:TI} (Gs:aF ctx.tt kt=some ki) {kT:Ty} (hK:Af ctx.tt kt kT) (x:kT.T) (w:World):
  ∀(es:List MapEntry) (l:List (kT.T×β)) (i:Nat),es.map (fun e=>(e.key,e.val))=td (aE ki.desc) kT f l->
   (Instr.findAsking kt (cO (aE ki.desc) kT x) es i).run P w= .ok ((Ak x l i).map fun q=>(q.1,f q.2)) w
 | [],l,i,h=>by
  cases l with
  |nil=>rfl
  |cons p r=>simp [td] at h
 |e::es,l,i,h=>by
  cases l with
  |nil=>simp [td] at h
  |cons p r=>
   simp only [td,List.map_cons,List.cons.injEq,Prod.mk.injEq] at h
   obtain ⟨⟨h1,h2⟩,h3⟩:=h
   simp only [Instr.findAsking,Sem.run_bind,h1,L2 hT Gs hK,Result.andThen_ok,Ak]
   cases qO kT x p.1 with
   |true=>simp [h2]
   |false=>exact ru f hT Gs hK x w es r (i+1) h3
theorem JO (hT:br P ctx.tt) {kt:TypeId} {ki:TI} (Gs:aF ctx.tt kt=some ki) {kT:Ty} (hf:kT.flat=true) (hK:Af ctx.tt kt kT) (ha:aE ki.desc=false) (x y:kT.T):
  Instr.sameNow ki.desc (cO false kT x) (cO false kT y)=some (qO kT x y):=by
 have h:=hK x y
 simp only [L1,Gs] at h
 split at h
 ·rename_i k0 hd
  cases kT with
  |int k1=>
   simp only [kM,Ty.aI,List.map_cons,List.map_nil,aM,if_true] at h
   simp only [hd,cO,Ty.aI,List.map_cons,List.map_nil,aM,Instr.sameNow,if_true,qO]
  |bool=>simp [kM,Ty.aI,aM] at h
  |str=>simp [kM,Ty.aI,aM] at h
  |prod a b=>
   split at h
   ·rename_i hx hy
    have h1:=congrArg List.length hx
    have h2:=Ty.size_pos a
    have h3:=Ty.size_pos b
    simp [kM,aO,Ty.size] at h1;omega
   ·cases h
  |sl u=>simp [Ty.flat] at hf
 ·rename_i hd
  cases kT with
  |bool=>simp only [hd,cO,Ty.aI,List.map_cons,List.map_nil,aM,Instr.sameNow,qO]
  |int k1=>simp [kM,Ty.aI,aM] at h
  |str=>simp [kM,Ty.aI,aM] at h
  |prod a b=>
   split at h
   ·rename_i hx hy
    have h1:=congrArg List.length hx
    have h2:=Ty.size_pos a
    have h3:=Ty.size_pos b
    simp [kM,aO,Ty.size] at h1;omega
   ·cases h
  |sl u=>simp [Ty.flat] at hf
 ·rename_i hd
  cases kT with
  |str=>simp only [hd,cO,Ty.aI,List.map_cons,List.map_nil,aM,Instr.sameNow,qO]
  |int k1=>simp [kM,Ty.aI,aM] at h
  |bool=>simp [kM,Ty.aI,aM] at h
  |prod a b=>
   split at h
   ·rename_i hx hy
    have h1:=congrArg List.length hx
    have h2:=Ty.size_pos a
    have h3:=Ty.size_pos b
    simp [kM,aO,Ty.size] at h1;omega
   ·cases h
  |sl u=>simp [Ty.flat] at hf
 ·rename_i fs hd;rw [hd] at ha;cases ha
 ·rename_i n e hd;rw [hd] at ha;cases ha
 ·cases h
theorem yo {β:Type} (f:β->Value) (hT:br P ctx.tt) {kt:TypeId} {ki:TI} (Gs:aF ctx.tt kt=some ki) {kT:Ty} (hf:kT.flat=true) (hK:Af ctx.tt kt kT) (ha:aE ki.desc=false) (x:kT.T):
  ∀(es:List MapEntry) (l:List (kT.T×β)) (i:Nat),es.map (fun e=>(e.key,e.val))=td false kT f l->
   Instr.findNow ki.desc (cO false kT x) es i=some ((Ak x l i).map fun q=>(q.1,f q.2))
 | [],l,i,h=>by
  cases l with
  |nil=>rfl
  |cons p r=>simp [td] at h
 |e::es,l,i,h=>by
  cases l with
  |nil=>simp [td] at h
  |cons p r=>
   simp only [td,List.map_cons,List.cons.injEq,Prod.mk.injEq] at h
   obtain ⟨⟨h1,h2⟩,h3⟩:=h
   simp only [Instr.findNow,h1,JO hT Gs hf hK ha,Ak]
   cases qO kT x p.1 with
   |true=>simp [h2]
   |false=>exact yo f hT Gs hf hK ha x es r (i+1) h3
theorem nS {β:Type} (f:β->Value) (hT:br P ctx.tt) {kt:TypeId} {ki:TI} (Gs:aF ctx.tt kt=some ki) {kT:Ty} (hf:kT.flat=true) (hK:Af ctx.tt kt kT) (x:kT.T) (w:World)
  (es:List MapEntry) (l:List (kT.T×β)) (h:es.map (fun e=>(e.key,e.val))=td (aE ki.desc) kT f l):
  (Instr.findKey kt (cO (aE ki.desc) kT x) es).run P w= .ok ((Ak x l 0).map fun q=>(q.1,f q.2)) w:=by
 have hu:=hT.u Gs w
 unfold Instr.findKey
 simp only [Sem.run_bind,hu,Result.andThen_ok]
 cases ha:aE ki.desc with
 |false=>
  rw [ha] at h
  rw [yo f hT Gs hf hK ha x es l 0 h]
  rfl
 |true=>
  cases es with
  |nil=>
   cases l with
   |nil=>rfl
   |cons p r=>simp [td] at h
  |cons e es=>
   have:Instr.findNow ki.desc (cO true kT x) (e::es) 0=none:=by
    have:Instr.sameNow ki.desc (cO true kT x) e.key=none:=by
     unfold Instr.sameNow cO
     cases ki.desc<;>simp_all [aE]
    simp only [Instr.findNow,this]
   rw [this]
   rw [<- ha]
   exact ru f hT Gs hK x w (e::es) l 0 h
theorem St.J5 {ax:iV} {W w w1:World} {ρ:Env} {Kn:Nat->Prop} {Γ:HP} {n b:Nat} {o o':aG} (h:St ax W ρ Kn Γ w) (hn:Γ n=some o) (hb:(ρ n).bt=some b) (tG:o'.ok Kn) (hno: ∀S,o'≠ .eZ S)
  (hf:Fr ax W w1) (hw: ∀b',b'≠b->w1.heap[b']? =w.heap[b']?) (hsz:w.heap.size<=w1.heap.size)
  (bz:(∀b',eo ρ Γ w b'->eo ρ (bN Γ n o') w1 b'/\ w1.heap[b']? =w.heap[b']?)->aX (eo ρ (bN Γ n o') w1) (qP ax W) ρ n o' w1):St ax W ρ Kn (bN Γ n o') w1:=by
 have hs: ∀m,(bN Γ n o' m).isSome=true->(Γ m).isSome=true:=fun m hm=>by
  unfold bN at hm;split at hm
  ·rename_i e;subst e;simp [hn]
  ·exact hm
 have qG: ∀b,HI (bN Γ n o') b->HI Γ b:=fun b ⟨m,S,h1,h2⟩=>by
  unfold bN at h1
  split at h1
  ·cases h1;exact absurd rfl (hno S)
  ·exact ⟨m,S,h1,h2⟩
 have hfz: ∀b',eo ρ Γ w b'->eo ρ (bN Γ n o') w1 b'/\ w1.heap[b']? =w.heap[b']? :=fun b' hf=>by
  have hne:b'≠b:=by rintro rfl;exact hf.2 (.inl ⟨n,by simp [hn],.inl hb⟩)
  refine ⟨⟨hf.1.same (hw _ hne),?_⟩,hw _ hne⟩
  rintro (⟨m,h1,h2⟩|⟨m,S,h1,h2⟩)
  ·exact hf.2 (.inl ⟨m,hs m h1,h2⟩)
  ·exact hf.2 (.inr (qG b' ⟨m,S,h1,h2⟩))
 refine ⟨hf,fun m p hp=> ?_,fun m p hp=> ?_,fun m m' c hm hm' fg fV=>h.cW m m' c (hs m hm) (hs m' hm') fg fV,fun m c hm hc=>h.jR m c (hs m hm) hc,fun c hc=> ?_,fun m p hp=> ?_⟩
 rotate_right
 ·unfold bN at hp
  split at hp
  ·rename_i e;subst e
   rcases h.qI m o hn with ⟨g,rfl⟩|he
   ·have:=(h.at_ m _ hn).1
    rw [hb] at this;cases this
   ·exact .inr he
  ·exact h.qI m p hp
 rotate_right
 ·obtain ⟨h1,h2⟩:=h.rH c (qG c hc)
  exact ⟨by omega,fun ⟨m,h3,h4⟩=>h2 ⟨m,hs m h3,h4⟩⟩
 ·unfold bN at hp;split at hp
  ·rename_i e;subst e;cases hp;exact bz hfz
  ·rename_i e
   refine ct (Kn:=Kn) (h.at_ m p hp) (fun _ _=>rfl) (h.kn m p hp).1 (h.kn m p hp).2 hfz (fun _ _ h=>h) fun c hc=>hw _ ?_
   rintro rfl
   exact e (h.cW m n _ (by simp [hp]) (by simp [hn]) hc (.inl hb))
 ·unfold bN at hp;split at hp
  ·rename_i e;subst e;cases hp;exact ⟨(h.kn m o hn).1,tG⟩
  ·exact h.kn m p hp
theorem uw {i:TI} {kk:TypeId->TI->TI->Ty->Ty->Prop} (h:GU ctx i kk): ∃kt et ki ei kT vT,i.desc= .map kt et/\ aF ctx.tt kt=some ki/\ aF ctx.tt et=some ei/\ kT.flat=true/\ vT.flat=true/\ Bc ei.zero=aE ei.desc/\ kk kt ki ei kT vT:=by
 unfold GU at h
 split at h
 ·rename_i kt et hd
  split at h
  ·rename_i ki ei h1 h2
   split at h
   ·rename_i kT vT h3 h4
    split at h
    ·rename_i h5
     simp only [Bool.and_eq_true,beq_iff_eq] at h5
     exact ⟨kt,et,ki,ei,kT,vT,hd,h1,h2,h5.1.1,h5.1.2,h5.2,h⟩
    ·exact h.elim
   ·exact h.elim
  ·exact h.elim
 ·exact h.elim
theorem Nr {t:Ty} {z:t.T} {v:Value} {tc:List Nat} (hf:t.flat=true) (h:b8 (fun _=>none) t (iz v)=some (z,[],tc)) (w:World):v=cO (Bc v) t z:=by
 have:=Ez hf h w
 cases v with
 |agg cs=>
  simp only [Bc,cO]
  rw [<- this]
  rfl
 |_=>
  simp only [Bc,cO]
  rw [<- this]
  rfl
theorem Fc {i:TI} {t:TypeId} (h:GQ ctx i nm k): ∃r,aL P ctx.X hp nm (fun _=>True) (fun _=>Instr.makeMap t none) (fun ρ=>r.val.af ρ) r/\ k r:=by
 have h0:=uw h
 clear h
 obtain ⟨kt,et,ki,ei,kT,vT,hd,h1,h2,h3,h4,h5,h⟩:=h0
 refine ⟨_,⟨fun p hp=>absurd hp (by simp),?_⟩,h⟩
 intro ax W ρ Kn Γ w _ _ _ hfr hst
 have hn: ¬Kn nm:=by simpa using hfr 0 (by simp)
 refine ⟨aV ρ nm {bt:=some w.heap.size},w.alloc (.map #[] 0),?_,cD hn,?_,?_⟩
 ·simp only [AV.af,A0.af,Cell.af,aV,if_true];rfl
 ·exact .inr ⟨Nat.le_refl _,by simp⟩
 ·rw [qb]
  have e: ∀(v:AV) (o:aG) (tc:List Nat),live (some o)=some o->bB {val:=v,fresh:= [o],az:=tc} nm Γ=bN Γ nm o:=fun v o tc ho=>by
   funext m;simp only [bB,bN,List.length_singleton,bW]
   by_cases h:m=nm
   ·subst h;simpa using ho
   ·have: ¬(nm≤m∧m<nm+1):=by omega
    simp [h,this]
  rw [e _ _ _ rfl]
  have hsz:=hst.fr.size
  refine hst.swap (G:= []) (o:= .map (aE ki.desc) (aE ei.desc) kT vT []) hn (hst.fr.alloc _) (fun b hb _=>Below.heap_alloc _ _ _ hb) (fun b hb=> ?_) (fun m p hp=> ?_) trivial (fun _ h=>by cases h) fun _ _=> ?_
  ·cases hb;exact ⟨.inl (Nat.le_refl _),.inl hsz⟩
  ·unfold bN at hp
   split at hp
   ·rename_i e1;cases hp;exact .inl ⟨e1,rfl⟩
   ·rename_i e1;exact .inr ⟨e1,by simp,hp⟩
  ·exact ⟨h3,h4,w.heap.size,#[],0,by simp [aV],by show (w.heap.push _)[w.heap.size]? =_;simp,rfl⟩
theorem GM (hT:br P ctx.tt) {t:TypeId} {i:TI} (ht:aF ctx.tt t=some i) {x ix:AV} {ok:Bool} (h:KC ctx i x ix ok hp k):
  ∃r,aL P ctx.X hp nm (fun _=>True) (fun ρ=>Instr.lookup t (x.af ρ) (ix.af ρ) ok) (fun ρ=>r.val.af ρ) r/\ k r:=by
 have h0:=uw h
 clear h
 obtain ⟨kt,et,ki,ei,kT,vT,hd,h1,h2,h3,h4,h5,h⟩:=h0
 split at h<;>try (exact h.elim)
 rename_i n
 split at h<;>try (exact h.elim)
 rename_i ka va je zH l hn
 split at h<;>try (exact h.elim)
 rename_i mo
 split at h<;>try (exact h.elim)
 rename_i RA
 obtain ⟨rfl,rfl⟩:=RA
 obtain ⟨rfl,rfl⟩:=mo
 split at h<;>try (exact h.elim)
 rename_i a z tc hk hz
 obtain ⟨hK,_,h⟩:=h
 refine ⟨_,aL.pure ?_,h _ rfl⟩
 intro ax W ρ Kn Γ w _ _ dU hst
 obtain ⟨_,_,b,es,dI,hb,hh,he⟩:=hst.at_ n _ (by rw [dU n (by simp),hn])
 have hkey:=pz h3 hk w ρ
 have hfind:=nS (fun y:zH.T=>cO (aE ei.desc) zH y) hT h1 h3 hK a w es.toList l he
 have CI:=mw hT h1 hK es.isEmpty a w
 have hzero:=Nr h4 hz w
 rw [h5] at hzero
 have Kq:=FW a l 0
 have eb: ∀v:Value,(A0.one (.raw v)).af ρ=v:=fun _=>rfl
 refine ⟨?_,?_⟩
 ·rw [hkey]
  have QS:(AV.v (.one (.mp n))).af ρ= .map (some b):=by simp only [AV.af,A0.af,Cell.af,hb]
  rw [QS]
  simp only [Instr.lookup,Sem.run_bind,hT.u ht,hd,Result.andThen_ok,MapKept.run_getObj_map hh,Sem.run_pure,CI,hfind]
  cases bz:Ak a l 0 with
  |none=>
   rw [bz] at Kq
   have e1:tJ l a=none:=Kq.symm
   simp only [Option.map_none,Sem.run_bind,hT.z h2,Result.andThen_ok,Sem.run_pure]
   have e2:nV l a z=z:=by simp [nV,e1]
   have e3:Om l a=false:=by simp [Om,e1]
   cases ok with
   |true=>
    simp only [if_true,Sem.run_pure,AV.af,List.map_cons,List.map_nil,mN,eb,e2,e3,hzero]
   |false=>
    simp only [Bool.false_eq_true,if_false,Sem.run_pure,AV.af,mN,e2,hzero]
  |some q=>
   rw [bz] at Kq
   have e1:tJ l a=some q.2:=Kq.symm
   simp only [Option.map_some,Sem.run_bind,Result.andThen_ok,Sem.run_pure]
   have e2:nV l a z=q.2:=by simp [nV,e1]
   have e3:Om l a=true:=by simp [Om,e1]
   cases ok with
   |true=>
    simp only [if_true,Sem.run_pure,AV.af,List.map_cons,List.map_nil,mN,eb,e2,e3]
   |false=>
    simp only [Bool.false_eq_true,if_false,Sem.run_pure,AV.af,mN,e2]
 ·cases ok with
  |true=>
   intro x hx
   simp only [if_true,List.mem_cons,List.not_mem_nil,or_false] at hx
   rcases hx with rfl|rfl
   ·exact Ab _ _ _ _
   ·trivial
  |false=>exact Ab _ _ _ _
theorem tP {t:Ty} (hf:t.flat=true) (a:Bool) (x:t.T) (n:Nat) (hv:cO a t x≠ .tuple #[]):Instr.sameBits (n+1) (cO a t x) (cO a t x)=true:=by
 have h1: ∀m v,v∈(t.aI x).map aM->Instr.sameBits m v v=true:=fun m v hv=>by
  obtain ⟨c,hc,rfl⟩:=List.mem_map.1 hv
  have key: ∀(t:Ty) (x:t.T) (c:cn),t.flat=true->c∈t.aI x->Instr.sameBits m (aM c) (aM c)=true:=by
   intro t
   induction t with
   |int k=>intro x c _ hc;simp only [Ty.aI,List.mem_singleton] at hc;subst hc;cases m<;>simp [aM,Instr.sameBits]
   |bool=>intro x c _ hc;simp only [Ty.aI,List.mem_singleton] at hc;subst hc;cases m<;>simp [aM,Instr.sameBits]
   |str=>
    intro x c _ hc
    simp only [Ty.aI,List.mem_singleton] at hc
    subst hc
    cases m<;>exact (MapKept.bytes_beq _ _).2 rfl
   |prod a b CM CN=>
    intro x c hf hc
    simp only [Ty.flat,Bool.and_eq_true] at hf
    simp only [Ty.aI,List.mem_append] at hc
    exact hc.elim (CM x.1 c hf.1) (CN x.2 c hf.2)
   |sl u _=>intro x c hf;simp [Ty.flat] at hf
  exact key t x c hf hc
 unfold cO at hv ⊢
 cases a with
 |true=>
  simp only [Instr.sameBits,beq_self_eq_true,Bool.true_and,List.all_eq_true]
  rintro ⟨u,v⟩ huv
  have:u=v/\ u∈(t.aI x).map aM:=by
   revert huv
   generalize (t.aI x).map aM=l
   induction l with
   |nil=>intro h;simp at h
   |cons c r ih=>
    intro h
    simp only [List.zip_cons_cons,List.mem_cons,Prod.mk.injEq] at h
    rcases h with ⟨rfl,rfl⟩|h
    ·exact ⟨rfl,by simp⟩
    ·have:=ih h;exact ⟨this.1,by simp [this.2]⟩
  obtain ⟨rfl,hu⟩:=this
  exact h1 n u hu
 |false=>
  dsimp only at hv ⊢
  split
  ·rename_i v hm
   exact h1 _ v (by rw [hm];simp)
  ·rename_i hm
   split at hv
   ·rename_i v OE;exact absurd OE (hm v)
   ·exact absurd rfl hv
theorem Lq {t:Ty} {ki:TI} {kt:TypeId} (hT:br P ctx.tt) (Gs:aF ctx.tt kt=some ki) (hK:Af ctx.tt kt t) (x:t.T) (w:World):cO (aE ki.desc) t x≠ .tuple #[]:=by
 obtain ⟨i,hi,u,hu,hr⟩:=kZ hT false 20 kt _ _ (hK x x) 10000 (by omega) (fun _=> {}) w
 rw [Gs] at hi;cases hi
 rw [<- qE hu]
 unfold valOf at hu
 split at hu
 ·cases hu;intro h;cases h
 ·split at hu
  ·rename_i v hm
   cases hu
   have hm':=hm
   rw [sW] at hm'
   cases t with
   |int k=>simp only [Ty.aI,List.map_cons,List.map_nil,aM,List.cons.injEq,and_true] at hm';subst hm';intro h;cases h
   |bool=>simp only [Ty.aI,List.map_cons,List.map_nil,aM,List.cons.injEq,and_true] at hm';subst hm';intro h;cases h
   |str=>simp only [Ty.aI,List.map_cons,List.map_nil,aM,List.cons.injEq,and_true] at hm';subst hm';intro h;cases h
   |prod a b=>
    have h1:=congrArg List.length hm'
    have h2:=Ty.size_pos a
    have h3:=Ty.size_pos b
    simp only [List.length_map,aO,Ty.size,List.length_singleton] at h1
    omega
   |sl u=>simp only [Ty.aI,List.map_cons,List.map_nil,aM,List.cons.injEq,and_true] at hm';subst hm';intro h;cases h
  ·cases hu
theorem rP (hT:br P ctx.tt) {t:TypeId} {i:TI} (ht:aF ctx.tt t=some i) {x ix v:AV} (h:ux ctx i x ix v hp k):
  ∃r,aL P ctx.X hp nm (fun _=>True) (fun ρ=>Instr.mapUpdate t (x.af ρ) (ix.af ρ) (v.af ρ)) (fun _=>()) r/\ k r/\ r.val=aW:=by
 have h0:=uw h
 clear h
 obtain ⟨kt,et,ki,ei,kT,vT,hd,h1,h2,h3,h4,h5,h⟩:=h0
 split at h<;>try (exact h.elim)
 rename_i n
 split at h<;>try (exact h.elim)
 rename_i ka va je zH l hn
 split at h<;>try (exact h.elim)
 rename_i mo
 split at h<;>try (exact h.elim)
 rename_i RA
 obtain ⟨rfl,rfl⟩:=RA
 obtain ⟨rfl,rfl⟩:=mo
 split at h<;>try (exact h.elim)
 rename_i a y hk hv
 obtain ⟨hK,_,h⟩:=h
 refine ⟨_,⟨fun p hp=> ?_,?_⟩,h _ rfl,rfl⟩
 ·simp only [List.mem_singleton] at hp;subst hp;rw [hn];intro e;cases e
 intro ax W ρ Kn Γ w _ _ dU _ hst
 have bV:Γ n=some (.map (aE ki.desc) (aE ei.desc) je zH l):=by rw [dU n (by simp),hn]
 obtain ⟨_,_,b,es,dI,hb,hh,he⟩:=hst.at_ n _ bV
 have hkey:=pz h3 hk w ρ
 have hval:=pz h4 hv w ρ
 have hfind:=nS (fun y:zH.T=>cO (aE ei.desc) zH y) hT h1 h3 hK a w es.toList l he
 have CI:=mw hT h1 hK false a w
 have hput:=EG a y l 0
 have QS:(AV.v (.one (.mp n))).af ρ= .map (some b):=by simp only [AV.af,A0.af,Cell.af,hb]
 have hlt:b<w.heap.size:=(Array.getElem?_eq_some_iff.1 hh).1
 have hown:=hst.own n b (by simp [bV]) hb
 have fin: ∀(es':Array MapEntry) (ko:Nat),es'.toList.map (fun e=>(e.key,e.val))=TH (aE ki.desc) (aE ei.desc) je zH (ni l a y)->
   (Instr.mapUpdate t ((AV.v (.one (.mp n))).af ρ) (ix.af ρ) (v.af ρ)).run P w= .ok () {w with heap:=w.heap.setIfInBounds b (.map es' ko)} ->
   ∃ρ' w',(Instr.mapUpdate t ((AV.v (.one (.mp n))).af ρ) (ix.af ρ) (v.af ρ)).run P w= .ok () w'/\ (∀m,Kn m->ρ' m=ρ m)/\ aW.ok (iQ Kn nm {val:=aW,writes:= [(n,.map (aE ki.desc) (aE ei.desc) je zH (ni l a y))],az:= [n]})/\
    St ax W ρ' (iQ Kn nm {val:=aW,writes:= [(n,.map (aE ki.desc) (aE ei.desc) je zH (ni l a y))],az:= [n]}) (bB {val:=aW,writes:= [(n,.map (aE ki.desc) (aE ei.desc) je zH (ni l a y))],az:= [n]} nm Γ) w':=by
  intro es' ko Rt hrun
  refine ⟨ρ,_,hrun,fun _ _=>rfl,qD _,?_⟩
  rw [fO,kj _ _ _ _ _ _ rfl]
  have fF:=MapKept.heap_set (o':=Obj.map es' ko) hh
  refine hst.J5 bV hb trivial (fun _ h=>by cases h) ⟨hst.fr.os,hst.fr.tape,hst.fr.output,by simpa using hst.fr.size,fun k hk hnb=> ?_,hst.fr.FJ⟩ (fun b' hne=>fF.2 b' hne) (by simp) fun _=> ?_
  ·have hne:k≠b:=by
    rintro rfl
    rcases hown with h|h
    ·omega
    ·exact hnb h
   rw [<- hst.fr.block k hk hnb]
   exact fF.2 k hne
  ·exact ⟨h3,h4,b,es',ko,hb,fF.1,Rt⟩
 have YB: ∀(f:Result Unit->Prop),True:=fun _=>trivial
 cases bz:Ak a l 0 with
 |none=>
  rw [bz] at hfind hput
  simp only [Option.map_none] at hfind
  simp only at hput
  refine fin (es.push {key:=cO (aE ki.desc) je a,val:=cO (aE ei.desc) zH y,born:=dI}) (dI+1) ?_ ?_
  ·rw [hput]
   simp only [Array.toList_push,List.map_append,he,TH,List.map_cons,List.map_nil]
  ·rw [QS,hkey,hval]
   simp only [Instr.mapUpdate,Sem.run_bind,hT.u ht,hd,Result.andThen_ok,MapKept.run_getObj_map hh,CI,hfind,MapKept.run_setObj_map _ hh]
 |some q=>
  obtain ⟨j,q2⟩:=q
  rw [bz] at hfind hput
  simp only [Option.map_some] at hfind
  simp only [Nat.sub_zero] at hput
  obtain ⟨_,p,hp1,hp2,YS⟩:=hput
  have Vr:a=p.1:=(lf h3 _ _).1 hp2
  have hj: ∃e,es.toList[j]? =some e/\ e.key=cO (aE ki.desc) je a:=by
   have:(es.toList.map (fun e=>(e.key,e.val)))[j]? =some (cO (aE ki.desc) je p.1,cO (aE ei.desc) zH p.2):=by
    rw [he,List.getElem?_map,hp1];rfl
   rw [List.getElem?_map] at this
   obtain ⟨e,Gp,vy⟩:=Option.map_eq_some_iff.1 this
   exact ⟨e,Gp,by rw [Vr];exact congrArg Prod.fst vy⟩
  obtain ⟨e,Gp,vy⟩:=hj
  have YA:es[j]? =some e:=by rw [<- Array.getElem?_toList];exact Gp
  have OM:(Instr.keyThatStays (((es[j]?).map (·.key)).getD (cO (aE ki.desc) je a)) (cO (aE ki.desc) je a)).run P w= .ok (cO (aE ki.desc) je a) w:=by
   rw [YA]
   simp only [Option.map_some,Option.getD_some,vy,Instr.keyThatStays]
   rw [if_pos (tP h3 _ _ 9999 (Lq hT h1 hK a w))]
   rfl
  refine fin (es.modify j fun e=> {e with key:=cO (aE ki.desc) je a,val:=cO (aE ei.desc) zH y}) dI ?_ ?_
  ·rw [YS]
   simp only [TH,List.map_set]
   have e3:(es.modify j fun e=> {e with key:=cO (aE ki.desc) je a,val:=cO (aE ei.desc) zH y}).toList=es.toList.modify j fun e=> {e with key:=cO (aE ki.desc) je a,val:=cO (aE ei.desc) zH y} :=by simp
   rw [e3]
   have e4:List.map (fun p=>(cO (aE ki.desc) je p.1,cO (aE ei.desc) zH p.2)) l=es.toList.map (fun e=>(e.key,e.val)):=he.symm
   rw [e4]
   apply List.ext_getElem?
   intro i
   simp only [List.getElem?_map,List.getElem?_modify,List.getElem?_set]
   by_cases hij:j=i
   ·subst hij
    have Ub:j<es.toList.length:=(List.getElem?_eq_some_iff.1 Gp).1
    simp [Gp,Ub]
    have:j<es.size:=by simpa using Ub
    simp [this]
   ·simp [hij]
  ·rw [QS,hkey,hval]
   simp only [Instr.mapUpdate,Sem.run_bind,hT.u ht,hd,Result.andThen_ok,MapKept.run_getObj_map hh,CI,hfind,OM,MapKept.run_setObj_map _ hh]
end
end Go.Ev
