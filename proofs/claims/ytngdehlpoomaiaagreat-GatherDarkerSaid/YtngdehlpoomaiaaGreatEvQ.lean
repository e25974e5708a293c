/- States as patterns: what is read out of a state, and that the state knows no less than the pattern with these values. -/
import Derived.Test.YtngdehlpoomaiaaGreatEvP
noncomputable section
set_option linter.unusedSectionVars false
set_option linter.unusedVariables false
set_option linter.unusedSimpArgs false
namespace Go.Ev
inductive HT
 |i|b|s|n|v|env|lo|hd
 |l (t:Ty)
 |tv (t:Ty)
@[reducible] def HT.T:HT->Type
 | .i=>Int
 | .b=>Bool
 | .s=>ByteArray
 | .n=>Nat
 | .v=>Value
 | .env=>Env
 | .lo=>Loop
 | .hd=>Nat->Prop
 | .l t=>List t.T
 | .tv t=>t.T
inductive DV
 |i (x:Int)|b (x:Bool)|s (x:ByteArray)|n (x:Nat)|v (x:Value)|env (x:Env)|lo (x:Loop)|hd (x:Nat->Prop)
 |l (t:Ty) (x:List t.T)
 |tv (t:Ty) (x:t.T)
def Iv (t u:Ty) (x:t.T):Option u.T:=if h:t=u then some (h▸x) else none
theorem MN {u' u:Ty} {x:u'.T} {y:u.T} (h:Iv u' u x=some y): ∃e:u'=u,e▸x=y:=by
 unfold Iv at h
 split at h
 ·rename_i e;cases h;exact ⟨e,rfl⟩
 ·cases h
def DV.as:(h:HT)->DV->Option h.T
 | .i,d=>match d with| .i x=>some x|_=>none
 | .b,d=>match d with| .b x=>some x|_=>none
 | .s,d=>match d with| .s x=>some x|_=>none
 | .n,d=>match d with| .n x=>some x|_=>none
 | .v,d=>match d with| .v x=>some x|_=>none
 | .env,d=>match d with| .env x=>some x|_=>none
 | .lo,d=>match d with| .lo x=>some x|_=>none
 | .hd,d=>match d with| .hd x=>some x|_=>none
 | .l t,d=>match d with| .l u x=>iw u t x|_=>none
 | .tv t,d=>match d with| .tv u x=>Iv u t x|_=>none
def DV.of:(h:HT)->h.T->DV
 | .i,x=> .i x
 | .b,x=> .b x
 | .s,x=> .s x
 | .n,x=> .n x
 | .v,x=> .v x
 | .env,x=> .env x
 | .lo,x=> .lo x
 | .hd,x=> .hd x
 | .l t,x=> .l t x
 | .tv t,x=> .tv t x
theorem DV.aey {h:HT} {d:DV} {x:h.T} (e:d.as h=some x):DV.of h x=d:=by
 cases h with
 |l t=>
  cases d<;>simp only [DV.as] at e<;>try (cases e;done)
  rename_i u y
  obtain ⟨e1,e2⟩:=cg e
  subst e1
  dsimp only at e2
  subst e2
  rfl
 |tv t=>
  cases d<;>simp only [DV.as] at e<;>try (cases e;done)
  rename_i u y
  obtain ⟨e1,e2⟩:=MN e
  subst e1
  dsimp only at e2
  subst e2
  rfl
 |_=>cases d<;>simp only [DV.as] at e<;>first|(cases e;done)|(cases e;rfl)
@[reducible] def TT:List HT->Type
 | []=>Unit
 | [a]=>a.T
 |a::c::r=>a.T×TT (c::r)
def Se:(ts:List HT)->List DV->Option (TT ts)
 | [],ds=>match ds with| []=>some ()|_=>none
 | [a],ds=>match ds with| [d]=>d.as a|_=>none
 |a::c::r,ds=>match ds with
  |d::q=>match d.as a,Se (c::r) q with|some x,some y=>some (x,y)|_,_=>none
  | []=>none
def LV:(ts:List HT)->TT ts->List DV
 | [],_=> []
 | [a],x=> [DV.of a x]
 |a::c::r,x=>DV.of a x.1::LV (c::r) x.2
theorem Mg: ∀(ts:List HT) (ds:List DV) (x:TT ts),Se ts ds=some x->LV ts x=ds
 | [],ds,x,h=>by
  simp only [Se] at h
  split at h<;>first|rfl|cases h
 | [a],ds,x,h=>by
  simp only [Se] at h
  split at h
  ·simp only [LV,DV.aey h]
  ·cases h
 |a::c::r,ds,x,h=>by
  simp only [Se] at h
  split at h
  ·split at h
   ·rename_i y z h1 h2
    cases h
    simp only [LV,DV.aey h1,Mg _ _ _ h2]
   ·cases h
  ·cases h
def pick:List Nat->List DV->Nat->DV
 |k::r,v::q,j=>bif Nat.beq k j then v else pick r q j
 |_,_,_=> .n 0
def HM (idx:List Nat) (ds:List DV):List DV:=idx.map fun j=>ds.getD j (.n 0)
def agW (idx:List Nat) (vs:List DV) (n:Nat):List DV:=(List.range n).map (pick idx vs)
theorem On (f:Nat->DV): ∀(idx:List Nat) (j:Nat),j∈idx->pick idx (idx.map f) j=f j
  | [],_,h=>by cases h
  | k::r,j,h=>by
    simp only [List.map_cons,pick]
    by_cases e:k=j
    · subst e;simp
    · have:Nat.beq k j=false:=by rw [Nat.beq_eq_false_iff_ne];exact e
      rw [this]
      exact On f r j ((List.mem_cons.1 h).resolve_left fun h=>e h.symm)
where Nat.beq_eq_false_iff_ne {a b:Nat} :Nat.beq a b=false↔a≠b:=by
        rw [<- Bool.not_eq_true,Nat.beq_eq]
theorem WC {idx:List Nat} {ds:List DV} (h: ∀j,j<ds.length->j∈idx):agW idx (HM idx ds) ds.length=ds:=by
 unfold agW HM
 refine List.ext_getElem (by simp) fun i h1 h2=> ?_
 simp only [List.getElem_map,List.getElem_range]
 rw [On _ _ _ (h i h2),List.getD_eq_getElem?_getD,List.getElem?_eq_getElem h2];rfl
inductive PR
 |ext
 |loc (n off:Nat)
 |elem (n:Nat)
 |full (n:Nat)
 |mp (n:Nat)
inductive PC
 |i (k:IntKind)
 |b|s|raw
 |ptr (n off:Nat)
 |lY (n:Nat)
 |sl (n off:Nat)
 |full (n:Nat)
 |cW (n k:Nat)
 |fB (n:Nat)
 |iT (f:FuncId) (nf:Nat) (rs:List PR)
 |HA (n:Nat)
 |mp (n:Nat)
 |mv (f:FuncId) (agg:Bool) (rs:List PR)
inductive PA
 |one (p:PC)
 |agg (l:List PC)
inductive PV
 |d
 |v (a:PA)
 |nC (l:List PA)
inductive PO
 |gone
 |cells (l:List PC) (e:TypeId)
 |row (t:Ty) (rk:Nat)
 |alias (n:Nat) (q:Bool)
 |loop (busy:Bool)
 |cw (n:Nat)
 |hide
 |map (ka va:Bool) (k v:Ty)
 |IP (ka:Bool) (k u:Ty) (c:Nat)
 |set (n:Nat)
 |gv (n c:Nat) (k u:Ty)
 |rc (l:List PC)
 |dp (t:Ty) (c:Nat) (st:Bool)
 |nv (n c q:Nat) (u:Ty)
abbrev qv:=List (Option Src)
def Src.eqb:Src->Src->Bool
 | .same a,.same b=>Nat.beq a b
 | .nil,.nil=>true
 | .cells a b,.cells c d=>Nat.beq a c&&Nat.beq b d
 | .mt a b,.mt c d=>Nat.beq a c&&Nat.beq b d
 |_,_=>false
theorem Src.afA {a b:Src} (h:Src.eqb a b=true):a=b:=by
 cases a<;>cases b<;>simp_all [Src.eqb]
def oP (π:qv) (n:Nat) (s:Src):Option qv:=match π[n]? with
 |some none=>some (π.set n (some s))
 |some (some t)=>bif Src.eqb t s then some π else none
 |none=>none
structure tf (π ij:qv):Prop where
 len:ij.length=π.length
 sub: ∀(n:Nat) (s:Src),π[n]? =some (some s)->ij[n]? =some (some s)
theorem tf.rfl' (π:qv):tf π π:=⟨rfl,fun _ _ h=>h⟩
theorem tf.trans {a b c:qv} (h:tf a b) (k:tf b c):tf a c:=⟨k.len.trans h.len,fun n s e=>k.sub n s (h.sub n s e)⟩
def xC (π:qv) (f:List Src):Prop:= ∀(n:Nat) (s:Src),π[n]? =some (some s)->f[n]? =some s
theorem xC.of {π ij:qv} {f:List Src} (h:xC ij f) (k:tf π ij):xC π f:=fun n s e=>h n s (k.sub n s e)
theorem dD {π ij:qv} {n:Nat} {s:Src} (h:oP π n s=some ij):tf π ij/\ ij[n]? =some (some s):=by
 unfold oP at h
 split at h
 ·rename_i hn
  cases h
  have hl:=(List.getElem?_eq_some_iff.1 hn).1
  refine ⟨⟨by simp,fun m t hm=> ?_⟩,by simp [hl]⟩
  rw [List.getElem?_set]
  split
  ·rename_i e;subst e;rw [hn] at hm;cases hm
  ·exact hm
 ·rename_i t hn
  cases hb:Src.eqb t s with
  |true=>
   rw [hb] at h
   cases h
   exact ⟨.rfl' _,by rw [hn,Src.afA hb]⟩
  |false=>rw [hb] at h;cases h
 ·cases h
theorem gH {π ij:qv} {n:Nat} {s:Src} (h:oP π n s=some ij) {f:List Src} (hf:xC ij f):f[n]? =some s:=hf n s (dD h).2
theorem dB {f:List Src} {n m:Nat} (h:f[n]? =some (.same m)):iL f n=some m:=by unfold iL;rw [h]
def lJ:List PR->List Ref->qv->Option (qv×List DV)
 | [],qs,π=>match qs with| []=>some (π,[])|_=>none
 |p::ps,qs,π=>match qs with
  | []=>none
  |q::qs=>match p,q with
   | .ext,.ext v=>match lJ ps qs π with|some (ij,ds)=>some (ij,.v v::ds)|none=>none
   | .loc n o,.loc m o'=>if o=o' then (match oP π n (.same m) with|some Da=>lJ ps qs Da|none=>none) else none
   | .elem n,.elem m j=>match oP π n (.same m) with
    |some Da=>(match lJ ps qs Da with|some (ij,ds)=>some (ij,.n j::ds)|none=>none)
    |none=>none
   | .full n,.full m=>(match oP π n (.same m) with|some Da=>lJ ps qs Da|none=>none)
   | .mp n,.mp m=>(match oP π n (.same m) with|some Da=>lJ ps qs Da|none=>none)
   |_,_=>none
def fC:List PR->List DV->List Ref×List DV
 | [],r=>([],r)
 | .ext::ps,r=>match r with| .v x::r=>(match fC ps r with|(q,r)=>(.ext x::q,r))|r=>([],r)
 | .loc n o::ps,r=>match fC ps r with|(q,r)=>(.loc n o::q,r)
 | .elem n::ps,r=>match r with| .n j::r=>(match fC ps r with|(q,r)=>(.elem n j::q,r))|r=>([],r)
 | .full n::ps,r=>match fC ps r with|(q,r)=>(.full n::q,r)
 | .mp n::ps,r=>match fC ps r with|(q,r)=>(.mp n::q,r)
theorem fU: ∀(ps:List PR) (qs:List Ref) (π ij:qv) (ds:List DV),lJ ps qs π=some (ij,ds)->
  tf π ij/\ ∃rs,(∀r,fC ps (ds++r)=(rs,r))/\ ∀f,xC ij f->jw f rs=some qs
 | [],qs,π,ij,ds,h=>by
  simp only [lJ] at h
  split at h
  ·cases h;exact ⟨.rfl' _,[],fun _=>rfl,fun _ _=>rfl⟩
  ·cases h
 |p::ps,qs,π,ij,ds,h=>by
  simp only [lJ] at h
  split at h
  ·cases h
  rename_i q qs
  split at h
  ·split at h
   ·rename_i h1
    cases h
    obtain ⟨a,rs,b,c⟩:=fU ps qs _ _ _ h1
    exact ⟨a,.ext _::rs,fun r=>(by simp only [List.cons_append,fC,b r];rfl),fun f hf=>by simp only [jw,oB,c f hf]⟩
   ·cases h
  ·split at h
   ·rename_i ho
    subst ho
    split at h
    ·rename_i hb
     obtain ⟨a,rs,b,c⟩:=fU ps qs _ _ _ h
     exact ⟨(dD hb).1.trans a,.loc _ _::rs,fun r=>(by simp only [fC,b r];rfl),fun f hf=>by simp only [jw,oB,c f hf,dB (gH hb (hf.of a))]⟩
    ·cases h
   ·cases h
  ·split at h
   ·rename_i hb
    split at h
    ·rename_i h1
     cases h
     obtain ⟨a,rs,b,c⟩:=fU ps qs _ _ _ h1
     exact ⟨(dD hb).1.trans a,.elem _ _::rs,fun r=>(by simp only [List.cons_append,fC,b r];rfl),fun f hf=>by simp only [jw,oB,c f hf,dB (gH hb (hf.of a))]⟩
    ·cases h
   ·cases h
  ·split at h
   ·rename_i hb
    obtain ⟨a,rs,b,c⟩:=fU ps qs _ _ _ h
    exact ⟨(dD hb).1.trans a,.full _::rs,fun r=>(by simp only [fC,b r];rfl),fun f hf=>by simp only [jw,oB,c f hf,dB (gH hb (hf.of a))]⟩
   ·cases h
  ·split at h
   ·rename_i hb
    obtain ⟨a,rs,b,c⟩:=fU ps qs _ _ _ h
    exact ⟨(dD hb).1.trans a,.mp _::rs,fun r=>(by simp only [fC,b r];rfl),fun f hf=>by simp only [jw,oB,c f hf,dB (gH hb (hf.of a))]⟩
   ·cases h
  ·cases h
def Uq:Nat->List DV->List Value×List DV
 |0,r=>([],r)
 |n+1,r=>match r with| .v x::r=>(match Uq n r with|(q,r)=>(x::q,r))|r=>([],r)
theorem Kw: ∀(l:List Value) (r:List DV),Uq l.length (l.map .v++r)=(l,r)
 | [],r=>rfl
 |v::l,r=>by simp only [List.length_cons,List.map_cons,List.cons_append,Uq,Kw l r]
def tj (π:qv) (n m:Nat) (ds:List DV):Option (qv×List DV):=match oP π n (.same m) with
 |some ij=>some (ij,ds)
 |none=>none
theorem c7 {π ij:qv} {n m:Nat} {ds ds':List DV} (h:tj π n m ds=some (ij,ds')):tf π ij/\ ds'=ds/\ ∀f,xC ij f->f[n]? =some (.same m):=by
 unfold tj at h
 split at h
 ·rename_i hb
  cases h
  exact ⟨(dD hb).1,rfl,fun f hf=>gH hb hf⟩
 ·cases h
def tD (p:PC) (c:Cell) (π:qv):Option (qv×List DV):=match p with
 | .i k=>match c with| .raw (.int k' n)=>if k=k' then some (π,[.i n]) else none|_=>none
 | .b=>match c with| .raw (.bool x)=>some (π,[.b x])|_=>none
 | .s=>match c with| .raw (.string x)=>some (π,[.s x])|_=>none
 | .raw=>match c with| .raw v=>some (π,[.v v])|_=>none
 | .ptr n o=>match c with| .ptr m o'=>if o=o' then tj π n m [] else none|_=>none
 | .lY n=>match c with| .lY m o=>tj π n m [.n o]|_=>none
 | .sl n o=>match c with| .sl m o' l cp=>if o=o' then tj π n m [.n l,.n cp] else none|_=>none
 | .full n=>match c with
  | .full m=>tj π n m []
  | .raw (.slice none 0 0)=>(match oP π n .nil with|some ij=>some (ij,[])|none=>none)
  | .sl m off 0 0=>(match oP π n (.mt m off) with|some ij=>some (ij,[])|none=>none)
  | .sl m 0 l cp=>if cp=l then (match oP π n (.cells m l) with|some ij=>some (ij,[])|none=>none) else none
  |_=>none
 | .cW n k=>match c with| .cW m j k'=>if k=k' then tj π n m [.n j] else none|_=>none
 | .fB n=>match c with| .fB m j k=>tj π n m [.n j,.n k]|_=>none
 | .iT f nf rs=>match c with
  | .iT (.func g) first cap=>if g=f/\ first.length=nf then (match lJ rs cap π with|some (ij,ds)=>some (ij,first.map .v++ds)|none=>none) else none
  |_=>none
 | .HA n=>match c with| .HA m=>tj π n m []|_=>none
 | .mp n=>match c with| .mp m=>tj π n m []|_=>none
 | .mv f a rs=>match c with| .mv g a' qs=>if g=f/\ a'=a then lJ rs qs π else none|_=>none
def Nb (p:PC) (r:List DV):Cell×List DV:=match p with
 | .i k=>match r with| .i n::r=>(.raw (.int k n),r)|r=>(.raw undef,r)
 | .b=>match r with| .b n::r=>(.raw (.bool n),r)|r=>(.raw undef,r)
 | .s=>match r with| .s n::r=>(.raw (.string n),r)|r=>(.raw undef,r)
 | .raw=>match r with| .v n::r=>(.raw n,r)|r=>(.raw undef,r)
 | .ptr n o=>(.ptr n o,r)
 | .lY n=>match r with| .n o::r=>(.lY n o,r)|r=>(.raw undef,r)
 | .sl n o=>match r with| .n l:: .n c::r=>(.sl n o l c,r)|r=>(.raw undef,r)
 | .full n=>(.full n,r)
 | .cW n k=>match r with| .n j::r=>(.cW n j k,r)|r=>(.raw undef,r)
 | .fB n=>match r with| .n j:: .n k::r=>(.fB n j k,r)|r=>(.raw undef,r)
 | .iT f nf rs=>match Uq nf r with|(fs,r)=>match fC rs r with|(q,r)=>(.iT (.func f) fs q,r)
 | .HA n=>(.HA n,r)
 | .mp n=>(.mp n,r)
 | .mv f a rs=>match fC rs r with|(q,r)=>(.mv f a q,r)
theorem Iy {p:PC} {c:Cell} {π ij:qv} {ds:List DV} (h:tD p c π=some (ij,ds)):
  tf π ij/\ ∃q,(∀r,Nb p (ds++r)=(q,r))/\ ∀f,xC ij f->jn f q=some c:=by
 cases p with
 |i k=>
  simp only [tD] at h
  split at h<;>try (cases h;done)
  split at h<;>try (cases h;done)
  rename_i e;cases h;subst e
  exact ⟨.rfl' _,_,fun r=>rfl,fun f _=>rfl⟩
 |b=>
  simp only [tD] at h
  split at h<;>try (cases h;done)
  cases h
  exact ⟨.rfl' _,_,fun r=>rfl,fun f _=>rfl⟩
 |s=>
  simp only [tD] at h
  split at h<;>try (cases h;done)
  cases h
  exact ⟨.rfl' _,_,fun r=>rfl,fun f _=>rfl⟩
 |raw=>
  simp only [tD] at h
  split at h<;>try (cases h;done)
  cases h
  exact ⟨.rfl' _,_,fun r=>rfl,fun f _=>rfl⟩
 |ptr n o=>
  simp only [tD] at h
  split at h<;>try (cases h;done)
  split at h<;>try (cases h;done)
  rename_i e;subst e
  obtain ⟨a,rfl,b⟩:=c7 h
  exact ⟨a,_,fun r=>rfl,fun f hf=>by simp only [jn,dB (b f hf)]⟩
 |lY n=>
  simp only [tD] at h
  split at h<;>try (cases h;done)
  obtain ⟨a,rfl,b⟩:=c7 h
  exact ⟨a,_,fun r=>rfl,fun f hf=>by simp only [jn,dB (b f hf)]⟩
 |sl n o=>
  simp only [tD] at h
  split at h<;>try (cases h;done)
  split at h<;>try (cases h;done)
  rename_i e;subst e
  obtain ⟨a,rfl,b⟩:=c7 h
  exact ⟨a,_,fun r=>rfl,fun f hf=>by simp only [jn,dB (b f hf)]⟩
 |full n=>
  simp only [tD] at h
  split at h
  ·obtain ⟨a,rfl,b⟩:=c7 h
   exact ⟨a,_,fun r=>rfl,fun f hf=>by simp only [jn,b f hf]⟩
  ·split at h
   ·rename_i hb
    cases h
    exact ⟨(dD hb).1,_,fun r=>rfl,fun f hf=>by simp only [jn,gH hb hf]⟩
   ·cases h
  ·split at h
   ·rename_i hb
    cases h
    exact ⟨(dD hb).1,_,fun r=>rfl,fun f hf=>by simp only [jn,gH hb hf]⟩
   ·cases h
  ·split at h<;>try (cases h;done)
   rename_i e;subst e
   split at h
   ·rename_i hb
    cases h
    exact ⟨(dD hb).1,_,fun r=>rfl,fun f hf=>by simp only [jn,gH hb hf]⟩
   ·cases h
  ·cases h
 |cW n k=>
  simp only [tD] at h
  split at h<;>try (cases h;done)
  split at h<;>try (cases h;done)
  rename_i e;subst e
  obtain ⟨a,rfl,b⟩:=c7 h
  exact ⟨a,_,fun r=>rfl,fun f hf=>by simp only [jn,dB (b f hf)]⟩
 |fB n=>
  simp only [tD] at h
  split at h<;>try (cases h;done)
  obtain ⟨a,rfl,b⟩:=c7 h
  exact ⟨a,_,fun r=>rfl,fun f hf=>by simp only [jn,dB (b f hf)]⟩
 |iT f nf rs=>
  simp only [tD] at h
  split at h<;>try (cases h;done)
  split at h<;>try (cases h;done)
  rename_i e
  obtain ⟨rfl,rfl⟩:=e
  split at h<;>try (cases h;done)
  rename_i hr
  cases h
  obtain ⟨a,q,b,c⟩:=fU _ _ _ _ _ hr
  exact ⟨a,.iT (.func _) _ q,fun r=>(by simp only [Nb,List.append_assoc,Kw,b r];rfl),fun f hf=>by simp only [jn,c f hf]⟩
 |HA n=>
  simp only [tD] at h
  split at h<;>try (cases h;done)
  obtain ⟨a,rfl,b⟩:=c7 h
  exact ⟨a,_,fun r=>rfl,fun f hf=>by simp only [jn,dB (b f hf)]⟩
 |mp n=>
  simp only [tD] at h
  split at h<;>try (cases h;done)
  obtain ⟨a,rfl,b⟩:=c7 h
  exact ⟨a,_,fun r=>rfl,fun f hf=>by simp only [jn,dB (b f hf)]⟩
 |mv f ag rs=>
  simp only [tD] at h
  split at h<;>try (cases h;done)
  split at h<;>try (cases h;done)
  rename_i e
  obtain ⟨rfl,rfl⟩:=e
  obtain ⟨a,q,b,c⟩:=fU _ _ _ _ _ h
  exact ⟨a,.mv _ _ q,fun r=>(by simp only [Nb,b r];rfl),fun f hf=>by simp only [jn,c f hf]⟩
def EH:List PC->List Cell->qv->Option (qv×List DV)
 | [],cs,π=>match cs with| []=>some (π,[])|_=>none
 |p::ps,cs,π=>match cs with
  | []=>none
  |c::cs=>match tD p c π with
   |some (Da,d1)=>(match EH ps cs Da with|some (Uv,d2)=>some (Uv,d1++d2)|none=>none)
   |none=>none
def Bh:List PC->List DV->List Cell×List DV
 | [],r=>([],r)
 |p::ps,r=>match Nb p r with|(c,r)=>match Bh ps r with|(cs,r)=>(c::cs,r)
theorem rG: ∀(ps:List PC) (cs:List Cell) (π ij:qv) (ds:List DV),EH ps cs π=some (ij,ds)->
  tf π ij/\ ∃q,(∀r,Bh ps (ds++r)=(q,r))/\ ∀f,xC ij f->hO f q=some cs
 | [],cs,π,ij,ds,h=>by
  simp only [EH] at h
  split at h
  ·cases h;exact ⟨.rfl' _,[],fun _=>rfl,fun _ _=>rfl⟩
  ·cases h
 |p::ps,cs,π,ij,ds,h=>by
  simp only [EH] at h
  split at h
  ·cases h
  split at h
  ·rename_i h1
   split at h
   ·rename_i h2
    cases h
    obtain ⟨a,q,b,c⟩:=Iy h1
    obtain ⟨a',q',b',c'⟩:=rG ps _ _ _ _ h2
    exact ⟨a.trans a',q::q',fun r=>by simp only [Bh,List.append_assoc,b,b'],fun f hf=>by simp only [hO,c f (hf.of a'),c' f hf]⟩
   ·cases h
  ·cases h
def Yc (p:PA) (a:A0) (π:qv):Option (qv×List DV):=match p with
 | .one p=>match a with| .one c=>tD p c π|_=>none
 | .agg ps=>match a with| .agg cs=>EH ps cs π|_=>none
def Na (p:PA) (r:List DV):A0×List DV:=match p with
 | .one p=>match Nb p r with|(c,r)=>(.one c,r)
 | .agg ps=>match Bh ps r with|(c,r)=>(.agg c,r)
theorem Iw {p:PA} {a:A0} {π ij:qv} {ds:List DV} (h:Yc p a π=some (ij,ds)):
  tf π ij/\ ∃q,(∀r,Na p (ds++r)=(q,r))/\ ∀f,xC ij f->H8 f q=some a:=by
 cases p with
 |one p=>
  simp only [Yc] at h
  split at h<;>try (cases h;done)
  obtain ⟨a,q,b,c⟩:=Iy h
  exact ⟨a,.one q,fun r=>by simp only [Na,b r],fun f hf=>by simp only [H8,c f hf]⟩
 |agg ps=>
  simp only [Yc] at h
  split at h<;>try (cases h;done)
  obtain ⟨a,q,b,c⟩:=rG _ _ _ _ _ h
  exact ⟨a,.agg q,fun r=>by simp only [Na,b r],fun f hf=>by simp only [H8,c f hf]⟩
def MZ:List PA->List A0->qv->Option (qv×List DV)
 | [],cs,π=>match cs with| []=>some (π,[])|_=>none
 |p::ps,cs,π=>match cs with
  | []=>none
  |c::cs=>match Yc p c π with
   |some (Da,d1)=>(match MZ ps cs Da with|some (Uv,d2)=>some (Uv,d1++d2)|none=>none)
   |none=>none
def Lh:List PA->List DV->List A0×List DV
 | [],r=>([],r)
 |p::ps,r=>match Na p r with|(c,r)=>match Lh ps r with|(cs,r)=>(c::cs,r)
theorem EG: ∀(ps:List PA) (cs:List A0) (π ij:qv) (ds:List DV),MZ ps cs π=some (ij,ds)->
  tf π ij/\ ∃q,(∀r,Lh ps (ds++r)=(q,r))/\ ∀f,xC ij f->gy f q=some cs
 | [],cs,π,ij,ds,h=>by
  simp only [MZ] at h
  split at h
  ·cases h;exact ⟨.rfl' _,[],fun _=>rfl,fun _ _=>rfl⟩
  ·cases h
 |p::ps,cs,π,ij,ds,h=>by
  simp only [MZ] at h
  split at h
  ·cases h
  split at h
  ·rename_i h1
   split at h
   ·rename_i h2
    cases h
    obtain ⟨a,q,b,c⟩:=Iw h1
    obtain ⟨a',q',b',c'⟩:=EG ps _ _ _ _ h2
    exact ⟨a.trans a',q::q',fun r=>by simp only [Lh,List.append_assoc,b,b'],fun f hf=>by simp only [gy,c f (hf.of a'),c' f hf]⟩
   ·cases h
  ·cases h
def EI:List PV->List AV->qv->Option (qv×List DV)
 | [],vs,π=>match vs with| []=>some (π,[])|_=>none
 |p::ps,vs,π=>match vs with
  | []=>none
  |x::vs=>match p with
   | .d=>EI ps vs π
   | .v a=>(match x with
    | .v y=>(match Yc a y π with
     |some (Da,d1)=>(match EI ps vs Da with|some (Uv,d2)=>some (Uv,d1++d2)|none=>none)
     |none=>none)
    |_=>none)
   | .nC l=>(match x with
    | .nC m=>(match MZ l m π with
     |some (Da,d1)=>(match EI ps vs Da with|some (Uv,d2)=>some (Uv,d1++d2)|none=>none)
     |none=>none)
    |_=>none)
def tM:List PV->List DV->List AV×List DV
 | [],r=>([],r)
 | .d::ps,r=>match tM ps r with|(q,r)=>(.dead::q,r)
 | .v a::ps,r=>match Na a r with|(x,r)=>match tM ps r with|(q,r)=>(.v x::q,r)
 | .nC l::ps,r=>match Lh l r with|(x,r)=>match tM ps r with|(q,r)=>(.nC x::q,r)
theorem rH: ∀(ps:List PV) (vs:List AV) (π ij:qv) (ds:List DV),EI ps vs π=some (ij,ds)->
  tf π ij/\ ∃q,(∀r,tM ps (ds++r)=(q,r))/\ ∀f,xC ij f->GZ f vs q
 | [],vs,π,ij,ds,h=>by
  simp only [EI] at h
  split at h
  ·cases h;exact ⟨.rfl' _,[],fun _=>rfl,fun _ _=>trivial⟩
  ·cases h
 |p::ps,vs,π,ij,ds,h=>by
  simp only [EI] at h
  split at h
  ·cases h
  rename_i x vs
  cases p with
  |d=>
   obtain ⟨a,q,b,c⟩:=rH ps vs _ _ _ h
   exact ⟨a,.dead::q,fun r=>by simp only [tM,b r],fun f hf=>c f hf⟩
  |v pa=>
   dsimp only at h
   split at h<;>try (cases h;done)
   split at h<;>try (cases h;done)
   rename_i h1
   split at h<;>try (cases h;done)
   rename_i h2
   cases h
   obtain ⟨a,q,b,c⟩:=Iw h1
   obtain ⟨a',q',b',c'⟩:=rH ps _ _ _ _ h2
   exact ⟨a.trans a',.v q::q',fun r=>by simp only [tM,List.append_assoc,b,b'],fun f hf=>⟨by simp only [sv,c f (hf.of a')],c' f hf⟩⟩
  |nC l=>
   dsimp only at h
   split at h<;>try (cases h;done)
   split at h<;>try (cases h;done)
   rename_i h1
   split at h<;>try (cases h;done)
   rename_i h2
   cases h
   obtain ⟨a,q,b,c⟩:=EG _ _ _ _ _ h1
   obtain ⟨a',q',b',c'⟩:=rH ps _ _ _ _ h2
   exact ⟨a.trans a',.nC q::q',fun r=>by simp only [tM,List.append_assoc,b,b'],fun f hf=>⟨by simp only [sv,c f (hf.of a')],c' f hf⟩⟩
def acy (π:qv):Nat->Bool
 |0=>true
 |n+1=>(match π[n]? with|some (some (.same m))=>m==n|_=>false)&&acy π n
theorem IG {π:qv} {f:List Src} (hf:xC π f): ∀ {n:Nat},acy π n=true->Bi f n=true
 |0,_=>rfl
 |n+1,h=>by
  simp only [acy,Bool.and_eq_true] at h
  simp only [Bi,Bool.and_eq_true]
  refine ⟨?_,IG hf h.2⟩
  have h1:=h.1
  split at h1
  ·rename_i m hm
   rw [hf _ _ hm];exact h1
  ·cases h1
def xH (h:List aF) (p:PO) (s:Src) (π:qv):Option (qv×List DV):=match p with
 | .gone=>none
 | .cells ps e=>match s with
  | .same m=>(match ai h m with|some (.cells cs e')=>if e=e' then EH ps cs π else none|_=>none)
  |_=>none
 | .row t rk=>match s with
  | .same m=>(match ai h m with
   |some (.row u l k)=>if k=rk then (match iw u t l with|some l'=>some (π,[.l t l'])|none=>none) else none
   |_=>none)
  | .nil=>if rk=0 then none else some (π,[.l t []])
  | .mt m _=>if rk=3 then (match ai h m with|some (.cells _ _)=>some (π,[.l t []])|_=>none) else none
  | .any _=>none
  | .cells m len=>if (rk=2\/ rk=3)/\ t.flat=true then (match ai h m with
   |some (.cells cs _)=>if cs.length=len*t.size/\ Nat.ble len 1099511627776=true then (match xF (cj (fun _=>none) t) len cs with|some (l,[])=>some (π,[.l t l])|_=>none) else none
   |_=>none) else none
 | .alias n q=>match s with
  | .same m=>(match ai h m with
   |some (.alias n' a b)=>(match q,b with
    |false,none=>tj π n n' [.n a]
    |true,some x=>tj π n n' [.n a,.n x]
    |_,_=>none)
   |_=>none)
  |_=>none
 | .loop busy=>match s with
  | .same m=>(match ai h m with
   |some (.loop r s none)=>(match busy,s with
    |false,.ready=>some (π,[.lo r])
    |true,.busy=>some (π,[.lo r])
    |_,_=>none)
   |_=>none)
  |_=>none
 | .cw k=>match s with
  | .same m=>(match ai h m with|some (.cw ρ k')=>if k=k'/\ acy π k=true then some (π,[.env ρ]) else none|_=>none)
  |_=>none
 | .hide=>match s with
  | .same m=>(match ai h m with|some (.hide S)=>some (π,[.hd S])|_=>none)
  |_=>none
 | .map ka va k v=>match s with
  | .same m=>(match ai h m with
   |some (.map ka' va' k' v' l)=>if ka'=ka/\ va'=va then (match iw (.prod k' v') (.prod k v) l with|some l'=>some (π,[.l (.prod k v) l'])|none=>none) else none
   |_=>none)
  |_=>none
 | .IP ka k u c=>match s with
  | .same m=>(match ai h m with
   |some (.IP ka' k' u' l c' none)=>if ka'=ka then (match iw (.prod k' (.sl u')) (.prod k (.sl u)) l with|some l'=>tj π c c' [.l (.prod k (.sl u)) l']|none=>none) else none
   |_=>none)
  |_=>none
 | .set n=>match s with
  | .same m=>(match ai h m with|some (.set n')=>tj π n n' []|_=>none)
  |_=>none
 | .gv n c k u=>match s with
  | .same m=>(match ai h m with
   |some (.gv n' c' k' u' x l)=>(match Iv k' k x,iw u' u l with
    |some x',some l'=>(match oP π n (.same n') with|some Da=>tj Da c c' [.tv k x',.l u l']|none=>none)
    |_,_=>none)
   |_=>none)
  |_=>none
 | .rc ps=>match s with
  | .same m=>(match ai h m with|some (.rc cs)=>EH ps cs π|_=>none)
  |_=>none
 | .dp t c st=>match s with
  | .same m=>(match ai h m with
   |some (.dp t' l c' st' kn)=>if st'=st then (match iw t' t l with|some l'=>tj π c c' [.l t l',.b kn]|none=>none) else none
   |_=>none)
  |_=>none
 | .nv n c q u=>match s with
  | .same m=>(match ai h m with
   |some (.nv n' c' j q' u')=>if q'=q/\ u'=u then (match oP π n (.same n') with|some Da=>tj Da c c' [.n j]|none=>none) else none
   |_=>none)
  |_=>none
def n9 (p:PO) (r:List DV):aF×List DV:=match p with
 | .gone=>(.gone,r)
 | .cells ps e=>match Bh ps r with|(cs,r)=>(.cells cs e,r)
 | .row t rk=>match r with|d::r=>(match d.as (.l t) with|some l=>(.row t l rk,r)|none=>(.gone,r))|r=>(.gone,r)
 | .alias n false=>match r with| .n a::r=>(.alias n a none,r)|r=>(.gone,r)
 | .alias n true=>match r with| .n a:: .n b::r=>(.alias n a (some b),r)|r=>(.gone,r)
 | .loop busy=>match r with| .lo l::r=>(.loop l (bif busy then .busy else .ready) none,r)|r=>(.gone,r)
 | .cw k=>match r with| .env ρ::r=>(.cw ρ k,r)|r=>(.gone,r)
 | .hide=>match r with| .hd S::r=>(.hide S,r)|r=>(.gone,r)
 | .map ka va k v=>match r with|d::r=>(match d.as (.l (.prod k v)) with|some l=>(.map ka va k v l,r)|none=>(.gone,r))|r=>(.gone,r)
 | .IP ka k u c=>match r with|d::r=>(match d.as (.l (.prod k (.sl u))) with|some l=>(.IP ka k u l c none,r)|none=>(.gone,r))|r=>(.gone,r)
 | .set n=>(.set n,r)
 | .rc ps=>match Bh ps r with|(cs,r)=>(.rc cs,r)
 | .dp t c st=>match r with|d:: .b kn::r=>(match d.as (.l t) with|some l=>(.dp t l c st kn,r)|none=>(.gone,r))|r=>(.gone,r)
 | .nv n c q u=>match r with| .n j::r=>(.nv n c j q u,r)|r=>(.gone,r)
 | .gv n c k u=>match r with|d::e::r=>(match d.as (.tv k),e.as (.l u) with|some x,some l=>(.gv n c k u x l,r)|_,_=>(.gone,r))|r=>(.gone,r)
theorem Qn (t:Ty) (x:t.T):Iv t t x=some x:=by unfold Iv;rw [dif_pos rfl]
theorem nZ (t:Ty) (l:List t.T):iw t t l=some l:=by unfold iw;rw [dif_pos rfl]
theorem vL (t:Ty) (rk:Nat) (l:List t.T) (r:List DV):n9 (.row t rk) (.l t l::r)=(.row t l rk,r):=by
 simp only [n9,DV.as,nZ]
theorem Vi (ka va:Bool) (k v:Ty) (l:List (k.T×v.T)) (r:List DV):n9 (.map ka va k v) (.l (.prod k v) l::r)=(.map ka va k v l,r):=by
 simp only [n9,DV.as,nZ]
theorem Vh (ka:Bool) (k u:Ty) (c:Nat) (l:List (k.T×List u.T)) (r:List DV):n9 (.IP ka k u c) (.l (.prod k (.sl u)) l::r)=(.IP ka k u l c none,r):=by
 simp only [n9,DV.as,nZ]
theorem Yv (n c:Nat) (k u:Ty) (x:k.T) (l:List u.T) (r:List DV):n9 (.gv n c k u) (.tv k x:: .l u l::r)=(.gv n c k u x l,r):=by
 simp only [n9,DV.as,nZ,Qn]
theorem Yu (t:Ty) (c:Nat) (st kn:Bool) (l:List t.T) (r:List DV):n9 (.dp t c st) (.l t l:: .b kn::r)=(.dp t l c st kn,r):=by
 simp only [n9,DV.as,nZ]
theorem UZ {h:List aF} {p:PO} {s:Src} {π ij:qv} {ds:List DV} (hd:xH h p s π=some (ij,ds)):
  tf π ij/\ ∃o,o≠ .gone/\ (∀r,n9 p (ds++r)=(o,r))/\ ∀f,xC ij f->Dk f h s o:=by
 cases p with
 |gone=>cases hd
 |cells ps e=>
  simp only [xH] at hd
  split at hd<;>try (cases hd;done)
  split at hd<;>try (cases hd;done)
  rename_i hl
  split at hd<;>try (cases hd;done)
  rename_i he;subst he
  obtain ⟨a,q,b,c⟩:=rG _ _ _ _ _ hd
  exact ⟨a,.cells q _,by simp,fun r=>(by simp only [n9,b r];rfl),fun f hf=>⟨_,hl,by simp only [fH,c f hf]⟩⟩
 |row t rk=>
  simp only [xH] at hd
  split at hd
  ·split at hd<;>try (cases hd;done)
   rename_i hl
   split at hd<;>try (cases hd;done)
   rename_i hk;subst hk
   split at hd<;>try (cases hd;done)
   rename_i hc
   cases hd
   obtain ⟨e1,e2⟩:=cg hc
   subst e1
   dsimp only at e2
   subst e2
   exact ⟨.rfl' _,_,by simp,fun r=>vL _ _ _ r,fun f hf=>⟨_,hl,rfl⟩⟩
  ·split at hd<;>try (cases hd;done)
   rename_i hk
   cases hd
   exact ⟨.rfl' _,_,by simp,fun r=>vL _ _ _ r,fun f hf=>⟨t,rk,rfl,hk⟩⟩
  ·split at hd<;>try (cases hd;done)
   rename_i hk
   subst hk
   split at hd<;>try (cases hd;done)
   rename_i hl
   cases hd
   exact ⟨.rfl' _,_,by simp,fun r=>vL _ _ _ r,fun f hf=>⟨t,_,_,rfl,hl⟩⟩
  ·cases hd
  ·split at hd<;>try (cases hd;done)
   rename_i hk
   obtain ⟨p9,hfl⟩:=hk
   split at hd<;>try (cases hd;done)
   rename_i hl
   split at hd<;>try (cases hd;done)
   rename_i hlen
   split at hd<;>try (cases hd;done)
   rename_i hN
   cases hd
   exact ⟨.rfl' _,_,by simp,fun r=>vL _ _ _ r,fun f hf=>⟨t,_,_,_,_,rfl,p9,hl,hfl,hN,hlen⟩⟩
 |alias n q=>
  simp only [xH] at hd
  split at hd<;>try (cases hd;done)
  split at hd<;>try (cases hd;done)
  rename_i hl
  split at hd<;>try (cases hd;done)
  ·obtain ⟨a,rfl,b⟩:=c7 hd
   exact ⟨a,_,by simp,fun r=>rfl,fun f hf=>⟨_,hl,by simp only [fH,dB (b f hf)]⟩⟩
  ·obtain ⟨a,rfl,b⟩:=c7 hd
   exact ⟨a,_,by simp,fun r=>rfl,fun f hf=>⟨_,hl,by simp only [fH,dB (b f hf)]⟩⟩
 |loop busy=>
  simp only [xH] at hd
  split at hd<;>try (cases hd;done)
  split at hd<;>try (cases hd;done)
  rename_i hl
  split at hd<;>try (cases hd;done)
  all_goals
   cases hd
   exact ⟨.rfl' _,_,by simp,fun r=>rfl,fun f hf=>⟨_,hl,rfl⟩⟩
 |cw k=>
  simp only [xH] at hd
  split at hd<;>try (cases hd;done)
  split at hd<;>try (cases hd;done)
  rename_i hl
  split at hd<;>try (cases hd;done)
  rename_i hk
  obtain ⟨rfl,hk⟩:=hk
  cases hd
  exact ⟨.rfl' _,_,by simp,fun r=>rfl,fun f hf=>⟨_,hl,by simp only [fH,IG hf hk,if_true]⟩⟩
 |hide=>
  simp only [xH] at hd
  split at hd<;>try (cases hd;done)
  split at hd<;>try (cases hd;done)
  rename_i hl
  cases hd
  exact ⟨.rfl' _,_,by simp,fun r=>rfl,fun f hf=>⟨_,hl,rfl⟩⟩
 |map ka va k v=>
  simp only [xH] at hd
  split at hd<;>try (cases hd;done)
  split at hd<;>try (cases hd;done)
  rename_i hl
  split at hd<;>try (cases hd;done)
  rename_i hk
  obtain ⟨rfl,rfl⟩:=hk
  split at hd<;>try (cases hd;done)
  rename_i hc
  cases hd
  obtain ⟨e1,e2⟩:=cg hc
  cases e1
  dsimp only at e2
  subst e2
  exact ⟨.rfl' _,_,by simp,fun r=>Vi _ _ _ _ _ r,fun f hf=>⟨_,hl,rfl⟩⟩
 |IP ka k u c=>
  simp only [xH] at hd
  split at hd<;>try (cases hd;done)
  split at hd<;>try (cases hd;done)
  rename_i hl
  split at hd<;>try (cases hd;done)
  rename_i hk;subst hk
  split at hd<;>try (cases hd;done)
  rename_i hc
  obtain ⟨e1,e2⟩:=cg hc
  cases e1
  dsimp only at e2
  subst e2
  obtain ⟨a,rfl,b⟩:=c7 hd
  exact ⟨a,_,by simp,fun r=>Vh _ _ _ _ _ r,fun f hf=>⟨_,hl,by simp only [fH,dB (b f hf)]⟩⟩
 |set n=>
  simp only [xH] at hd
  split at hd<;>try (cases hd;done)
  split at hd<;>try (cases hd;done)
  rename_i hl
  obtain ⟨a,rfl,b⟩:=c7 hd
  exact ⟨a,_,by simp,fun r=>rfl,fun f hf=>⟨_,hl,by simp only [fH,dB (b f hf)]⟩⟩
 |gv n c k u=>
  simp only [xH] at hd
  split at hd<;>try (cases hd;done)
  split at hd<;>try (cases hd;done)
  rename_i hl
  split at hd<;>try (cases hd;done)
  rename_i hx hc
  split at hd<;>try (cases hd;done)
  rename_i Da hb
  obtain ⟨e1,e2⟩:=cg hc
  subst e1
  dsimp only at e2
  subst e2
  obtain ⟨e3,e4⟩:=MN hx
  subst e3
  dsimp only at e4
  subst e4
  obtain ⟨a,rfl,b⟩:=c7 hd
  have s1:=(dD hb).1
  exact ⟨s1.trans a,_,by simp,fun r=>Yv _ _ _ _ _ _ r,fun f hf=>⟨_,hl,by simp only [fH,dB (b f hf),dB (gH hb (hf.of a))]⟩⟩
 |rc ps=>
  simp only [xH] at hd
  split at hd<;>try (cases hd;done)
  split at hd<;>try (cases hd;done)
  rename_i hl
  obtain ⟨a,q,b,c⟩:=rG _ _ _ _ _ hd
  exact ⟨a,.rc q,by simp,fun r=>(by simp only [n9,b r]),fun f hf=>⟨_,hl,by simp only [fH,c f hf]⟩⟩
 |dp t c st=>
  simp only [xH] at hd
  split at hd<;>try (cases hd;done)
  split at hd<;>try (cases hd;done)
  rename_i hl
  split at hd<;>try (cases hd;done)
  rename_i hk;subst hk
  split at hd<;>try (cases hd;done)
  rename_i hc
  obtain ⟨e1,e2⟩:=cg hc
  subst e1
  dsimp only at e2
  subst e2
  obtain ⟨a,rfl,b⟩:=c7 hd
  exact ⟨a,_,by simp,fun r=>Yu _ _ _ _ _ r,fun f hf=>⟨_,hl,by simp only [fH,dB (b f hf)]⟩⟩
 |nv n c q u=>
  simp only [xH] at hd
  split at hd<;>try (cases hd;done)
  split at hd<;>try (cases hd;done)
  rename_i hl
  split at hd<;>try (cases hd;done)
  rename_i hk
  obtain ⟨rfl,rfl⟩:=hk
  split at hd<;>try (cases hd;done)
  rename_i Da hb
  obtain ⟨a,rfl,b⟩:=c7 hd
  have s1:=(dD hb).1
  exact ⟨s1.trans a,_,by simp,fun r=>rfl,fun f hf=>⟨_,hl,by simp only [fH,dB (b f hf),dB (gH hb (hf.of a))]⟩⟩
def PO.Zs:PO->Bool
 | .gone=>true
 |_=>false
def IA (h:List aF):List PO->Nat->qv->Option (qv×List DV)
 | [],_,π=>some (π,[])
 |p::ps,n,π=>match p.Zs with
  |true=>IA h ps (n+1) π
  |false=>match π[n]? with
   |some (some s)=>(match xH h p s π with
    |some (Da,d1)=>(match IA h ps (n+1) Da with|some (Uv,d2)=>some (Uv,d1++d2)|none=>none)
    |none=>none)
   |_=>none
def EU:List PO->List DV->List aF×List DV
 | [],r=>([],r)
 |p::ps,r=>match n9 p r with|(c,r)=>match EU ps r with|(cs,r)=>(c::cs,r)
theorem QI {π:List Src} {h:List aF} {s:Src} {o:aF} {ss:List Src} {os:List aF} (ho:o≠ .gone) (h1:Dk π h s o) (h2:sQ π h ss os):sQ π h (s::ss) (o::os):=by
 cases o<;>first|exact absurd rfl ho|exact ⟨h1,h2⟩
theorem xI {h:List aF} : ∀(ps:List PO) (n:Nat) (π ij:qv) (ds:List DV),IA h ps n π=some (ij,ds)->
  tf π ij/\ ∃os,(∀r,EU ps (ds++r)=(os,r))/\ ∀f,xC ij f->f.length=n+ps.length->sQ f h (f.drop n) os
 | [],n,π,ij,ds,hd=>by
  simp only [IA,Option.some.injEq,Prod.mk.injEq] at hd
  obtain ⟨rfl,rfl⟩:=hd
  refine ⟨.rfl' _,[],fun _=>rfl,fun f _ hl=> ?_⟩
  rw [List.drop_eq_nil_of_le (by simp at hl;omega)];trivial
 |p::ps,n,π,ij,ds,hd=>by
  simp only [IA] at hd
  split at hd
  ·rename_i hg
   cases p<;>simp [PO.Zs] at hg
   obtain ⟨a,q,b,c⟩:=xI ps _ _ _ _ hd
   refine ⟨a,.gone::q,fun r=>by simp only [EU,n9,b r],fun f hf hl=> ?_⟩
   rw [List.length_cons] at hl
   rw [List.drop_eq_getElem_cons (by omega)]
   exact c f hf (by omega)
  ·split at hd<;>try (cases hd;done)
   rename_i s hs
   split at hd<;>try (cases hd;done)
   rename_i h1
   split at hd<;>try (cases hd;done)
   rename_i h2
   cases hd
   obtain ⟨a,o,hg,b,c⟩:=UZ h1
   obtain ⟨a',q',b',c'⟩:=xI ps _ _ _ _ h2
   refine ⟨a.trans a',o::q',fun r=>by simp only [EU,List.append_assoc,b,b'],fun f hf hl=> ?_⟩
   rw [List.length_cons] at hl
   have e:=hf.of (a.trans a') n s hs
   rw [List.drop_eq_getElem_cons (by omega)]
   have e2:f[n]'(by omega)=s:=by rw [List.getElem?_eq_getElem (by omega)] at e;exact Option.some.inj e
   rw [e2]
   exact QI hg (c f (hf.of a')) (c' f hf (by omega))
structure sY (gt:List HT) where
 ps:List PV
 po:List PO
 top:Nat:=0
 oK:Option Nat:=none
 gi:List Nat:= []
 ci:List Nat:= []
 vi:List Nat
 ts:List HT
 c:List DV:= []
def agt:aF->Bool
 | .hide _=>true
 |_=>false
def Nc:List aF->Nat->Option Nat
 | [],_=>none
 |o::r,n=>match agt o with|true=>some n|false=>Nc r (n+1)
namespace sY
variable {gt:List HT}
def N (p:sY gt):Nat:=p.gi.length+p.ci.length+p.vi.length
def idx (p:sY gt):List Nat:=p.gi++(p.ci++p.vi)
def abX:List Nat->Nat->Bool
 |_,0=>true
 |l,n+1=>xZ n l&&abX l n
def ok (p:sY gt):Bool:=abX p.idx p.N
def afq (p:sY gt) (h:List aF):Option qv:=
 match p.oK with
 |none=>some ((List.range p.po.length).map fun i=>bif Nat.blt i p.top then some (.same i) else none)
 |some n=>match Nc h 0 with
  |some j=>oP ((List.range p.po.length).map fun i=>bif Nat.blt i p.top then some (.same i) else none) n (.same j)
  |none=>none
def yY (p:sY gt) (ds:List DV):AS:=match tM p.ps ds with
 |(ts,r)=>match EU p.po r with
  |(os,_)=>⟨ts,os⟩
def fill (p:sY gt) (g:TT gt) (s:TT p.ts):AS:=p.yY (agW p.idx (LV gt g++(p.c++LV p.ts s)) p.N)
def fin (π:qv):List Src:=π.map fun o=>match o with|some s=>s|none=> .nil
def read (p:sY gt) (st:AS):Option (TT gt×List DV×TT p.ts):=match p.afq st.heap with
 |none=>none
 |some π0=>match EI p.ps st.tmps π0 with
  |none=>none
  |some (Da,d1)=>match IA st.heap p.po 0 Da with
   |none=>none
   |some (Uv,d2)=>match Nat.beq (d1++d2).length p.N&&eB (vo (fin Uv) (p.yY (d1++d2)).heap) with
    |false=>none
    |true=>match Se gt (HM p.gi (d1++d2)),Se p.ts (HM p.vi (d1++d2)) with
     |some g,some s=>some (g,HM p.ci (d1++d2),s)
     |_,_=>none
theorem Yw (π:qv):xC π (fin π):=fun n s h=>by simp [fin,h]
theorem Ii {l:List Nat} : ∀ {n:Nat},abX l n=true-> ∀j,j<n->j∈l
  |0,_,j,h=>by omega
  | n+1,h,j,hj=>by
    simp only [abX,Bool.and_eq_true] at h
    rcases Nat.lt_or_ge j n with h1|h1
    · exact Ii h.2 j h1
    · have:j=n:=by omega
      subst this;exact N8 h.1
where N8 {x:Nat} : ∀ {l:List Nat},xZ x l=true->x∈l
        | [],h=>by cases h
        | y::r,h=>by
          simp only [xZ,Bool.or_eq_true] at h
          rcases h with h|h
          · simp [Nat.eq_of_beq_eq_true h]
          · exact List.mem_cons_of_mem _ (N8 h)
theorem XS {p:sY gt} {h:List aF} {π:qv} (hb:p.afq h=some π):π.length=p.po.length:=by
 unfold afq at hb
 split at hb
 ·cases hb;simp
 ·split at hb
  ·rw [(dD hb).1.len];simp
  ·cases hb
theorem L3 {p:sY gt} (hp:p.ok=true) {st:AS} {g:TT gt} {c:List DV} {s:TT p.ts} (h:p.read st=some (g,c,s)) (hc:c=p.c):rq st (p.fill g s):=by
 unfold read at h
 split at h<;>try (cases h;done)
 rename_i π0 h0
 split at h<;>try (cases h;done)
 rename_i Da d1 h1
 split at h<;>try (cases h;done)
 rename_i Uv d2 h2
 split at h<;>try (cases h;done)
 rename_i hn
 simp only [Bool.and_eq_true] at hn
 split at h<;>try (cases h;done)
 rename_i g' s' hg hs
 cases h
 have hlen:(d1++d2).length=p.N:=Nat.eq_of_beq_eq_true hn.1
 have key:p.fill g s=p.yY (d1++d2):=by
  unfold fill
  rw [Mg _ _ _ hg,Mg _ _ _ hs,<- hc]
  have:HM p.gi (d1++d2)++(HM p.ci (d1++d2)++HM p.vi (d1++d2))=HM p.idx (d1++d2):=by simp [HM,idx]
  rw [this,<- hlen,WC fun j hj=>Ii hp j (by omega)]
 rw [key]
 obtain ⟨a,q,b,t⟩:=rH _ _ _ _ _ h1
 obtain ⟨a',q',b',t'⟩:=xI _ _ _ _ _ h2
 have b'':=b' []
 rw [List.append_nil] at b''
 have e:p.yY (d1++d2)=⟨q,q'⟩:=by simp only [yY,b d2,b'']
 refine ⟨fin Uv,?_,?_,?_⟩
 ·rw [e];exact t _ ((Yw _).of a')
 ·rw [e]
  have:=t' (fin Uv) (Yw _) (by simp [fin,a'.len,a.len,XS h0])
  rwa [List.drop_zero] at this
 ·exact hn.2
end sY
end Go.Ev
