/- States as patterns: what is read out of a state, and that the state knows no less than the pattern with these values. -/
import Derived.Test.YtngdehlpoomaiaaGreatEvP
noncomputable section
set_option linter.unusedSectionVars false
set_option linter.unusedVariables false
set_option linter.unusedSimpArgs false
namespace Go.Ev
inductive HT
 |i|b|s|n|v|env|lo|hd
 |l (t:Ty)
 |tv (t:Ty)
@[reducible] def HT.T:HT->Type
 | .i=>Int
 | .b=>Bool
 | .s=>ByteArray
 | .n=>Nat
 | .v=>Value
 | .env=>Env
 | .lo=>Loop
 | .hd=>Nat->Prop
 | .l t=>List t.T
 | .tv t=>t.T
inductive DV
 |i (x:Int)|b (x:Bool)|s (x:ByteArray)|n (x:Nat)|v (x:Value)|env (x:Env)|lo (x:Loop)|hd (x:Nat->Prop)
 |l (t:Ty) (x:List t.T)
 |tv (t:Ty) (x:t.T)
def O7 (t u:Ty) (x:t.T):Option u.T:=if h:t=u then some (h▸x) else none
theorem U5 {u' u:Ty} {x:u'.T} {y:u.T} (h:O7 u' u x=some y): ∃e:u'=u,e▸x=y:=by
 unfold O7 at h
 split at h
 ·rename_i e;cases h;exact ⟨e,rfl⟩
 ·cases h
def DV.as:(h:HT)->DV->Option h.T
 | .i,d=>match d with| .i x=>some x|_=>none
 | .b,d=>match d with| .b x=>some x|_=>none
 | .s,d=>match d with| .s x=>some x|_=>none
 | .n,d=>match d with| .n x=>some x|_=>none
 | .v,d=>match d with| .v x=>some x|_=>none
 | .env,d=>match d with| .env x=>some x|_=>none
 | .lo,d=>match d with| .lo x=>some x|_=>none
 | .hd,d=>match d with| .hd x=>some x|_=>none
 | .l t,d=>match d with| .l u x=>jm u t x|_=>none
 | .tv t,d=>match d with| .tv u x=>O7 u t x|_=>none
def DV.of:(h:HT)->h.T->DV
 | .i,x=> .i x
 | .b,x=> .b x
 | .s,x=> .s x
 | .n,x=> .n x
 | .v,x=> .v x
 | .env,x=> .env x
 | .lo,x=> .lo x
 | .hd,x=> .hd x
 | .l t,x=> .l t x
 | .tv t,x=> .tv t x
theorem DV.an6 {h:HT} {d:DV} {x:h.T} (e:d.as h=some x):DV.of h x=d:=by
 cases h with
 |l t=>
  cases d<;>simp only [DV.as] at e<;>try (cases e;done)
  rename_i u y
  obtain ⟨e1,e2⟩:=cr e
  subst e1
  dsimp only at e2
  subst e2
  rfl
 |tv t=>
  cases d<;>simp only [DV.as] at e<;>try (cases e;done)
  rename_i u y
  obtain ⟨e1,e2⟩:=U5 e
  subst e1
  dsimp only at e2
  subst e2
  rfl
 |_=>cases d<;>simp only [DV.as] at e<;>first|(cases e;done)|(cases e;rfl)
@[reducible] def TT:List HT->Type
 | []=>Unit
 | [a]=>a.T
 |a::c::r=>a.T×TT (c::r)
def abg:(ts:List HT)->List DV->Option (TT ts)
 | [],ds=>match ds with| []=>some ()|_=>none
 | [a],ds=>match ds with| [d]=>d.as a|_=>none
 |a::c::r,ds=>match ds with
  |d::q=>match d.as a,abg (c::r) q with|some x,some y=>some (x,y)|_,_=>none
  | []=>none
def Ov:(ts:List HT)->TT ts->List DV
 | [],_=> []
 | [a],x=> [DV.of a x]
 |a::c::r,x=>DV.of a x.1::Ov (c::r) x.2
theorem Uh: ∀(ts:List HT) (ds:List DV) (x:TT ts),abg ts ds=some x->Ov ts x=ds
 | [],ds,x,h=>by
  simp only [abg] at h
  split at h<;>first|rfl|cases h
 | [a],ds,x,h=>by
  simp only [abg] at h
  split at h
  ·simp only [Ov,DV.an6 h]
  ·cases h
 |a::c::r,ds,x,h=>by
  simp only [abg] at h
  split at h
  ·split at h
   ·rename_i y z h1 h2
    cases h
    simp only [Ov,DV.an6 h1,Uh _ _ _ h2]
   ·cases h
  ·cases h
def pick:List Nat->List DV->Nat->DV
 |k::r,v::q,j=>bif Nat.beq k j then v else pick r q j
 |_,_,_=> .n 0
def Oi (idx:List Nat) (ds:List DV):List DV:=idx.map fun j=>ds.getD j (.n 0)
def aqu (idx:List Nat) (vs:List DV) (n:Nat):List DV:=(List.range n).map (pick idx vs)
theorem Wu (f:Nat->DV): ∀(idx:List Nat) (j:Nat),j∈idx->pick idx (idx.map f) j=f j
  | [],_,h=>by cases h
  | k::r,j,h=>by
    simp only [List.map_cons,pick]
    by_cases e:k=j
    · subst e;simp
    · have:Nat.beq k j=false:=by rw [Nat.beq_eq_false_iff_ne];exact e
      rw [this]
      exact Wu f r j ((List.mem_cons.1 h).resolve_left fun h=>e h.symm)
where Nat.beq_eq_false_iff_ne {a b:Nat} :Nat.beq a b=false↔a≠b:=by
        rw [<- Bool.not_eq_true,Nat.beq_eq]
theorem afP {idx:List Nat} {ds:List DV} (h: ∀j,j<ds.length->j∈idx):aqu idx (Oi idx ds) ds.length=ds:=by
 unfold aqu Oi
 refine List.ext_getElem (by simp) fun i h1 h2=> ?_
 simp only [List.getElem_map,List.getElem_range]
 rw [Wu _ _ _ (h i h2),List.getD_eq_getElem?_getD,List.getElem?_eq_getElem h2];rfl
inductive PR
 |ext
 |loc (n off:Nat)
 |elem (n:Nat)
 |full (n:Nat)
 |mp (n:Nat)
inductive PC
 |i (k:IntKind)
 |b|s|raw
 |ptr (n off:Nat)
 |nW (n:Nat)
 |sl (n off:Nat)
 |full (n:Nat)
 |c9 (n k:Nat)
 |fY (n:Nat)
 |jO (f:FuncId) (nf:Nat) (rs:List PR)
 |N8 (n:Nat)
 |mp (n:Nat)
 |mv (f:FuncId) (agg:Bool) (rs:List PR)
inductive PA
 |one (p:PC)
 |agg (l:List PC)
inductive PV
 |d
 |v (a:PA)
 |pT (l:List PA)
inductive PO
 |gone
 |cells (l:List PC) (e:TypeId)
 |row (t:Ty) (rk:Nat)
 |alias (n:Nat) (q:Bool)
 |loop (busy:Bool)
 |cg (n:Nat)
 |hide
 |map (ka va:Bool) (k v:Ty)
 |Pp (ka:Bool) (k u:Ty) (c:Nat)
 |set (n:Nat)
 |gv (n c:Nat) (k u:Ty)
 |rc (l:List PC)
 |dp (t:Ty) (c:Nat) (st:Bool)
 |nv (n c q:Nat) (u:Ty)
abbrev tx:=List (Option Src)
def Src.eqb:Src->Src->Bool
 | .same a,.same b=>Nat.beq a b
 | .nil,.nil=>true
 | .cells a b,.cells c d=>Nat.beq a c&&Nat.beq b d
 | .mt a b,.mt c d=>Nat.beq a c&&Nat.beq b d
 |_,_=>false
theorem Src.ao7 {a b:Src} (h:Src.eqb a b=true):a=b:=by
 cases a<;>cases b<;>simp_all [Src.eqb]
def rD (π:tx) (n:Nat) (s:Src):Option tx:=match π[n]? with
 |some none=>some (π.set n (some s))
 |some (some t)=>bif Src.eqb t s then some π else none
 |none=>none
structure xb (π ji:tx):Prop where
 len:ji.length=π.length
 sub: ∀(n:Nat) (s:Src),π[n]? =some (some s)->ji[n]? =some (some s)
theorem xb.rfl' (π:tx):xb π π:=⟨rfl,fun _ _ h=>h⟩
theorem xb.trans {a b c:tx} (h:xb a b) (k:xb b c):xb a c:=⟨k.len.trans h.len,fun n s e=>k.sub n s (h.sub n s e)⟩
def BM (π:tx) (f:List Src):Prop:= ∀(n:Nat) (s:Src),π[n]? =some (some s)->f[n]? =some s
theorem BM.of {π ji:tx} {f:List Src} (h:BM ji f) (k:xb π ji):BM π f:=fun n s e=>h n s (k.sub n s e)
theorem dM {π ji:tx} {n:Nat} {s:Src} (h:rD π n s=some ji):xb π ji/\ ji[n]? =some (some s):=by
 unfold rD at h
 split at h
 ·rename_i hn
  cases h
  have hl:=(List.getElem?_eq_some_iff.1 hn).1
  refine ⟨⟨by simp,fun m t hm=> ?_⟩,by simp [hl]⟩
  rw [List.getElem?_set]
  split
  ·rename_i e;subst e;rw [hn] at hm;cases hm
  ·exact hm
 ·rename_i t hn
  cases hb:Src.eqb t s with
  |true=>
   rw [hb] at h
   cases h
   exact ⟨.rfl' _,by rw [hn,Src.ao7 hb]⟩
  |false=>rw [hb] at h;cases h
 ·cases h
theorem iN {π ji:tx} {n:Nat} {s:Src} (h:rD π n s=some ji) {f:List Src} (hf:BM ji f):f[n]? =some s:=hf n s (dM h).2
theorem dL {f:List Src} {n m:Nat} (h:f[n]? =some (.same m)):jG f n=some m:=by unfold jG;rw [h]
def nu:List PR->List Ref->tx->Option (tx×List DV)
 | [],qs,π=>match qs with| []=>some (π,[])|_=>none
 |p::ps,qs,π=>match qs with
  | []=>none
  |q::qs=>match p,q with
   | .ext,.ext v=>match nu ps qs π with|some (ji,ds)=>some (ji,.v v::ds)|none=>none
   | .loc n o,.loc m o'=>if o=o' then (match rD π n (.same m) with|some Jc=>nu ps qs Jc|none=>none) else none
   | .elem n,.elem m j=>match rD π n (.same m) with
    |some Jc=>(match nu ps qs Jc with|some (ji,ds)=>some (ji,.n j::ds)|none=>none)
    |none=>none
   | .full n,.full m=>(match rD π n (.same m) with|some Jc=>nu ps qs Jc|none=>none)
   | .mp n,.mp m=>(match rD π n (.same m) with|some Jc=>nu ps qs Jc|none=>none)
   |_,_=>none
def fZ:List PR->List DV->List Ref×List DV
 | [],r=>([],r)
 | .ext::ps,r=>match r with| .v x::r=>(match fZ ps r with|(q,r)=>(.ext x::q,r))|r=>([],r)
 | .loc n o::ps,r=>match fZ ps r with|(q,r)=>(.loc n o::q,r)
 | .elem n::ps,r=>match r with| .n j::r=>(match fZ ps r with|(q,r)=>(.elem n j::q,r))|r=>([],r)
 | .full n::ps,r=>match fZ ps r with|(q,r)=>(.full n::q,r)
 | .mp n::ps,r=>match fZ ps r with|(q,r)=>(.mp n::q,r)
theorem gU: ∀(ps:List PR) (qs:List Ref) (π ji:tx) (ds:List DV),nu ps qs π=some (ji,ds)->
  xb π ji/\ ∃rs,(∀r,fZ ps (ds++r)=(rs,r))/\ ∀f,BM ji f->kH f rs=some qs
 | [],qs,π,ji,ds,h=>by
  simp only [nu] at h
  split at h
  ·cases h;exact ⟨.rfl' _,[],fun _=>rfl,fun _ _=>rfl⟩
  ·cases h
 |p::ps,qs,π,ji,ds,h=>by
  simp only [nu] at h
  split at h
  ·cases h
  rename_i q qs
  split at h
  ·split at h
   ·rename_i h1
    cases h
    obtain ⟨a,rs,b,c⟩:=gU ps qs _ _ _ h1
    exact ⟨a,.ext _::rs,fun r=>(by simp only [List.cons_append,fZ,b r];rfl),fun f hf=>by simp only [kH,qW,c f hf]⟩
   ·cases h
  ·split at h
   ·rename_i ho
    subst ho
    split at h
    ·rename_i hb
     obtain ⟨a,rs,b,c⟩:=gU ps qs _ _ _ h
     exact ⟨(dM hb).1.trans a,.loc _ _::rs,fun r=>(by simp only [fZ,b r];rfl),fun f hf=>by simp only [kH,qW,c f hf,dL (iN hb (hf.of a))]⟩
    ·cases h
   ·cases h
  ·split at h
   ·rename_i hb
    split at h
    ·rename_i h1
     cases h
     obtain ⟨a,rs,b,c⟩:=gU ps qs _ _ _ h1
     exact ⟨(dM hb).1.trans a,.elem _ _::rs,fun r=>(by simp only [List.cons_append,fZ,b r];rfl),fun f hf=>by simp only [kH,qW,c f hf,dL (iN hb (hf.of a))]⟩
    ·cases h
   ·cases h
  ·split at h
   ·rename_i hb
    obtain ⟨a,rs,b,c⟩:=gU ps qs _ _ _ h
    exact ⟨(dM hb).1.trans a,.full _::rs,fun r=>(by simp only [fZ,b r];rfl),fun f hf=>by simp only [kH,qW,c f hf,dL (iN hb (hf.of a))]⟩
   ·cases h
  ·split at h
   ·rename_i hb
    obtain ⟨a,rs,b,c⟩:=gU ps qs _ _ _ h
    exact ⟨(dM hb).1.trans a,.mp _::rs,fun r=>(by simp only [fZ,b r];rfl),fun f hf=>by simp only [kH,qW,c f hf,dL (iN hb (hf.of a))]⟩
   ·cases h
  ·cases h
def adt:Nat->List DV->List Value×List DV
 |0,r=>([],r)
 |n+1,r=>match r with| .v x::r=>(match adt n r with|(q,r)=>(x::q,r))|r=>([],r)
theorem RI: ∀(l:List Value) (r:List DV),adt l.length (l.map .v++r)=(l,r)
 | [],r=>rfl
 |v::l,r=>by simp only [List.length_cons,List.map_cons,List.cons_append,adt,RI l r]
def xh (π:tx) (n m:Nat) (ds:List DV):Option (tx×List DV):=match rD π n (.same m) with
 |some ji=>some (ji,ds)
 |none=>none
theorem dj {π ji:tx} {n m:Nat} {ds ds':List DV} (h:xh π n m ds=some (ji,ds')):xb π ji/\ ds'=ds/\ ∀f,BM ji f->f[n]? =some (.same m):=by
 unfold xh at h
 split at h
 ·rename_i hb
  cases h
  exact ⟨(dM hb).1,rfl,fun f hf=>iN hb hf⟩
 ·cases h
def xo (p:PC) (c:Cell) (π:tx):Option (tx×List DV):=match p with
 | .i k=>match c with| .raw (.int k' n)=>if k=k' then some (π,[.i n]) else none|_=>none
 | .b=>match c with| .raw (.bool x)=>some (π,[.b x])|_=>none
 | .s=>match c with| .raw (.string x)=>some (π,[.s x])|_=>none
 | .raw=>match c with| .raw v=>some (π,[.v v])|_=>none
 | .ptr n o=>match c with| .ptr m o'=>if o=o' then xh π n m [] else none|_=>none
 | .nW n=>match c with| .nW m o=>xh π n m [.n o]|_=>none
 | .sl n o=>match c with| .sl m o' l cp=>if o=o' then xh π n m [.n l,.n cp] else none|_=>none
 | .full n=>match c with
  | .full m=>xh π n m []
  | .raw (.slice none 0 0)=>(match rD π n .nil with|some ji=>some (ji,[])|none=>none)
  | .sl m off 0 0=>(match rD π n (.mt m off) with|some ji=>some (ji,[])|none=>none)
  | .sl m 0 l cp=>if cp=l then (match rD π n (.cells m l) with|some ji=>some (ji,[])|none=>none) else none
  |_=>none
 | .c9 n k=>match c with| .c9 m j k'=>if k=k' then xh π n m [.n j] else none|_=>none
 | .fY n=>match c with| .fY m j k=>xh π n m [.n j,.n k]|_=>none
 | .jO f nf rs=>match c with
  | .jO (.func g) first cap=>if g=f/\ first.length=nf then (match nu rs cap π with|some (ji,ds)=>some (ji,first.map .v++ds)|none=>none) else none
  |_=>none
 | .N8 n=>match c with| .N8 m=>xh π n m []|_=>none
 | .mp n=>match c with| .mp m=>xh π n m []|_=>none
 | .mv f a rs=>match c with| .mv g a' qs=>if g=f/\ a'=a then nu rs qs π else none|_=>none
def Vt (p:PC) (r:List DV):Cell×List DV:=match p with
 | .i k=>match r with| .i n::r=>(.raw (.int k n),r)|r=>(.raw undef,r)
 | .b=>match r with| .b n::r=>(.raw (.bool n),r)|r=>(.raw undef,r)
 | .s=>match r with| .s n::r=>(.raw (.string n),r)|r=>(.raw undef,r)
 | .raw=>match r with| .v n::r=>(.raw n,r)|r=>(.raw undef,r)
 | .ptr n o=>(.ptr n o,r)
 | .nW n=>match r with| .n o::r=>(.nW n o,r)|r=>(.raw undef,r)
 | .sl n o=>match r with| .n l:: .n c::r=>(.sl n o l c,r)|r=>(.raw undef,r)
 | .full n=>(.full n,r)
 | .c9 n k=>match r with| .n j::r=>(.c9 n j k,r)|r=>(.raw undef,r)
 | .fY n=>match r with| .n j:: .n k::r=>(.fY n j k,r)|r=>(.raw undef,r)
 | .jO f nf rs=>match adt nf r with|(fs,r)=>match fZ rs r with|(q,r)=>(.jO (.func f) fs q,r)
 | .N8 n=>(.N8 n,r)
 | .mp n=>(.mp n,r)
 | .mv f a rs=>match fZ rs r with|(q,r)=>(.mv f a q,r)
theorem O9 {p:PC} {c:Cell} {π ji:tx} {ds:List DV} (h:xo p c π=some (ji,ds)):
  xb π ji/\ ∃q,(∀r,Vt p (ds++r)=(q,r))/\ ∀f,BM ji f->ko f q=some c:=by
 cases p with
 |i k=>
  simp only [xo] at h
  split at h<;>try (cases h;done)
  split at h<;>try (cases h;done)
  rename_i e;cases h;subst e
  exact ⟨.rfl' _,_,fun r=>rfl,fun f _=>rfl⟩
 |b=>
  simp only [xo] at h
  split at h<;>try (cases h;done)
  cases h
  exact ⟨.rfl' _,_,fun r=>rfl,fun f _=>rfl⟩
 |s=>
  simp only [xo] at h
  split at h<;>try (cases h;done)
  cases h
  exact ⟨.rfl' _,_,fun r=>rfl,fun f _=>rfl⟩
 |raw=>
  simp only [xo] at h
  split at h<;>try (cases h;done)
  cases h
  exact ⟨.rfl' _,_,fun r=>rfl,fun f _=>rfl⟩
 |ptr n o=>
  simp only [xo] at h
  split at h<;>try (cases h;done)
  split at h<;>try (cases h;done)
  rename_i e;subst e
  obtain ⟨a,rfl,b⟩:=dj h
  exact ⟨a,_,fun r=>rfl,fun f hf=>by simp only [ko,dL (b f hf)]⟩
 |nW n=>
  simp only [xo] at h
  split at h<;>try (cases h;done)
  obtain ⟨a,rfl,b⟩:=dj h
  exact ⟨a,_,fun r=>rfl,fun f hf=>by simp only [ko,dL (b f hf)]⟩
 |sl n o=>
  simp only [xo] at h
  split at h<;>try (cases h;done)
  split at h<;>try (cases h;done)
  rename_i e;subst e
  obtain ⟨a,rfl,b⟩:=dj h
  exact ⟨a,_,fun r=>rfl,fun f hf=>by simp only [ko,dL (b f hf)]⟩
 |full n=>
  simp only [xo] at h
  split at h
  ·obtain ⟨a,rfl,b⟩:=dj h
   exact ⟨a,_,fun r=>rfl,fun f hf=>by simp only [ko,b f hf]⟩
  ·split at h
   ·rename_i hb
    cases h
    exact ⟨(dM hb).1,_,fun r=>rfl,fun f hf=>by simp only [ko,iN hb hf]⟩
   ·cases h
  ·split at h
   ·rename_i hb
    cases h
    exact ⟨(dM hb).1,_,fun r=>rfl,fun f hf=>by simp only [ko,iN hb hf]⟩
   ·cases h
  ·split at h<;>try (cases h;done)
   rename_i e;subst e
   split at h
   ·rename_i hb
    cases h
    exact ⟨(dM hb).1,_,fun r=>rfl,fun f hf=>by simp only [ko,iN hb hf]⟩
   ·cases h
  ·cases h
 |c9 n k=>
  simp only [xo] at h
  split at h<;>try (cases h;done)
  split at h<;>try (cases h;done)
  rename_i e;subst e
  obtain ⟨a,rfl,b⟩:=dj h
  exact ⟨a,_,fun r=>rfl,fun f hf=>by simp only [ko,dL (b f hf)]⟩
 |fY n=>
  simp only [xo] at h
  split at h<;>try (cases h;done)
  obtain ⟨a,rfl,b⟩:=dj h
  exact ⟨a,_,fun r=>rfl,fun f hf=>by simp only [ko,dL (b f hf)]⟩
 |jO f nf rs=>
  simp only [xo] at h
  split at h<;>try (cases h;done)
  split at h<;>try (cases h;done)
  rename_i e
  obtain ⟨rfl,rfl⟩:=e
  split at h<;>try (cases h;done)
  rename_i hr
  cases h
  obtain ⟨a,q,b,c⟩:=gU _ _ _ _ _ hr
  exact ⟨a,.jO (.func _) _ q,fun r=>(by simp only [Vt,List.append_assoc,RI,b r];rfl),fun f hf=>by simp only [ko,c f hf]⟩
 |N8 n=>
  simp only [xo] at h
  split at h<;>try (cases h;done)
  obtain ⟨a,rfl,b⟩:=dj h
  exact ⟨a,_,fun r=>rfl,fun f hf=>by simp only [ko,dL (b f hf)]⟩
 |mp n=>
  simp only [xo] at h
  split at h<;>try (cases h;done)
  obtain ⟨a,rfl,b⟩:=dj h
  exact ⟨a,_,fun r=>rfl,fun f hf=>by simp only [ko,dL (b f hf)]⟩
 |mv f ag rs=>
  simp only [xo] at h
  split at h<;>try (cases h;done)
  split at h<;>try (cases h;done)
  rename_i e
  obtain ⟨rfl,rfl⟩:=e
  obtain ⟨a,q,b,c⟩:=gU _ _ _ _ _ h
  exact ⟨a,.mv _ _ q,fun r=>(by simp only [Vt,b r];rfl),fun f hf=>by simp only [ko,c f hf]⟩
def KZ:List PC->List Cell->tx->Option (tx×List DV)
 | [],cs,π=>match cs with| []=>some (π,[])|_=>none
 |p::ps,cs,π=>match cs with
  | []=>none
  |c::cs=>match xo p c π with
   |some (Jc,d1)=>(match KZ ps cs Jc with|some (π2,d2)=>some (π2,d1++d2)|none=>none)
   |none=>none
def F8:List PC->List DV->List Cell×List DV
 | [],r=>([],r)
 |p::ps,r=>match Vt p r with|(c,r)=>match F8 ps r with|(cs,r)=>(c::cs,r)
theorem u5: ∀(ps:List PC) (cs:List Cell) (π ji:tx) (ds:List DV),KZ ps cs π=some (ji,ds)->
  xb π ji/\ ∃q,(∀r,F8 ps (ds++r)=(q,r))/\ ∀f,BM ji f->je f q=some cs
 | [],cs,π,ji,ds,h=>by
  simp only [KZ] at h
  split at h
  ·cases h;exact ⟨.rfl' _,[],fun _=>rfl,fun _ _=>rfl⟩
  ·cases h
 |p::ps,cs,π,ji,ds,h=>by
  simp only [KZ] at h
  split at h
  ·cases h
  split at h
  ·rename_i h1
   split at h
   ·rename_i h2
    cases h
    obtain ⟨a,q,b,c⟩:=O9 h1
    obtain ⟨a',q',b',c'⟩:=u5 ps _ _ _ _ h2
    exact ⟨a.trans a',q::q',fun r=>by simp only [F8,List.append_assoc,b,b'],fun f hf=>by simp only [je,c f (hf.of a'),c' f hf]⟩
   ·cases h
  ·cases h
def ahj (p:PA) (a:A0) (π:tx):Option (tx×List DV):=match p with
 | .one p=>match a with| .one c=>xo p c π|_=>none
 | .agg ps=>match a with| .agg cs=>KZ ps cs π|_=>none
def Vs (p:PA) (r:List DV):A0×List DV:=match p with
 | .one p=>match Vt p r with|(c,r)=>(.one c,r)
 | .agg ps=>match F8 ps r with|(c,r)=>(.agg c,r)
theorem O8 {p:PA} {a:A0} {π ji:tx} {ds:List DV} (h:ahj p a π=some (ji,ds)):
  xb π ji/\ ∃q,(∀r,Vs p (ds++r)=(q,r))/\ ∀f,BM ji f->OM f q=some a:=by
 cases p with
 |one p=>
  simp only [ahj] at h
  split at h<;>try (cases h;done)
  obtain ⟨a,q,b,c⟩:=O9 h
  exact ⟨a,.one q,fun r=>by simp only [Vs,b r],fun f hf=>by simp only [OM,c f hf]⟩
 |agg ps=>
  simp only [ahj] at h
  split at h<;>try (cases h;done)
  obtain ⟨a,q,b,c⟩:=u5 _ _ _ _ _ h
  exact ⟨a,.agg q,fun r=>by simp only [Vs,b r],fun f hf=>by simp only [OM,c f hf]⟩
def Vi:List PA->List A0->tx->Option (tx×List DV)
 | [],cs,π=>match cs with| []=>some (π,[])|_=>none
 |p::ps,cs,π=>match cs with
  | []=>none
  |c::cs=>match ahj p c π with
   |some (Jc,d1)=>(match Vi ps cs Jc with|some (π2,d2)=>some (π2,d1++d2)|none=>none)
   |none=>none
def SA:List PA->List DV->List A0×List DV
 | [],r=>([],r)
 |p::ps,r=>match Vs p r with|(c,r)=>match SA ps r with|(cs,r)=>(c::cs,r)
theorem KY: ∀(ps:List PA) (cs:List A0) (π ji:tx) (ds:List DV),Vi ps cs π=some (ji,ds)->
  xb π ji/\ ∃q,(∀r,SA ps (ds++r)=(q,r))/\ ∀f,BM ji f->iI f q=some cs
 | [],cs,π,ji,ds,h=>by
  simp only [Vi] at h
  split at h
  ·cases h;exact ⟨.rfl' _,[],fun _=>rfl,fun _ _=>rfl⟩
  ·cases h
 |p::ps,cs,π,ji,ds,h=>by
  simp only [Vi] at h
  split at h
  ·cases h
  split at h
  ·rename_i h1
   split at h
   ·rename_i h2
    cases h
    obtain ⟨a,q,b,c⟩:=O8 h1
    obtain ⟨a',q',b',c'⟩:=KY ps _ _ _ _ h2
    exact ⟨a.trans a',q::q',fun r=>by simp only [SA,List.append_assoc,b,b'],fun f hf=>by simp only [iI,c f (hf.of a'),c' f hf]⟩
   ·cases h
  ·cases h
def K0:List PV->List AV->tx->Option (tx×List DV)
 | [],vs,π=>match vs with| []=>some (π,[])|_=>none
 |p::ps,vs,π=>match vs with
  | []=>none
  |x::vs=>match p with
   | .d=>K0 ps vs π
   | .v a=>(match x with
    | .v y=>(match ahj a y π with
     |some (Jc,d1)=>(match K0 ps vs Jc with|some (π2,d2)=>some (π2,d1++d2)|none=>none)
     |none=>none)
    |_=>none)
   | .pT l=>(match x with
    | .pT m=>(match Vi l m π with
     |some (Jc,d1)=>(match K0 ps vs Jc with|some (π2,d2)=>some (π2,d1++d2)|none=>none)
     |none=>none)
    |_=>none)
def xC:List PV->List DV->List AV×List DV
 | [],r=>([],r)
 | .d::ps,r=>match xC ps r with|(q,r)=>(.dead::q,r)
 | .v a::ps,r=>match Vs a r with|(x,r)=>match xC ps r with|(q,r)=>(.v x::q,r)
 | .pT l::ps,r=>match SA l r with|(x,r)=>match xC ps r with|(q,r)=>(.pT x::q,r)
theorem u6: ∀(ps:List PV) (vs:List AV) (π ji:tx) (ds:List DV),K0 ps vs π=some (ji,ds)->
  xb π ji/\ ∃q,(∀r,xC ps (ds++r)=(q,r))/\ ∀f,BM ji f->NH f vs q
 | [],vs,π,ji,ds,h=>by
  simp only [K0] at h
  split at h
  ·cases h;exact ⟨.rfl' _,[],fun _=>rfl,fun _ _=>trivial⟩
  ·cases h
 |p::ps,vs,π,ji,ds,h=>by
  simp only [K0] at h
  split at h
  ·cases h
  rename_i x vs
  cases p with
  |d=>
   obtain ⟨a,q,b,c⟩:=u6 ps vs _ _ _ h
   exact ⟨a,.dead::q,fun r=>by simp only [xC,b r],fun f hf=>c f hf⟩
  |v pa=>
   dsimp only at h
   split at h<;>try (cases h;done)
   split at h<;>try (cases h;done)
   rename_i h1
   split at h<;>try (cases h;done)
   rename_i h2
   cases h
   obtain ⟨a,q,b,c⟩:=O8 h1
   obtain ⟨a',q',b',c'⟩:=u6 ps _ _ _ _ h2
   exact ⟨a.trans a',.v q::q',fun r=>by simp only [xC,List.append_assoc,b,b'],fun f hf=>⟨by simp only [v8,c f (hf.of a')],c' f hf⟩⟩
  |pT l=>
   dsimp only at h
   split at h<;>try (cases h;done)
   split at h<;>try (cases h;done)
   rename_i h1
   split at h<;>try (cases h;done)
   rename_i h2
   cases h
   obtain ⟨a,q,b,c⟩:=KY _ _ _ _ _ h1
   obtain ⟨a',q',b',c'⟩:=u6 ps _ _ _ _ h2
   exact ⟨a.trans a',.pT q::q',fun r=>by simp only [xC,List.append_assoc,b,b'],fun f hf=>⟨by simp only [v8,c f (hf.of a')],c' f hf⟩⟩
def al8 (π:tx):Nat->Bool
 |0=>true
 |n+1=>(match π[n]? with|some (some (.same m))=>m==n|_=>false)&&al8 π n
theorem Pg {π:tx} {f:List Src} (hf:BM π f): ∀ {n:Nat},al8 π n=true->F9 f n=true
 |0,_=>rfl
 |n+1,h=>by
  simp only [al8,Bool.and_eq_true] at h
  simp only [F9,Bool.and_eq_true]
  refine ⟨?_,Pg hf h.2⟩
  have h1:=h.1
  split at h1
  ·rename_i m hm
   rw [hf _ _ hm];exact h1
  ·cases h1
def BT (h:List aD) (p:PO) (s:Src) (π:tx):Option (tx×List DV):=match p with
 | .gone=>none
 | .cells ps e=>match s with
  | .same m=>(match ai h m with|some (.cells cs e')=>if e=e' then KZ ps cs π else none|_=>none)
  |_=>none
 | .row t rk=>match s with
  | .same m=>(match ai h m with
   |some (.row u l k)=>if k=rk then (match jm u t l with|some l'=>some (π,[.l t l'])|none=>none) else none
   |_=>none)
  | .nil=>if rk=0 then none else some (π,[.l t []])
  | .mt m _=>if rk=3 then (match ai h m with|some (.cells _ _)=>some (π,[.l t []])|_=>none) else none
  | .any _=>none
  | .cells m len=>if (rk=2\/ rk=3)/\ t.flat=true then (match ai h m with
   |some (.cells cs _)=>if cs.length=len*t.size/\ Nat.ble len 1099511627776=true then (match BR (ct (fun _=>none) t) len cs with|some (l,[])=>some (π,[.l t l])|_=>none) else none
   |_=>none) else none
 | .alias n q=>match s with
  | .same m=>(match ai h m with
   |some (.alias n' a b)=>(match q,b with
    |false,none=>xh π n n' [.n a]
    |true,some x=>xh π n n' [.n a,.n x]
    |_,_=>none)
   |_=>none)
  |_=>none
 | .loop busy=>match s with
  | .same m=>(match ai h m with
   |some (.loop r s none)=>(match busy,s with
    |false,.ready=>some (π,[.lo r])
    |true,.busy=>some (π,[.lo r])
    |_,_=>none)
   |_=>none)
  |_=>none
 | .cg k=>match s with
  | .same m=>(match ai h m with|some (.cg ρ k')=>if k=k'/\ al8 π k=true then some (π,[.env ρ]) else none|_=>none)
  |_=>none
 | .hide=>match s with
  | .same m=>(match ai h m with|some (.hide S)=>some (π,[.hd S])|_=>none)
  |_=>none
 | .map ka va k v=>match s with
  | .same m=>(match ai h m with
   |some (.map ka' va' k' v' l)=>if ka'=ka/\ va'=va then (match jm (.prod k' v') (.prod k v) l with|some l'=>some (π,[.l (.prod k v) l'])|none=>none) else none
   |_=>none)
  |_=>none
 | .Pp ka k u c=>match s with
  | .same m=>(match ai h m with
   |some (.Pp ka' k' u' l c' none)=>if ka'=ka then (match jm (.prod k' (.sl u')) (.prod k (.sl u)) l with|some l'=>xh π c c' [.l (.prod k (.sl u)) l']|none=>none) else none
   |_=>none)
  |_=>none
 | .set n=>match s with
  | .same m=>(match ai h m with|some (.set n')=>xh π n n' []|_=>none)
  |_=>none
 | .gv n c k u=>match s with
  | .same m=>(match ai h m with
   |some (.gv n' c' k' u' x l)=>(match O7 k' k x,jm u' u l with
    |some x',some l'=>(match rD π n (.same n') with|some Jc=>xh Jc c c' [.tv k x',.l u l']|none=>none)
    |_,_=>none)
   |_=>none)
  |_=>none
 | .rc ps=>match s with
  | .same m=>(match ai h m with|some (.rc cs)=>KZ ps cs π|_=>none)
  |_=>none
 | .dp t c st=>match s with
  | .same m=>(match ai h m with
   |some (.dp t' l c' st' kn)=>if st'=st then (match jm t' t l with|some l'=>xh π c c' [.l t l',.b kn]|none=>none) else none
   |_=>none)
  |_=>none
 | .nv n c q u=>match s with
  | .same m=>(match ai h m with
   |some (.nv n' c' j q' u')=>if q'=q/\ u'=u then (match rD π n (.same n') with|some Jc=>xh Jc c c' [.n j]|none=>none) else none
   |_=>none)
  |_=>none
def qy (p:PO) (r:List DV):aD×List DV:=match p with
 | .gone=>(.gone,r)
 | .cells ps e=>match F8 ps r with|(cs,r)=>(.cells cs e,r)
 | .row t rk=>match r with|d::r=>(match d.as (.l t) with|some l=>(.row t l rk,r)|none=>(.gone,r))|r=>(.gone,r)
 | .alias n false=>match r with| .n a::r=>(.alias n a none,r)|r=>(.gone,r)
 | .alias n true=>match r with| .n a:: .n b::r=>(.alias n a (some b),r)|r=>(.gone,r)
 | .loop busy=>match r with| .lo l::r=>(.loop l (bif busy then .busy else .ready) none,r)|r=>(.gone,r)
 | .cg k=>match r with| .env ρ::r=>(.cg ρ k,r)|r=>(.gone,r)
 | .hide=>match r with| .hd S::r=>(.hide S,r)|r=>(.gone,r)
 | .map ka va k v=>match r with|d::r=>(match d.as (.l (.prod k v)) with|some l=>(.map ka va k v l,r)|none=>(.gone,r))|r=>(.gone,r)
 | .Pp ka k u c=>match r with|d::r=>(match d.as (.l (.prod k (.sl u))) with|some l=>(.Pp ka k u l c none,r)|none=>(.gone,r))|r=>(.gone,r)
 | .set n=>(.set n,r)
 | .rc ps=>match F8 ps r with|(cs,r)=>(.rc cs,r)
 | .dp t c st=>match r with|d:: .b kn::r=>(match d.as (.l t) with|some l=>(.dp t l c st kn,r)|none=>(.gone,r))|r=>(.gone,r)
 | .nv n c q u=>match r with| .n j::r=>(.nv n c j q u,r)|r=>(.gone,r)
 | .gv n c k u=>match r with|d::e::r=>(match d.as (.tv k),e.as (.l u) with|some x,some l=>(.gv n c k u x l,r)|_,_=>(.gone,r))|r=>(.gone,r)
theorem YU (t:Ty) (x:t.T):O7 t t x=some x:=by unfold O7;rw [dif_pos rfl]
theorem qu (t:Ty) (l:List t.T):jm t t l=some l:=by unfold jm;rw [dif_pos rfl]
theorem zU (t:Ty) (rk:Nat) (l:List t.T) (r:List DV):qy (.row t rk) (.l t l::r)=(.row t l rk,r):=by
 simp only [qy,DV.as,qu]
theorem aef (ka va:Bool) (k v:Ty) (l:List (k.T×v.T)) (r:List DV):qy (.map ka va k v) (.l (.prod k v) l::r)=(.map ka va k v l,r):=by
 simp only [qy,DV.as,qu]
theorem aee (ka:Bool) (k u:Ty) (c:Nat) (l:List (k.T×List u.T)) (r:List DV):qy (.Pp ka k u c) (.l (.prod k (.sl u)) l::r)=(.Pp ka k u l c none,r):=by
 simp only [qy,DV.as,qu]
theorem ahE (n c:Nat) (k u:Ty) (x:k.T) (l:List u.T) (r:List DV):qy (.gv n c k u) (.tv k x:: .l u l::r)=(.gv n c k u x l,r):=by
 simp only [qy,DV.as,qu,YU]
theorem ahD (t:Ty) (c:Nat) (st kn:Bool) (l:List t.T) (r:List DV):qy (.dp t c st) (.l t l:: .b kn::r)=(.dp t l c st kn,r):=by
 simp only [qy,DV.as,qu]
theorem adY {h:List aD} {p:PO} {s:Src} {π ji:tx} {ds:List DV} (hd:BT h p s π=some (ji,ds)):
  xb π ji/\ ∃o,o≠ .gone/\ (∀r,qy p (ds++r)=(o,r))/\ ∀f,BM ji f->Jp f h s o:=by
 cases p with
 |gone=>cases hd
 |cells ps e=>
  simp only [BT] at hd
  split at hd<;>try (cases hd;done)
  split at hd<;>try (cases hd;done)
  rename_i hl
  split at hd<;>try (cases hd;done)
  rename_i he;subst he
  obtain ⟨a,q,b,c⟩:=u5 _ _ _ _ _ hd
  exact ⟨a,.cells q _,by simp,fun r=>(by simp only [qy,b r];rfl),fun f hf=>⟨_,hl,by simp only [gu,c f hf]⟩⟩
 |row t rk=>
  simp only [BT] at hd
  split at hd
  ·split at hd<;>try (cases hd;done)
   rename_i hl
   split at hd<;>try (cases hd;done)
   rename_i hk;subst hk
   split at hd<;>try (cases hd;done)
   rename_i hc
   cases hd
   obtain ⟨e1,e2⟩:=cr hc
   subst e1
   dsimp only at e2
   subst e2
   exact ⟨.rfl' _,_,by simp,fun r=>zU _ _ _ r,fun f hf=>⟨_,hl,rfl⟩⟩
  ·split at hd<;>try (cases hd;done)
   rename_i hk
   cases hd
   exact ⟨.rfl' _,_,by simp,fun r=>zU _ _ _ r,fun f hf=>⟨t,rk,rfl,hk⟩⟩
  ·split at hd<;>try (cases hd;done)
   rename_i hk
   subst hk
   split at hd<;>try (cases hd;done)
   rename_i hl
   cases hd
   exact ⟨.rfl' _,_,by simp,fun r=>zU _ _ _ r,fun f hf=>⟨t,_,_,rfl,hl⟩⟩
  ·cases hd
  ·split at hd<;>try (cases hd;done)
   rename_i hk
   obtain ⟨sQ,hfl⟩:=hk
   split at hd<;>try (cases hd;done)
   rename_i hl
   split at hd<;>try (cases hd;done)
   rename_i hlen
   split at hd<;>try (cases hd;done)
   rename_i hN
   cases hd
   exact ⟨.rfl' _,_,by simp,fun r=>zU _ _ _ r,fun f hf=>⟨t,_,_,_,_,rfl,sQ,hl,hfl,hN,hlen⟩⟩
 |alias n q=>
  simp only [BT] at hd
  split at hd<;>try (cases hd;done)
  split at hd<;>try (cases hd;done)
  rename_i hl
  split at hd<;>try (cases hd;done)
  ·obtain ⟨a,rfl,b⟩:=dj hd
   exact ⟨a,_,by simp,fun r=>rfl,fun f hf=>⟨_,hl,by simp only [gu,dL (b f hf)]⟩⟩
  ·obtain ⟨a,rfl,b⟩:=dj hd
   exact ⟨a,_,by simp,fun r=>rfl,fun f hf=>⟨_,hl,by simp only [gu,dL (b f hf)]⟩⟩
 |loop busy=>
  simp only [BT] at hd
  split at hd<;>try (cases hd;done)
  split at hd<;>try (cases hd;done)
  rename_i hl
  split at hd<;>try (cases hd;done)
  all_goals
   cases hd
   exact ⟨.rfl' _,_,by simp,fun r=>rfl,fun f hf=>⟨_,hl,rfl⟩⟩
 |cg k=>
  simp only [BT] at hd
  split at hd<;>try (cases hd;done)
  split at hd<;>try (cases hd;done)
  rename_i hl
  split at hd<;>try (cases hd;done)
  rename_i hk
  obtain ⟨rfl,hk⟩:=hk
  cases hd
  exact ⟨.rfl' _,_,by simp,fun r=>rfl,fun f hf=>⟨_,hl,by simp only [gu,Pg hf hk,if_true]⟩⟩
 |hide=>
  simp only [BT] at hd
  split at hd<;>try (cases hd;done)
  split at hd<;>try (cases hd;done)
  rename_i hl
  cases hd
  exact ⟨.rfl' _,_,by simp,fun r=>rfl,fun f hf=>⟨_,hl,rfl⟩⟩
 |map ka va k v=>
  simp only [BT] at hd
  split at hd<;>try (cases hd;done)
  split at hd<;>try (cases hd;done)
  rename_i hl
  split at hd<;>try (cases hd;done)
  rename_i hk
  obtain ⟨rfl,rfl⟩:=hk
  split at hd<;>try (cases hd;done)
  rename_i hc
  cases hd
  obtain ⟨e1,e2⟩:=cr hc
  cases e1
  dsimp only at e2
  subst e2
  exact ⟨.rfl' _,_,by simp,fun r=>aef _ _ _ _ _ r,fun f hf=>⟨_,hl,rfl⟩⟩
 |Pp ka k u c=>
  simp only [BT] at hd
  split at hd<;>try (cases hd;done)
  split at hd<;>try (cases hd;done)
  rename_i hl
  split at hd<;>try (cases hd;done)
  rename_i hk;subst hk
  split at hd<;>try (cases hd;done)
  rename_i hc
  obtain ⟨e1,e2⟩:=cr hc
  cases e1
  dsimp only at e2
  subst e2
  obtain ⟨a,rfl,b⟩:=dj hd
  exact ⟨a,_,by simp,fun r=>aee _ _ _ _ _ r,fun f hf=>⟨_,hl,by simp only [gu,dL (b f hf)]⟩⟩
 |set n=>
  simp only [BT] at hd
  split at hd<;>try (cases hd;done)
  split at hd<;>try (cases hd;done)
  rename_i hl
  obtain ⟨a,rfl,b⟩:=dj hd
  exact ⟨a,_,by simp,fun r=>rfl,fun f hf=>⟨_,hl,by simp only [gu,dL (b f hf)]⟩⟩
 |gv n c k u=>
  simp only [BT] at hd
  split at hd<;>try (cases hd;done)
  split at hd<;>try (cases hd;done)
  rename_i hl
  split at hd<;>try (cases hd;done)
  rename_i hx hc
  split at hd<;>try (cases hd;done)
  rename_i Jc hb
  obtain ⟨e1,e2⟩:=cr hc
  subst e1
  dsimp only at e2
  subst e2
  obtain ⟨e3,e4⟩:=U5 hx
  subst e3
  dsimp only at e4
  subst e4
  obtain ⟨a,rfl,b⟩:=dj hd
  have s1:=(dM hb).1
  exact ⟨s1.trans a,_,by simp,fun r=>ahE _ _ _ _ _ _ r,fun f hf=>⟨_,hl,by simp only [gu,dL (b f hf),dL (iN hb (hf.of a))]⟩⟩
 |rc ps=>
  simp only [BT] at hd
  split at hd<;>try (cases hd;done)
  split at hd<;>try (cases hd;done)
  rename_i hl
  obtain ⟨a,q,b,c⟩:=u5 _ _ _ _ _ hd
  exact ⟨a,.rc q,by simp,fun r=>(by simp only [qy,b r]),fun f hf=>⟨_,hl,by simp only [gu,c f hf]⟩⟩
 |dp t c st=>
  simp only [BT] at hd
  split at hd<;>try (cases hd;done)
  split at hd<;>try (cases hd;done)
  rename_i hl
  split at hd<;>try (cases hd;done)
  rename_i hk;subst hk
  split at hd<;>try (cases hd;done)
  rename_i hc
  obtain ⟨e1,e2⟩:=cr hc
  subst e1
  dsimp only at e2
  subst e2
  obtain ⟨a,rfl,b⟩:=dj hd
  exact ⟨a,_,by simp,fun r=>ahD _ _ _ _ _ r,fun f hf=>⟨_,hl,by simp only [gu,dL (b f hf)]⟩⟩
 |nv n c q u=>
  simp only [BT] at hd
  split at hd<;>try (cases hd;done)
  split at hd<;>try (cases hd;done)
  rename_i hl
  split at hd<;>try (cases hd;done)
  rename_i hk
  obtain ⟨rfl,rfl⟩:=hk
  split at hd<;>try (cases hd;done)
  rename_i Jc hb
  obtain ⟨a,rfl,b⟩:=dj hd
  have s1:=(dM hb).1
  exact ⟨s1.trans a,_,by simp,fun r=>rfl,fun f hf=>⟨_,hl,by simp only [gu,dL (b f hf),dL (iN hb (hf.of a))]⟩⟩
def PO.aiI:PO->Bool
 | .gone=>true
 |_=>false
def Pb (h:List aD):List PO->Nat->tx->Option (tx×List DV)
 | [],_,π=>some (π,[])
 |p::ps,n,π=>match p.aiI with
  |true=>Pb h ps (n+1) π
  |false=>match π[n]? with
   |some (some s)=>(match BT h p s π with
    |some (Jc,d1)=>(match Pb h ps (n+1) Jc with|some (π2,d2)=>some (π2,d1++d2)|none=>none)
    |none=>none)
   |_=>none
def Le:List PO->List DV->List aD×List DV
 | [],r=>([],r)
 |p::ps,r=>match qy p r with|(c,r)=>match Le ps r with|(cs,r)=>(c::cs,r)
theorem Zi {π:List Src} {h:List aD} {s:Src} {o:aD} {ss:List Src} {os:List aD} (ho:o≠ .gone) (h1:Jp π h s o) (h2:wJ π h ss os):wJ π h (s::ss) (o::os):=by
 cases o<;>first|exact absurd rfl ho|exact ⟨h1,h2⟩
theorem BU {h:List aD} : ∀(ps:List PO) (n:Nat) (π ji:tx) (ds:List DV),Pb h ps n π=some (ji,ds)->
  xb π ji/\ ∃os,(∀r,Le ps (ds++r)=(os,r))/\ ∀f,BM ji f->f.length=n+ps.length->wJ f h (f.drop n) os
 | [],n,π,ji,ds,hd=>by
  simp only [Pb,Option.some.injEq,Prod.mk.injEq] at hd
  obtain ⟨rfl,rfl⟩:=hd
  refine ⟨.rfl' _,[],fun _=>rfl,fun f _ hl=> ?_⟩
  rw [List.drop_eq_nil_of_le (by simp at hl;omega)];trivial
 |p::ps,n,π,ji,ds,hd=>by
  simp only [Pb] at hd
  split at hd
  ·rename_i hg
   cases p<;>simp [PO.aiI] at hg
   obtain ⟨a,q,b,c⟩:=BU ps _ _ _ _ hd
   refine ⟨a,.gone::q,fun r=>by simp only [Le,qy,b r],fun f hf hl=> ?_⟩
   rw [List.length_cons] at hl
   rw [List.drop_eq_getElem_cons (by omega)]
   exact c f hf (by omega)
  ·split at hd<;>try (cases hd;done)
   rename_i s hs
   split at hd<;>try (cases hd;done)
   rename_i h1
   split at hd<;>try (cases hd;done)
   rename_i h2
   cases hd
   obtain ⟨a,o,hg,b,c⟩:=adY h1
   obtain ⟨a',q',b',c'⟩:=BU ps _ _ _ _ h2
   refine ⟨a.trans a',o::q',fun r=>by simp only [Le,List.append_assoc,b,b'],fun f hf hl=> ?_⟩
   rw [List.length_cons] at hl
   have e:=hf.of (a.trans a') n s hs
   rw [List.drop_eq_getElem_cons (by omega)]
   have e2:f[n]'(by omega)=s:=by rw [List.getElem?_eq_getElem (by omega)] at e;exact Option.some.inj e
   rw [e2]
   exact Zi hg (c f (hf.of a')) (c' f hf (by omega))
structure wU (gt:List HT) where
 ps:List PV
 po:List PO
 top:Nat:=0
 ru:Option Nat:=none
 gi:List Nat:= []
 ci:List Nat:= []
 vi:List Nat
 ts:List HT
 c:List DV:= []
def ap4:aD->Bool
 | .hide _=>true
 |_=>false
def Vu:List aD->Nat->Option Nat
 | [],_=>none
 |o::r,n=>match ap4 o with|true=>some n|false=>Vu r (n+1)
namespace wU
variable {gt:List HT}
def N (p:wU gt):Nat:=p.gi.length+p.ci.length+p.vi.length
def idx (p:wU gt):List Nat:=p.gi++(p.ci++p.vi)
def alD:List Nat->Nat->Bool
 |_,0=>true
 |l,n+1=>Ce n l&&alD l n
def ok (p:wU gt):Bool:=alD p.idx p.N
def aoZ (p:wU gt) (h:List aD):Option tx:=
 match p.ru with
 |none=>some ((List.range p.po.length).map fun i=>bif Nat.blt i p.top then some (.same i) else none)
 |some n=>match Vu h 0 with
  |some j=>rD ((List.range p.po.length).map fun i=>bif Nat.blt i p.top then some (.same i) else none) n (.same j)
  |none=>none
def Da (p:wU gt) (ds:List DV):AS:=match xC p.ps ds with
 |(ts,r)=>match Le p.po r with
  |(os,_)=>⟨ts,os⟩
def fill (p:wU gt) (g:TT gt) (s:TT p.ts):AS:=p.Da (aqu p.idx (Ov gt g++(p.c++Ov p.ts s)) p.N)
def fin (π:tx):List Src:=π.map fun o=>match o with|some s=>s|none=> .nil
def read (p:wU gt) (st:AS):Option (TT gt×List DV×TT p.ts):=match p.aoZ st.heap with
 |none=>none
 |some π0=>match K0 p.ps st.tmps π0 with
  |none=>none
  |some (Jc,d1)=>match Pb st.heap p.po 0 Jc with
   |none=>none
   |some (π2,d2)=>match Nat.beq (d1++d2).length p.N&&eV (zn (fin π2) (p.Da (d1++d2)).heap) with
    |false=>none
    |true=>match abg gt (Oi p.gi (d1++d2)),abg p.ts (Oi p.vi (d1++d2)) with
     |some g,some s=>some (g,Oi p.ci (d1++d2),s)
     |_,_=>none
theorem ahF (π:tx):BM π (fin π):=fun n s h=>by simp [fin,h]
theorem OX {l:List Nat} : ∀ {n:Nat},alD l n=true-> ∀j,j<n->j∈l
  |0,_,j,h=>by omega
  | n+1,h,j,hj=>by
    simp only [alD,Bool.and_eq_true] at h
    rcases Nat.lt_or_ge j n with h1|h1
    · exact OX h.2 j h1
    · have:j=n:=by omega
      subst this;exact Wd h.1
where Wd {x:Nat} : ∀ {l:List Nat},Ce x l=true->x∈l
        | [],h=>by cases h
        | y::r,h=>by
          simp only [Ce,Bool.or_eq_true] at h
          rcases h with h|h
          · simp [Nat.eq_of_beq_eq_true h]
          · exact List.mem_cons_of_mem _ (Wd h)
theorem ag5 {p:wU gt} {h:List aD} {π:tx} (hb:p.aoZ h=some π):π.length=p.po.length:=by
 unfold aoZ at hb
 split at hb
 ·cases hb;simp
 ·split at hb
  ·rw [(dM hb).1.len];simp
  ·cases hb
theorem T5 {p:wU gt} (hp:p.ok=true) {st:AS} {g:TT gt} {c:List DV} {s:TT p.ts} (h:p.read st=some (g,c,s)) (hc:c=p.c):uS st (p.fill g s):=by
 unfold read at h
 split at h<;>try (cases h;done)
 rename_i π0 h0
 split at h<;>try (cases h;done)
 rename_i Jc d1 h1
 split at h<;>try (cases h;done)
 rename_i π2 d2 h2
 split at h<;>try (cases h;done)
 rename_i hn
 simp only [Bool.and_eq_true] at hn
 split at h<;>try (cases h;done)
 rename_i g' s' hg hs
 cases h
 have hlen:(d1++d2).length=p.N:=Nat.eq_of_beq_eq_true hn.1
 have key:p.fill g s=p.Da (d1++d2):=by
  unfold fill
  rw [Uh _ _ _ hg,Uh _ _ _ hs,<- hc]
  have:Oi p.gi (d1++d2)++(Oi p.ci (d1++d2)++Oi p.vi (d1++d2))=Oi p.idx (d1++d2):=by simp [Oi,idx]
  rw [this,<- hlen,afP fun j hj=>OX hp j (by omega)]
 rw [key]
 obtain ⟨a,q,b,t⟩:=u6 _ _ _ _ _ h1
 obtain ⟨a',q',b',t'⟩:=BU _ _ _ _ _ h2
 have b'':=b' []
 rw [List.append_nil] at b''
 have e:p.Da (d1++d2)=⟨q,q'⟩:=by simp only [Da,b d2,b'']
 refine ⟨fin π2,?_,?_,?_⟩
 ·rw [e];exact t _ ((ahF _).of a')
 ·rw [e]
  have:=t' (fin π2) (ahF _) (by simp [fin,a'.len,a.len,ag5 h0])
  rwa [List.drop_zero] at this
 ·exact hn.2
end wU
end Go.Ev
