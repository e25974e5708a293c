/- States as patterns: what is read out of a state, and that the state knows no less than the pattern with these values. -/
import Derived.Test.YtojielnkfeoccaaGreatEvP
noncomputable section
set_option linter.unusedSectionVars false
set_option linter.unusedVariables false
set_option linter.unusedSimpArgs false
namespace Go.Ev
inductive HT
 |i|b|s|n|v|env|lo|hd
 |l (t:Ty)
 |tv (t:Ty)
@[reducible] def HT.T:HT->Type
 | .i=>Int
 | .b=>Bool
 | .s=>ByteArray
 | .n=>Nat
 | .v=>Value
 | .env=>Env
 | .lo=>Loop
 | .hd=>Nat->Prop
 | .l t=>List t.T
 | .tv t=>t.T
inductive DV
 |i (x:Int)|b (x:Bool)|s (x:ByteArray)|n (x:Nat)|v (x:Value)|env (x:Env)|lo (x:Loop)|hd (x:Nat->Prop)
 |l (t:Ty) (x:List t.T)
 |tv (t:Ty) (x:t.T)
def E6 (t u:Ty) (x:t.T):Option u.T:=if h:t=u then some (h▸x) else none
theorem Jg {u' u:Ty} {x:u'.T} {y:u.T} (h:E6 u' u x=some y): ∃e:u'=u,e▸x=y:=by
 unfold E6 at h
 split at h
 ·rename_i e;cases h;exact ⟨e,rfl⟩
 ·cases h
def DV.as:(h:HT)->DV->Option h.T
 | .i,d=>match d with| .i x=>some x|_=>none
 | .b,d=>match d with| .b x=>some x|_=>none
 | .s,d=>match d with| .s x=>some x|_=>none
 | .n,d=>match d with| .n x=>some x|_=>none
 | .v,d=>match d with| .v x=>some x|_=>none
 | .env,d=>match d with| .env x=>some x|_=>none
 | .lo,d=>match d with| .lo x=>some x|_=>none
 | .hd,d=>match d with| .hd x=>some x|_=>none
 | .l t,d=>match d with| .l u x=>jU u t x|_=>none
 | .tv t,d=>match d with| .tv u x=>E6 u t x|_=>none
def DV.of:(h:HT)->h.T->DV
 | .i,x=> .i x
 | .b,x=> .b x
 | .s,x=> .s x
 | .n,x=> .n x
 | .v,x=> .v x
 | .env,x=> .env x
 | .lo,x=> .lo x
 | .hd,x=> .hd x
 | .l t,x=> .l t x
 | .tv t,x=> .tv t x
theorem DV.Xf {h:HT} {d:DV} {x:h.T} (e:d.as h=some x):DV.of h x=d:=by
 cases h with
 |l t=>
  cases d<;>simp only [DV.as] at e<;>try (cases e;done)
  rename_i u y
  obtain ⟨e1,e2⟩:=dV e
  subst e1
  dsimp only at e2
  subst e2
  rfl
 |tv t=>
  cases d<;>simp only [DV.as] at e<;>try (cases e;done)
  rename_i u y
  obtain ⟨e1,e2⟩:=Jg e
  subst e1
  dsimp only at e2
  subst e2
  rfl
 |_=>cases d<;>simp only [DV.as] at e<;>first|(cases e;done)|(cases e;rfl)
@[reducible] def TT:List HT->Type
 | []=>Unit
 | [a]=>a.T
 |a::c::r=>a.T×TT (c::r)
def NB:(ts:List HT)->List DV->Option (TT ts)
 | [],ds=>match ds with| []=>some ()|_=>none
 | [a],ds=>match ds with| [d]=>d.as a|_=>none
 |a::c::r,ds=>match ds with
  |d::q=>match d.as a,NB (c::r) q with|some x,some y=>some (x,y)|_,_=>none
  | []=>none
def Dw:(ts:List HT)->TT ts->List DV
 | [],_=> []
 | [a],x=> [DV.of a x]
 |a::c::r,x=>DV.of a x.1::Dw (c::r) x.2
theorem IE: ∀(ts:List HT) (ds:List DV) (x:TT ts),NB ts ds=some x->Dw ts x=ds
 | [],ds,x,h=>by
  simp only [NB] at h
  split at h<;>first|rfl|cases h
 | [a],ds,x,h=>by
  simp only [NB] at h
  split at h
  ·simp only [Dw,DV.Xf h]
  ·cases h
 |a::c::r,ds,x,h=>by
  simp only [NB] at h
  split at h
  ·split at h
   ·rename_i y z h1 h2
    cases h
    simp only [Dw,DV.Xf h1,IE _ _ _ h2]
   ·cases h
  ·cases h
def pick:List Nat->List DV->Nat->DV
 |k::r,v::q,j=>bif Nat.beq k j then v else pick r q j
 |_,_,_=> .n 0
def EB (idx:List Nat) (ds:List DV):List DV:=idx.map fun j=>ds.getD j (.n 0)
def Zj (idx:List Nat) (vs:List DV) (n:Nat):List DV:=(List.range n).map (pick idx vs)
theorem Km (f:Nat->DV): ∀(idx:List Nat) (j:Nat),j∈idx->pick idx (idx.map f) j=f j
  | [],_,h=>by cases h
  | k::r,j,h=>by
    simp only [List.map_cons,pick]
    by_cases e:k=j
    · subst e;simp
    · have:Nat.beq k j=false:=by rw [Nat.beq_eq_false_iff_ne];exact e
      rw [this]
      exact Km f r j ((List.mem_cons.1 h).resolve_left fun h=>e h.symm)
where Nat.beq_eq_false_iff_ne {a b:Nat} :Nat.beq a b=false↔a≠b:=by
        rw [<- Bool.not_eq_true,Nat.beq_eq]
theorem Q8 {idx:List Nat} {ds:List DV} (h: ∀j,j<ds.length->j∈idx):Zj idx (EB idx ds) ds.length=ds:=by
 unfold Zj EB
 refine List.ext_getElem (by simp) fun i h1 h2=> ?_
 simp only [List.getElem_map,List.getElem_range]
 rw [Km _ _ _ (h i h2),List.getD_eq_getElem?_getD,List.getElem?_eq_getElem h2];rfl
inductive PR
 |ext
 |loc (n off:Nat)
 |elem (n:Nat)
 |full (n:Nat)
 |mp (n:Nat)
inductive PC
 |i (k:IntKind)
 |b|s|raw
 |ptr (n off:Nat)
 |kC (n:Nat)
 |sl (n off:Nat)
 |full (n:Nat)
 |bA (n k:Nat)
 |fq (n:Nat)
 |eN (f:FuncId) (nf:Nat) (rs:List PR)
 |nU (n:Nat)
 |mp (n:Nat)
 |mv (f:FuncId) (agg:Bool) (rs:List PR)
inductive PA
 |one (p:PC)
 |agg (l:List PC)
inductive PV
 |d
 |v (a:PA)
 |lZ (l:List PA)
inductive PO
 |gone
 |cells (l:List PC) (e:TypeId)
 |row (t:Ty) (rk:Nat)
 |alias (n:Nat) (q:Bool)
 |loop (busy:Bool)
 |eJ (n:Nat)
 |ga
 |map (ka va:Bool) (k v:Ty)
 |jO (ka:Bool) (k u:Ty) (c:Nat)
 |set (n:Nat)
 |gv (n c:Nat) (k u:Ty)
 |rc (l:List PC)
 |dp (t:Ty) (c:Nat) (st:Bool)
 |nv (n c q:Nat) (u:Ty)
abbrev pF:=List (Option Src)
def Src.eqb:Src->Src->Bool
 | .same a,.same b=>Nat.beq a b
 | .nil,.nil=>true
 | .cells a b,.cells c d=>Nat.beq a c&&Nat.beq b d
 | .mt a b,.mt c d=>Nat.beq a c&&Nat.beq b d
 |_,_=>false
theorem Src.Yd {a b:Src} (h:Src.eqb a b=true):a=b:=by
 cases a<;>cases b<;>simp_all [Src.eqb]
def oa (π:pF) (n:Nat) (s:Src):Option pF:=match π[n]? with
 |some none=>some (π.set n (some s))
 |some (some t)=>bif Src.eqb t s then some π else none
 |none=>none
structure rF (π iq:pF):Prop where
 len:iq.length=π.length
 sub: ∀(n:Nat) (s:Src),π[n]? =some (some s)->iq[n]? =some (some s)
theorem rF.rfl' (π:pF):rF π π:=⟨rfl,fun _ _ h=>h⟩
theorem rF.trans {a b c:pF} (h:rF a b) (k:rF b c):rF a c:=⟨k.len.trans h.len,fun n s e=>k.sub n s (h.sub n s e)⟩
def uQ (π:pF) (f:List Src):Prop:= ∀(n:Nat) (s:Src),π[n]? =some (some s)->f[n]? =some s
theorem uQ.of {π iq:pF} {f:List Src} (h:uQ iq f) (k:rF π iq):uQ π f:=fun n s e=>h n s (k.sub n s e)
theorem dZ {π iq:pF} {n:Nat} {s:Src} (h:oa π n s=some iq):rF π iq/\ iq[n]? =some (some s):=by
 unfold oa at h
 split at h
 ·rename_i hn
  cases h
  have hl:=(List.getElem?_eq_some_iff.1 hn).1
  refine ⟨⟨by simp,fun m t hm=> ?_⟩,by simp [hl]⟩
  rw [List.getElem?_set]
  split
  ·rename_i e;subst e;rw [hn] at hm;cases hm
  ·exact hm
 ·rename_i t hn
  cases hb:Src.eqb t s with
  |true=>
   rw [hb] at h
   cases h
   exact ⟨.rfl' _,by rw [hn,Src.Yd hb]⟩
  |false=>rw [hb] at h;cases h
 ·cases h
theorem gK {π iq:pF} {n:Nat} {s:Src} (h:oa π n s=some iq) {f:List Src} (hf:uQ iq f):f[n]? =some s:=hf n s (dZ h).2
theorem dY {f:List Src} {n m:Nat} (h:f[n]? =some (.same m)):iN f n=some m:=by unfold iN;rw [h]
def kY:List PR->List Ref->pF->Option (pF×List DV)
 | [],qs,π=>match qs with| []=>some (π,[])|_=>none
 |p::ps,qs,π=>match qs with
  | []=>none
  |q::qs=>match p,q with
   | .ext,.ext v=>match kY ps qs π with|some (iq,ds)=>some (iq,.v v::ds)|none=>none
   | .loc n o,.loc m o'=>if o=o' then (match oa π n (.same m) with|some Bb=>kY ps qs Bb|none=>none) else none
   | .elem n,.elem m j=>match oa π n (.same m) with
    |some Bb=>(match kY ps qs Bb with|some (iq,ds)=>some (iq,.n j::ds)|none=>none)
    |none=>none
   | .full n,.full m=>(match oa π n (.same m) with|some Bb=>kY ps qs Bb|none=>none)
   | .mp n,.mp m=>(match oa π n (.same m) with|some Bb=>kY ps qs Bb|none=>none)
   |_,_=>none
def fT:List PR->List DV->List Ref×List DV
 | [],r=>([],r)
 | .ext::ps,r=>match r with| .v x::r=>(match fT ps r with|(q,r)=>(.ext x::q,r))|r=>([],r)
 | .loc n o::ps,r=>match fT ps r with|(q,r)=>(.loc n o::q,r)
 | .elem n::ps,r=>match r with| .n j::r=>(match fT ps r with|(q,r)=>(.elem n j::q,r))|r=>([],r)
 | .full n::ps,r=>match fT ps r with|(q,r)=>(.full n::q,r)
 | .mp n::ps,r=>match fT ps r with|(q,r)=>(.mp n::q,r)
theorem gq: ∀(ps:List PR) (qs:List Ref) (π iq:pF) (ds:List DV),kY ps qs π=some (iq,ds)->
  rF π iq/\ ∃rs,(∀r,fT ps (ds++r)=(rs,r))/\ ∀f,uQ iq f->jl f rs=some qs
 | [],qs,π,iq,ds,h=>by
  simp only [kY] at h
  split at h
  ·cases h;exact ⟨.rfl' _,[],fun _=>rfl,fun _ _=>rfl⟩
  ·cases h
 |p::ps,qs,π,iq,ds,h=>by
  simp only [kY] at h
  split at h
  ·cases h
  rename_i q qs
  split at h
  ·split at h
   ·rename_i h1
    cases h
    obtain ⟨a,rs,b,c⟩:=gq ps qs _ _ _ h1
    exact ⟨a,.ext _::rs,fun r=>(by simp only [List.cons_append,fT,b r];rfl),fun f hf=>by simp only [jl,nI,c f hf]⟩
   ·cases h
  ·split at h
   ·rename_i ho
    subst ho
    split at h
    ·rename_i hb
     obtain ⟨a,rs,b,c⟩:=gq ps qs _ _ _ h
     exact ⟨(dZ hb).1.trans a,.loc _ _::rs,fun r=>(by simp only [fT,b r];rfl),fun f hf=>by simp only [jl,nI,c f hf,dY (gK hb (hf.of a))]⟩
    ·cases h
   ·cases h
  ·split at h
   ·rename_i hb
    split at h
    ·rename_i h1
     cases h
     obtain ⟨a,rs,b,c⟩:=gq ps qs _ _ _ h1
     exact ⟨(dZ hb).1.trans a,.elem _ _::rs,fun r=>(by simp only [List.cons_append,fT,b r];rfl),fun f hf=>by simp only [jl,nI,c f hf,dY (gK hb (hf.of a))]⟩
    ·cases h
   ·cases h
  ·split at h
   ·rename_i hb
    obtain ⟨a,rs,b,c⟩:=gq ps qs _ _ _ h
    exact ⟨(dZ hb).1.trans a,.full _::rs,fun r=>(by simp only [fT,b r];rfl),fun f hf=>by simp only [jl,nI,c f hf,dY (gK hb (hf.of a))]⟩
   ·cases h
  ·split at h
   ·rename_i hb
    obtain ⟨a,rs,b,c⟩:=gq ps qs _ _ _ h
    exact ⟨(dZ hb).1.trans a,.mp _::rs,fun r=>(by simp only [fT,b r];rfl),fun f hf=>by simp only [jl,nI,c f hf,dY (gK hb (hf.of a))]⟩
   ·cases h
  ·cases h
def Pc:Nat->List DV->List Value×List DV
 |0,r=>([],r)
 |n+1,r=>match r with| .v x::r=>(match Pc n r with|(q,r)=>(x::q,r))|r=>([],r)
theorem GU: ∀(l:List Value) (r:List DV),Pc l.length (l.map .v++r)=(l,r)
 | [],r=>rfl
 |v::l,r=>by simp only [List.length_cons,List.map_cons,List.cons_append,Pc,GU l r]
def rL (π:pF) (n m:Nat) (ds:List DV):Option (pF×List DV):=match oa π n (.same m) with
 |some iq=>some (iq,ds)
 |none=>none
theorem dI {π iq:pF} {n m:Nat} {ds ds':List DV} (h:rL π n m ds=some (iq,ds')):rF π iq/\ ds'=ds/\ ∀f,uQ iq f->f[n]? =some (.same m):=by
 unfold rL at h
 split at h
 ·rename_i hb
  cases h
  exact ⟨(dZ hb).1,rfl,fun f hf=>gK hb hf⟩
 ·cases h
def rS (p:PC) (c:Cell) (π:pF):Option (pF×List DV):=match p with
 | .i k=>match c with| .raw (.int k' n)=>if k=k' then some (π,[.i n]) else none|_=>none
 | .b=>match c with| .raw (.bool x)=>some (π,[.b x])|_=>none
 | .s=>match c with| .raw (.string x)=>some (π,[.s x])|_=>none
 | .raw=>match c with| .raw v=>some (π,[.v v])|_=>none
 | .ptr n o=>match c with| .ptr m o'=>if o=o' then rL π n m [] else none|_=>none
 | .kC n=>match c with| .kC m o=>rL π n m [.n o]|_=>none
 | .sl n o=>match c with| .sl m o' l cp=>if o=o' then rL π n m [.n l,.n cp] else none|_=>none
 | .full n=>match c with
  | .full m=>rL π n m []
  | .raw (.slice none 0 0)=>(match oa π n .nil with|some iq=>some (iq,[])|none=>none)
  | .sl m off 0 0=>(match oa π n (.mt m off) with|some iq=>some (iq,[])|none=>none)
  | .sl m 0 l cp=>if cp=l then (match oa π n (.cells m l) with|some iq=>some (iq,[])|none=>none) else none
  |_=>none
 | .bA n k=>match c with| .bA m j k'=>if k=k' then rL π n m [.n j] else none|_=>none
 | .fq n=>match c with| .fq m j k=>rL π n m [.n j,.n k]|_=>none
 | .eN f nf rs=>match c with
  | .eN (.func g) first cap=>if g=f/\ first.length=nf then (match kY rs cap π with|some (iq,ds)=>some (iq,first.map .v++ds)|none=>none) else none
  |_=>none
 | .nU n=>match c with| .nU m=>rL π n m []|_=>none
 | .mp n=>match c with| .mp m=>rL π n m []|_=>none
 | .mv f a rs=>match c with| .mv g a' qs=>if g=f/\ a'=a then kY rs qs π else none|_=>none
def JB (p:PC) (r:List DV):Cell×List DV:=match p with
 | .i k=>match r with| .i n::r=>(.raw (.int k n),r)|r=>(.raw undef,r)
 | .b=>match r with| .b n::r=>(.raw (.bool n),r)|r=>(.raw undef,r)
 | .s=>match r with| .s n::r=>(.raw (.string n),r)|r=>(.raw undef,r)
 | .raw=>match r with| .v n::r=>(.raw n,r)|r=>(.raw undef,r)
 | .ptr n o=>(.ptr n o,r)
 | .kC n=>match r with| .n o::r=>(.kC n o,r)|r=>(.raw undef,r)
 | .sl n o=>match r with| .n l:: .n c::r=>(.sl n o l c,r)|r=>(.raw undef,r)
 | .full n=>(.full n,r)
 | .bA n k=>match r with| .n j::r=>(.bA n j k,r)|r=>(.raw undef,r)
 | .fq n=>match r with| .n j:: .n k::r=>(.fq n j k,r)|r=>(.raw undef,r)
 | .eN f nf rs=>match Pc nf r with|(fs,r)=>match fT rs r with|(q,r)=>(.eN (.func f) fs q,r)
 | .nU n=>(.nU n,r)
 | .mp n=>(.mp n,r)
 | .mv f a rs=>match fT rs r with|(q,r)=>(.mv f a q,r)
theorem Fa {p:PC} {c:Cell} {π iq:pF} {ds:List DV} (h:rS p c π=some (iq,ds)):
  rF π iq/\ ∃q,(∀r,JB p (ds++r)=(q,r))/\ ∀f,uQ iq f->jt f q=some c:=by
 cases p with
 |i k=>
  simp only [rS] at h
  split at h<;>try (cases h;done)
  split at h<;>try (cases h;done)
  rename_i e;cases h;subst e
  exact ⟨.rfl' _,_,fun r=>rfl,fun f _=>rfl⟩
 |b=>
  simp only [rS] at h
  split at h<;>try (cases h;done)
  cases h
  exact ⟨.rfl' _,_,fun r=>rfl,fun f _=>rfl⟩
 |s=>
  simp only [rS] at h
  split at h<;>try (cases h;done)
  cases h
  exact ⟨.rfl' _,_,fun r=>rfl,fun f _=>rfl⟩
 |raw=>
  simp only [rS] at h
  split at h<;>try (cases h;done)
  cases h
  exact ⟨.rfl' _,_,fun r=>rfl,fun f _=>rfl⟩
 |ptr n o=>
  simp only [rS] at h
  split at h<;>try (cases h;done)
  split at h<;>try (cases h;done)
  rename_i e;subst e
  obtain ⟨a,rfl,b⟩:=dI h
  exact ⟨a,_,fun r=>rfl,fun f hf=>by simp only [jt,dY (b f hf)]⟩
 |kC n=>
  simp only [rS] at h
  split at h<;>try (cases h;done)
  obtain ⟨a,rfl,b⟩:=dI h
  exact ⟨a,_,fun r=>rfl,fun f hf=>by simp only [jt,dY (b f hf)]⟩
 |sl n o=>
  simp only [rS] at h
  split at h<;>try (cases h;done)
  split at h<;>try (cases h;done)
  rename_i e;subst e
  obtain ⟨a,rfl,b⟩:=dI h
  exact ⟨a,_,fun r=>rfl,fun f hf=>by simp only [jt,dY (b f hf)]⟩
 |full n=>
  simp only [rS] at h
  split at h
  ·obtain ⟨a,rfl,b⟩:=dI h
   exact ⟨a,_,fun r=>rfl,fun f hf=>by simp only [jt,b f hf]⟩
  ·split at h
   ·rename_i hb
    cases h
    exact ⟨(dZ hb).1,_,fun r=>rfl,fun f hf=>by simp only [jt,gK hb hf]⟩
   ·cases h
  ·split at h
   ·rename_i hb
    cases h
    exact ⟨(dZ hb).1,_,fun r=>rfl,fun f hf=>by simp only [jt,gK hb hf]⟩
   ·cases h
  ·split at h<;>try (cases h;done)
   rename_i e;subst e
   split at h
   ·rename_i hb
    cases h
    exact ⟨(dZ hb).1,_,fun r=>rfl,fun f hf=>by simp only [jt,gK hb hf]⟩
   ·cases h
  ·cases h
 |bA n k=>
  simp only [rS] at h
  split at h<;>try (cases h;done)
  split at h<;>try (cases h;done)
  rename_i e;subst e
  obtain ⟨a,rfl,b⟩:=dI h
  exact ⟨a,_,fun r=>rfl,fun f hf=>by simp only [jt,dY (b f hf)]⟩
 |fq n=>
  simp only [rS] at h
  split at h<;>try (cases h;done)
  obtain ⟨a,rfl,b⟩:=dI h
  exact ⟨a,_,fun r=>rfl,fun f hf=>by simp only [jt,dY (b f hf)]⟩
 |eN f nf rs=>
  simp only [rS] at h
  split at h<;>try (cases h;done)
  split at h<;>try (cases h;done)
  rename_i e
  obtain ⟨rfl,rfl⟩:=e
  split at h<;>try (cases h;done)
  rename_i hr
  cases h
  obtain ⟨a,q,b,c⟩:=gq _ _ _ _ _ hr
  exact ⟨a,.eN (.func _) _ q,fun r=>(by simp only [JB,List.append_assoc,GU,b r];rfl),fun f hf=>by simp only [jt,c f hf]⟩
 |nU n=>
  simp only [rS] at h
  split at h<;>try (cases h;done)
  obtain ⟨a,rfl,b⟩:=dI h
  exact ⟨a,_,fun r=>rfl,fun f hf=>by simp only [jt,dY (b f hf)]⟩
 |mp n=>
  simp only [rS] at h
  split at h<;>try (cases h;done)
  obtain ⟨a,rfl,b⟩:=dI h
  exact ⟨a,_,fun r=>rfl,fun f hf=>by simp only [jt,dY (b f hf)]⟩
 |mv f ag rs=>
  simp only [rS] at h
  split at h<;>try (cases h;done)
  split at h<;>try (cases h;done)
  rename_i e
  obtain ⟨rfl,rfl⟩:=e
  obtain ⟨a,q,b,c⟩:=gq _ _ _ _ _ h
  exact ⟨a,.mv _ _ q,fun r=>(by simp only [JB,b r];rfl),fun f hf=>by simp only [jt,c f hf]⟩
def CA:List PC->List Cell->pF->Option (pF×List DV)
 | [],cs,π=>match cs with| []=>some (π,[])|_=>none
 |p::ps,cs,π=>match cs with
  | []=>none
  |c::cs=>match rS p c π with
   |some (Bb,d1)=>(match CA ps cs Bb with|some (Pg,d2)=>some (Pg,d1++d2)|none=>none)
   |none=>none
def zj:List PC->List DV->List Cell×List DV
 | [],r=>([],r)
 |p::ps,r=>match JB p r with|(c,r)=>match zj ps r with|(cs,r)=>(c::cs,r)
theorem qj: ∀(ps:List PC) (cs:List Cell) (π iq:pF) (ds:List DV),CA ps cs π=some (iq,ds)->
  rF π iq/\ ∃q,(∀r,zj ps (ds++r)=(q,r))/\ ∀f,uQ iq f->iY f q=some cs
 | [],cs,π,iq,ds,h=>by
  simp only [CA] at h
  split at h
  ·cases h;exact ⟨.rfl' _,[],fun _=>rfl,fun _ _=>rfl⟩
  ·cases h
 |p::ps,cs,π,iq,ds,h=>by
  simp only [CA] at h
  split at h
  ·cases h
  split at h
  ·rename_i h1
   split at h
   ·rename_i h2
    cases h
    obtain ⟨a,q,b,c⟩:=Fa h1
    obtain ⟨a',q',b',c'⟩:=qj ps _ _ _ _ h2
    exact ⟨a.trans a',q::q',fun r=>by simp only [zj,List.append_assoc,b,b'],fun f hf=>by simp only [iY,c f (hf.of a'),c' f hf]⟩
   ·cases h
  ·cases h
def R4 (p:PA) (a:A0) (π:pF):Option (pF×List DV):=match p with
 | .one p=>match a with| .one c=>rS p c π|_=>none
 | .agg ps=>match a with| .agg cs=>CA ps cs π|_=>none
def JA (p:PA) (r:List DV):A0×List DV:=match p with
 | .one p=>match JB p r with|(c,r)=>(.one c,r)
 | .agg ps=>match zj ps r with|(c,r)=>(.agg c,r)
theorem E9 {p:PA} {a:A0} {π iq:pF} {ds:List DV} (h:R4 p a π=some (iq,ds)):
  rF π iq/\ ∃q,(∀r,JA p (ds++r)=(q,r))/\ ∀f,uQ iq f->EL f q=some a:=by
 cases p with
 |one p=>
  simp only [R4] at h
  split at h<;>try (cases h;done)
  obtain ⟨a,q,b,c⟩:=Fa h
  exact ⟨a,.one q,fun r=>by simp only [JA,b r],fun f hf=>by simp only [EL,c f hf]⟩
 |agg ps=>
  simp only [R4] at h
  split at h<;>try (cases h;done)
  obtain ⟨a,q,b,c⟩:=qj _ _ _ _ _ h
  exact ⟨a,.agg q,fun r=>by simp only [JA,b r],fun f hf=>by simp only [EL,c f hf]⟩
def Jn:List PA->List A0->pF->Option (pF×List DV)
 | [],cs,π=>match cs with| []=>some (π,[])|_=>none
 |p::ps,cs,π=>match cs with
  | []=>none
  |c::cs=>match R4 p c π with
   |some (Bb,d1)=>(match Jn ps cs Bb with|some (Pg,d2)=>some (Pg,d1++d2)|none=>none)
   |none=>none
def HB:List PA->List DV->List A0×List DV
 | [],r=>([],r)
 |p::ps,r=>match JA p r with|(c,r)=>match HB ps r with|(cs,r)=>(c::cs,r)
theorem Cz: ∀(ps:List PA) (cs:List A0) (π iq:pF) (ds:List DV),Jn ps cs π=some (iq,ds)->
  rF π iq/\ ∃q,(∀r,HB ps (ds++r)=(q,r))/\ ∀f,uQ iq f->jG f q=some cs
 | [],cs,π,iq,ds,h=>by
  simp only [Jn] at h
  split at h
  ·cases h;exact ⟨.rfl' _,[],fun _=>rfl,fun _ _=>rfl⟩
  ·cases h
 |p::ps,cs,π,iq,ds,h=>by
  simp only [Jn] at h
  split at h
  ·cases h
  split at h
  ·rename_i h1
   split at h
   ·rename_i h2
    cases h
    obtain ⟨a,q,b,c⟩:=E9 h1
    obtain ⟨a',q',b',c'⟩:=Cz ps _ _ _ _ h2
    exact ⟨a.trans a',q::q',fun r=>by simp only [HB,List.append_assoc,b,b'],fun f hf=>by simp only [jG,c f (hf.of a'),c' f hf]⟩
   ·cases h
  ·cases h
def CC:List PV->List AV->pF->Option (pF×List DV)
 | [],vs,π=>match vs with| []=>some (π,[])|_=>none
 |p::ps,vs,π=>match vs with
  | []=>none
  |x::vs=>match p with
   | .d=>CC ps vs π
   | .v a=>(match x with
    | .v y=>(match R4 a y π with
     |some (Bb,d1)=>(match CC ps vs Bb with|some (Pg,d2)=>some (Pg,d1++d2)|none=>none)
     |none=>none)
    |_=>none)
   | .lZ l=>(match x with
    | .lZ m=>(match Jn l m π with
     |some (Bb,d1)=>(match CC ps vs Bb with|some (Pg,d2)=>some (Pg,d1++d2)|none=>none)
     |none=>none)
    |_=>none)
def rY:List PV->List DV->List AV×List DV
 | [],r=>([],r)
 | .d::ps,r=>match rY ps r with|(q,r)=>(.dead::q,r)
 | .v a::ps,r=>match JA a r with|(x,r)=>match rY ps r with|(q,r)=>(.v x::q,r)
 | .lZ l::ps,r=>match HB l r with|(x,r)=>match rY ps r with|(q,r)=>(.lZ x::q,r)
theorem qk: ∀(ps:List PV) (vs:List AV) (π iq:pF) (ds:List DV),CC ps vs π=some (iq,ds)->
  rF π iq/\ ∃q,(∀r,rY ps (ds++r)=(q,r))/\ ∀f,uQ iq f->GV f vs q
 | [],vs,π,iq,ds,h=>by
  simp only [CC] at h
  split at h
  ·cases h;exact ⟨.rfl' _,[],fun _=>rfl,fun _ _=>trivial⟩
  ·cases h
 |p::ps,vs,π,iq,ds,h=>by
  simp only [CC] at h
  split at h
  ·cases h
  rename_i x vs
  cases p with
  |d=>
   obtain ⟨a,q,b,c⟩:=qk ps vs _ _ _ h
   exact ⟨a,.dead::q,fun r=>by simp only [rY,b r],fun f hf=>c f hf⟩
  |v pa=>
   dsimp only at h
   split at h<;>try (cases h;done)
   split at h<;>try (cases h;done)
   rename_i h1
   split at h<;>try (cases h;done)
   rename_i h2
   cases h
   obtain ⟨a,q,b,c⟩:=E9 h1
   obtain ⟨a',q',b',c'⟩:=qk ps _ _ _ _ h2
   exact ⟨a.trans a',.v q::q',fun r=>by simp only [rY,List.append_assoc,b,b'],fun f hf=>⟨by simp only [zG,c f (hf.of a')],c' f hf⟩⟩
  |lZ l=>
   dsimp only at h
   split at h<;>try (cases h;done)
   split at h<;>try (cases h;done)
   rename_i h1
   split at h<;>try (cases h;done)
   rename_i h2
   cases h
   obtain ⟨a,q,b,c⟩:=Cz _ _ _ _ _ h1
   obtain ⟨a',q',b',c'⟩:=qk ps _ _ _ _ h2
   exact ⟨a.trans a',.lZ q::q',fun r=>by simp only [rY,List.append_assoc,b,b'],fun f hf=>⟨by simp only [zG,c f (hf.of a')],c' f hf⟩⟩
def VX (π:pF):Nat->Bool
 |0=>true
 |n+1=>(match π[n]? with|some (some (.same m))=>m==n|_=>false)&&VX π n
theorem Fm {π:pF} {f:List Src} (hf:uQ π f): ∀ {n:Nat},VX π n=true->zk f n=true
 |0,_=>rfl
 |n+1,h=>by
  simp only [VX,Bool.and_eq_true] at h
  simp only [zk,Bool.and_eq_true]
  refine ⟨?_,Fm hf h.2⟩
  have h1:=h.1
  split at h1
  ·rename_i m hm
   rw [hf _ _ hm];exact h1
  ·cases h1
def uY (h:List aQ) (p:PO) (s:Src) (π:pF):Option (pF×List DV):=match p with
 | .gone=>none
 | .cells ps e=>match s with
  | .same m=>(match av h m with|some (.cells cs e')=>if e=e' then CA ps cs π else none|_=>none)
  |_=>none
 | .row t rk=>match s with
  | .same m=>(match av h m with
   |some (.row u l k)=>if k=rk then (match jU u t l with|some l'=>some (π,[.l t l'])|none=>none) else none
   |_=>none)
  | .nil=>if rk=0 then none else some (π,[.l t []])
  | .mt m _=>if rk=3 then (match av h m with|some (.cells _ _)=>some (π,[.l t []])|_=>none) else none
  | .any _=>none
  | .cells m len=>if (rk=2\/ rk=3)/\ t.flat=true then (match av h m with
   |some (.cells cs _)=>if cs.length=len*t.size/\ Nat.ble len 1099511627776=true then (match tW (cL (fun _=>none) t) len cs with|some (l,[])=>some (π,[.l t l])|_=>none) else none
   |_=>none) else none
 | .alias n q=>match s with
  | .same m=>(match av h m with
   |some (.alias n' a b)=>(match q,b with
    |false,none=>rL π n n' [.n a]
    |true,some x=>rL π n n' [.n a,.n x]
    |_,_=>none)
   |_=>none)
  |_=>none
 | .loop busy=>match s with
  | .same m=>(match av h m with
   |some (.loop r s none)=>(match busy,s with
    |false,.ready=>some (π,[.lo r])
    |true,.busy=>some (π,[.lo r])
    |_,_=>none)
   |_=>none)
  |_=>none
 | .eJ k=>match s with
  | .same m=>(match av h m with|some (.eJ ρ k')=>if k=k'/\ VX π k=true then some (π,[.env ρ]) else none|_=>none)
  |_=>none
 | .ga=>match s with
  | .same m=>(match av h m with|some (.ga S)=>some (π,[.hd S])|_=>none)
  |_=>none
 | .map ka va k v=>match s with
  | .same m=>(match av h m with
   |some (.map ka' va' k' v' l)=>if ka'=ka/\ va'=va then (match jU (.prod k' v') (.prod k v) l with|some l'=>some (π,[.l (.prod k v) l'])|none=>none) else none
   |_=>none)
  |_=>none
 | .jO ka k u c=>match s with
  | .same m=>(match av h m with
   |some (.jO ka' k' u' l c' none)=>if ka'=ka then (match jU (.prod k' (.sl u')) (.prod k (.sl u)) l with|some l'=>rL π c c' [.l (.prod k (.sl u)) l']|none=>none) else none
   |_=>none)
  |_=>none
 | .set n=>match s with
  | .same m=>(match av h m with|some (.set n')=>rL π n n' []|_=>none)
  |_=>none
 | .gv n c k u=>match s with
  | .same m=>(match av h m with
   |some (.gv n' c' k' u' x l)=>(match E6 k' k x,jU u' u l with
    |some x',some l'=>(match oa π n (.same n') with|some Bb=>rL Bb c c' [.tv k x',.l u l']|none=>none)
    |_,_=>none)
   |_=>none)
  |_=>none
 | .rc ps=>match s with
  | .same m=>(match av h m with|some (.rc cs)=>CA ps cs π|_=>none)
  |_=>none
 | .dp t c st=>match s with
  | .same m=>(match av h m with
   |some (.dp t' l c' st' kn)=>if st'=st then (match jU t' t l with|some l'=>rL π c c' [.l t l',.b kn]|none=>none) else none
   |_=>none)
  |_=>none
 | .nv n c q u=>match s with
  | .same m=>(match av h m with
   |some (.nv n' c' j q' u')=>if q'=q/\ u'=u then (match oa π n (.same n') with|some Bb=>rL Bb c c' [.n j]|none=>none) else none
   |_=>none)
  |_=>none
def ni (p:PO) (r:List DV):aQ×List DV:=match p with
 | .gone=>(.gone,r)
 | .cells ps e=>match zj ps r with|(cs,r)=>(.cells cs e,r)
 | .row t rk=>match r with|d::r=>(match d.as (.l t) with|some l=>(.row t l rk,r)|none=>(.gone,r))|r=>(.gone,r)
 | .alias n false=>match r with| .n a::r=>(.alias n a none,r)|r=>(.gone,r)
 | .alias n true=>match r with| .n a:: .n b::r=>(.alias n a (some b),r)|r=>(.gone,r)
 | .loop busy=>match r with| .lo l::r=>(.loop l (bif busy then .busy else .ready) none,r)|r=>(.gone,r)
 | .eJ k=>match r with| .env ρ::r=>(.eJ ρ k,r)|r=>(.gone,r)
 | .ga=>match r with| .hd S::r=>(.ga S,r)|r=>(.gone,r)
 | .map ka va k v=>match r with|d::r=>(match d.as (.l (.prod k v)) with|some l=>(.map ka va k v l,r)|none=>(.gone,r))|r=>(.gone,r)
 | .jO ka k u c=>match r with|d::r=>(match d.as (.l (.prod k (.sl u))) with|some l=>(.jO ka k u l c none,r)|none=>(.gone,r))|r=>(.gone,r)
 | .set n=>(.set n,r)
 | .rc ps=>match zj ps r with|(cs,r)=>(.rc cs,r)
 | .dp t c st=>match r with|d:: .b kn::r=>(match d.as (.l t) with|some l=>(.dp t l c st kn,r)|none=>(.gone,r))|r=>(.gone,r)
 | .nv n c q u=>match r with| .n j::r=>(.nv n c j q u,r)|r=>(.gone,r)
 | .gv n c k u=>match r with|d::e::r=>(match d.as (.tv k),e.as (.l u) with|some x,some l=>(.gv n c k u x l,r)|_,_=>(.gone,r))|r=>(.gone,r)
theorem LC (t:Ty) (x:t.T):E6 t t x=some x:=by unfold E6;rw [dif_pos rfl]
theorem mW (t:Ty) (l:List t.T):jU t t l=some l:=by unfold jU;rw [dif_pos rfl]
theorem tu (t:Ty) (rk:Nat) (l:List t.T) (r:List DV):ni (.row t rk) (.l t l::r)=(.row t l rk,r):=by
 simp only [ni,DV.as,mW]
theorem Qf (ka va:Bool) (k v:Ty) (l:List (k.T×v.T)) (r:List DV):ni (.map ka va k v) (.l (.prod k v) l::r)=(.map ka va k v l,r):=by
 simp only [ni,DV.as,mW]
theorem Qe (ka:Bool) (k u:Ty) (c:Nat) (l:List (k.T×List u.T)) (r:List DV):ni (.jO ka k u c) (.l (.prod k (.sl u)) l::r)=(.jO ka k u l c none,r):=by
 simp only [ni,DV.as,mW]
theorem Sw (n c:Nat) (k u:Ty) (x:k.T) (l:List u.T) (r:List DV):ni (.gv n c k u) (.tv k x:: .l u l::r)=(.gv n c k u x l,r):=by
 simp only [ni,DV.as,mW,LC]
theorem Sv (t:Ty) (c:Nat) (st kn:Bool) (l:List t.T) (r:List DV):ni (.dp t c st) (.l t l:: .b kn::r)=(.dp t l c st kn,r):=by
 simp only [ni,DV.as,mW]
theorem PU {h:List aQ} {p:PO} {s:Src} {π iq:pF} {ds:List DV} (hd:uY h p s π=some (iq,ds)):
  rF π iq/\ ∃o,o≠ .gone/\ (∀r,ni p (ds++r)=(o,r))/\ ∀f,uQ iq f->Bn f h s o:=by
 cases p with
 |gone=>cases hd
 |cells ps e=>
  simp only [uY] at hd
  split at hd<;>try (cases hd;done)
  split at hd<;>try (cases hd;done)
  rename_i hl
  split at hd<;>try (cases hd;done)
  rename_i he;subst he
  obtain ⟨a,q,b,c⟩:=qj _ _ _ _ _ hd
  exact ⟨a,.cells q _,by simp,fun r=>(by simp only [ni,b r];rfl),fun f hf=>⟨_,hl,by simp only [gg,c f hf]⟩⟩
 |row t rk=>
  simp only [uY] at hd
  split at hd
  ·split at hd<;>try (cases hd;done)
   rename_i hl
   split at hd<;>try (cases hd;done)
   rename_i hk;subst hk
   split at hd<;>try (cases hd;done)
   rename_i hc
   cases hd
   obtain ⟨e1,e2⟩:=dV hc
   subst e1
   dsimp only at e2
   subst e2
   exact ⟨.rfl' _,_,by simp,fun r=>tu _ _ _ r,fun f hf=>⟨_,hl,rfl⟩⟩
  ·split at hd<;>try (cases hd;done)
   rename_i hk
   cases hd
   exact ⟨.rfl' _,_,by simp,fun r=>tu _ _ _ r,fun f hf=>⟨t,rk,rfl,hk⟩⟩
  ·split at hd<;>try (cases hd;done)
   rename_i hk
   subst hk
   split at hd<;>try (cases hd;done)
   rename_i hl
   cases hd
   exact ⟨.rfl' _,_,by simp,fun r=>tu _ _ _ r,fun f hf=>⟨t,_,_,rfl,hl⟩⟩
  ·cases hd
  ·split at hd<;>try (cases hd;done)
   rename_i hk
   obtain ⟨o7,hfl⟩:=hk
   split at hd<;>try (cases hd;done)
   rename_i hl
   split at hd<;>try (cases hd;done)
   rename_i hlen
   split at hd<;>try (cases hd;done)
   rename_i hN
   cases hd
   exact ⟨.rfl' _,_,by simp,fun r=>tu _ _ _ r,fun f hf=>⟨t,_,_,_,_,rfl,o7,hl,hfl,hN,hlen⟩⟩
 |alias n q=>
  simp only [uY] at hd
  split at hd<;>try (cases hd;done)
  split at hd<;>try (cases hd;done)
  rename_i hl
  split at hd<;>try (cases hd;done)
  ·obtain ⟨a,rfl,b⟩:=dI hd
   exact ⟨a,_,by simp,fun r=>rfl,fun f hf=>⟨_,hl,by simp only [gg,dY (b f hf)]⟩⟩
  ·obtain ⟨a,rfl,b⟩:=dI hd
   exact ⟨a,_,by simp,fun r=>rfl,fun f hf=>⟨_,hl,by simp only [gg,dY (b f hf)]⟩⟩
 |loop busy=>
  simp only [uY] at hd
  split at hd<;>try (cases hd;done)
  split at hd<;>try (cases hd;done)
  rename_i hl
  split at hd<;>try (cases hd;done)
  all_goals
   cases hd
   exact ⟨.rfl' _,_,by simp,fun r=>rfl,fun f hf=>⟨_,hl,rfl⟩⟩
 |eJ k=>
  simp only [uY] at hd
  split at hd<;>try (cases hd;done)
  split at hd<;>try (cases hd;done)
  rename_i hl
  split at hd<;>try (cases hd;done)
  rename_i hk
  obtain ⟨rfl,hk⟩:=hk
  cases hd
  exact ⟨.rfl' _,_,by simp,fun r=>rfl,fun f hf=>⟨_,hl,by simp only [gg,Fm hf hk,if_true]⟩⟩
 |ga=>
  simp only [uY] at hd
  split at hd<;>try (cases hd;done)
  split at hd<;>try (cases hd;done)
  rename_i hl
  cases hd
  exact ⟨.rfl' _,_,by simp,fun r=>rfl,fun f hf=>⟨_,hl,rfl⟩⟩
 |map ka va k v=>
  simp only [uY] at hd
  split at hd<;>try (cases hd;done)
  split at hd<;>try (cases hd;done)
  rename_i hl
  split at hd<;>try (cases hd;done)
  rename_i hk
  obtain ⟨rfl,rfl⟩:=hk
  split at hd<;>try (cases hd;done)
  rename_i hc
  cases hd
  obtain ⟨e1,e2⟩:=dV hc
  cases e1
  dsimp only at e2
  subst e2
  exact ⟨.rfl' _,_,by simp,fun r=>Qf _ _ _ _ _ r,fun f hf=>⟨_,hl,rfl⟩⟩
 |jO ka k u c=>
  simp only [uY] at hd
  split at hd<;>try (cases hd;done)
  split at hd<;>try (cases hd;done)
  rename_i hl
  split at hd<;>try (cases hd;done)
  rename_i hk;subst hk
  split at hd<;>try (cases hd;done)
  rename_i hc
  obtain ⟨e1,e2⟩:=dV hc
  cases e1
  dsimp only at e2
  subst e2
  obtain ⟨a,rfl,b⟩:=dI hd
  exact ⟨a,_,by simp,fun r=>Qe _ _ _ _ _ r,fun f hf=>⟨_,hl,by simp only [gg,dY (b f hf)]⟩⟩
 |set n=>
  simp only [uY] at hd
  split at hd<;>try (cases hd;done)
  split at hd<;>try (cases hd;done)
  rename_i hl
  obtain ⟨a,rfl,b⟩:=dI hd
  exact ⟨a,_,by simp,fun r=>rfl,fun f hf=>⟨_,hl,by simp only [gg,dY (b f hf)]⟩⟩
 |gv n c k u=>
  simp only [uY] at hd
  split at hd<;>try (cases hd;done)
  split at hd<;>try (cases hd;done)
  rename_i hl
  split at hd<;>try (cases hd;done)
  rename_i hx hc
  split at hd<;>try (cases hd;done)
  rename_i Bb hb
  obtain ⟨e1,e2⟩:=dV hc
  subst e1
  dsimp only at e2
  subst e2
  obtain ⟨e3,e4⟩:=Jg hx
  subst e3
  dsimp only at e4
  subst e4
  obtain ⟨a,rfl,b⟩:=dI hd
  have s1:=(dZ hb).1
  exact ⟨s1.trans a,_,by simp,fun r=>Sw _ _ _ _ _ _ r,fun f hf=>⟨_,hl,by simp only [gg,dY (b f hf),dY (gK hb (hf.of a))]⟩⟩
 |rc ps=>
  simp only [uY] at hd
  split at hd<;>try (cases hd;done)
  split at hd<;>try (cases hd;done)
  rename_i hl
  obtain ⟨a,q,b,c⟩:=qj _ _ _ _ _ hd
  exact ⟨a,.rc q,by simp,fun r=>(by simp only [ni,b r]),fun f hf=>⟨_,hl,by simp only [gg,c f hf]⟩⟩
 |dp t c st=>
  simp only [uY] at hd
  split at hd<;>try (cases hd;done)
  split at hd<;>try (cases hd;done)
  rename_i hl
  split at hd<;>try (cases hd;done)
  rename_i hk;subst hk
  split at hd<;>try (cases hd;done)
  rename_i hc
  obtain ⟨e1,e2⟩:=dV hc
  subst e1
  dsimp only at e2
  subst e2
  obtain ⟨a,rfl,b⟩:=dI hd
  exact ⟨a,_,by simp,fun r=>Sv _ _ _ _ _ r,fun f hf=>⟨_,hl,by simp only [gg,dY (b f hf)]⟩⟩
 |nv n c q u=>
  simp only [uY] at hd
  split at hd<;>try (cases hd;done)
  split at hd<;>try (cases hd;done)
  rename_i hl
  split at hd<;>try (cases hd;done)
  rename_i hk
  obtain ⟨rfl,rfl⟩:=hk
  split at hd<;>try (cases hd;done)
  rename_i Bb hb
  obtain ⟨a,rfl,b⟩:=dI hd
  have s1:=(dZ hb).1
  exact ⟨s1.trans a,_,by simp,fun r=>rfl,fun f hf=>⟨_,hl,by simp only [gg,dY (b f hf),dY (gK hb (hf.of a))]⟩⟩
def PO.Tc:PO->Bool
 | .gone=>true
 |_=>false
def Fb (h:List aQ):List PO->Nat->pF->Option (pF×List DV)
 | [],_,π=>some (π,[])
 |p::ps,n,π=>match p.Tc with
  |true=>Fb h ps (n+1) π
  |false=>match π[n]? with
   |some (some s)=>(match uY h p s π with
    |some (Bb,d1)=>(match Fb h ps (n+1) Bb with|some (Pg,d2)=>some (Pg,d1++d2)|none=>none)
    |none=>none)
   |_=>none
def CQ:List PO->List DV->List aQ×List DV
 | [],r=>([],r)
 |p::ps,r=>match ni p r with|(c,r)=>match CQ ps r with|(cs,r)=>(c::cs,r)
theorem L9 {π:List Src} {h:List aQ} {s:Src} {o:aQ} {ss:List Src} {os:List aQ} (ho:o≠ .gone) (h1:Bn π h s o) (h2:qW π h ss os):qW π h (s::ss) (o::os):=by
 cases o<;>first|exact absurd rfl ho|exact ⟨h1,h2⟩
theorem uZ {h:List aQ} : ∀(ps:List PO) (n:Nat) (π iq:pF) (ds:List DV),Fb h ps n π=some (iq,ds)->
  rF π iq/\ ∃os,(∀r,CQ ps (ds++r)=(os,r))/\ ∀f,uQ iq f->f.length=n+ps.length->qW f h (f.drop n) os
 | [],n,π,iq,ds,hd=>by
  simp only [Fb,Option.some.injEq,Prod.mk.injEq] at hd
  obtain ⟨rfl,rfl⟩:=hd
  refine ⟨.rfl' _,[],fun _=>rfl,fun f _ hl=> ?_⟩
  rw [List.drop_eq_nil_of_le (by simp at hl;omega)];trivial
 |p::ps,n,π,iq,ds,hd=>by
  simp only [Fb] at hd
  split at hd
  ·rename_i hg
   cases p<;>simp [PO.Tc] at hg
   obtain ⟨a,q,b,c⟩:=uZ ps _ _ _ _ hd
   refine ⟨a,.gone::q,fun r=>by simp only [CQ,ni,b r],fun f hf hl=> ?_⟩
   rw [List.length_cons] at hl
   rw [List.drop_eq_getElem_cons (by omega)]
   exact c f hf (by omega)
  ·split at hd<;>try (cases hd;done)
   rename_i s hs
   split at hd<;>try (cases hd;done)
   rename_i h1
   split at hd<;>try (cases hd;done)
   rename_i h2
   cases hd
   obtain ⟨a,o,hg,b,c⟩:=PU h1
   obtain ⟨a',q',b',c'⟩:=uZ ps _ _ _ _ h2
   refine ⟨a.trans a',o::q',fun r=>by simp only [CQ,List.append_assoc,b,b'],fun f hf hl=> ?_⟩
   rw [List.length_cons] at hl
   have e:=hf.of (a.trans a') n s hs
   rw [List.drop_eq_getElem_cons (by omega)]
   have e2:f[n]'(by omega)=s:=by rw [List.getElem?_eq_getElem (by omega)] at e;exact Option.some.inj e
   rw [e2]
   exact L9 hg (c f (hf.of a')) (c' f hf (by omega))
structure rE (gt:List HT) where
 ps:List PV
 po:List PO
 top:Nat:=0
 wZ:Option Nat:=none
 gi:List Nat:= []
 ci:List Nat:= []
 vi:List Nat
 ts:List HT
 c:List DV:= []
def YM:aQ->Bool
 | .ga _=>true
 |_=>false
def JC:List aQ->Nat->Option Nat
 | [],_=>none
 |o::r,n=>match YM o with|true=>some n|false=>JC r (n+1)
namespace rE
variable {gt:List HT}
def N (p:rE gt):Nat:=p.gi.length+p.ci.length+p.vi.length
def idx (p:rE gt):List Nat:=p.gi++(p.ci++p.vi)
def Vu:List Nat->Nat->Bool
 |_,0=>true
 |l,n+1=>Bm n l&&Vu l n
def ok (p:rE gt):Bool:=Vu p.idx p.N
def X3 (p:rE gt) (h:List aQ):Option pF:=
 match p.wZ with
 |none=>some ((List.range p.po.length).map fun i=>bif Nat.blt i p.top then some (.same i) else none)
 |some n=>match JC h 0 with
  |some j=>oa ((List.range p.po.length).map fun i=>bif Nat.blt i p.top then some (.same i) else none) n (.same j)
  |none=>none
def wK (p:rE gt) (ds:List DV):AS:=match rY p.ps ds with
 |(ts,r)=>match CQ p.po r with
  |(os,_)=>⟨ts,os⟩
def fill (p:rE gt) (g:TT gt) (s:TT p.ts):AS:=p.wK (Zj p.idx (Dw gt g++(p.c++Dw p.ts s)) p.N)
def fin (π:pF):List Src:=π.map fun o=>match o with|some s=>s|none=> .nil
def read (p:rE gt) (st:AS):Option (TT gt×List DV×TT p.ts):=match p.X3 st.heap with
 |none=>none
 |some π0=>match CC p.ps st.tmps π0 with
  |none=>none
  |some (Bb,d1)=>match Fb st.heap p.po 0 Bb with
   |none=>none
   |some (Pg,d2)=>match Nat.beq (d1++d2).length p.N&&qD (ua (fin Pg) (p.wK (d1++d2)).heap) with
    |false=>none
    |true=>match NB gt (EB p.gi (d1++d2)),NB p.ts (EB p.vi (d1++d2)) with
     |some g,some s=>some (g,EB p.ci (d1++d2),s)
     |_,_=>none
theorem Sx (π:pF):uQ π (fin π):=fun n s h=>by simp [fin,h]
theorem E3 {l:List Nat} : ∀ {n:Nat},Vu l n=true-> ∀j,j<n->j∈l
  |0,_,j,h=>by omega
  | n+1,h,j,hj=>by
    simp only [Vu,Bool.and_eq_true] at h
    rcases Nat.lt_or_ge j n with h1|h1
    · exact E3 h.2 j h1
    · have:j=n:=by omega
      subst this;exact J9 h.1
where J9 {x:Nat} : ∀ {l:List Nat},Bm x l=true->x∈l
        | [],h=>by cases h
        | y::r,h=>by
          simp only [Bm,Bool.or_eq_true] at h
          rcases h with h|h
          · simp [Nat.eq_of_beq_eq_true h]
          · exact List.mem_cons_of_mem _ (J9 h)
theorem RM {p:rE gt} {h:List aQ} {π:pF} (hb:p.X3 h=some π):π.length=p.po.length:=by
 unfold X3 at hb
 split at hb
 ·cases hb;simp
 ·split at hb
  ·rw [(dZ hb).1.len];simp
  ·cases hb
theorem OG {p:rE gt} (hp:p.ok=true) {st:AS} {g:TT gt} {c:List DV} {s:TT p.ts} (h:p.read st=some (g,c,s)) (hc:c=p.c):mS st (p.fill g s):=by
 unfold read at h
 split at h<;>try (cases h;done)
 rename_i π0 h0
 split at h<;>try (cases h;done)
 rename_i Bb d1 h1
 split at h<;>try (cases h;done)
 rename_i Pg d2 h2
 split at h<;>try (cases h;done)
 rename_i hn
 simp only [Bool.and_eq_true] at hn
 split at h<;>try (cases h;done)
 rename_i g' s' hg hs
 cases h
 have hlen:(d1++d2).length=p.N:=Nat.eq_of_beq_eq_true hn.1
 have key:p.fill g s=p.wK (d1++d2):=by
  unfold fill
  rw [IE _ _ _ hg,IE _ _ _ hs,<- hc]
  have:EB p.gi (d1++d2)++(EB p.ci (d1++d2)++EB p.vi (d1++d2))=EB p.idx (d1++d2):=by simp [EB,idx]
  rw [this,<- hlen,Q8 fun j hj=>E3 hp j (by omega)]
 rw [key]
 obtain ⟨a,q,b,t⟩:=qk _ _ _ _ _ h1
 obtain ⟨a',q',b',t'⟩:=uZ _ _ _ _ _ h2
 have b'':=b' []
 rw [List.append_nil] at b''
 have e:p.wK (d1++d2)=⟨q,q'⟩:=by simp only [wK,b d2,b'']
 refine ⟨fin Pg,?_,?_,?_⟩
 ·rw [e];exact t _ ((Sx _).of a')
 ·rw [e]
  have:=t' (fin Pg) (Sx _) (by simp [fin,a'.len,a.len,RM h0])
  rwa [List.drop_zero] at this
 ·exact hn.2
end rE
end Go.Ev
