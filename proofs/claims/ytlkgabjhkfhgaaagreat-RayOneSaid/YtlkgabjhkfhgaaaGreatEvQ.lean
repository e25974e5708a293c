/- States as patterns: what is read out of a state, and that the state knows no less than the pattern with these values. -/
import Derived.Test.YtlkgabjhkfhgaaaGreatEvP
noncomputable section
set_option linter.unusedSectionVars false
set_option linter.unusedVariables false
set_option linter.unusedSimpArgs false
namespace Go.Ev
inductive HT
 |i|b|s|n|v|env|lo|hd
 |l (t:Ty)
 |tv (t:Ty)
@[reducible] def HT.T:HT->Type
 | .i=>Int
 | .b=>Bool
 | .s=>ByteArray
 | .n=>Nat
 | .v=>Value
 | .env=>Env
 | .lo=>Loop
 | .hd=>Nat->Prop
 | .l t=>List t.T
 | .tv t=>t.T
inductive DV
 |i (x:Int)|b (x:Bool)|s (x:ByteArray)|n (x:Nat)|v (x:Value)|env (x:Env)|lo (x:Loop)|hd (x:Nat->Prop)
 |l (t:Ty) (x:List t.T)
 |tv (t:Ty) (x:t.T)
def D2 (t u:Ty) (x:t.T):Option u.T:=if h:t=u then some (h▸x) else none
theorem HC {u' u:Ty} {x:u'.T} {y:u.T} (h:D2 u' u x=some y): ∃e:u'=u,e▸x=y:=by
 unfold D2 at h
 split at h
 ·rename_i e;cases h;exact ⟨e,rfl⟩
 ·cases h
def DV.as:(h:HT)->DV->Option h.T
 | .i,d=>match d with| .i x=>some x|_=>none
 | .b,d=>match d with| .b x=>some x|_=>none
 | .s,d=>match d with| .s x=>some x|_=>none
 | .n,d=>match d with| .n x=>some x|_=>none
 | .v,d=>match d with| .v x=>some x|_=>none
 | .env,d=>match d with| .env x=>some x|_=>none
 | .lo,d=>match d with| .lo x=>some x|_=>none
 | .hd,d=>match d with| .hd x=>some x|_=>none
 | .l t,d=>match d with| .l u x=>iy u t x|_=>none
 | .tv t,d=>match d with| .tv u x=>D2 u t x|_=>none
def DV.of:(h:HT)->h.T->DV
 | .i,x=> .i x
 | .b,x=> .b x
 | .s,x=> .s x
 | .n,x=> .n x
 | .v,x=> .v x
 | .env,x=> .env x
 | .lo,x=> .lo x
 | .hd,x=> .hd x
 | .l t,x=> .l t x
 | .tv t,x=> .tv t x
theorem DV.VN {h:HT} {d:DV} {x:h.T} (e:d.as h=some x):DV.of h x=d:=by
 cases h with
 |l t=>
  cases d<;>simp only [DV.as] at e<;>try (cases e;done)
  rename_i u y
  obtain ⟨e1,e2⟩:=cn e
  subst e1
  dsimp only at e2
  subst e2
  rfl
 |tv t=>
  cases d<;>simp only [DV.as] at e<;>try (cases e;done)
  rename_i u y
  obtain ⟨e1,e2⟩:=HC e
  subst e1
  dsimp only at e2
  subst e2
  rfl
 |_=>cases d<;>simp only [DV.as] at e<;>first|(cases e;done)|(cases e;rfl)
@[reducible] def TT:List HT->Type
 | []=>Unit
 | [a]=>a.T
 |a::c::r=>a.T×TT (c::r)
def Lx:(ts:List HT)->List DV->Option (TT ts)
 | [],ds=>match ds with| []=>some ()|_=>none
 | [a],ds=>match ds with| [d]=>d.as a|_=>none
 |a::c::r,ds=>match ds with
  |d::q=>match d.as a,Lx (c::r) q with|some x,some y=>some (x,y)|_,_=>none
  | []=>none
def Gz:(ts:List HT)->TT ts->List DV
 | [],_=> []
 | [a],x=> [DV.of a x]
 |a::c::r,x=>DV.of a x.1::Gz (c::r) x.2
theorem GZ: ∀(ts:List HT) (ds:List DV) (x:TT ts),Lx ts ds=some x->Gz ts x=ds
 | [],ds,x,h=>by
  simp only [Lx] at h
  split at h<;>first|rfl|cases h
 | [a],ds,x,h=>by
  simp only [Lx] at h
  split at h
  ·simp only [Gz,DV.VN h]
  ·cases h
 |a::c::r,ds,x,h=>by
  simp only [Lx] at h
  split at h
  ·split at h
   ·rename_i y z h1 h2
    cases h
    simp only [Gz,DV.VN h1,GZ _ _ _ h2]
   ·cases h
  ·cases h
def pick:List Nat->List DV->Nat->DV
 |k::r,v::q,j=>bif Nat.beq k j then v else pick r q j
 |_,_,_=> .n 0
def Dv (idx:List Nat) (ds:List DV):List DV:=idx.map fun j=>ds.getD j (.n 0)
def XI (idx:List Nat) (vs:List DV) (n:Nat):List DV:=(List.range n).map (pick idx vs)
theorem IM (f:Nat->DV): ∀(idx:List Nat) (j:Nat),j∈idx->pick idx (idx.map f) j=f j
  | [],_,h=>by cases h
  | k::r,j,h=>by
    simp only [List.map_cons,pick]
    by_cases e:k=j
    · subst e;simp
    · have:Nat.beq k j=false:=by rw [Nat.beq_eq_false_iff_ne];exact e
      rw [this]
      exact IM f r j ((List.mem_cons.1 h).resolve_left fun h=>e h.symm)
where Nat.beq_eq_false_iff_ne {a b:Nat} :Nat.beq a b=false↔a≠b:=by
        rw [<- Bool.not_eq_true,Nat.beq_eq]
theorem O8 {idx:List Nat} {ds:List DV} (h: ∀j,j<ds.length->j∈idx):XI idx (Dv idx ds) ds.length=ds:=by
 unfold XI Dv
 refine List.ext_getElem (by simp) fun i h1 h2=> ?_
 simp only [List.getElem_map,List.getElem_range]
 rw [IM _ _ _ (h i h2),List.getD_eq_getElem?_getD,List.getElem?_eq_getElem h2];rfl
inductive PR
 |ext
 |loc (n off:Nat)
 |elem (n:Nat)
 |full (n:Nat)
 |mp (n:Nat)
inductive PC
 |i (k:IntKind)
 |b|s|raw
 |ptr (n off:Nat)
 |kV (n:Nat)
 |sl (n off:Nat)
 |full (n:Nat)
 |cN (n k:Nat)
 |eZ (n:Nat)
 |jS (f:FuncId) (nf:Nat) (rs:List PR)
 |Hl (n:Nat)
 |mp (n:Nat)
 |mv (f:FuncId) (agg:Bool) (rs:List PR)
inductive PA
 |one (p:PC)
 |agg (l:List PC)
inductive PV
 |d
 |v (a:PA)
 |oG (l:List PA)
inductive PO
 |gone
 |cells (l:List PC) (e:TypeId)
 |row (t:Ty) (rk:Nat)
 |alias (n:Nat) (q:Bool)
 |loop (busy:Bool)
 |dO (n:Nat)
 |fJ
 |map (ka va:Bool) (k v:Ty)
 |Ec (ka:Bool) (k u:Ty) (c:Nat)
 |set (n:Nat)
 |gv (n c:Nat) (k u:Ty)
 |rc (l:List PC)
 |dp (t:Ty) (c:Nat) (st:Bool)
 |nv (n c q:Nat) (u:Ty)
abbrev oF:=List (Option Src)
def Src.ZS:Src->Src->Bool
 | .same a,.same b=>Nat.beq a b
 | .nil,.nil=>true
 | .cells a b,.cells c d=>Nat.beq a c&&Nat.beq b d
 | .mt a b,.mt c d=>Nat.beq a c&&Nat.beq b d
 |_,_=>false
theorem Src.Wy {a b:Src} (h:Src.ZS a b=true):a=b:=by
 cases a<;>cases b<;>simp_all [Src.ZS]
def nt (π:oF) (n:Nat) (s:Src):Option oF:=match π[n]? with
 |some none=>some (π.set n (some s))
 |some (some t)=>bif Src.ZS t s then some π else none
 |none=>none
structure qH (π gJ:oF):Prop where
 len:gJ.length=π.length
 sub: ∀(n:Nat) (s:Src),π[n]? =some (some s)->gJ[n]? =some (some s)
theorem qH.rfl' (π:oF):qH π π:=⟨rfl,fun _ _ h=>h⟩
theorem qH.trans {a b c:oF} (h:qH a b) (k:qH b c):qH a c:=⟨k.len.trans h.len,fun n s e=>k.sub n s (h.sub n s e)⟩
def tY (π:oF) (f:List Src):Prop:= ∀(n:Nat) (s:Src),π[n]? =some (some s)->f[n]? =some s
theorem tY.of {π gJ:oF} {f:List Src} (h:tY gJ f) (k:qH π gJ):tY π f:=fun n s e=>h n s (k.sub n s e)
theorem dj {π gJ:oF} {n:Nat} {s:Src} (h:nt π n s=some gJ):qH π gJ/\ gJ[n]? =some (some s):=by
 unfold nt at h
 split at h
 ·rename_i hn
  cases h
  have hl:=(List.getElem?_eq_some_iff.1 hn).1
  refine ⟨⟨by simp,fun m t hm=> ?_⟩,by simp [hl]⟩
  rw [List.getElem?_set]
  split
  ·rename_i e;subst e;rw [hn] at hm;cases hm
  ·exact hm
 ·rename_i t hn
  cases hb:Src.ZS t s with
  |true=>
   rw [hb] at h
   cases h
   exact ⟨.rfl' _,by rw [hn,Src.Wy hb]⟩
  |false=>rw [hb] at h;cases h
 ·cases h
theorem ga {π gJ:oF} {n:Nat} {s:Src} (h:nt π n s=some gJ) {f:List Src} (hf:tY gJ f):f[n]? =some s:=hf n s (dj h).2
theorem di {f:List Src} {n m:Nat} (h:f[n]? =some (.same m)):gY f n=some m:=by unfold gY;rw [h]
def kJ:List PR->List Ref->oF->Option (oF×List DV)
 | [],qs,π=>match qs with| []=>some (π,[])|_=>none
 |p::ps,qs,π=>match qs with
  | []=>none
  |q::qs=>match p,q with
   | .ext,.ext v=>match kJ ps qs π with|some (gJ,ds)=>some (gJ,.v v::ds)|none=>none
   | .loc n o,.loc m o'=>if o=o' then (match nt π n (.same m) with|some zG=>kJ ps qs zG|none=>none) else none
   | .elem n,.elem m j=>match nt π n (.same m) with
    |some zG=>(match kJ ps qs zG with|some (gJ,ds)=>some (gJ,.n j::ds)|none=>none)
    |none=>none
   | .full n,.full m=>(match nt π n (.same m) with|some zG=>kJ ps qs zG|none=>none)
   | .mp n,.mp m=>(match nt π n (.same m) with|some zG=>kJ ps qs zG|none=>none)
   |_,_=>none
def fa:List PR->List DV->List Ref×List DV
 | [],r=>([],r)
 | .ext::ps,r=>match r with| .v x::r=>(match fa ps r with|(q,r)=>(.ext x::q,r))|r=>([],r)
 | .loc n o::ps,r=>match fa ps r with|(q,r)=>(.loc n o::q,r)
 | .elem n::ps,r=>match r with| .n j::r=>(match fa ps r with|(q,r)=>(.elem n j::q,r))|r=>([],r)
 | .full n::ps,r=>match fa ps r with|(q,r)=>(.full n::q,r)
 | .mp n::ps,r=>match fa ps r with|(q,r)=>(.mp n::q,r)
theorem fH: ∀(ps:List PR) (qs:List Ref) (π gJ:oF) (ds:List DV),kJ ps qs π=some (gJ,ds)->
  qH π gJ/\ ∃rs,(∀r,fa ps (ds++r)=(rs,r))/\ ∀f,tY gJ f->iS f rs=some qs
 | [],qs,π,gJ,ds,h=>by
  simp only [kJ] at h
  split at h
  ·cases h;exact ⟨.rfl' _,[],fun _=>rfl,fun _ _=>rfl⟩
  ·cases h
 |p::ps,qs,π,gJ,ds,h=>by
  simp only [kJ] at h
  split at h
  ·cases h
  rename_i q qs
  split at h
  ·split at h
   ·rename_i h1
    cases h
    obtain ⟨a,rs,b,c⟩:=fH ps qs _ _ _ h1
    exact ⟨a,.ext _::rs,fun r=>(by simp only [List.cons_append,fa,b r];rfl),fun f hf=>by simp only [iS,mZ,c f hf]⟩
   ·cases h
  ·split at h
   ·rename_i ho
    subst ho
    split at h
    ·rename_i hb
     obtain ⟨a,rs,b,c⟩:=fH ps qs _ _ _ h
     exact ⟨(dj hb).1.trans a,.loc _ _::rs,fun r=>(by simp only [fa,b r];rfl),fun f hf=>by simp only [iS,mZ,c f hf,di (ga hb (hf.of a))]⟩
    ·cases h
   ·cases h
  ·split at h
   ·rename_i hb
    split at h
    ·rename_i h1
     cases h
     obtain ⟨a,rs,b,c⟩:=fH ps qs _ _ _ h1
     exact ⟨(dj hb).1.trans a,.elem _ _::rs,fun r=>(by simp only [List.cons_append,fa,b r];rfl),fun f hf=>by simp only [iS,mZ,c f hf,di (ga hb (hf.of a))]⟩
    ·cases h
   ·cases h
  ·split at h
   ·rename_i hb
    obtain ⟨a,rs,b,c⟩:=fH ps qs _ _ _ h
    exact ⟨(dj hb).1.trans a,.full _::rs,fun r=>(by simp only [fa,b r];rfl),fun f hf=>by simp only [iS,mZ,c f hf,di (ga hb (hf.of a))]⟩
   ·cases h
  ·split at h
   ·rename_i hb
    obtain ⟨a,rs,b,c⟩:=fH ps qs _ _ _ h
    exact ⟨(dj hb).1.trans a,.mp _::rs,fun r=>(by simp only [fa,b r];rfl),fun f hf=>by simp only [iS,mZ,c f hf,di (ga hb (hf.of a))]⟩
   ·cases h
  ·cases h
def M9:Nat->List DV->List Value×List DV
 |0,r=>([],r)
 |n+1,r=>match r with| .v x::r=>(match M9 n r with|(q,r)=>(x::q,r))|r=>([],r)
theorem FD: ∀(l:List Value) (r:List DV),M9 l.length (l.map .v++r)=(l,r)
 | [],r=>rfl
 |v::l,r=>by simp only [List.length_cons,List.map_cons,List.cons_append,M9,FD l r]
def qK (π:oF) (n m:Nat) (ds:List DV):Option (oF×List DV):=match nt π n (.same m) with
 |some gJ=>some (gJ,ds)
 |none=>none
theorem cX {π gJ:oF} {n m:Nat} {ds ds':List DV} (h:qK π n m ds=some (gJ,ds')):qH π gJ/\ ds'=ds/\ ∀f,tY gJ f->f[n]? =some (.same m):=by
 unfold qK at h
 split at h
 ·rename_i hb
  cases h
  exact ⟨(dj hb).1,rfl,fun f hf=>ga hb hf⟩
 ·cases h
def qS (p:PC) (c:Cell) (π:oF):Option (oF×List DV):=match p with
 | .i k=>match c with| .raw (.int k' n)=>if k=k' then some (π,[.i n]) else none|_=>none
 | .b=>match c with| .raw (.bool x)=>some (π,[.b x])|_=>none
 | .s=>match c with| .raw (.string x)=>some (π,[.s x])|_=>none
 | .raw=>match c with| .raw v=>some (π,[.v v])|_=>none
 | .ptr n o=>match c with| .ptr m o'=>if o=o' then qK π n m [] else none|_=>none
 | .kV n=>match c with| .kV m o=>qK π n m [.n o]|_=>none
 | .sl n o=>match c with| .sl m o' l cp=>if o=o' then qK π n m [.n l,.n cp] else none|_=>none
 | .full n=>match c with
  | .full m=>qK π n m []
  | .raw (.slice none 0 0)=>(match nt π n .nil with|some gJ=>some (gJ,[])|none=>none)
  | .sl m off 0 0=>(match nt π n (.mt m off) with|some gJ=>some (gJ,[])|none=>none)
  | .sl m 0 l cp=>if cp=l then (match nt π n (.cells m l) with|some gJ=>some (gJ,[])|none=>none) else none
  |_=>none
 | .cN n k=>match c with| .cN m j k'=>if k=k' then qK π n m [.n j] else none|_=>none
 | .eZ n=>match c with| .eZ m j k=>qK π n m [.n j,.n k]|_=>none
 | .jS f nf rs=>match c with
  | .jS (.func g) first cap=>if g=f/\ first.length=nf then (match kJ rs cap π with|some (gJ,ds)=>some (gJ,first.map .v++ds)|none=>none) else none
  |_=>none
 | .Hl n=>match c with| .Hl m=>qK π n m []|_=>none
 | .mp n=>match c with| .mp m=>qK π n m []|_=>none
 | .mv f a rs=>match c with| .mv g a' qs=>if g=f/\ a'=a then kJ rs qs π else none|_=>none
def HY (p:PC) (r:List DV):Cell×List DV:=match p with
 | .i k=>match r with| .i n::r=>(.raw (.int k n),r)|r=>(.raw undef,r)
 | .b=>match r with| .b n::r=>(.raw (.bool n),r)|r=>(.raw undef,r)
 | .s=>match r with| .s n::r=>(.raw (.string n),r)|r=>(.raw undef,r)
 | .raw=>match r with| .v n::r=>(.raw n,r)|r=>(.raw undef,r)
 | .ptr n o=>(.ptr n o,r)
 | .kV n=>match r with| .n o::r=>(.kV n o,r)|r=>(.raw undef,r)
 | .sl n o=>match r with| .n l:: .n c::r=>(.sl n o l c,r)|r=>(.raw undef,r)
 | .full n=>(.full n,r)
 | .cN n k=>match r with| .n j::r=>(.cN n j k,r)|r=>(.raw undef,r)
 | .eZ n=>match r with| .n j:: .n k::r=>(.eZ n j k,r)|r=>(.raw undef,r)
 | .jS f nf rs=>match M9 nf r with|(fs,r)=>match fa rs r with|(q,r)=>(.jS (.func f) fs q,r)
 | .Hl n=>(.Hl n,r)
 | .mp n=>(.mp n,r)
 | .mv f a rs=>match fa rs r with|(q,r)=>(.mv f a q,r)
theorem D4 {p:PC} {c:Cell} {π gJ:oF} {ds:List DV} (h:qS p c π=some (gJ,ds)):
  qH π gJ/\ ∃q,(∀r,HY p (ds++r)=(q,r))/\ ∀f,tY gJ f->iM f q=some c:=by
 cases p with
 |i k=>
  simp only [qS] at h
  split at h<;>try (cases h;done)
  split at h<;>try (cases h;done)
  rename_i e;cases h;subst e
  exact ⟨.rfl' _,_,fun r=>rfl,fun f _=>rfl⟩
 |b=>
  simp only [qS] at h
  split at h<;>try (cases h;done)
  cases h
  exact ⟨.rfl' _,_,fun r=>rfl,fun f _=>rfl⟩
 |s=>
  simp only [qS] at h
  split at h<;>try (cases h;done)
  cases h
  exact ⟨.rfl' _,_,fun r=>rfl,fun f _=>rfl⟩
 |raw=>
  simp only [qS] at h
  split at h<;>try (cases h;done)
  cases h
  exact ⟨.rfl' _,_,fun r=>rfl,fun f _=>rfl⟩
 |ptr n o=>
  simp only [qS] at h
  split at h<;>try (cases h;done)
  split at h<;>try (cases h;done)
  rename_i e;subst e
  obtain ⟨a,rfl,b⟩:=cX h
  exact ⟨a,_,fun r=>rfl,fun f hf=>by simp only [iM,di (b f hf)]⟩
 |kV n=>
  simp only [qS] at h
  split at h<;>try (cases h;done)
  obtain ⟨a,rfl,b⟩:=cX h
  exact ⟨a,_,fun r=>rfl,fun f hf=>by simp only [iM,di (b f hf)]⟩
 |sl n o=>
  simp only [qS] at h
  split at h<;>try (cases h;done)
  split at h<;>try (cases h;done)
  rename_i e;subst e
  obtain ⟨a,rfl,b⟩:=cX h
  exact ⟨a,_,fun r=>rfl,fun f hf=>by simp only [iM,di (b f hf)]⟩
 |full n=>
  simp only [qS] at h
  split at h
  ·obtain ⟨a,rfl,b⟩:=cX h
   exact ⟨a,_,fun r=>rfl,fun f hf=>by simp only [iM,b f hf]⟩
  ·split at h
   ·rename_i hb
    cases h
    exact ⟨(dj hb).1,_,fun r=>rfl,fun f hf=>by simp only [iM,ga hb hf]⟩
   ·cases h
  ·split at h
   ·rename_i hb
    cases h
    exact ⟨(dj hb).1,_,fun r=>rfl,fun f hf=>by simp only [iM,ga hb hf]⟩
   ·cases h
  ·split at h<;>try (cases h;done)
   rename_i e;subst e
   split at h
   ·rename_i hb
    cases h
    exact ⟨(dj hb).1,_,fun r=>rfl,fun f hf=>by simp only [iM,ga hb hf]⟩
   ·cases h
  ·cases h
 |cN n k=>
  simp only [qS] at h
  split at h<;>try (cases h;done)
  split at h<;>try (cases h;done)
  rename_i e;subst e
  obtain ⟨a,rfl,b⟩:=cX h
  exact ⟨a,_,fun r=>rfl,fun f hf=>by simp only [iM,di (b f hf)]⟩
 |eZ n=>
  simp only [qS] at h
  split at h<;>try (cases h;done)
  obtain ⟨a,rfl,b⟩:=cX h
  exact ⟨a,_,fun r=>rfl,fun f hf=>by simp only [iM,di (b f hf)]⟩
 |jS f nf rs=>
  simp only [qS] at h
  split at h<;>try (cases h;done)
  split at h<;>try (cases h;done)
  rename_i e
  obtain ⟨rfl,rfl⟩:=e
  split at h<;>try (cases h;done)
  rename_i hr
  cases h
  obtain ⟨a,q,b,c⟩:=fH _ _ _ _ _ hr
  exact ⟨a,.jS (.func _) _ q,fun r=>(by simp only [HY,List.append_assoc,FD,b r];rfl),fun f hf=>by simp only [iM,c f hf]⟩
 |Hl n=>
  simp only [qS] at h
  split at h<;>try (cases h;done)
  obtain ⟨a,rfl,b⟩:=cX h
  exact ⟨a,_,fun r=>rfl,fun f hf=>by simp only [iM,di (b f hf)]⟩
 |mp n=>
  simp only [qS] at h
  split at h<;>try (cases h;done)
  obtain ⟨a,rfl,b⟩:=cX h
  exact ⟨a,_,fun r=>rfl,fun f hf=>by simp only [iM,di (b f hf)]⟩
 |mv f ag rs=>
  simp only [qS] at h
  split at h<;>try (cases h;done)
  split at h<;>try (cases h;done)
  rename_i e
  obtain ⟨rfl,rfl⟩:=e
  obtain ⟨a,q,b,c⟩:=fH _ _ _ _ _ h
  exact ⟨a,.mv _ _ q,fun r=>(by simp only [HY,b r];rfl),fun f hf=>by simp only [iM,c f hf]⟩
def AT:List PC->List Cell->oF->Option (oF×List DV)
 | [],cs,π=>match cs with| []=>some (π,[])|_=>none
 |p::ps,cs,π=>match cs with
  | []=>none
  |c::cs=>match qS p c π with
   |some (zG,d1)=>(match AT ps cs zG with|some (Nf,d2)=>some (Nf,d1++d2)|none=>none)
   |none=>none
def xN:List PC->List DV->List Cell×List DV
 | [],r=>([],r)
 |p::ps,r=>match HY p r with|(c,r)=>match xN ps r with|(cs,r)=>(c::cs,r)
theorem pH: ∀(ps:List PC) (cs:List Cell) (π gJ:oF) (ds:List DV),AT ps cs π=some (gJ,ds)->
  qH π gJ/\ ∃q,(∀r,xN ps (ds++r)=(q,r))/\ ∀f,tY gJ f->gF f q=some cs
 | [],cs,π,gJ,ds,h=>by
  simp only [AT] at h
  split at h
  ·cases h;exact ⟨.rfl' _,[],fun _=>rfl,fun _ _=>rfl⟩
  ·cases h
 |p::ps,cs,π,gJ,ds,h=>by
  simp only [AT] at h
  split at h
  ·cases h
  split at h
  ·rename_i h1
   split at h
   ·rename_i h2
    cases h
    obtain ⟨a,q,b,c⟩:=D4 h1
    obtain ⟨a',q',b',c'⟩:=pH ps _ _ _ _ h2
    exact ⟨a.trans a',q::q',fun r=>by simp only [xN,List.append_assoc,b,b'],fun f hf=>by simp only [gF,c f (hf.of a'),c' f hf]⟩
   ·cases h
  ·cases h
def Qc (p:PA) (a:A0) (π:oF):Option (oF×List DV):=match p with
 | .one p=>match a with| .one c=>qS p c π|_=>none
 | .agg ps=>match a with| .agg cs=>AT ps cs π|_=>none
def HX (p:PA) (r:List DV):A0×List DV:=match p with
 | .one p=>match HY p r with|(c,r)=>(.one c,r)
 | .agg ps=>match xN ps r with|(c,r)=>(.agg c,r)
theorem D3 {p:PA} {a:A0} {π gJ:oF} {ds:List DV} (h:Qc p a π=some (gJ,ds)):
  qH π gJ/\ ∃q,(∀r,HX p (ds++r)=(q,r))/\ ∀f,tY gJ f->DK f q=some a:=by
 cases p with
 |one p=>
  simp only [Qc] at h
  split at h<;>try (cases h;done)
  obtain ⟨a,q,b,c⟩:=D4 h
  exact ⟨a,.one q,fun r=>by simp only [HX,b r],fun f hf=>by simp only [DK,c f hf]⟩
 |agg ps=>
  simp only [Qc] at h
  split at h<;>try (cases h;done)
  obtain ⟨a,q,b,c⟩:=pH _ _ _ _ _ h
  exact ⟨a,.agg q,fun r=>by simp only [HX,b r],fun f hf=>by simp only [DK,c f hf]⟩
def HQ:List PA->List A0->oF->Option (oF×List DV)
 | [],cs,π=>match cs with| []=>some (π,[])|_=>none
 |p::ps,cs,π=>match cs with
  | []=>none
  |c::cs=>match Qc p c π with
   |some (zG,d1)=>(match HQ ps cs zG with|some (Nf,d2)=>some (Nf,d1++d2)|none=>none)
   |none=>none
def F9:List PA->List DV->List A0×List DV
 | [],r=>([],r)
 |p::ps,r=>match HX p r with|(c,r)=>match F9 ps r with|(cs,r)=>(c::cs,r)
theorem AR: ∀(ps:List PA) (cs:List A0) (π gJ:oF) (ds:List DV),HQ ps cs π=some (gJ,ds)->
  qH π gJ/\ ∃q,(∀r,F9 ps (ds++r)=(q,r))/\ ∀f,tY gJ f->fX f q=some cs
 | [],cs,π,gJ,ds,h=>by
  simp only [HQ] at h
  split at h
  ·cases h;exact ⟨.rfl' _,[],fun _=>rfl,fun _ _=>rfl⟩
  ·cases h
 |p::ps,cs,π,gJ,ds,h=>by
  simp only [HQ] at h
  split at h
  ·cases h
  split at h
  ·rename_i h1
   split at h
   ·rename_i h2
    cases h
    obtain ⟨a,q,b,c⟩:=D3 h1
    obtain ⟨a',q',b',c'⟩:=AR ps _ _ _ _ h2
    exact ⟨a.trans a',q::q',fun r=>by simp only [F9,List.append_assoc,b,b'],fun f hf=>by simp only [fX,c f (hf.of a'),c' f hf]⟩
   ·cases h
  ·cases h
def AU:List PV->List AV->oF->Option (oF×List DV)
 | [],vs,π=>match vs with| []=>some (π,[])|_=>none
 |p::ps,vs,π=>match vs with
  | []=>none
  |x::vs=>match p with
   | .d=>AU ps vs π
   | .v a=>(match x with
    | .v y=>(match Qc a y π with
     |some (zG,d1)=>(match AU ps vs zG with|some (Nf,d2)=>some (Nf,d1++d2)|none=>none)
     |none=>none)
    |_=>none)
   | .oG l=>(match x with
    | .oG m=>(match HQ l m π with
     |some (zG,d1)=>(match AU ps vs zG with|some (Nf,d2)=>some (Nf,d1++d2)|none=>none)
     |none=>none)
    |_=>none)
def qX:List PV->List DV->List AV×List DV
 | [],r=>([],r)
 | .d::ps,r=>match qX ps r with|(q,r)=>(.dead::q,r)
 | .v a::ps,r=>match HX a r with|(x,r)=>match qX ps r with|(q,r)=>(.v x::q,r)
 | .oG l::ps,r=>match F9 l r with|(x,r)=>match qX ps r with|(q,r)=>(.oG x::q,r)
theorem pJ: ∀(ps:List PV) (vs:List AV) (π gJ:oF) (ds:List DV),AU ps vs π=some (gJ,ds)->
  qH π gJ/\ ∃q,(∀r,qX ps (ds++r)=(q,r))/\ ∀f,tY gJ f->FF f vs q
 | [],vs,π,gJ,ds,h=>by
  simp only [AU] at h
  split at h
  ·cases h;exact ⟨.rfl' _,[],fun _=>rfl,fun _ _=>trivial⟩
  ·cases h
 |p::ps,vs,π,gJ,ds,h=>by
  simp only [AU] at h
  split at h
  ·cases h
  rename_i x vs
  cases p with
  |d=>
   obtain ⟨a,q,b,c⟩:=pJ ps vs _ _ _ h
   exact ⟨a,.dead::q,fun r=>by simp only [qX,b r],fun f hf=>c f hf⟩
  |v pa=>
   dsimp only at h
   split at h<;>try (cases h;done)
   split at h<;>try (cases h;done)
   rename_i h1
   split at h<;>try (cases h;done)
   rename_i h2
   cases h
   obtain ⟨a,q,b,c⟩:=D3 h1
   obtain ⟨a',q',b',c'⟩:=pJ ps _ _ _ _ h2
   exact ⟨a.trans a',.v q::q',fun r=>by simp only [qX,List.append_assoc,b,b'],fun f hf=>⟨by simp only [qb,c f (hf.of a')],c' f hf⟩⟩
  |oG l=>
   dsimp only at h
   split at h<;>try (cases h;done)
   split at h<;>try (cases h;done)
   rename_i h1
   split at h<;>try (cases h;done)
   rename_i h2
   cases h
   obtain ⟨a,q,b,c⟩:=AR _ _ _ _ _ h1
   obtain ⟨a',q',b',c'⟩:=pJ ps _ _ _ _ h2
   exact ⟨a.trans a',.oG q::q',fun r=>by simp only [qX,List.append_assoc,b,b'],fun f hf=>⟨by simp only [qb,c f (hf.of a')],c' f hf⟩⟩
def TM (π:oF):Nat->Bool
 |0=>true
 |n+1=>(match π[n]? with|some (some (.same m))=>m==n|_=>false)&&TM π n
theorem Ea {π:oF} {f:List Src} (hf:tY π f): ∀ {n:Nat},TM π n=true->xO f n=true
 |0,_=>rfl
 |n+1,h=>by
  simp only [TM,Bool.and_eq_true] at h
  simp only [xO,Bool.and_eq_true]
  refine ⟨?_,Ea hf h.2⟩
  have h1:=h.1
  split at h1
  ·rename_i m hm
   rw [hf _ _ hm];exact h1
  ·cases h1
def uk (h:List aF) (p:PO) (s:Src) (π:oF):Option (oF×List DV):=match p with
 | .gone=>none
 | .cells ps e=>match s with
  | .same m=>(match aj h m with|some (.cells cs e')=>if e=e' then AT ps cs π else none|_=>none)
  |_=>none
 | .row t rk=>match s with
  | .same m=>(match aj h m with
   |some (.row u l k)=>if k=rk then (match iy u t l with|some l'=>some (π,[.l t l'])|none=>none) else none
   |_=>none)
  | .nil=>if rk=0 then none else some (π,[.l t []])
  | .mt m _=>if rk=3 then (match aj h m with|some (.cells _ _)=>some (π,[.l t []])|_=>none) else none
  | .any _=>none
  | .cells m len=>if (rk=2\/ rk=3)/\ t.flat=true then (match aj h m with
   |some (.cells cs _)=>if cs.length=len*t.size/\ Nat.ble len 1099511627776=true then (match uh (ck (fun _=>none) t) len cs with|some (l,[])=>some (π,[.l t l])|_=>none) else none
   |_=>none) else none
 | .alias n q=>match s with
  | .same m=>(match aj h m with
   |some (.alias n' a b)=>(match q,b with
    |false,none=>qK π n n' [.n a]
    |true,some x=>qK π n n' [.n a,.n x]
    |_,_=>none)
   |_=>none)
  |_=>none
 | .loop busy=>match s with
  | .same m=>(match aj h m with
   |some (.loop r s none)=>(match busy,s with
    |false,.ready=>some (π,[.lo r])
    |true,.busy=>some (π,[.lo r])
    |_,_=>none)
   |_=>none)
  |_=>none
 | .dO k=>match s with
  | .same m=>(match aj h m with|some (.dO ρ k')=>if k=k'/\ TM π k=true then some (π,[.env ρ]) else none|_=>none)
  |_=>none
 | .fJ=>match s with
  | .same m=>(match aj h m with|some (.fJ S)=>some (π,[.hd S])|_=>none)
  |_=>none
 | .map ka va k v=>match s with
  | .same m=>(match aj h m with
   |some (.map ka' va' k' v' l)=>if ka'=ka/\ va'=va then (match iy (.prod k' v') (.prod k v) l with|some l'=>some (π,[.l (.prod k v) l'])|none=>none) else none
   |_=>none)
  |_=>none
 | .Ec ka k u c=>match s with
  | .same m=>(match aj h m with
   |some (.Ec ka' k' u' l c' none)=>if ka'=ka then (match iy (.prod k' (.sl u')) (.prod k (.sl u)) l with|some l'=>qK π c c' [.l (.prod k (.sl u)) l']|none=>none) else none
   |_=>none)
  |_=>none
 | .set n=>match s with
  | .same m=>(match aj h m with|some (.set n')=>qK π n n' []|_=>none)
  |_=>none
 | .gv n c k u=>match s with
  | .same m=>(match aj h m with
   |some (.gv n' c' k' u' x l)=>(match D2 k' k x,iy u' u l with
    |some x',some l'=>(match nt π n (.same n') with|some zG=>qK zG c c' [.tv k x',.l u l']|none=>none)
    |_,_=>none)
   |_=>none)
  |_=>none
 | .rc ps=>match s with
  | .same m=>(match aj h m with|some (.rc cs)=>AT ps cs π|_=>none)
  |_=>none
 | .dp t c st=>match s with
  | .same m=>(match aj h m with
   |some (.dp t' l c' st' kn)=>if st'=st then (match iy t' t l with|some l'=>qK π c c' [.l t l',.b kn]|none=>none) else none
   |_=>none)
  |_=>none
 | .nv n c q u=>match s with
  | .same m=>(match aj h m with
   |some (.nv n' c' j q' u')=>if q'=q/\ u'=u then (match nt π n (.same n') with|some zG=>qK zG c c' [.n j]|none=>none) else none
   |_=>none)
  |_=>none
def mN (p:PO) (r:List DV):aF×List DV:=match p with
 | .gone=>(.gone,r)
 | .cells ps e=>match xN ps r with|(cs,r)=>(.cells cs e,r)
 | .row t rk=>match r with|d::r=>(match d.as (.l t) with|some l=>(.row t l rk,r)|none=>(.gone,r))|r=>(.gone,r)
 | .alias n false=>match r with| .n a::r=>(.alias n a none,r)|r=>(.gone,r)
 | .alias n true=>match r with| .n a:: .n b::r=>(.alias n a (some b),r)|r=>(.gone,r)
 | .loop busy=>match r with| .lo l::r=>(.loop l (bif busy then .busy else .ready) none,r)|r=>(.gone,r)
 | .dO k=>match r with| .env ρ::r=>(.dO ρ k,r)|r=>(.gone,r)
 | .fJ=>match r with| .hd S::r=>(.fJ S,r)|r=>(.gone,r)
 | .map ka va k v=>match r with|d::r=>(match d.as (.l (.prod k v)) with|some l=>(.map ka va k v l,r)|none=>(.gone,r))|r=>(.gone,r)
 | .Ec ka k u c=>match r with|d::r=>(match d.as (.l (.prod k (.sl u))) with|some l=>(.Ec ka k u l c none,r)|none=>(.gone,r))|r=>(.gone,r)
 | .set n=>(.set n,r)
 | .rc ps=>match xN ps r with|(cs,r)=>(.rc cs,r)
 | .dp t c st=>match r with|d:: .b kn::r=>(match d.as (.l t) with|some l=>(.dp t l c st kn,r)|none=>(.gone,r))|r=>(.gone,r)
 | .nv n c q u=>match r with| .n j::r=>(.nv n c j q u,r)|r=>(.gone,r)
 | .gv n c k u=>match r with|d::e::r=>(match d.as (.tv k),e.as (.l u) with|some x,some l=>(.gv n c k u x l,r)|_,_=>(.gone,r))|r=>(.gone,r)
theorem J6 (t:Ty) (x:t.T):D2 t t x=some x:=by unfold D2;rw [dif_pos rfl]
theorem mI (t:Ty) (l:List t.T):iy t t l=some l:=by unfold iy;rw [dif_pos rfl]
theorem sQ (t:Ty) (rk:Nat) (l:List t.T) (r:List DV):mN (.row t rk) (.l t l::r)=(.row t l rk,r):=by
 simp only [mN,DV.as,mI]
theorem NO (ka va:Bool) (k v:Ty) (l:List (k.T×v.T)) (r:List DV):mN (.map ka va k v) (.l (.prod k v) l::r)=(.map ka va k v l,r):=by
 simp only [mN,DV.as,mI]
theorem NN (ka:Bool) (k u:Ty) (c:Nat) (l:List (k.T×List u.T)) (r:List DV):mN (.Ec ka k u c) (.l (.prod k (.sl u)) l::r)=(.Ec ka k u l c none,r):=by
 simp only [mN,DV.as,mI]
theorem Qj (n c:Nat) (k u:Ty) (x:k.T) (l:List u.T) (r:List DV):mN (.gv n c k u) (.tv k x:: .l u l::r)=(.gv n c k u x l,r):=by
 simp only [mN,DV.as,mI,J6]
theorem Qi (t:Ty) (c:Nat) (st kn:Bool) (l:List t.T) (r:List DV):mN (.dp t c st) (.l t l:: .b kn::r)=(.dp t l c st kn,r):=by
 simp only [mN,DV.as,mI]
theorem NF {h:List aF} {p:PO} {s:Src} {π gJ:oF} {ds:List DV} (hd:uk h p s π=some (gJ,ds)):
  qH π gJ/\ ∃o,o≠ .gone/\ (∀r,mN p (ds++r)=(o,r))/\ ∀f,tY gJ f->BS f h s o:=by
 cases p with
 |gone=>cases hd
 |cells ps e=>
  simp only [uk] at hd
  split at hd<;>try (cases hd;done)
  split at hd<;>try (cases hd;done)
  rename_i hl
  split at hd<;>try (cases hd;done)
  rename_i he;subst he
  obtain ⟨a,q,b,c⟩:=pH _ _ _ _ _ hd
  exact ⟨a,.cells q _,by simp,fun r=>(by simp only [mN,b r];rfl),fun f hf=>⟨_,hl,by simp only [fB,c f hf]⟩⟩
 |row t rk=>
  simp only [uk] at hd
  split at hd
  ·split at hd<;>try (cases hd;done)
   rename_i hl
   split at hd<;>try (cases hd;done)
   rename_i hk;subst hk
   split at hd<;>try (cases hd;done)
   rename_i hc
   cases hd
   obtain ⟨e1,e2⟩:=cn hc
   subst e1
   dsimp only at e2
   subst e2
   exact ⟨.rfl' _,_,by simp,fun r=>sQ _ _ _ r,fun f hf=>⟨_,hl,rfl⟩⟩
  ·split at hd<;>try (cases hd;done)
   rename_i hk
   cases hd
   exact ⟨.rfl' _,_,by simp,fun r=>sQ _ _ _ r,fun f hf=>⟨t,rk,rfl,hk⟩⟩
  ·split at hd<;>try (cases hd;done)
   rename_i hk
   subst hk
   split at hd<;>try (cases hd;done)
   rename_i hl
   cases hd
   exact ⟨.rfl' _,_,by simp,fun r=>sQ _ _ _ r,fun f hf=>⟨t,_,_,rfl,hl⟩⟩
  ·cases hd
  ·split at hd<;>try (cases hd;done)
   rename_i hk
   obtain ⟨oa,hfl⟩:=hk
   split at hd<;>try (cases hd;done)
   rename_i hl
   split at hd<;>try (cases hd;done)
   rename_i hlen
   split at hd<;>try (cases hd;done)
   rename_i hN
   cases hd
   exact ⟨.rfl' _,_,by simp,fun r=>sQ _ _ _ r,fun f hf=>⟨t,_,_,_,_,rfl,oa,hl,hfl,hN,hlen⟩⟩
 |alias n q=>
  simp only [uk] at hd
  split at hd<;>try (cases hd;done)
  split at hd<;>try (cases hd;done)
  rename_i hl
  split at hd<;>try (cases hd;done)
  ·obtain ⟨a,rfl,b⟩:=cX hd
   exact ⟨a,_,by simp,fun r=>rfl,fun f hf=>⟨_,hl,by simp only [fB,di (b f hf)]⟩⟩
  ·obtain ⟨a,rfl,b⟩:=cX hd
   exact ⟨a,_,by simp,fun r=>rfl,fun f hf=>⟨_,hl,by simp only [fB,di (b f hf)]⟩⟩
 |loop busy=>
  simp only [uk] at hd
  split at hd<;>try (cases hd;done)
  split at hd<;>try (cases hd;done)
  rename_i hl
  split at hd<;>try (cases hd;done)
  all_goals
   cases hd
   exact ⟨.rfl' _,_,by simp,fun r=>rfl,fun f hf=>⟨_,hl,rfl⟩⟩
 |dO k=>
  simp only [uk] at hd
  split at hd<;>try (cases hd;done)
  split at hd<;>try (cases hd;done)
  rename_i hl
  split at hd<;>try (cases hd;done)
  rename_i hk
  obtain ⟨rfl,hk⟩:=hk
  cases hd
  exact ⟨.rfl' _,_,by simp,fun r=>rfl,fun f hf=>⟨_,hl,by simp only [fB,Ea hf hk,if_true]⟩⟩
 |fJ=>
  simp only [uk] at hd
  split at hd<;>try (cases hd;done)
  split at hd<;>try (cases hd;done)
  rename_i hl
  cases hd
  exact ⟨.rfl' _,_,by simp,fun r=>rfl,fun f hf=>⟨_,hl,rfl⟩⟩
 |map ka va k v=>
  simp only [uk] at hd
  split at hd<;>try (cases hd;done)
  split at hd<;>try (cases hd;done)
  rename_i hl
  split at hd<;>try (cases hd;done)
  rename_i hk
  obtain ⟨rfl,rfl⟩:=hk
  split at hd<;>try (cases hd;done)
  rename_i hc
  cases hd
  obtain ⟨e1,e2⟩:=cn hc
  cases e1
  dsimp only at e2
  subst e2
  exact ⟨.rfl' _,_,by simp,fun r=>NO _ _ _ _ _ r,fun f hf=>⟨_,hl,rfl⟩⟩
 |Ec ka k u c=>
  simp only [uk] at hd
  split at hd<;>try (cases hd;done)
  split at hd<;>try (cases hd;done)
  rename_i hl
  split at hd<;>try (cases hd;done)
  rename_i hk;subst hk
  split at hd<;>try (cases hd;done)
  rename_i hc
  obtain ⟨e1,e2⟩:=cn hc
  cases e1
  dsimp only at e2
  subst e2
  obtain ⟨a,rfl,b⟩:=cX hd
  exact ⟨a,_,by simp,fun r=>NN _ _ _ _ _ r,fun f hf=>⟨_,hl,by simp only [fB,di (b f hf)]⟩⟩
 |set n=>
  simp only [uk] at hd
  split at hd<;>try (cases hd;done)
  split at hd<;>try (cases hd;done)
  rename_i hl
  obtain ⟨a,rfl,b⟩:=cX hd
  exact ⟨a,_,by simp,fun r=>rfl,fun f hf=>⟨_,hl,by simp only [fB,di (b f hf)]⟩⟩
 |gv n c k u=>
  simp only [uk] at hd
  split at hd<;>try (cases hd;done)
  split at hd<;>try (cases hd;done)
  rename_i hl
  split at hd<;>try (cases hd;done)
  rename_i hx hc
  split at hd<;>try (cases hd;done)
  rename_i zG hb
  obtain ⟨e1,e2⟩:=cn hc
  subst e1
  dsimp only at e2
  subst e2
  obtain ⟨e3,e4⟩:=HC hx
  subst e3
  dsimp only at e4
  subst e4
  obtain ⟨a,rfl,b⟩:=cX hd
  have s1:=(dj hb).1
  exact ⟨s1.trans a,_,by simp,fun r=>Qj _ _ _ _ _ _ r,fun f hf=>⟨_,hl,by simp only [fB,di (b f hf),di (ga hb (hf.of a))]⟩⟩
 |rc ps=>
  simp only [uk] at hd
  split at hd<;>try (cases hd;done)
  split at hd<;>try (cases hd;done)
  rename_i hl
  obtain ⟨a,q,b,c⟩:=pH _ _ _ _ _ hd
  exact ⟨a,.rc q,by simp,fun r=>(by simp only [mN,b r]),fun f hf=>⟨_,hl,by simp only [fB,c f hf]⟩⟩
 |dp t c st=>
  simp only [uk] at hd
  split at hd<;>try (cases hd;done)
  split at hd<;>try (cases hd;done)
  rename_i hl
  split at hd<;>try (cases hd;done)
  rename_i hk;subst hk
  split at hd<;>try (cases hd;done)
  rename_i hc
  obtain ⟨e1,e2⟩:=cn hc
  subst e1
  dsimp only at e2
  subst e2
  obtain ⟨a,rfl,b⟩:=cX hd
  exact ⟨a,_,by simp,fun r=>Qi _ _ _ _ _ r,fun f hf=>⟨_,hl,by simp only [fB,di (b f hf)]⟩⟩
 |nv n c q u=>
  simp only [uk] at hd
  split at hd<;>try (cases hd;done)
  split at hd<;>try (cases hd;done)
  rename_i hl
  split at hd<;>try (cases hd;done)
  rename_i hk
  obtain ⟨rfl,rfl⟩:=hk
  split at hd<;>try (cases hd;done)
  rename_i zG hb
  obtain ⟨a,rfl,b⟩:=cX hd
  have s1:=(dj hb).1
  exact ⟨s1.trans a,_,by simp,fun r=>rfl,fun f hf=>⟨_,hl,by simp only [fB,di (b f hf),di (ga hb (hf.of a))]⟩⟩
def PO.Rc:PO->Bool
 | .gone=>true
 |_=>false
def D6 (h:List aF):List PO->Nat->oF->Option (oF×List DV)
 | [],_,π=>some (π,[])
 |p::ps,n,π=>match p.Rc with
  |true=>D6 h ps (n+1) π
  |false=>match π[n]? with
   |some (some s)=>(match uk h p s π with
    |some (zG,d1)=>(match D6 h ps (n+1) zG with|some (Nf,d2)=>some (Nf,d1++d2)|none=>none)
    |none=>none)
   |_=>none
def A4:List PO->List DV->List aF×List DV
 | [],r=>([],r)
 |p::ps,r=>match mN p r with|(c,r)=>match A4 ps r with|(cs,r)=>(c::cs,r)
theorem Km {π:List Src} {h:List aF} {s:Src} {o:aF} {ss:List Src} {os:List aF} (ho:o≠ .gone) (h1:BS π h s o) (h2:ry π h ss os):ry π h (s::ss) (o::os):=by
 cases o<;>first|exact absurd rfl ho|exact ⟨h1,h2⟩
theorem um {h:List aF} : ∀(ps:List PO) (n:Nat) (π gJ:oF) (ds:List DV),D6 h ps n π=some (gJ,ds)->
  qH π gJ/\ ∃os,(∀r,A4 ps (ds++r)=(os,r))/\ ∀f,tY gJ f->f.length=n+ps.length->ry f h (f.drop n) os
 | [],n,π,gJ,ds,hd=>by
  simp only [D6,Option.some.injEq,Prod.mk.injEq] at hd
  obtain ⟨rfl,rfl⟩:=hd
  refine ⟨.rfl' _,[],fun _=>rfl,fun f _ hl=> ?_⟩
  rw [List.drop_eq_nil_of_le (by simp at hl;omega)];trivial
 |p::ps,n,π,gJ,ds,hd=>by
  simp only [D6] at hd
  split at hd
  ·rename_i hg
   cases p<;>simp [PO.Rc] at hg
   obtain ⟨a,q,b,c⟩:=um ps _ _ _ _ hd
   refine ⟨a,.gone::q,fun r=>by simp only [A4,mN,b r],fun f hf hl=> ?_⟩
   rw [List.length_cons] at hl
   rw [List.drop_eq_getElem_cons (by omega)]
   exact c f hf (by omega)
  ·split at hd<;>try (cases hd;done)
   rename_i s hs
   split at hd<;>try (cases hd;done)
   rename_i h1
   split at hd<;>try (cases hd;done)
   rename_i h2
   cases hd
   obtain ⟨a,o,hg,b,c⟩:=NF h1
   obtain ⟨a',q',b',c'⟩:=um ps _ _ _ _ h2
   refine ⟨a.trans a',o::q',fun r=>by simp only [A4,List.append_assoc,b,b'],fun f hf hl=> ?_⟩
   rw [List.length_cons] at hl
   have e:=hf.of (a.trans a') n s hs
   rw [List.drop_eq_getElem_cons (by omega)]
   have e2:f[n]'(by omega)=s:=by rw [List.getElem?_eq_getElem (by omega)] at e;exact Option.some.inj e
   rw [e2]
   exact Km hg (c f (hf.of a')) (c' f hf (by omega))
structure qG (gt:List HT) where
 ps:List PV
 po:List PO
 top:Nat:=0
 sW:Option Nat:=none
 gi:List Nat:= []
 ci:List Nat:= []
 vi:List Nat
 ts:List HT
 c:List DV:= []
def Xc:aF->Bool
 | .fJ _=>true
 |_=>false
def HZ:List aF->Nat->Option Nat
 | [],_=>none
 |o::r,n=>match Xc o with|true=>some n|false=>HZ r (n+1)
namespace qG
variable {gt:List HT}
def N (p:qG gt):Nat:=p.gi.length+p.ci.length+p.vi.length
def idx (p:qG gt):List Nat:=p.gi++(p.ci++p.vi)
def Tq:List Nat->Nat->Bool
 |_,0=>true
 |l,n+1=>zM n l&&Tq l n
def ok (p:qG gt):Bool:=Tq p.idx p.N
def Ws (p:qG gt) (h:List aF):Option oF:=
 match p.sW with
 |none=>some ((List.range p.po.length).map fun i=>bif Nat.blt i p.top then some (.same i) else none)
 |some n=>match HZ h 0 with
  |some j=>nt ((List.range p.po.length).map fun i=>bif Nat.blt i p.top then some (.same i) else none) n (.same j)
  |none=>none
def vu (p:qG gt) (ds:List DV):AS:=match qX p.ps ds with
 |(ts,r)=>match A4 p.po r with
  |(os,_)=>⟨ts,os⟩
def fill (p:qG gt) (g:TT gt) (s:TT p.ts):AS:=p.vu (XI p.idx (Gz gt g++(p.c++Gz p.ts s)) p.N)
def fin (π:oF):List Src:=π.map fun o=>match o with|some s=>s|none=> .nil
def read (p:qG gt) (st:AS):Option (TT gt×List DV×TT p.ts):=match p.Ws st.heap with
 |none=>none
 |some π0=>match AU p.ps st.tmps π0 with
  |none=>none
  |some (zG,d1)=>match D6 st.heap p.po 0 zG with
   |none=>none
   |some (Nf,d2)=>match Nat.beq (d1++d2).length p.N&&gW (tw (fin Nf) (p.vu (d1++d2)).heap) with
    |false=>none
    |true=>match Lx gt (Dv p.gi (d1++d2)),Lx p.ts (Dv p.vi (d1++d2)) with
     |some g,some s=>some (g,Dv p.ci (d1++d2),s)
     |_,_=>none
theorem Qk (π:oF):tY π (fin π):=fun n s h=>by simp [fin,h]
theorem DS {l:List Nat} : ∀ {n:Nat},Tq l n=true-> ∀j,j<n->j∈l
  |0,_,j,h=>by omega
  | n+1,h,j,hj=>by
    simp only [Tq,Bool.and_eq_true] at h
    rcases Nat.lt_or_ge j n with h1|h1
    · exact DS h.2 j h1
    · have:j=n:=by omega
      subst this;exact Iy h.1
where Iy {x:Nat} : ∀ {l:List Nat},zM x l=true->x∈l
        | [],h=>by cases h
        | y::r,h=>by
          simp only [zM,Bool.or_eq_true] at h
          rcases h with h|h
          · simp [Nat.eq_of_beq_eq_true h]
          · exact List.mem_cons_of_mem _ (Iy h)
theorem PY {p:qG gt} {h:List aF} {π:oF} (hb:p.Ws h=some π):π.length=p.po.length:=by
 unfold Ws at hb
 split at hb
 ·cases hb;simp
 ·split at hb
  ·rw [(dj hb).1.len];simp
  ·cases hb
theorem MC {p:qG gt} (hp:p.ok=true) {st:AS} {g:TT gt} {c:List DV} {s:TT p.ts} (h:p.read st=some (g,c,s)) (hc:c=p.c):Dn st (p.fill g s):=by
 unfold read at h
 split at h<;>try (cases h;done)
 rename_i π0 h0
 split at h<;>try (cases h;done)
 rename_i zG d1 h1
 split at h<;>try (cases h;done)
 rename_i Nf d2 h2
 split at h<;>try (cases h;done)
 rename_i hn
 simp only [Bool.and_eq_true] at hn
 split at h<;>try (cases h;done)
 rename_i g' s' hg hs
 cases h
 have hlen:(d1++d2).length=p.N:=Nat.eq_of_beq_eq_true hn.1
 have key:p.fill g s=p.vu (d1++d2):=by
  unfold fill
  rw [GZ _ _ _ hg,GZ _ _ _ hs,<- hc]
  have:Dv p.gi (d1++d2)++(Dv p.ci (d1++d2)++Dv p.vi (d1++d2))=Dv p.idx (d1++d2):=by simp [Dv,idx]
  rw [this,<- hlen,O8 fun j hj=>DS hp j (by omega)]
 rw [key]
 obtain ⟨a,q,b,t⟩:=pJ _ _ _ _ _ h1
 obtain ⟨a',q',b',t'⟩:=um _ _ _ _ _ h2
 have b'':=b' []
 rw [List.append_nil] at b''
 have e:p.vu (d1++d2)=⟨q,q'⟩:=by simp only [vu,b d2,b'']
 refine ⟨fin Nf,?_,?_,?_⟩
 ·rw [e];exact t _ ((Qk _).of a')
 ·rw [e]
  have:=t' (fin Nf) (Qk _) (by simp [fin,a'.len,a.len,PY h0])
  rwa [List.drop_zero] at this
 ·exact hn.2
end qG
end Go.Ev
