/- States as patterns: what is read out of a state, and that the state knows no less than the pattern with these values. -/
import Derived.Test.YtbjfokijjefoeaaGreatEvP
noncomputable section
set_option linter.unusedSectionVars false
set_option linter.unusedVariables false
set_option linter.unusedSimpArgs false
namespace Go.Ev
inductive HT
 |i|b|s|n|v|env|lo|hd
 |l (t:Ty)
 |tv (t:Ty)
@[reducible] def HT.T:HT->Type
 | .i=>Int
 | .b=>Bool
 | .s=>ByteArray
 | .n=>Nat
 | .v=>Value
 | .env=>Env
 | .lo=>Loop
 | .hd=>Nat->Prop
 | .l t=>List t.T
 | .tv t=>t.T
inductive DV
 |i (x:Int)|b (x:Bool)|s (x:ByteArray)|n (x:Nat)|v (x:Value)|env (x:Env)|lo (x:Loop)|hd (x:Nat->Prop)
 |l (t:Ty) (x:List t.T)
 |tv (t:Ty) (x:t.T)
def J7 (t u:Ty) (x:t.T):Option u.T:=if h:t=u then some (h▸x) else none
theorem Oa {u' u:Ty} {x:u'.T} {y:u.T} (h:J7 u' u x=some y): ∃e:u'=u,e▸x=y:=by
 unfold J7 at h
 split at h
 ·rename_i e;cases h;exact ⟨e,rfl⟩
 ·cases h
def DV.as:(h:HT)->DV->Option h.T
 | .i,d=>match d with| .i x=>some x|_=>none
 | .b,d=>match d with| .b x=>some x|_=>none
 | .s,d=>match d with| .s x=>some x|_=>none
 | .n,d=>match d with| .n x=>some x|_=>none
 | .v,d=>match d with| .v x=>some x|_=>none
 | .env,d=>match d with| .env x=>some x|_=>none
 | .lo,d=>match d with| .lo x=>some x|_=>none
 | .hd,d=>match d with| .hd x=>some x|_=>none
 | .l t,d=>match d with| .l u x=>kG u t x|_=>none
 | .tv t,d=>match d with| .tv u x=>J7 u t x|_=>none
def DV.of:(h:HT)->h.T->DV
 | .i,x=> .i x
 | .b,x=> .b x
 | .s,x=> .s x
 | .n,x=> .n x
 | .v,x=> .v x
 | .env,x=> .env x
 | .lo,x=> .lo x
 | .hd,x=> .hd x
 | .l t,x=> .l t x
 | .tv t,x=> .tv t x
theorem DV.acO {h:HT} {d:DV} {x:h.T} (e:d.as h=some x):DV.of h x=d:=by
 cases h with
 |l t=>
  cases d<;>simp only [DV.as] at e<;>try (cases e;done)
  rename_i u y
  obtain ⟨e1,e2⟩:=cP e
  subst e1
  dsimp only at e2
  subst e2
  rfl
 |tv t=>
  cases d<;>simp only [DV.as] at e<;>try (cases e;done)
  rename_i u y
  obtain ⟨e1,e2⟩:=Oa e
  subst e1
  dsimp only at e2
  subst e2
  rfl
 |_=>cases d<;>simp only [DV.as] at e<;>first|(cases e;done)|(cases e;rfl)
@[reducible] def TT:List HT->Type
 | []=>Unit
 | [a]=>a.T
 |a::c::r=>a.T×TT (c::r)
def Tx:(ts:List HT)->List DV->Option (TT ts)
 | [],ds=>match ds with| []=>some ()|_=>none
 | [a],ds=>match ds with| [d]=>d.as a|_=>none
 |a::c::r,ds=>match ds with
  |d::q=>match d.as a,Tx (c::r) q with|some x,some y=>some (x,y)|_,_=>none
  | []=>none
def Pa:(ts:List HT)->TT ts->List DV
 | [],_=> []
 | [a],x=> [DV.of a x]
 |a::c::r,x=>DV.of a x.1::Pa (c::r) x.2
theorem NS: ∀(ts:List HT) (ds:List DV) (x:TT ts),Tx ts ds=some x->Pa ts x=ds
 | [],ds,x,h=>by
  simp only [Tx] at h
  split at h<;>first|rfl|cases h
 | [a],ds,x,h=>by
  simp only [Tx] at h
  split at h
  ·simp only [Pa,DV.acO h]
  ·cases h
 |a::c::r,ds,x,h=>by
  simp only [Tx] at h
  split at h
  ·split at h
   ·rename_i y z h1 h2
    cases h
    simp only [Pa,DV.acO h1,NS _ _ _ h2]
   ·cases h
  ·cases h
def pick:List Nat->List DV->Nat->DV
 |k::r,v::q,j=>bif Nat.beq k j then v else pick r q j
 |_,_,_=> .n 0
def Jt (idx:List Nat) (ds:List DV):List DV:=idx.map fun j=>ds.getD j (.n 0)
def aeD (idx:List Nat) (vs:List DV) (n:Nat):List DV:=(List.range n).map (pick idx vs)
theorem Pg (f:Nat->DV): ∀(idx:List Nat) (j:Nat),j∈idx->pick idx (idx.map f) j=f j
  | [],_,h=>by cases h
  | k::r,j,h=>by
    simp only [List.map_cons,pick]
    by_cases e:k=j
    · subst e;simp
    · have:Nat.beq k j=false:=by rw [Nat.beq_eq_false_iff_ne];exact e
      rw [this]
      exact Pg f r j ((List.mem_cons.1 h).resolve_left fun h=>e h.symm)
where Nat.beq_eq_false_iff_ne {a b:Nat} :Nat.beq a b=false↔a≠b:=by
        rw [<- Bool.not_eq_true,Nat.beq_eq]
theorem Xk {idx:List Nat} {ds:List DV} (h: ∀j,j<ds.length->j∈idx):aeD idx (Jt idx ds) ds.length=ds:=by
 unfold aeD Jt
 refine List.ext_getElem (by simp) fun i h1 h2=> ?_
 simp only [List.getElem_map,List.getElem_range]
 rw [Pg _ _ _ (h i h2),List.getD_eq_getElem?_getD,List.getElem?_eq_getElem h2];rfl
inductive PR
 |ext
 |loc (n off:Nat)
 |elem (n:Nat)
 |full (n:Nat)
 |mp (n:Nat)
inductive PC
 |i (k:IntKind)
 |b|s|raw
 |ptr (n off:Nat)
 |nS (n:Nat)
 |sl (n off:Nat)
 |full (n:Nat)
 |bD (n k:Nat)
 |fK (n:Nat)
 |mB (f:FuncId) (nf:Nat) (rs:List PR)
 |Cz (n:Nat)
 |mp (n:Nat)
 |mv (f:FuncId) (agg:Bool) (rs:List PR)
inductive PA
 |one (p:PC)
 |agg (l:List PC)
inductive PV
 |d
 |v (a:PA)
 |r7 (l:List PA)
inductive PO
 |gone
 |cells (l:List PC) (e:TypeId)
 |row (t:Ty) (rk:Nat)
 |alias (n:Nat) (q:Bool)
 |loop (busy:Bool)
 |gU (n:Nat)
 |cK
 |map (ka va:Bool) (k v:Ty)
 |oQ (ka:Bool) (k u:Ty) (c:Nat)
 |set (n:Nat)
 |gv (n c:Nat) (k u:Ty)
 |rc (l:List PC)
 |dp (t:Ty) (c:Nat) (st:Bool)
 |nv (n c q:Nat) (u:Ty)
abbrev rY:=List (Option Src)
def Src.eqb:Src->Src->Bool
 | .same a,.same b=>Nat.beq a b
 | .nil,.nil=>true
 | .cells a b,.cells c d=>Nat.beq a c&&Nat.beq b d
 | .mt a b,.mt c d=>Nat.beq a c&&Nat.beq b d
 |_,_=>false
theorem Src.adL {a b:Src} (h:Src.eqb a b=true):a=b:=by
 cases a<;>cases b<;>simp_all [Src.eqb]
def qA (π:rY) (n:Nat) (s:Src):Option rY:=match π[n]? with
 |some none=>some (π.set n (some s))
 |some (some t)=>bif Src.eqb t s then some π else none
 |none=>none
structure vm (π iS:rY):Prop where
 len:iS.length=π.length
 sub: ∀(n:Nat) (s:Src),π[n]? =some (some s)->iS[n]? =some (some s)
theorem vm.rfl' (π:rY):vm π π:=⟨rfl,fun _ _ h=>h⟩
theorem vm.trans {a b c:rY} (h:vm a b) (k:vm b c):vm a c:=⟨k.len.trans h.len,fun n s e=>k.sub n s (h.sub n s e)⟩
def y8 (π:rY) (f:List Src):Prop:= ∀(n:Nat) (s:Src),π[n]? =some (some s)->f[n]? =some s
theorem y8.of {π iS:rY} {f:List Src} (h:y8 iS f) (k:vm π iS):y8 π f:=fun n s e=>h n s (k.sub n s e)
theorem dA {π iS:rY} {n:Nat} {s:Src} (h:qA π n s=some iS):vm π iS/\ iS[n]? =some (some s):=by
 unfold qA at h
 split at h
 ·rename_i hn
  cases h
  have hl:=(List.getElem?_eq_some_iff.1 hn).1
  refine ⟨⟨by simp,fun m t hm=> ?_⟩,by simp [hl]⟩
  rw [List.getElem?_set]
  split
  ·rename_i e;subst e;rw [hn] at hm;cases hm
  ·exact hm
 ·rename_i t hn
  cases hb:Src.eqb t s with
  |true=>
   rw [hb] at h
   cases h
   exact ⟨.rfl' _,by rw [hn,Src.adL hb]⟩
  |false=>rw [hb] at h;cases h
 ·cases h
theorem iy {π iS:rY} {n:Nat} {s:Src} (h:qA π n s=some iS) {f:List Src} (hf:y8 iS f):f[n]? =some s:=hf n s (dA h).2
theorem dz {f:List Src} {n m:Nat} (h:f[n]? =some (.same m)):jq f n=some m:=by unfold jq;rw [h]
def ni:List PR->List Ref->rY->Option (rY×List DV)
 | [],qs,π=>match qs with| []=>some (π,[])|_=>none
 |p::ps,qs,π=>match qs with
  | []=>none
  |q::qs=>match p,q with
   | .ext,.ext v=>match ni ps qs π with|some (iS,ds)=>some (iS,.v v::ds)|none=>none
   | .loc n o,.loc m o'=>if o=o' then (match qA π n (.same m) with|some E7=>ni ps qs E7|none=>none) else none
   | .elem n,.elem m j=>match qA π n (.same m) with
    |some E7=>(match ni ps qs E7 with|some (iS,ds)=>some (iS,.n j::ds)|none=>none)
    |none=>none
   | .full n,.full m=>(match qA π n (.same m) with|some E7=>ni ps qs E7|none=>none)
   | .mp n,.mp m=>(match qA π n (.same m) with|some E7=>ni ps qs E7|none=>none)
   |_,_=>none
def fN:List PR->List DV->List Ref×List DV
 | [],r=>([],r)
 | .ext::ps,r=>match r with| .v x::r=>(match fN ps r with|(q,r)=>(.ext x::q,r))|r=>([],r)
 | .loc n o::ps,r=>match fN ps r with|(q,r)=>(.loc n o::q,r)
 | .elem n::ps,r=>match r with| .n j::r=>(match fN ps r with|(q,r)=>(.elem n j::q,r))|r=>([],r)
 | .full n::ps,r=>match fN ps r with|(q,r)=>(.full n::q,r)
 | .mp n::ps,r=>match fN ps r with|(q,r)=>(.mp n::q,r)
theorem gD: ∀(ps:List PR) (qs:List Ref) (π iS:rY) (ds:List DV),ni ps qs π=some (iS,ds)->
  vm π iS/\ ∃rs,(∀r,fN ps (ds++r)=(rs,r))/\ ∀f,y8 iS f->kq f rs=some qs
 | [],qs,π,iS,ds,h=>by
  simp only [ni] at h
  split at h
  ·cases h;exact ⟨.rfl' _,[],fun _=>rfl,fun _ _=>rfl⟩
  ·cases h
 |p::ps,qs,π,iS,ds,h=>by
  simp only [ni] at h
  split at h
  ·cases h
  rename_i q qs
  split at h
  ·split at h
   ·rename_i h1
    cases h
    obtain ⟨a,rs,b,c⟩:=gD ps qs _ _ _ h1
    exact ⟨a,.ext _::rs,fun r=>(by simp only [List.cons_append,fN,b r];rfl),fun f hf=>by simp only [kq,qk,c f hf]⟩
   ·cases h
  ·split at h
   ·rename_i ho
    subst ho
    split at h
    ·rename_i hb
     obtain ⟨a,rs,b,c⟩:=gD ps qs _ _ _ h
     exact ⟨(dA hb).1.trans a,.loc _ _::rs,fun r=>(by simp only [fN,b r];rfl),fun f hf=>by simp only [kq,qk,c f hf,dz (iy hb (hf.of a))]⟩
    ·cases h
   ·cases h
  ·split at h
   ·rename_i hb
    split at h
    ·rename_i h1
     cases h
     obtain ⟨a,rs,b,c⟩:=gD ps qs _ _ _ h1
     exact ⟨(dA hb).1.trans a,.elem _ _::rs,fun r=>(by simp only [List.cons_append,fN,b r];rfl),fun f hf=>by simp only [kq,qk,c f hf,dz (iy hb (hf.of a))]⟩
    ·cases h
   ·cases h
  ·split at h
   ·rename_i hb
    obtain ⟨a,rs,b,c⟩:=gD ps qs _ _ _ h
    exact ⟨(dA hb).1.trans a,.full _::rs,fun r=>(by simp only [fN,b r];rfl),fun f hf=>by simp only [kq,qk,c f hf,dz (iy hb (hf.of a))]⟩
   ·cases h
  ·split at h
   ·rename_i hb
    obtain ⟨a,rs,b,c⟩:=gD ps qs _ _ _ h
    exact ⟨(dA hb).1.trans a,.mp _::rs,fun r=>(by simp only [fN,b r];rfl),fun f hf=>by simp only [kq,qk,c f hf,dz (iy hb (hf.of a))]⟩
   ·cases h
  ·cases h
def U1:Nat->List DV->List Value×List DV
 |0,r=>([],r)
 |n+1,r=>match r with| .v x::r=>(match U1 n r with|(q,r)=>(x::q,r))|r=>([],r)
theorem Mh: ∀(l:List Value) (r:List DV),U1 l.length (l.map .v++r)=(l,r)
 | [],r=>rfl
 |v::l,r=>by simp only [List.length_cons,List.map_cons,List.cons_append,U1,Mh l r]
def vu (π:rY) (n m:Nat) (ds:List DV):Option (rY×List DV):=match qA π n (.same m) with
 |some iS=>some (iS,ds)
 |none=>none
theorem cZ {π iS:rY} {n m:Nat} {ds ds':List DV} (h:vu π n m ds=some (iS,ds')):vm π iS/\ ds'=ds/\ ∀f,y8 iS f->f[n]? =some (.same m):=by
 unfold vu at h
 split at h
 ·rename_i hb
  cases h
  exact ⟨(dA hb).1,rfl,fun f hf=>iy hb hf⟩
 ·cases h
def vB (p:PC) (c:Cell) (π:rY):Option (rY×List DV):=match p with
 | .i k=>match c with| .raw (.int k' n)=>if k=k' then some (π,[.i n]) else none|_=>none
 | .b=>match c with| .raw (.bool x)=>some (π,[.b x])|_=>none
 | .s=>match c with| .raw (.string x)=>some (π,[.s x])|_=>none
 | .raw=>match c with| .raw v=>some (π,[.v v])|_=>none
 | .ptr n o=>match c with| .ptr m o'=>if o=o' then vu π n m [] else none|_=>none
 | .nS n=>match c with| .nS m o=>vu π n m [.n o]|_=>none
 | .sl n o=>match c with| .sl m o' l cp=>if o=o' then vu π n m [.n l,.n cp] else none|_=>none
 | .full n=>match c with
  | .full m=>vu π n m []
  | .raw (.slice none 0 0)=>(match qA π n .nil with|some iS=>some (iS,[])|none=>none)
  | .sl m off 0 0=>(match qA π n (.mt m off) with|some iS=>some (iS,[])|none=>none)
  | .sl m 0 l cp=>if cp=l then (match qA π n (.cells m l) with|some iS=>some (iS,[])|none=>none) else none
  |_=>none
 | .bD n k=>match c with| .bD m j k'=>if k=k' then vu π n m [.n j] else none|_=>none
 | .fK n=>match c with| .fK m j k=>vu π n m [.n j,.n k]|_=>none
 | .mB f nf rs=>match c with
  | .mB (.func g) first cap=>if g=f/\ first.length=nf then (match ni rs cap π with|some (iS,ds)=>some (iS,first.map .v++ds)|none=>none) else none
  |_=>none
 | .Cz n=>match c with| .Cz m=>vu π n m []|_=>none
 | .mp n=>match c with| .mp m=>vu π n m []|_=>none
 | .mv f a rs=>match c with| .mv g a' qs=>if g=f/\ a'=a then ni rs qs π else none|_=>none
def Oo (p:PC) (r:List DV):Cell×List DV:=match p with
 | .i k=>match r with| .i n::r=>(.raw (.int k n),r)|r=>(.raw undef,r)
 | .b=>match r with| .b n::r=>(.raw (.bool n),r)|r=>(.raw undef,r)
 | .s=>match r with| .s n::r=>(.raw (.string n),r)|r=>(.raw undef,r)
 | .raw=>match r with| .v n::r=>(.raw n,r)|r=>(.raw undef,r)
 | .ptr n o=>(.ptr n o,r)
 | .nS n=>match r with| .n o::r=>(.nS n o,r)|r=>(.raw undef,r)
 | .sl n o=>match r with| .n l:: .n c::r=>(.sl n o l c,r)|r=>(.raw undef,r)
 | .full n=>(.full n,r)
 | .bD n k=>match r with| .n j::r=>(.bD n j k,r)|r=>(.raw undef,r)
 | .fK n=>match r with| .n j:: .n k::r=>(.fK n j k,r)|r=>(.raw undef,r)
 | .mB f nf rs=>match U1 nf r with|(fs,r)=>match fN rs r with|(q,r)=>(.mB (.func f) fs q,r)
 | .Cz n=>(.Cz n,r)
 | .mp n=>(.mp n,r)
 | .mv f a rs=>match fN rs r with|(q,r)=>(.mv f a q,r)
theorem Kc {p:PC} {c:Cell} {π iS:rY} {ds:List DV} (h:vB p c π=some (iS,ds)):
  vm π iS/\ ∃q,(∀r,Oo p (ds++r)=(q,r))/\ ∀f,y8 iS f->jU f q=some c:=by
 cases p with
 |i k=>
  simp only [vB] at h
  split at h<;>try (cases h;done)
  split at h<;>try (cases h;done)
  rename_i e;cases h;subst e
  exact ⟨.rfl' _,_,fun r=>rfl,fun f _=>rfl⟩
 |b=>
  simp only [vB] at h
  split at h<;>try (cases h;done)
  cases h
  exact ⟨.rfl' _,_,fun r=>rfl,fun f _=>rfl⟩
 |s=>
  simp only [vB] at h
  split at h<;>try (cases h;done)
  cases h
  exact ⟨.rfl' _,_,fun r=>rfl,fun f _=>rfl⟩
 |raw=>
  simp only [vB] at h
  split at h<;>try (cases h;done)
  cases h
  exact ⟨.rfl' _,_,fun r=>rfl,fun f _=>rfl⟩
 |ptr n o=>
  simp only [vB] at h
  split at h<;>try (cases h;done)
  split at h<;>try (cases h;done)
  rename_i e;subst e
  obtain ⟨a,rfl,b⟩:=cZ h
  exact ⟨a,_,fun r=>rfl,fun f hf=>by simp only [jU,dz (b f hf)]⟩
 |nS n=>
  simp only [vB] at h
  split at h<;>try (cases h;done)
  obtain ⟨a,rfl,b⟩:=cZ h
  exact ⟨a,_,fun r=>rfl,fun f hf=>by simp only [jU,dz (b f hf)]⟩
 |sl n o=>
  simp only [vB] at h
  split at h<;>try (cases h;done)
  split at h<;>try (cases h;done)
  rename_i e;subst e
  obtain ⟨a,rfl,b⟩:=cZ h
  exact ⟨a,_,fun r=>rfl,fun f hf=>by simp only [jU,dz (b f hf)]⟩
 |full n=>
  simp only [vB] at h
  split at h
  ·obtain ⟨a,rfl,b⟩:=cZ h
   exact ⟨a,_,fun r=>rfl,fun f hf=>by simp only [jU,b f hf]⟩
  ·split at h
   ·rename_i hb
    cases h
    exact ⟨(dA hb).1,_,fun r=>rfl,fun f hf=>by simp only [jU,iy hb hf]⟩
   ·cases h
  ·split at h
   ·rename_i hb
    cases h
    exact ⟨(dA hb).1,_,fun r=>rfl,fun f hf=>by simp only [jU,iy hb hf]⟩
   ·cases h
  ·split at h<;>try (cases h;done)
   rename_i e;subst e
   split at h
   ·rename_i hb
    cases h
    exact ⟨(dA hb).1,_,fun r=>rfl,fun f hf=>by simp only [jU,iy hb hf]⟩
   ·cases h
  ·cases h
 |bD n k=>
  simp only [vB] at h
  split at h<;>try (cases h;done)
  split at h<;>try (cases h;done)
  rename_i e;subst e
  obtain ⟨a,rfl,b⟩:=cZ h
  exact ⟨a,_,fun r=>rfl,fun f hf=>by simp only [jU,dz (b f hf)]⟩
 |fK n=>
  simp only [vB] at h
  split at h<;>try (cases h;done)
  obtain ⟨a,rfl,b⟩:=cZ h
  exact ⟨a,_,fun r=>rfl,fun f hf=>by simp only [jU,dz (b f hf)]⟩
 |mB f nf rs=>
  simp only [vB] at h
  split at h<;>try (cases h;done)
  split at h<;>try (cases h;done)
  rename_i e
  obtain ⟨rfl,rfl⟩:=e
  split at h<;>try (cases h;done)
  rename_i hr
  cases h
  obtain ⟨a,q,b,c⟩:=gD _ _ _ _ _ hr
  exact ⟨a,.mB (.func _) _ q,fun r=>(by simp only [Oo,List.append_assoc,Mh,b r];rfl),fun f hf=>by simp only [jU,c f hf]⟩
 |Cz n=>
  simp only [vB] at h
  split at h<;>try (cases h;done)
  obtain ⟨a,rfl,b⟩:=cZ h
  exact ⟨a,_,fun r=>rfl,fun f hf=>by simp only [jU,dz (b f hf)]⟩
 |mp n=>
  simp only [vB] at h
  split at h<;>try (cases h;done)
  obtain ⟨a,rfl,b⟩:=cZ h
  exact ⟨a,_,fun r=>rfl,fun f hf=>by simp only [jU,dz (b f hf)]⟩
 |mv f ag rs=>
  simp only [vB] at h
  split at h<;>try (cases h;done)
  split at h<;>try (cases h;done)
  rename_i e
  obtain ⟨rfl,rfl⟩:=e
  obtain ⟨a,q,b,c⟩:=gD _ _ _ _ _ h
  exact ⟨a,.mv _ _ q,fun r=>(by simp only [Oo,b r];rfl),fun f hf=>by simp only [jU,c f hf]⟩
def Gj:List PC->List Cell->rY->Option (rY×List DV)
 | [],cs,π=>match cs with| []=>some (π,[])|_=>none
 |p::ps,cs,π=>match cs with
  | []=>none
  |c::cs=>match vB p c π with
   |some (E7,d1)=>(match Gj ps cs E7 with|some (U5,d2)=>some (U5,d1++d2)|none=>none)
   |none=>none
def CU:List PC->List DV->List Cell×List DV
 | [],r=>([],r)
 |p::ps,r=>match Oo p r with|(c,r)=>match CU ps r with|(cs,r)=>(c::cs,r)
theorem s9: ∀(ps:List PC) (cs:List Cell) (π iS:rY) (ds:List DV),Gj ps cs π=some (iS,ds)->
  vm π iS/\ ∃q,(∀r,CU ps (ds++r)=(q,r))/\ ∀f,y8 iS f->iO f q=some cs
 | [],cs,π,iS,ds,h=>by
  simp only [Gj] at h
  split at h
  ·cases h;exact ⟨.rfl' _,[],fun _=>rfl,fun _ _=>rfl⟩
  ·cases h
 |p::ps,cs,π,iS,ds,h=>by
  simp only [Gj] at h
  split at h
  ·cases h
  split at h
  ·rename_i h1
   split at h
   ·rename_i h2
    cases h
    obtain ⟨a,q,b,c⟩:=Kc h1
    obtain ⟨a',q',b',c'⟩:=s9 ps _ _ _ _ h2
    exact ⟨a.trans a',q::q',fun r=>by simp only [CU,List.append_assoc,b,b'],fun f hf=>by simp only [iO,c f (hf.of a'),c' f hf]⟩
   ·cases h
  ·cases h
def Yb (p:PA) (a:A0) (π:rY):Option (rY×List DV):=match p with
 | .one p=>match a with| .one c=>vB p c π|_=>none
 | .agg ps=>match a with| .agg cs=>Gj ps cs π|_=>none
def On (p:PA) (r:List DV):A0×List DV:=match p with
 | .one p=>match Oo p r with|(c,r)=>(.one c,r)
 | .agg ps=>match CU ps r with|(c,r)=>(.agg c,r)
theorem Kb {p:PA} {a:A0} {π iS:rY} {ds:List DV} (h:Yb p a π=some (iS,ds)):
  vm π iS/\ ∃q,(∀r,On p (ds++r)=(q,r))/\ ∀f,y8 iS f->JP f q=some a:=by
 cases p with
 |one p=>
  simp only [Yb] at h
  split at h<;>try (cases h;done)
  obtain ⟨a,q,b,c⟩:=Kc h
  exact ⟨a,.one q,fun r=>by simp only [On,b r],fun f hf=>by simp only [JP,c f hf]⟩
 |agg ps=>
  simp only [Yb] at h
  split at h<;>try (cases h;done)
  obtain ⟨a,q,b,c⟩:=s9 _ _ _ _ _ h
  exact ⟨a,.agg q,fun r=>by simp only [On,b r],fun f hf=>by simp only [JP,c f hf]⟩
def Oh:List PA->List A0->rY->Option (rY×List DV)
 | [],cs,π=>match cs with| []=>some (π,[])|_=>none
 |p::ps,cs,π=>match cs with
  | []=>none
  |c::cs=>match Yb p c π with
   |some (E7,d1)=>(match Oh ps cs E7 with|some (U5,d2)=>some (U5,d1++d2)|none=>none)
   |none=>none
def MI:List PA->List DV->List A0×List DV
 | [],r=>([],r)
 |p::ps,r=>match On p r with|(c,r)=>match MI ps r with|(cs,r)=>(c::cs,r)
theorem Gi: ∀(ps:List PA) (cs:List A0) (π iS:rY) (ds:List DV),Oh ps cs π=some (iS,ds)->
  vm π iS/\ ∃q,(∀r,MI ps (ds++r)=(q,r))/\ ∀f,y8 iS f->iq f q=some cs
 | [],cs,π,iS,ds,h=>by
  simp only [Oh] at h
  split at h
  ·cases h;exact ⟨.rfl' _,[],fun _=>rfl,fun _ _=>rfl⟩
  ·cases h
 |p::ps,cs,π,iS,ds,h=>by
  simp only [Oh] at h
  split at h
  ·cases h
  split at h
  ·rename_i h1
   split at h
   ·rename_i h2
    cases h
    obtain ⟨a,q,b,c⟩:=Kb h1
    obtain ⟨a',q',b',c'⟩:=Gi ps _ _ _ _ h2
    exact ⟨a.trans a',q::q',fun r=>by simp only [MI,List.append_assoc,b,b'],fun f hf=>by simp only [iq,c f (hf.of a'),c' f hf]⟩
   ·cases h
  ·cases h
def Gk:List PV->List AV->rY->Option (rY×List DV)
 | [],vs,π=>match vs with| []=>some (π,[])|_=>none
 |p::ps,vs,π=>match vs with
  | []=>none
  |x::vs=>match p with
   | .d=>Gk ps vs π
   | .v a=>(match x with
    | .v y=>(match Yb a y π with
     |some (E7,d1)=>(match Gk ps vs E7 with|some (U5,d2)=>some (U5,d1++d2)|none=>none)
     |none=>none)
    |_=>none)
   | .r7 l=>(match x with
    | .r7 m=>(match Oh l m π with
     |some (E7,d1)=>(match Gk ps vs E7 with|some (U5,d2)=>some (U5,d1++d2)|none=>none)
     |none=>none)
    |_=>none)
def vJ:List PV->List DV->List AV×List DV
 | [],r=>([],r)
 | .d::ps,r=>match vJ ps r with|(q,r)=>(.dead::q,r)
 | .v a::ps,r=>match On a r with|(x,r)=>match vJ ps r with|(q,r)=>(.v x::q,r)
 | .r7 l::ps,r=>match MI l r with|(x,r)=>match vJ ps r with|(q,r)=>(.r7 x::q,r)
theorem td: ∀(ps:List PV) (vs:List AV) (π iS:rY) (ds:List DV),Gk ps vs π=some (iS,ds)->
  vm π iS/\ ∃q,(∀r,vJ ps (ds++r)=(q,r))/\ ∀f,y8 iS f->Ja f vs q
 | [],vs,π,iS,ds,h=>by
  simp only [Gk] at h
  split at h
  ·cases h;exact ⟨.rfl' _,[],fun _=>rfl,fun _ _=>trivial⟩
  ·cases h
 |p::ps,vs,π,iS,ds,h=>by
  simp only [Gk] at h
  split at h
  ·cases h
  rename_i x vs
  cases p with
  |d=>
   obtain ⟨a,q,b,c⟩:=td ps vs _ _ _ h
   exact ⟨a,.dead::q,fun r=>by simp only [vJ,b r],fun f hf=>c f hf⟩
  |v pa=>
   dsimp only at h
   split at h<;>try (cases h;done)
   split at h<;>try (cases h;done)
   rename_i h1
   split at h<;>try (cases h;done)
   rename_i h2
   cases h
   obtain ⟨a,q,b,c⟩:=Kb h1
   obtain ⟨a',q',b',c'⟩:=td ps _ _ _ _ h2
   exact ⟨a.trans a',.v q::q',fun r=>by simp only [vJ,List.append_assoc,b,b'],fun f hf=>⟨by simp only [uy,c f (hf.of a')],c' f hf⟩⟩
  |r7 l=>
   dsimp only at h
   split at h<;>try (cases h;done)
   split at h<;>try (cases h;done)
   rename_i h1
   split at h<;>try (cases h;done)
   rename_i h2
   cases h
   obtain ⟨a,q,b,c⟩:=Gi _ _ _ _ _ h1
   obtain ⟨a',q',b',c'⟩:=td ps _ _ _ _ h2
   exact ⟨a.trans a',.r7 q::q',fun r=>by simp only [vJ,List.append_assoc,b,b'],fun f hf=>⟨by simp only [uy,c f (hf.of a')],c' f hf⟩⟩
def abm (π:rY):Nat->Bool
 |0=>true
 |n+1=>(match π[n]? with|some (some (.same m))=>m==n|_=>false)&&abm π n
theorem Kl {π:rY} {f:List Src} (hf:y8 π f): ∀ {n:Nat},abm π n=true->CV f n=true
 |0,_=>rfl
 |n+1,h=>by
  simp only [abm,Bool.and_eq_true] at h
  simp only [CV,Bool.and_eq_true]
  refine ⟨?_,Kl hf h.2⟩
  have h1:=h.1
  split at h1
  ·rename_i m hm
   rw [hf _ _ hm];exact h1
  ·cases h1
def zf (h:List aI) (p:PO) (s:Src) (π:rY):Option (rY×List DV):=match p with
 | .gone=>none
 | .cells ps e=>match s with
  | .same m=>(match aq h m with|some (.cells cs e')=>if e=e' then Gj ps cs π else none|_=>none)
  |_=>none
 | .row t rk=>match s with
  | .same m=>(match aq h m with
   |some (.row u l k)=>if k=rk then (match kG u t l with|some l'=>some (π,[.l t l'])|none=>none) else none
   |_=>none)
  | .nil=>if rk=0 then none else some (π,[.l t []])
  | .mt m _=>if rk=3 then (match aq h m with|some (.cells _ _)=>some (π,[.l t []])|_=>none) else none
  | .any _=>none
  | .cells m len=>if (rk=2\/ rk=3)/\ t.flat=true then (match aq h m with
   |some (.cells cs _)=>if cs.length=len*t.size/\ Nat.ble len 1099511627776=true then (match yd (b7 (fun _=>none) t) len cs with|some (l,[])=>some (π,[.l t l])|_=>none) else none
   |_=>none) else none
 | .alias n q=>match s with
  | .same m=>(match aq h m with
   |some (.alias n' a b)=>(match q,b with
    |false,none=>vu π n n' [.n a]
    |true,some x=>vu π n n' [.n a,.n x]
    |_,_=>none)
   |_=>none)
  |_=>none
 | .loop busy=>match s with
  | .same m=>(match aq h m with
   |some (.loop r s none)=>(match busy,s with
    |false,.ready=>some (π,[.lo r])
    |true,.busy=>some (π,[.lo r])
    |_,_=>none)
   |_=>none)
  |_=>none
 | .gU k=>match s with
  | .same m=>(match aq h m with|some (.gU ρ k')=>if k=k'/\ abm π k=true then some (π,[.env ρ]) else none|_=>none)
  |_=>none
 | .cK=>match s with
  | .same m=>(match aq h m with|some (.cK S)=>some (π,[.hd S])|_=>none)
  |_=>none
 | .map ka va k v=>match s with
  | .same m=>(match aq h m with
   |some (.map ka' va' k' v' l)=>if ka'=ka/\ va'=va then (match kG (.prod k' v') (.prod k v) l with|some l'=>some (π,[.l (.prod k v) l'])|none=>none) else none
   |_=>none)
  |_=>none
 | .oQ ka k u c=>match s with
  | .same m=>(match aq h m with
   |some (.oQ ka' k' u' l c' none)=>if ka'=ka then (match kG (.prod k' (.sl u')) (.prod k (.sl u)) l with|some l'=>vu π c c' [.l (.prod k (.sl u)) l']|none=>none) else none
   |_=>none)
  |_=>none
 | .set n=>match s with
  | .same m=>(match aq h m with|some (.set n')=>vu π n n' []|_=>none)
  |_=>none
 | .gv n c k u=>match s with
  | .same m=>(match aq h m with
   |some (.gv n' c' k' u' x l)=>(match J7 k' k x,kG u' u l with
    |some x',some l'=>(match qA π n (.same n') with|some E7=>vu E7 c c' [.tv k x',.l u l']|none=>none)
    |_,_=>none)
   |_=>none)
  |_=>none
 | .rc ps=>match s with
  | .same m=>(match aq h m with|some (.rc cs)=>Gj ps cs π|_=>none)
  |_=>none
 | .dp t c st=>match s with
  | .same m=>(match aq h m with
   |some (.dp t' l c' st' kn)=>if st'=st then (match kG t' t l with|some l'=>vu π c c' [.l t l',.b kn]|none=>none) else none
   |_=>none)
  |_=>none
 | .nv n c q u=>match s with
  | .same m=>(match aq h m with
   |some (.nv n' c' j q' u')=>if q'=q/\ u'=u then (match qA π n (.same n') with|some E7=>vu E7 c c' [.n j]|none=>none) else none
   |_=>none)
  |_=>none
def qa (p:PO) (r:List DV):aI×List DV:=match p with
 | .gone=>(.gone,r)
 | .cells ps e=>match CU ps r with|(cs,r)=>(.cells cs e,r)
 | .row t rk=>match r with|d::r=>(match d.as (.l t) with|some l=>(.row t l rk,r)|none=>(.gone,r))|r=>(.gone,r)
 | .alias n false=>match r with| .n a::r=>(.alias n a none,r)|r=>(.gone,r)
 | .alias n true=>match r with| .n a:: .n b::r=>(.alias n a (some b),r)|r=>(.gone,r)
 | .loop busy=>match r with| .lo l::r=>(.loop l (bif busy then .busy else .ready) none,r)|r=>(.gone,r)
 | .gU k=>match r with| .env ρ::r=>(.gU ρ k,r)|r=>(.gone,r)
 | .cK=>match r with| .hd S::r=>(.cK S,r)|r=>(.gone,r)
 | .map ka va k v=>match r with|d::r=>(match d.as (.l (.prod k v)) with|some l=>(.map ka va k v l,r)|none=>(.gone,r))|r=>(.gone,r)
 | .oQ ka k u c=>match r with|d::r=>(match d.as (.l (.prod k (.sl u))) with|some l=>(.oQ ka k u l c none,r)|none=>(.gone,r))|r=>(.gone,r)
 | .set n=>(.set n,r)
 | .rc ps=>match CU ps r with|(cs,r)=>(.rc cs,r)
 | .dp t c st=>match r with|d:: .b kn::r=>(match d.as (.l t) with|some l=>(.dp t l c st kn,r)|none=>(.gone,r))|r=>(.gone,r)
 | .nv n c q u=>match r with| .n j::r=>(.nv n c j q u,r)|r=>(.gone,r)
 | .gv n c k u=>match r with|d::e::r=>(match d.as (.tv k),e.as (.l u) with|some x,some l=>(.gv n c k u x l,r)|_,_=>(.gone,r))|r=>(.gone,r)
theorem Q7 (t:Ty) (x:t.T):J7 t t x=some x:=by unfold J7;rw [dif_pos rfl]
theorem pY (t:Ty) (l:List t.T):kG t t l=some l:=by unfold kG;rw [dif_pos rfl]
theorem xj (t:Ty) (rk:Nat) (l:List t.T) (r:List DV):qa (.row t rk) (.l t l::r)=(.row t l rk,r):=by
 simp only [qa,DV.as,pY]
theorem VE (ka va:Bool) (k v:Ty) (l:List (k.T×v.T)) (r:List DV):qa (.map ka va k v) (.l (.prod k v) l::r)=(.map ka va k v l,r):=by
 simp only [qa,DV.as,pY]
theorem VD (ka:Bool) (k u:Ty) (c:Nat) (l:List (k.T×List u.T)) (r:List DV):qa (.oQ ka k u c) (.l (.prod k (.sl u)) l::r)=(.oQ ka k u l c none,r):=by
 simp only [qa,DV.as,pY]
theorem Yk (n c:Nat) (k u:Ty) (x:k.T) (l:List u.T) (r:List DV):qa (.gv n c k u) (.tv k x:: .l u l::r)=(.gv n c k u x l,r):=by
 simp only [qa,DV.as,pY,Q7]
theorem Yj (t:Ty) (c:Nat) (st kn:Bool) (l:List t.T) (r:List DV):qa (.dp t c st) (.l t l:: .b kn::r)=(.dp t l c st kn,r):=by
 simp only [qa,DV.as,pY]
theorem Vu {h:List aI} {p:PO} {s:Src} {π iS:rY} {ds:List DV} (hd:zf h p s π=some (iS,ds)):
  vm π iS/\ ∃o,o≠ .gone/\ (∀r,qa p (ds++r)=(o,r))/\ ∀f,y8 iS f->C7 f h s o:=by
 cases p with
 |gone=>cases hd
 |cells ps e=>
  simp only [zf] at hd
  split at hd<;>try (cases hd;done)
  split at hd<;>try (cases hd;done)
  rename_i hl
  split at hd<;>try (cases hd;done)
  rename_i he;subst he
  obtain ⟨a,q,b,c⟩:=s9 _ _ _ _ _ hd
  exact ⟨a,.cells q _,by simp,fun r=>(by simp only [qa,b r];rfl),fun f hf=>⟨_,hl,by simp only [gg,c f hf]⟩⟩
 |row t rk=>
  simp only [zf] at hd
  split at hd
  ·split at hd<;>try (cases hd;done)
   rename_i hl
   split at hd<;>try (cases hd;done)
   rename_i hk;subst hk
   split at hd<;>try (cases hd;done)
   rename_i hc
   cases hd
   obtain ⟨e1,e2⟩:=cP hc
   subst e1
   dsimp only at e2
   subst e2
   exact ⟨.rfl' _,_,by simp,fun r=>xj _ _ _ r,fun f hf=>⟨_,hl,rfl⟩⟩
  ·split at hd<;>try (cases hd;done)
   rename_i hk
   cases hd
   exact ⟨.rfl' _,_,by simp,fun r=>xj _ _ _ r,fun f hf=>⟨t,rk,rfl,hk⟩⟩
  ·split at hd<;>try (cases hd;done)
   rename_i hk
   subst hk
   split at hd<;>try (cases hd;done)
   rename_i hl
   cases hd
   exact ⟨.rfl' _,_,by simp,fun r=>xj _ _ _ r,fun f hf=>⟨t,_,_,rfl,hl⟩⟩
  ·cases hd
  ·split at hd<;>try (cases hd;done)
   rename_i hk
   obtain ⟨rE,hfl⟩:=hk
   split at hd<;>try (cases hd;done)
   rename_i hl
   split at hd<;>try (cases hd;done)
   rename_i hlen
   split at hd<;>try (cases hd;done)
   rename_i hN
   cases hd
   exact ⟨.rfl' _,_,by simp,fun r=>xj _ _ _ r,fun f hf=>⟨t,_,_,_,_,rfl,rE,hl,hfl,hN,hlen⟩⟩
 |alias n q=>
  simp only [zf] at hd
  split at hd<;>try (cases hd;done)
  split at hd<;>try (cases hd;done)
  rename_i hl
  split at hd<;>try (cases hd;done)
  ·obtain ⟨a,rfl,b⟩:=cZ hd
   exact ⟨a,_,by simp,fun r=>rfl,fun f hf=>⟨_,hl,by simp only [gg,dz (b f hf)]⟩⟩
  ·obtain ⟨a,rfl,b⟩:=cZ hd
   exact ⟨a,_,by simp,fun r=>rfl,fun f hf=>⟨_,hl,by simp only [gg,dz (b f hf)]⟩⟩
 |loop busy=>
  simp only [zf] at hd
  split at hd<;>try (cases hd;done)
  split at hd<;>try (cases hd;done)
  rename_i hl
  split at hd<;>try (cases hd;done)
  all_goals
   cases hd
   exact ⟨.rfl' _,_,by simp,fun r=>rfl,fun f hf=>⟨_,hl,rfl⟩⟩
 |gU k=>
  simp only [zf] at hd
  split at hd<;>try (cases hd;done)
  split at hd<;>try (cases hd;done)
  rename_i hl
  split at hd<;>try (cases hd;done)
  rename_i hk
  obtain ⟨rfl,hk⟩:=hk
  cases hd
  exact ⟨.rfl' _,_,by simp,fun r=>rfl,fun f hf=>⟨_,hl,by simp only [gg,Kl hf hk,if_true]⟩⟩
 |cK=>
  simp only [zf] at hd
  split at hd<;>try (cases hd;done)
  split at hd<;>try (cases hd;done)
  rename_i hl
  cases hd
  exact ⟨.rfl' _,_,by simp,fun r=>rfl,fun f hf=>⟨_,hl,rfl⟩⟩
 |map ka va k v=>
  simp only [zf] at hd
  split at hd<;>try (cases hd;done)
  split at hd<;>try (cases hd;done)
  rename_i hl
  split at hd<;>try (cases hd;done)
  rename_i hk
  obtain ⟨rfl,rfl⟩:=hk
  split at hd<;>try (cases hd;done)
  rename_i hc
  cases hd
  obtain ⟨e1,e2⟩:=cP hc
  cases e1
  dsimp only at e2
  subst e2
  exact ⟨.rfl' _,_,by simp,fun r=>VE _ _ _ _ _ r,fun f hf=>⟨_,hl,rfl⟩⟩
 |oQ ka k u c=>
  simp only [zf] at hd
  split at hd<;>try (cases hd;done)
  split at hd<;>try (cases hd;done)
  rename_i hl
  split at hd<;>try (cases hd;done)
  rename_i hk;subst hk
  split at hd<;>try (cases hd;done)
  rename_i hc
  obtain ⟨e1,e2⟩:=cP hc
  cases e1
  dsimp only at e2
  subst e2
  obtain ⟨a,rfl,b⟩:=cZ hd
  exact ⟨a,_,by simp,fun r=>VD _ _ _ _ _ r,fun f hf=>⟨_,hl,by simp only [gg,dz (b f hf)]⟩⟩
 |set n=>
  simp only [zf] at hd
  split at hd<;>try (cases hd;done)
  split at hd<;>try (cases hd;done)
  rename_i hl
  obtain ⟨a,rfl,b⟩:=cZ hd
  exact ⟨a,_,by simp,fun r=>rfl,fun f hf=>⟨_,hl,by simp only [gg,dz (b f hf)]⟩⟩
 |gv n c k u=>
  simp only [zf] at hd
  split at hd<;>try (cases hd;done)
  split at hd<;>try (cases hd;done)
  rename_i hl
  split at hd<;>try (cases hd;done)
  rename_i hx hc
  split at hd<;>try (cases hd;done)
  rename_i E7 hb
  obtain ⟨e1,e2⟩:=cP hc
  subst e1
  dsimp only at e2
  subst e2
  obtain ⟨e3,e4⟩:=Oa hx
  subst e3
  dsimp only at e4
  subst e4
  obtain ⟨a,rfl,b⟩:=cZ hd
  have s1:=(dA hb).1
  exact ⟨s1.trans a,_,by simp,fun r=>Yk _ _ _ _ _ _ r,fun f hf=>⟨_,hl,by simp only [gg,dz (b f hf),dz (iy hb (hf.of a))]⟩⟩
 |rc ps=>
  simp only [zf] at hd
  split at hd<;>try (cases hd;done)
  split at hd<;>try (cases hd;done)
  rename_i hl
  obtain ⟨a,q,b,c⟩:=s9 _ _ _ _ _ hd
  exact ⟨a,.rc q,by simp,fun r=>(by simp only [qa,b r]),fun f hf=>⟨_,hl,by simp only [gg,c f hf]⟩⟩
 |dp t c st=>
  simp only [zf] at hd
  split at hd<;>try (cases hd;done)
  split at hd<;>try (cases hd;done)
  rename_i hl
  split at hd<;>try (cases hd;done)
  rename_i hk;subst hk
  split at hd<;>try (cases hd;done)
  rename_i hc
  obtain ⟨e1,e2⟩:=cP hc
  subst e1
  dsimp only at e2
  subst e2
  obtain ⟨a,rfl,b⟩:=cZ hd
  exact ⟨a,_,by simp,fun r=>Yj _ _ _ _ _ r,fun f hf=>⟨_,hl,by simp only [gg,dz (b f hf)]⟩⟩
 |nv n c q u=>
  simp only [zf] at hd
  split at hd<;>try (cases hd;done)
  split at hd<;>try (cases hd;done)
  rename_i hl
  split at hd<;>try (cases hd;done)
  rename_i hk
  obtain ⟨rfl,rfl⟩:=hk
  split at hd<;>try (cases hd;done)
  rename_i E7 hb
  obtain ⟨a,rfl,b⟩:=cZ hd
  have s1:=(dA hb).1
  exact ⟨s1.trans a,_,by simp,fun r=>rfl,fun f hf=>⟨_,hl,by simp only [gg,dz (b f hf),dz (iy hb (hf.of a))]⟩⟩
def PO.YX:PO->Bool
 | .gone=>true
 |_=>false
def Ke (h:List aI):List PO->Nat->rY->Option (rY×List DV)
 | [],_,π=>some (π,[])
 |p::ps,n,π=>match p.YX with
  |true=>Ke h ps (n+1) π
  |false=>match π[n]? with
   |some (some s)=>(match zf h p s π with
    |some (E7,d1)=>(match Ke h ps (n+1) E7 with|some (U5,d2)=>some (U5,d1++d2)|none=>none)
    |none=>none)
   |_=>none
def Gt:List PO->List DV->List aI×List DV
 | [],r=>([],r)
 |p::ps,r=>match qa p r with|(c,r)=>match Gt ps r with|(cs,r)=>(c::cs,r)
theorem Rr {π:List Src} {h:List aI} {s:Src} {o:aI} {ss:List Src} {os:List aI} (ho:o≠ .gone) (h1:C7 π h s o) (h2:uW π h ss os):uW π h (s::ss) (o::os):=by
 cases o<;>first|exact absurd rfl ho|exact ⟨h1,h2⟩
theorem zg {h:List aI} : ∀(ps:List PO) (n:Nat) (π iS:rY) (ds:List DV),Ke h ps n π=some (iS,ds)->
  vm π iS/\ ∃os,(∀r,Gt ps (ds++r)=(os,r))/\ ∀f,y8 iS f->f.length=n+ps.length->uW f h (f.drop n) os
 | [],n,π,iS,ds,hd=>by
  simp only [Ke,Option.some.injEq,Prod.mk.injEq] at hd
  obtain ⟨rfl,rfl⟩:=hd
  refine ⟨.rfl' _,[],fun _=>rfl,fun f _ hl=> ?_⟩
  rw [List.drop_eq_nil_of_le (by simp at hl;omega)];trivial
 |p::ps,n,π,iS,ds,hd=>by
  simp only [Ke] at hd
  split at hd
  ·rename_i hg
   cases p<;>simp [PO.YX] at hg
   obtain ⟨a,q,b,c⟩:=zg ps _ _ _ _ hd
   refine ⟨a,.gone::q,fun r=>by simp only [Gt,qa,b r],fun f hf hl=> ?_⟩
   rw [List.length_cons] at hl
   rw [List.drop_eq_getElem_cons (by omega)]
   exact c f hf (by omega)
  ·split at hd<;>try (cases hd;done)
   rename_i s hs
   split at hd<;>try (cases hd;done)
   rename_i h1
   split at hd<;>try (cases hd;done)
   rename_i h2
   cases hd
   obtain ⟨a,o,hg,b,c⟩:=Vu h1
   obtain ⟨a',q',b',c'⟩:=zg ps _ _ _ _ h2
   refine ⟨a.trans a',o::q',fun r=>by simp only [Gt,List.append_assoc,b,b'],fun f hf hl=> ?_⟩
   rw [List.length_cons] at hl
   have e:=hf.of (a.trans a') n s hs
   rw [List.drop_eq_getElem_cons (by omega)]
   have e2:f[n]'(by omega)=s:=by rw [List.getElem?_eq_getElem (by omega)] at e;exact Option.some.inj e
   rw [e2]
   exact Rr hg (c f (hf.of a')) (c' f hf (by omega))
structure vl (gt:List HT) where
 ps:List PV
 po:List PO
 top:Nat:=0
 zo:Option Nat:=none
 gi:List Nat:= []
 ci:List Nat:= []
 vi:List Nat
 ts:List HT
 c:List DV:= []
def aef:aI->Bool
 | .cK _=>true
 |_=>false
def Oq:List aI->Nat->Option Nat
 | [],_=>none
 |o::r,n=>match aef o with|true=>some n|false=>Oq r (n+1)
namespace vl
variable {gt:List HT}
def N (p:vl gt):Nat:=p.gi.length+p.ci.length+p.vi.length
def idx (p:vl gt):List Nat:=p.gi++(p.ci++p.vi)
def aa2:List Nat->Nat->Bool
 |_,0=>true
 |l,n+1=>Ff n l&&aa2 l n
def ok (p:vl gt):Bool:=aa2 p.idx p.N
def adB (p:vl gt) (h:List aI):Option rY:=
 match p.zo with
 |none=>some ((List.range p.po.length).map fun i=>bif Nat.blt i p.top then some (.same i) else none)
 |some n=>match Oq h 0 with
  |some j=>qA ((List.range p.po.length).map fun i=>bif Nat.blt i p.top then some (.same i) else none) n (.same j)
  |none=>none
def As (p:vl gt) (ds:List DV):AS:=match vJ p.ps ds with
 |(ts,r)=>match Gt p.po r with
  |(os,_)=>⟨ts,os⟩
def fill (p:vl gt) (g:TT gt) (s:TT p.ts):AS:=p.As (aeD p.idx (Pa gt g++(p.c++Pa p.ts s)) p.N)
def fin (π:rY):List Src:=π.map fun o=>match o with|some s=>s|none=> .nil
def read (p:vl gt) (st:AS):Option (TT gt×List DV×TT p.ts):=match p.adB st.heap with
 |none=>none
 |some π0=>match Gk p.ps st.tmps π0 with
  |none=>none
  |some (E7,d1)=>match Ke st.heap p.po 0 E7 with
   |none=>none
   |some (U5,d2)=>match Nat.beq (d1++d2).length p.N&&kB (wW (fin U5) (p.As (d1++d2)).heap) with
    |false=>none
    |true=>match Tx gt (Jt p.gi (d1++d2)),Tx p.ts (Jt p.vi (d1++d2)) with
     |some g,some s=>some (g,Jt p.ci (d1++d2),s)
     |_,_=>none
theorem Yl (π:rY):y8 π (fin π):=fun n s h=>by simp [fin,h]
theorem J0 {l:List Nat} : ∀ {n:Nat},aa2 l n=true-> ∀j,j<n->j∈l
  |0,_,j,h=>by omega
  | n+1,h,j,hj=>by
    simp only [aa2,Bool.and_eq_true] at h
    rcases Nat.lt_or_ge j n with h1|h1
    · exact J0 h.2 j h1
    · have:j=n:=by omega
      subst this;exact O1 h.1
where O1 {x:Nat} : ∀ {l:List Nat},Ff x l=true->x∈l
        | [],h=>by cases h
        | y::r,h=>by
          simp only [Ff,Bool.or_eq_true] at h
          rcases h with h|h
          · simp [Nat.eq_of_beq_eq_true h]
          · exact List.mem_cons_of_mem _ (O1 h)
theorem XV {p:vl gt} {h:List aI} {π:rY} (hb:p.adB h=some π):π.length=p.po.length:=by
 unfold adB at hb
 split at hb
 ·cases hb;simp
 ·split at hb
  ·rw [(dA hb).1.len];simp
  ·cases hb
theorem Ut {p:vl gt} (hp:p.ok=true) {st:AS} {g:TT gt} {c:List DV} {s:TT p.ts} (h:p.read st=some (g,c,s)) (hc:c=p.c):vn st (p.fill g s):=by
 unfold read at h
 split at h<;>try (cases h;done)
 rename_i π0 h0
 split at h<;>try (cases h;done)
 rename_i E7 d1 h1
 split at h<;>try (cases h;done)
 rename_i U5 d2 h2
 split at h<;>try (cases h;done)
 rename_i hn
 simp only [Bool.and_eq_true] at hn
 split at h<;>try (cases h;done)
 rename_i g' s' hg hs
 cases h
 have hlen:(d1++d2).length=p.N:=Nat.eq_of_beq_eq_true hn.1
 have key:p.fill g s=p.As (d1++d2):=by
  unfold fill
  rw [NS _ _ _ hg,NS _ _ _ hs,<- hc]
  have:Jt p.gi (d1++d2)++(Jt p.ci (d1++d2)++Jt p.vi (d1++d2))=Jt p.idx (d1++d2):=by simp [Jt,idx]
  rw [this,<- hlen,Xk fun j hj=>J0 hp j (by omega)]
 rw [key]
 obtain ⟨a,q,b,t⟩:=td _ _ _ _ _ h1
 obtain ⟨a',q',b',t'⟩:=zg _ _ _ _ _ h2
 have b'':=b' []
 rw [List.append_nil] at b''
 have e:p.As (d1++d2)=⟨q,q'⟩:=by simp only [As,b d2,b'']
 refine ⟨fin U5,?_,?_,?_⟩
 ·rw [e];exact t _ ((Yl _).of a')
 ·rw [e]
  have:=t' (fin U5) (Yl _) (by simp [fin,a'.len,a.len,XV h0])
  rwa [List.drop_zero] at this
 ·exact hn.2
end vl
end Go.Ev
