/- States as patterns: what is read out of a state, and that the state knows no less than the pattern with these values. -/
import Derived.Test.YtfgdjlhilladhaaGreatEvP
noncomputable section
set_option linter.unusedSectionVars false
set_option linter.unusedVariables false
set_option linter.unusedSimpArgs false
namespace Go.Ev
inductive HT
 |i|b|s|n|v|env|lo|hd
 |l (t:Ty)
 |tv (t:Ty)
@[reducible] def HT.T:HT->Type
 | .i=>Int
 | .b=>Bool
 | .s=>ByteArray
 | .n=>Nat
 | .v=>Value
 | .env=>Env
 | .lo=>Loop
 | .hd=>Nat->Prop
 | .l t=>List t.T
 | .tv t=>t.T
inductive DV
 |i (x:Int)|b (x:Bool)|s (x:ByteArray)|n (x:Nat)|v (x:Value)|env (x:Env)|lo (x:Loop)|hd (x:Nat->Prop)
 |l (t:Ty) (x:List t.T)
 |tv (t:Ty) (x:t.T)
def N4 (t u:Ty) (x:t.T):Option u.T:=if h:t=u then some (h▸x) else none
theorem S4 {u' u:Ty} {x:u'.T} {y:u.T} (h:N4 u' u x=some y): ∃e:u'=u,e▸x=y:=by
 unfold N4 at h
 split at h
 ·rename_i e;cases h;exact ⟨e,rfl⟩
 ·cases h
def DV.as:(h:HT)->DV->Option h.T
 | .i,d=>match d with| .i x=>some x|_=>none
 | .b,d=>match d with| .b x=>some x|_=>none
 | .s,d=>match d with| .s x=>some x|_=>none
 | .n,d=>match d with| .n x=>some x|_=>none
 | .v,d=>match d with| .v x=>some x|_=>none
 | .env,d=>match d with| .env x=>some x|_=>none
 | .lo,d=>match d with| .lo x=>some x|_=>none
 | .hd,d=>match d with| .hd x=>some x|_=>none
 | .l t,d=>match d with| .l u x=>qw u t x|_=>none
 | .tv t,d=>match d with| .tv u x=>N4 u t x|_=>none
def DV.of:(h:HT)->h.T->DV
 | .i,x=> .i x
 | .b,x=> .b x
 | .s,x=> .s x
 | .n,x=> .n x
 | .v,x=> .v x
 | .env,x=> .env x
 | .lo,x=> .lo x
 | .hd,x=> .hd x
 | .l t,x=> .l t x
 | .tv t,x=> .tv t x
theorem DV.aiu {h:HT} {d:DV} {x:h.T} (e:d.as h=some x):DV.of h x=d:=by
 cases h with
 |l t=>
  cases d<;>simp only [DV.as] at e<;>try (cases e;done)
  rename_i u y
  obtain ⟨e1,e2⟩:=fJ e
  subst e1
  dsimp only at e2
  subst e2
  rfl
 |tv t=>
  cases d<;>simp only [DV.as] at e<;>try (cases e;done)
  rename_i u y
  obtain ⟨e1,e2⟩:=S4 e
  subst e1
  dsimp only at e2
  subst e2
  rfl
 |_=>cases d<;>simp only [DV.as] at e<;>first|(cases e;done)|(cases e;rfl)
@[reducible] def TT:List HT->Type
 | []=>Unit
 | [a]=>a.T
 |a::c::r=>a.T×TT (c::r)
def Yp:(ts:List HT)->List DV->Option (TT ts)
 | [],ds=>match ds with| []=>some ()|_=>none
 | [a],ds=>match ds with| [d]=>d.as a|_=>none
 |a::c::r,ds=>match ds with
  |d::q=>match d.as a,Yp (c::r) q with|some x,some y=>some (x,y)|_,_=>none
  | []=>none
def T9:(ts:List HT)->TT ts->List DV
 | [],_=> []
 | [a],x=> [DV.of a x]
 |a::c::r,x=>DV.of a x.1::T9 (c::r) x.2
theorem SD: ∀(ts:List HT) (ds:List DV) (x:TT ts),Yp ts ds=some x->T9 ts x=ds
 | [],ds,x,h=>by
  simp only [Yp] at h
  split at h<;>first|rfl|cases h
 | [a],ds,x,h=>by
  simp only [Yp] at h
  split at h
  ·simp only [T9,DV.aiu h]
  ·cases h
 |a::c::r,ds,x,h=>by
  simp only [Yp] at h
  split at h
  ·split at h
   ·rename_i y z h1 h2
    cases h
    simp only [T9,DV.aiu h1,SD _ _ _ h2]
   ·cases h
  ·cases h
def pick:List Nat->List DV->Nat->DV
 |k::r,v::q,j=>bif Nat.beq k j then v else pick r q j
 |_,_,_=> .n 0
def Nb (idx:List Nat) (ds:List DV):List DV:=idx.map fun j=>ds.getD j (.n 0)
def aj9 (idx:List Nat) (vs:List DV) (n:Nat):List DV:=(List.range n).map (pick idx vs)
theorem Uc (f:Nat->DV): ∀(idx:List Nat) (j:Nat),j∈idx->pick idx (idx.map f) j=f j
  | [],_,h=>by cases h
  | k::r,j,h=>by
    simp only [List.map_cons,pick]
    by_cases e:k=j
    · subst e;simp
    · have:Nat.beq k j=false:=by rw [Nat.beq_eq_false_iff_ne];exact e
      rw [this]
      exact Uc f r j ((List.mem_cons.1 h).resolve_left fun h=>e h.symm)
where Nat.beq_eq_false_iff_ne {a b:Nat} :Nat.beq a b=false↔a≠b:=by
        rw [<- Bool.not_eq_true,Nat.beq_eq]
theorem acs {idx:List Nat} {ds:List DV} (h: ∀j,j<ds.length->j∈idx):aj9 idx (Nb idx ds) ds.length=ds:=by
 unfold aj9 Nb
 refine List.ext_getElem (by simp) fun i h1 h2=> ?_
 simp only [List.getElem_map,List.getElem_range]
 rw [Uc _ _ _ (h i h2),List.getD_eq_getElem?_getD,List.getElem?_eq_getElem h2];rfl
inductive PR
 |ext
 |loc (n off:Nat)
 |elem (n:Nat)
 |full (n:Nat)
 |mp (n:Nat)
inductive PC
 |i (k:IntKind)
 |b|s|raw
 |ptr (n off:Nat)
 |oB (n:Nat)
 |sl (n off:Nat)
 |full (n:Nat)
 |br (n k:Nat)
 |gJ (n:Nat)
 |ik (f:FuncId) (nf:Nat) (rs:List PR)
 |sJ (n:Nat)
 |mp (n:Nat)
 |mv (f:FuncId) (agg:Bool) (rs:List PR)
inductive PA
 |one (p:PC)
 |agg (l:List PC)
inductive PV
 |d
 |v (a:PA)
 |AH (l:List PA)
inductive PO
 |gone
 |cells (l:List PC) (e:TypeId)
 |row (t:Ty) (rk:Nat)
 |alias (n:Nat) (q:Bool)
 |loop (busy:Bool)
 |ji (n:Nat)
 |bX
 |map (ka va:Bool) (k v:Ty)
 |Om (ka:Bool) (k u:Ty) (c:Nat)
 |set (n:Nat)
 |gv (n c:Nat) (k u:Ty)
 |rc (l:List PC)
abbrev tE:=List (Option Src)
def Src.eqb:Src->Src->Bool
 | .same a,.same b=>Nat.beq a b
 | .nil,.nil=>true
 | .cells a b,.cells c d=>Nat.beq a c&&Nat.beq b d
 |_,_=>false
theorem Src.ajc {a b:Src} (h:Src.eqb a b=true):a=b:=by
 cases a<;>cases b<;>simp_all [Src.eqb]
def wJ (π:tE) (n:Nat) (s:Src):Option tE:=match π[n]? with
 |some none=>some (π.set n (some s))
 |some (some t)=>bif Src.eqb t s then some π else none
 |none=>none
structure xd (π jL:tE):Prop where
 len:jL.length=π.length
 sub: ∀(n:Nat) (s:Src),π[n]? =some (some s)->jL[n]? =some (some s)
theorem xd.rfl' (π:tE):xd π π:=⟨rfl,fun _ _ h=>h⟩
theorem xd.trans {a b c:tE} (h:xd a b) (k:xd b c):xd a c:=⟨k.len.trans h.len,fun n s e=>k.sub n s (h.sub n s e)⟩
def BE (π:tE) (f:List Src):Prop:= ∀(n:Nat) (s:Src),π[n]? =some (some s)->f[n]? =some s
theorem BE.of {π jL:tE} {f:List Src} (h:BE jL f) (k:xd π jL):BE π f:=fun n s e=>h n s (k.sub n s e)
theorem fV {π jL:tE} {n:Nat} {s:Src} (h:wJ π n s=some jL):xd π jL/\ jL[n]? =some (some s):=by
 unfold wJ at h
 split at h
 ·rename_i hn
  cases h
  have hl:=(List.getElem?_eq_some_iff.1 hn).1
  refine ⟨⟨by simp,fun m t hm=> ?_⟩,by simp [hl]⟩
  rw [List.getElem?_set]
  split
  ·rename_i e;subst e;rw [hn] at hm;cases hm
  ·exact hm
 ·rename_i t hn
  cases hb:Src.eqb t s with
  |true=>
   rw [hb] at h
   cases h
   exact ⟨.rfl' _,by rw [hn,Src.ajc hb]⟩
  |false=>rw [hb] at h;cases h
 ·cases h
theorem lf {π jL:tE} {n:Nat} {s:Src} (h:wJ π n s=some jL) {f:List Src} (hf:BE jL f):f[n]? =some s:=hf n s (fV h).2
theorem fT {f:List Src} {n m:Nat} (h:f[n]? =some (.same m)):uu f n=some m:=by unfold uu;rw [h]
def nH:List PR->List Ref->tE->Option (tE×List DV)
 | [],qs,π=>match qs with| []=>some (π,[])|_=>none
 |p::ps,qs,π=>match qs with
  | []=>none
  |q::qs=>match p,q with
   | .ext,.ext v=>match nH ps qs π with|some (jL,ds)=>some (jL,.v v::ds)|none=>none
   | .loc n o,.loc m o'=>if o=o' then (match wJ π n (.same m) with|some MW=>nH ps qs MW|none=>none) else none
   | .elem n,.elem m j=>match wJ π n (.same m) with
    |some MW=>(match nH ps qs MW with|some (jL,ds)=>some (jL,.n j::ds)|none=>none)
    |none=>none
   | .full n,.full m=>(match wJ π n (.same m) with|some MW=>nH ps qs MW|none=>none)
   | .mp n,.mp m=>(match wJ π n (.same m) with|some MW=>nH ps qs MW|none=>none)
   |_,_=>none
def gM:List PR->List DV->List Ref×List DV
 | [],r=>([],r)
 | .ext::ps,r=>match r with| .v x::r=>(match gM ps r with|(q,r)=>(.ext x::q,r))|r=>([],r)
 | .loc n o::ps,r=>match gM ps r with|(q,r)=>(.loc n o::q,r)
 | .elem n::ps,r=>match r with| .n j::r=>(match gM ps r with|(q,r)=>(.elem n j::q,r))|r=>([],r)
 | .full n::ps,r=>match gM ps r with|(q,r)=>(.full n::q,r)
 | .mp n::ps,r=>match gM ps r with|(q,r)=>(.mp n::q,r)
theorem iw: ∀(ps:List PR) (qs:List Ref) (π jL:tE) (ds:List DV),nH ps qs π=some (jL,ds)->
  xd π jL/\ ∃rs,(∀r,gM ps (ds++r)=(rs,r))/\ ∀f,BE jL f->kQ f rs=some qs
 | [],qs,π,jL,ds,h=>by
  simp only [nH] at h
  split at h
  ·cases h;exact ⟨.rfl' _,[],fun _=>rfl,fun _ _=>rfl⟩
  ·cases h
 |p::ps,qs,π,jL,ds,h=>by
  simp only [nH] at h
  split at h
  ·cases h
  rename_i q qs
  split at h
  ·split at h
   ·rename_i h1
    cases h
    obtain ⟨a,rs,b,c⟩:=iw ps qs _ _ _ h1
    exact ⟨a,.ext _::rs,fun r=>(by simp only [List.cons_append,gM,b r];rfl),fun f hf=>by simp only [kQ,qU,c f hf]⟩
   ·cases h
  ·split at h
   ·rename_i ho
    subst ho
    split at h
    ·rename_i hb
     obtain ⟨a,rs,b,c⟩:=iw ps qs _ _ _ h
     exact ⟨(fV hb).1.trans a,.loc _ _::rs,fun r=>(by simp only [gM,b r];rfl),fun f hf=>by simp only [kQ,qU,c f hf,fT (lf hb (hf.of a))]⟩
    ·cases h
   ·cases h
  ·split at h
   ·rename_i hb
    split at h
    ·rename_i h1
     cases h
     obtain ⟨a,rs,b,c⟩:=iw ps qs _ _ _ h1
     exact ⟨(fV hb).1.trans a,.elem _ _::rs,fun r=>(by simp only [List.cons_append,gM,b r];rfl),fun f hf=>by simp only [kQ,qU,c f hf,fT (lf hb (hf.of a))]⟩
    ·cases h
   ·cases h
  ·split at h
   ·rename_i hb
    obtain ⟨a,rs,b,c⟩:=iw ps qs _ _ _ h
    exact ⟨(fV hb).1.trans a,.full _::rs,fun r=>(by simp only [gM,b r];rfl),fun f hf=>by simp only [kQ,qU,c f hf,fT (lf hb (hf.of a))]⟩
   ·cases h
  ·split at h
   ·rename_i hb
    obtain ⟨a,rs,b,c⟩:=iw ps qs _ _ _ h
    exact ⟨(fV hb).1.trans a,.mp _::rs,fun r=>(by simp only [gM,b r];rfl),fun f hf=>by simp only [kQ,qU,c f hf,fT (lf hb (hf.of a))]⟩
   ·cases h
  ·cases h
def ZZ:Nat->List DV->List Value×List DV
 |0,r=>([],r)
 |n+1,r=>match r with| .v x::r=>(match ZZ n r with|(q,r)=>(x::q,r))|r=>([],r)
theorem QA: ∀(l:List Value) (r:List DV),ZZ l.length (l.map .v++r)=(l,r)
 | [],r=>rfl
 |v::l,r=>by simp only [List.length_cons,List.map_cons,List.cons_append,ZZ,QA l r]
def BI (π:tE) (n m:Nat) (ds:List DV):Option (tE×List DV):=match wJ π n (.same m) with
 |some jL=>some (jL,ds)
 |none=>none
theorem eP {π jL:tE} {n m:Nat} {ds ds':List DV} (h:BI π n m ds=some (jL,ds')):xd π jL/\ ds'=ds/\ ∀f,BE jL f->f[n]? =some (.same m):=by
 unfold BI at h
 split at h
 ·rename_i hb
  cases h
  exact ⟨(fV hb).1,rfl,fun f hf=>lf hb hf⟩
 ·cases h
def xq (p:PC) (c:Cell) (π:tE):Option (tE×List DV):=match p with
 | .i k=>match c with| .raw (.int k' n)=>if k=k' then some (π,[.i n]) else none|_=>none
 | .b=>match c with| .raw (.bool x)=>some (π,[.b x])|_=>none
 | .s=>match c with| .raw (.string x)=>some (π,[.s x])|_=>none
 | .raw=>match c with| .raw v=>some (π,[.v v])|_=>none
 | .ptr n o=>match c with| .ptr m o'=>if o=o' then BI π n m [] else none|_=>none
 | .oB n=>match c with| .oB m o=>BI π n m [.n o]|_=>none
 | .sl n o=>match c with| .sl m o' l cp=>if o=o' then BI π n m [.n l,.n cp] else none|_=>none
 | .full n=>match c with
  | .full m=>BI π n m []
  | .raw (.slice none 0 0)=>(match wJ π n .nil with|some jL=>some (jL,[])|none=>none)
  | .sl m 0 l cp=>if cp=l then (match wJ π n (.cells m l) with|some jL=>some (jL,[])|none=>none) else none
  |_=>none
 | .br n k=>match c with| .br m j k'=>if k=k' then BI π n m [.n j] else none|_=>none
 | .gJ n=>match c with| .gJ m j k=>BI π n m [.n j,.n k]|_=>none
 | .ik f nf rs=>match c with
  | .ik (.func g) first cap=>if g=f/\ first.length=nf then (match nH rs cap π with|some (jL,ds)=>some (jL,first.map .v++ds)|none=>none) else none
  |_=>none
 | .sJ n=>match c with| .sJ m=>BI π n m []|_=>none
 | .mp n=>match c with| .mp m=>BI π n m []|_=>none
 | .mv f a rs=>match c with| .mv g a' qs=>if g=f/\ a'=a then nH rs qs π else none|_=>none
def Ti (p:PC) (r:List DV):Cell×List DV:=match p with
 | .i k=>match r with| .i n::r=>(.raw (.int k n),r)|r=>(.raw undef,r)
 | .b=>match r with| .b n::r=>(.raw (.bool n),r)|r=>(.raw undef,r)
 | .s=>match r with| .s n::r=>(.raw (.string n),r)|r=>(.raw undef,r)
 | .raw=>match r with| .v n::r=>(.raw n,r)|r=>(.raw undef,r)
 | .ptr n o=>(.ptr n o,r)
 | .oB n=>match r with| .n o::r=>(.oB n o,r)|r=>(.raw undef,r)
 | .sl n o=>match r with| .n l:: .n c::r=>(.sl n o l c,r)|r=>(.raw undef,r)
 | .full n=>(.full n,r)
 | .br n k=>match r with| .n j::r=>(.br n j k,r)|r=>(.raw undef,r)
 | .gJ n=>match r with| .n j:: .n k::r=>(.gJ n j k,r)|r=>(.raw undef,r)
 | .ik f nf rs=>match ZZ nf r with|(fs,r)=>match gM rs r with|(q,r)=>(.ik (.func f) fs q,r)
 | .sJ n=>(.sJ n,r)
 | .mp n=>(.mp n,r)
 | .mv f a rs=>match gM rs r with|(q,r)=>(.mv f a q,r)
theorem N8 {p:PC} {c:Cell} {π jL:tE} {ds:List DV} (h:xq p c π=some (jL,ds)):
  xd π jL/\ ∃q,(∀r,Ti p (ds++r)=(q,r))/\ ∀f,BE jL f->lP f q=some c:=by
 cases p with
 |i k=>
  simp only [xq] at h
  split at h<;>try (cases h;done)
  split at h<;>try (cases h;done)
  rename_i e;cases h;subst e
  exact ⟨.rfl' _,_,fun r=>rfl,fun f _=>rfl⟩
 |b=>
  simp only [xq] at h
  split at h<;>try (cases h;done)
  cases h
  exact ⟨.rfl' _,_,fun r=>rfl,fun f _=>rfl⟩
 |s=>
  simp only [xq] at h
  split at h<;>try (cases h;done)
  cases h
  exact ⟨.rfl' _,_,fun r=>rfl,fun f _=>rfl⟩
 |raw=>
  simp only [xq] at h
  split at h<;>try (cases h;done)
  cases h
  exact ⟨.rfl' _,_,fun r=>rfl,fun f _=>rfl⟩
 |ptr n o=>
  simp only [xq] at h
  split at h<;>try (cases h;done)
  split at h<;>try (cases h;done)
  rename_i e;subst e
  obtain ⟨a,rfl,b⟩:=eP h
  exact ⟨a,_,fun r=>rfl,fun f hf=>by simp only [lP,fT (b f hf)]⟩
 |oB n=>
  simp only [xq] at h
  split at h<;>try (cases h;done)
  obtain ⟨a,rfl,b⟩:=eP h
  exact ⟨a,_,fun r=>rfl,fun f hf=>by simp only [lP,fT (b f hf)]⟩
 |sl n o=>
  simp only [xq] at h
  split at h<;>try (cases h;done)
  split at h<;>try (cases h;done)
  rename_i e;subst e
  obtain ⟨a,rfl,b⟩:=eP h
  exact ⟨a,_,fun r=>rfl,fun f hf=>by simp only [lP,fT (b f hf)]⟩
 |full n=>
  simp only [xq] at h
  split at h
  ·obtain ⟨a,rfl,b⟩:=eP h
   exact ⟨a,_,fun r=>rfl,fun f hf=>by simp only [lP,b f hf]⟩
  ·split at h
   ·rename_i hb
    cases h
    exact ⟨(fV hb).1,_,fun r=>rfl,fun f hf=>by simp only [lP,lf hb hf]⟩
   ·cases h
  ·split at h<;>try (cases h;done)
   rename_i e;subst e
   split at h
   ·rename_i hb
    cases h
    exact ⟨(fV hb).1,_,fun r=>rfl,fun f hf=>by simp only [lP,lf hb hf]⟩
   ·cases h
  ·cases h
 |br n k=>
  simp only [xq] at h
  split at h<;>try (cases h;done)
  split at h<;>try (cases h;done)
  rename_i e;subst e
  obtain ⟨a,rfl,b⟩:=eP h
  exact ⟨a,_,fun r=>rfl,fun f hf=>by simp only [lP,fT (b f hf)]⟩
 |gJ n=>
  simp only [xq] at h
  split at h<;>try (cases h;done)
  obtain ⟨a,rfl,b⟩:=eP h
  exact ⟨a,_,fun r=>rfl,fun f hf=>by simp only [lP,fT (b f hf)]⟩
 |ik f nf rs=>
  simp only [xq] at h
  split at h<;>try (cases h;done)
  split at h<;>try (cases h;done)
  rename_i e
  obtain ⟨rfl,rfl⟩:=e
  split at h<;>try (cases h;done)
  rename_i hr
  cases h
  obtain ⟨a,q,b,c⟩:=iw _ _ _ _ _ hr
  exact ⟨a,.ik (.func _) _ q,fun r=>(by simp only [Ti,List.append_assoc,QA,b r];rfl),fun f hf=>by simp only [lP,c f hf]⟩
 |sJ n=>
  simp only [xq] at h
  split at h<;>try (cases h;done)
  obtain ⟨a,rfl,b⟩:=eP h
  exact ⟨a,_,fun r=>rfl,fun f hf=>by simp only [lP,fT (b f hf)]⟩
 |mp n=>
  simp only [xq] at h
  split at h<;>try (cases h;done)
  obtain ⟨a,rfl,b⟩:=eP h
  exact ⟨a,_,fun r=>rfl,fun f hf=>by simp only [lP,fT (b f hf)]⟩
 |mv f ag rs=>
  simp only [xq] at h
  split at h<;>try (cases h;done)
  split at h<;>try (cases h;done)
  rename_i e
  obtain ⟨rfl,rfl⟩:=e
  obtain ⟨a,q,b,c⟩:=iw _ _ _ _ _ h
  exact ⟨a,.mv _ _ q,fun r=>(by simp only [Ti,b r];rfl),fun f hf=>by simp only [lP,c f hf]⟩
def JY:List PC->List Cell->tE->Option (tE×List DV)
 | [],cs,π=>match cs with| []=>some (π,[])|_=>none
 |p::ps,cs,π=>match cs with
  | []=>none
  |c::cs=>match xq p c π with
   |some (MW,d1)=>(match JY ps cs MW with|some (Z4,d2)=>some (Z4,d1++d2)|none=>none)
   |none=>none
def FZ:List PC->List DV->List Cell×List DV
 | [],r=>([],r)
 |p::ps,r=>match Ti p r with|(c,r)=>match FZ ps r with|(cs,r)=>(c::cs,r)
theorem uR: ∀(ps:List PC) (cs:List Cell) (π jL:tE) (ds:List DV),JY ps cs π=some (jL,ds)->
  xd π jL/\ ∃q,(∀r,FZ ps (ds++r)=(q,r))/\ ∀f,BE jL f->ke f q=some cs
 | [],cs,π,jL,ds,h=>by
  simp only [JY] at h
  split at h
  ·cases h;exact ⟨.rfl' _,[],fun _=>rfl,fun _ _=>rfl⟩
  ·cases h
 |p::ps,cs,π,jL,ds,h=>by
  simp only [JY] at h
  split at h
  ·cases h
  split at h
  ·rename_i h1
   split at h
   ·rename_i h2
    cases h
    obtain ⟨a,q,b,c⟩:=N8 h1
    obtain ⟨a',q',b',c'⟩:=uR ps _ _ _ _ h2
    exact ⟨a.trans a',q::q',fun r=>by simp only [FZ,List.append_assoc,b,b'],fun f hf=>by simp only [ke,c f (hf.of a'),c' f hf]⟩
   ·cases h
  ·cases h
def adg (p:PA) (a:A0) (π:tE):Option (tE×List DV):=match p with
 | .one p=>match a with| .one c=>xq p c π|_=>none
 | .agg ps=>match a with| .agg cs=>JY ps cs π|_=>none
def Tg (p:PA) (r:List DV):A0×List DV:=match p with
 | .one p=>match Ti p r with|(c,r)=>(.one c,r)
 | .agg ps=>match FZ ps r with|(c,r)=>(.agg c,r)
theorem N7 {p:PA} {a:A0} {π jL:tE} {ds:List DV} (h:adg p a π=some (jL,ds)):
  xd π jL/\ ∃q,(∀r,Tg p (ds++r)=(q,r))/\ ∀f,BE jL f->NL f q=some a:=by
 cases p with
 |one p=>
  simp only [adg] at h
  split at h<;>try (cases h;done)
  obtain ⟨a,q,b,c⟩:=N8 h
  exact ⟨a,.one q,fun r=>by simp only [Tg,b r],fun f hf=>by simp only [NL,c f hf]⟩
 |agg ps=>
  simp only [adg] at h
  split at h<;>try (cases h;done)
  obtain ⟨a,q,b,c⟩:=uR _ _ _ _ _ h
  exact ⟨a,.agg q,fun r=>by simp only [Tg,b r],fun f hf=>by simp only [NL,c f hf]⟩
def Ta:List PA->List A0->tE->Option (tE×List DV)
 | [],cs,π=>match cs with| []=>some (π,[])|_=>none
 |p::ps,cs,π=>match cs with
  | []=>none
  |c::cs=>match adg p c π with
   |some (MW,d1)=>(match Ta ps cs MW with|some (Z4,d2)=>some (Z4,d1++d2)|none=>none)
   |none=>none
def Ra:List PA->List DV->List A0×List DV
 | [],r=>([],r)
 |p::ps,r=>match Tg p r with|(c,r)=>match Ra ps r with|(cs,r)=>(c::cs,r)
theorem JX: ∀(ps:List PA) (cs:List A0) (π jL:tE) (ds:List DV),Ta ps cs π=some (jL,ds)->
  xd π jL/\ ∃q,(∀r,Ra ps (ds++r)=(q,r))/\ ∀f,BE jL f->lK f q=some cs
 | [],cs,π,jL,ds,h=>by
  simp only [Ta] at h
  split at h
  ·cases h;exact ⟨.rfl' _,[],fun _=>rfl,fun _ _=>rfl⟩
  ·cases h
 |p::ps,cs,π,jL,ds,h=>by
  simp only [Ta] at h
  split at h
  ·cases h
  split at h
  ·rename_i h1
   split at h
   ·rename_i h2
    cases h
    obtain ⟨a,q,b,c⟩:=N7 h1
    obtain ⟨a',q',b',c'⟩:=JX ps _ _ _ _ h2
    exact ⟨a.trans a',q::q',fun r=>by simp only [Ra,List.append_assoc,b,b'],fun f hf=>by simp only [lK,c f (hf.of a'),c' f hf]⟩
   ·cases h
  ·cases h
def J0:List PV->List AV->tE->Option (tE×List DV)
 | [],vs,π=>match vs with| []=>some (π,[])|_=>none
 |p::ps,vs,π=>match vs with
  | []=>none
  |x::vs=>match p with
   | .d=>J0 ps vs π
   | .v a=>(match x with
    | .v y=>(match adg a y π with
     |some (MW,d1)=>(match J0 ps vs MW with|some (Z4,d2)=>some (Z4,d1++d2)|none=>none)
     |none=>none)
    |_=>none)
   | .AH l=>(match x with
    | .AH m=>(match Ta l m π with
     |some (MW,d1)=>(match J0 ps vs MW with|some (Z4,d2)=>some (Z4,d1++d2)|none=>none)
     |none=>none)
    |_=>none)
def xB:List PV->List DV->List AV×List DV
 | [],r=>([],r)
 | .d::ps,r=>match xB ps r with|(q,r)=>(.dead::q,r)
 | .v a::ps,r=>match Tg a r with|(x,r)=>match xB ps r with|(q,r)=>(.v x::q,r)
 | .AH l::ps,r=>match Ra l r with|(x,r)=>match xB ps r with|(q,r)=>(.AH x::q,r)
theorem uT: ∀(ps:List PV) (vs:List AV) (π jL:tE) (ds:List DV),J0 ps vs π=some (jL,ds)->
  xd π jL/\ ∃q,(∀r,xB ps (ds++r)=(q,r))/\ ∀f,BE jL f->QC f vs q
 | [],vs,π,jL,ds,h=>by
  simp only [J0] at h
  split at h
  ·cases h;exact ⟨.rfl' _,[],fun _=>rfl,fun _ _=>trivial⟩
  ·cases h
 |p::ps,vs,π,jL,ds,h=>by
  simp only [J0] at h
  split at h
  ·cases h
  rename_i x vs
  cases p with
  |d=>
   obtain ⟨a,q,b,c⟩:=uT ps vs _ _ _ h
   exact ⟨a,.dead::q,fun r=>by simp only [xB,b r],fun f hf=>c f hf⟩
  |v pa=>
   dsimp only at h
   split at h<;>try (cases h;done)
   split at h<;>try (cases h;done)
   rename_i h1
   split at h<;>try (cases h;done)
   rename_i h2
   cases h
   obtain ⟨a,q,b,c⟩:=N7 h1
   obtain ⟨a',q',b',c'⟩:=uT ps _ _ _ _ h2
   exact ⟨a.trans a',.v q::q',fun r=>by simp only [xB,List.append_assoc,b,b'],fun f hf=>⟨by simp only [Gu,c f (hf.of a')],c' f hf⟩⟩
  |AH l=>
   dsimp only at h
   split at h<;>try (cases h;done)
   split at h<;>try (cases h;done)
   rename_i h1
   split at h<;>try (cases h;done)
   rename_i h2
   cases h
   obtain ⟨a,q,b,c⟩:=JX _ _ _ _ _ h1
   obtain ⟨a',q',b',c'⟩:=uT ps _ _ _ _ h2
   exact ⟨a.trans a',.AH q::q',fun r=>by simp only [xB,List.append_assoc,b,b'],fun f hf=>⟨by simp only [Gu,c f (hf.of a')],c' f hf⟩⟩
def ag4 (π:tE):Nat->Bool
 |0=>true
 |n+1=>(match π[n]? with|some (some (.same m))=>m==n|_=>false)&&ag4 π n
theorem Oj {π:tE} {f:List Src} (hf:BE π f): ∀ {n:Nat},ag4 π n=true->F1 f n=true
 |0,_=>rfl
 |n+1,h=>by
  simp only [ag4,Bool.and_eq_true] at h
  simp only [F1,Bool.and_eq_true]
  refine ⟨?_,Oj hf h.2⟩
  have h1:=h.1
  split at h1
  ·rename_i m hm
   rw [hf _ _ hm];exact h1
  ·cases h1
def FQ (h:List aX) (p:PO) (s:Src) (π:tE):Option (tE×List DV):=match p with
 | .gone=>none
 | .cells ps e=>match s with
  | .same m=>(match aA h m with|some (.cells cs e')=>if e=e' then JY ps cs π else none|_=>none)
  |_=>none
 | .row t rk=>match s with
  | .same m=>(match aA h m with
   |some (.row u l k)=>if k=rk then (match qw u t l with|some l'=>some (π,[.l t l'])|none=>none) else none
   |_=>none)
  | .nil=>if rk=0 then none else some (π,[.l t []])
  | .cells m len=>if rk=2/\ t.flat=true then (match aA h m with
   |some (.cells cs _)=>if cs.length=len*t.size/\ Nat.ble len 1099511627776=true then (match BM (cN (fun _=>none) t) len cs with|some (l,[])=>some (π,[.l t l])|_=>none) else none
   |_=>none) else none
 | .alias n q=>match s with
  | .same m=>(match aA h m with
   |some (.alias n' a b)=>(match q,b with
    |false,none=>BI π n n' [.n a]
    |true,some x=>BI π n n' [.n a,.n x]
    |_,_=>none)
   |_=>none)
  |_=>none
 | .loop busy=>match s with
  | .same m=>(match aA h m with
   |some (.loop r s none)=>(match busy,s with
    |false,.ready=>some (π,[.lo r])
    |true,.busy=>some (π,[.lo r])
    |_,_=>none)
   |_=>none)
  |_=>none
 | .ji k=>match s with
  | .same m=>(match aA h m with|some (.ji ρ k')=>if k=k'/\ ag4 π k=true then some (π,[.env ρ]) else none|_=>none)
  |_=>none
 | .bX=>match s with
  | .same m=>(match aA h m with|some (.bX S)=>some (π,[.hd S])|_=>none)
  |_=>none
 | .map ka va k v=>match s with
  | .same m=>(match aA h m with
   |some (.map ka' va' k' v' l)=>if ka'=ka/\ va'=va then (match qw (.prod k' v') (.prod k v) l with|some l'=>some (π,[.l (.prod k v) l'])|none=>none) else none
   |_=>none)
  |_=>none
 | .Om ka k u c=>match s with
  | .same m=>(match aA h m with
   |some (.Om ka' k' u' l c' none)=>if ka'=ka then (match qw (.prod k' (.sl u')) (.prod k (.sl u)) l with|some l'=>BI π c c' [.l (.prod k (.sl u)) l']|none=>none) else none
   |_=>none)
  |_=>none
 | .set n=>match s with
  | .same m=>(match aA h m with|some (.set n')=>BI π n n' []|_=>none)
  |_=>none
 | .gv n c k u=>match s with
  | .same m=>(match aA h m with
   |some (.gv n' c' k' u' x l)=>(match N4 k' k x,qw u' u l with
    |some x',some l'=>(match wJ π n (.same n') with|some MW=>BI MW c c' [.tv k x',.l u l']|none=>none)
    |_,_=>none)
   |_=>none)
  |_=>none
 | .rc ps=>match s with
  | .same m=>(match aA h m with|some (.rc cs)=>JY ps cs π|_=>none)
  |_=>none
def tL (p:PO) (r:List DV):aX×List DV:=match p with
 | .gone=>(.gone,r)
 | .cells ps e=>match FZ ps r with|(cs,r)=>(.cells cs e,r)
 | .row t rk=>match r with|d::r=>(match d.as (.l t) with|some l=>(.row t l rk,r)|none=>(.gone,r))|r=>(.gone,r)
 | .alias n false=>match r with| .n a::r=>(.alias n a none,r)|r=>(.gone,r)
 | .alias n true=>match r with| .n a:: .n b::r=>(.alias n a (some b),r)|r=>(.gone,r)
 | .loop busy=>match r with| .lo l::r=>(.loop l (bif busy then .busy else .ready) none,r)|r=>(.gone,r)
 | .ji k=>match r with| .env ρ::r=>(.ji ρ k,r)|r=>(.gone,r)
 | .bX=>match r with| .hd S::r=>(.bX S,r)|r=>(.gone,r)
 | .map ka va k v=>match r with|d::r=>(match d.as (.l (.prod k v)) with|some l=>(.map ka va k v l,r)|none=>(.gone,r))|r=>(.gone,r)
 | .Om ka k u c=>match r with|d::r=>(match d.as (.l (.prod k (.sl u))) with|some l=>(.Om ka k u l c none,r)|none=>(.gone,r))|r=>(.gone,r)
 | .set n=>(.set n,r)
 | .rc ps=>match FZ ps r with|(cs,r)=>(.rc cs,r)
 | .gv n c k u=>match r with|d::e::r=>(match d.as (.tv k),e.as (.l u) with|some x,some l=>(.gv n c k u x l,r)|_,_=>(.gone,r))|r=>(.gone,r)
theorem V1 (t:Ty) (x:t.T):N4 t t x=some x:=by unfold N4;rw [dif_pos rfl]
theorem uN (t:Ty) (l:List t.T):qw t t l=some l:=by unfold qw;rw [dif_pos rfl]
theorem F0 (t:Ty) (rk:Nat) (l:List t.T) (r:List DV):tL (.row t rk) (.l t l::r)=(.row t l rk,r):=by
 simp only [tL,DV.as,uN]
theorem aaA (ka va:Bool) (k v:Ty) (l:List (k.T×v.T)) (r:List DV):tL (.map ka va k v) (.l (.prod k v) l::r)=(.map ka va k v l,r):=by
 simp only [tL,DV.as,uN]
theorem aaz (ka:Bool) (k u:Ty) (c:Nat) (l:List (k.T×List u.T)) (r:List DV):tL (.Om ka k u c) (.l (.prod k (.sl u)) l::r)=(.Om ka k u l c none,r):=by
 simp only [tL,DV.as,uN]
theorem adt (n c:Nat) (k u:Ty) (x:k.T) (l:List u.T) (r:List DV):tL (.gv n c k u) (.tv k x:: .l u l::r)=(.gv n c k u x l,r):=by
 simp only [tL,DV.as,uN,V1]
theorem aap {h:List aX} {p:PO} {s:Src} {π jL:tE} {ds:List DV} (hd:FQ h p s π=some (jL,ds)):
  xd π jL/\ ∃o,o≠ .gone/\ (∀r,tL p (ds++r)=(o,r))/\ ∀f,BE jL f->IX f h s o:=by
 cases p with
 |gone=>cases hd
 |cells ps e=>
  simp only [FQ] at hd
  split at hd<;>try (cases hd;done)
  split at hd<;>try (cases hd;done)
  rename_i hl
  split at hd<;>try (cases hd;done)
  rename_i he;subst he
  obtain ⟨a,q,b,c⟩:=uR _ _ _ _ _ hd
  exact ⟨a,.cells q _,by simp,fun r=>(by simp only [tL,b r];rfl),fun f hf=>⟨_,hl,by simp only [lQ,c f hf]⟩⟩
 |row t rk=>
  simp only [FQ] at hd
  split at hd
  ·split at hd<;>try (cases hd;done)
   rename_i hl
   split at hd<;>try (cases hd;done)
   rename_i hk;subst hk
   split at hd<;>try (cases hd;done)
   rename_i hc
   cases hd
   obtain ⟨e1,e2⟩:=fJ hc
   subst e1
   dsimp only at e2
   subst e2
   exact ⟨.rfl' _,_,by simp,fun r=>F0 _ _ _ r,fun f hf=>⟨_,hl,rfl⟩⟩
  ·split at hd<;>try (cases hd;done)
   rename_i hk
   cases hd
   exact ⟨.rfl' _,_,by simp,fun r=>F0 _ _ _ r,fun f hf=>⟨t,rk,rfl,hk⟩⟩
  ·split at hd<;>try (cases hd;done)
   rename_i hk
   obtain ⟨rfl,hfl⟩:=hk
   split at hd<;>try (cases hd;done)
   rename_i hl
   split at hd<;>try (cases hd;done)
   rename_i hlen
   split at hd<;>try (cases hd;done)
   rename_i hN
   cases hd
   exact ⟨.rfl' _,_,by simp,fun r=>F0 _ _ _ r,fun f hf=>⟨t,_,_,_,rfl,hl,hfl,hN,hlen⟩⟩
 |alias n q=>
  simp only [FQ] at hd
  split at hd<;>try (cases hd;done)
  split at hd<;>try (cases hd;done)
  rename_i hl
  split at hd<;>try (cases hd;done)
  ·obtain ⟨a,rfl,b⟩:=eP hd
   exact ⟨a,_,by simp,fun r=>rfl,fun f hf=>⟨_,hl,by simp only [lQ,fT (b f hf)]⟩⟩
  ·obtain ⟨a,rfl,b⟩:=eP hd
   exact ⟨a,_,by simp,fun r=>rfl,fun f hf=>⟨_,hl,by simp only [lQ,fT (b f hf)]⟩⟩
 |loop busy=>
  simp only [FQ] at hd
  split at hd<;>try (cases hd;done)
  split at hd<;>try (cases hd;done)
  rename_i hl
  split at hd<;>try (cases hd;done)
  all_goals
   cases hd
   exact ⟨.rfl' _,_,by simp,fun r=>rfl,fun f hf=>⟨_,hl,rfl⟩⟩
 |ji k=>
  simp only [FQ] at hd
  split at hd<;>try (cases hd;done)
  split at hd<;>try (cases hd;done)
  rename_i hl
  split at hd<;>try (cases hd;done)
  rename_i hk
  obtain ⟨rfl,hk⟩:=hk
  cases hd
  exact ⟨.rfl' _,_,by simp,fun r=>rfl,fun f hf=>⟨_,hl,by simp only [lQ,Oj hf hk,if_true]⟩⟩
 |bX=>
  simp only [FQ] at hd
  split at hd<;>try (cases hd;done)
  split at hd<;>try (cases hd;done)
  rename_i hl
  cases hd
  exact ⟨.rfl' _,_,by simp,fun r=>rfl,fun f hf=>⟨_,hl,rfl⟩⟩
 |map ka va k v=>
  simp only [FQ] at hd
  split at hd<;>try (cases hd;done)
  split at hd<;>try (cases hd;done)
  rename_i hl
  split at hd<;>try (cases hd;done)
  rename_i hk
  obtain ⟨rfl,rfl⟩:=hk
  split at hd<;>try (cases hd;done)
  rename_i hc
  cases hd
  obtain ⟨e1,e2⟩:=fJ hc
  cases e1
  dsimp only at e2
  subst e2
  exact ⟨.rfl' _,_,by simp,fun r=>aaA _ _ _ _ _ r,fun f hf=>⟨_,hl,rfl⟩⟩
 |Om ka k u c=>
  simp only [FQ] at hd
  split at hd<;>try (cases hd;done)
  split at hd<;>try (cases hd;done)
  rename_i hl
  split at hd<;>try (cases hd;done)
  rename_i hk;subst hk
  split at hd<;>try (cases hd;done)
  rename_i hc
  obtain ⟨e1,e2⟩:=fJ hc
  cases e1
  dsimp only at e2
  subst e2
  obtain ⟨a,rfl,b⟩:=eP hd
  exact ⟨a,_,by simp,fun r=>aaz _ _ _ _ _ r,fun f hf=>⟨_,hl,by simp only [lQ,fT (b f hf)]⟩⟩
 |set n=>
  simp only [FQ] at hd
  split at hd<;>try (cases hd;done)
  split at hd<;>try (cases hd;done)
  rename_i hl
  obtain ⟨a,rfl,b⟩:=eP hd
  exact ⟨a,_,by simp,fun r=>rfl,fun f hf=>⟨_,hl,by simp only [lQ,fT (b f hf)]⟩⟩
 |gv n c k u=>
  simp only [FQ] at hd
  split at hd<;>try (cases hd;done)
  split at hd<;>try (cases hd;done)
  rename_i hl
  split at hd<;>try (cases hd;done)
  rename_i hx hc
  split at hd<;>try (cases hd;done)
  rename_i MW hb
  obtain ⟨e1,e2⟩:=fJ hc
  subst e1
  dsimp only at e2
  subst e2
  obtain ⟨e3,e4⟩:=S4 hx
  subst e3
  dsimp only at e4
  subst e4
  obtain ⟨a,rfl,b⟩:=eP hd
  have s1:=(fV hb).1
  exact ⟨s1.trans a,_,by simp,fun r=>adt _ _ _ _ _ _ r,fun f hf=>⟨_,hl,by simp only [lQ,fT (b f hf),fT (lf hb (hf.of a))]⟩⟩
 |rc ps=>
  simp only [FQ] at hd
  split at hd<;>try (cases hd;done)
  split at hd<;>try (cases hd;done)
  rename_i hl
  obtain ⟨a,q,b,c⟩:=uR _ _ _ _ _ hd
  exact ⟨a,.rc q,by simp,fun r=>(by simp only [tL,b r]),fun f hf=>⟨_,hl,by simp only [lQ,c f hf]⟩⟩
def PO.ad9:PO->Bool
 | .gone=>true
 |_=>false
def Oa (h:List aX):List PO->Nat->tE->Option (tE×List DV)
 | [],_,π=>some (π,[])
 |p::ps,n,π=>match p.ad9 with
  |true=>Oa h ps (n+1) π
  |false=>match π[n]? with
   |some (some s)=>(match FQ h p s π with
    |some (MW,d1)=>(match Oa h ps (n+1) MW with|some (Z4,d2)=>some (Z4,d1++d2)|none=>none)
    |none=>none)
   |_=>none
def Ka:List PO->List DV->List aX×List DV
 | [],r=>([],r)
 |p::ps,r=>match tL p r with|(c,r)=>match Ka ps r with|(cs,r)=>(c::cs,r)
theorem Wq {π:List Src} {h:List aX} {s:Src} {o:aX} {ss:List Src} {os:List aX} (ho:o≠ .gone) (h1:IX π h s o) (h2:wL π h ss os):wL π h (s::ss) (o::os):=by
 cases o<;>first|exact absurd rfl ho|exact ⟨h1,h2⟩
theorem BO {h:List aX} : ∀(ps:List PO) (n:Nat) (π jL:tE) (ds:List DV),Oa h ps n π=some (jL,ds)->
  xd π jL/\ ∃os,(∀r,Ka ps (ds++r)=(os,r))/\ ∀f,BE jL f->f.length=n+ps.length->wL f h (f.drop n) os
 | [],n,π,jL,ds,hd=>by
  simp only [Oa,Option.some.injEq,Prod.mk.injEq] at hd
  obtain ⟨rfl,rfl⟩:=hd
  refine ⟨.rfl' _,[],fun _=>rfl,fun f _ hl=> ?_⟩
  rw [List.drop_eq_nil_of_le (by simp at hl;omega)];trivial
 |p::ps,n,π,jL,ds,hd=>by
  simp only [Oa] at hd
  split at hd
  ·rename_i hg
   cases p<;>simp [PO.ad9] at hg
   obtain ⟨a,q,b,c⟩:=BO ps _ _ _ _ hd
   refine ⟨a,.gone::q,fun r=>by simp only [Ka,tL,b r],fun f hf hl=> ?_⟩
   rw [List.length_cons] at hl
   rw [List.drop_eq_getElem_cons (by omega)]
   exact c f hf (by omega)
  ·split at hd<;>try (cases hd;done)
   rename_i s hs
   split at hd<;>try (cases hd;done)
   rename_i h1
   split at hd<;>try (cases hd;done)
   rename_i h2
   cases hd
   obtain ⟨a,o,hg,b,c⟩:=aap h1
   obtain ⟨a',q',b',c'⟩:=BO ps _ _ _ _ h2
   refine ⟨a.trans a',o::q',fun r=>by simp only [Ka,List.append_assoc,b,b'],fun f hf hl=> ?_⟩
   rw [List.length_cons] at hl
   have e:=hf.of (a.trans a') n s hs
   rw [List.drop_eq_getElem_cons (by omega)]
   have e2:f[n]'(by omega)=s:=by rw [List.getElem?_eq_getElem (by omega)] at e;exact Option.some.inj e
   rw [e2]
   exact Wq hg (c f (hf.of a')) (c' f hf (by omega))
structure xb (gt:List HT) where
 ps:List PV
 po:List PO
 top:Nat:=0
 F5:Option Nat:=none
 gi:List Nat:= []
 ci:List Nat:= []
 vi:List Nat
 ts:List HT
 c:List DV:= []
def ajD:aX->Bool
 | .bX _=>true
 |_=>false
def Tj:List aX->Nat->Option Nat
 | [],_=>none
 |o::r,n=>match ajD o with|true=>some n|false=>Tj r (n+1)
namespace xb
variable {gt:List HT}
def N (p:xb gt):Nat:=p.gi.length+p.ci.length+p.vi.length
def idx (p:xb gt):List Nat:=p.gi++(p.ci++p.vi)
def agF:List Nat->Nat->Bool
 |_,0=>true
 |l,n+1=>IW n l&&agF l n
def ok (p:xb gt):Bool:=agF p.idx p.N
def ai5 (p:xb gt) (h:List aX):Option tE:=
 match p.F5 with
 |none=>some ((List.range p.po.length).map fun i=>bif Nat.blt i p.top then some (.same i) else none)
 |some n=>match Tj h 0 with
  |some j=>wJ ((List.range p.po.length).map fun i=>bif Nat.blt i p.top then some (.same i) else none) n (.same j)
  |none=>none
def CT (p:xb gt) (ds:List DV):AS:=match xB p.ps ds with
 |(ts,r)=>match Ka p.po r with
  |(os,_)=>⟨ts,os⟩
def fill (p:xb gt) (g:TT gt) (s:TT p.ts):AS:=p.CT (aj9 p.idx (T9 gt g++(p.c++T9 p.ts s)) p.N)
def fin (π:tE):List Src:=π.map fun o=>match o with|some s=>s|none=> .nil
def read (p:xb gt) (st:AS):Option (TT gt×List DV×TT p.ts):=match p.ai5 st.heap with
 |none=>none
 |some π0=>match J0 p.ps st.tmps π0 with
  |none=>none
  |some (MW,d1)=>match Oa st.heap p.po 0 MW with
   |none=>none
   |some (Z4,d2)=>match Nat.beq (d1++d2).length p.N&&xV (AG (fin Z4) (p.CT (d1++d2)).heap) with
    |false=>none
    |true=>match Yp gt (Nb p.gi (d1++d2)),Yp p.ts (Nb p.vi (d1++d2)) with
     |some g,some s=>some (g,Nb p.ci (d1++d2),s)
     |_,_=>none
theorem adu (π:tE):BE π (fin π):=fun n s h=>by simp [fin,h]
theorem N1 {l:List Nat} : ∀ {n:Nat},agF l n=true-> ∀j,j<n->j∈l
  |0,_,j,h=>by omega
  | n+1,h,j,hj=>by
    simp only [agF,Bool.and_eq_true] at h
    rcases Nat.lt_or_ge j n with h1|h1
    · exact N1 h.2 j h1
    · have:j=n:=by omega
      subst this;exact TW h.1
where TW {x:Nat} : ∀ {l:List Nat},IW x l=true->x∈l
        | [],h=>by cases h
        | y::r,h=>by
          simp only [IW,Bool.or_eq_true] at h
          rcases h with h|h
          · simp [Nat.eq_of_beq_eq_true h]
          · exact List.mem_cons_of_mem _ (TW h)
theorem ac5 {p:xb gt} {h:List aX} {π:tE} (hb:p.ai5 h=some π):π.length=p.po.length:=by
 unfold ai5 at hb
 split at hb
 ·cases hb;simp
 ·split at hb
  ·rw [(fV hb).1.len];simp
  ·cases hb
theorem Zr {p:xb gt} (hp:p.ok=true) {st:AS} {g:TT gt} {c:List DV} {s:TT p.ts} (h:p.read st=some (g,c,s)) (hc:c=p.c):pN st (p.fill g s):=by
 unfold read at h
 split at h<;>try (cases h;done)
 rename_i π0 h0
 split at h<;>try (cases h;done)
 rename_i MW d1 h1
 split at h<;>try (cases h;done)
 rename_i Z4 d2 h2
 split at h<;>try (cases h;done)
 rename_i hn
 simp only [Bool.and_eq_true] at hn
 split at h<;>try (cases h;done)
 rename_i g' s' hg hs
 cases h
 have hlen:(d1++d2).length=p.N:=Nat.eq_of_beq_eq_true hn.1
 have key:p.fill g s=p.CT (d1++d2):=by
  unfold fill
  rw [SD _ _ _ hg,SD _ _ _ hs,<- hc]
  have:Nb p.gi (d1++d2)++(Nb p.ci (d1++d2)++Nb p.vi (d1++d2))=Nb p.idx (d1++d2):=by simp [Nb,idx]
  rw [this,<- hlen,acs fun j hj=>N1 hp j (by omega)]
 rw [key]
 obtain ⟨a,q,b,t⟩:=uT _ _ _ _ _ h1
 obtain ⟨a',q',b',t'⟩:=BO _ _ _ _ _ h2
 have b'':=b' []
 rw [List.append_nil] at b''
 have e:p.CT (d1++d2)=⟨q,q'⟩:=by simp only [CT,b d2,b'']
 refine ⟨fin Z4,?_,?_,?_⟩
 ·rw [e];exact t _ ((adu _).of a')
 ·rw [e]
  have:=t' (fin Z4) (adu _) (by simp [fin,a'.len,a.len,ac5 h0])
  rwa [List.drop_zero] at this
 ·exact hn.2
end xb
end Go.Ev
