/- States as patterns: what is read out of a state, and that the state knows no less than the pattern with these values. -/
import Derived.Test.YtaipcbdilkcdbaaEvP
noncomputable section
set_option linter.unusedSectionVars false
set_option linter.unusedVariables false
set_option linter.unusedSimpArgs false
namespace Go.Ev
inductive HT
 |i|b|s|n|v|env|lo|hd
 |l (t:Ty)
 |tv (t:Ty)
@[reducible] def HT.T:HT->Type
 | .i=>Int
 | .b=>Bool
 | .s=>ByteArray
 | .n=>Nat
 | .v=>Value
 | .env=>Env
 | .lo=>Loop
 | .hd=>Nat->Prop
 | .l t=>List t.T
 | .tv t=>t.T
inductive DV
 |i (x:Int)|b (x:Bool)|s (x:ByteArray)|n (x:Nat)|v (x:Value)|env (x:Env)|lo (x:Loop)|hd (x:Nat->Prop)
 |l (t:Ty) (x:List t.T)
 |tv (t:Ty) (x:t.T)
def C3 (t u:Ty) (x:t.T):Option u.T:=if h:t=u then some (h▸x) else none
theorem FZ {u' u:Ty} {x:u'.T} {y:u.T} (h:C3 u' u x=some y): ∃e:u'=u,e▸x=y:=by
 unfold C3 at h
 split at h
 ·rename_i e;cases h;exact ⟨e,rfl⟩
 ·cases h
def DV.as:(h:HT)->DV->Option h.T
 | .i,d=>match d with| .i x=>some x|_=>none
 | .b,d=>match d with| .b x=>some x|_=>none
 | .s,d=>match d with| .s x=>some x|_=>none
 | .n,d=>match d with| .n x=>some x|_=>none
 | .v,d=>match d with| .v x=>some x|_=>none
 | .env,d=>match d with| .env x=>some x|_=>none
 | .lo,d=>match d with| .lo x=>some x|_=>none
 | .hd,d=>match d with| .hd x=>some x|_=>none
 | .l t,d=>match d with| .l u x=>iM u t x|_=>none
 | .tv t,d=>match d with| .tv u x=>C3 u t x|_=>none
def DV.of:(h:HT)->h.T->DV
 | .i,x=> .i x
 | .b,x=> .b x
 | .s,x=> .s x
 | .n,x=> .n x
 | .v,x=> .v x
 | .env,x=> .env x
 | .lo,x=> .lo x
 | .hd,x=> .hd x
 | .l t,x=> .l t x
 | .tv t,x=> .tv t x
theorem DV.SQ {h:HT} {d:DV} {x:h.T} (e:d.as h=some x):DV.of h x=d:=by
 cases h with
 |l t=>
  cases d<;>simp only [DV.as] at e<;>try (cases e;done)
  rename_i u y
  obtain ⟨e1,e2⟩:=cK e
  subst e1
  dsimp only at e2
  subst e2
  rfl
 |tv t=>
  cases d<;>simp only [DV.as] at e<;>try (cases e;done)
  rename_i u y
  obtain ⟨e1,e2⟩:=FZ e
  subst e1
  dsimp only at e2
  subst e2
  rfl
 |_=>cases d<;>simp only [DV.as] at e<;>first|(cases e;done)|(cases e;rfl)
@[reducible] def TT:List HT->Type
 | []=>Unit
 | [a]=>a.T
 |a::c::r=>a.T×TT (c::r)
def J2:(ts:List HT)->List DV->Option (TT ts)
 | [],ds=>match ds with| []=>some ()|_=>none
 | [a],ds=>match ds with| [d]=>d.as a|_=>none
 |a::c::r,ds=>match ds with
  |d::q=>match d.as a,J2 (c::r) q with|some x,some y=>some (x,y)|_,_=>none
  | []=>none
def Fo:(ts:List HT)->TT ts->List DV
 | [],_=> []
 | [a],x=> [DV.of a x]
 |a::c::r,x=>DV.of a x.1::Fo (c::r) x.2
theorem FE: ∀(ts:List HT) (ds:List DV) (x:TT ts),J2 ts ds=some x->Fo ts x=ds
 | [],ds,x,h=>by
  simp only [J2] at h
  split at h<;>first|rfl|cases h
 | [a],ds,x,h=>by
  simp only [J2] at h
  split at h
  ·simp only [Fo,DV.SQ h]
  ·cases h
 |a::c::r,ds,x,h=>by
  simp only [J2] at h
  split at h
  ·split at h
   ·rename_i y z h1 h2
    cases h
    simp only [Fo,DV.SQ h1,FE _ _ _ h2]
   ·cases h
  ·cases h
def pick:List Nat->List DV->Nat->DV
 |k::r,v::q,j=>bif Nat.beq k j then v else pick r q j
 |_,_,_=> .n 0
def CG (idx:List Nat) (ds:List DV):List DV:=idx.map fun j=>ds.getD j (.n 0)
def U5 (idx:List Nat) (vs:List DV) (n:Nat):List DV:=(List.range n).map (pick idx vs)
theorem G9 (f:Nat->DV): ∀(idx:List Nat) (j:Nat),j∈idx->pick idx (idx.map f) j=f j
  | [],_,h=>by cases h
  | k::r,j,h=>by
    simp only [List.map_cons,pick]
    by_cases e:k=j
    · subst e;simp
    · have:Nat.beq k j=false:=by rw [Nat.beq_eq_false_iff_ne];exact e
      rw [this]
      exact G9 f r j ((List.mem_cons.1 h).resolve_left fun h=>e h.symm)
where Nat.beq_eq_false_iff_ne {a b:Nat} :Nat.beq a b=false↔a≠b:=by
        rw [<- Bool.not_eq_true,Nat.beq_eq]
theorem M3 {idx:List Nat} {ds:List DV} (h: ∀j,j<ds.length->j∈idx):U5 idx (CG idx ds) ds.length=ds:=by
 unfold U5 CG
 refine List.ext_getElem (by simp) fun i h1 h2=> ?_
 simp only [List.getElem_map,List.getElem_range]
 rw [G9 _ _ _ (h i h2),List.getD_eq_getElem?_getD,List.getElem?_eq_getElem h2];rfl
inductive PR
 |ext
 |loc (n off:Nat)
 |elem (n:Nat)
 |full (n:Nat)
 |mp (n:Nat)
inductive PC
 |i (k:IntKind)
 |b|s|raw
 |ptr (n off:Nat)
 |jE (n:Nat)
 |sl (n off:Nat)
 |full (n:Nat)
 |cx (n k:Nat)
 |fq (n:Nat)
 |kq (f:FuncId) (nf:Nat) (rs:List PR)
 |zJ (n:Nat)
 |mp (n:Nat)
 |mv (f:FuncId) (agg:Bool) (rs:List PR)
inductive PA
 |one (p:PC)
 |agg (l:List PC)
inductive PV
 |d
 |v (a:PA)
 |oP (l:List PA)
inductive PO
 |gone
 |cells (l:List PC) (e:TypeId)
 |row (t:Ty) (rk:Nat)
 |alias (n:Nat) (q:Bool)
 |loop (busy:Bool)
 |de (n:Nat)
 |eZ
 |map (ka va:Bool) (k v:Ty)
 |mh (ka:Bool) (k u:Ty) (c:Nat)
 |set (n:Nat)
 |gv (n c:Nat) (k u:Ty)
 |rc (l:List PC)
 |dp (t:Ty) (c:Nat) (st:Bool)
 |nv (n c q:Nat) (u:Ty)
abbrev oQ:=List (Option Src)
def Src.Xs:Src->Src->Bool
 | .same a,.same b=>Nat.beq a b
 | .nil,.nil=>true
 | .cells a b,.cells c d=>Nat.beq a c&&Nat.beq b d
 | .mt a b,.mt c d=>Nat.beq a c&&Nat.beq b d
 |_,_=>false
theorem Src.TK {a b:Src} (h:Src.Xs a b=true):a=b:=by
 cases a<;>cases b<;>simp_all [Src.Xs]
def nJ (π:oQ) (n:Nat) (s:Src):Option oQ:=match π[n]? with
 |some none=>some (π.set n (some s))
 |some (some t)=>bif Src.Xs t s then some π else none
 |none=>none
structure qT (π gP:oQ):Prop where
 len:gP.length=π.length
 sub: ∀(n:Nat) (s:Src),π[n]? =some (some s)->gP[n]? =some (some s)
theorem qT.rfl' (π:oQ):qT π π:=⟨rfl,fun _ _ h=>h⟩
theorem qT.trans {a b c:oQ} (h:qT a b) (k:qT b c):qT a c:=⟨k.len.trans h.len,fun n s e=>k.sub n s (h.sub n s e)⟩
def tX (π:oQ) (f:List Src):Prop:= ∀(n:Nat) (s:Src),π[n]? =some (some s)->f[n]? =some s
theorem tX.of {π gP:oQ} {f:List Src} (h:tX gP f) (k:qT π gP):tX π f:=fun n s e=>h n s (k.sub n s e)
theorem dD {π gP:oQ} {n:Nat} {s:Src} (h:nJ π n s=some gP):qT π gP/\ gP[n]? =some (some s):=by
 unfold nJ at h
 split at h
 ·rename_i hn
  cases h
  have hl:=(List.getElem?_eq_some_iff.1 hn).1
  refine ⟨⟨by simp,fun m t hm=> ?_⟩,by simp [hl]⟩
  rw [List.getElem?_set]
  split
  ·rename_i e;subst e;rw [hn] at hm;cases hm
  ·exact hm
 ·rename_i t hn
  cases hb:Src.Xs t s with
  |true=>
   rw [hb] at h
   cases h
   exact ⟨.rfl' _,by rw [hn,Src.TK hb]⟩
  |false=>rw [hb] at h;cases h
 ·cases h
theorem gl {π gP:oQ} {n:Nat} {s:Src} (h:nJ π n s=some gP) {f:List Src} (hf:tX gP f):f[n]? =some s:=hf n s (dD h).2
theorem dB {f:List Src} {n m:Nat} (h:f[n]? =some (.same m)):ik f n=some m:=by unfold ik;rw [h]
def k9:List PR->List Ref->oQ->Option (oQ×List DV)
 | [],qs,π=>match qs with| []=>some (π,[])|_=>none
 |p::ps,qs,π=>match qs with
  | []=>none
  |q::qs=>match p,q with
   | .ext,.ext v=>match k9 ps qs π with|some (gP,ds)=>some (gP,.v v::ds)|none=>none
   | .loc n o,.loc m o'=>if o=o' then (match nJ π n (.same m) with|some zm=>k9 ps qs zm|none=>none) else none
   | .elem n,.elem m j=>match nJ π n (.same m) with
    |some zm=>(match k9 ps qs zm with|some (gP,ds)=>some (gP,.n j::ds)|none=>none)
    |none=>none
   | .full n,.full m=>(match nJ π n (.same m) with|some zm=>k9 ps qs zm|none=>none)
   | .mp n,.mp m=>(match nJ π n (.same m) with|some zm=>k9 ps qs zm|none=>none)
   |_,_=>none
def fu:List PR->List DV->List Ref×List DV
 | [],r=>([],r)
 | .ext::ps,r=>match r with| .v x::r=>(match fu ps r with|(q,r)=>(.ext x::q,r))|r=>([],r)
 | .loc n o::ps,r=>match fu ps r with|(q,r)=>(.loc n o::q,r)
 | .elem n::ps,r=>match r with| .n j::r=>(match fu ps r with|(q,r)=>(.elem n j::q,r))|r=>([],r)
 | .full n::ps,r=>match fu ps r with|(q,r)=>(.full n::q,r)
 | .mp n::ps,r=>match fu ps r with|(q,r)=>(.mp n::q,r)
theorem fK: ∀(ps:List PR) (qs:List Ref) (π gP:oQ) (ds:List DV),k9 ps qs π=some (gP,ds)->
  qT π gP/\ ∃rs,(∀r,fu ps (ds++r)=(rs,r))/\ ∀f,tX gP f->jg f rs=some qs
 | [],qs,π,gP,ds,h=>by
  simp only [k9] at h
  split at h
  ·cases h;exact ⟨.rfl' _,[],fun _=>rfl,fun _ _=>rfl⟩
  ·cases h
 |p::ps,qs,π,gP,ds,h=>by
  simp only [k9] at h
  split at h
  ·cases h
  rename_i q qs
  split at h
  ·split at h
   ·rename_i h1
    cases h
    obtain ⟨a,rs,b,c⟩:=fK ps qs _ _ _ h1
    exact ⟨a,.ext _::rs,fun r=>(by simp only [List.cons_append,fu,b r];rfl),fun f hf=>by simp only [jg,nj,c f hf]⟩
   ·cases h
  ·split at h
   ·rename_i ho
    subst ho
    split at h
    ·rename_i hb
     obtain ⟨a,rs,b,c⟩:=fK ps qs _ _ _ h
     exact ⟨(dD hb).1.trans a,.loc _ _::rs,fun r=>(by simp only [fu,b r];rfl),fun f hf=>by simp only [jg,nj,c f hf,dB (gl hb (hf.of a))]⟩
    ·cases h
   ·cases h
  ·split at h
   ·rename_i hb
    split at h
    ·rename_i h1
     cases h
     obtain ⟨a,rs,b,c⟩:=fK ps qs _ _ _ h1
     exact ⟨(dD hb).1.trans a,.elem _ _::rs,fun r=>(by simp only [List.cons_append,fu,b r];rfl),fun f hf=>by simp only [jg,nj,c f hf,dB (gl hb (hf.of a))]⟩
    ·cases h
   ·cases h
  ·split at h
   ·rename_i hb
    obtain ⟨a,rs,b,c⟩:=fK ps qs _ _ _ h
    exact ⟨(dD hb).1.trans a,.full _::rs,fun r=>(by simp only [fu,b r];rfl),fun f hf=>by simp only [jg,nj,c f hf,dB (gl hb (hf.of a))]⟩
   ·cases h
  ·split at h
   ·rename_i hb
    obtain ⟨a,rs,b,c⟩:=fK ps qs _ _ _ h
    exact ⟨(dD hb).1.trans a,.mp _::rs,fun r=>(by simp only [fu,b r];rfl),fun f hf=>by simp only [jg,nj,c f hf,dB (gl hb (hf.of a))]⟩
   ·cases h
  ·cases h
def Lm:Nat->List DV->List Value×List DV
 |0,r=>([],r)
 |n+1,r=>match r with| .v x::r=>(match Lm n r with|(q,r)=>(x::q,r))|r=>([],r)
theorem Eu: ∀(l:List Value) (r:List DV),Lm l.length (l.map .v++r)=(l,r)
 | [],r=>rfl
 |v::l,r=>by simp only [List.length_cons,List.map_cons,List.cons_append,Lm,Eu l r]
def qU (π:oQ) (n m:Nat) (ds:List DV):Option (oQ×List DV):=match nJ π n (.same m) with
 |some gP=>some (gP,ds)
 |none=>none
theorem dh {π gP:oQ} {n m:Nat} {ds ds':List DV} (h:qU π n m ds=some (gP,ds')):qT π gP/\ ds'=ds/\ ∀f,tX gP f->f[n]? =some (.same m):=by
 unfold qU at h
 split at h
 ·rename_i hb
  cases h
  exact ⟨(dD hb).1,rfl,fun f hf=>gl hb hf⟩
 ·cases h
def q8 (p:PC) (c:Cell) (π:oQ):Option (oQ×List DV):=match p with
 | .i k=>match c with| .raw (.int k' n)=>if k=k' then some (π,[.i n]) else none|_=>none
 | .b=>match c with| .raw (.bool x)=>some (π,[.b x])|_=>none
 | .s=>match c with| .raw (.string x)=>some (π,[.s x])|_=>none
 | .raw=>match c with| .raw v=>some (π,[.v v])|_=>none
 | .ptr n o=>match c with| .ptr m o'=>if o=o' then qU π n m [] else none|_=>none
 | .jE n=>match c with| .jE m o=>qU π n m [.n o]|_=>none
 | .sl n o=>match c with| .sl m o' l cp=>if o=o' then qU π n m [.n l,.n cp] else none|_=>none
 | .full n=>match c with
  | .full m=>qU π n m []
  | .raw (.slice none 0 0)=>(match nJ π n .nil with|some gP=>some (gP,[])|none=>none)
  | .sl m off 0 0=>(match nJ π n (.mt m off) with|some gP=>some (gP,[])|none=>none)
  | .sl m 0 l cp=>if cp=l then (match nJ π n (.cells m l) with|some gP=>some (gP,[])|none=>none) else none
  |_=>none
 | .cx n k=>match c with| .cx m j k'=>if k=k' then qU π n m [.n j] else none|_=>none
 | .fq n=>match c with| .fq m j k=>qU π n m [.n j,.n k]|_=>none
 | .kq f nf rs=>match c with
  | .kq (.func g) first cap=>if g=f/\ first.length=nf then (match k9 rs cap π with|some (gP,ds)=>some (gP,first.map .v++ds)|none=>none) else none
  |_=>none
 | .zJ n=>match c with| .zJ m=>qU π n m []|_=>none
 | .mp n=>match c with| .mp m=>qU π n m []|_=>none
 | .mv f a rs=>match c with| .mv g a' qs=>if g=f/\ a'=a then k9 rs qs π else none|_=>none
def Gd (p:PC) (r:List DV):Cell×List DV:=match p with
 | .i k=>match r with| .i n::r=>(.raw (.int k n),r)|r=>(.raw undef,r)
 | .b=>match r with| .b n::r=>(.raw (.bool n),r)|r=>(.raw undef,r)
 | .s=>match r with| .s n::r=>(.raw (.string n),r)|r=>(.raw undef,r)
 | .raw=>match r with| .v n::r=>(.raw n,r)|r=>(.raw undef,r)
 | .ptr n o=>(.ptr n o,r)
 | .jE n=>match r with| .n o::r=>(.jE n o,r)|r=>(.raw undef,r)
 | .sl n o=>match r with| .n l:: .n c::r=>(.sl n o l c,r)|r=>(.raw undef,r)
 | .full n=>(.full n,r)
 | .cx n k=>match r with| .n j::r=>(.cx n j k,r)|r=>(.raw undef,r)
 | .fq n=>match r with| .n j:: .n k::r=>(.fq n j k,r)|r=>(.raw undef,r)
 | .kq f nf rs=>match Lm nf r with|(fs,r)=>match fu rs r with|(q,r)=>(.kq (.func f) fs q,r)
 | .zJ n=>(.zJ n,r)
 | .mp n=>(.mp n,r)
 | .mv f a rs=>match fu rs r with|(q,r)=>(.mv f a q,r)
theorem C7 {p:PC} {c:Cell} {π gP:oQ} {ds:List DV} (h:q8 p c π=some (gP,ds)):
  qT π gP/\ ∃q,(∀r,Gd p (ds++r)=(q,r))/\ ∀f,tX gP f->iZ f q=some c:=by
 cases p with
 |i k=>
  simp only [q8] at h
  split at h<;>try (cases h;done)
  split at h<;>try (cases h;done)
  rename_i e;cases h;subst e
  exact ⟨.rfl' _,_,fun r=>rfl,fun f _=>rfl⟩
 |b=>
  simp only [q8] at h
  split at h<;>try (cases h;done)
  cases h
  exact ⟨.rfl' _,_,fun r=>rfl,fun f _=>rfl⟩
 |s=>
  simp only [q8] at h
  split at h<;>try (cases h;done)
  cases h
  exact ⟨.rfl' _,_,fun r=>rfl,fun f _=>rfl⟩
 |raw=>
  simp only [q8] at h
  split at h<;>try (cases h;done)
  cases h
  exact ⟨.rfl' _,_,fun r=>rfl,fun f _=>rfl⟩
 |ptr n o=>
  simp only [q8] at h
  split at h<;>try (cases h;done)
  split at h<;>try (cases h;done)
  rename_i e;subst e
  obtain ⟨a,rfl,b⟩:=dh h
  exact ⟨a,_,fun r=>rfl,fun f hf=>by simp only [iZ,dB (b f hf)]⟩
 |jE n=>
  simp only [q8] at h
  split at h<;>try (cases h;done)
  obtain ⟨a,rfl,b⟩:=dh h
  exact ⟨a,_,fun r=>rfl,fun f hf=>by simp only [iZ,dB (b f hf)]⟩
 |sl n o=>
  simp only [q8] at h
  split at h<;>try (cases h;done)
  split at h<;>try (cases h;done)
  rename_i e;subst e
  obtain ⟨a,rfl,b⟩:=dh h
  exact ⟨a,_,fun r=>rfl,fun f hf=>by simp only [iZ,dB (b f hf)]⟩
 |full n=>
  simp only [q8] at h
  split at h
  ·obtain ⟨a,rfl,b⟩:=dh h
   exact ⟨a,_,fun r=>rfl,fun f hf=>by simp only [iZ,b f hf]⟩
  ·split at h
   ·rename_i hb
    cases h
    exact ⟨(dD hb).1,_,fun r=>rfl,fun f hf=>by simp only [iZ,gl hb hf]⟩
   ·cases h
  ·split at h
   ·rename_i hb
    cases h
    exact ⟨(dD hb).1,_,fun r=>rfl,fun f hf=>by simp only [iZ,gl hb hf]⟩
   ·cases h
  ·split at h<;>try (cases h;done)
   rename_i e;subst e
   split at h
   ·rename_i hb
    cases h
    exact ⟨(dD hb).1,_,fun r=>rfl,fun f hf=>by simp only [iZ,gl hb hf]⟩
   ·cases h
  ·cases h
 |cx n k=>
  simp only [q8] at h
  split at h<;>try (cases h;done)
  split at h<;>try (cases h;done)
  rename_i e;subst e
  obtain ⟨a,rfl,b⟩:=dh h
  exact ⟨a,_,fun r=>rfl,fun f hf=>by simp only [iZ,dB (b f hf)]⟩
 |fq n=>
  simp only [q8] at h
  split at h<;>try (cases h;done)
  obtain ⟨a,rfl,b⟩:=dh h
  exact ⟨a,_,fun r=>rfl,fun f hf=>by simp only [iZ,dB (b f hf)]⟩
 |kq f nf rs=>
  simp only [q8] at h
  split at h<;>try (cases h;done)
  split at h<;>try (cases h;done)
  rename_i e
  obtain ⟨rfl,rfl⟩:=e
  split at h<;>try (cases h;done)
  rename_i hr
  cases h
  obtain ⟨a,q,b,c⟩:=fK _ _ _ _ _ hr
  exact ⟨a,.kq (.func _) _ q,fun r=>(by simp only [Gd,List.append_assoc,Eu,b r];rfl),fun f hf=>by simp only [iZ,c f hf]⟩
 |zJ n=>
  simp only [q8] at h
  split at h<;>try (cases h;done)
  obtain ⟨a,rfl,b⟩:=dh h
  exact ⟨a,_,fun r=>rfl,fun f hf=>by simp only [iZ,dB (b f hf)]⟩
 |mp n=>
  simp only [q8] at h
  split at h<;>try (cases h;done)
  obtain ⟨a,rfl,b⟩:=dh h
  exact ⟨a,_,fun r=>rfl,fun f hf=>by simp only [iZ,dB (b f hf)]⟩
 |mv f ag rs=>
  simp only [q8] at h
  split at h<;>try (cases h;done)
  split at h<;>try (cases h;done)
  rename_i e
  obtain ⟨rfl,rfl⟩:=e
  obtain ⟨a,q,b,c⟩:=fK _ _ _ _ _ h
  exact ⟨a,.mv _ _ q,fun r=>(by simp only [Gd,b r];rfl),fun f hf=>by simp only [iZ,c f hf]⟩
def Ay:List PC->List Cell->oQ->Option (oQ×List DV)
 | [],cs,π=>match cs with| []=>some (π,[])|_=>none
 |p::ps,cs,π=>match cs with
  | []=>none
  |c::cs=>match q8 p c π with
   |some (zm,d1)=>(match Ay ps cs zm with|some (Lt,d2)=>some (Lt,d1++d2)|none=>none)
   |none=>none
def xH:List PC->List DV->List Cell×List DV
 | [],r=>([],r)
 |p::ps,r=>match Gd p r with|(c,r)=>match xH ps r with|(cs,r)=>(c::cs,r)
theorem pU: ∀(ps:List PC) (cs:List Cell) (π gP:oQ) (ds:List DV),Ay ps cs π=some (gP,ds)->
  qT π gP/\ ∃q,(∀r,xH ps (ds++r)=(q,r))/\ ∀f,tX gP f->gM f q=some cs
 | [],cs,π,gP,ds,h=>by
  simp only [Ay] at h
  split at h
  ·cases h;exact ⟨.rfl' _,[],fun _=>rfl,fun _ _=>rfl⟩
  ·cases h
 |p::ps,cs,π,gP,ds,h=>by
  simp only [Ay] at h
  split at h
  ·cases h
  split at h
  ·rename_i h1
   split at h
   ·rename_i h2
    cases h
    obtain ⟨a,q,b,c⟩:=C7 h1
    obtain ⟨a',q',b',c'⟩:=pU ps _ _ _ _ h2
    exact ⟨a.trans a',q::q',fun r=>by simp only [xH,List.append_assoc,b,b'],fun f hf=>by simp only [gM,c f (hf.of a'),c' f hf]⟩
   ·cases h
  ·cases h
def NY (p:PA) (a:A0) (π:oQ):Option (oQ×List DV):=match p with
 | .one p=>match a with| .one c=>q8 p c π|_=>none
 | .agg ps=>match a with| .agg cs=>Ay ps cs π|_=>none
def Gc (p:PA) (r:List DV):A0×List DV:=match p with
 | .one p=>match Gd p r with|(c,r)=>(.one c,r)
 | .agg ps=>match xH ps r with|(c,r)=>(.agg c,r)
theorem C6 {p:PA} {a:A0} {π gP:oQ} {ds:List DV} (h:NY p a π=some (gP,ds)):
  qT π gP/\ ∃q,(∀r,Gc p (ds++r)=(q,r))/\ ∀f,tX gP f->CS f q=some a:=by
 cases p with
 |one p=>
  simp only [NY] at h
  split at h<;>try (cases h;done)
  obtain ⟨a,q,b,c⟩:=C7 h
  exact ⟨a,.one q,fun r=>by simp only [Gc,b r],fun f hf=>by simp only [CS,c f hf]⟩
 |agg ps=>
  simp only [NY] at h
  split at h<;>try (cases h;done)
  obtain ⟨a,q,b,c⟩:=pU _ _ _ _ _ h
  exact ⟨a,.agg q,fun r=>by simp only [Gc,b r],fun f hf=>by simp only [CS,c f hf]⟩
def F6:List PA->List A0->oQ->Option (oQ×List DV)
 | [],cs,π=>match cs with| []=>some (π,[])|_=>none
 |p::ps,cs,π=>match cs with
  | []=>none
  |c::cs=>match NY p c π with
   |some (zm,d1)=>(match F6 ps cs zm with|some (Lt,d2)=>some (Lt,d1++d2)|none=>none)
   |none=>none
def ES:List PA->List DV->List A0×List DV
 | [],r=>([],r)
 |p::ps,r=>match Gc p r with|(c,r)=>match ES ps r with|(cs,r)=>(c::cs,r)
theorem Ax: ∀(ps:List PA) (cs:List A0) (π gP:oQ) (ds:List DV),F6 ps cs π=some (gP,ds)->
  qT π gP/\ ∃q,(∀r,ES ps (ds++r)=(q,r))/\ ∀f,tX gP f->fZ f q=some cs
 | [],cs,π,gP,ds,h=>by
  simp only [F6] at h
  split at h
  ·cases h;exact ⟨.rfl' _,[],fun _=>rfl,fun _ _=>rfl⟩
  ·cases h
 |p::ps,cs,π,gP,ds,h=>by
  simp only [F6] at h
  split at h
  ·cases h
  split at h
  ·rename_i h1
   split at h
   ·rename_i h2
    cases h
    obtain ⟨a,q,b,c⟩:=C6 h1
    obtain ⟨a',q',b',c'⟩:=Ax ps _ _ _ _ h2
    exact ⟨a.trans a',q::q',fun r=>by simp only [ES,List.append_assoc,b,b'],fun f hf=>by simp only [fZ,c f (hf.of a'),c' f hf]⟩
   ·cases h
  ·cases h
def Az:List PV->List AV->oQ->Option (oQ×List DV)
 | [],vs,π=>match vs with| []=>some (π,[])|_=>none
 |p::ps,vs,π=>match vs with
  | []=>none
  |x::vs=>match p with
   | .d=>Az ps vs π
   | .v a=>(match x with
    | .v y=>(match NY a y π with
     |some (zm,d1)=>(match Az ps vs zm with|some (Lt,d2)=>some (Lt,d1++d2)|none=>none)
     |none=>none)
    |_=>none)
   | .oP l=>(match x with
    | .oP m=>(match F6 l m π with
     |some (zm,d1)=>(match Az ps vs zm with|some (Lt,d2)=>some (Lt,d1++d2)|none=>none)
     |none=>none)
    |_=>none)
def rq:List PV->List DV->List AV×List DV
 | [],r=>([],r)
 | .d::ps,r=>match rq ps r with|(q,r)=>(.dead::q,r)
 | .v a::ps,r=>match Gc a r with|(x,r)=>match rq ps r with|(q,r)=>(.v x::q,r)
 | .oP l::ps,r=>match ES l r with|(x,r)=>match rq ps r with|(q,r)=>(.oP x::q,r)
theorem pV: ∀(ps:List PV) (vs:List AV) (π gP:oQ) (ds:List DV),Az ps vs π=some (gP,ds)->
  qT π gP/\ ∃q,(∀r,rq ps (ds++r)=(q,r))/\ ∀f,tX gP f->Cp f vs q
 | [],vs,π,gP,ds,h=>by
  simp only [Az] at h
  split at h
  ·cases h;exact ⟨.rfl' _,[],fun _=>rfl,fun _ _=>trivial⟩
  ·cases h
 |p::ps,vs,π,gP,ds,h=>by
  simp only [Az] at h
  split at h
  ·cases h
  rename_i x vs
  cases p with
  |d=>
   obtain ⟨a,q,b,c⟩:=pV ps vs _ _ _ h
   exact ⟨a,.dead::q,fun r=>by simp only [rq,b r],fun f hf=>c f hf⟩
  |v pa=>
   dsimp only at h
   split at h<;>try (cases h;done)
   split at h<;>try (cases h;done)
   rename_i h1
   split at h<;>try (cases h;done)
   rename_i h2
   cases h
   obtain ⟨a,q,b,c⟩:=C6 h1
   obtain ⟨a',q',b',c'⟩:=pV ps _ _ _ _ h2
   exact ⟨a.trans a',.v q::q',fun r=>by simp only [rq,List.append_assoc,b,b'],fun f hf=>⟨by simp only [qn,c f (hf.of a')],c' f hf⟩⟩
  |oP l=>
   dsimp only at h
   split at h<;>try (cases h;done)
   split at h<;>try (cases h;done)
   rename_i h1
   split at h<;>try (cases h;done)
   rename_i h2
   cases h
   obtain ⟨a,q,b,c⟩:=Ax _ _ _ _ _ h1
   obtain ⟨a',q',b',c'⟩:=pV ps _ _ _ _ h2
   exact ⟨a.trans a',.oP q::q',fun r=>by simp only [rq,List.append_assoc,b,b'],fun f hf=>⟨by simp only [qn,c f (hf.of a')],c' f hf⟩⟩
def Rk (π:oQ):Nat->Bool
 |0=>true
 |n+1=>(match π[n]? with|some (some (.same m))=>m==n|_=>false)&&Rk π n
theorem Dc {π:oQ} {f:List Src} (hf:tX π f): ∀ {n:Nat},Rk π n=true->xI f n=true
 |0,_=>rfl
 |n+1,h=>by
  simp only [Rk,Bool.and_eq_true] at h
  simp only [xI,Bool.and_eq_true]
  refine ⟨?_,Dc hf h.2⟩
  have h1:=h.1
  split at h1
  ·rename_i m hm
   rw [hf _ _ hm];exact h1
  ·cases h1
def uf (h:List aG) (p:PO) (s:Src) (π:oQ):Option (oQ×List DV):=match p with
 | .gone=>none
 | .cells ps e=>match s with
  | .same m=>(match aj h m with|some (.cells cs e')=>if e=e' then Ay ps cs π else none|_=>none)
  |_=>none
 | .row t rk=>match s with
  | .same m=>(match aj h m with
   |some (.row u l k)=>if k=rk then (match iM u t l with|some l'=>some (π,[.l t l'])|none=>none) else none
   |_=>none)
  | .nil=>if rk=0 then none else some (π,[.l t []])
  | .mt m _=>if rk=3 then (match aj h m with|some (.cells _ _)=>some (π,[.l t []])|_=>none) else none
  | .any _=>none
  | .cells m len=>if (rk=2\/ rk=3)/\ t.flat=true then (match aj h m with
   |some (.cells cs _)=>if cs.length=len*t.size/\ Nat.ble len 1099511627776=true then (match ta (b8 (fun _=>none) t) len cs with|some (l,[])=>some (π,[.l t l])|_=>none) else none
   |_=>none) else none
 | .alias n q=>match s with
  | .same m=>(match aj h m with
   |some (.alias n' a b)=>(match q,b with
    |false,none=>qU π n n' [.n a]
    |true,some x=>qU π n n' [.n a,.n x]
    |_,_=>none)
   |_=>none)
  |_=>none
 | .loop busy=>match s with
  | .same m=>(match aj h m with
   |some (.loop r s none)=>(match busy,s with
    |false,.ready=>some (π,[.lo r])
    |true,.busy=>some (π,[.lo r])
    |_,_=>none)
   |_=>none)
  |_=>none
 | .de k=>match s with
  | .same m=>(match aj h m with|some (.de ρ k')=>if k=k'/\ Rk π k=true then some (π,[.env ρ]) else none|_=>none)
  |_=>none
 | .eZ=>match s with
  | .same m=>(match aj h m with|some (.eZ S)=>some (π,[.hd S])|_=>none)
  |_=>none
 | .map ka va k v=>match s with
  | .same m=>(match aj h m with
   |some (.map ka' va' k' v' l)=>if ka'=ka/\ va'=va then (match iM (.prod k' v') (.prod k v) l with|some l'=>some (π,[.l (.prod k v) l'])|none=>none) else none
   |_=>none)
  |_=>none
 | .mh ka k u c=>match s with
  | .same m=>(match aj h m with
   |some (.mh ka' k' u' l c' none)=>if ka'=ka then (match iM (.prod k' (.sl u')) (.prod k (.sl u)) l with|some l'=>qU π c c' [.l (.prod k (.sl u)) l']|none=>none) else none
   |_=>none)
  |_=>none
 | .set n=>match s with
  | .same m=>(match aj h m with|some (.set n')=>qU π n n' []|_=>none)
  |_=>none
 | .gv n c k u=>match s with
  | .same m=>(match aj h m with
   |some (.gv n' c' k' u' x l)=>(match C3 k' k x,iM u' u l with
    |some x',some l'=>(match nJ π n (.same n') with|some zm=>qU zm c c' [.tv k x',.l u l']|none=>none)
    |_,_=>none)
   |_=>none)
  |_=>none
 | .rc ps=>match s with
  | .same m=>(match aj h m with|some (.rc cs)=>Ay ps cs π|_=>none)
  |_=>none
 | .dp t c st=>match s with
  | .same m=>(match aj h m with
   |some (.dp t' l c' st' kn)=>if st'=st then (match iM t' t l with|some l'=>qU π c c' [.l t l',.b kn]|none=>none) else none
   |_=>none)
  |_=>none
 | .nv n c q u=>match s with
  | .same m=>(match aj h m with
   |some (.nv n' c' j q' u')=>if q'=q/\ u'=u then (match nJ π n (.same n') with|some zm=>qU zm c c' [.n j]|none=>none) else none
   |_=>none)
  |_=>none
def mV (p:PO) (r:List DV):aG×List DV:=match p with
 | .gone=>(.gone,r)
 | .cells ps e=>match xH ps r with|(cs,r)=>(.cells cs e,r)
 | .row t rk=>match r with|d::r=>(match d.as (.l t) with|some l=>(.row t l rk,r)|none=>(.gone,r))|r=>(.gone,r)
 | .alias n false=>match r with| .n a::r=>(.alias n a none,r)|r=>(.gone,r)
 | .alias n true=>match r with| .n a:: .n b::r=>(.alias n a (some b),r)|r=>(.gone,r)
 | .loop busy=>match r with| .lo l::r=>(.loop l (bif busy then .busy else .ready) none,r)|r=>(.gone,r)
 | .de k=>match r with| .env ρ::r=>(.de ρ k,r)|r=>(.gone,r)
 | .eZ=>match r with| .hd S::r=>(.eZ S,r)|r=>(.gone,r)
 | .map ka va k v=>match r with|d::r=>(match d.as (.l (.prod k v)) with|some l=>(.map ka va k v l,r)|none=>(.gone,r))|r=>(.gone,r)
 | .mh ka k u c=>match r with|d::r=>(match d.as (.l (.prod k (.sl u))) with|some l=>(.mh ka k u l c none,r)|none=>(.gone,r))|r=>(.gone,r)
 | .set n=>(.set n,r)
 | .rc ps=>match xH ps r with|(cs,r)=>(.rc cs,r)
 | .dp t c st=>match r with|d:: .b kn::r=>(match d.as (.l t) with|some l=>(.dp t l c st kn,r)|none=>(.gone,r))|r=>(.gone,r)
 | .nv n c q u=>match r with| .n j::r=>(.nv n c j q u,r)|r=>(.gone,r)
 | .gv n c k u=>match r with|d::e::r=>(match d.as (.tv k),e.as (.l u) with|some x,some l=>(.gv n c k u x l,r)|_,_=>(.gone,r))|r=>(.gone,r)
theorem Iy (t:Ty) (x:t.T):C3 t t x=some x:=by unfold C3;rw [dif_pos rfl]
theorem mS (t:Ty) (l:List t.T):iM t t l=some l:=by unfold iM;rw [dif_pos rfl]
theorem sD (t:Ty) (rk:Nat) (l:List t.T) (r:List DV):mV (.row t rk) (.l t l::r)=(.row t l rk,r):=by
 simp only [mV,DV.as,mS]
theorem L4 (ka va:Bool) (k v:Ty) (l:List (k.T×v.T)) (r:List DV):mV (.map ka va k v) (.l (.prod k v) l::r)=(.map ka va k v l,r):=by
 simp only [mV,DV.as,mS]
theorem L3 (ka:Bool) (k u:Ty) (c:Nat) (l:List (k.T×List u.T)) (r:List DV):mV (.mh ka k u c) (.l (.prod k (.sl u)) l::r)=(.mh ka k u l c none,r):=by
 simp only [mV,DV.as,mS]
theorem N8 (n c:Nat) (k u:Ty) (x:k.T) (l:List u.T) (r:List DV):mV (.gv n c k u) (.tv k x:: .l u l::r)=(.gv n c k u x l,r):=by
 simp only [mV,DV.as,mS,Iy]
theorem N7 (t:Ty) (c:Nat) (st kn:Bool) (l:List t.T) (r:List DV):mV (.dp t c st) (.l t l:: .b kn::r)=(.dp t l c st kn,r):=by
 simp only [mV,DV.as,mS]
theorem LQ {h:List aG} {p:PO} {s:Src} {π gP:oQ} {ds:List DV} (hd:uf h p s π=some (gP,ds)):
  qT π gP/\ ∃o,o≠ .gone/\ (∀r,mV p (ds++r)=(o,r))/\ ∀f,tX gP f->zD f h s o:=by
 cases p with
 |gone=>cases hd
 |cells ps e=>
  simp only [uf] at hd
  split at hd<;>try (cases hd;done)
  split at hd<;>try (cases hd;done)
  rename_i hl
  split at hd<;>try (cases hd;done)
  rename_i he;subst he
  obtain ⟨a,q,b,c⟩:=pU _ _ _ _ _ hd
  exact ⟨a,.cells q _,by simp,fun r=>(by simp only [mV,b r];rfl),fun f hf=>⟨_,hl,by simp only [fA,c f hf]⟩⟩
 |row t rk=>
  simp only [uf] at hd
  split at hd
  ·split at hd<;>try (cases hd;done)
   rename_i hl
   split at hd<;>try (cases hd;done)
   rename_i hk;subst hk
   split at hd<;>try (cases hd;done)
   rename_i hc
   cases hd
   obtain ⟨e1,e2⟩:=cK hc
   subst e1
   dsimp only at e2
   subst e2
   exact ⟨.rfl' _,_,by simp,fun r=>sD _ _ _ r,fun f hf=>⟨_,hl,rfl⟩⟩
  ·split at hd<;>try (cases hd;done)
   rename_i hk
   cases hd
   exact ⟨.rfl' _,_,by simp,fun r=>sD _ _ _ r,fun f hf=>⟨t,rk,rfl,hk⟩⟩
  ·split at hd<;>try (cases hd;done)
   rename_i hk
   subst hk
   split at hd<;>try (cases hd;done)
   rename_i hl
   cases hd
   exact ⟨.rfl' _,_,by simp,fun r=>sD _ _ _ r,fun f hf=>⟨t,_,_,rfl,hl⟩⟩
  ·cases hd
  ·split at hd<;>try (cases hd;done)
   rename_i hk
   obtain ⟨mW,hfl⟩:=hk
   split at hd<;>try (cases hd;done)
   rename_i hl
   split at hd<;>try (cases hd;done)
   rename_i hlen
   split at hd<;>try (cases hd;done)
   rename_i hN
   cases hd
   exact ⟨.rfl' _,_,by simp,fun r=>sD _ _ _ r,fun f hf=>⟨t,_,_,_,_,rfl,mW,hl,hfl,hN,hlen⟩⟩
 |alias n q=>
  simp only [uf] at hd
  split at hd<;>try (cases hd;done)
  split at hd<;>try (cases hd;done)
  rename_i hl
  split at hd<;>try (cases hd;done)
  ·obtain ⟨a,rfl,b⟩:=dh hd
   exact ⟨a,_,by simp,fun r=>rfl,fun f hf=>⟨_,hl,by simp only [fA,dB (b f hf)]⟩⟩
  ·obtain ⟨a,rfl,b⟩:=dh hd
   exact ⟨a,_,by simp,fun r=>rfl,fun f hf=>⟨_,hl,by simp only [fA,dB (b f hf)]⟩⟩
 |loop busy=>
  simp only [uf] at hd
  split at hd<;>try (cases hd;done)
  split at hd<;>try (cases hd;done)
  rename_i hl
  split at hd<;>try (cases hd;done)
  all_goals
   cases hd
   exact ⟨.rfl' _,_,by simp,fun r=>rfl,fun f hf=>⟨_,hl,rfl⟩⟩
 |de k=>
  simp only [uf] at hd
  split at hd<;>try (cases hd;done)
  split at hd<;>try (cases hd;done)
  rename_i hl
  split at hd<;>try (cases hd;done)
  rename_i hk
  obtain ⟨rfl,hk⟩:=hk
  cases hd
  exact ⟨.rfl' _,_,by simp,fun r=>rfl,fun f hf=>⟨_,hl,by simp only [fA,Dc hf hk,if_true]⟩⟩
 |eZ=>
  simp only [uf] at hd
  split at hd<;>try (cases hd;done)
  split at hd<;>try (cases hd;done)
  rename_i hl
  cases hd
  exact ⟨.rfl' _,_,by simp,fun r=>rfl,fun f hf=>⟨_,hl,rfl⟩⟩
 |map ka va k v=>
  simp only [uf] at hd
  split at hd<;>try (cases hd;done)
  split at hd<;>try (cases hd;done)
  rename_i hl
  split at hd<;>try (cases hd;done)
  rename_i hk
  obtain ⟨rfl,rfl⟩:=hk
  split at hd<;>try (cases hd;done)
  rename_i hc
  cases hd
  obtain ⟨e1,e2⟩:=cK hc
  cases e1
  dsimp only at e2
  subst e2
  exact ⟨.rfl' _,_,by simp,fun r=>L4 _ _ _ _ _ r,fun f hf=>⟨_,hl,rfl⟩⟩
 |mh ka k u c=>
  simp only [uf] at hd
  split at hd<;>try (cases hd;done)
  split at hd<;>try (cases hd;done)
  rename_i hl
  split at hd<;>try (cases hd;done)
  rename_i hk;subst hk
  split at hd<;>try (cases hd;done)
  rename_i hc
  obtain ⟨e1,e2⟩:=cK hc
  cases e1
  dsimp only at e2
  subst e2
  obtain ⟨a,rfl,b⟩:=dh hd
  exact ⟨a,_,by simp,fun r=>L3 _ _ _ _ _ r,fun f hf=>⟨_,hl,by simp only [fA,dB (b f hf)]⟩⟩
 |set n=>
  simp only [uf] at hd
  split at hd<;>try (cases hd;done)
  split at hd<;>try (cases hd;done)
  rename_i hl
  obtain ⟨a,rfl,b⟩:=dh hd
  exact ⟨a,_,by simp,fun r=>rfl,fun f hf=>⟨_,hl,by simp only [fA,dB (b f hf)]⟩⟩
 |gv n c k u=>
  simp only [uf] at hd
  split at hd<;>try (cases hd;done)
  split at hd<;>try (cases hd;done)
  rename_i hl
  split at hd<;>try (cases hd;done)
  rename_i hx hc
  split at hd<;>try (cases hd;done)
  rename_i zm hb
  obtain ⟨e1,e2⟩:=cK hc
  subst e1
  dsimp only at e2
  subst e2
  obtain ⟨e3,e4⟩:=FZ hx
  subst e3
  dsimp only at e4
  subst e4
  obtain ⟨a,rfl,b⟩:=dh hd
  have s1:=(dD hb).1
  exact ⟨s1.trans a,_,by simp,fun r=>N8 _ _ _ _ _ _ r,fun f hf=>⟨_,hl,by simp only [fA,dB (b f hf),dB (gl hb (hf.of a))]⟩⟩
 |rc ps=>
  simp only [uf] at hd
  split at hd<;>try (cases hd;done)
  split at hd<;>try (cases hd;done)
  rename_i hl
  obtain ⟨a,q,b,c⟩:=pU _ _ _ _ _ hd
  exact ⟨a,.rc q,by simp,fun r=>(by simp only [mV,b r]),fun f hf=>⟨_,hl,by simp only [fA,c f hf]⟩⟩
 |dp t c st=>
  simp only [uf] at hd
  split at hd<;>try (cases hd;done)
  split at hd<;>try (cases hd;done)
  rename_i hl
  split at hd<;>try (cases hd;done)
  rename_i hk;subst hk
  split at hd<;>try (cases hd;done)
  rename_i hc
  obtain ⟨e1,e2⟩:=cK hc
  subst e1
  dsimp only at e2
  subst e2
  obtain ⟨a,rfl,b⟩:=dh hd
  exact ⟨a,_,by simp,fun r=>N7 _ _ _ _ _ r,fun f hf=>⟨_,hl,by simp only [fA,dB (b f hf)]⟩⟩
 |nv n c q u=>
  simp only [uf] at hd
  split at hd<;>try (cases hd;done)
  split at hd<;>try (cases hd;done)
  rename_i hl
  split at hd<;>try (cases hd;done)
  rename_i hk
  obtain ⟨rfl,rfl⟩:=hk
  split at hd<;>try (cases hd;done)
  rename_i zm hb
  obtain ⟨a,rfl,b⟩:=dh hd
  have s1:=(dD hb).1
  exact ⟨s1.trans a,_,by simp,fun r=>rfl,fun f hf=>⟨_,hl,by simp only [fA,dB (b f hf),dB (gl hb (hf.of a))]⟩⟩
def PO.OW:PO->Bool
 | .gone=>true
 |_=>false
def C8 (h:List aG):List PO->Nat->oQ->Option (oQ×List DV)
 | [],_,π=>some (π,[])
 |p::ps,n,π=>match p.OW with
  |true=>C8 h ps (n+1) π
  |false=>match π[n]? with
   |some (some s)=>(match uf h p s π with
    |some (zm,d1)=>(match C8 h ps (n+1) zm with|some (Lt,d2)=>some (Lt,d1++d2)|none=>none)
    |none=>none)
   |_=>none
def AI:List PO->List DV->List aG×List DV
 | [],r=>([],r)
 |p::ps,r=>match mV p r with|(c,r)=>match AI ps r with|(cs,r)=>(c::cs,r)
theorem IT {π:List Src} {h:List aG} {s:Src} {o:aG} {ss:List Src} {os:List aG} (ho:o≠ .gone) (h1:zD π h s o) (h2:qH π h ss os):qH π h (s::ss) (o::os):=by
 cases o<;>first|exact absurd rfl ho|exact ⟨h1,h2⟩
theorem ug {h:List aG} : ∀(ps:List PO) (n:Nat) (π gP:oQ) (ds:List DV),C8 h ps n π=some (gP,ds)->
  qT π gP/\ ∃os,(∀r,AI ps (ds++r)=(os,r))/\ ∀f,tX gP f->f.length=n+ps.length->qH f h (f.drop n) os
 | [],n,π,gP,ds,hd=>by
  simp only [C8,Option.some.injEq,Prod.mk.injEq] at hd
  obtain ⟨rfl,rfl⟩:=hd
  refine ⟨.rfl' _,[],fun _=>rfl,fun f _ hl=> ?_⟩
  rw [List.drop_eq_nil_of_le (by simp at hl;omega)];trivial
 |p::ps,n,π,gP,ds,hd=>by
  simp only [C8] at hd
  split at hd
  ·rename_i hg
   cases p<;>simp [PO.OW] at hg
   obtain ⟨a,q,b,c⟩:=ug ps _ _ _ _ hd
   refine ⟨a,.gone::q,fun r=>by simp only [AI,mV,b r],fun f hf hl=> ?_⟩
   rw [List.length_cons] at hl
   rw [List.drop_eq_getElem_cons (by omega)]
   exact c f hf (by omega)
  ·split at hd<;>try (cases hd;done)
   rename_i s hs
   split at hd<;>try (cases hd;done)
   rename_i h1
   split at hd<;>try (cases hd;done)
   rename_i h2
   cases hd
   obtain ⟨a,o,hg,b,c⟩:=LQ h1
   obtain ⟨a',q',b',c'⟩:=ug ps _ _ _ _ h2
   refine ⟨a.trans a',o::q',fun r=>by simp only [AI,List.append_assoc,b,b'],fun f hf hl=> ?_⟩
   rw [List.length_cons] at hl
   have e:=hf.of (a.trans a') n s hs
   rw [List.drop_eq_getElem_cons (by omega)]
   have e2:f[n]'(by omega)=s:=by rw [List.getElem?_eq_getElem (by omega)] at e;exact Option.some.inj e
   rw [e2]
   exact IT hg (c f (hf.of a')) (c' f hf (by omega))
structure qS (gt:List HT) where
 ps:List PV
 po:List PO
 top:Nat:=0
 rH:Option Nat:=none
 gi:List Nat:= []
 ci:List Nat:= []
 vi:List Nat
 ts:List HT
 c:List DV:= []
def Ur:aG->Bool
 | .eZ _=>true
 |_=>false
def Ge:List aG->Nat->Option Nat
 | [],_=>none
 |o::r,n=>match Ur o with|true=>some n|false=>Ge r (n+1)
namespace qS
variable {gt:List HT}
def N (p:qS gt):Nat:=p.gi.length+p.ci.length+p.vi.length
def idx (p:qS gt):List Nat:=p.gi++(p.ci++p.vi)
def QZ:List Nat->Nat->Bool
 |_,0=>true
 |l,n+1=>zA n l&&QZ l n
def ok (p:qS gt):Bool:=QZ p.idx p.N
def TA (p:qS gt) (h:List aG):Option oQ:=
 match p.rH with
 |none=>some ((List.range p.po.length).map fun i=>bif Nat.blt i p.top then some (.same i) else none)
 |some n=>match Ge h 0 with
  |some j=>nJ ((List.range p.po.length).map fun i=>bif Nat.blt i p.top then some (.same i) else none) n (.same j)
  |none=>none
def vm (p:qS gt) (ds:List DV):AS:=match rq p.ps ds with
 |(ts,r)=>match AI p.po r with
  |(os,_)=>⟨ts,os⟩
def fill (p:qS gt) (g:TT gt) (s:TT p.ts):AS:=p.vm (U5 p.idx (Fo gt g++(p.c++Fo p.ts s)) p.N)
def fin (π:oQ):List Src:=π.map fun o=>match o with|some s=>s|none=> .nil
def read (p:qS gt) (st:AS):Option (TT gt×List DV×TT p.ts):=match p.TA st.heap with
 |none=>none
 |some π0=>match Az p.ps st.tmps π0 with
  |none=>none
  |some (zm,d1)=>match C8 st.heap p.po 0 zm with
   |none=>none
   |some (Lt,d2)=>match Nat.beq (d1++d2).length p.N&&iT (sj (fin Lt) (p.vm (d1++d2)).heap) with
    |false=>none
    |true=>match J2 gt (CG p.gi (d1++d2)),J2 p.ts (CG p.vi (d1++d2)) with
     |some g,some s=>some (g,CG p.ci (d1++d2),s)
     |_,_=>none
theorem N9 (π:oQ):tX π (fin π):=fun n s h=>by simp [fin,h]
theorem CY {l:List Nat} : ∀ {n:Nat},QZ l n=true-> ∀j,j<n->j∈l
  |0,_,j,h=>by omega
  | n+1,h,j,hj=>by
    simp only [QZ,Bool.and_eq_true] at h
    rcases Nat.lt_or_ge j n with h1|h1
    · exact CY h.2 j h1
    · have:j=n:=by omega
      subst this;exact GV h.1
where GV {x:Nat} : ∀ {l:List Nat},zA x l=true->x∈l
        | [],h=>by cases h
        | y::r,h=>by
          simp only [zA,Bool.or_eq_true] at h
          rcases h with h|h
          · simp [Nat.eq_of_beq_eq_true h]
          · exact List.mem_cons_of_mem _ (GV h)
theorem NN {p:qS gt} {h:List aG} {π:oQ} (hb:p.TA h=some π):π.length=p.po.length:=by
 unfold TA at hb
 split at hb
 ·cases hb;simp
 ·split at hb
  ·rw [(dD hb).1.len];simp
  ·cases hb
theorem KZ {p:qS gt} (hp:p.ok=true) {st:AS} {g:TT gt} {c:List DV} {s:TT p.ts} (h:p.read st=some (g,c,s)) (hc:c=p.c):s8 st (p.fill g s):=by
 unfold read at h
 split at h<;>try (cases h;done)
 rename_i π0 h0
 split at h<;>try (cases h;done)
 rename_i zm d1 h1
 split at h<;>try (cases h;done)
 rename_i Lt d2 h2
 split at h<;>try (cases h;done)
 rename_i hn
 simp only [Bool.and_eq_true] at hn
 split at h<;>try (cases h;done)
 rename_i g' s' hg hs
 cases h
 have hlen:(d1++d2).length=p.N:=Nat.eq_of_beq_eq_true hn.1
 have key:p.fill g s=p.vm (d1++d2):=by
  unfold fill
  rw [FE _ _ _ hg,FE _ _ _ hs,<- hc]
  have:CG p.gi (d1++d2)++(CG p.ci (d1++d2)++CG p.vi (d1++d2))=CG p.idx (d1++d2):=by simp [CG,idx]
  rw [this,<- hlen,M3 fun j hj=>CY hp j (by omega)]
 rw [key]
 obtain ⟨a,q,b,t⟩:=pV _ _ _ _ _ h1
 obtain ⟨a',q',b',t'⟩:=ug _ _ _ _ _ h2
 have b'':=b' []
 rw [List.append_nil] at b''
 have e:p.vm (d1++d2)=⟨q,q'⟩:=by simp only [vm,b d2,b'']
 refine ⟨fin Lt,?_,?_,?_⟩
 ·rw [e];exact t _ ((N9 _).of a')
 ·rw [e]
  have:=t' (fin Lt) (N9 _) (by simp [fin,a'.len,a.len,NN h0])
  rwa [List.drop_zero] at this
 ·exact hn.2
end qS
end Go.Ev
