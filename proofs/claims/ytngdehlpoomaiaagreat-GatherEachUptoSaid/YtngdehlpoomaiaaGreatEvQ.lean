/- States as patterns: what is read out of a state, and that the state knows no less than the pattern with these values. -/
import Derived.Test.YtngdehlpoomaiaaGreatEvP
noncomputable section
set_option linter.unusedSectionVars false
set_option linter.unusedVariables false
set_option linter.unusedSimpArgs false
namespace Go.Ev
inductive HT
 |i|b|s|n|v|env|lo|hd
 |l (t:Ty)
 |tv (t:Ty)
@[reducible] def HT.T:HT->Type
 | .i=>Int
 | .b=>Bool
 | .s=>ByteArray
 | .n=>Nat
 | .v=>Value
 | .env=>Env
 | .lo=>Loop
 | .hd=>Nat->Prop
 | .l t=>List t.T
 | .tv t=>t.T
inductive DV
 |i (x:Int)|b (x:Bool)|s (x:ByteArray)|n (x:Nat)|v (x:Value)|env (x:Env)|lo (x:Loop)|hd (x:Nat->Prop)
 |l (t:Ty) (x:List t.T)
 |tv (t:Ty) (x:t.T)
def Jc (t u:Ty) (x:t.T):Option u.T:=if h:t=u then some (h▸x) else none
theorem NI {u' u:Ty} {x:u'.T} {y:u.T} (h:Jc u' u x=some y): ∃e:u'=u,e▸x=y:=by
 unfold Jc at h
 split at h
 ·rename_i e;cases h;exact ⟨e,rfl⟩
 ·cases h
def DV.as:(h:HT)->DV->Option h.T
 | .i,d=>match d with| .i x=>some x|_=>none
 | .b,d=>match d with| .b x=>some x|_=>none
 | .s,d=>match d with| .s x=>some x|_=>none
 | .n,d=>match d with| .n x=>some x|_=>none
 | .v,d=>match d with| .v x=>some x|_=>none
 | .env,d=>match d with| .env x=>some x|_=>none
 | .lo,d=>match d with| .lo x=>some x|_=>none
 | .hd,d=>match d with| .hd x=>some x|_=>none
 | .l t,d=>match d with| .l u x=>ij u t x|_=>none
 | .tv t,d=>match d with| .tv u x=>Jc u t x|_=>none
def DV.of:(h:HT)->h.T->DV
 | .i,x=> .i x
 | .b,x=> .b x
 | .s,x=> .s x
 | .n,x=> .n x
 | .v,x=> .v x
 | .env,x=> .env x
 | .lo,x=> .lo x
 | .hd,x=> .hd x
 | .l t,x=> .l t x
 | .tv t,x=> .tv t x
theorem DV.afG {h:HT} {d:DV} {x:h.T} (e:d.as h=some x):DV.of h x=d:=by
 cases h with
 |l t=>
  cases d<;>simp only [DV.as] at e<;>try (cases e;done)
  rename_i u y
  obtain ⟨e1,e2⟩:=bZ e
  subst e1
  dsimp only at e2
  subst e2
  rfl
 |tv t=>
  cases d<;>simp only [DV.as] at e<;>try (cases e;done)
  rename_i u y
  obtain ⟨e1,e2⟩:=NI e
  subst e1
  dsimp only at e2
  subst e2
  rfl
 |_=>cases d<;>simp only [DV.as] at e<;>first|(cases e;done)|(cases e;rfl)
@[reducible] def TT:List HT->Type
 | []=>Unit
 | [a]=>a.T
 |a::c::r=>a.T×TT (c::r)
def S0:(ts:List HT)->List DV->Option (TT ts)
 | [],ds=>match ds with| []=>some ()|_=>none
 | [a],ds=>match ds with| [d]=>d.as a|_=>none
 |a::c::r,ds=>match ds with
  |d::q=>match d.as a,S0 (c::r) q with|some x,some y=>some (x,y)|_,_=>none
  | []=>none
def Mw:(ts:List HT)->TT ts->List DV
 | [],_=> []
 | [a],x=> [DV.of a x]
 |a::c::r,x=>DV.of a x.1::Mw (c::r) x.2
theorem MX: ∀(ts:List HT) (ds:List DV) (x:TT ts),S0 ts ds=some x->Mw ts x=ds
 | [],ds,x,h=>by
  simp only [S0] at h
  split at h<;>first|rfl|cases h
 | [a],ds,x,h=>by
  simp only [S0] at h
  split at h
  ·simp only [Mw,DV.afG h]
  ·cases h
 |a::c::r,ds,x,h=>by
  simp only [S0] at h
  split at h
  ·split at h
   ·rename_i y z h1 h2
    cases h
    simp only [Mw,DV.afG h1,MX _ _ _ h2]
   ·cases h
  ·cases h
def pick:List Nat->List DV->Nat->DV
 |k::r,v::q,j=>bif Nat.beq k j then v else pick r q j
 |_,_,_=> .n 0
def Is (idx:List Nat) (ds:List DV):List DV:=idx.map fun j=>ds.getD j (.n 0)
def ah3 (idx:List Nat) (vs:List DV) (n:Nat):List DV:=(List.range n).map (pick idx vs)
theorem Pf (f:Nat->DV): ∀(idx:List Nat) (j:Nat),j∈idx->pick idx (idx.map f) j=f j
  | [],_,h=>by cases h
  | k::r,j,h=>by
    simp only [List.map_cons,pick]
    by_cases e:k=j
    · subst e;simp
    · have:Nat.beq k j=false:=by rw [Nat.beq_eq_false_iff_ne];exact e
      rw [this]
      exact Pf f r j ((List.mem_cons.1 h).resolve_left fun h=>e h.symm)
where Nat.beq_eq_false_iff_ne {a b:Nat} :Nat.beq a b=false↔a≠b:=by
        rw [<- Bool.not_eq_true,Nat.beq_eq]
theorem Xm {idx:List Nat} {ds:List DV} (h: ∀j,j<ds.length->j∈idx):ah3 idx (Is idx ds) ds.length=ds:=by
 unfold ah3 Is
 refine List.ext_getElem (by simp) fun i h1 h2=> ?_
 simp only [List.getElem_map,List.getElem_range]
 rw [Pf _ _ _ (h i h2),List.getD_eq_getElem?_getD,List.getElem?_eq_getElem h2];rfl
inductive PR
 |ext
 |loc (n off:Nat)
 |elem (n:Nat)
 |full (n:Nat)
 |mp (n:Nat)
inductive PC
 |i (k:IntKind)
 |b|s|raw
 |ptr (n off:Nat)
 |lZ (n:Nat)
 |sl (n off:Nat)
 |full (n:Nat)
 |cK (n k:Nat)
 |fk (n:Nat)
 |iP (f:FuncId) (nf:Nat) (rs:List PR)
 |Ic (n:Nat)
 |mp (n:Nat)
 |mv (f:FuncId) (agg:Bool) (rs:List PR)
inductive PA
 |one (p:PC)
 |agg (l:List PC)
inductive PV
 |d
 |v (a:PA)
 |nC (l:List PA)
inductive PO
 |gone
 |cells (l:List PC) (e:TypeId)
 |row (t:Ty) (rk:Nat)
 |alias (n:Nat) (q:Bool)
 |loop (busy:Bool)
 |bT (n:Nat)
 |hide
 |map (ka va:Bool) (k v:Ty)
 |Jp (ka:Bool) (k u:Ty) (c:Nat)
 |set (n:Nat)
 |gv (n c:Nat) (k u:Ty)
 |rc (l:List PC)
 |dp (t:Ty) (c:Nat) (st:Bool)
 |nv (n c q:Nat) (u:Ty)
abbrev qE:=List (Option Src)
def Src.eqb:Src->Src->Bool
 | .same a,.same b=>Nat.beq a b
 | .nil,.nil=>true
 | .cells a b,.cells c d=>Nat.beq a c&&Nat.beq b d
 | .mt a b,.mt c d=>Nat.beq a c&&Nat.beq b d
 |_,_=>false
theorem Src.agL {a b:Src} (h:Src.eqb a b=true):a=b:=by
 cases a<;>cases b<;>simp_all [Src.eqb]
def pe (π:qE) (n:Nat) (s:Src):Option qE:=match π[n]? with
 |some none=>some (π.set n (some s))
 |some (some t)=>bif Src.eqb t s then some π else none
 |none=>none
structure tK (π hY:qE):Prop where
 len:hY.length=π.length
 sub: ∀(n:Nat) (s:Src),π[n]? =some (some s)->hY[n]? =some (some s)
theorem tK.rfl' (π:qE):tK π π:=⟨rfl,fun _ _ h=>h⟩
theorem tK.trans {a b c:qE} (h:tK a b) (k:tK b c):tK a c:=⟨k.len.trans h.len,fun n s e=>k.sub n s (h.sub n s e)⟩
def xR (π:qE) (f:List Src):Prop:= ∀(n:Nat) (s:Src),π[n]? =some (some s)->f[n]? =some s
theorem xR.of {π hY:qE} {f:List Src} (h:xR hY f) (k:tK π hY):xR π f:=fun n s e=>h n s (k.sub n s e)
theorem dr {π hY:qE} {n:Nat} {s:Src} (h:pe π n s=some hY):tK π hY/\ hY[n]? =some (some s):=by
 unfold pe at h
 split at h
 ·rename_i hn
  cases h
  have hl:=(List.getElem?_eq_some_iff.1 hn).1
  refine ⟨⟨by simp,fun m t hm=> ?_⟩,by simp [hl]⟩
  rw [List.getElem?_set]
  split
  ·rename_i e;subst e;rw [hn] at hm;cases hm
  ·exact hm
 ·rename_i t hn
  cases hb:Src.eqb t s with
  |true=>
   rw [hb] at h
   cases h
   exact ⟨.rfl' _,by rw [hn,Src.agL hb]⟩
  |false=>rw [hb] at h;cases h
 ·cases h
theorem gy {π hY:qE} {n:Nat} {s:Src} (h:pe π n s=some hY) {f:List Src} (hf:xR hY f):f[n]? =some s:=hf n s (dr h).2
theorem dj {f:List Src} {n m:Nat} (h:f[n]? =some (.same m)):iG f n=some m:=by unfold iG;rw [h]
def lM:List PR->List Ref->qE->Option (qE×List DV)
 | [],qs,π=>match qs with| []=>some (π,[])|_=>none
 |p::ps,qs,π=>match qs with
  | []=>none
  |q::qs=>match p,q with
   | .ext,.ext v=>match lM ps qs π with|some (hY,ds)=>some (hY,.v v::ds)|none=>none
   | .loc n o,.loc m o'=>if o=o' then (match pe π n (.same m) with|some Dv=>lM ps qs Dv|none=>none) else none
   | .elem n,.elem m j=>match pe π n (.same m) with
    |some Dv=>(match lM ps qs Dv with|some (hY,ds)=>some (hY,.n j::ds)|none=>none)
    |none=>none
   | .full n,.full m=>(match pe π n (.same m) with|some Dv=>lM ps qs Dv|none=>none)
   | .mp n,.mp m=>(match pe π n (.same m) with|some Dv=>lM ps qs Dv|none=>none)
   |_,_=>none
def fq:List PR->List DV->List Ref×List DV
 | [],r=>([],r)
 | .ext::ps,r=>match r with| .v x::r=>(match fq ps r with|(q,r)=>(.ext x::q,r))|r=>([],r)
 | .loc n o::ps,r=>match fq ps r with|(q,r)=>(.loc n o::q,r)
 | .elem n::ps,r=>match r with| .n j::r=>(match fq ps r with|(q,r)=>(.elem n j::q,r))|r=>([],r)
 | .full n::ps,r=>match fq ps r with|(q,r)=>(.full n::q,r)
 | .mp n::ps,r=>match fq ps r with|(q,r)=>(.mp n::q,r)
theorem fO: ∀(ps:List PR) (qs:List Ref) (π hY:qE) (ds:List DV),lM ps qs π=some (hY,ds)->
  tK π hY/\ ∃rs,(∀r,fq ps (ds++r)=(rs,r))/\ ∀f,xR hY f->jq f rs=some qs
 | [],qs,π,hY,ds,h=>by
  simp only [lM] at h
  split at h
  ·cases h;exact ⟨.rfl' _,[],fun _=>rfl,fun _ _=>rfl⟩
  ·cases h
 |p::ps,qs,π,hY,ds,h=>by
  simp only [lM] at h
  split at h
  ·cases h
  rename_i q qs
  split at h
  ·split at h
   ·rename_i h1
    cases h
    obtain ⟨a,rs,b,c⟩:=fO ps qs _ _ _ h1
    exact ⟨a,.ext _::rs,fun r=>(by simp only [List.cons_append,fq,b r];rfl),fun f hf=>by simp only [jq,oJ,c f hf]⟩
   ·cases h
  ·split at h
   ·rename_i ho
    subst ho
    split at h
    ·rename_i hb
     obtain ⟨a,rs,b,c⟩:=fO ps qs _ _ _ h
     exact ⟨(dr hb).1.trans a,.loc _ _::rs,fun r=>(by simp only [fq,b r];rfl),fun f hf=>by simp only [jq,oJ,c f hf,dj (gy hb (hf.of a))]⟩
    ·cases h
   ·cases h
  ·split at h
   ·rename_i hb
    split at h
    ·rename_i h1
     cases h
     obtain ⟨a,rs,b,c⟩:=fO ps qs _ _ _ h1
     exact ⟨(dr hb).1.trans a,.elem _ _::rs,fun r=>(by simp only [List.cons_append,fq,b r];rfl),fun f hf=>by simp only [jq,oJ,c f hf,dj (gy hb (hf.of a))]⟩
    ·cases h
   ·cases h
  ·split at h
   ·rename_i hb
    obtain ⟨a,rs,b,c⟩:=fO ps qs _ _ _ h
    exact ⟨(dr hb).1.trans a,.full _::rs,fun r=>(by simp only [fq,b r];rfl),fun f hf=>by simp only [jq,oJ,c f hf,dj (gy hb (hf.of a))]⟩
   ·cases h
  ·split at h
   ·rename_i hb
    obtain ⟨a,rs,b,c⟩:=fO ps qs _ _ _ h
    exact ⟨(dr hb).1.trans a,.mp _::rs,fun r=>(by simp only [fq,b r];rfl),fun f hf=>by simp only [jq,oJ,c f hf,dj (gy hb (hf.of a))]⟩
   ·cases h
  ·cases h
def Vg:Nat->List DV->List Value×List DV
 |0,r=>([],r)
 |n+1,r=>match r with| .v x::r=>(match Vg n r with|(q,r)=>(x::q,r))|r=>([],r)
theorem K9: ∀(l:List Value) (r:List DV),Vg l.length (l.map .v++r)=(l,r)
 | [],r=>rfl
 |v::l,r=>by simp only [List.length_cons,List.map_cons,List.cons_append,Vg,K9 l r]
def tO (π:qE) (n m:Nat) (ds:List DV):Option (qE×List DV):=match pe π n (.same m) with
 |some hY=>some (hY,ds)
 |none=>none
theorem cQ {π hY:qE} {n m:Nat} {ds ds':List DV} (h:tO π n m ds=some (hY,ds')):tK π hY/\ ds'=ds/\ ∀f,xR hY f->f[n]? =some (.same m):=by
 unfold tO at h
 split at h
 ·rename_i hb
  cases h
  exact ⟨(dr hb).1,rfl,fun f hf=>gy hb hf⟩
 ·cases h
def tV (p:PC) (c:Cell) (π:qE):Option (qE×List DV):=match p with
 | .i k=>match c with| .raw (.int k' n)=>if k=k' then some (π,[.i n]) else none|_=>none
 | .b=>match c with| .raw (.bool x)=>some (π,[.b x])|_=>none
 | .s=>match c with| .raw (.string x)=>some (π,[.s x])|_=>none
 | .raw=>match c with| .raw v=>some (π,[.v v])|_=>none
 | .ptr n o=>match c with| .ptr m o'=>if o=o' then tO π n m [] else none|_=>none
 | .lZ n=>match c with| .lZ m o=>tO π n m [.n o]|_=>none
 | .sl n o=>match c with| .sl m o' l cp=>if o=o' then tO π n m [.n l,.n cp] else none|_=>none
 | .full n=>match c with
  | .full m=>tO π n m []
  | .raw (.slice none 0 0)=>(match pe π n .nil with|some hY=>some (hY,[])|none=>none)
  | .sl m off 0 0=>(match pe π n (.mt m off) with|some hY=>some (hY,[])|none=>none)
  | .sl m 0 l cp=>if cp=l then (match pe π n (.cells m l) with|some hY=>some (hY,[])|none=>none) else none
  |_=>none
 | .cK n k=>match c with| .cK m j k'=>if k=k' then tO π n m [.n j] else none|_=>none
 | .fk n=>match c with| .fk m j k=>tO π n m [.n j,.n k]|_=>none
 | .iP f nf rs=>match c with
  | .iP (.func g) first cap=>if g=f/\ first.length=nf then (match lM rs cap π with|some (hY,ds)=>some (hY,first.map .v++ds)|none=>none) else none
  |_=>none
 | .Ic n=>match c with| .Ic m=>tO π n m []|_=>none
 | .mp n=>match c with| .mp m=>tO π n m []|_=>none
 | .mv f a rs=>match c with| .mv g a' qs=>if g=f/\ a'=a then lM rs qs π else none|_=>none
def N9 (p:PC) (r:List DV):Cell×List DV:=match p with
 | .i k=>match r with| .i n::r=>(.raw (.int k n),r)|r=>(.raw undef,r)
 | .b=>match r with| .b n::r=>(.raw (.bool n),r)|r=>(.raw undef,r)
 | .s=>match r with| .s n::r=>(.raw (.string n),r)|r=>(.raw undef,r)
 | .raw=>match r with| .v n::r=>(.raw n,r)|r=>(.raw undef,r)
 | .ptr n o=>(.ptr n o,r)
 | .lZ n=>match r with| .n o::r=>(.lZ n o,r)|r=>(.raw undef,r)
 | .sl n o=>match r with| .n l:: .n c::r=>(.sl n o l c,r)|r=>(.raw undef,r)
 | .full n=>(.full n,r)
 | .cK n k=>match r with| .n j::r=>(.cK n j k,r)|r=>(.raw undef,r)
 | .fk n=>match r with| .n j:: .n k::r=>(.fk n j k,r)|r=>(.raw undef,r)
 | .iP f nf rs=>match Vg nf r with|(fs,r)=>match fq rs r with|(q,r)=>(.iP (.func f) fs q,r)
 | .Ic n=>(.Ic n,r)
 | .mp n=>(.mp n,r)
 | .mv f a rs=>match fq rs r with|(q,r)=>(.mv f a q,r)
theorem Je {p:PC} {c:Cell} {π hY:qE} {ds:List DV} (h:tV p c π=some (hY,ds)):
  tK π hY/\ ∃q,(∀r,N9 p (ds++r)=(q,r))/\ ∀f,xR hY f->jh f q=some c:=by
 cases p with
 |i k=>
  simp only [tV] at h
  split at h<;>try (cases h;done)
  split at h<;>try (cases h;done)
  rename_i e;cases h;subst e
  exact ⟨.rfl' _,_,fun r=>rfl,fun f _=>rfl⟩
 |b=>
  simp only [tV] at h
  split at h<;>try (cases h;done)
  cases h
  exact ⟨.rfl' _,_,fun r=>rfl,fun f _=>rfl⟩
 |s=>
  simp only [tV] at h
  split at h<;>try (cases h;done)
  cases h
  exact ⟨.rfl' _,_,fun r=>rfl,fun f _=>rfl⟩
 |raw=>
  simp only [tV] at h
  split at h<;>try (cases h;done)
  cases h
  exact ⟨.rfl' _,_,fun r=>rfl,fun f _=>rfl⟩
 |ptr n o=>
  simp only [tV] at h
  split at h<;>try (cases h;done)
  split at h<;>try (cases h;done)
  rename_i e;subst e
  obtain ⟨a,rfl,b⟩:=cQ h
  exact ⟨a,_,fun r=>rfl,fun f hf=>by simp only [jh,dj (b f hf)]⟩
 |lZ n=>
  simp only [tV] at h
  split at h<;>try (cases h;done)
  obtain ⟨a,rfl,b⟩:=cQ h
  exact ⟨a,_,fun r=>rfl,fun f hf=>by simp only [jh,dj (b f hf)]⟩
 |sl n o=>
  simp only [tV] at h
  split at h<;>try (cases h;done)
  split at h<;>try (cases h;done)
  rename_i e;subst e
  obtain ⟨a,rfl,b⟩:=cQ h
  exact ⟨a,_,fun r=>rfl,fun f hf=>by simp only [jh,dj (b f hf)]⟩
 |full n=>
  simp only [tV] at h
  split at h
  ·obtain ⟨a,rfl,b⟩:=cQ h
   exact ⟨a,_,fun r=>rfl,fun f hf=>by simp only [jh,b f hf]⟩
  ·split at h
   ·rename_i hb
    cases h
    exact ⟨(dr hb).1,_,fun r=>rfl,fun f hf=>by simp only [jh,gy hb hf]⟩
   ·cases h
  ·split at h
   ·rename_i hb
    cases h
    exact ⟨(dr hb).1,_,fun r=>rfl,fun f hf=>by simp only [jh,gy hb hf]⟩
   ·cases h
  ·split at h<;>try (cases h;done)
   rename_i e;subst e
   split at h
   ·rename_i hb
    cases h
    exact ⟨(dr hb).1,_,fun r=>rfl,fun f hf=>by simp only [jh,gy hb hf]⟩
   ·cases h
  ·cases h
 |cK n k=>
  simp only [tV] at h
  split at h<;>try (cases h;done)
  split at h<;>try (cases h;done)
  rename_i e;subst e
  obtain ⟨a,rfl,b⟩:=cQ h
  exact ⟨a,_,fun r=>rfl,fun f hf=>by simp only [jh,dj (b f hf)]⟩
 |fk n=>
  simp only [tV] at h
  split at h<;>try (cases h;done)
  obtain ⟨a,rfl,b⟩:=cQ h
  exact ⟨a,_,fun r=>rfl,fun f hf=>by simp only [jh,dj (b f hf)]⟩
 |iP f nf rs=>
  simp only [tV] at h
  split at h<;>try (cases h;done)
  split at h<;>try (cases h;done)
  rename_i e
  obtain ⟨rfl,rfl⟩:=e
  split at h<;>try (cases h;done)
  rename_i hr
  cases h
  obtain ⟨a,q,b,c⟩:=fO _ _ _ _ _ hr
  exact ⟨a,.iP (.func _) _ q,fun r=>(by simp only [N9,List.append_assoc,K9,b r];rfl),fun f hf=>by simp only [jh,c f hf]⟩
 |Ic n=>
  simp only [tV] at h
  split at h<;>try (cases h;done)
  obtain ⟨a,rfl,b⟩:=cQ h
  exact ⟨a,_,fun r=>rfl,fun f hf=>by simp only [jh,dj (b f hf)]⟩
 |mp n=>
  simp only [tV] at h
  split at h<;>try (cases h;done)
  obtain ⟨a,rfl,b⟩:=cQ h
  exact ⟨a,_,fun r=>rfl,fun f hf=>by simp only [jh,dj (b f hf)]⟩
 |mv f ag rs=>
  simp only [tV] at h
  split at h<;>try (cases h;done)
  split at h<;>try (cases h;done)
  rename_i e
  obtain ⟨rfl,rfl⟩:=e
  obtain ⟨a,q,b,c⟩:=fO _ _ _ _ _ h
  exact ⟨a,.mv _ _ q,fun r=>(by simp only [N9,b r];rfl),fun f hf=>by simp only [jh,c f hf]⟩
def E9:List PC->List Cell->qE->Option (qE×List DV)
 | [],cs,π=>match cs with| []=>some (π,[])|_=>none
 |p::ps,cs,π=>match cs with
  | []=>none
  |c::cs=>match tV p c π with
   |some (Dv,d1)=>(match E9 ps cs Dv with|some (Vm,d2)=>some (Vm,d1++d2)|none=>none)
   |none=>none
def BF:List PC->List DV->List Cell×List DV
 | [],r=>([],r)
 |p::ps,r=>match N9 p r with|(c,r)=>match BF ps r with|(cs,r)=>(c::cs,r)
theorem rM: ∀(ps:List PC) (cs:List Cell) (π hY:qE) (ds:List DV),E9 ps cs π=some (hY,ds)->
  tK π hY/\ ∃q,(∀r,BF ps (ds++r)=(q,r))/\ ∀f,xR hY f->gX f q=some cs
 | [],cs,π,hY,ds,h=>by
  simp only [E9] at h
  split at h
  ·cases h;exact ⟨.rfl' _,[],fun _=>rfl,fun _ _=>rfl⟩
  ·cases h
 |p::ps,cs,π,hY,ds,h=>by
  simp only [E9] at h
  split at h
  ·cases h
  split at h
  ·rename_i h1
   split at h
   ·rename_i h2
    cases h
    obtain ⟨a,q,b,c⟩:=Je h1
    obtain ⟨a',q',b',c'⟩:=rM ps _ _ _ _ h2
    exact ⟨a.trans a',q::q',fun r=>by simp only [BF,List.append_assoc,b,b'],fun f hf=>by simp only [gX,c f (hf.of a'),c' f hf]⟩
   ·cases h
  ·cases h
def YV (p:PA) (a:A0) (π:qE):Option (qE×List DV):=match p with
 | .one p=>match a with| .one c=>tV p c π|_=>none
 | .agg ps=>match a with| .agg cs=>E9 ps cs π|_=>none
def N8 (p:PA) (r:List DV):A0×List DV:=match p with
 | .one p=>match N9 p r with|(c,r)=>(.one c,r)
 | .agg ps=>match BF ps r with|(c,r)=>(.agg c,r)
theorem Jd {p:PA} {a:A0} {π hY:qE} {ds:List DV} (h:YV p a π=some (hY,ds)):
  tK π hY/\ ∃q,(∀r,N8 p (ds++r)=(q,r))/\ ∀f,xR hY f->IL f q=some a:=by
 cases p with
 |one p=>
  simp only [YV] at h
  split at h<;>try (cases h;done)
  obtain ⟨a,q,b,c⟩:=Je h
  exact ⟨a,.one q,fun r=>by simp only [N8,b r],fun f hf=>by simp only [IL,c f hf]⟩
 |agg ps=>
  simp only [YV] at h
  split at h<;>try (cases h;done)
  obtain ⟨a,q,b,c⟩:=rM _ _ _ _ _ h
  exact ⟨a,.agg q,fun r=>by simp only [N8,b r],fun f hf=>by simp only [IL,c f hf]⟩
def NU:List PA->List A0->qE->Option (qE×List DV)
 | [],cs,π=>match cs with| []=>some (π,[])|_=>none
 |p::ps,cs,π=>match cs with
  | []=>none
  |c::cs=>match YV p c π with
   |some (Dv,d1)=>(match NU ps cs Dv with|some (Vm,d2)=>some (Vm,d1++d2)|none=>none)
   |none=>none
def LZ:List PA->List DV->List A0×List DV
 | [],r=>([],r)
 |p::ps,r=>match N8 p r with|(c,r)=>match LZ ps r with|(cs,r)=>(c::cs,r)
theorem E8: ∀(ps:List PA) (cs:List A0) (π hY:qE) (ds:List DV),NU ps cs π=some (hY,ds)->
  tK π hY/\ ∃q,(∀r,LZ ps (ds++r)=(q,r))/\ ∀f,xR hY f->gp f q=some cs
 | [],cs,π,hY,ds,h=>by
  simp only [NU] at h
  split at h
  ·cases h;exact ⟨.rfl' _,[],fun _=>rfl,fun _ _=>rfl⟩
  ·cases h
 |p::ps,cs,π,hY,ds,h=>by
  simp only [NU] at h
  split at h
  ·cases h
  split at h
  ·rename_i h1
   split at h
   ·rename_i h2
    cases h
    obtain ⟨a,q,b,c⟩:=Jd h1
    obtain ⟨a',q',b',c'⟩:=E8 ps _ _ _ _ h2
    exact ⟨a.trans a',q::q',fun r=>by simp only [LZ,List.append_assoc,b,b'],fun f hf=>by simp only [gp,c f (hf.of a'),c' f hf]⟩
   ·cases h
  ·cases h
def Fa:List PV->List AV->qE->Option (qE×List DV)
 | [],vs,π=>match vs with| []=>some (π,[])|_=>none
 |p::ps,vs,π=>match vs with
  | []=>none
  |x::vs=>match p with
   | .d=>Fa ps vs π
   | .v a=>(match x with
    | .v y=>(match YV a y π with
     |some (Dv,d1)=>(match Fa ps vs Dv with|some (Vm,d2)=>some (Vm,d1++d2)|none=>none)
     |none=>none)
    |_=>none)
   | .nC l=>(match x with
    | .nC m=>(match NU l m π with
     |some (Dv,d1)=>(match Fa ps vs Dv with|some (Vm,d2)=>some (Vm,d1++d2)|none=>none)
     |none=>none)
    |_=>none)
def uj:List PV->List DV->List AV×List DV
 | [],r=>([],r)
 | .d::ps,r=>match uj ps r with|(q,r)=>(.dead::q,r)
 | .v a::ps,r=>match N8 a r with|(x,r)=>match uj ps r with|(q,r)=>(.v x::q,r)
 | .nC l::ps,r=>match LZ l r with|(x,r)=>match uj ps r with|(q,r)=>(.nC x::q,r)
theorem rN: ∀(ps:List PV) (vs:List AV) (π hY:qE) (ds:List DV),Fa ps vs π=some (hY,ds)->
  tK π hY/\ ∃q,(∀r,uj ps (ds++r)=(q,r))/\ ∀f,xR hY f->HE f vs q
 | [],vs,π,hY,ds,h=>by
  simp only [Fa] at h
  split at h
  ·cases h;exact ⟨.rfl' _,[],fun _=>rfl,fun _ _=>trivial⟩
  ·cases h
 |p::ps,vs,π,hY,ds,h=>by
  simp only [Fa] at h
  split at h
  ·cases h
  rename_i x vs
  cases p with
  |d=>
   obtain ⟨a,q,b,c⟩:=rN ps vs _ _ _ h
   exact ⟨a,.dead::q,fun r=>by simp only [uj,b r],fun f hf=>c f hf⟩
  |v pa=>
   dsimp only at h
   split at h<;>try (cases h;done)
   split at h<;>try (cases h;done)
   rename_i h1
   split at h<;>try (cases h;done)
   rename_i h2
   cases h
   obtain ⟨a,q,b,c⟩:=Jd h1
   obtain ⟨a',q',b',c'⟩:=rN ps _ _ _ _ h2
   exact ⟨a.trans a',.v q::q',fun r=>by simp only [uj,List.append_assoc,b,b'],fun f hf=>⟨by simp only [sK,c f (hf.of a')],c' f hf⟩⟩
  |nC l=>
   dsimp only at h
   split at h<;>try (cases h;done)
   split at h<;>try (cases h;done)
   rename_i h1
   split at h<;>try (cases h;done)
   rename_i h2
   cases h
   obtain ⟨a,q,b,c⟩:=E8 _ _ _ _ _ h1
   obtain ⟨a',q',b',c'⟩:=rN ps _ _ _ _ h2
   exact ⟨a.trans a',.nC q::q',fun r=>by simp only [uj,List.append_assoc,b,b'],fun f hf=>⟨by simp only [sK,c f (hf.of a')],c' f hf⟩⟩
def adF (π:qE):Nat->Bool
 |0=>true
 |n+1=>(match π[n]? with|some (some (.same m))=>m==n|_=>false)&&adF π n
theorem Jl {π:qE} {f:List Src} (hf:xR π f): ∀ {n:Nat},adF π n=true->BG f n=true
 |0,_=>rfl
 |n+1,h=>by
  simp only [adF,Bool.and_eq_true] at h
  simp only [BG,Bool.and_eq_true]
  refine ⟨?_,Jl hf h.2⟩
  have h1:=h.1
  split at h1
  ·rename_i m hm
   rw [hf _ _ hm];exact h1
  ·cases h1
def xW (h:List aG) (p:PO) (s:Src) (π:qE):Option (qE×List DV):=match p with
 | .gone=>none
 | .cells ps e=>match s with
  | .same m=>(match aj h m with|some (.cells cs e')=>if e=e' then E9 ps cs π else none|_=>none)
  |_=>none
 | .row t rk=>match s with
  | .same m=>(match aj h m with
   |some (.row u l k)=>if k=rk then (match ij u t l with|some l'=>some (π,[.l t l'])|none=>none) else none
   |_=>none)
  | .nil=>if rk=0 then none else some (π,[.l t []])
  | .mt m _=>if rk=3 then (match aj h m with|some (.cells _ _)=>some (π,[.l t []])|_=>none) else none
  | .any _=>none
  | .cells m len=>if (rk=2\/ rk=3)/\ t.flat=true then (match aj h m with
   |some (.cells cs _)=>if cs.length=len*t.size/\ Nat.ble len 1099511627776=true then (match xU (b9 (fun _=>none) t) len cs with|some (l,[])=>some (π,[.l t l])|_=>none) else none
   |_=>none) else none
 | .alias n q=>match s with
  | .same m=>(match aj h m with
   |some (.alias n' a b)=>(match q,b with
    |false,none=>tO π n n' [.n a]
    |true,some x=>tO π n n' [.n a,.n x]
    |_,_=>none)
   |_=>none)
  |_=>none
 | .loop busy=>match s with
  | .same m=>(match aj h m with
   |some (.loop r s none)=>(match busy,s with
    |false,.ready=>some (π,[.lo r])
    |true,.busy=>some (π,[.lo r])
    |_,_=>none)
   |_=>none)
  |_=>none
 | .bT k=>match s with
  | .same m=>(match aj h m with|some (.bT ρ k')=>if k=k'/\ adF π k=true then some (π,[.env ρ]) else none|_=>none)
  |_=>none
 | .hide=>match s with
  | .same m=>(match aj h m with|some (.hide S)=>some (π,[.hd S])|_=>none)
  |_=>none
 | .map ka va k v=>match s with
  | .same m=>(match aj h m with
   |some (.map ka' va' k' v' l)=>if ka'=ka/\ va'=va then (match ij (.prod k' v') (.prod k v) l with|some l'=>some (π,[.l (.prod k v) l'])|none=>none) else none
   |_=>none)
  |_=>none
 | .Jp ka k u c=>match s with
  | .same m=>(match aj h m with
   |some (.Jp ka' k' u' l c' none)=>if ka'=ka then (match ij (.prod k' (.sl u')) (.prod k (.sl u)) l with|some l'=>tO π c c' [.l (.prod k (.sl u)) l']|none=>none) else none
   |_=>none)
  |_=>none
 | .set n=>match s with
  | .same m=>(match aj h m with|some (.set n')=>tO π n n' []|_=>none)
  |_=>none
 | .gv n c k u=>match s with
  | .same m=>(match aj h m with
   |some (.gv n' c' k' u' x l)=>(match Jc k' k x,ij u' u l with
    |some x',some l'=>(match pe π n (.same n') with|some Dv=>tO Dv c c' [.tv k x',.l u l']|none=>none)
    |_,_=>none)
   |_=>none)
  |_=>none
 | .rc ps=>match s with
  | .same m=>(match aj h m with|some (.rc cs)=>E9 ps cs π|_=>none)
  |_=>none
 | .dp t c st=>match s with
  | .same m=>(match aj h m with
   |some (.dp t' l c' st' kn)=>if st'=st then (match ij t' t l with|some l'=>tO π c c' [.l t l',.b kn]|none=>none) else none
   |_=>none)
  |_=>none
 | .nv n c q u=>match s with
  | .same m=>(match aj h m with
   |some (.nv n' c' j q' u')=>if q'=q/\ u'=u then (match pe π n (.same n') with|some Dv=>tO Dv c c' [.n j]|none=>none) else none
   |_=>none)
  |_=>none
def ot (p:PO) (r:List DV):aG×List DV:=match p with
 | .gone=>(.gone,r)
 | .cells ps e=>match BF ps r with|(cs,r)=>(.cells cs e,r)
 | .row t rk=>match r with|d::r=>(match d.as (.l t) with|some l=>(.row t l rk,r)|none=>(.gone,r))|r=>(.gone,r)
 | .alias n false=>match r with| .n a::r=>(.alias n a none,r)|r=>(.gone,r)
 | .alias n true=>match r with| .n a:: .n b::r=>(.alias n a (some b),r)|r=>(.gone,r)
 | .loop busy=>match r with| .lo l::r=>(.loop l (bif busy then .busy else .ready) none,r)|r=>(.gone,r)
 | .bT k=>match r with| .env ρ::r=>(.bT ρ k,r)|r=>(.gone,r)
 | .hide=>match r with| .hd S::r=>(.hide S,r)|r=>(.gone,r)
 | .map ka va k v=>match r with|d::r=>(match d.as (.l (.prod k v)) with|some l=>(.map ka va k v l,r)|none=>(.gone,r))|r=>(.gone,r)
 | .Jp ka k u c=>match r with|d::r=>(match d.as (.l (.prod k (.sl u))) with|some l=>(.Jp ka k u l c none,r)|none=>(.gone,r))|r=>(.gone,r)
 | .set n=>(.set n,r)
 | .rc ps=>match BF ps r with|(cs,r)=>(.rc cs,r)
 | .dp t c st=>match r with|d:: .b kn::r=>(match d.as (.l t) with|some l=>(.dp t l c st kn,r)|none=>(.gone,r))|r=>(.gone,r)
 | .nv n c q u=>match r with| .n j::r=>(.nv n c j q u,r)|r=>(.gone,r)
 | .gv n c k u=>match r with|d::e::r=>(match d.as (.tv k),e.as (.l u) with|some x,some l=>(.gv n c k u x l,r)|_,_=>(.gone,r))|r=>(.gone,r)
theorem Rf (t:Ty) (x:t.T):Jc t t x=some x:=by unfold Jc;rw [dif_pos rfl]
theorem n8 (t:Ty) (l:List t.T):ij t t l=some l:=by unfold ij;rw [dif_pos rfl]
theorem v9 (t:Ty) (rk:Nat) (l:List t.T) (r:List DV):ot (.row t rk) (.l t l::r)=(.row t l rk,r):=by
 simp only [ot,DV.as,n8]
theorem V2 (ka va:Bool) (k v:Ty) (l:List (k.T×v.T)) (r:List DV):ot (.map ka va k v) (.l (.prod k v) l::r)=(.map ka va k v l,r):=by
 simp only [ot,DV.as,n8]
theorem V1 (ka:Bool) (k u:Ty) (c:Nat) (l:List (k.T×List u.T)) (r:List DV):ot (.Jp ka k u c) (.l (.prod k (.sl u)) l::r)=(.Jp ka k u l c none,r):=by
 simp only [ot,DV.as,n8]
theorem Zf (n c:Nat) (k u:Ty) (x:k.T) (l:List u.T) (r:List DV):ot (.gv n c k u) (.tv k x:: .l u l::r)=(.gv n c k u x l,r):=by
 simp only [ot,DV.as,n8,Rf]
theorem Ze (t:Ty) (c:Nat) (st kn:Bool) (l:List t.T) (r:List DV):ot (.dp t c st) (.l t l:: .b kn::r)=(.dp t l c st kn,r):=by
 simp only [ot,DV.as,n8]
theorem VL {h:List aG} {p:PO} {s:Src} {π hY:qE} {ds:List DV} (hd:xW h p s π=some (hY,ds)):
  tK π hY/\ ∃o,o≠ .gone/\ (∀r,ot p (ds++r)=(o,r))/\ ∀f,xR hY f->DG f h s o:=by
 cases p with
 |gone=>cases hd
 |cells ps e=>
  simp only [xW] at hd
  split at hd<;>try (cases hd;done)
  split at hd<;>try (cases hd;done)
  rename_i hl
  split at hd<;>try (cases hd;done)
  rename_i he;subst he
  obtain ⟨a,q,b,c⟩:=rM _ _ _ _ _ hd
  exact ⟨a,.cells q _,by simp,fun r=>(by simp only [ot,b r];rfl),fun f hf=>⟨_,hl,by simp only [fA,c f hf]⟩⟩
 |row t rk=>
  simp only [xW] at hd
  split at hd
  ·split at hd<;>try (cases hd;done)
   rename_i hl
   split at hd<;>try (cases hd;done)
   rename_i hk;subst hk
   split at hd<;>try (cases hd;done)
   rename_i hc
   cases hd
   obtain ⟨e1,e2⟩:=bZ hc
   subst e1
   dsimp only at e2
   subst e2
   exact ⟨.rfl' _,_,by simp,fun r=>v9 _ _ _ r,fun f hf=>⟨_,hl,rfl⟩⟩
  ·split at hd<;>try (cases hd;done)
   rename_i hk
   cases hd
   exact ⟨.rfl' _,_,by simp,fun r=>v9 _ _ _ r,fun f hf=>⟨t,rk,rfl,hk⟩⟩
  ·split at hd<;>try (cases hd;done)
   rename_i hk
   subst hk
   split at hd<;>try (cases hd;done)
   rename_i hl
   cases hd
   exact ⟨.rfl' _,_,by simp,fun r=>v9 _ _ _ r,fun f hf=>⟨t,_,_,rfl,hl⟩⟩
  ·cases hd
  ·split at hd<;>try (cases hd;done)
   rename_i hk
   obtain ⟨qm,hfl⟩:=hk
   split at hd<;>try (cases hd;done)
   rename_i hl
   split at hd<;>try (cases hd;done)
   rename_i hlen
   split at hd<;>try (cases hd;done)
   rename_i hN
   cases hd
   exact ⟨.rfl' _,_,by simp,fun r=>v9 _ _ _ r,fun f hf=>⟨t,_,_,_,_,rfl,qm,hl,hfl,hN,hlen⟩⟩
 |alias n q=>
  simp only [xW] at hd
  split at hd<;>try (cases hd;done)
  split at hd<;>try (cases hd;done)
  rename_i hl
  split at hd<;>try (cases hd;done)
  ·obtain ⟨a,rfl,b⟩:=cQ hd
   exact ⟨a,_,by simp,fun r=>rfl,fun f hf=>⟨_,hl,by simp only [fA,dj (b f hf)]⟩⟩
  ·obtain ⟨a,rfl,b⟩:=cQ hd
   exact ⟨a,_,by simp,fun r=>rfl,fun f hf=>⟨_,hl,by simp only [fA,dj (b f hf)]⟩⟩
 |loop busy=>
  simp only [xW] at hd
  split at hd<;>try (cases hd;done)
  split at hd<;>try (cases hd;done)
  rename_i hl
  split at hd<;>try (cases hd;done)
  all_goals
   cases hd
   exact ⟨.rfl' _,_,by simp,fun r=>rfl,fun f hf=>⟨_,hl,rfl⟩⟩
 |bT k=>
  simp only [xW] at hd
  split at hd<;>try (cases hd;done)
  split at hd<;>try (cases hd;done)
  rename_i hl
  split at hd<;>try (cases hd;done)
  rename_i hk
  obtain ⟨rfl,hk⟩:=hk
  cases hd
  exact ⟨.rfl' _,_,by simp,fun r=>rfl,fun f hf=>⟨_,hl,by simp only [fA,Jl hf hk,if_true]⟩⟩
 |hide=>
  simp only [xW] at hd
  split at hd<;>try (cases hd;done)
  split at hd<;>try (cases hd;done)
  rename_i hl
  cases hd
  exact ⟨.rfl' _,_,by simp,fun r=>rfl,fun f hf=>⟨_,hl,rfl⟩⟩
 |map ka va k v=>
  simp only [xW] at hd
  split at hd<;>try (cases hd;done)
  split at hd<;>try (cases hd;done)
  rename_i hl
  split at hd<;>try (cases hd;done)
  rename_i hk
  obtain ⟨rfl,rfl⟩:=hk
  split at hd<;>try (cases hd;done)
  rename_i hc
  cases hd
  obtain ⟨e1,e2⟩:=bZ hc
  cases e1
  dsimp only at e2
  subst e2
  exact ⟨.rfl' _,_,by simp,fun r=>V2 _ _ _ _ _ r,fun f hf=>⟨_,hl,rfl⟩⟩
 |Jp ka k u c=>
  simp only [xW] at hd
  split at hd<;>try (cases hd;done)
  split at hd<;>try (cases hd;done)
  rename_i hl
  split at hd<;>try (cases hd;done)
  rename_i hk;subst hk
  split at hd<;>try (cases hd;done)
  rename_i hc
  obtain ⟨e1,e2⟩:=bZ hc
  cases e1
  dsimp only at e2
  subst e2
  obtain ⟨a,rfl,b⟩:=cQ hd
  exact ⟨a,_,by simp,fun r=>V1 _ _ _ _ _ r,fun f hf=>⟨_,hl,by simp only [fA,dj (b f hf)]⟩⟩
 |set n=>
  simp only [xW] at hd
  split at hd<;>try (cases hd;done)
  split at hd<;>try (cases hd;done)
  rename_i hl
  obtain ⟨a,rfl,b⟩:=cQ hd
  exact ⟨a,_,by simp,fun r=>rfl,fun f hf=>⟨_,hl,by simp only [fA,dj (b f hf)]⟩⟩
 |gv n c k u=>
  simp only [xW] at hd
  split at hd<;>try (cases hd;done)
  split at hd<;>try (cases hd;done)
  rename_i hl
  split at hd<;>try (cases hd;done)
  rename_i hx hc
  split at hd<;>try (cases hd;done)
  rename_i Dv hb
  obtain ⟨e1,e2⟩:=bZ hc
  subst e1
  dsimp only at e2
  subst e2
  obtain ⟨e3,e4⟩:=NI hx
  subst e3
  dsimp only at e4
  subst e4
  obtain ⟨a,rfl,b⟩:=cQ hd
  have s1:=(dr hb).1
  exact ⟨s1.trans a,_,by simp,fun r=>Zf _ _ _ _ _ _ r,fun f hf=>⟨_,hl,by simp only [fA,dj (b f hf),dj (gy hb (hf.of a))]⟩⟩
 |rc ps=>
  simp only [xW] at hd
  split at hd<;>try (cases hd;done)
  split at hd<;>try (cases hd;done)
  rename_i hl
  obtain ⟨a,q,b,c⟩:=rM _ _ _ _ _ hd
  exact ⟨a,.rc q,by simp,fun r=>(by simp only [ot,b r]),fun f hf=>⟨_,hl,by simp only [fA,c f hf]⟩⟩
 |dp t c st=>
  simp only [xW] at hd
  split at hd<;>try (cases hd;done)
  split at hd<;>try (cases hd;done)
  rename_i hl
  split at hd<;>try (cases hd;done)
  rename_i hk;subst hk
  split at hd<;>try (cases hd;done)
  rename_i hc
  obtain ⟨e1,e2⟩:=bZ hc
  subst e1
  dsimp only at e2
  subst e2
  obtain ⟨a,rfl,b⟩:=cQ hd
  exact ⟨a,_,by simp,fun r=>Ze _ _ _ _ _ r,fun f hf=>⟨_,hl,by simp only [fA,dj (b f hf)]⟩⟩
 |nv n c q u=>
  simp only [xW] at hd
  split at hd<;>try (cases hd;done)
  split at hd<;>try (cases hd;done)
  rename_i hl
  split at hd<;>try (cases hd;done)
  rename_i hk
  obtain ⟨rfl,rfl⟩:=hk
  split at hd<;>try (cases hd;done)
  rename_i Dv hb
  obtain ⟨a,rfl,b⟩:=cQ hd
  have s1:=(dr hb).1
  exact ⟨s1.trans a,_,by simp,fun r=>rfl,fun f hf=>⟨_,hl,by simp only [fA,dj (b f hf),dj (gy hb (hf.of a))]⟩⟩
def PO.aah:PO->Bool
 | .gone=>true
 |_=>false
def Jg (h:List aG):List PO->Nat->qE->Option (qE×List DV)
 | [],_,π=>some (π,[])
 |p::ps,n,π=>match p.aah with
  |true=>Jg h ps (n+1) π
  |false=>match π[n]? with
   |some (some s)=>(match xW h p s π with
    |some (Dv,d1)=>(match Jg h ps (n+1) Dv with|some (Vm,d2)=>some (Vm,d1++d2)|none=>none)
    |none=>none)
   |_=>none
def Fs:List PO->List DV->List aG×List DV
 | [],r=>([],r)
 |p::ps,r=>match ot p r with|(c,r)=>match Fs ps r with|(cs,r)=>(c::cs,r)
theorem RD {π:List Src} {h:List aG} {s:Src} {o:aG} {ss:List Src} {os:List aG} (ho:o≠ .gone) (h1:DG π h s o) (h2:tf π h ss os):tf π h (s::ss) (o::os):=by
 cases o<;>first|exact absurd rfl ho|exact ⟨h1,h2⟩
theorem xX {h:List aG} : ∀(ps:List PO) (n:Nat) (π hY:qE) (ds:List DV),Jg h ps n π=some (hY,ds)->
  tK π hY/\ ∃os,(∀r,Fs ps (ds++r)=(os,r))/\ ∀f,xR hY f->f.length=n+ps.length->tf f h (f.drop n) os
 | [],n,π,hY,ds,hd=>by
  simp only [Jg,Option.some.injEq,Prod.mk.injEq] at hd
  obtain ⟨rfl,rfl⟩:=hd
  refine ⟨.rfl' _,[],fun _=>rfl,fun f _ hl=> ?_⟩
  rw [List.drop_eq_nil_of_le (by simp at hl;omega)];trivial
 |p::ps,n,π,hY,ds,hd=>by
  simp only [Jg] at hd
  split at hd
  ·rename_i hg
   cases p<;>simp [PO.aah] at hg
   obtain ⟨a,q,b,c⟩:=xX ps _ _ _ _ hd
   refine ⟨a,.gone::q,fun r=>by simp only [Fs,ot,b r],fun f hf hl=> ?_⟩
   rw [List.length_cons] at hl
   rw [List.drop_eq_getElem_cons (by omega)]
   exact c f hf (by omega)
  ·split at hd<;>try (cases hd;done)
   rename_i s hs
   split at hd<;>try (cases hd;done)
   rename_i h1
   split at hd<;>try (cases hd;done)
   rename_i h2
   cases hd
   obtain ⟨a,o,hg,b,c⟩:=VL h1
   obtain ⟨a',q',b',c'⟩:=xX ps _ _ _ _ h2
   refine ⟨a.trans a',o::q',fun r=>by simp only [Fs,List.append_assoc,b,b'],fun f hf hl=> ?_⟩
   rw [List.length_cons] at hl
   have e:=hf.of (a.trans a') n s hs
   rw [List.drop_eq_getElem_cons (by omega)]
   have e2:f[n]'(by omega)=s:=by rw [List.getElem?_eq_getElem (by omega)] at e;exact Option.some.inj e
   rw [e2]
   exact RD hg (c f (hf.of a')) (c' f hf (by omega))
structure tx (gt:List HT) where
 ps:List PV
 po:List PO
 top:Nat:=0
 oX:Option Nat:=none
 gi:List Nat:= []
 ci:List Nat:= []
 vi:List Nat
 ts:List HT
 c:List DV:= []
def ahC:aG->Bool
 | .hide _=>true
 |_=>false
def Oa:List aG->Nat->Option Nat
 | [],_=>none
 |o::r,n=>match ahC o with|true=>some n|false=>Oa r (n+1)
namespace tx
variable {gt:List HT}
def N (p:tx gt):Nat:=p.gi.length+p.ci.length+p.vi.length
def idx (p:tx gt):List Nat:=p.gi++(p.ci++p.vi)
def ac3:List Nat->Nat->Bool
 |_,0=>true
 |l,n+1=>yf n l&&ac3 l n
def ok (p:tx gt):Bool:=ac3 p.idx p.N
def agC (p:tx gt) (h:List aG):Option qE:=
 match p.oX with
 |none=>some ((List.range p.po.length).map fun i=>bif Nat.blt i p.top then some (.same i) else none)
 |some n=>match Oa h 0 with
  |some j=>pe ((List.range p.po.length).map fun i=>bif Nat.blt i p.top then some (.same i) else none) n (.same j)
  |none=>none
def zl (p:tx gt) (ds:List DV):AS:=match uj p.ps ds with
 |(ts,r)=>match Fs p.po r with
  |(os,_)=>⟨ts,os⟩
def fill (p:tx gt) (g:TT gt) (s:TT p.ts):AS:=p.zl (ah3 p.idx (Mw gt g++(p.c++Mw p.ts s)) p.N)
def fin (π:qE):List Src:=π.map fun o=>match o with|some s=>s|none=> .nil
def read (p:tx gt) (st:AS):Option (TT gt×List DV×TT p.ts):=match p.agC st.heap with
 |none=>none
 |some π0=>match Fa p.ps st.tmps π0 with
  |none=>none
  |some (Dv,d1)=>match Jg st.heap p.po 0 Dv with
   |none=>none
   |some (Vm,d2)=>match Nat.beq (d1++d2).length p.N&&dY (vJ (fin Vm) (p.zl (d1++d2)).heap) with
    |false=>none
    |true=>match S0 gt (Is p.gi (d1++d2)),S0 p.ts (Is p.vi (d1++d2)) with
     |some g,some s=>some (g,Is p.ci (d1++d2),s)
     |_,_=>none
theorem Zg (π:qE):xR π (fin π):=fun n s h=>by simp [fin,h]
theorem IX {l:List Nat} : ∀ {n:Nat},ac3 l n=true-> ∀j,j<n->j∈l
  |0,_,j,h=>by omega
  | n+1,h,j,hj=>by
    simp only [ac3,Bool.and_eq_true] at h
    rcases Nat.lt_or_ge j n with h1|h1
    · exact IX h.2 j h1
    · have:j=n:=by omega
      subst this;exact O1 h.1
where O1 {x:Nat} : ∀ {l:List Nat},yf x l=true->x∈l
        | [],h=>by cases h
        | y::r,h=>by
          simp only [yf,Bool.or_eq_true] at h
          rcases h with h|h
          · simp [Nat.eq_of_beq_eq_true h]
          · exact List.mem_cons_of_mem _ (O1 h)
theorem YD {p:tx gt} {h:List aG} {π:qE} (hb:p.agC h=some π):π.length=p.po.length:=by
 unfold agC at hb
 split at hb
 ·cases hb;simp
 ·split at hb
  ·rw [(dr hb).1.len];simp
  ·cases hb
theorem MI {p:tx gt} (hp:p.ok=true) {st:AS} {g:TT gt} {c:List DV} {s:TT p.ts} (h:p.read st=some (g,c,s)) (hc:c=p.c):rF st (p.fill g s):=by
 unfold read at h
 split at h<;>try (cases h;done)
 rename_i π0 h0
 split at h<;>try (cases h;done)
 rename_i Dv d1 h1
 split at h<;>try (cases h;done)
 rename_i Vm d2 h2
 split at h<;>try (cases h;done)
 rename_i hn
 simp only [Bool.and_eq_true] at hn
 split at h<;>try (cases h;done)
 rename_i g' s' hg hs
 cases h
 have hlen:(d1++d2).length=p.N:=Nat.eq_of_beq_eq_true hn.1
 have key:p.fill g s=p.zl (d1++d2):=by
  unfold fill
  rw [MX _ _ _ hg,MX _ _ _ hs,<- hc]
  have:Is p.gi (d1++d2)++(Is p.ci (d1++d2)++Is p.vi (d1++d2))=Is p.idx (d1++d2):=by simp [Is,idx]
  rw [this,<- hlen,Xm fun j hj=>IX hp j (by omega)]
 rw [key]
 obtain ⟨a,q,b,t⟩:=rN _ _ _ _ _ h1
 obtain ⟨a',q',b',t'⟩:=xX _ _ _ _ _ h2
 have b'':=b' []
 rw [List.append_nil] at b''
 have e:p.zl (d1++d2)=⟨q,q'⟩:=by simp only [zl,b d2,b'']
 refine ⟨fin Vm,?_,?_,?_⟩
 ·rw [e];exact t _ ((Zg _).of a')
 ·rw [e]
  have:=t' (fin Vm) (Zg _) (by simp [fin,a'.len,a.len,YD h0])
  rwa [List.drop_zero] at this
 ·exact hn.2
end tx
end Go.Ev
