/- What a symbolic state says of the machine's memory, and that each operation does what 'opE' says. -/
import Derived.Test.YtfgdjlhilladhaaGreatEvA
import Derived.WalkKit
import Derived.OrdersIn
import Derived.RangeFuncCalls
noncomputable section
set_option linter.unusedSectionVars false
set_option linter.unusedVariables false
set_option linter.unusedSimpArgs false
namespace Go.Ev
open Go.RowKit
def fw (ro:Option Nat):Fence:= {fn:=fun _=>True,depth:=none,alive:=false,round:=ro}
structure mY where
 wr:Nat->Prop
 nw:Nat->Prop:=fun _=>False
instance:CoeFun mY fun _=>Nat->Prop:=⟨mY.wr⟩
def W3:mY:= {wr:=fun _=>False}
structure Fr (aC:mY) (W w:World):Prop where
 os:w.os=W.os
 tape:w.tape=W.tape
 output:w.output=W.output
 size:W.heap.size<=w.heap.size
 block: ∀k,k<W.heap.size-> ¬aC k->w.heap[k]? =W.heap[k]?
def nG (s:Option Addr×Nat):cD->Value
 | .flat v=>v
 | .sl _ l=> .slice s.1 l.length s.2
def aD (t:Ty) (l:List t.T):List cD:=l.flatMap t.aM
def bk (t:Ty) (l:List t.T):List Value:=(aD t l).map aT
def aL (sub:Nat->Option Addr×Nat):Nat->List cD->List Value
 |_,[]=> []
 |q,c::r=>nG (sub q) c::aL sub (q+1) r
def gF (w:World) (ok:Nat->Prop) (s:Option Addr×Nat) (u:Ty) (l:List u.T):Prop:=
 u.flat=true/\ l.length<=s.2/\ ∀i v,(bk u l)[i]? =some v-> ∃a,s.1=some a/\ w.cell? (a.add i)=some v/\ ok a.block
def sK (fz pm:Nat->Prop) (w:World) (o:Loc) (t:Ty) (l:List t.T) (rk:Nat) (sub:Nat->Option Addr×Nat):Prop:=
 (∀i v,(aL sub 0 (aD t l))[i]? =some v-> ∃a,o.base=some a/\ w.cell? (a.add i)=some v/\ (rk=0->fz a.block))/\
 (∀q u l',(aD t l)[q]? =some (.sl u l')->gF w (fun b=>fz b/\ (rk=2->pm b)) (sub q) u l')/\
 (rk=0->o.bR=none)/\
 (rk≠0->(o.bR=none/\ l= []/\ o.cap=0/\ o.base=none)\/ ∃b rest e,o.bR=some b/\ o.base=some ⟨b,0,none⟩/\ w.heap[b]? =some (.cells (aL sub 0 (aD t l)++rest).toArray e (0,0))/\ o.cap*t.size=(aL sub 0 (aD t l)++rest).length/\ o.cap<=9223372036854775807)
def Loc.has (x:Loc) (b:Nat):Prop:=x.bR=some b\/ ∃e∈x.BR,e.bR=some b
@[simp] theorem lW {o:Option Nat} {a:Option Addr} {n c s b:Nat} :Loc.has ⟨o,a,n,c,s,[]⟩ b↔o=some b:=by simp [Loc.has]
theorem Hs {x:Loc} (h:x.bR=none/\ x.BR= []) {b:Nat} : ¬x.has b:=by
 rintro (h1|⟨e,h1,_⟩)
 ·rw [h.1] at h1;cases h1
 ·rw [h.2] at h1;cases h1
theorem Rg {x:Loc} (h:x.BR= []) {b:Nat} :x.has b↔x.bR=some b:=by simp [Loc.has,h]
def LOb (ρ:Env) (Γ:HP) (b:Nat):Prop:= ∃m,(Γ m).isSome=true/\ (ρ m).has b
def HI (Γ:HP) (b:Nat):Prop:= ∃m S,Γ m=some (.bX S)/\ S b
def LO (ρ:Env) (Γ:HP) (b:Nat):Prop:=LOb ρ Γ b\/ HI Γ b
def bS (w:World) (b:Nat):Prop:= ∃cs e f,w.heap[b]? =some (.cells cs e f)
theorem bS.lt {w:World} {b:Nat} (h:bS w b):b<w.heap.size:=by
 obtain ⟨_,_,_,h⟩:=h
 exact (Array.getElem?_eq_some_iff.1 h).1
theorem bS.of {w:World} {a:Addr} {v:Value} (h:w.cell? a=some v):bS w a.block:=by
 unfold World.cell? at h
 split at h
 ·exact ⟨_,_,_,‹_›⟩
 ·cases h
def lV (ρ:Env) (Γ:HP) (w:World) (b:Nat):Prop:=bS w b/\ ¬LO ρ Γ b
def VR (aC:mY) (W:World) (b:Nat):Prop:=W.heap.size<=b\/ aC b\/ aC.nw b
def akF (w:World) (e:Ent):Prop:=(e.bR=none/\ e.vals= []/\ e.cap=0/\ e.base=none/\ e.len=0)\/
 ∃b rest t,e.bR=some b/\ e.base=some ⟨b,0,none⟩/\ w.heap[b]? =some (.cells (e.vals++rest).toArray t (0,0))/\ e.len<=e.cap/\ e.cap*e.es=(e.vals++rest).length/\ e.cap<=9223372036854775807
def alU (k:Ty):Option k.T->k.T->Bool
 |some x,y=>BS k x y
 |none,_=>false
def aiT (ka:Bool) (k u:Ty) (q:Option k.T):List MapEntry->List (k.T×List u.T)->List Ent->Prop
 | [],[],[]=>True
 |e::es,p::l,ns=>e.key=dN ka k p.1/\ (match alU k q p.1 with
  |true=>aiT ka k u q es l ns
  |false=>match ns with
   |n::r=>n.key=⟨k,p.1⟩/\ e.val= .slice n.base n.len n.cap/\ n.vals=bk u p.2/\ n.len=p.2.length/\ n.es=u.size/\ aiT ka k u q es l r
   | []=>False)
 |_,_,_=>False
def dF (fz pm:Nat->Prop) (ρ:Env) (n:Nat):aX->World->Prop
 | .cells cs e,w=> ∃b,(ρ n).bR=some b/\ w.heap[b]? =some (.cells (cs.map (Cell.af ρ)).toArray e (0,0))
 | .row t l rk,w=>(ρ n).len=l.length/\ (ρ n).es=t.size/\ l.length<=(ρ n).cap/\ ∃sub,sK fz pm w (ρ n) t l rk sub
 | .alias m s q,_=>(ρ n).bR=none/\ (ρ n).len=gy (ρ m).len s q/\ (ρ n).es=(ρ m).es/\ (ρ n).len<=(ρ n).cap/\ ((ρ n).len≠0->(ρ n).base=(ρ m).base.map (·.add (s*(ρ m).es)))
 | .gone,_=>False
 | .loop r s j,w=> ∃b,(ρ n).bR=some b/\ w.heap[b]? =some (.loop {r with state:=s,pending:=j})
 | .ji tG n0,_=>(ρ n).bR=none/\ ∀m,m<n0->ρ m=tG m
 | .bX _,_=>(ρ n).bR=none
 | .map ka va k v l,w=>k.flat=true/\ v.flat=true/\ ∃b es QS,(ρ n).bR=some b/\ w.heap[b]? =some (.map es QS)/\ es.toList.map (fun e=>(e.key,e.val))=l.map fun p=>(dN ka k p.1,dN va v p.2)
 | .Om ka k u l c q,w=>k.flat=true/\ u.flat=true/\ (l.map (·.1)).Nodup/\ ∃b es QS,(ρ n).bR=some b/\ w.heap[b]? =some (.map es QS)/\ aiT ka k u q es.toList l (ρ c).BR
 | .set _,w=>(ρ n).bR=none/\ (∀e∈(ρ n).BR,akF w e)/\ (ρ n).BR.Pairwise fun e e'=> ∀b,e.bR=some b->e'.bR≠some b
 | .gv _ c k u x l,_=>(ρ n).bR=none/\ (ρ n).len=l.length/\ (ρ n).es=u.size/\ l.length<=(ρ n).cap/\ u.flat=true/\ ((l= []/\ (ρ n).base=none/\ (ρ n).cap=0)\/ ∃e b,e∈(ρ c).BR/\ e.bR=some b/\ e.key=⟨k,x⟩/\ e.base=(ρ n).base/\ e.base=some ⟨b,0,none⟩/\ e.len=(ρ n).len/\ e.cap=(ρ n).cap/\ e.vals=bk u l/\ e.es=u.size)
 | .rc cs,w=>(ρ n).bR=none/\ ∀i c,cs[i]? =some c-> ∃a,(ρ n).base=some a/\ w.cell? (a.add i)=some (c.af ρ)/\ fz a.block
structure St (aC:mY) (W:World) (ρ:Env) (Kn:Nat->Prop) (Γ:HP) (w:World):Prop where
 fr:Fr aC W w
 at_: ∀n o,Γ n=some o->dF (lV ρ Γ w) (VR aC W) ρ n o w
 kn: ∀n o,Γ n=some o->Kn n/\ o.ok Kn
 qC: ∀n m b,(Γ n).isSome=true->(Γ m).isSome=true->(ρ n).has b->(ρ m).has b->n=m
 yb: ∀n b,(Γ n).isSome=true->(ρ n).has b->W.heap.size<=b\/ aC b
 F5: ∀b,HI Γ b->b<w.heap.size/\ ¬LOb ρ Γ b
 Nl: ∀n o,Γ n=some o->(∃m,o= .set m)\/ (ρ n).BR= []
theorem St.inj {aC:mY} {W:World} {ρ:Env} {Kn:Nat->Prop} {Γ:HP} {w:World} (h:St aC W ρ Kn Γ w) (n m b:Nat) (h1:(Γ n).isSome=true) (h2:(Γ m).isSome=true) (h3:(ρ n).bR=some b) (h4:(ρ m).bR=some b):n=m:=h.qC n m b h1 h2 (.inl h3) (.inl h4)
theorem St.own {aC:mY} {W:World} {ρ:Env} {Kn:Nat->Prop} {Γ:HP} {w:World} (h:St aC W ρ Kn Γ w) (n b:Nat) (h1:(Γ n).isSome=true) (h2:(ρ n).bR=some b):W.heap.size<=b\/ aC b:=h.yb n b h1 (.inl h2)
section
variable {ρ ρ':Env} {Kn SR:Nat->Prop}
theorem pO {n off:Nat} (h:ρ' n=ρ n):addrOf ρ' n off=addrOf ρ n off:=by simp [addrOf,h]
theorem Ref.bZ (h: ∀m,Kn m->ρ' m=ρ m): ∀(r:Ref),r.ok Kn->r.af ρ'=r.af ρ
 | .ext _,_=>rfl
 | .loc _ _,hk=>by simp [Ref.af,pO (h _ hk)]
 | .elem _ _,hk=>by simp [Ref.af,h _ hk]
 | .full _,hk=>by simp [Ref.af,h _ hk]
 | .mp _,hk=>by simp [Ref.af,h _ hk]
theorem Cell.bZ (h: ∀m,Kn m->ρ' m=ρ m): ∀(c:Cell),c.ok Kn->c.af ρ'=c.af ρ
 | .raw _,_=>rfl
 | .ptr _ _,hk=>by simp [Cell.af,pO (h _ hk)]
 | .sl _ _ _ _,hk=>by simp [Cell.af,pO (h _ hk)]
 | .oB _ _,hk=>by simp [Cell.af,pO (h _ hk)]
 | .full _,hk=>by simp [Cell.af,h _ hk]
 | .br _ _ _,hk=>by simp [Cell.af,h _ hk]
 | .gJ _ _ _,hk=>by simp [Cell.af,h _ hk]
 | .ik _ _ cap,hk=>by
  simp only [Cell.af]
  rw [List.map_congr_left fun r hr=>Ref.bZ h r (hk r hr)]
 | .sJ _,hk=>by simp [Cell.af,h _ hk]
 | .mp _,hk=>by simp [Cell.af,h _ hk]
 | .mv _ _ rs,hk=>by
  simp only [Cell.af]
  rw [List.map_congr_left fun r hr=>Ref.bZ h r (hk r hr)]
theorem xm (h: ∀m,Kn m->ρ' m=ρ m) (cs:List Cell) (hk: ∀c∈cs,c.ok Kn):cs.map (Cell.af ρ')=cs.map (Cell.af ρ):=
 List.map_congr_left fun c hc=>Cell.bZ h c (hk c hc)
theorem A0.bZ (h: ∀m,Kn m->ρ' m=ρ m): ∀(a:A0),a.ok Kn->a.af ρ'=a.af ρ
 | .one c,hk=>Cell.bZ h c hk
 | .agg cs,hk=>by simp only [A0.af];rw [xm h cs hk]
theorem AV.bZ (h: ∀m,Kn m->ρ' m=ρ m): ∀(a:AV),a.ok Kn->a.af ρ'=a.af ρ
 | .v a,hk=>A0.bZ h a hk
 | .AH l,hk=>by
  simp only [AV.af]
  rw [List.map_congr_left fun r hr=>A0.bZ h r (hk r hr)]
 | .dead,_=>rfl
theorem Ref.bG (h: ∀m,Kn m->SR m): ∀(r:Ref),r.ok Kn->r.ok SR
 | .ext _,_=>trivial
 | .loc _ _,hk=>h _ hk
 | .elem _ _,hk=>h _ hk
 | .full _,hk=>h _ hk
 | .mp _,hk=>h _ hk
theorem Cell.bG (h: ∀m,Kn m->SR m): ∀(c:Cell),c.ok Kn->c.ok SR
 | .raw _,_=>trivial
 | .ptr _ _,hk=>h _ hk
 | .sl _ _ _ _,hk=>h _ hk
 | .oB _ _,hk=>h _ hk
 | .full _,hk=>h _ hk
 | .br _ _ _,hk=>h _ hk
 | .gJ _ _ _,hk=>h _ hk
 | .ik _ _ _,hk=>fun r hr=>Ref.bG h r (hk r hr)
 | .sJ _,hk=>h _ hk
 | .mp _,hk=>h _ hk
 | .mv _ _ _,hk=>fun r hr=>Ref.bG h r (hk r hr)
theorem A0.bG (h: ∀m,Kn m->SR m): ∀(a:A0),a.ok Kn->a.ok SR
 | .one c,hk=>Cell.bG h c hk
 | .agg _,hk=>fun c hc=>Cell.bG h c (hk c hc)
theorem AV.bG (h: ∀m,Kn m->SR m): ∀(a:AV),a.ok Kn->a.ok SR
 | .v a,hk=>A0.bG h a hk
 | .AH _,hk=>fun a ha=>A0.bG h a (hk a ha)
 | .dead,_=>trivial
theorem aX.bG (h: ∀m,Kn m->SR m): ∀(o:aX),o.ok Kn->o.ok SR
 | .cells _ _,hk=>fun c hc=>Cell.bG h c (hk c hc)
 | .row _ _ _,_=>trivial
 | .alias _ _ _,hk=>h _ hk
 | .gone,_=>trivial
 | .loop _ _ _,_=>trivial
 | .ji _ _,hk=>fun m hm=>h m (hk m hm)
 | .bX _,_=>trivial
 | .map _ _ _ _ _,_=>trivial
 | .Om _ _ _ _ _ _,hk=>h _ hk
 | .set _,hk=>h _ hk
 | .gv _ _ _ _ _ _,hk=>⟨h _ hk.1,h _ hk.2⟩
 | .rc _,hk=>fun c hc=>Cell.bG h c (hk c hc)
end
theorem Jk (l:List Value) (ρ:Env):(l.map Cell.raw).map (Cell.af ρ)=l:=by
 induction l<;>simp_all [Cell.af]
theorem So (l:List Value) (Kn:Nat->Prop): ∀c∈l.map Cell.raw,c.ok Kn:=by
 intro c hc;obtain ⟨v,_,rfl⟩:=List.mem_map.1 hc;trivial
theorem abg (v:Value) (ρ:Env):(aeI v).af ρ=v:=by
 unfold aeI;split
 ·rename_i cs;simp only [A0.af,Jk]
 ·rfl
theorem xZ (v:Value) (ρ:Env):(ofV v).af ρ=v:=abg v ρ
theorem ahy (v:Value) (Kn:Nat->Prop):(aeI v).ok Kn:=by
 unfold aeI;split
 ·exact So _ _
 ·trivial
theorem Gf (v:Value) (Kn:Nat->Prop):(ofV v).ok Kn:=ahy v Kn
theorem Cell.JS {c:Cell} (h:c.one=true) (ρ:Env):(c.af ρ).oneCell'=true:=by
 cases c with
 |raw v=>simp only [Cell.af,Value.oneCell'];cases v<;>simp_all [Cell.one,ya]
 |sJ n=>simp only [Cell.af];split<;>rfl
 |_=>rfl
theorem Cell.V8 {c:Cell} (h:c.one=true) (ρ:Env):(c.af ρ).cells= #[c.af ρ]:=by
 have:=Cell.JS h ρ
 revert this;cases c.af ρ<;>simp [Value.cells,Value.oneCell']
theorem A0.kS {a:A0} {cs:List Cell} (h:a.cells=some cs) (ρ:Env):(a.af ρ).cells=(cs.map (Cell.af ρ)).toArray:=by
 cases a with
 |one c=>
  simp only [A0.cells] at h;split at h<;>simp at h;subst h
  simp only [A0.af];rw [Cell.V8 ‹_›];simp
 |agg l=>simp only [A0.cells,Option.some.injEq] at h;subst h;rfl
theorem AV.kS {a:AV} {cs:List Cell} (h:a.cells=some cs) (ρ:Env):(a.af ρ).cells=(cs.map (Cell.af ρ)).toArray:=by
 cases a with
 |v a=>exact A0.kS h ρ
 |AH l=>simp [AV.cells] at h
 |dead=>simp [AV.cells] at h
theorem AV.CI {a:AV} {cs:List Cell} (h:a.cells=some cs) {Kn:Nat->Prop} (hk:a.ok Kn): ∀c∈cs,c.ok Kn:=by
 cases a with
 |v a=>
  cases a with
  |one c=>simp only [AV.cells,A0.cells] at h;split at h<;>simp at h;subst h;intro c' Wo;simp at Wo;subst Wo;exact hk
  |agg l=>simp only [AV.cells,A0.cells,Option.some.injEq] at h;subst h;exact hk
 |AH l=>simp [AV.cells] at h
 |dead=>simp [AV.cells] at h
theorem rB: ∀(cs:List Cell),qv cs=true-> ∀(ρ:Env),∀v∈cs.map (Cell.af ρ),v.oneCell'=true
 | [],_,_=>by simp
 |c::r,h,ρ=>by
  simp only [qv] at h;split at h
  ·rename_i h1
   intro v hv
   simp only [List.map_cons,List.mem_cons] at hv
   rcases hv with rfl|hv
   ·exact Cell.JS h1 ρ
   ·exact rB r h ρ v hv
  ·cases h
theorem Fr.refl (aC:mY) (W:World):Fr aC W W:=⟨rfl,rfl,rfl,Nat.le_refl _,fun _ _ _=>rfl⟩
theorem Fr.trans {aC:mY} {W w w':World} (h:Fr aC W w) (h':Fr aC w w'):Fr aC W w':=
 ⟨h'.os.trans h.os,h'.tape.trans h.tape,h'.output.trans h.output,Nat.le_trans h.size h'.size,fun k hk hn=>(h'.block k (Nat.lt_of_lt_of_le hk h.size) hn).trans (h.block k hk hn)⟩
theorem Fr.alloc {aC:mY} {W w:World} (h:Fr aC W w) (o:Obj):Fr aC W (w.alloc o):=
 ⟨h.os,h.tape,h.output,by have:=h.size;simp;omega,fun k hk hn=>(Below.heap_alloc w o k (by have:=h.size;omega)).trans (h.block k hk hn)⟩
theorem Fr.drawn {aC:mY} {W w:World} (h:Fr aC W w) (n:Nat):Fr aC W {w with drawn:=n} :=⟨h.os,h.tape,h.output,h.size,h.block⟩
theorem gF.mono {w w':World} {ok ok':Nat->Prop} {s:Option Addr×Nat} {u:Ty} {l:List u.T} (h:gF w ok s u l) (hok: ∀b,ok b->ok' b/\ w'.heap[b]? =w.heap[b]?):gF w' ok' s u l:=by
 refine ⟨h.1,h.2.1,fun i v hv=> ?_⟩
 obtain ⟨a,h1,h2,h3⟩:=h.2.2 i v hv
 obtain ⟨h4,h5⟩:=hok _ h3
 exact ⟨a,h1,by rw [<- h2];exact World.cell?_of_block (by rw [show (a.add i).block=a.block by unfold Addr.add;split<;>rfl];exact h5),h4⟩
theorem jM (a:Addr) (i:Nat):(a.add i).block=a.block:=by unfold Addr.add;split<;>rfl
theorem bM (sub:Nat->Option Addr×Nat): ∀(q:Nat) (cs:List cD),(aL sub q cs).length=cs.length
 |_,[]=>rfl
 |q,c::r=>by simp [aL,bM sub (q+1) r]
theorem aV: ∀(t:Ty) (x:t.T),(t.aM x).length=t.size
 | .int _,_=>rfl
 | .bool,_=>rfl
 | .str,_=>rfl
 | .prod a b,x=>by simp [Ty.aM,Ty.size,aV a,aV b]
 | .sl _,_=>rfl
theorem Ty.size_pos: ∀(t:Ty),0<t.size
 | .int _=>Nat.one_pos
 | .bool=>Nat.one_pos
 | .str=>Nat.one_pos
 | .prod a _=>Nat.lt_of_lt_of_le (Ty.size_pos a) (Nat.le_add_right _ _)
 | .sl _=>Nat.one_pos
theorem bA (t:Ty): ∀(l:List t.T),(aD t l).length=l.length*t.size
 | []=>by simp [aD]
 |x::r=>by
  have:=bA t r
  simp only [aD,List.flatMap_cons,List.length_append,aV,List.length_cons] at this ⊢
  rw [this,Nat.add_mul];omega
theorem sK.keep {fz pm fz' pm':Nat->Prop} {w w':World} {o:Loc} {t:Ty} {l:List t.T} {rk:Nat} {sub:Nat->Option Addr×Nat} (h:sK fz pm w o t l rk sub)
  (hfz: ∀b,fz b->fz' b/\ w'.heap[b]? =w.heap[b]?) (hpm: ∀b,fz b->pm b->pm' b) (hw: ∀b,o.bR=some b->w'.heap[b]? =w.heap[b]?):sK fz' pm' w' o t l rk sub:=by
 obtain ⟨h1,h2,h3,h4⟩:=h
 refine ⟨fun i v hv=> ?_,fun q u l' hq=>(h2 q u l' hq).mono fun b hb=>⟨⟨(hfz b hb.1).1,fun e=>hpm b hb.1 (hb.2 e)⟩,(hfz b hb.1).2⟩,h3,fun e=> ?_⟩
 ·obtain ⟨a,e1,e2,e3⟩:=h1 i v hv
  refine ⟨a,e1,?_,fun e=>(hfz _ (e3 e)).1⟩
  rw [<- e2]
  refine World.cell?_of_block ?_
  rw [jM]
  by_cases e:rk=0
  ·exact (hfz _ (e3 e)).2
  ·rcases h4 e with ⟨_,e4,_⟩|⟨b,rest,e,e4,e5,_⟩
   ·subst e4;simp [aD,aL] at hv
   ·rw [e1] at e5;cases e5;exact hw _ e4
 ·rcases h4 e with h5|⟨b,rest,e,e4,e5,e6,e7⟩
  ·exact .inl h5
  ·exact .inr ⟨b,rest,e,e4,e5,by rw [hw _ e4];exact e6,e7⟩
theorem dj {fz pm fz' pm':Nat->Prop} {ρ ρ':Env} {Kn:Nat->Prop} {n:Nat} {o:aX} {w w':World} (h:dF fz pm ρ n o w) (hρ: ∀m,Kn m->ρ' m=ρ m) (hn:Kn n) (ho:o.ok Kn)
  (hfz: ∀b,fz b->fz' b/\ w'.heap[b]? =w.heap[b]?) (hpm: ∀b,fz b->pm b->pm' b) (hwH: ∀b,(ρ n).has b->w'.heap[b]? =w.heap[b]?):dF fz' pm' ρ' n o w':=by
 have hw: ∀b,(ρ n).bR=some b->w'.heap[b]? =w.heap[b]? :=fun b hb=>hwH b (.inl hb)
 cases o with
 |cells cs e=>
  obtain ⟨b,hb,hh⟩:=h
  exact ⟨b,by rw [hρ n hn,hb],by rw [hw b hb,hh,xm hρ cs ho]⟩
 |row t l rk=>
  obtain ⟨h1,h2,h3,sub,h4⟩:=h
  rw [dF,hρ n hn]
  exact ⟨h1,h2,h3,sub,h4.keep hfz hpm hw⟩
 |alias m s q=>
  have hm:=hρ m ho
  rw [dF,hρ n hn,hm];exact h
 |gone=>exact h.elim
 |loop r s j=>
  obtain ⟨b,hb,hh⟩:=h
  exact ⟨b,by rw [hρ n hn,hb],by rw [hw b hb,hh]⟩
 |ji tG n0=>
  obtain ⟨h1,h2⟩:=h
  exact ⟨by rw [hρ n hn,h1],fun m hm=>by rw [hρ m (ho m hm)];exact h2 m hm⟩
 |bX S=>rw [dF,hρ n hn];exact h
 |map ka va k v l=>
  obtain ⟨h1,h2,b,es,QS,hb,hh,he⟩:=h
  exact ⟨h1,h2,b,es,QS,by rw [hρ n hn,hb],by rw [hw b hb,hh],he⟩
 |Om ka k u l c q=>
  obtain ⟨h1,h2,h3,b,es,QS,hb,hh,he⟩:=h
  exact ⟨h1,h2,h3,b,es,QS,by rw [hρ n hn,hb],by rw [hw b hb,hh],by rw [hρ c ho];exact he⟩
 |set m=>
  obtain ⟨h1,h2,h3⟩:=h
  rw [dF,hρ n hn]
  refine ⟨h1,fun e he=> ?_,h3⟩
  rcases h2 e he with h4|⟨b,rest,t,h4,h5,h6,h7⟩
  ·exact .inl h4
  ·exact .inr ⟨b,rest,t,h4,h5,by rw [hwH b (.inr ⟨e,he,h4⟩)];exact h6,h7⟩
 |gv m c k u x l=>
  rw [dF,hρ n hn,hρ c ho.2];exact h
 |rc cs=>
  rw [dF,hρ n hn]
  refine ⟨h.1,fun i c hc=> ?_⟩
  obtain ⟨a,h1,h2,h3⟩:=h.2 i c hc
  obtain ⟨h4,h5⟩:=hfz _ h3
  exact ⟨a,h1,by rw [Cell.bZ hρ c (ho c (List.mem_of_getElem? hc)),<- h2];exact World.cell?_of_block (by rw [jM];exact h5),h4⟩
theorem KV {fz pm:Nat->Prop} {ρ:Env} {n b:Nat} {o:aX} {w:World} (h:dF fz pm ρ n o w) (hb:(ρ n).bR=some b):b<w.heap.size:=by
 cases o with
 |cells cs e=>
  obtain ⟨b',hb',hh⟩:=h
  rw [hb] at hb';cases hb';exact (Array.getElem?_eq_some_iff.1 hh).1
 |row t l rk=>
  obtain ⟨_,_,_,sub,_,_,h3,h4⟩:=h
  by_cases e:rk=0
  ·rw [h3 e] at hb;cases hb
  ·rcases h4 e with ⟨h5,_⟩|⟨b',rest,e,h5,_,h6,_⟩
   ·rw [h5] at hb;cases hb
   ·rw [hb] at h5;cases h5;exact (Array.getElem?_eq_some_iff.1 h6).1
 |alias m s q=>rw [h.1] at hb;cases hb
 |gone=>exact h.elim
 |loop r s j=>
  obtain ⟨b',hb',hh⟩:=h
  rw [hb] at hb';cases hb';exact (Array.getElem?_eq_some_iff.1 hh).1
 |ji tG n0=>
  obtain ⟨h1,_⟩:=h
  rw [h1] at hb;cases hb
 |bX S=>rw [show (ρ n).bR=none from h] at hb;cases hb
 |map ka va k v l=>
  obtain ⟨_,_,b',es,QS,hb',hh,_⟩:=h
  rw [hb] at hb';cases hb';exact (Array.getElem?_eq_some_iff.1 hh).1
 |Om ka k u l c q=>
  obtain ⟨_,_,_,b',es,QS,hb',hh,_⟩:=h
  rw [hb] at hb';cases hb';exact (Array.getElem?_eq_some_iff.1 hh).1
 |set m=>rw [h.1] at hb;cases hb
 |gv m c k u x l=>rw [h.1] at hb;cases hb
 |rc cs=>rw [h.1] at hb;cases hb
section
variable {aC:mY} {W:World} {ρ:Env} {Kn:Nat->Prop} {Γ:HP} {w:World}
theorem St.ala (h:St aC W ρ Kn Γ w) (n b:Nat) (hn:(Γ n).isSome=true) (hb:(ρ n).has b):(ρ n).bR=some b\/ bS w b:=by
 obtain ⟨o,ho⟩:=Option.isSome_iff_exists.1 hn
 rcases h.Nl n o ho with ⟨m,rfl⟩|he
 ·obtain ⟨h1,h2,_⟩:=h.at_ n _ ho
  rcases hb with hb|⟨e,he,hb⟩
  ·exact .inl hb
  ·rcases h2 e he with ⟨h3,_⟩|⟨b',rest,t,h3,_,h4,_⟩
   ·rw [h3] at hb;cases hb
   ·rw [h3] at hb;cases hb;exact .inr ⟨_,_,_,h4⟩
 ·exact .inl ((Rg he).1 hb)
theorem St.lt (h:St aC W ρ Kn Γ w) (n b:Nat) (hn:(Γ n).isSome=true) (hb:(ρ n).has b):b<w.heap.size:=by
 obtain ⟨o,ho⟩:=Option.isSome_iff_exists.1 hn
 rcases h.Nl n o ho with ⟨m,rfl⟩|he
 ·obtain ⟨h1,h2,_⟩:=h.at_ n _ ho
  rcases hb with hb|⟨e,he,hb⟩
  ·rw [h1] at hb;cases hb
  ·rcases h2 e he with ⟨h3,_⟩|⟨b',rest,t,h3,_,h4,_⟩
   ·rw [h3] at hb;cases hb
   ·rw [h3] at hb;cases hb;exact (Array.getElem?_eq_some_iff.1 h4).1
 ·exact KV (h.at_ n o ho) ((Rg he).1 hb)
theorem KK {w w':World} {b:Nat} (hb:b<w.heap.size) (h:w'.heap[b]? =w.heap[b]?):b<w'.heap.size:=by
 rcases Nat.lt_or_ge b w'.heap.size with h1|h1
 ·exact h1
 ·rw [Array.getElem?_eq_none h1,Array.getElem?_eq_getElem hb] at h;cases h
theorem bS.same {w w':World} {b:Nat} (h:bS w b) (e:w'.heap[b]? =w.heap[b]?):bS w' b:=by
 obtain ⟨cs,t,f,h⟩:=h
 exact ⟨cs,t,f,e.trans h⟩
theorem St.world {w':World} (h:St aC W ρ Kn Γ w) (hf:Fr aC W w') (hw: ∀b,b<w.heap.size->w'.heap[b]? =w.heap[b]?):St aC W ρ Kn Γ w':=
 ⟨hf,fun n o hn=>dj (Kn:=Kn) (h.at_ n o hn) (fun _ _=>rfl) (h.kn n o hn).1 (h.kn n o hn).2 (fun b hb=>⟨⟨hb.1.same (hw b hb.1.lt),hb.2⟩,hw b hb.1.lt⟩) (fun _ _ h=>h) fun b hb=>hw b (h.lt n b (by rw [hn];rfl) hb),h.kn,h.qC,h.yb,fun b hb=>⟨KK (h.F5 b hb).1 (hw b (h.F5 b hb).1),(h.F5 b hb).2⟩,h.Nl⟩
theorem St.drawn (h:St aC W ρ Kn Γ w) (n:Nat):St aC W ρ Kn Γ {w with drawn:=n} :=h.world (h.fr.drawn n) fun _ _=>rfl
def b9 (ρ:Env) (n:Nat) (x:Loc):Env:=fun m=>if m=n then x else ρ m
def eX (Γ:HP) (n:Nat) (o:aX):HP:=fun m=>if m=n then some o else Γ m
def YY (Kn:Nat->Prop) (n:Nat):Nat->Prop:=fun m=>Kn m\/ m=n
theorem pc {nm:Nat} {x:Loc} (hn: ¬Kn nm): ∀m,Kn m->b9 ρ nm x m=ρ m:=fun m hm=>by
 unfold b9;rw [if_neg (by rintro rfl;exact hn hm)]
theorem St.amg {nm:Nat} {x:Loc} {o:aX} {G:List Nat} {AI:HP} {w1:World} (h:St aC W ρ Kn Γ w) (hn: ¬Kn nm) (hf:Fr aC W w1)
  (hw: ∀b,b<w.heap.size-> ¬x.has b->w1.heap[b]? =w.heap[b]?)
  (hb: ∀b,x.has b->(w.heap.size<=b\/ ∃g,g∈G/\ (Γ g).isSome=true/\ (ρ g).has b)/\ (W.heap.size<=b\/ aC b)) (hxe:(∃m,o= .set m)\/ x.BR= [])
  (dw: ∀m p,AI m=some p->(m=nm/\ p=o)\/ (m≠nm/\ m∉G/\ Γ m=some p))
  (hok:o.ok (YY Kn nm)) (hno: ∀S,o≠ .bX S) (bE:(∀b,lV ρ Γ w b->lV (b9 ρ nm x) AI w1 b/\ w1.heap[b]? =w.heap[b]?)->(∀g b,g∈G->(Γ g).isSome=true->(ρ g).has b-> ¬x.has b->bS w b-> ¬HI Γ b->lV (b9 ρ nm x) AI w1 b)->dF (lV (b9 ρ nm x) AI w1) (VR aC W) (b9 ρ nm x) nm o w1):
  St aC W (b9 ρ nm x) (YY Kn nm) AI w1:=by
 have hold:=pc (ρ:=ρ) (x:=x) hn
 have Km:b9 ρ nm x nm=x:=by simp [b9]
 have hkn: ∀n,(Γ n).isSome=true->Kn n:=fun n hs=>by obtain ⟨o,ho⟩:=Option.isSome_iff_exists.1 hs;exact (h.kn n o ho).1
 have hlt: ∀n b,(Γ n).isSome=true->(ρ n).has b->b<w.heap.size:=fun n b hs hb=>h.lt n b hs hb
 have hs: ∀m,(AI m).isSome=true->m=nm\/ (m≠nm/\ m∉G/\ (Γ m).isSome=true):=fun m hm=>by
  obtain ⟨p,hp⟩:=Option.isSome_iff_exists.1 hm
  rcases dw m p hp with ⟨e,_⟩|⟨e1,e2,e3⟩
  ·exact .inl e
  ·exact .inr ⟨e1,e2,by rw [e3];rfl⟩
 have Kj: ∀b,HI AI b->HI Γ b:=fun b ⟨m,S,h1,h2⟩=>by
  rcases dw m _ h1 with ⟨_,e⟩|⟨_,_,e⟩
  ·exact absurd e.symm (hno S)
  ·exact ⟨m,S,e,h2⟩
 have hfree: ∀b,lV ρ Γ w b-> ¬x.has b:=fun b hf hx=>by
  rcases (hb b hx).1 with h1|⟨g,_,h2,h3⟩
  ·exact absurd hf.1.lt (by omega)
  ·exact hf.2 (.inl ⟨g,h2,h3⟩)
 have hfz: ∀b,lV ρ Γ w b->lV (b9 ρ nm x) AI w1 b/\ w1.heap[b]? =w.heap[b]? :=fun b hf=>by
  have e:=hw b hf.1.lt (hfree b hf)
  refine ⟨⟨hf.1.same e,?_⟩,e⟩
  rintro (⟨m,h1,h2⟩|hh)
  ·rcases hs m h1 with rfl|⟨_,_,h5⟩
   ·rw [Km] at h2;exact hfree b hf h2
   ·rw [hold m (hkn m h5)] at h2
    exact hf.2 (.inl ⟨m,h5,h2⟩)
  ·exact hf.2 (.inr (Kj b hh))
 have Tq: ∀g b,g∈G->(Γ g).isSome=true->(ρ g).has b-> ¬x.has b->bS w b-> ¬HI Γ b->lV (b9 ρ nm x) AI w1 b:=fun g b hg h1 h2 hx hl hnh=>by
  refine ⟨hl.same (hw b hl.lt hx),?_⟩
  rintro (⟨m,h3,h4⟩|hh)
  ·rcases hs m h3 with rfl|⟨_,h5,h6⟩
   ·rw [Km] at h4;exact hx h4
   ·rw [hold m (hkn m h6)] at h4
    exact h5 (h.qC m g b h6 h1 h4 h2▸hg)
  ·exact hnh (Kj b hh)
 have ajo: ∀m b,m∉G->(Γ m).isSome=true->(ρ m).has b-> ¬x.has b:=fun m b h1 h2 h3 hx=>by
  rcases (hb b hx).1 with h4|⟨g,h5,h6,h7⟩
  ·exact absurd (hlt m b h2 h3) (by omega)
  ·exact h1 (h.qC m g b h2 h6 h3 h7▸h5)
 have hxh: ∀b,HI Γ b-> ¬x.has b:=fun b hh hx=>by
  obtain ⟨h1,h2⟩:=h.F5 b hh
  rcases (hb b hx).1 with h3|⟨g,_,h4,h5⟩
  ·omega
  ·exact h2 ⟨g,h4,h5⟩
 refine ⟨hf,fun n p hp=> ?_,fun n p hp=> ?_,fun n m b Ng hm1 lX kH=> ?_,fun n b Ng lX=> ?_,fun b hh=> ?_,fun n p hp=> ?_⟩
 rotate_right
 ·rcases dw n p hp with ⟨rfl,rfl⟩|⟨e1,e2,e3⟩
  ·rw [Km];exact hxe
  ·rw [hold n (h.kn n p e3).1];exact h.Nl n p e3
 rotate_right
 ·have hh:=Kj b hh
  obtain ⟨h1,h2⟩:=h.F5 b hh
  refine ⟨KK h1 (hw b h1 (hxh b hh)),?_⟩
  rintro ⟨m,h3,h4⟩
  rcases hs m h3 with rfl|⟨_,_,h6⟩
  ·rw [Km] at h4;exact hxh b hh h4
  ·rw [hold m (hkn m h6)] at h4
   exact h2 ⟨m,h6,h4⟩
 ·rcases dw n p hp with ⟨rfl,rfl⟩|⟨e1,e2,e3⟩
  ·exact bE hfz Tq
  ·have hk:=h.kn n p e3
   exact dj (h.at_ n p e3) hold hk.1 hk.2 hfz (fun _ _ h=>h) fun b hb'=>hw b (h.lt n b (by rw [e3];rfl) hb') (ajo n b e2 (by rw [e3];rfl) hb')
 ·rcases dw n p hp with ⟨rfl,rfl⟩|⟨e1,e2,e3⟩
  ·exact ⟨.inr rfl,hok⟩
  ·have hk:=h.kn n p e3
   exact ⟨.inl hk.1,aX.bG (fun _=> .inl) p hk.2⟩
 ·rcases hs n Ng with rfl|⟨e1,e2,e3⟩
  ·rcases hs m hm1 with rfl|⟨e4,e5,e6⟩
   ·rfl
   ·rw [Km] at lX
    rw [hold m (hkn m e6)] at kH
    exact absurd lX (ajo m b e5 e6 kH)
  ·rw [hold n (hkn n e3)] at lX
   rcases hs m hm1 with rfl|⟨e4,e5,e6⟩
   ·rw [Km] at kH
    exact absurd kH (ajo n b e2 e3 lX)
   ·rw [hold m (hkn m e6)] at kH
    exact h.qC n m b e3 e6 lX kH
 ·rcases hs n Ng with rfl|⟨e1,e2,e3⟩
  ·rw [Km] at lX;exact (hb b lX).2
  ·rw [hold n (hkn n e3)] at lX
   exact h.yb n b e3 lX
theorem St.swap {nm:Nat} {x:Loc} {o:aX} {G:List Nat} {AI:HP} {w1:World} (h:St aC W ρ Kn Γ w) (hn: ¬Kn nm) (hf:Fr aC W w1)
  (hw: ∀b,b<w.heap.size->x.bR≠some b->w1.heap[b]? =w.heap[b]?)
  (hb: ∀b,x.bR=some b->(w.heap.size<=b\/ ∃g,g∈G/\ (Γ g).isSome=true/\ (ρ g).bR=some b)/\ (W.heap.size<=b\/ aC b))
  (dw: ∀m p,AI m=some p->(m=nm/\ p=o)\/ (m≠nm/\ m∉G/\ Γ m=some p))
  (hok:o.ok (YY Kn nm)) (hno: ∀S,o≠ .bX S) (bE:(∀b,lV ρ Γ w b->lV (b9 ρ nm x) AI w1 b/\ w1.heap[b]? =w.heap[b]?)->(∀g b,g∈G->(Γ g).isSome=true->(ρ g).bR=some b->x.bR≠some b->bS w b-> ¬HI Γ b->lV (b9 ρ nm x) AI w1 b)->dF (lV (b9 ρ nm x) AI w1) (VR aC W) (b9 ρ nm x) nm o w1) (he:x.BR= []:=by rfl):
  St aC W (b9 ρ nm x) (YY Kn nm) AI w1:=
 h.amg hn hf (fun b hb hx=>hw b hb fun e=>hx (.inl e)) (fun b hx=>by
  obtain ⟨h1,h2⟩:=hb b ((Rg he).1 hx)
  exact ⟨h1.imp id fun ⟨g,a,c,d⟩=>⟨g,a,c,.inl d⟩,h2⟩) (.inr he) dw hok hno fun h1 h2=>bE h1 fun g b h3 h4 h5 h6 h7 h8=>h2 g b h3 h4 (.inl h5) (fun hx=>h6 ((Rg he).1 hx)) h7 h8
theorem St.alloc {nm:Nat} {cs:List Cell} {e:TypeId} (h:St aC W ρ Kn Γ w) (hn: ¬Kn nm) (hcs: ∀c∈cs,c.ok Kn):
  St aC W (b9 ρ nm {bR:=some w.heap.size}) (YY Kn nm) (eX Γ nm (.cells cs e)) (w.alloc (.cells (cs.map (Cell.af ρ)).toArray e (0,0))):=by
 have hsz:=h.fr.size
 refine h.swap (G:= []) (o:= .cells cs e) hn (h.fr.alloc _) (fun b hb _=>Below.heap_alloc _ _ _ hb) (fun b hb=> ?_) (fun m p hp=> ?_) (fun c hc=>Cell.bG (fun _=> .inl) c (hcs c hc)) (fun _ h=>by cases h) fun _ _=> ?_
 ·cases hb;exact ⟨.inl (Nat.le_refl _),.inl hsz⟩
 ·unfold eX at hp
  split at hp
  ·rename_i e1;cases hp;exact .inl ⟨e1,rfl⟩
  ·rename_i e1;exact .inr ⟨e1,by simp,hp⟩
 ·exact ⟨w.heap.size,by simp [b9],by
   rw [xm (pc hn) cs hcs];show (w.heap.push _)[w.heap.size]? =_;simp⟩
theorem jK {α:Type} : ∀(ys cs:List α) (off:Nat),off+ys.length<=cs.length->setCells cs off ys=cs.take off++ys++cs.drop (off+ys.length)
 | [],cs,off,_=>by simp [setCells]
 |y::r,cs,off,h=>by
  simp only [List.length_cons] at h
  rw [setCells,jK r _ _ (by simp;omega)]
  apply List.ext_getElem?
  intro j
  simp only [List.getElem?_append,List.length_append,List.length_take,List.length_set,List.getElem?_take,List.getElem?_set,List.getElem?_drop,List.length_cons]
  grind
theorem Sy (f:Cell->Value) (ys cs:List Cell) (off:Nat) (h:off+ys.length<=cs.length):
  (setCells cs off ys).map f=(cs.map f).take off++ys.map f++(cs.map f).drop (off+ys.length):=by
 rw [jK ys cs off h];simp
theorem vV {ys cs:List Cell} {off:Nat} (h:off+ys.length<=cs.length) {c:Cell} (hc:c∈setCells cs off ys):c∈cs\/ c∈ys:=by
 rw [jK ys cs off h] at hc
 simp only [List.mem_append] at hc
 rcases hc with (h1|h1)|h1
 ·exact .inl (List.mem_of_mem_take h1)
 ·exact .inr h1
 ·exact .inl (List.mem_of_mem_drop h1)
theorem Fr.setRow {w:World} (h:Fr aC W w) {b:Nat} (hb:W.heap.size<=b\/ aC b) (cs:Array Value):Fr aC W (w.setRow b cs):=
 ⟨h.os,h.tape,h.output,by rw [setRow_size];exact h.size,fun k hk hn=>(setRow_other w b k cs (by rintro rfl;exact hb.elim (fun h=>by omega) hn)).trans (h.block k hk hn)⟩
theorem St.write {n b:Nat} {o o':aX} {cells:Array Value} (h:St aC W ρ Kn Γ w) (hn:Γ n=some o) (hb:(ρ n).bR=some b) (Cx:o'.ok Kn) (hno: ∀S,o'≠ .bX S)
  (bE:(∀b',lV ρ Γ w b'->lV ρ (eX Γ n o') (w.setRow b cells) b'/\ (w.setRow b cells).heap[b']? =w.heap[b']?)->dF (lV ρ (eX Γ n o') (w.setRow b cells)) (VR aC W) ρ n o' (w.setRow b cells)):St aC W ρ Kn (eX Γ n o') (w.setRow b cells):=by
 have hs: ∀m,(eX Γ n o' m).isSome=true->(Γ m).isSome=true:=fun m hm=>by
  unfold eX at hm;split at hm
  ·rename_i e;subst e;simp [hn]
  ·exact hm
 have Kj: ∀b,HI (eX Γ n o') b->HI Γ b:=fun b ⟨m,S,h1,h2⟩=>by
  unfold eX at h1
  split at h1
  ·cases h1;exact absurd rfl (hno S)
  ·exact ⟨m,S,h1,h2⟩
 have hfz: ∀b',lV ρ Γ w b'->lV ρ (eX Γ n o') (w.setRow b cells) b'/\ (w.setRow b cells).heap[b']? =w.heap[b']? :=fun b' hf=>by
  have hne:b'≠b:=by rintro rfl;exact hf.2 (.inl ⟨n,by simp [hn],.inl hb⟩)
  refine ⟨⟨hf.1.same (setRow_other _ _ _ _ hne),?_⟩,setRow_other _ _ _ _ hne⟩
  rintro (⟨m,h1,h2⟩|⟨m,S,h1,h2⟩)
  ·exact hf.2 (.inl ⟨m,hs m h1,h2⟩)
  ·exact hf.2 (.inr (Kj b' ⟨m,S,h1,h2⟩))
 refine ⟨h.fr.setRow (h.own n b (by simp [hn]) hb) _,fun m p hp=> ?_,fun m p hp=> ?_,fun m m' c hm hm' lX kH=>h.qC m m' c (hs m hm) (hs m' hm') lX kH,fun m c hm hc=>h.yb m c (hs m hm) hc,fun c hc=> ?_,fun m p hp=> ?_⟩
 rotate_right
 ·unfold eX at hp
  split at hp
  ·rename_i e;subst e
   rcases h.Nl m o hn with ⟨g,rfl⟩|he
   ·have:=(h.at_ m _ hn).1
    rw [hb] at this;cases this
   ·exact .inr he
  ·exact h.Nl m p hp
 rotate_right
 ·obtain ⟨h1,h2⟩:=h.F5 c (Kj c hc)
  exact ⟨by rw [setRow_size];exact h1,fun ⟨m,h3,h4⟩=>h2 ⟨m,hs m h3,h4⟩⟩
 ·unfold eX at hp;split at hp
  ·rename_i e;subst e;cases hp;exact bE hfz
  ·rename_i e
   refine dj (Kn:=Kn) (h.at_ m p hp) (fun _ _=>rfl) (h.kn m p hp).1 (h.kn m p hp).2 hfz (fun _ _ h=>h) fun c hc=>setRow_other _ _ _ _ ?_
   rintro rfl
   exact e (h.qC m n _ (by simp [hp]) (by simp [hn]) hc (.inl hb))
 ·unfold eX at hp;split at hp
  ·rename_i e;subst e;cases hp;exact ⟨(h.kn m o hn).1,Cx⟩
  ·exact h.kn m p hp
end
def tP (Kn:Nat->Prop) (nm:Nat) (r:Rec):Nat->Prop:=fun m=>Kn m\/ (nm<=m/\ m<nm+r.fresh.length)
def live:Option aX->Option aX
 |some .gone=>none
 |o=>o
def dP:List (Nat×aX)->Nat->Option aX
 | [],_=>none
 |(n,o)::r,m=>match dP r m with
  |some p=>some p
  |none=>if n=m then some o else none
def dO (r:Rec) (nm:Nat) (Γ:HP):HP:=fun m=>if nm<=m/\ m<nm+r.fresh.length then live (r.fresh[m- nm]?) else match dP r.writes m with
 |some o=>live (some o)
 |none=>Γ m
theorem jN (Kn:Nat->Prop) (nm:Nat) (v:AV) (ws:List (Nat×aX)) (tc:List Nat):tP Kn nm {val:=v,writes:=ws,aO:=tc} =Kn:=by
 funext m;simp [tP];omega
theorem Df (Kn:Nat->Prop) (nm:Nat) (v:AV) (o:aX) (tc:List Nat):tP Kn nm {val:=v,fresh:= [o],aO:=tc} =YY Kn nm:=by
 funext m;simp only [tP,YY,List.length_singleton];congr 1;apply propext;omega
theorem CD (Γ:HP) (nm:Nat) (v:AV) (tc:List Nat):dO {val:=v,aO:=tc} nm Γ=Γ:=by
 funext m;simp [dO,dP];omega
theorem ac0 (Γ:HP) (nm:Nat) (v:AV) (cs:List Cell) (e:TypeId) (tc:List Nat):dO {val:=v,fresh:= [.cells cs e],aO:=tc} nm Γ=eX Γ nm (.cells cs e):=by
 funext m;simp only [dO,eX,List.length_singleton,dP]
 by_cases h:m=nm
 ·subst h;simp [live]
 ·have: ¬(nm≤m∧m<nm+1):=by omega
  simp [h,this]
theorem mZ (Γ:HP) (nm n:Nat) (v:AV) (o:aX) (tc:List Nat) (ho:live (some o)=some o):dO {val:=v,writes:= [(n,o)],aO:=tc} nm Γ=eX Γ n o:=by
 funext m;simp only [dO,eX,dP,List.length_nil]
 have: ¬(nm<=m/\ m<nm+0):=by omega
 by_cases h:n=m
 ·subst h;rw [if_neg this];simp [ho]
 ·rw [if_neg this];simp [h,Ne.symm h]
def GU (aC:mY) (W:World) (X:Addr->Value->Prop):Prop:= ∀a v,X a v->a.block<W.heap.size/\ ¬aC a.block/\ W.cell? a=some v
theorem GU.cell {aC:mY} {W w:World} {X:Addr->Value->Prop} (h:GU aC W X) (hf:Fr aC W w) {a:Addr} {v:Value} (hx:X a v):w.cell? a=some v:=by
 obtain ⟨h1,h2,h3⟩:=h a v hx
 rw [<- h3];exact World.cell?_of_block (hf.block _ h1 h2)
section
variable (P:Program) (X:Addr->Value->Prop) (hp:HP) (nm:Nat)
def aS {α:Type} (Ht:(Nat->Prop)->Prop) (f:Env->Sem α) (val:Env->α) (r:Rec):Prop:=
 (∀p∈r.writes,hp p.1≠none)/\ ∀aC W ρ Kn Γ w,GU aC W X->Ht Kn->(∀m∈r.aO,Γ m=hp m)->(∀i,i<r.fresh.length-> ¬Kn (nm+i))->St aC W ρ Kn Γ w->
  ∃ρ' w',(f ρ).run P w= .ok (val ρ') w'/\ (∀m,Kn m->ρ' m=ρ m)/\ r.val.ok (tP Kn nm r)/\ St aC W ρ' (tP Kn nm r) (dO r nm Γ) w'
variable {P X hp nm}
theorem aS.pure {α:Type} {Ht:(Nat->Prop)->Prop} {f:Env->Sem α} {val:Env->α} {v:AV} {tc:List Nat}
  (h: ∀aC W ρ Kn Γ w,GU aC W X->Ht Kn->(∀m∈tc,Γ m=hp m)->St aC W ρ Kn Γ w->(f ρ).run P w= .ok (val ρ) w/\ v.ok Kn):
  aS P X hp nm Ht f val {val:=v,aO:=tc} :=by
 refine ⟨fun p hp=>absurd hp (by simp),?_⟩
 intro aC W ρ Kn Γ w hX hk ht _ hst
 obtain ⟨h1,h2⟩:=h aC W ρ Kn Γ w hX hk ht hst
 exact ⟨ρ,w,h1,fun _ _=>rfl,by rw [jN];exact h2,by rw [jN,CD];exact hst⟩
end
end Go.Ev
