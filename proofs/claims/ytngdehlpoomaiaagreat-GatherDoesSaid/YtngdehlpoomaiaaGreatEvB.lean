/- What a symbolic state says of the machine's memory, and that each operation does what 'opE' says. -/
import Derived.Test.YtngdehlpoomaiaaGreatEvA
import Derived.WalkKit
import Derived.OrdersIn
import Derived.RangeFuncCalls
noncomputable section
set_option linter.unusedSectionVars false
set_option linter.unusedVariables false
set_option linter.unusedSimpArgs false
namespace Go.Ev
open Go.RowKit
def fw (ro:Option Nat):Fence:= {fn:=fun _=>True,depth:=none,alive:=false,round:=ro}
structure fG where
 wr:Nat->Prop
 nw:Nat->Prop:=fun _=>False
 bd:List Deferred:= []
instance:CoeFun fG fun _=>Nat->Prop:=⟨fG.wr⟩
def A6:fG:= {wr:=fun _=>False}
structure Fr (av:fG) (W w:World):Prop where
 os:w.os=W.os
 tape:w.tape=W.tape
 output:w.output=W.output
 size:W.heap.size<=w.heap.size
 block: ∀k,k<W.heap.size-> ¬av k->w.heap[k]? =W.heap[k]?
 Pd:W.drawn<=w.drawn
def nt (s:Option Addr×Nat):cw->Value
 | .flat v=>v
 | .sl _ l=> .slice s.1 l.length s.2
def ay (t:Ty) (l:List t.T):List cw:=l.flatMap t.aU
def bf (t:Ty) (l:List t.T):List Value:=(ay t l).map bJ
def aJ (sub:Nat->Option Addr×Nat):Nat->List cw->List Value
 |_,[]=> []
 |q,c::r=>nt (sub q) c::aJ sub (q+1) r
def fH (w:World) (ok:Nat->Prop) (s:Option Addr×Nat) (u:Ty) (l:List u.T):Prop:=
 u.flat=true/\ l.length<=s.2/\ ∀i v,(bf u l)[i]? =some v-> ∃a,s.1=some a/\ w.cell? (a.add i)=some v/\ ok a.block
def jk (w:World) (o:Loc) (rk n s:Nat) (vals:List Value):Prop:=
 (o.blk=none/\ n=0/\ o.cap=0/\ (rk≠3->o.base=none))\/ ∃b pre rest e,o.blk=some b/\ o.base=some ⟨b,pre.length,none⟩/\ w.heap[b]? =some (.cells (pre++(vals++rest)).toArray e (0,0))/\ o.cap*s=(vals++rest).length/\ o.cap<=9223372036854775807/\ (rk≠3->pre= [])
theorem jk.old {w:World} {o:Loc} {rk s:Nat} {vals:List Value} {α:Type} {l:List α} (h:jk w o rk l.length s vals) (h3:rk≠3):(o.blk=none/\ l= []/\ o.cap=0/\ o.base=none)\/ ∃b rest e,o.blk=some b/\ o.base=some ⟨b,0,none⟩/\ w.heap[b]? =some (.cells (vals++rest).toArray e (0,0))/\ o.cap*s=(vals++rest).length/\ o.cap<=9223372036854775807:=by
 rcases h with ⟨h1,h2,h3',h4⟩|⟨b,pre,rest,e,h1,h2,h4,h5,h6,h7⟩
 ·exact .inl ⟨h1,List.eq_nil_of_length_eq_zero h2,h3',h4 h3⟩
 ·have:=h7 h3
  subst this
  exact .inr ⟨b,rest,e,h1,h2,h4,h5,h6⟩
theorem jk.new {w:World} {o:Loc} {rk s:Nat} {vals:List Value} {α:Type} {l:List α} (h:(o.blk=none/\ l= []/\ o.cap=0/\ o.base=none)\/ ∃b rest e,o.blk=some b/\ o.base=some ⟨b,0,none⟩/\ w.heap[b]? =some (.cells (vals++rest).toArray e (0,0))/\ o.cap*s=(vals++rest).length/\ o.cap<=9223372036854775807):jk w o rk l.length s vals:=by
 rcases h with ⟨h1,h2,h3,h4⟩|⟨b,rest,e,h1,h2,h3,h4,h5⟩
 ·exact .inl ⟨h1,by rw [h2];rfl,h3,fun _=>h4⟩
 ·exact .inr ⟨b,[],rest,e,h1,h2,h3,h4,h5,fun _=>rfl⟩
theorem jk.any {w:World} {o:Loc} {rk n s:Nat} {vals:List Value} (h:jk w o rk n s vals):jk w o 3 n s vals:=by
 rcases h with ⟨h1,h2,h3,h4⟩|⟨b,pre,rest,e,h1,h2,h3,h4,h5,h6⟩
 ·exact .inl ⟨h1,h2,h3,fun q=>absurd rfl q⟩
 ·exact .inr ⟨b,pre,rest,e,h1,h2,h3,h4,h5,fun q=>absurd rfl q⟩
theorem jk.keep {w w':World} {o:Loc} {rk n s:Nat} {vals:List Value} (h:jk w o rk n s vals) (hw: ∀b,o.blk=some b->w'.heap[b]? =w.heap[b]?):jk w' o rk n s vals:=by
 rcases h with h|⟨b,pre,rest,e,h1,h2,h3,h4⟩
 ·exact .inl h
 ·exact .inr ⟨b,pre,rest,e,h1,h2,by rw [hw _ h1];exact h3,h4⟩
def Stp (es:Array MapEntry) (pB:Nat):Prop:=(∀x∈es.toList,x.born<pB)/\ (es.toList.map (·.born)).Nodup
def YG (w:World) (b:Nat):Prop:= ∀cs e f,w.heap[b]? =some (.cells cs e f)->f=(0,0)
theorem YG.same {w w':World} {b:Nat} (h:YG w b) (e:w'.heap[b]? =w.heap[b]?):YG w' b:=fun cs t f hb=>h cs t f (e▸hb)
theorem YG.of {w:World} {b:Nat} {cs:Array Value} {e:TypeId} (h:w.heap[b]? =some (.cells cs e (0,0))):YG w b:=fun cs' e' f hb=>by rw [h] at hb;cases hb;rfl
def sI (fz pm:Nat->Prop) (w:World) (o:Loc) (t:Ty) (l:List t.T) (rk:Nat) (sub:Nat->Option Addr×Nat):Prop:=
 (∀i v,(aJ sub 0 (ay t l))[i]? =some v-> ∃a,o.base=some a/\ w.cell? (a.add i)=some v/\ (rk=0->fz a.block))/\
 (∀q u l',(ay t l)[q]? =some (.sl u l')->fH w (fun b=>fz b/\ (rk=2->pm b/\ YG w b)) (sub q) u l')/\
 (rk=0->o.blk=none)/\
 (rk≠0->jk w o rk l.length t.size (aJ sub 0 (ay t l)))
def Loc.has (x:Loc) (b:Nat):Prop:=x.blk=some b\/ ∃e∈x.jq,e.blk=some b
@[simp] theorem j6 {o:Option Nat} {a:Option Addr} {n c s b:Nat} :Loc.has ⟨o,a,n,c,s,[]⟩ b↔o=some b:=by simp [Loc.has]
theorem ot {x:Loc} (h:x.blk=none/\ x.jq= []) {b:Nat} : ¬x.has b:=by
 rintro (h1|⟨e,h1,_⟩)
 ·rw [h.1] at h1;cases h1
 ·rw [h.2] at h1;cases h1
theorem Lm {x:Loc} (h:x.jq= []) {b:Nat} :x.has b↔x.blk=some b:=by simp [Loc.has,h]
def LOb (ρ:Env) (Γ:HP) (b:Nat):Prop:= ∃m,(Γ m).isSome=true/\ (ρ m).has b
def HI (Γ:HP) (b:Nat):Prop:= ∃m S,Γ m=some (.hide S)/\ S b
def LO (ρ:Env) (Γ:HP) (b:Nat):Prop:=LOb ρ Γ b\/ HI Γ b
def bj (w:World) (b:Nat):Prop:= ∃cs e f,w.heap[b]? =some (.cells cs e f)
theorem bj.lt {w:World} {b:Nat} (h:bj w b):b<w.heap.size:=by
 obtain ⟨_,_,_,h⟩:=h
 exact (Array.getElem?_eq_some_iff.1 h).1
theorem bj.of {w:World} {a:Addr} {v:Value} (h:w.cell? a=some v):bj w a.block:=by
 unfold World.cell? at h
 split at h
 ·exact ⟨_,_,_,‹_›⟩
 ·cases h
def dV (ρ:Env) (Γ:HP) (w:World) (b:Nat):Prop:=bj w b/\ ¬LO ρ Γ b
def uk (av:fG) (W:World) (b:Nat):Prop:=W.heap.size<=b\/ av b\/ av.nw b
def agz (w:World) (e:Ent):Prop:=(e.blk=none/\ e.vals= []/\ e.cap=0/\ e.base=none/\ e.len=0)\/
 ∃b rest t,e.blk=some b/\ e.base=some ⟨b,0,none⟩/\ w.heap[b]? =some (.cells (e.vals++rest).toArray t (0,0))/\ e.len<=e.cap/\ e.cap*e.es=(e.vals++rest).length/\ e.cap<=9223372036854775807
def asH (k:Ty):Option k.T->k.T->Bool
 |some x,y=>eqT k x y
 |none,_=>false
def alm (ka:Bool) (k u:Ty) (q:Option k.T):List MapEntry->List (k.T×List u.T)->List Ent->Prop
 | [],[],[]=>True
 |e::es,p::l,ns=>e.key=anI ka k p.1/\ (match asH k q p.1 with
  |true=>alm ka k u q es l ns
  |false=>match ns with
   |n::r=>n.key=⟨k,p.1⟩/\ e.val= .slice n.base n.len n.cap/\ n.vals=bf u p.2/\ n.len=p.2.length/\ n.es=u.size/\ alm ka k u q es l r
   | []=>False)
 |_,_,_=>False
def K8 (es:List Ent) (a:Addr) (v:Value):Prop:= ∃e b off,e∈es/\ a=⟨b,off,none⟩/\ e.blk=some b/\ e.vals[off]? =some v
def bp (fz pm:Nat->Prop) (ρ:Env) (n:Nat):aD->World->Prop
 | .cells cs e,w=> ∃b,(ρ n).blk=some b/\ w.heap[b]? =some (.cells (cs.map (Cell.ae ρ)).toArray e (0,0))
 | .row t l rk,w=>(ρ n).len=l.length/\ (ρ n).es=t.size/\ l.length<=(ρ n).cap/\ ∃sub,sI fz pm w (ρ n) t l rk sub
 | .alias m s q,_=>(ρ n).blk=none/\ (ρ n).len=fT (ρ m).len s q/\ (ρ n).es=(ρ m).es/\ (ρ n).len<=(ρ n).cap/\ ((ρ n).len≠0->(ρ n).base=(ρ m).base.map (·.add (s*(ρ m).es)))
 | .gone,_=>False
 | .loop r s j,w=> ∃b,(ρ n).blk=some b/\ w.heap[b]? =some (.loop {r with state:=s,pending:=j})
 | .cg aW n0,_=>(ρ n).blk=none/\ ∀m,m<n0->ρ m=aW m
 | .hide _,_=>(ρ n).blk=none
 | .map ka va k v l,w=>k.flat=true/\ v.flat=true/\ ∃b es pB,(ρ n).blk=some b/\ w.heap[b]? =some (.map es pB)/\ es.toList.map (fun e=>(e.key,e.val))=l.map fun p=>(anI ka k p.1,anI va v p.2)
 | .Pp ka k u l c q,w=>k.flat=true/\ u.flat=true/\ (l.map (·.1)).Nodup/\ ∃b es pB,(ρ n).blk=some b/\ w.heap[b]? =some (.map es pB)/\ alm ka k u q es.toList l (ρ c).jq/\ Stp es pB
 | .set _,w=>(ρ n).blk=none/\ (∀e∈(ρ n).jq,agz w e)/\ (ρ n).jq.Pairwise fun e e'=> ∀b,e.blk=some b->e'.blk≠some b
 | .gv _ c k u x l,_=>(ρ n).blk=none/\ (ρ n).len=l.length/\ (ρ n).es=u.size/\ l.length<=(ρ n).cap/\ u.flat=true/\ ((l= []/\ (ρ n).base=none/\ (ρ n).cap=0)\/ ∃e b,e∈(ρ c).jq/\ e.blk=some b/\ e.key=⟨k,x⟩/\ e.base=(ρ n).base/\ e.base=some ⟨b,0,none⟩/\ e.len=(ρ n).len/\ e.cap=(ρ n).cap/\ e.vals=bf u l/\ e.es=u.size)
 | .rc cs,w=>(ρ n).blk=none/\ ∀i c,cs[i]? =some c-> ∃a,(ρ n).base=some a/\ w.cell? (a.add i)=some (c.ae ρ)/\ fz a.block
 | .hmap es pB,w=> ∃b,(ρ n).blk=some b/\ w.heap[b]? =some (.map es pB)
 | .dp t l c _ kn,_=>(ρ n).blk=none/\ (ρ n).len=l.length/\ (ρ n).es=t.size/\ l.length<=(ρ n).cap/\ ∃sub rb,(l≠ []->(ρ n).base=some ⟨rb,0,none⟩)/\ (∀i v,(aJ sub 0 (ay t l))[i]? =some v->K8 (ρ c).jq ⟨rb,i,none⟩ v)/\
   ∀q u l',(ay t l)[q]? =some (.sl u l')->u.flat=true/\ l'.length<=(sub q).2/\ ∀i v,(bf u l')[i]? =some v-> ∃a v',(sub q).1=some a/\ a.block≠rb/\ K8 (ρ c).jq (a.add i) v'/\ (kn=true->v'=v)
 | .nv m c j q u,_=>(ρ n).blk=none/\ (ρ n).es=u.size/\ ∃a,(ρ m).base=some a/\ K8 (ρ c).jq (a.add (j*(ρ m).es+q)) (.slice (ρ n).base (ρ n).len (ρ n).cap)
 | .V2 m c es pB ka k u l cur,w=>k.flat=true/\ u.flat=true/\ Stp es pB/\ ∃b since seen c0,(ρ n).blk=some b/\ w.heap[b]? =some (.mapIter (ρ m).blk since seen c0)/\ (ρ m).blk≠none/\ (∀x∈es.toList,x.born<since)/\ since<=c0/\ since<=pB/\
   alm ka k u none (es.toList.filter fun e=> !seen.contains e.born) l (ρ c).jq/\
   ∀p,cur=some p->c0=pB/\ ∃(seen':Array Nat) (e:MapEntry),seen=seen'.push e.born/\ e∈es.toList/\ e.key=anI ka k p.1/\ e.val= .slice (ρ p.2).base (ρ p.2).len (ρ p.2).cap
structure St (av:fG) (W:World) (ρ:Env) (Kn:Nat->Prop) (Γ:HP) (w:World):Prop where
 fr:Fr av W w
 at_: ∀n o,Γ n=some o->bp (dV ρ Γ w) (uk av W) ρ n o w
 kn: ∀n o,Γ n=some o->Kn n/\ o.ok Kn
 dU: ∀n m b,(Γ n).isSome=true->(Γ m).isSome=true->(ρ n).has b->(ρ m).has b->n=m
 lC: ∀n b,(Γ n).isSome=true->(ρ n).has b->W.heap.size<=b\/ av b
 ru: ∀b,HI Γ b->b<w.heap.size/\ ¬LOb ρ Γ b
 wK: ∀n o,Γ n=some o->(∃m,o= .set m)\/ (ρ n).jq= []
theorem St.inj {av:fG} {W:World} {ρ:Env} {Kn:Nat->Prop} {Γ:HP} {w:World} (h:St av W ρ Kn Γ w) (n m b:Nat) (h1:(Γ n).isSome=true) (h2:(Γ m).isSome=true) (h3:(ρ n).blk=some b) (h4:(ρ m).blk=some b):n=m:=h.dU n m b h1 h2 (.inl h3) (.inl h4)
theorem St.own {av:fG} {W:World} {ρ:Env} {Kn:Nat->Prop} {Γ:HP} {w:World} (h:St av W ρ Kn Γ w) (n b:Nat) (h1:(Γ n).isSome=true) (h2:(ρ n).blk=some b):W.heap.size<=b\/ av b:=h.lC n b h1 (.inl h2)
section
variable {ρ ρ':Env} {Kn UC:Nat->Prop}
theorem pe {n off:Nat} (h:ρ' n=ρ n):addrOf ρ' n off=addrOf ρ n off:=by simp [addrOf,h]
theorem Ref.bu (h: ∀m,Kn m->ρ' m=ρ m): ∀(r:Ref),r.ok Kn->r.ae ρ'=r.ae ρ
 | .ext _,_=>rfl
 | .loc _ _,hk=>by simp [Ref.ae,pe (h _ hk)]
 | .elem _ _,hk=>by simp [Ref.ae,h _ hk]
 | .full _,hk=>by simp [Ref.ae,h _ hk]
 | .mp _,hk=>by simp [Ref.ae,h _ hk]
theorem Cell.bu (h: ∀m,Kn m->ρ' m=ρ m): ∀(c:Cell),c.ok Kn->c.ae ρ'=c.ae ρ
 | .raw _,_=>rfl
 | .ptr _ _,hk=>by simp [Cell.ae,pe (h _ hk)]
 | .sl _ _ _ _,hk=>by simp [Cell.ae,pe (h _ hk)]
 | .nW _ _,hk=>by simp [Cell.ae,pe (h _ hk)]
 | .full _,hk=>by simp [Cell.ae,h _ hk]
 | .c9 _ _ _,hk=>by simp [Cell.ae,h _ hk]
 | .fY _ _ _,hk=>by simp [Cell.ae,h _ hk]
 | .jO _ _ cap,hk=>by
  simp only [Cell.ae]
  rw [List.map_congr_left fun r hr=>Ref.bu h r (hk r hr)]
 | .N8 _,hk=>by simp [Cell.ae,h _ hk]
 | .mp _,hk=>by simp [Cell.ae,h _ hk]
 | .mv _ _ rs,hk=>by
  simp only [Cell.ae]
  rw [List.map_congr_left fun r hr=>Ref.bu h r (hk r hr)]
theorem xl (h: ∀m,Kn m->ρ' m=ρ m) (cs:List Cell) (hk: ∀c∈cs,c.ok Kn):cs.map (Cell.ae ρ')=cs.map (Cell.ae ρ):=
 List.map_congr_left fun c hc=>Cell.bu h c (hk c hc)
theorem A0.bu (h: ∀m,Kn m->ρ' m=ρ m): ∀(a:A0),a.ok Kn->a.ae ρ'=a.ae ρ
 | .one c,hk=>Cell.bu h c hk
 | .agg cs,hk=>by simp only [A0.ae];rw [xl h cs hk]
theorem AV.bu (h: ∀m,Kn m->ρ' m=ρ m): ∀(a:AV),a.ok Kn->a.ae ρ'=a.ae ρ
 | .v a,hk=>A0.bu h a hk
 | .pT l,hk=>by
  simp only [AV.ae]
  rw [List.map_congr_left fun r hr=>A0.bu h r (hk r hr)]
 | .dead,_=>rfl
theorem Ref.aT (h: ∀m,Kn m->UC m): ∀(r:Ref),r.ok Kn->r.ok UC
 | .ext _,_=>trivial
 | .loc _ _,hk=>h _ hk
 | .elem _ _,hk=>h _ hk
 | .full _,hk=>h _ hk
 | .mp _,hk=>h _ hk
theorem Cell.aT (h: ∀m,Kn m->UC m): ∀(c:Cell),c.ok Kn->c.ok UC
 | .raw _,_=>trivial
 | .ptr _ _,hk=>h _ hk
 | .sl _ _ _ _,hk=>h _ hk
 | .nW _ _,hk=>h _ hk
 | .full _,hk=>h _ hk
 | .c9 _ _ _,hk=>h _ hk
 | .fY _ _ _,hk=>h _ hk
 | .jO _ _ _,hk=>fun r hr=>Ref.aT h r (hk r hr)
 | .N8 _,hk=>h _ hk
 | .mp _,hk=>h _ hk
 | .mv _ _ _,hk=>fun r hr=>Ref.aT h r (hk r hr)
theorem A0.aT (h: ∀m,Kn m->UC m): ∀(a:A0),a.ok Kn->a.ok UC
 | .one c,hk=>Cell.aT h c hk
 | .agg _,hk=>fun c hc=>Cell.aT h c (hk c hc)
theorem AV.aT (h: ∀m,Kn m->UC m): ∀(a:AV),a.ok Kn->a.ok UC
 | .v a,hk=>A0.aT h a hk
 | .pT _,hk=>fun a ha=>A0.aT h a (hk a ha)
 | .dead,_=>trivial
theorem aD.aT (h: ∀m,Kn m->UC m): ∀(o:aD),o.ok Kn->o.ok UC
 | .cells _ _,hk=>fun c hc=>Cell.aT h c (hk c hc)
 | .row _ _ _,_=>trivial
 | .alias _ _ _,hk=>h _ hk
 | .gone,_=>trivial
 | .loop _ _ _,_=>trivial
 | .cg _ _,hk=>fun m hm=>h m (hk m hm)
 | .hide _,_=>trivial
 | .map _ _ _ _ _,_=>trivial
 | .Pp _ _ _ _ _ _,hk=>h _ hk
 | .set _,hk=>h _ hk
 | .gv _ _ _ _ _ _,hk=>⟨h _ hk.1,h _ hk.2⟩
 | .rc _,hk=>fun c hc=>Cell.aT h c (hk c hc)
 | .hmap _ _,_=>trivial
 | .V2 _ _ _ _ _ _ _ _ _,hk=>⟨h _ hk.1,h _ hk.2.1,fun p hp=>h _ (hk.2.2 p hp)⟩
 | .dp _ _ _ _ _,hk=>h _ hk
 | .nv _ _ _ _ _,hk=>⟨h _ hk.1,h _ hk.2⟩
end
theorem JV (l:List Value) (ρ:Env):(l.map Cell.raw).map (Cell.ae ρ)=l:=by
 induction l<;>simp_all [Cell.ae]
theorem TY (l:List Value) (Kn:Nat->Prop): ∀c∈l.map Cell.raw,c.ok Kn:=by
 intro c hc;obtain ⟨v,_,rfl⟩:=List.mem_map.1 hc;trivial
theorem ae7 (v:Value) (ρ:Env):(ajl v).ae ρ=v:=by
 unfold ajl;split
 ·rename_i cs;simp only [A0.ae,JV]
 ·rfl
theorem qK (v:Value) (ρ:Env):(ofV v).ae ρ=v:=ae7 v ρ
theorem am6 (v:Value) (Kn:Nat->Prop):(ajl v).ok Kn:=by
 unfold ajl;split
 ·exact TY _ _
 ·trivial
theorem ym (v:Value) (Kn:Nat->Prop):(ofV v).ok Kn:=am6 v Kn
theorem Cell.KV {c:Cell} (h:c.one=true) (ρ:Env):(c.ae ρ).oneCell'=true:=by
 cases c with
 |raw v=>simp only [Cell.ae,Value.oneCell'];cases v<;>simp_all [Cell.one,yn]
 |N8 n=>simp only [Cell.ae];split<;>rfl
 |_=>rfl
theorem Cell.YY {c:Cell} (h:c.one=true) (ρ:Env):(c.ae ρ).cells= #[c.ae ρ]:=by
 have:=Cell.KV h ρ
 revert this;cases c.ae ρ<;>simp [Value.cells,Value.oneCell']
theorem A0.kJ {a:A0} {cs:List Cell} (h:a.cells=some cs) (ρ:Env):(a.ae ρ).cells=(cs.map (Cell.ae ρ)).toArray:=by
 cases a with
 |one c=>
  simp only [A0.cells] at h;split at h<;>simp at h;subst h
  simp only [A0.ae];rw [Cell.YY ‹_›];simp
 |agg l=>simp only [A0.cells,Option.some.injEq] at h;subst h;rfl
theorem AV.kJ {a:AV} {cs:List Cell} (h:a.cells=some cs) (ρ:Env):(a.ae ρ).cells=(cs.map (Cell.ae ρ)).toArray:=by
 cases a with
 |v a=>exact A0.kJ h ρ
 |pT l=>simp [AV.cells] at h
 |dead=>simp [AV.cells] at h
theorem AV.C0 {a:AV} {cs:List Cell} (h:a.cells=some cs) {Kn:Nat->Prop} (hk:a.ok Kn): ∀c∈cs,c.ok Kn:=by
 cases a with
 |v a=>
  cases a with
  |one c=>simp only [AV.cells,A0.cells] at h;split at h<;>simp at h;subst h;intro c' Jj;simp at Jj;subst Jj;exact hk
  |agg l=>simp only [AV.cells,A0.cells,Option.some.injEq] at h;subst h;exact hk
 |pT l=>simp [AV.cells] at h
 |dead=>simp [AV.cells] at h
theorem rB: ∀(cs:List Cell),qq cs=true-> ∀(ρ:Env),∀v∈cs.map (Cell.ae ρ),v.oneCell'=true
 | [],_,_=>by simp
 |c::r,h,ρ=>by
  simp only [qq] at h;split at h
  ·rename_i h1
   intro v hv
   simp only [List.map_cons,List.mem_cons] at hv
   rcases hv with rfl|hv
   ·exact Cell.KV h1 ρ
   ·exact rB r h ρ v hv
  ·cases h
theorem Fr.refl (av:fG) (W:World):Fr av W W:=⟨rfl,rfl,rfl,Nat.le_refl _,fun _ _ _=>rfl,Nat.le_refl _⟩
theorem Fr.trans {av:fG} {W w w':World} (h:Fr av W w) (h':Fr av w w'):Fr av W w':=
 ⟨h'.os.trans h.os,h'.tape.trans h.tape,h'.output.trans h.output,Nat.le_trans h.size h'.size,fun k hk hn=>(h'.block k (Nat.lt_of_lt_of_le hk h.size) hn).trans (h.block k hk hn),Nat.le_trans h.Pd h'.Pd⟩
theorem Fr.alloc {av:fG} {W w:World} (h:Fr av W w) (o:Obj):Fr av W (w.alloc o):=
 ⟨h.os,h.tape,h.output,by have:=h.size;simp;omega,fun k hk hn=>(Below.heap_alloc w o k (by have:=h.size;omega)).trans (h.block k hk hn),h.Pd⟩
theorem Fr.drawn {av:fG} {W w:World} (h:Fr av W w) (n:Nat) (hn:w.drawn<=n):Fr av W {w with drawn:=n} :=⟨h.os,h.tape,h.output,h.size,h.block,Nat.le_trans h.Pd hn⟩
theorem fH.mono {w w':World} {ok ok':Nat->Prop} {s:Option Addr×Nat} {u:Ty} {l:List u.T} (h:fH w ok s u l) (hok: ∀b,ok b->ok' b/\ w'.heap[b]? =w.heap[b]?):fH w' ok' s u l:=by
 refine ⟨h.1,h.2.1,fun i v hv=> ?_⟩
 obtain ⟨a,h1,h2,h3⟩:=h.2.2 i v hv
 obtain ⟨h4,h5⟩:=hok _ h3
 exact ⟨a,h1,by rw [<- h2];exact World.cell?_of_block (by rw [show (a.add i).block=a.block by unfold Addr.add;split<;>rfl];exact h5),h4⟩
theorem fU (a:Addr) (i:Nat):(a.add i).block=a.block:=by unfold Addr.add;split<;>rfl
theorem bM (sub:Nat->Option Addr×Nat): ∀(q:Nat) (cs:List cw),(aJ sub q cs).length=cs.length
 |_,[]=>rfl
 |q,c::r=>by simp [aJ,bM sub (q+1) r]
theorem aV: ∀(t:Ty) (x:t.T),(t.aU x).length=t.size
 | .int _,_=>rfl
 | .bool,_=>rfl
 | .str,_=>rfl
 | .prod a b,x=>by simp [Ty.aU,Ty.size,aV a,aV b]
 | .sl _,_=>rfl
theorem Ty.size_pos: ∀(t:Ty),0<t.size
 | .int _=>Nat.one_pos
 | .bool=>Nat.one_pos
 | .str=>Nat.one_pos
 | .prod a _=>Nat.lt_of_lt_of_le (Ty.size_pos a) (Nat.le_add_right _ _)
 | .sl _=>Nat.one_pos
theorem bE (t:Ty): ∀(l:List t.T),(ay t l).length=l.length*t.size
 | []=>by simp [ay]
 |x::r=>by
  have:=bE t r
  simp only [ay,List.flatMap_cons,List.length_append,aV,List.length_cons] at this ⊢
  rw [this,Nat.add_mul];omega
theorem sI.keep {fz pm fz' pm':Nat->Prop} {w w':World} {o:Loc} {t:Ty} {l:List t.T} {rk:Nat} {sub:Nat->Option Addr×Nat} (h:sI fz pm w o t l rk sub)
  (hfz: ∀b,fz b->fz' b/\ w'.heap[b]? =w.heap[b]?) (hpm: ∀b,fz b->pm b->pm' b) (hw: ∀b,o.blk=some b->w'.heap[b]? =w.heap[b]?):sI fz' pm' w' o t l rk sub:=by
 obtain ⟨h1,h2,h3,h4⟩:=h
 refine ⟨fun i v hv=> ?_,fun q u l' hq=>(h2 q u l' hq).mono fun b hb=>⟨⟨(hfz b hb.1).1,fun e=>⟨hpm b hb.1 (hb.2 e).1,(hb.2 e).2.same (hfz b hb.1).2⟩⟩,(hfz b hb.1).2⟩,h3,fun e=> ?_⟩
 ·obtain ⟨a,e1,e2,e3⟩:=h1 i v hv
  refine ⟨a,e1,?_,fun e=>(hfz _ (e3 e)).1⟩
  rw [<- e2]
  refine World.cell?_of_block ?_
  rw [fU]
  by_cases e:rk=0
  ·exact (hfz _ (e3 e)).2
  ·rcases h4 e with ⟨_,e4,_⟩|⟨b,pre,rest,e,e4,e5,_⟩
   ·rw [List.eq_nil_of_length_eq_zero e4] at hv;simp [ay,aJ] at hv
   ·rw [e1] at e5;cases e5;exact hw _ e4
 ·exact (h4 e).keep hw
theorem cx {fz pm fz' pm':Nat->Prop} {ρ ρ':Env} {Kn:Nat->Prop} {n:Nat} {o:aD} {w w':World} (h:bp fz pm ρ n o w) (hρ: ∀m,Kn m->ρ' m=ρ m) (hn:Kn n) (ho:o.ok Kn)
  (hfz: ∀b,fz b->fz' b/\ w'.heap[b]? =w.heap[b]?) (hpm: ∀b,fz b->pm b->pm' b) (hwH: ∀b,(ρ n).has b->w'.heap[b]? =w.heap[b]?):bp fz' pm' ρ' n o w':=by
 have hw: ∀b,(ρ n).blk=some b->w'.heap[b]? =w.heap[b]? :=fun b hb=>hwH b (.inl hb)
 cases o with
 |cells cs e=>
  obtain ⟨b,hb,hh⟩:=h
  exact ⟨b,by rw [hρ n hn,hb],by rw [hw b hb,hh,xl hρ cs ho]⟩
 |row t l rk=>
  obtain ⟨h1,h2,h3,sub,h4⟩:=h
  rw [bp,hρ n hn]
  exact ⟨h1,h2,h3,sub,h4.keep hfz hpm hw⟩
 |alias m s q=>
  have hm:=hρ m ho
  rw [bp,hρ n hn,hm];exact h
 |gone=>exact h.elim
 |loop r s j=>
  obtain ⟨b,hb,hh⟩:=h
  exact ⟨b,by rw [hρ n hn,hb],by rw [hw b hb,hh]⟩
 |cg aW n0=>
  obtain ⟨h1,h2⟩:=h
  exact ⟨by rw [hρ n hn,h1],fun m hm=>by rw [hρ m (ho m hm)];exact h2 m hm⟩
 |hide S=>rw [bp,hρ n hn];exact h
 |map ka va k v l=>
  obtain ⟨h1,h2,b,es,pB,hb,hh,he⟩:=h
  exact ⟨h1,h2,b,es,pB,by rw [hρ n hn,hb],by rw [hw b hb,hh],he⟩
 |Pp ka k u l c q=>
  obtain ⟨h1,h2,h3,b,es,pB,hb,hh,he⟩:=h
  exact ⟨h1,h2,h3,b,es,pB,by rw [hρ n hn,hb],by rw [hw b hb,hh],by rw [hρ c ho];exact he⟩
 |set m=>
  obtain ⟨h1,h2,h3⟩:=h
  rw [bp,hρ n hn]
  refine ⟨h1,fun e he=> ?_,h3⟩
  rcases h2 e he with h4|⟨b,rest,t,h4,h5,h6,h7⟩
  ·exact .inl h4
  ·exact .inr ⟨b,rest,t,h4,h5,by rw [hwH b (.inr ⟨e,he,h4⟩)];exact h6,h7⟩
 |gv m c k u x l=>
  rw [bp,hρ n hn,hρ c ho.2];exact h
 |rc cs=>
  rw [bp,hρ n hn]
  refine ⟨h.1,fun i c hc=> ?_⟩
  obtain ⟨a,h1,h2,h3⟩:=h.2 i c hc
  obtain ⟨h4,h5⟩:=hfz _ h3
  exact ⟨a,h1,by rw [Cell.bu hρ c (ho c (List.mem_of_getElem? hc)),<- h2];exact World.cell?_of_block (by rw [fU];exact h5),h4⟩
 |hmap es pB=>
  obtain ⟨b,hb,hh⟩:=h
  exact ⟨b,by rw [hρ n hn,hb],by rw [hw b hb,hh]⟩
 |dp t l c st kn=>
  rw [bp,hρ n hn,hρ c ho];exact h
 |nv m c j q u=>
  rw [bp,hρ n hn,hρ m ho.1,hρ c ho.2];exact h
 |V2 m c es pB ka k u l cur=>
  obtain ⟨h1,h2,h3,b,since,seen,c0,hb,hh,h4,h5,h6,h7,h8,h9⟩:=h
  refine ⟨h1,h2,h3,b,since,seen,c0,by rw [hρ n hn,hb],by rw [hw b hb,hh,hρ m ho.1],by rw [hρ m ho.1];exact h4,h5,h6,h7,by rw [hρ c ho.2.1];exact h8,fun p hp=> ?_⟩
  obtain ⟨a1,seen',e,a2,a3,a4,a5⟩:=h9 p hp
  exact ⟨a1,seen',e,a2,a3,a4,by rw [hρ p.2 (ho.2.2 p hp)];exact a5⟩
theorem L2 {fz pm:Nat->Prop} {ρ:Env} {n b:Nat} {o:aD} {w:World} (h:bp fz pm ρ n o w) (hb:(ρ n).blk=some b):b<w.heap.size:=by
 cases o with
 |cells cs e=>
  obtain ⟨b',hb',hh⟩:=h
  rw [hb] at hb';cases hb';exact (Array.getElem?_eq_some_iff.1 hh).1
 |row t l rk=>
  obtain ⟨_,_,_,sub,_,_,h3,h4⟩:=h
  by_cases e:rk=0
  ·rw [h3 e] at hb;cases hb
  ·rcases h4 e with ⟨h5,_⟩|⟨b',pre,rest,e,h5,_,h6,_⟩
   ·rw [h5] at hb;cases hb
   ·rw [hb] at h5;cases h5;exact (Array.getElem?_eq_some_iff.1 h6).1
 |alias m s q=>rw [h.1] at hb;cases hb
 |gone=>exact h.elim
 |loop r s j=>
  obtain ⟨b',hb',hh⟩:=h
  rw [hb] at hb';cases hb';exact (Array.getElem?_eq_some_iff.1 hh).1
 |cg aW n0=>
  obtain ⟨h1,_⟩:=h
  rw [h1] at hb;cases hb
 |hide S=>rw [show (ρ n).blk=none from h] at hb;cases hb
 |map ka va k v l=>
  obtain ⟨_,_,b',es,pB,hb',hh,_⟩:=h
  rw [hb] at hb';cases hb';exact (Array.getElem?_eq_some_iff.1 hh).1
 |Pp ka k u l c q=>
  obtain ⟨_,_,_,b',es,pB,hb',hh,_⟩:=h
  rw [hb] at hb';cases hb';exact (Array.getElem?_eq_some_iff.1 hh).1
 |set m=>rw [h.1] at hb;cases hb
 |gv m c k u x l=>rw [h.1] at hb;cases hb
 |rc cs=>rw [h.1] at hb;cases hb
 |dp t l c st kn=>rw [h.1] at hb;cases hb
 |nv m c j q u=>rw [h.1] at hb;cases hb
 |hmap es pB=>
  obtain ⟨b',hb',hh⟩:=h
  rw [hb] at hb';cases hb';exact (Array.getElem?_eq_some_iff.1 hh).1
 |V2 m c es pB ka k u l cur=>
  obtain ⟨_,_,_,b',_,_,_,hb',hh,_⟩:=h
  rw [hb] at hb';cases hb';exact (Array.getElem?_eq_some_iff.1 hh).1
section
variable {av:fG} {W:World} {ρ:Env} {Kn:Nat->Prop} {Γ:HP} {w:World}
theorem St.arR (h:St av W ρ Kn Γ w) (n b:Nat) (hn:(Γ n).isSome=true) (hb:(ρ n).has b):(ρ n).blk=some b\/ bj w b:=by
 obtain ⟨o,ho⟩:=Option.isSome_iff_exists.1 hn
 rcases h.wK n o ho with ⟨m,rfl⟩|he
 ·obtain ⟨h1,h2,_⟩:=h.at_ n _ ho
  rcases hb with hb|⟨e,he,hb⟩
  ·exact .inl hb
  ·rcases h2 e he with ⟨h3,_⟩|⟨b',rest,t,h3,_,h4,_⟩
   ·rw [h3] at hb;cases hb
   ·rw [h3] at hb;cases hb;exact .inr ⟨_,_,_,h4⟩
 ·exact .inl ((Lm he).1 hb)
theorem St.lt (h:St av W ρ Kn Γ w) (n b:Nat) (hn:(Γ n).isSome=true) (hb:(ρ n).has b):b<w.heap.size:=by
 obtain ⟨o,ho⟩:=Option.isSome_iff_exists.1 hn
 rcases h.wK n o ho with ⟨m,rfl⟩|he
 ·obtain ⟨h1,h2,_⟩:=h.at_ n _ ho
  rcases hb with hb|⟨e,he,hb⟩
  ·rw [h1] at hb;cases hb
  ·rcases h2 e he with ⟨h3,_⟩|⟨b',rest,t,h3,_,h4,_⟩
   ·rw [h3] at hb;cases hb
   ·rw [h3] at hb;cases hb;exact (Array.getElem?_eq_some_iff.1 h4).1
 ·exact L2 (h.at_ n o ho) ((Lm he).1 hb)
theorem ae6 {fz pm:Nat->Prop} {ρ:Env} {n b:Nat} {o:aD} {w:World} (h:bp fz pm ρ n o w) (hb:(ρ n).blk=some b):YG w b:=by
 have no: ∀ {b':Nat} {x:Obj},(ρ n).blk=some b'->w.heap[b']? =some x->(∀cs e f,x= .cells cs e f->f=(0,0))->YG w b:=fun h1 h2 h3 cs e f h4=>by
  rw [hb] at h1;cases h1;rw [h2] at h4;cases h4;exact h3 _ _ _ rfl
 cases o with
 |cells cs e=>
  obtain ⟨b',hb',hh⟩:=h
  exact no hb' hh fun _ _ _ e=>by cases e;rfl
 |row t l rk=>
  obtain ⟨_,_,_,sub,_,_,h3,h4⟩:=h
  by_cases e:rk=0
  ·rw [h3 e] at hb;cases hb
  ·rcases h4 e with ⟨h5,_⟩|⟨b',pre,rest,e,h5,_,h6,_⟩
   ·rw [h5] at hb;cases hb
   ·exact no h5 h6 fun _ _ _ e=>by cases e;rfl
 |alias m s q=>rw [h.1] at hb;cases hb
 |gone=>exact h.elim
 |loop r s j=>
  obtain ⟨b',hb',hh⟩:=h
  exact no hb' hh fun _ _ _ e=>by cases e
 |cg aW n0=>rw [h.1] at hb;cases hb
 |hide S=>rw [show (ρ n).blk=none from h] at hb;cases hb
 |map ka va k v l=>
  obtain ⟨_,_,b',es,pB,hb',hh,_⟩:=h
  exact no hb' hh fun _ _ _ e=>by cases e
 |Pp ka k u l c q=>
  obtain ⟨_,_,_,b',es,pB,hb',hh,_⟩:=h
  exact no hb' hh fun _ _ _ e=>by cases e
 |set m=>rw [h.1] at hb;cases hb
 |gv m c k u x l=>rw [h.1] at hb;cases hb
 |rc cs=>rw [h.1] at hb;cases hb
 |dp t l c st kn=>rw [h.1] at hb;cases hb
 |nv m c j q u=>rw [h.1] at hb;cases hb
 |hmap es pB=>
  obtain ⟨b',hb',hh⟩:=h
  exact no hb' hh fun _ _ _ e=>by cases e
 |V2 m c es pB ka k u l cur=>
  obtain ⟨_,_,_,b',_,_,_,hb',hh,_⟩:=h
  exact no hb' hh fun _ _ _ e=>by cases e
theorem St.avt (h:St av W ρ Kn Γ w) (n b:Nat) (hn:(Γ n).isSome=true) (hb:(ρ n).blk=some b):YG w b:=by
 obtain ⟨o,ho⟩:=Option.isSome_iff_exists.1 hn
 exact ae6 (h.at_ n o ho) hb
theorem LU {w w':World} {b:Nat} (hb:b<w.heap.size) (h:w'.heap[b]? =w.heap[b]?):b<w'.heap.size:=by
 rcases Nat.lt_or_ge b w'.heap.size with h1|h1
 ·exact h1
 ·rw [Array.getElem?_eq_none h1,Array.getElem?_eq_getElem hb] at h;cases h
theorem bj.same {w w':World} {b:Nat} (h:bj w b) (e:w'.heap[b]? =w.heap[b]?):bj w' b:=by
 obtain ⟨cs,t,f,h⟩:=h
 exact ⟨cs,t,f,e.trans h⟩
theorem St.world {w':World} (h:St av W ρ Kn Γ w) (hf:Fr av W w') (hw: ∀b,b<w.heap.size->w'.heap[b]? =w.heap[b]?):St av W ρ Kn Γ w':=
 ⟨hf,fun n o hn=>cx (Kn:=Kn) (h.at_ n o hn) (fun _ _=>rfl) (h.kn n o hn).1 (h.kn n o hn).2 (fun b hb=>⟨⟨hb.1.same (hw b hb.1.lt),hb.2⟩,hw b hb.1.lt⟩) (fun _ _ h=>h) fun b hb=>hw b (h.lt n b (by rw [hn];rfl) hb),h.kn,h.dU,h.lC,fun b hb=>⟨LU (h.ru b hb).1 (hw b (h.ru b hb).1),(h.ru b hb).2⟩,h.wK⟩
theorem St.drawn (h:St av W ρ Kn Γ w) (n:Nat) (hn:w.drawn<=n):St av W ρ Kn Γ {w with drawn:=n} :=h.world (h.fr.drawn n hn) fun _ _=>rfl
def bA (ρ:Env) (n:Nat) (x:Loc):Env:=fun m=>if m=n then x else ρ m
def fO (Γ:HP) (n:Nat) (o:aD):HP:=fun m=>if m=n then some o else Γ m
def Ob (Kn:Nat->Prop) (n:Nat):Nat->Prop:=fun m=>Kn m\/ m=n
theorem jL {nm:Nat} {x:Loc} (hn: ¬Kn nm): ∀m,Kn m->bA ρ nm x m=ρ m:=fun m hm=>by
 unfold bA;rw [if_neg (by rintro rfl;exact hn hm)]
theorem St.as6 {nm:Nat} {x:Loc} {o:aD} {G:List Nat} {AQ:HP} {w1:World} (h:St av W ρ Kn Γ w) (hn: ¬Kn nm) (hf:Fr av W w1)
  (hw: ∀b,b<w.heap.size-> ¬x.has b->w1.heap[b]? =w.heap[b]?)
  (hb: ∀b,x.has b->(w.heap.size<=b\/ ∃g,g∈G/\ (Γ g).isSome=true/\ (ρ g).has b)/\ (W.heap.size<=b\/ av b)) (hxe:(∃m,o= .set m)\/ x.jq= [])
  (bQ: ∀m p,AQ m=some p->(m=nm/\ p=o)\/ (m≠nm/\ m∉G/\ Γ m=some p))
  (hok:o.ok (Ob Kn nm)) (hno: ∀S,o≠ .hide S) (aQ:(∀b,dV ρ Γ w b->dV (bA ρ nm x) AQ w1 b/\ w1.heap[b]? =w.heap[b]?)->(∀g b,g∈G->(Γ g).isSome=true->(ρ g).has b-> ¬x.has b->bj w b-> ¬HI Γ b->dV (bA ρ nm x) AQ w1 b)->bp (dV (bA ρ nm x) AQ w1) (uk av W) (bA ρ nm x) nm o w1):
  St av W (bA ρ nm x) (Ob Kn nm) AQ w1:=by
 have hold:=jL (ρ:=ρ) (x:=x) hn
 have ld:bA ρ nm x nm=x:=by simp [bA]
 have hkn: ∀n,(Γ n).isSome=true->Kn n:=fun n hs=>by obtain ⟨o,ho⟩:=Option.isSome_iff_exists.1 hs;exact (h.kn n o ho).1
 have hlt: ∀n b,(Γ n).isSome=true->(ρ n).has b->b<w.heap.size:=fun n b hs hb=>h.lt n b hs hb
 have hs: ∀m,(AQ m).isSome=true->m=nm\/ (m≠nm/\ m∉G/\ (Γ m).isSome=true):=fun m hm=>by
  obtain ⟨p,hp⟩:=Option.isSome_iff_exists.1 hm
  rcases bQ m p hp with ⟨e,_⟩|⟨e1,e2,e3⟩
  ·exact .inl e
  ·exact .inr ⟨e1,e2,by rw [e3];rfl⟩
 have z6: ∀b,HI AQ b->HI Γ b:=fun b ⟨m,S,h1,h2⟩=>by
  rcases bQ m _ h1 with ⟨_,e⟩|⟨_,_,e⟩
  ·exact absurd e.symm (hno S)
  ·exact ⟨m,S,e,h2⟩
 have hfree: ∀b,dV ρ Γ w b-> ¬x.has b:=fun b hf hx=>by
  rcases (hb b hx).1 with h1|⟨g,_,h2,h3⟩
  ·exact absurd hf.1.lt (by omega)
  ·exact hf.2 (.inl ⟨g,h2,h3⟩)
 have hfz: ∀b,dV ρ Γ w b->dV (bA ρ nm x) AQ w1 b/\ w1.heap[b]? =w.heap[b]? :=fun b hf=>by
  have e:=hw b hf.1.lt (hfree b hf)
  refine ⟨⟨hf.1.same e,?_⟩,e⟩
  rintro (⟨m,h1,h2⟩|hh)
  ·rcases hs m h1 with rfl|⟨_,_,h5⟩
   ·rw [ld] at h2;exact hfree b hf h2
   ·rw [hold m (hkn m h5)] at h2
    exact hf.2 (.inl ⟨m,h5,h2⟩)
  ·exact hf.2 (.inr (z6 b hh))
 have VJ: ∀g b,g∈G->(Γ g).isSome=true->(ρ g).has b-> ¬x.has b->bj w b-> ¬HI Γ b->dV (bA ρ nm x) AQ w1 b:=fun g b hg h1 h2 hx hl hnh=>by
  refine ⟨hl.same (hw b hl.lt hx),?_⟩
  rintro (⟨m,h3,h4⟩|hh)
  ·rcases hs m h3 with rfl|⟨_,h5,h6⟩
   ·rw [ld] at h4;exact hx h4
   ·rw [hold m (hkn m h6)] at h4
    exact h5 (h.dU m g b h6 h1 h4 h2▸hg)
  ·exact hnh (z6 b hh)
 have aep: ∀m b,m∉G->(Γ m).isSome=true->(ρ m).has b-> ¬x.has b:=fun m b h1 h2 h3 hx=>by
  rcases (hb b hx).1 with h4|⟨g,h5,h6,h7⟩
  ·exact absurd (hlt m b h2 h3) (by omega)
  ·exact h1 (h.dU m g b h2 h6 h3 h7▸h5)
 have hxh: ∀b,HI Γ b-> ¬x.has b:=fun b hh hx=>by
  obtain ⟨h1,h2⟩:=h.ru b hh
  rcases (hb b hx).1 with h3|⟨g,_,h4,h5⟩
  ·omega
  ·exact h2 ⟨g,h4,h5⟩
 refine ⟨hf,fun n p hp=> ?_,fun n p hp=> ?_,fun n m b mD Lx gy dR=> ?_,fun n b mD gy=> ?_,fun b hh=> ?_,fun n p hp=> ?_⟩
 rotate_right
 ·rcases bQ n p hp with ⟨rfl,rfl⟩|⟨e1,e2,e3⟩
  ·rw [ld];exact hxe
  ·rw [hold n (h.kn n p e3).1];exact h.wK n p e3
 rotate_right
 ·have hh:=z6 b hh
  obtain ⟨h1,h2⟩:=h.ru b hh
  refine ⟨LU h1 (hw b h1 (hxh b hh)),?_⟩
  rintro ⟨m,h3,h4⟩
  rcases hs m h3 with rfl|⟨_,_,h6⟩
  ·rw [ld] at h4;exact hxh b hh h4
  ·rw [hold m (hkn m h6)] at h4
   exact h2 ⟨m,h6,h4⟩
 ·rcases bQ n p hp with ⟨rfl,rfl⟩|⟨e1,e2,e3⟩
  ·exact aQ hfz VJ
  ·have hk:=h.kn n p e3
   exact cx (h.at_ n p e3) hold hk.1 hk.2 hfz (fun _ _ h=>h) fun b hb'=>hw b (h.lt n b (by rw [e3];rfl) hb') (aep n b e2 (by rw [e3];rfl) hb')
 ·rcases bQ n p hp with ⟨rfl,rfl⟩|⟨e1,e2,e3⟩
  ·exact ⟨.inr rfl,hok⟩
  ·have hk:=h.kn n p e3
   exact ⟨.inl hk.1,aD.aT (fun _=> .inl) p hk.2⟩
 ·rcases hs n mD with rfl|⟨e1,e2,e3⟩
  ·rcases hs m Lx with rfl|⟨e4,e5,e6⟩
   ·rfl
   ·rw [ld] at gy
    rw [hold m (hkn m e6)] at dR
    exact absurd gy (aep m b e5 e6 dR)
  ·rw [hold n (hkn n e3)] at gy
   rcases hs m Lx with rfl|⟨e4,e5,e6⟩
   ·rw [ld] at dR
    exact absurd dR (aep n b e2 e3 gy)
   ·rw [hold m (hkn m e6)] at dR
    exact h.dU n m b e3 e6 gy dR
 ·rcases hs n mD with rfl|⟨e1,e2,e3⟩
  ·rw [ld] at gy;exact (hb b gy).2
  ·rw [hold n (hkn n e3)] at gy
   exact h.lC n b e3 gy
theorem St.swap {nm:Nat} {x:Loc} {o:aD} {G:List Nat} {AQ:HP} {w1:World} (h:St av W ρ Kn Γ w) (hn: ¬Kn nm) (hf:Fr av W w1)
  (hw: ∀b,b<w.heap.size->x.blk≠some b->w1.heap[b]? =w.heap[b]?)
  (hb: ∀b,x.blk=some b->(w.heap.size<=b\/ ∃g,g∈G/\ (Γ g).isSome=true/\ (ρ g).blk=some b)/\ (W.heap.size<=b\/ av b))
  (bQ: ∀m p,AQ m=some p->(m=nm/\ p=o)\/ (m≠nm/\ m∉G/\ Γ m=some p))
  (hok:o.ok (Ob Kn nm)) (hno: ∀S,o≠ .hide S) (aQ:(∀b,dV ρ Γ w b->dV (bA ρ nm x) AQ w1 b/\ w1.heap[b]? =w.heap[b]?)->(∀g b,g∈G->(Γ g).isSome=true->(ρ g).blk=some b->x.blk≠some b->bj w b-> ¬HI Γ b->dV (bA ρ nm x) AQ w1 b)->bp (dV (bA ρ nm x) AQ w1) (uk av W) (bA ρ nm x) nm o w1) (he:x.jq= []:=by rfl):
  St av W (bA ρ nm x) (Ob Kn nm) AQ w1:=
 h.as6 hn hf (fun b hb hx=>hw b hb fun e=>hx (.inl e)) (fun b hx=>by
  obtain ⟨h1,h2⟩:=hb b ((Lm he).1 hx)
  exact ⟨h1.imp id fun ⟨g,a,c,d⟩=>⟨g,a,c,.inl d⟩,h2⟩) (.inr he) bQ hok hno fun h1 h2=>aQ h1 fun g b h3 h4 h5 h6 h7 h8=>h2 g b h3 h4 (.inl h5) (fun hx=>h6 ((Lm he).1 hx)) h7 h8
theorem St.alloc {nm:Nat} {cs:List Cell} {e:TypeId} (h:St av W ρ Kn Γ w) (hn: ¬Kn nm) (hcs: ∀c∈cs,c.ok Kn):
  St av W (bA ρ nm {blk:=some w.heap.size}) (Ob Kn nm) (fO Γ nm (.cells cs e)) (w.alloc (.cells (cs.map (Cell.ae ρ)).toArray e (0,0))):=by
 have hsz:=h.fr.size
 refine h.swap (G:= []) (o:= .cells cs e) hn (h.fr.alloc _) (fun b hb _=>Below.heap_alloc _ _ _ hb) (fun b hb=> ?_) (fun m p hp=> ?_) (fun c hc=>Cell.aT (fun _=> .inl) c (hcs c hc)) (fun _ h=>by cases h) fun _ _=> ?_
 ·cases hb;exact ⟨.inl (Nat.le_refl _),.inl hsz⟩
 ·unfold fO at hp
  split at hp
  ·rename_i e1;cases hp;exact .inl ⟨e1,rfl⟩
  ·rename_i e1;exact .inr ⟨e1,by simp,hp⟩
 ·exact ⟨w.heap.size,by simp [bA],by
   rw [xl (jL hn) cs hcs];show (w.heap.push _)[w.heap.size]? =_;simp⟩
theorem jI {α:Type} : ∀(ys cs:List α) (off:Nat),off+ys.length<=cs.length->setCells cs off ys=cs.take off++ys++cs.drop (off+ys.length)
 | [],cs,off,_=>by simp [setCells]
 |y::r,cs,off,h=>by
  simp only [List.length_cons] at h
  rw [setCells,jI r _ _ (by simp;omega)]
  apply List.ext_getElem?
  intro j
  simp only [List.getElem?_append,List.length_append,List.length_take,List.length_set,List.getElem?_take,List.getElem?_set,List.getElem?_drop,List.length_cons]
  grind
theorem T7 (f:Cell->Value) (ys cs:List Cell) (off:Nat) (h:off+ys.length<=cs.length):
  (setCells cs off ys).map f=(cs.map f).take off++ys.map f++(cs.map f).drop (off+ys.length):=by
 rw [jI ys cs off h];simp
theorem wg {ys cs:List Cell} {off:Nat} (h:off+ys.length<=cs.length) {c:Cell} (hc:c∈setCells cs off ys):c∈cs\/ c∈ys:=by
 rw [jI ys cs off h] at hc
 simp only [List.mem_append] at hc
 rcases hc with (h1|h1)|h1
 ·exact .inl (List.mem_of_mem_take h1)
 ·exact .inr h1
 ·exact .inl (List.mem_of_mem_drop h1)
theorem Fr.setRow {w:World} (h:Fr av W w) {b:Nat} (hb:W.heap.size<=b\/ av b) (cs:Array Value):Fr av W (w.setRow b cs):=
 ⟨h.os,h.tape,h.output,by rw [setRow_size];exact h.size,fun k hk hn=>(setRow_other w b k cs (by rintro rfl;exact hb.elim (fun h=>by omega) hn)).trans (h.block k hk hn),h.Pd⟩
theorem St.write {n b:Nat} {o o':aD} {cells:Array Value} (h:St av W ρ Kn Γ w) (hn:Γ n=some o) (hb:(ρ n).blk=some b) (FN:o'.ok Kn) (hno: ∀S,o'≠ .hide S)
  (aQ:(∀b',dV ρ Γ w b'->dV ρ (fO Γ n o') (w.setRow b cells) b'/\ (w.setRow b cells).heap[b']? =w.heap[b']?)->bp (dV ρ (fO Γ n o') (w.setRow b cells)) (uk av W) ρ n o' (w.setRow b cells)):St av W ρ Kn (fO Γ n o') (w.setRow b cells):=by
 have hs: ∀m,(fO Γ n o' m).isSome=true->(Γ m).isSome=true:=fun m hm=>by
  unfold fO at hm;split at hm
  ·rename_i e;subst e;simp [hn]
  ·exact hm
 have z6: ∀b,HI (fO Γ n o') b->HI Γ b:=fun b ⟨m,S,h1,h2⟩=>by
  unfold fO at h1
  split at h1
  ·cases h1;exact absurd rfl (hno S)
  ·exact ⟨m,S,h1,h2⟩
 have hfz: ∀b',dV ρ Γ w b'->dV ρ (fO Γ n o') (w.setRow b cells) b'/\ (w.setRow b cells).heap[b']? =w.heap[b']? :=fun b' hf=>by
  have hne:b'≠b:=by rintro rfl;exact hf.2 (.inl ⟨n,by simp [hn],.inl hb⟩)
  refine ⟨⟨hf.1.same (setRow_other _ _ _ _ hne),?_⟩,setRow_other _ _ _ _ hne⟩
  rintro (⟨m,h1,h2⟩|⟨m,S,h1,h2⟩)
  ·exact hf.2 (.inl ⟨m,hs m h1,h2⟩)
  ·exact hf.2 (.inr (z6 b' ⟨m,S,h1,h2⟩))
 refine ⟨h.fr.setRow (h.own n b (by simp [hn]) hb) _,fun m p hp=> ?_,fun m p hp=> ?_,fun m m' c hm hm' gy dR=>h.dU m m' c (hs m hm) (hs m' hm') gy dR,fun m c hm hc=>h.lC m c (hs m hm) hc,fun c hc=> ?_,fun m p hp=> ?_⟩
 rotate_right
 ·unfold fO at hp
  split at hp
  ·rename_i e;subst e
   rcases h.wK m o hn with ⟨g,rfl⟩|he
   ·have:=(h.at_ m _ hn).1
    rw [hb] at this;cases this
   ·exact .inr he
  ·exact h.wK m p hp
 rotate_right
 ·obtain ⟨h1,h2⟩:=h.ru c (z6 c hc)
  exact ⟨by rw [setRow_size];exact h1,fun ⟨m,h3,h4⟩=>h2 ⟨m,hs m h3,h4⟩⟩
 ·unfold fO at hp;split at hp
  ·rename_i e;subst e;cases hp;exact aQ hfz
  ·rename_i e
   refine cx (Kn:=Kn) (h.at_ m p hp) (fun _ _=>rfl) (h.kn m p hp).1 (h.kn m p hp).2 hfz (fun _ _ h=>h) fun c hc=>setRow_other _ _ _ _ ?_
   rintro rfl
   exact e (h.dU m n _ (by simp [hp]) (by simp [hn]) hc (.inl hb))
 ·unfold fO at hp;split at hp
  ·rename_i e;subst e;cases hp;exact ⟨(h.kn m o hn).1,FN⟩
  ·exact h.kn m p hp
end
def oI (Kn:Nat->Prop) (nm:Nat) (r:Rec):Nat->Prop:=fun m=>Kn m\/ (nm<=m/\ m<nm+r.fresh.length)
def live:Option aD->Option aD
 |some .gone=>none
 |o=>o
def cm:List (Nat×aD)->Nat->Option aD
 | [],_=>none
 |(n,o)::r,m=>match cm r m with
  |some p=>some p
  |none=>if n=m then some o else none
def bV (r:Rec) (nm:Nat) (Γ:HP):HP:=fun m=>if nm<=m/\ m<nm+r.fresh.length then live (r.fresh[m- nm]?) else match cm r.writes m with
 |some o=>live (some o)
 |none=>Γ m
theorem fS (Kn:Nat->Prop) (nm:Nat) (v:AV) (ws:List (Nat×aD)) (tc:List Nat):oI Kn nm {val:=v,writes:=ws,aF:=tc} =Kn:=by
 funext m;simp [oI];omega
theorem JQ (Kn:Nat->Prop) (nm:Nat) (v:AV) (o:aD) (tc:List Nat):oI Kn nm {val:=v,fresh:= [o],aF:=tc} =Ob Kn nm:=by
 funext m;simp only [oI,Ob,List.length_singleton];congr 1;apply propext;omega
theorem qt (Γ:HP) (nm:Nat) (v:AV) (tc:List Nat):bV {val:=v,aF:=tc} nm Γ=Γ:=by
 funext m;simp [bV,cm];omega
theorem agU (Γ:HP) (nm:Nat) (v:AV) (cs:List Cell) (e:TypeId) (tc:List Nat):bV {val:=v,fresh:= [.cells cs e],aF:=tc} nm Γ=fO Γ nm (.cells cs e):=by
 funext m;simp only [bV,fO,List.length_singleton,cm]
 by_cases h:m=nm
 ·subst h;simp [live]
 ·have: ¬(nm≤m∧m<nm+1):=by omega
  simp [h,this]
theorem mL (Γ:HP) (nm n:Nat) (v:AV) (o:aD) (tc:List Nat) (ho:live (some o)=some o):bV {val:=v,writes:= [(n,o)],aF:=tc} nm Γ=fO Γ n o:=by
 funext m;simp only [bV,fO,cm,List.length_nil]
 have: ¬(nm<=m/\ m<nm+0):=by omega
 by_cases h:n=m
 ·subst h;rw [if_neg this];simp [ho]
 ·rw [if_neg this];simp [h,Ne.symm h]
def uR (av:fG) (W:World) (X:Addr->Value->Prop):Prop:= ∀a v,X a v->a.block<W.heap.size/\ ¬av a.block/\ W.cell? a=some v
theorem uR.cell {av:fG} {W w:World} {X:Addr->Value->Prop} (h:uR av W X) (hf:Fr av W w) {a:Addr} {v:Value} (hx:X a v):w.cell? a=some v:=by
 obtain ⟨h1,h2,h3⟩:=h a v hx
 rw [<- h3];exact World.cell?_of_block (hf.block _ h1 h2)
section
variable (P:Program) (X:Addr->Value->Prop) (hp:HP) (nm:Nat)
def aO {α:Type} (HM:(Nat->Prop)->Prop) (f:Env->Sem α) (val:Env->α) (r:Rec):Prop:=
 (∀p∈r.writes,hp p.1≠none)/\ ∀av W ρ Kn Γ w,uR av W X->HM Kn->(∀m∈r.aF,Γ m=hp m)->(∀i,i<r.fresh.length-> ¬Kn (nm+i))->St av W ρ Kn Γ w->
  ∃ρ' w',(f ρ).run P w= .ok (val ρ') w'/\ (∀m,Kn m->ρ' m=ρ m)/\ r.val.ok (oI Kn nm r)/\ St av W ρ' (oI Kn nm r) (bV r nm Γ) w'
variable {P X hp nm}
theorem aO.pure {α:Type} {HM:(Nat->Prop)->Prop} {f:Env->Sem α} {val:Env->α} {v:AV} {tc:List Nat}
  (h: ∀av W ρ Kn Γ w,uR av W X->HM Kn->(∀m∈tc,Γ m=hp m)->St av W ρ Kn Γ w->(f ρ).run P w= .ok (val ρ) w/\ v.ok Kn):
  aO P X hp nm HM f val {val:=v,aF:=tc} :=by
 refine ⟨fun p hp=>absurd hp (by simp),?_⟩
 intro av W ρ Kn Γ w hX hk ht _ hst
 obtain ⟨h1,h2⟩:=h av W ρ Kn Γ w hX hk ht hst
 exact ⟨ρ,w,h1,fun _ _=>rfl,by rw [fS];exact h2,by rw [fS,qt];exact hst⟩
end
end Go.Ev
