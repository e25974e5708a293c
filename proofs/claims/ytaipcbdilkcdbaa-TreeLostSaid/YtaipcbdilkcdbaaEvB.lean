/- What a symbolic state says of the machine's memory, and that each operation does what 'opE' says. -/
import Derived.Test.YtaipcbdilkcdbaaEvA
import Derived.WalkKit
import Derived.OrdersIn
import Derived.RangeFuncCalls
noncomputable section
set_option linter.unusedSectionVars false
set_option linter.unusedVariables false
set_option linter.unusedSimpArgs false
namespace Go.Ev
open Go.RowKit
def fw (ro:Option Nat):Fence:= {fn:=fun _=>True,depth:=none,alive:=false,round:=ro}
structure iV where
 wr:Nat->Prop
 nw:Nat->Prop:=fun _=>False
instance:CoeFun iV fun _=>Nat->Prop:=⟨iV.wr⟩
def zC:iV:= {wr:=fun _=>False}
structure Fr (ax:iV) (W w:World):Prop where
 os:w.os=W.os
 tape:w.tape=W.tape
 output:w.output=W.output
 size:W.heap.size<=w.heap.size
 block: ∀k,k<W.heap.size-> ¬ax k->w.heap[k]? =W.heap[k]?
 FJ:W.drawn<=w.drawn
def eN (s:Option Addr×Nat):cn->Value
 | .flat v=>v
 | .sl _ l=> .slice s.1 l.length s.2
def ak (t:Ty) (l:List t.T):List cn:=l.flatMap t.aI
def aJ (t:Ty) (l:List t.T):List Value:=(ak t l).map aM
def aA (sub:Nat->Option Addr×Nat):Nat->List cn->List Value
 |_,[]=> []
 |q,c::r=>eN (sub q) c::aA sub (q+1) r
def eX (w:World) (ok:Nat->Prop) (s:Option Addr×Nat) (u:Ty) (l:List u.T):Prop:=
 u.flat=true/\ l.length<=s.2/\ ∀i v,(aJ u l)[i]? =some v-> ∃a,s.1=some a/\ w.cell? (a.add i)=some v/\ ok a.block
def fS (w:World) (o:Loc) (rk n s:Nat) (vals:List Value):Prop:=
 (o.bt=none/\ n=0/\ o.cap=0/\ (rk≠3->o.base=none))\/ ∃b pre rest e,o.bt=some b/\ o.base=some ⟨b,pre.length,none⟩/\ w.heap[b]? =some (.cells (pre++(vals++rest)).toArray e (0,0))/\ o.cap*s=(vals++rest).length/\ o.cap<=9223372036854775807/\ (rk≠3->pre= [])
theorem fS.old {w:World} {o:Loc} {rk s:Nat} {vals:List Value} {α:Type} {l:List α} (h:fS w o rk l.length s vals) (h3:rk≠3):(o.bt=none/\ l= []/\ o.cap=0/\ o.base=none)\/ ∃b rest e,o.bt=some b/\ o.base=some ⟨b,0,none⟩/\ w.heap[b]? =some (.cells (vals++rest).toArray e (0,0))/\ o.cap*s=(vals++rest).length/\ o.cap<=9223372036854775807:=by
 rcases h with ⟨h1,h2,IK,h4⟩|⟨b,pre,rest,e,h1,h2,h4,h5,h6,h7⟩
 ·exact .inl ⟨h1,List.eq_nil_of_length_eq_zero h2,IK,h4 h3⟩
 ·have:=h7 h3
  subst this
  exact .inr ⟨b,rest,e,h1,h2,h4,h5,h6⟩
theorem fS.new {w:World} {o:Loc} {rk s:Nat} {vals:List Value} {α:Type} {l:List α} (h:(o.bt=none/\ l= []/\ o.cap=0/\ o.base=none)\/ ∃b rest e,o.bt=some b/\ o.base=some ⟨b,0,none⟩/\ w.heap[b]? =some (.cells (vals++rest).toArray e (0,0))/\ o.cap*s=(vals++rest).length/\ o.cap<=9223372036854775807):fS w o rk l.length s vals:=by
 rcases h with ⟨h1,h2,h3,h4⟩|⟨b,rest,e,h1,h2,h3,h4,h5⟩
 ·exact .inl ⟨h1,by rw [h2];rfl,h3,fun _=>h4⟩
 ·exact .inr ⟨b,[],rest,e,h1,h2,h3,h4,h5,fun _=>rfl⟩
theorem fS.any {w:World} {o:Loc} {rk n s:Nat} {vals:List Value} (h:fS w o rk n s vals):fS w o 3 n s vals:=by
 rcases h with ⟨h1,h2,h3,h4⟩|⟨b,pre,rest,e,h1,h2,h3,h4,h5,h6⟩
 ·exact .inl ⟨h1,h2,h3,fun q=>absurd rfl q⟩
 ·exact .inr ⟨b,pre,rest,e,h1,h2,h3,h4,h5,fun q=>absurd rfl q⟩
theorem fS.keep {w w':World} {o:Loc} {rk n s:Nat} {vals:List Value} (h:fS w o rk n s vals) (hw: ∀b,o.bt=some b->w'.heap[b]? =w.heap[b]?):fS w' o rk n s vals:=by
 rcases h with h|⟨b,pre,rest,e,h1,h2,h3,h4⟩
 ·exact .inl h
 ·exact .inr ⟨b,pre,rest,e,h1,h2,by rw [hw _ h1];exact h3,h4⟩
def XX (es:Array MapEntry) (dI:Nat):Prop:=(∀x∈es.toList,x.born<dI)/\ (es.toList.map (·.born)).Nodup
def Ex (w:World) (b:Nat):Prop:= ∀cs e f,w.heap[b]? =some (.cells cs e f)->f=(0,0)
theorem Ex.same {w w':World} {b:Nat} (h:Ex w b) (e:w'.heap[b]? =w.heap[b]?):Ex w' b:=fun cs t f hb=>h cs t f (e▸hb)
theorem Ex.of {w:World} {b:Nat} {cs:Array Value} {e:TypeId} (h:w.heap[b]? =some (.cells cs e (0,0))):Ex w b:=fun cs' e' f hb=>by rw [h] at hb;cases hb;rfl
def lU (fz pm:Nat->Prop) (w:World) (o:Loc) (t:Ty) (l:List t.T) (rk:Nat) (sub:Nat->Option Addr×Nat):Prop:=
 (∀i v,(aA sub 0 (ak t l))[i]? =some v-> ∃a,o.base=some a/\ w.cell? (a.add i)=some v/\ (rk=0->fz a.block))/\
 (∀q u l',(ak t l)[q]? =some (.sl u l')->eX w (fun b=>fz b/\ (rk=2->pm b/\ Ex w b)) (sub q) u l')/\
 (rk=0->o.bt=none)/\
 (rk≠0->fS w o rk l.length t.size (aA sub 0 (ak t l)))
def Loc.has (x:Loc) (b:Nat):Prop:=x.bt=some b\/ ∃e∈x.bT,e.bt=some b
@[simp] theorem gU {o:Option Nat} {a:Option Addr} {n c s b:Nat} :Loc.has ⟨o,a,n,c,s,[]⟩ b↔o=some b:=by simp [Loc.has]
theorem nZ {x:Loc} (h:x.bt=none/\ x.bT= []) {b:Nat} : ¬x.has b:=by
 rintro (h1|⟨e,h1,_⟩)
 ·rw [h.1] at h1;cases h1
 ·rw [h.2] at h1;cases h1
theorem rD {x:Loc} (h:x.bT= []) {b:Nat} :x.has b↔x.bt=some b:=by simp [Loc.has,h]
def QE (ρ:Env) (Γ:HP) (b:Nat):Prop:= ∃m,(Γ m).isSome=true/\ (ρ m).has b
def HI (Γ:HP) (b:Nat):Prop:= ∃m S,Γ m=some (.eZ S)/\ S b
def LO (ρ:Env) (Γ:HP) (b:Nat):Prop:=QE ρ Γ b\/ HI Γ b
def bg (w:World) (b:Nat):Prop:= ∃cs e f,w.heap[b]? =some (.cells cs e f)
theorem bg.lt {w:World} {b:Nat} (h:bg w b):b<w.heap.size:=by
 obtain ⟨_,_,_,h⟩:=h
 exact (Array.getElem?_eq_some_iff.1 h).1
theorem bg.of {w:World} {a:Addr} {v:Value} (h:w.cell? a=some v):bg w a.block:=by
 unfold World.cell? at h
 split at h
 ·exact ⟨_,_,_,‹_›⟩
 ·cases h
def eo (ρ:Env) (Γ:HP) (w:World) (b:Nat):Prop:=bg w b/\ ¬LO ρ Γ b
def qP (ax:iV) (W:World) (b:Nat):Prop:=W.heap.size<=b\/ ax b\/ ax.nw b
def yd (w:World) (e:pN):Prop:=(e.bt=none/\ e.vals= []/\ e.cap=0/\ e.base=none/\ e.len=0)\/
 ∃b rest t,e.bt=some b/\ e.base=some ⟨b,0,none⟩/\ w.heap[b]? =some (.cells (e.vals++rest).toArray t (0,0))/\ e.len<=e.cap/\ e.cap*e.es=(e.vals++rest).length/\ e.cap<=9223372036854775807
def Ds (k:Ty):Option k.T->k.T->Bool
 |some x,y=>qO k x y
 |none,_=>false
def eu (ka:Bool) (k u:Ty) (q:Option k.T):List MapEntry->List (k.T×List u.T)->List pN->Prop
 | [],[],[]=>True
 |e::es,p::l,ns=>e.key=cO ka k p.1/\ (match Ds k q p.1 with
  |true=>eu ka k u q es l ns
  |false=>match ns with
   |n::r=>n.key=⟨k,p.1⟩/\ e.val= .slice n.base n.len n.cap/\ n.vals=aJ u p.2/\ n.len=p.2.length/\ n.es=u.size/\ eu ka k u q es l r
   | []=>False)
 |_,_,_=>False
def iO (es:List pN) (a:Addr) (v:Value):Prop:= ∃e b off,e∈es/\ a=⟨b,off,none⟩/\ e.bt=some b/\ e.vals[off]? =some v
def aX (fz pm:Nat->Prop) (ρ:Env) (n:Nat):aG->World->Prop
 | .cells cs e,w=> ∃b,(ρ n).bt=some b/\ w.heap[b]? =some (.cells (cs.map (Cell.af ρ)).toArray e (0,0))
 | .row t l rk,w=>(ρ n).len=l.length/\ (ρ n).es=t.size/\ l.length<=(ρ n).cap/\ ∃sub,lU fz pm w (ρ n) t l rk sub
 | .alias m s q,_=>(ρ n).bt=none/\ (ρ n).len=ep (ρ m).len s q/\ (ρ n).es=(ρ m).es/\ (ρ n).len<=(ρ n).cap/\ ((ρ n).len≠0->(ρ n).base=(ρ m).base.map (·.add (s*(ρ m).es)))
 | .gone,_=>False
 | .loop r s j,w=> ∃b,(ρ n).bt=some b/\ w.heap[b]? =some (.loop {r with state:=s,pending:=j})
 | .de dH n0,_=>(ρ n).bt=none/\ ∀m,m<n0->ρ m=dH m
 | .eZ _,_=>(ρ n).bt=none
 | .map ka va k v l,w=>k.flat=true/\ v.flat=true/\ ∃b es dI,(ρ n).bt=some b/\ w.heap[b]? =some (.map es dI)/\ es.toList.map (fun e=>(e.key,e.val))=l.map fun p=>(cO ka k p.1,cO va v p.2)
 | .mh ka k u l c q,w=>k.flat=true/\ u.flat=true/\ (l.map (·.1)).Nodup/\ ∃b es dI,(ρ n).bt=some b/\ w.heap[b]? =some (.map es dI)/\ eu ka k u q es.toList l (ρ c).bT/\ XX es dI
 | .set _,w=>(ρ n).bt=none/\ (∀e∈(ρ n).bT,yd w e)/\ (ρ n).bT.Pairwise fun e e'=> ∀b,e.bt=some b->e'.bt≠some b
 | .gv _ c k u x l,_=>(ρ n).bt=none/\ (ρ n).len=l.length/\ (ρ n).es=u.size/\ l.length<=(ρ n).cap/\ u.flat=true/\ ((l= []/\ (ρ n).base=none/\ (ρ n).cap=0)\/ ∃e b,e∈(ρ c).bT/\ e.bt=some b/\ e.key=⟨k,x⟩/\ e.base=(ρ n).base/\ e.base=some ⟨b,0,none⟩/\ e.len=(ρ n).len/\ e.cap=(ρ n).cap/\ e.vals=aJ u l/\ e.es=u.size)
 | .rc cs,w=>(ρ n).bt=none/\ ∀i c,cs[i]? =some c-> ∃a,(ρ n).base=some a/\ w.cell? (a.add i)=some (c.af ρ)/\ fz a.block
 | .hmap es dI,w=> ∃b,(ρ n).bt=some b/\ w.heap[b]? =some (.map es dI)
 | .dp t l c _ kn,_=>(ρ n).bt=none/\ (ρ n).len=l.length/\ (ρ n).es=t.size/\ l.length<=(ρ n).cap/\ ∃sub rb,(l≠ []->(ρ n).base=some ⟨rb,0,none⟩)/\ (∀i v,(aA sub 0 (ak t l))[i]? =some v->iO (ρ c).bT ⟨rb,i,none⟩ v)/\
   ∀q u l',(ak t l)[q]? =some (.sl u l')->u.flat=true/\ l'.length<=(sub q).2/\ ∀i v,(aJ u l')[i]? =some v-> ∃a v',(sub q).1=some a/\ a.block≠rb/\ iO (ρ c).bT (a.add i) v'/\ (kn=true->v'=v)
 | .nv m c j q u,_=>(ρ n).bt=none/\ (ρ n).es=u.size/\ ∃a,(ρ m).base=some a/\ iO (ρ c).bT (a.add (j*(ρ m).es+q)) (.slice (ρ n).base (ρ n).len (ρ n).cap)
 | .sK m c es dI ka k u l cur,w=>k.flat=true/\ u.flat=true/\ XX es dI/\ ∃b since seen c0,(ρ n).bt=some b/\ w.heap[b]? =some (.mapIter (ρ m).bt since seen c0)/\ (ρ m).bt≠none/\ (∀x∈es.toList,x.born<since)/\ since<=c0/\ since<=dI/\
   eu ka k u none (es.toList.filter fun e=> !seen.contains e.born) l (ρ c).bT/\
   ∀p,cur=some p->c0=dI/\ ∃(seen':Array Nat) (e:MapEntry),seen=seen'.push e.born/\ e∈es.toList/\ e.key=cO ka k p.1/\ e.val= .slice (ρ p.2).base (ρ p.2).len (ρ p.2).cap
structure St (ax:iV) (W:World) (ρ:Env) (Kn:Nat->Prop) (Γ:HP) (w:World):Prop where
 fr:Fr ax W w
 at_: ∀n o,Γ n=some o->aX (eo ρ Γ w) (qP ax W) ρ n o w
 kn: ∀n o,Γ n=some o->Kn n/\ o.ok Kn
 cW: ∀n m b,(Γ n).isSome=true->(Γ m).isSome=true->(ρ n).has b->(ρ m).has b->n=m
 jR: ∀n b,(Γ n).isSome=true->(ρ n).has b->W.heap.size<=b\/ ax b
 rH: ∀b,HI Γ b->b<w.heap.size/\ ¬QE ρ Γ b
 qI: ∀n o,Γ n=some o->(∃m,o= .set m)\/ (ρ n).bT= []
theorem St.inj {ax:iV} {W:World} {ρ:Env} {Kn:Nat->Prop} {Γ:HP} {w:World} (h:St ax W ρ Kn Γ w) (n m b:Nat) (h1:(Γ n).isSome=true) (h2:(Γ m).isSome=true) (h3:(ρ n).bt=some b) (h4:(ρ m).bt=some b):n=m:=h.cW n m b h1 h2 (.inl h3) (.inl h4)
theorem St.own {ax:iV} {W:World} {ρ:Env} {Kn:Nat->Prop} {Γ:HP} {w:World} (h:St ax W ρ Kn Γ w) (n b:Nat) (h1:(Γ n).isSome=true) (h2:(ρ n).bt=some b):W.heap.size<=b\/ ax b:=h.jR n b h1 (.inl h2)
section
variable {ρ ρ':Env} {Kn Ag:Nat->Prop}
theorem mu {n off:Nat} (h:ρ' n=ρ n):addrOf ρ' n off=addrOf ρ n off:=by simp [addrOf,h]
theorem Ref.bZ (h: ∀m,Kn m->ρ' m=ρ m): ∀(r:Ref),r.ok Kn->r.af ρ'=r.af ρ
 | .ext _,_=>rfl
 | .loc _ _,hk=>by simp [Ref.af,mu (h _ hk)]
 | .elem _ _,hk=>by simp [Ref.af,h _ hk]
 | .full _,hk=>by simp [Ref.af,h _ hk]
 | .mp _,hk=>by simp [Ref.af,h _ hk]
theorem Cell.bZ (h: ∀m,Kn m->ρ' m=ρ m): ∀(c:Cell),c.ok Kn->c.af ρ'=c.af ρ
 | .raw _,_=>rfl
 | .ptr _ _,hk=>by simp [Cell.af,mu (h _ hk)]
 | .sl _ _ _ _,hk=>by simp [Cell.af,mu (h _ hk)]
 | .jE _ _,hk=>by simp [Cell.af,mu (h _ hk)]
 | .full _,hk=>by simp [Cell.af,h _ hk]
 | .cx _ _ _,hk=>by simp [Cell.af,h _ hk]
 | .fq _ _ _,hk=>by simp [Cell.af,h _ hk]
 | .kq _ _ cap,hk=>by
  simp only [Cell.af]
  rw [List.map_congr_left fun r hr=>Ref.bZ h r (hk r hr)]
 | .zJ _,hk=>by simp [Cell.af,h _ hk]
 | .mp _,hk=>by simp [Cell.af,h _ hk]
 | .mv _ _ rs,hk=>by
  simp only [Cell.af]
  rw [List.map_congr_left fun r hr=>Ref.bZ h r (hk r hr)]
theorem qZ (h: ∀m,Kn m->ρ' m=ρ m) (cs:List Cell) (hk: ∀c∈cs,c.ok Kn):cs.map (Cell.af ρ')=cs.map (Cell.af ρ):=
 List.map_congr_left fun c hc=>Cell.bZ h c (hk c hc)
theorem A0.bZ (h: ∀m,Kn m->ρ' m=ρ m): ∀(a:A0),a.ok Kn->a.af ρ'=a.af ρ
 | .one c,hk=>Cell.bZ h c hk
 | .agg cs,hk=>by simp only [A0.af];rw [qZ h cs hk]
theorem AV.bZ (h: ∀m,Kn m->ρ' m=ρ m): ∀(a:AV),a.ok Kn->a.af ρ'=a.af ρ
 | .v a,hk=>A0.bZ h a hk
 | .oP l,hk=>by
  simp only [AV.af]
  rw [List.map_congr_left fun r hr=>A0.bZ h r (hk r hr)]
 | .dead,_=>rfl
theorem Ref.aZ (h: ∀m,Kn m->Ag m): ∀(r:Ref),r.ok Kn->r.ok Ag
 | .ext _,_=>trivial
 | .loc _ _,hk=>h _ hk
 | .elem _ _,hk=>h _ hk
 | .full _,hk=>h _ hk
 | .mp _,hk=>h _ hk
theorem Cell.aZ (h: ∀m,Kn m->Ag m): ∀(c:Cell),c.ok Kn->c.ok Ag
 | .raw _,_=>trivial
 | .ptr _ _,hk=>h _ hk
 | .sl _ _ _ _,hk=>h _ hk
 | .jE _ _,hk=>h _ hk
 | .full _,hk=>h _ hk
 | .cx _ _ _,hk=>h _ hk
 | .fq _ _ _,hk=>h _ hk
 | .kq _ _ _,hk=>fun r hr=>Ref.aZ h r (hk r hr)
 | .zJ _,hk=>h _ hk
 | .mp _,hk=>h _ hk
 | .mv _ _ _,hk=>fun r hr=>Ref.aZ h r (hk r hr)
theorem A0.aZ (h: ∀m,Kn m->Ag m): ∀(a:A0),a.ok Kn->a.ok Ag
 | .one c,hk=>Cell.aZ h c hk
 | .agg _,hk=>fun c hc=>Cell.aZ h c (hk c hc)
theorem AV.aZ (h: ∀m,Kn m->Ag m): ∀(a:AV),a.ok Kn->a.ok Ag
 | .v a,hk=>A0.aZ h a hk
 | .oP _,hk=>fun a ha=>A0.aZ h a (hk a ha)
 | .dead,_=>trivial
theorem aG.aZ (h: ∀m,Kn m->Ag m): ∀(o:aG),o.ok Kn->o.ok Ag
 | .cells _ _,hk=>fun c hc=>Cell.aZ h c (hk c hc)
 | .row _ _ _,_=>trivial
 | .alias _ _ _,hk=>h _ hk
 | .gone,_=>trivial
 | .loop _ _ _,_=>trivial
 | .de _ _,hk=>fun m hm=>h m (hk m hm)
 | .eZ _,_=>trivial
 | .map _ _ _ _ _,_=>trivial
 | .mh _ _ _ _ _ _,hk=>h _ hk
 | .set _,hk=>h _ hk
 | .gv _ _ _ _ _ _,hk=>⟨h _ hk.1,h _ hk.2⟩
 | .rc _,hk=>fun c hc=>Cell.aZ h c (hk c hc)
 | .hmap _ _,_=>trivial
 | .sK _ _ _ _ _ _ _ _ _,hk=>⟨h _ hk.1,h _ hk.2.1,fun p hp=>h _ (hk.2.2 p hp)⟩
 | .dp _ _ _ _ _,hk=>h _ hk
 | .nv _ _ _ _ _,hk=>⟨h _ hk.1,h _ hk.2⟩
end
theorem zU (l:List Value) (ρ:Env):(l.map Cell.raw).map (Cell.af ρ)=l:=by
 induction l<;>simp_all [Cell.af]
theorem Fw (l:List Value) (Kn:Nat->Prop): ∀c∈l.map Cell.raw,c.ok Kn:=by
 intro c hc;obtain ⟨v,_,rfl⟩:=List.mem_map.1 hc;trivial
theorem MI (v:Value) (ρ:Env):(Ps v).af ρ=v:=by
 unfold Ps;split
 ·rename_i cs;simp only [A0.af,zU]
 ·rfl
theorem rT (v:Value) (ρ:Env):(RX v).af ρ=v:=MI v ρ
theorem RY (v:Value) (Kn:Nat->Prop):(Ps v).ok Kn:=by
 unfold Ps;split
 ·exact Fw _ _
 ·trivial
theorem xT (v:Value) (Kn:Nat->Prop):(RX v).ok Kn:=RY v Kn
theorem Cell.Av {c:Cell} (h:c.one=true) (ρ:Env):(c.af ρ).oneCell'=true:=by
 cases c with
 |raw v=>simp only [Cell.af,Value.oneCell'];cases v<;>simp_all [Cell.one,rU]
 |zJ n=>simp only [Cell.af];split<;>rfl
 |_=>rfl
theorem Cell.IC {c:Cell} (h:c.one=true) (ρ:Env):(c.af ρ).cells= #[c.af ρ]:=by
 have:=Cell.Av h ρ
 revert this;cases c.af ρ<;>simp [Value.cells,Value.oneCell']
theorem A0.gQ {a:A0} {cs:List Cell} (h:a.cells=some cs) (ρ:Env):(a.af ρ).cells=(cs.map (Cell.af ρ)).toArray:=by
 cases a with
 |one c=>
  simp only [A0.cells] at h;split at h<;>simp at h;subst h
  simp only [A0.af];rw [Cell.IC ‹_›];simp
 |agg l=>simp only [A0.cells,Option.some.injEq] at h;subst h;rfl
theorem AV.gQ {a:AV} {cs:List Cell} (h:a.cells=some cs) (ρ:Env):(a.af ρ).cells=(cs.map (Cell.af ρ)).toArray:=by
 cases a with
 |v a=>exact A0.gQ h ρ
 |oP l=>simp [AV.cells] at h
 |dead=>simp [AV.cells] at h
theorem AV.u9 {a:AV} {cs:List Cell} (h:a.cells=some cs) {Kn:Nat->Prop} (hk:a.ok Kn): ∀c∈cs,c.ok Kn:=by
 cases a with
 |v a=>
  cases a with
  |one c=>simp only [AV.cells,A0.cells] at h;split at h<;>simp at h;subst h;intro c' IP;simp at IP;subst IP;exact hk
  |agg l=>simp only [AV.cells,A0.cells,Option.some.injEq] at h;subst h;exact hk
 |oP l=>simp [AV.cells] at h
 |dead=>simp [AV.cells] at h
theorem nI: ∀(cs:List Cell),mO cs=true-> ∀(ρ:Env),∀v∈cs.map (Cell.af ρ),v.oneCell'=true
 | [],_,_=>by simp
 |c::r,h,ρ=>by
  simp only [mO] at h;split at h
  ·rename_i h1
   intro v hv
   simp only [List.map_cons,List.mem_cons] at hv
   rcases hv with rfl|hv
   ·exact Cell.Av h1 ρ
   ·exact nI r h ρ v hv
  ·cases h
theorem Fr.refl (ax:iV) (W:World):Fr ax W W:=⟨rfl,rfl,rfl,Nat.le_refl _,fun _ _ _=>rfl,Nat.le_refl _⟩
theorem Fr.trans {ax:iV} {W w w':World} (h:Fr ax W w) (h':Fr ax w w'):Fr ax W w':=
 ⟨h'.os.trans h.os,h'.tape.trans h.tape,h'.output.trans h.output,Nat.le_trans h.size h'.size,fun k hk hn=>(h'.block k (Nat.lt_of_lt_of_le hk h.size) hn).trans (h.block k hk hn),Nat.le_trans h.FJ h'.FJ⟩
theorem Fr.alloc {ax:iV} {W w:World} (h:Fr ax W w) (o:Obj):Fr ax W (w.alloc o):=
 ⟨h.os,h.tape,h.output,by have:=h.size;simp;omega,fun k hk hn=>(Below.heap_alloc w o k (by have:=h.size;omega)).trans (h.block k hk hn),h.FJ⟩
theorem Fr.drawn {ax:iV} {W w:World} (h:Fr ax W w) (n:Nat) (hn:w.drawn<=n):Fr ax W {w with drawn:=n} :=⟨h.os,h.tape,h.output,h.size,h.block,Nat.le_trans h.FJ hn⟩
theorem eX.mono {w w':World} {ok Te:Nat->Prop} {s:Option Addr×Nat} {u:Ty} {l:List u.T} (h:eX w ok s u l) (hok: ∀b,ok b->Te b/\ w'.heap[b]? =w.heap[b]?):eX w' Te s u l:=by
 refine ⟨h.1,h.2.1,fun i v hv=> ?_⟩
 obtain ⟨a,h1,h2,h3⟩:=h.2.2 i v hv
 obtain ⟨h4,h5⟩:=hok _ h3
 exact ⟨a,h1,by rw [<- h2];exact World.cell?_of_block (by rw [show (a.add i).block=a.block by unfold Addr.add;split<;>rfl];exact h5),h4⟩
theorem dz (a:Addr) (i:Nat):(a.add i).block=a.block:=by unfold Addr.add;split<;>rfl
theorem bJ (sub:Nat->Option Addr×Nat): ∀(q:Nat) (cs:List cn),(aA sub q cs).length=cs.length
 |_,[]=>rfl
 |q,c::r=>by simp [aA,bJ sub (q+1) r]
theorem aO: ∀(t:Ty) (x:t.T),(t.aI x).length=t.size
 | .int _,_=>rfl
 | .bool,_=>rfl
 | .str,_=>rfl
 | .prod a b,x=>by simp [Ty.aI,Ty.size,aO a,aO b]
 | .sl _,_=>rfl
theorem Ty.size_pos: ∀(t:Ty),0<t.size
 | .int _=>Nat.one_pos
 | .bool=>Nat.one_pos
 | .str=>Nat.one_pos
 | .prod a _=>Nat.lt_of_lt_of_le (Ty.size_pos a) (Nat.le_add_right _ _)
 | .sl _=>Nat.one_pos
theorem bn (t:Ty): ∀(l:List t.T),(ak t l).length=l.length*t.size
 | []=>by simp [ak]
 |x::r=>by
  have:=bn t r
  simp only [ak,List.flatMap_cons,List.length_append,aO,List.length_cons] at this ⊢
  rw [this,Nat.add_mul];omega
theorem lU.keep {fz pm QG pm':Nat->Prop} {w w':World} {o:Loc} {t:Ty} {l:List t.T} {rk:Nat} {sub:Nat->Option Addr×Nat} (h:lU fz pm w o t l rk sub)
  (hfz: ∀b,fz b->QG b/\ w'.heap[b]? =w.heap[b]?) (YU: ∀b,fz b->pm b->pm' b) (hw: ∀b,o.bt=some b->w'.heap[b]? =w.heap[b]?):lU QG pm' w' o t l rk sub:=by
 obtain ⟨h1,h2,h3,h4⟩:=h
 refine ⟨fun i v hv=> ?_,fun q u l' hq=>(h2 q u l' hq).mono fun b hb=>⟨⟨(hfz b hb.1).1,fun e=>⟨YU b hb.1 (hb.2 e).1,(hb.2 e).2.same (hfz b hb.1).2⟩⟩,(hfz b hb.1).2⟩,h3,fun e=> ?_⟩
 ·obtain ⟨a,e1,e2,e3⟩:=h1 i v hv
  refine ⟨a,e1,?_,fun e=>(hfz _ (e3 e)).1⟩
  rw [<- e2]
  refine World.cell?_of_block ?_
  rw [dz]
  by_cases e:rk=0
  ·exact (hfz _ (e3 e)).2
  ·rcases h4 e with ⟨_,e4,_⟩|⟨b,pre,rest,e,e4,e5,_⟩
   ·rw [List.eq_nil_of_length_eq_zero e4] at hv;simp [ak,aA] at hv
   ·rw [e1] at e5;cases e5;exact hw _ e4
 ·exact (h4 e).keep hw
theorem ct {fz pm QG pm':Nat->Prop} {ρ ρ':Env} {Kn:Nat->Prop} {n:Nat} {o:aG} {w w':World} (h:aX fz pm ρ n o w) (hρ: ∀m,Kn m->ρ' m=ρ m) (hn:Kn n) (ho:o.ok Kn)
  (hfz: ∀b,fz b->QG b/\ w'.heap[b]? =w.heap[b]?) (YU: ∀b,fz b->pm b->pm' b) (hwH: ∀b,(ρ n).has b->w'.heap[b]? =w.heap[b]?):aX QG pm' ρ' n o w':=by
 have hw: ∀b,(ρ n).bt=some b->w'.heap[b]? =w.heap[b]? :=fun b hb=>hwH b (.inl hb)
 cases o with
 |cells cs e=>
  obtain ⟨b,hb,hh⟩:=h
  exact ⟨b,by rw [hρ n hn,hb],by rw [hw b hb,hh,qZ hρ cs ho]⟩
 |row t l rk=>
  obtain ⟨h1,h2,h3,sub,h4⟩:=h
  rw [aX,hρ n hn]
  exact ⟨h1,h2,h3,sub,h4.keep hfz YU hw⟩
 |alias m s q=>
  have hm:=hρ m ho
  rw [aX,hρ n hn,hm];exact h
 |gone=>exact h.elim
 |loop r s j=>
  obtain ⟨b,hb,hh⟩:=h
  exact ⟨b,by rw [hρ n hn,hb],by rw [hw b hb,hh]⟩
 |de dH n0=>
  obtain ⟨h1,h2⟩:=h
  exact ⟨by rw [hρ n hn,h1],fun m hm=>by rw [hρ m (ho m hm)];exact h2 m hm⟩
 |eZ S=>rw [aX,hρ n hn];exact h
 |map ka va k v l=>
  obtain ⟨h1,h2,b,es,dI,hb,hh,he⟩:=h
  exact ⟨h1,h2,b,es,dI,by rw [hρ n hn,hb],by rw [hw b hb,hh],he⟩
 |mh ka k u l c q=>
  obtain ⟨h1,h2,h3,b,es,dI,hb,hh,he⟩:=h
  exact ⟨h1,h2,h3,b,es,dI,by rw [hρ n hn,hb],by rw [hw b hb,hh],by rw [hρ c ho];exact he⟩
 |set m=>
  obtain ⟨h1,h2,h3⟩:=h
  rw [aX,hρ n hn]
  refine ⟨h1,fun e he=> ?_,h3⟩
  rcases h2 e he with h4|⟨b,rest,t,h4,h5,h6,h7⟩
  ·exact .inl h4
  ·exact .inr ⟨b,rest,t,h4,h5,by rw [hwH b (.inr ⟨e,he,h4⟩)];exact h6,h7⟩
 |gv m c k u x l=>
  rw [aX,hρ n hn,hρ c ho.2];exact h
 |rc cs=>
  rw [aX,hρ n hn]
  refine ⟨h.1,fun i c hc=> ?_⟩
  obtain ⟨a,h1,h2,h3⟩:=h.2 i c hc
  obtain ⟨h4,h5⟩:=hfz _ h3
  exact ⟨a,h1,by rw [Cell.bZ hρ c (ho c (List.mem_of_getElem? hc)),<- h2];exact World.cell?_of_block (by rw [dz];exact h5),h4⟩
 |hmap es dI=>
  obtain ⟨b,hb,hh⟩:=h
  exact ⟨b,by rw [hρ n hn,hb],by rw [hw b hb,hh]⟩
 |dp t l c st kn=>
  rw [aX,hρ n hn,hρ c ho];exact h
 |nv m c j q u=>
  rw [aX,hρ n hn,hρ m ho.1,hρ c ho.2];exact h
 |sK m c es dI ka k u l cur=>
  obtain ⟨h1,h2,h3,b,since,seen,c0,hb,hh,h4,h5,h6,h7,h8,h9⟩:=h
  refine ⟨h1,h2,h3,b,since,seen,c0,by rw [hρ n hn,hb],by rw [hw b hb,hh,hρ m ho.1],by rw [hρ m ho.1];exact h4,h5,h6,h7,by rw [hρ c ho.2.1];exact h8,fun p hp=> ?_⟩
  obtain ⟨a1,seen',e,a2,a3,a4,a5⟩:=h9 p hp
  exact ⟨a1,seen',e,a2,a3,a4,by rw [hρ p.2 (ho.2.2 p hp)];exact a5⟩
theorem Bu {fz pm:Nat->Prop} {ρ:Env} {n b:Nat} {o:aG} {w:World} (h:aX fz pm ρ n o w) (hb:(ρ n).bt=some b):b<w.heap.size:=by
 cases o with
 |cells cs e=>
  obtain ⟨b',hb',hh⟩:=h
  rw [hb] at hb';cases hb';exact (Array.getElem?_eq_some_iff.1 hh).1
 |row t l rk=>
  obtain ⟨_,_,_,sub,_,_,h3,h4⟩:=h
  by_cases e:rk=0
  ·rw [h3 e] at hb;cases hb
  ·rcases h4 e with ⟨h5,_⟩|⟨b',pre,rest,e,h5,_,h6,_⟩
   ·rw [h5] at hb;cases hb
   ·rw [hb] at h5;cases h5;exact (Array.getElem?_eq_some_iff.1 h6).1
 |alias m s q=>rw [h.1] at hb;cases hb
 |gone=>exact h.elim
 |loop r s j=>
  obtain ⟨b',hb',hh⟩:=h
  rw [hb] at hb';cases hb';exact (Array.getElem?_eq_some_iff.1 hh).1
 |de dH n0=>
  obtain ⟨h1,_⟩:=h
  rw [h1] at hb;cases hb
 |eZ S=>rw [show (ρ n).bt=none from h] at hb;cases hb
 |map ka va k v l=>
  obtain ⟨_,_,b',es,dI,hb',hh,_⟩:=h
  rw [hb] at hb';cases hb';exact (Array.getElem?_eq_some_iff.1 hh).1
 |mh ka k u l c q=>
  obtain ⟨_,_,_,b',es,dI,hb',hh,_⟩:=h
  rw [hb] at hb';cases hb';exact (Array.getElem?_eq_some_iff.1 hh).1
 |set m=>rw [h.1] at hb;cases hb
 |gv m c k u x l=>rw [h.1] at hb;cases hb
 |rc cs=>rw [h.1] at hb;cases hb
 |dp t l c st kn=>rw [h.1] at hb;cases hb
 |nv m c j q u=>rw [h.1] at hb;cases hb
 |hmap es dI=>
  obtain ⟨b',hb',hh⟩:=h
  rw [hb] at hb';cases hb';exact (Array.getElem?_eq_some_iff.1 hh).1
 |sK m c es dI ka k u l cur=>
  obtain ⟨_,_,_,b',_,_,_,hb',hh,_⟩:=h
  rw [hb] at hb';cases hb';exact (Array.getElem?_eq_some_iff.1 hh).1
section
variable {ax:iV} {W:World} {ρ:Env} {Kn:Nat->Prop} {Γ:HP} {w:World}
theorem St.V1 (h:St ax W ρ Kn Γ w) (n b:Nat) (hn:(Γ n).isSome=true) (hb:(ρ n).has b):(ρ n).bt=some b\/ bg w b:=by
 obtain ⟨o,ho⟩:=Option.isSome_iff_exists.1 hn
 rcases h.qI n o ho with ⟨m,rfl⟩|he
 ·obtain ⟨h1,h2,_⟩:=h.at_ n _ ho
  rcases hb with hb|⟨e,he,hb⟩
  ·exact .inl hb
  ·rcases h2 e he with ⟨h3,_⟩|⟨b',rest,t,h3,_,h4,_⟩
   ·rw [h3] at hb;cases hb
   ·rw [h3] at hb;cases hb;exact .inr ⟨_,_,_,h4⟩
 ·exact .inl ((rD he).1 hb)
theorem St.lt (h:St ax W ρ Kn Γ w) (n b:Nat) (hn:(Γ n).isSome=true) (hb:(ρ n).has b):b<w.heap.size:=by
 obtain ⟨o,ho⟩:=Option.isSome_iff_exists.1 hn
 rcases h.qI n o ho with ⟨m,rfl⟩|he
 ·obtain ⟨h1,h2,_⟩:=h.at_ n _ ho
  rcases hb with hb|⟨e,he,hb⟩
  ·rw [h1] at hb;cases hb
  ·rcases h2 e he with ⟨h3,_⟩|⟨b',rest,t,h3,_,h4,_⟩
   ·rw [h3] at hb;cases hb
   ·rw [h3] at hb;cases hb;exact (Array.getElem?_eq_some_iff.1 h4).1
 ·exact Bu (h.at_ n o ho) ((rD he).1 hb)
theorem MG {fz pm:Nat->Prop} {ρ:Env} {n b:Nat} {o:aG} {w:World} (h:aX fz pm ρ n o w) (hb:(ρ n).bt=some b):Ex w b:=by
 have no: ∀ {b':Nat} {x:Obj},(ρ n).bt=some b'->w.heap[b']? =some x->(∀cs e f,x= .cells cs e f->f=(0,0))->Ex w b:=fun h1 h2 h3 cs e f h4=>by
  rw [hb] at h1;cases h1;rw [h2] at h4;cases h4;exact h3 _ _ _ rfl
 cases o with
 |cells cs e=>
  obtain ⟨b',hb',hh⟩:=h
  exact no hb' hh fun _ _ _ e=>by cases e;rfl
 |row t l rk=>
  obtain ⟨_,_,_,sub,_,_,h3,h4⟩:=h
  by_cases e:rk=0
  ·rw [h3 e] at hb;cases hb
  ·rcases h4 e with ⟨h5,_⟩|⟨b',pre,rest,e,h5,_,h6,_⟩
   ·rw [h5] at hb;cases hb
   ·exact no h5 h6 fun _ _ _ e=>by cases e;rfl
 |alias m s q=>rw [h.1] at hb;cases hb
 |gone=>exact h.elim
 |loop r s j=>
  obtain ⟨b',hb',hh⟩:=h
  exact no hb' hh fun _ _ _ e=>by cases e
 |de dH n0=>rw [h.1] at hb;cases hb
 |eZ S=>rw [show (ρ n).bt=none from h] at hb;cases hb
 |map ka va k v l=>
  obtain ⟨_,_,b',es,dI,hb',hh,_⟩:=h
  exact no hb' hh fun _ _ _ e=>by cases e
 |mh ka k u l c q=>
  obtain ⟨_,_,_,b',es,dI,hb',hh,_⟩:=h
  exact no hb' hh fun _ _ _ e=>by cases e
 |set m=>rw [h.1] at hb;cases hb
 |gv m c k u x l=>rw [h.1] at hb;cases hb
 |rc cs=>rw [h.1] at hb;cases hb
 |dp t l c st kn=>rw [h.1] at hb;cases hb
 |nv m c j q u=>rw [h.1] at hb;cases hb
 |hmap es dI=>
  obtain ⟨b',hb',hh⟩:=h
  exact no hb' hh fun _ _ _ e=>by cases e
 |sK m c es dI ka k u l cur=>
  obtain ⟨_,_,_,b',_,_,_,hb',hh,_⟩:=h
  exact no hb' hh fun _ _ _ e=>by cases e
theorem St.Zw (h:St ax W ρ Kn Γ w) (n b:Nat) (hn:(Γ n).isSome=true) (hb:(ρ n).bt=some b):Ex w b:=by
 obtain ⟨o,ho⟩:=Option.isSome_iff_exists.1 hn
 exact MG (h.at_ n o ho) hb
theorem Bk {w w':World} {b:Nat} (hb:b<w.heap.size) (h:w'.heap[b]? =w.heap[b]?):b<w'.heap.size:=by
 rcases Nat.lt_or_ge b w'.heap.size with h1|h1
 ·exact h1
 ·rw [Array.getElem?_eq_none h1,Array.getElem?_eq_getElem hb] at h;cases h
theorem bg.same {w w':World} {b:Nat} (h:bg w b) (e:w'.heap[b]? =w.heap[b]?):bg w' b:=by
 obtain ⟨cs,t,f,h⟩:=h
 exact ⟨cs,t,f,e.trans h⟩
theorem St.world {w':World} (h:St ax W ρ Kn Γ w) (hf:Fr ax W w') (hw: ∀b,b<w.heap.size->w'.heap[b]? =w.heap[b]?):St ax W ρ Kn Γ w':=
 ⟨hf,fun n o hn=>ct (Kn:=Kn) (h.at_ n o hn) (fun _ _=>rfl) (h.kn n o hn).1 (h.kn n o hn).2 (fun b hb=>⟨⟨hb.1.same (hw b hb.1.lt),hb.2⟩,hw b hb.1.lt⟩) (fun _ _ h=>h) fun b hb=>hw b (h.lt n b (by rw [hn];rfl) hb),h.kn,h.cW,h.jR,fun b hb=>⟨Bk (h.rH b hb).1 (hw b (h.rH b hb).1),(h.rH b hb).2⟩,h.qI⟩
theorem St.drawn (h:St ax W ρ Kn Γ w) (n:Nat) (hn:w.drawn<=n):St ax W ρ Kn Γ {w with drawn:=n} :=h.world (h.fr.drawn n hn) fun _ _=>rfl
def aV (ρ:Env) (n:Nat) (x:Loc):Env:=fun m=>if m=n then x else ρ m
def bN (Γ:HP) (n:Nat) (o:aG):HP:=fun m=>if m=n then some o else Γ m
def sM (Kn:Nat->Prop) (n:Nat):Nat->Prop:=fun m=>Kn m\/ m=n
theorem cD {nm:Nat} {x:Loc} (hn: ¬Kn nm): ∀m,Kn m->aV ρ nm x m=ρ m:=fun m hm=>by
 unfold aV;rw [if_neg (by rintro rfl;exact hn hm)]
theorem St.Tk {nm:Nat} {x:Loc} {o:aG} {G:List Nat} {ow:HP} {w1:World} (h:St ax W ρ Kn Γ w) (hn: ¬Kn nm) (hf:Fr ax W w1)
  (hw: ∀b,b<w.heap.size-> ¬x.has b->w1.heap[b]? =w.heap[b]?)
  (hb: ∀b,x.has b->(w.heap.size<=b\/ ∃g,g∈G/\ (Γ g).isSome=true/\ (ρ g).has b)/\ (W.heap.size<=b\/ ax b)) (hxe:(∃m,o= .set m)\/ x.bT= [])
  (bV: ∀m p,ow m=some p->(m=nm/\ p=o)\/ (m≠nm/\ m∉G/\ Γ m=some p))
  (hok:o.ok (sM Kn nm)) (hno: ∀S,o≠ .eZ S) (bz:(∀b,eo ρ Γ w b->eo (aV ρ nm x) ow w1 b/\ w1.heap[b]? =w.heap[b]?)->(∀g b,g∈G->(Γ g).isSome=true->(ρ g).has b-> ¬x.has b->bg w b-> ¬HI Γ b->eo (aV ρ nm x) ow w1 b)->aX (eo (aV ρ nm x) ow w1) (qP ax W) (aV ρ nm x) nm o w1):
  St ax W (aV ρ nm x) (sM Kn nm) ow w1:=by
 have hold:=cD (ρ:=ρ) (x:=x) hn
 have jL:aV ρ nm x nm=x:=by simp [aV]
 have hkn: ∀n,(Γ n).isSome=true->Kn n:=fun n hs=>by obtain ⟨o,ho⟩:=Option.isSome_iff_exists.1 hs;exact (h.kn n o ho).1
 have hlt: ∀n b,(Γ n).isSome=true->(ρ n).has b->b<w.heap.size:=fun n b hs hb=>h.lt n b hs hb
 have hs: ∀m,(ow m).isSome=true->m=nm\/ (m≠nm/\ m∉G/\ (Γ m).isSome=true):=fun m hm=>by
  obtain ⟨p,hp⟩:=Option.isSome_iff_exists.1 hm
  rcases bV m p hp with ⟨e,_⟩|⟨e1,e2,e3⟩
  ·exact .inl e
  ·exact .inr ⟨e1,e2,by rw [e3];rfl⟩
 have qG: ∀b,HI ow b->HI Γ b:=fun b ⟨m,S,h1,h2⟩=>by
  rcases bV m _ h1 with ⟨_,e⟩|⟨_,_,e⟩
  ·exact absurd e.symm (hno S)
  ·exact ⟨m,S,e,h2⟩
 have hfree: ∀b,eo ρ Γ w b-> ¬x.has b:=fun b hf hx=>by
  rcases (hb b hx).1 with h1|⟨g,_,h2,h3⟩
  ·exact absurd hf.1.lt (by omega)
  ·exact hf.2 (.inl ⟨g,h2,h3⟩)
 have hfz: ∀b,eo ρ Γ w b->eo (aV ρ nm x) ow w1 b/\ w1.heap[b]? =w.heap[b]? :=fun b hf=>by
  have e:=hw b hf.1.lt (hfree b hf)
  refine ⟨⟨hf.1.same e,?_⟩,e⟩
  rintro (⟨m,h1,h2⟩|hh)
  ·rcases hs m h1 with rfl|⟨_,_,h5⟩
   ·rw [jL] at h2;exact hfree b hf h2
   ·rw [hold m (hkn m h5)] at h2
    exact hf.2 (.inl ⟨m,h5,h2⟩)
  ·exact hf.2 (.inr (qG b hh))
 have Gq: ∀g b,g∈G->(Γ g).isSome=true->(ρ g).has b-> ¬x.has b->bg w b-> ¬HI Γ b->eo (aV ρ nm x) ow w1 b:=fun g b hg h1 h2 hx hl hnh=>by
  refine ⟨hl.same (hw b hl.lt hx),?_⟩
  rintro (⟨m,h3,h4⟩|hh)
  ·rcases hs m h3 with rfl|⟨_,h5,h6⟩
   ·rw [jL] at h4;exact hx h4
   ·rw [hold m (hkn m h6)] at h4
    exact h5 (h.cW m g b h6 h1 h4 h2▸hg)
  ·exact hnh (qG b hh)
 have Mh: ∀m b,m∉G->(Γ m).isSome=true->(ρ m).has b-> ¬x.has b:=fun m b h1 h2 h3 hx=>by
  rcases (hb b hx).1 with h4|⟨g,h5,h6,h7⟩
  ·exact absurd (hlt m b h2 h3) (by omega)
  ·exact h1 (h.cW m g b h2 h6 h3 h7▸h5)
 have hxh: ∀b,HI Γ b-> ¬x.has b:=fun b hh hx=>by
  obtain ⟨h1,h2⟩:=h.rH b hh
  rcases (hb b hx).1 with h3|⟨g,_,h4,h5⟩
  ·omega
  ·exact h2 ⟨g,h4,h5⟩
 refine ⟨hf,fun n p hp=> ?_,fun n p hp=> ?_,fun n m b kC Dg fg fV=> ?_,fun n b kC fg=> ?_,fun b hh=> ?_,fun n p hp=> ?_⟩
 rotate_right
 ·rcases bV n p hp with ⟨rfl,rfl⟩|⟨e1,e2,e3⟩
  ·rw [jL];exact hxe
  ·rw [hold n (h.kn n p e3).1];exact h.qI n p e3
 rotate_right
 ·have hh:=qG b hh
  obtain ⟨h1,h2⟩:=h.rH b hh
  refine ⟨Bk h1 (hw b h1 (hxh b hh)),?_⟩
  rintro ⟨m,h3,h4⟩
  rcases hs m h3 with rfl|⟨_,_,h6⟩
  ·rw [jL] at h4;exact hxh b hh h4
  ·rw [hold m (hkn m h6)] at h4
   exact h2 ⟨m,h6,h4⟩
 ·rcases bV n p hp with ⟨rfl,rfl⟩|⟨e1,e2,e3⟩
  ·exact bz hfz Gq
  ·have hk:=h.kn n p e3
   exact ct (h.at_ n p e3) hold hk.1 hk.2 hfz (fun _ _ h=>h) fun b hb'=>hw b (h.lt n b (by rw [e3];rfl) hb') (Mh n b e2 (by rw [e3];rfl) hb')
 ·rcases bV n p hp with ⟨rfl,rfl⟩|⟨e1,e2,e3⟩
  ·exact ⟨.inr rfl,hok⟩
  ·have hk:=h.kn n p e3
   exact ⟨.inl hk.1,aG.aZ (fun _=> .inl) p hk.2⟩
 ·rcases hs n kC with rfl|⟨e1,e2,e3⟩
  ·rcases hs m Dg with rfl|⟨e4,e5,e6⟩
   ·rfl
   ·rw [jL] at fg
    rw [hold m (hkn m e6)] at fV
    exact absurd fg (Mh m b e5 e6 fV)
  ·rw [hold n (hkn n e3)] at fg
   rcases hs m Dg with rfl|⟨e4,e5,e6⟩
   ·rw [jL] at fV
    exact absurd fV (Mh n b e2 e3 fg)
   ·rw [hold m (hkn m e6)] at fV
    exact h.cW n m b e3 e6 fg fV
 ·rcases hs n kC with rfl|⟨e1,e2,e3⟩
  ·rw [jL] at fg;exact (hb b fg).2
  ·rw [hold n (hkn n e3)] at fg
   exact h.jR n b e3 fg
theorem St.swap {nm:Nat} {x:Loc} {o:aG} {G:List Nat} {ow:HP} {w1:World} (h:St ax W ρ Kn Γ w) (hn: ¬Kn nm) (hf:Fr ax W w1)
  (hw: ∀b,b<w.heap.size->x.bt≠some b->w1.heap[b]? =w.heap[b]?)
  (hb: ∀b,x.bt=some b->(w.heap.size<=b\/ ∃g,g∈G/\ (Γ g).isSome=true/\ (ρ g).bt=some b)/\ (W.heap.size<=b\/ ax b))
  (bV: ∀m p,ow m=some p->(m=nm/\ p=o)\/ (m≠nm/\ m∉G/\ Γ m=some p))
  (hok:o.ok (sM Kn nm)) (hno: ∀S,o≠ .eZ S) (bz:(∀b,eo ρ Γ w b->eo (aV ρ nm x) ow w1 b/\ w1.heap[b]? =w.heap[b]?)->(∀g b,g∈G->(Γ g).isSome=true->(ρ g).bt=some b->x.bt≠some b->bg w b-> ¬HI Γ b->eo (aV ρ nm x) ow w1 b)->aX (eo (aV ρ nm x) ow w1) (qP ax W) (aV ρ nm x) nm o w1) (he:x.bT= []:=by rfl):
  St ax W (aV ρ nm x) (sM Kn nm) ow w1:=
 h.Tk hn hf (fun b hb hx=>hw b hb fun e=>hx (.inl e)) (fun b hx=>by
  obtain ⟨h1,h2⟩:=hb b ((rD he).1 hx)
  exact ⟨h1.imp id fun ⟨g,a,c,d⟩=>⟨g,a,c,.inl d⟩,h2⟩) (.inr he) bV hok hno fun h1 h2=>bz h1 fun g b h3 h4 h5 h6 h7 h8=>h2 g b h3 h4 (.inl h5) (fun hx=>h6 ((rD he).1 hx)) h7 h8
theorem St.alloc {nm:Nat} {cs:List Cell} {e:TypeId} (h:St ax W ρ Kn Γ w) (hn: ¬Kn nm) (hcs: ∀c∈cs,c.ok Kn):
  St ax W (aV ρ nm {bt:=some w.heap.size}) (sM Kn nm) (bN Γ nm (.cells cs e)) (w.alloc (.cells (cs.map (Cell.af ρ)).toArray e (0,0))):=by
 have hsz:=h.fr.size
 refine h.swap (G:= []) (o:= .cells cs e) hn (h.fr.alloc _) (fun b hb _=>Below.heap_alloc _ _ _ hb) (fun b hb=> ?_) (fun m p hp=> ?_) (fun c hc=>Cell.aZ (fun _=> .inl) c (hcs c hc)) (fun _ h=>by cases h) fun _ _=> ?_
 ·cases hb;exact ⟨.inl (Nat.le_refl _),.inl hsz⟩
 ·unfold bN at hp
  split at hp
  ·rename_i e1;cases hp;exact .inl ⟨e1,rfl⟩
  ·rename_i e1;exact .inr ⟨e1,by simp,hp⟩
 ·exact ⟨w.heap.size,by simp [aV],by
   rw [qZ (cD hn) cs hcs];show (w.heap.push _)[w.heap.size]? =_;simp⟩
theorem St.ql {ρ':Env} {Ag:Nat->Prop} {ow:HP} (h:St ax W ρ Kn Γ w) (hρ: ∀m,Kn m->ρ' m=ρ m) (hK: ∀m,Kn m->Ag m)
  (hsub: ∀x b,(ow x).isSome=true->(ρ' x).has b-> ∃y,(Γ y).isSome=true/\ (ρ y).has b)
  (hinj: ∀x y b,(ow x).isSome=true->(ow y).isSome=true->(ρ' x).has b->(ρ' y).has b->x=y)
  (qG: ∀b,HI ow b->HI Γ b)
  (Uh: ∀x o,ow x=some o->Γ x=some o\/ (Ag x/\ o.ok Ag/\ ((∃m,o= .set m)\/ (ρ' x).bT= [])/\ ((∀b,eo ρ Γ w b->eo ρ' ow w b)->aX (eo ρ' ow w) (qP ax W) ρ' x o w))):St ax W ρ' Ag ow w:=by
 have hL: ∀b,QE ρ' ow b->QE ρ Γ b:=fun b ⟨m,h1,h2⟩=>hsub m b h1 h2
 have hfz: ∀b,eo ρ Γ w b->eo ρ' ow w b:=fun b hb=>⟨hb.1,fun q=>hb.2 (q.imp (hL b) (qG b))⟩
 refine ⟨h.fr,fun n o hn=> ?_,fun n o hn=> ?_,hinj,fun n b h1 h2=> ?_,fun b hb=> ?_,fun n o hn=> ?_⟩
 ·rcases Uh n o hn with h1|⟨_,_,_,h1⟩
  ·exact ct (Kn:=Kn) (h.at_ n o h1) hρ (h.kn n o h1).1 (h.kn n o h1).2 (fun b hb=>⟨hfz b hb,rfl⟩) (fun _ _ h=>h) fun _ _=>rfl
  ·exact h1 hfz
 ·rcases Uh n o hn with h1|⟨h1,h2,_,_⟩
  ·exact ⟨hK _ (h.kn n o h1).1,aG.aZ hK o (h.kn n o h1).2⟩
  ·exact ⟨h1,h2⟩
 ·obtain ⟨y,h3,h4⟩:=hsub n b h1 h2
  exact h.jR y b h3 h4
 ·obtain ⟨h1,h2⟩:=h.rH b (qG b hb)
  exact ⟨h1,fun q=>h2 (hL b q)⟩
 ·rcases Uh n o hn with h1|⟨_,_,h1,_⟩
  ·rw [hρ n (h.kn n o h1).1];exact h.qI n o h1
  ·exact h1
theorem iu {α:Type} : ∀(ys cs:List α) (off:Nat),off+ys.length<=cs.length->setCells cs off ys=cs.take off++ys++cs.drop (off+ys.length)
 | [],cs,off,_=>by simp [setCells]
 |y::r,cs,off,h=>by
  simp only [List.length_cons] at h
  rw [setCells,iu r _ _ (by simp;omega)]
  apply List.ext_getElem?
  intro j
  simp only [List.getElem?_append,List.length_append,List.length_take,List.length_set,List.getElem?_take,List.getElem?_set,List.getElem?_drop,List.length_cons]
  grind
theorem Fz (f:Cell->Value) (ys cs:List Cell) (off:Nat) (h:off+ys.length<=cs.length):
  (setCells cs off ys).map f=(cs.map f).take off++ys.map f++(cs.map f).drop (off+ys.length):=by
 rw [iu ys cs off h];simp
theorem qt {ys cs:List Cell} {off:Nat} (h:off+ys.length<=cs.length) {c:Cell} (hc:c∈setCells cs off ys):c∈cs\/ c∈ys:=by
 rw [iu ys cs off h] at hc
 simp only [List.mem_append] at hc
 rcases hc with (h1|h1)|h1
 ·exact .inl (List.mem_of_mem_take h1)
 ·exact .inr h1
 ·exact .inl (List.mem_of_mem_drop h1)
theorem Fr.setRow {w:World} (h:Fr ax W w) {b:Nat} (hb:W.heap.size<=b\/ ax b) (cs:Array Value):Fr ax W (w.setRow b cs):=
 ⟨h.os,h.tape,h.output,by rw [setRow_size];exact h.size,fun k hk hn=>(setRow_other w b k cs (by rintro rfl;exact hb.elim (fun h=>by omega) hn)).trans (h.block k hk hn),h.FJ⟩
theorem St.write {n b:Nat} {o o':aG} {cells:Array Value} (h:St ax W ρ Kn Γ w) (hn:Γ n=some o) (hb:(ρ n).bt=some b) (tG:o'.ok Kn) (hno: ∀S,o'≠ .eZ S)
  (bz:(∀b',eo ρ Γ w b'->eo ρ (bN Γ n o') (w.setRow b cells) b'/\ (w.setRow b cells).heap[b']? =w.heap[b']?)->aX (eo ρ (bN Γ n o') (w.setRow b cells)) (qP ax W) ρ n o' (w.setRow b cells)):St ax W ρ Kn (bN Γ n o') (w.setRow b cells):=by
 have hs: ∀m,(bN Γ n o' m).isSome=true->(Γ m).isSome=true:=fun m hm=>by
  unfold bN at hm;split at hm
  ·rename_i e;subst e;simp [hn]
  ·exact hm
 have qG: ∀b,HI (bN Γ n o') b->HI Γ b:=fun b ⟨m,S,h1,h2⟩=>by
  unfold bN at h1
  split at h1
  ·cases h1;exact absurd rfl (hno S)
  ·exact ⟨m,S,h1,h2⟩
 have hfz: ∀b',eo ρ Γ w b'->eo ρ (bN Γ n o') (w.setRow b cells) b'/\ (w.setRow b cells).heap[b']? =w.heap[b']? :=fun b' hf=>by
  have hne:b'≠b:=by rintro rfl;exact hf.2 (.inl ⟨n,by simp [hn],.inl hb⟩)
  refine ⟨⟨hf.1.same (setRow_other _ _ _ _ hne),?_⟩,setRow_other _ _ _ _ hne⟩
  rintro (⟨m,h1,h2⟩|⟨m,S,h1,h2⟩)
  ·exact hf.2 (.inl ⟨m,hs m h1,h2⟩)
  ·exact hf.2 (.inr (qG b' ⟨m,S,h1,h2⟩))
 refine ⟨h.fr.setRow (h.own n b (by simp [hn]) hb) _,fun m p hp=> ?_,fun m p hp=> ?_,fun m m' c hm hm' fg fV=>h.cW m m' c (hs m hm) (hs m' hm') fg fV,fun m c hm hc=>h.jR m c (hs m hm) hc,fun c hc=> ?_,fun m p hp=> ?_⟩
 rotate_right
 ·unfold bN at hp
  split at hp
  ·rename_i e;subst e
   rcases h.qI m o hn with ⟨g,rfl⟩|he
   ·have:=(h.at_ m _ hn).1
    rw [hb] at this;cases this
   ·exact .inr he
  ·exact h.qI m p hp
 rotate_right
 ·obtain ⟨h1,h2⟩:=h.rH c (qG c hc)
  exact ⟨by rw [setRow_size];exact h1,fun ⟨m,h3,h4⟩=>h2 ⟨m,hs m h3,h4⟩⟩
 ·unfold bN at hp;split at hp
  ·rename_i e;subst e;cases hp;exact bz hfz
  ·rename_i e
   refine ct (Kn:=Kn) (h.at_ m p hp) (fun _ _=>rfl) (h.kn m p hp).1 (h.kn m p hp).2 hfz (fun _ _ h=>h) fun c hc=>setRow_other _ _ _ _ ?_
   rintro rfl
   exact e (h.cW m n _ (by simp [hp]) (by simp [hn]) hc (.inl hb))
 ·unfold bN at hp;split at hp
  ·rename_i e;subst e;cases hp;exact ⟨(h.kn m o hn).1,tG⟩
  ·exact h.kn m p hp
end
def iQ (Kn:Nat->Prop) (nm:Nat) (r:Rec):Nat->Prop:=fun m=>Kn m\/ (nm<=m/\ m<nm+r.fresh.length)
def live:Option aG->Option aG
 |some .gone=>none
 |o=>o
def bW:List (Nat×aG)->Nat->Option aG
 | [],_=>none
 |(n,o)::r,m=>match bW r m with
  |some p=>some p
  |none=>if n=m then some o else none
def bB (r:Rec) (nm:Nat) (Γ:HP):HP:=fun m=>if nm<=m/\ m<nm+r.fresh.length then live (r.fresh[m- nm]?) else match bW r.writes m with
 |some o=>live (some o)
 |none=>Γ m
theorem fO (Kn:Nat->Prop) (nm:Nat) (v:AV) (ws:List (Nat×aG)) (tc:List Nat):iQ Kn nm {val:=v,writes:=ws,az:=tc} =Kn:=by
 funext m;simp [iQ];omega
theorem qb (Kn:Nat->Prop) (nm:Nat) (v:AV) (o:aG) (tc:List Nat):iQ Kn nm {val:=v,fresh:= [o],az:=tc} =sM Kn nm:=by
 funext m;simp only [iQ,sM,List.length_singleton];congr 1;apply propext;omega
theorem oV (Γ:HP) (nm:Nat) (v:AV) (tc:List Nat):bB {val:=v,az:=tc} nm Γ=Γ:=by
 funext m;simp [bB,bW];omega
theorem NH (Γ:HP) (nm:Nat) (v:AV) (cs:List Cell) (e:TypeId) (tc:List Nat):bB {val:=v,fresh:= [.cells cs e],az:=tc} nm Γ=bN Γ nm (.cells cs e):=by
 funext m;simp only [bB,bN,List.length_singleton,bW]
 by_cases h:m=nm
 ·subst h;simp [live]
 ·have: ¬(nm≤m∧m<nm+1):=by omega
  simp [h,this]
theorem kj (Γ:HP) (nm n:Nat) (v:AV) (o:aG) (tc:List Nat) (ho:live (some o)=some o):bB {val:=v,writes:= [(n,o)],az:=tc} nm Γ=bN Γ n o:=by
 funext m;simp only [bB,bN,bW,List.length_nil]
 have: ¬(nm<=m/\ m<nm+0):=by omega
 by_cases h:n=m
 ·subst h;rw [if_neg this];simp [ho]
 ·rw [if_neg this];simp [h,Ne.symm h]
def yf (ax:iV) (W:World) (X:Addr->Value->Prop):Prop:= ∀a v,X a v->a.block<W.heap.size/\ ¬ax a.block/\ W.cell? a=some v
theorem yf.cell {ax:iV} {W w:World} {X:Addr->Value->Prop} (h:yf ax W X) (hf:Fr ax W w) {a:Addr} {v:Value} (hx:X a v):w.cell? a=some v:=by
 obtain ⟨h1,h2,h3⟩:=h a v hx
 rw [<- h3];exact World.cell?_of_block (hf.block _ h1 h2)
section
variable (P:Program) (X:Addr->Value->Prop) (hp:HP) (nm:Nat)
def aL {α:Type} (yN:(Nat->Prop)->Prop) (f:Env->Sem α) (val:Env->α) (r:Rec):Prop:=
 (∀p∈r.writes,hp p.1≠none)/\ ∀ax W ρ Kn Γ w,yf ax W X->yN Kn->(∀m∈r.az,Γ m=hp m)->(∀i,i<r.fresh.length-> ¬Kn (nm+i))->St ax W ρ Kn Γ w->
  ∃ρ' w',(f ρ).run P w= .ok (val ρ') w'/\ (∀m,Kn m->ρ' m=ρ m)/\ r.val.ok (iQ Kn nm r)/\ St ax W ρ' (iQ Kn nm r) (bB r nm Γ) w'
variable {P X hp nm}
theorem aL.pure {α:Type} {yN:(Nat->Prop)->Prop} {f:Env->Sem α} {val:Env->α} {v:AV} {tc:List Nat}
  (h: ∀ax W ρ Kn Γ w,yf ax W X->yN Kn->(∀m∈tc,Γ m=hp m)->St ax W ρ Kn Γ w->(f ρ).run P w= .ok (val ρ) w/\ v.ok Kn):
  aL P X hp nm yN f val {val:=v,az:=tc} :=by
 refine ⟨fun p hp=>absurd hp (by simp),?_⟩
 intro ax W ρ Kn Γ w hX hk ht _ hst
 obtain ⟨h1,h2⟩:=h ax W ρ Kn Γ w hX hk ht hst
 exact ⟨ρ,w,h1,fun _ _=>rfl,by rw [fO];exact h2,by rw [fO,oV];exact hst⟩
end
end Go.Ev
