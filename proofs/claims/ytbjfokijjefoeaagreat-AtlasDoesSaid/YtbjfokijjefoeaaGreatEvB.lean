/- What a symbolic state says of the machine's memory, and that each operation does what 'opE' says. -/
import Derived.Test.YtbjfokijjefoeaaGreatEvA
import Derived.WalkKit
import Derived.OrdersIn
import Derived.RangeFuncCalls
noncomputable section
set_option linter.unusedSectionVars false
set_option linter.unusedVariables false
set_option linter.unusedSimpArgs false
namespace Go.Ev
open Go.RowKit
def fw (ro:Option Nat):Fence:= {fn:=fun _=>True,depth:=none,alive:=false,round:=ro}
structure kz where
 wr:Nat->Prop
 nw:Nat->Prop:=fun _=>False
instance:CoeFun kz fun _=>Nat->Prop:=⟨kz.wr⟩
def KS:kz:= {wr:=fun _=>False}
structure Fr (ax:kz) (W w:World):Prop where
 os:w.os=W.os
 tape:w.tape=W.tape
 output:w.output=W.output
 size:W.heap.size<=w.heap.size
 block: ∀k,k<W.heap.size-> ¬ax k->w.heap[k]? =W.heap[k]?
 QL:W.drawn<=w.drawn
def eX (s:Option Addr×Nat):ck->Value
 | .flat v=>v
 | .sl _ l=> .slice s.1 l.length s.2
def ak (t:Ty) (l:List t.T):List ck:=l.flatMap t.aJ
def aH (t:Ty) (l:List t.T):List Value:=(ak t l).map aL
def aD (sub:Nat->Option Addr×Nat):Nat->List ck->List Value
 |_,[]=> []
 |q,c::r=>eX (sub q) c::aD sub (q+1) r
def fm (w:World) (ok:Nat->Prop) (s:Option Addr×Nat) (u:Ty) (l:List u.T):Prop:=
 u.flat=true/\ l.length<=s.2/\ ∀i v,(aH u l)[i]? =some v-> ∃a,s.1=some a/\ w.cell? (a.add i)=some v/\ ok a.block
def gV (w:World) (o:Loc) (rk n s:Nat) (vals:List Value):Prop:=
 (o.bq=none/\ n=0/\ o.cap=0/\ (rk≠3->o.base=none))\/ ∃b pre rest e,o.bq=some b/\ o.base=some ⟨b,pre.length,none⟩/\ w.heap[b]? =some (.cells (pre++(vals++rest)).toArray e (0,0))/\ o.cap*s=(vals++rest).length/\ o.cap<=9223372036854775807/\ (rk≠3->pre= [])
theorem gV.old {w:World} {o:Loc} {rk s:Nat} {vals:List Value} {α:Type} {l:List α} (h:gV w o rk l.length s vals) (h3:rk≠3):(o.bq=none/\ l= []/\ o.cap=0/\ o.base=none)\/ ∃b rest e,o.bq=some b/\ o.base=some ⟨b,0,none⟩/\ w.heap[b]? =some (.cells (vals++rest).toArray e (0,0))/\ o.cap*s=(vals++rest).length/\ o.cap<=9223372036854775807:=by
 rcases h with ⟨h1,h2,Rl,h4⟩|⟨b,pre,rest,e,h1,h2,h4,h5,h6,h7⟩
 ·exact .inl ⟨h1,List.eq_nil_of_length_eq_zero h2,Rl,h4 h3⟩
 ·have:=h7 h3
  subst this
  exact .inr ⟨b,rest,e,h1,h2,h4,h5,h6⟩
theorem gV.new {w:World} {o:Loc} {rk s:Nat} {vals:List Value} {α:Type} {l:List α} (h:(o.bq=none/\ l= []/\ o.cap=0/\ o.base=none)\/ ∃b rest e,o.bq=some b/\ o.base=some ⟨b,0,none⟩/\ w.heap[b]? =some (.cells (vals++rest).toArray e (0,0))/\ o.cap*s=(vals++rest).length/\ o.cap<=9223372036854775807):gV w o rk l.length s vals:=by
 rcases h with ⟨h1,h2,h3,h4⟩|⟨b,rest,e,h1,h2,h3,h4,h5⟩
 ·exact .inl ⟨h1,by rw [h2];rfl,h3,fun _=>h4⟩
 ·exact .inr ⟨b,[],rest,e,h1,h2,h3,h4,h5,fun _=>rfl⟩
theorem gV.any {w:World} {o:Loc} {rk n s:Nat} {vals:List Value} (h:gV w o rk n s vals):gV w o 3 n s vals:=by
 rcases h with ⟨h1,h2,h3,h4⟩|⟨b,pre,rest,e,h1,h2,h3,h4,h5,h6⟩
 ·exact .inl ⟨h1,h2,h3,fun q=>absurd rfl q⟩
 ·exact .inr ⟨b,pre,rest,e,h1,h2,h3,h4,h5,fun q=>absurd rfl q⟩
theorem gV.keep {w w':World} {o:Loc} {rk n s:Nat} {vals:List Value} (h:gV w o rk n s vals) (hw: ∀b,o.bq=some b->w'.heap[b]? =w.heap[b]?):gV w' o rk n s vals:=by
 rcases h with h|⟨b,pre,rest,e,h1,h2,h3,h4⟩
 ·exact .inl h
 ·exact .inr ⟨b,pre,rest,e,h1,h2,by rw [hw _ h1];exact h3,h4⟩
def Stp (es:Array MapEntry) (dI:Nat):Prop:=(∀x∈es.toList,x.born<dI)/\ (es.toList.map (·.born)).Nodup
def Mi (w:World) (b:Nat):Prop:= ∀cs e f,w.heap[b]? =some (.cells cs e f)->f=(0,0)
theorem Mi.same {w w':World} {b:Nat} (h:Mi w b) (e:w'.heap[b]? =w.heap[b]?):Mi w' b:=fun cs t f hb=>h cs t f (e▸hb)
theorem Mi.of {w:World} {b:Nat} {cs:Array Value} {e:TypeId} (h:w.heap[b]? =some (.cells cs e (0,0))):Mi w b:=fun cs' e' f hb=>by rw [h] at hb;cases hb;rfl
def oz (fz pm:Nat->Prop) (w:World) (o:Loc) (t:Ty) (l:List t.T) (rk:Nat) (sub:Nat->Option Addr×Nat):Prop:=
 (∀i v,(aD sub 0 (ak t l))[i]? =some v-> ∃a,o.base=some a/\ w.cell? (a.add i)=some v/\ (rk=0->fz a.block))/\
 (∀q u l',(ak t l)[q]? =some (.sl u l')->fm w (fun b=>fz b/\ (rk=2->pm b/\ Mi w b)) (sub q) u l')/\
 (rk=0->o.bq=none)/\
 (rk≠0->gV w o rk l.length t.size (aD sub 0 (ak t l)))
def Loc.has (x:Loc) (b:Nat):Prop:=x.bq=some b\/ ∃e∈x.bW,e.bq=some b
@[simp] theorem jI {o:Option Nat} {a:Option Addr} {n c s b:Nat} :Loc.has ⟨o,a,n,c,s,[]⟩ b↔o=some b:=by simp [Loc.has]
theorem we {x:Loc} (h:x.bq=none/\ x.bW= []) {b:Nat} : ¬x.has b:=by
 rintro (h1|⟨e,h1,_⟩)
 ·rw [h.1] at h1;cases h1
 ·rw [h.2] at h1;cases h1
theorem vQ {x:Loc} (h:x.bW= []) {b:Nat} :x.has b↔x.bq=some b:=by simp [Loc.has,h]
def LOb (ρ:Env) (Γ:HP) (b:Nat):Prop:= ∃m,(Γ m).isSome=true/\ (ρ m).has b
def HI (Γ:HP) (b:Nat):Prop:= ∃m S,Γ m=some (.cK S)/\ S b
def LO (ρ:Env) (Γ:HP) (b:Nat):Prop:=LOb ρ Γ b\/ HI Γ b
def bA (w:World) (b:Nat):Prop:= ∃cs e f,w.heap[b]? =some (.cells cs e f)
theorem bA.lt {w:World} {b:Nat} (h:bA w b):b<w.heap.size:=by
 obtain ⟨_,_,_,h⟩:=h
 exact (Array.getElem?_eq_some_iff.1 h).1
theorem bA.of {w:World} {a:Addr} {v:Value} (h:w.cell? a=some v):bA w a.block:=by
 unfold World.cell? at h
 split at h
 ·exact ⟨_,_,_,‹_›⟩
 ·cases h
def gW (ρ:Env) (Γ:HP) (w:World) (b:Nat):Prop:=bA w b/\ ¬LO ρ Γ b
def Fh (ax:kz) (W:World) (b:Nat):Prop:=W.heap.size<=b\/ ax b\/ ax.nw b
def Dx (w:World) (e:sZ):Prop:=(e.bq=none/\ e.vals= []/\ e.cap=0/\ e.base=none/\ e.len=0)\/
 ∃b rest t,e.bq=some b/\ e.base=some ⟨b,0,none⟩/\ w.heap[b]? =some (.cells (e.vals++rest).toArray t (0,0))/\ e.len<=e.cap/\ e.cap*e.es=(e.vals++rest).length/\ e.cap<=9223372036854775807
def KC (k:Ty):Option k.T->k.T->Bool
 |some x,y=>p8 k x y
 |none,_=>false
def eL (ka:Bool) (k u:Ty) (q:Option k.T):List MapEntry->List (k.T×List u.T)->List sZ->Prop
 | [],[],[]=>True
 |e::es,p::l,ns=>e.key=cJ ka k p.1/\ (match KC k q p.1 with
  |true=>eL ka k u q es l ns
  |false=>match ns with
   |n::r=>n.key=⟨k,p.1⟩/\ e.val= .slice n.base n.len n.cap/\ n.vals=aH u p.2/\ n.len=p.2.length/\ n.es=u.size/\ eL ka k u q es l r
   | []=>False)
 |_,_,_=>False
def jF (es:List sZ) (a:Addr) (v:Value):Prop:= ∃e b off,e∈es/\ a=⟨b,off,none⟩/\ e.bq=some b/\ e.vals[off]? =some v
def bh (fz pm:Nat->Prop) (ρ:Env) (n:Nat):aI->World->Prop
 | .cells cs e,w=> ∃b,(ρ n).bq=some b/\ w.heap[b]? =some (.cells (cs.map (Cell.af ρ)).toArray e (0,0))
 | .row t l rk,w=>(ρ n).len=l.length/\ (ρ n).es=t.size/\ l.length<=(ρ n).cap/\ ∃sub,oz fz pm w (ρ n) t l rk sub
 | .alias m s q,_=>(ρ n).bq=none/\ (ρ n).len=fF (ρ m).len s q/\ (ρ n).es=(ρ m).es/\ (ρ n).len<=(ρ n).cap/\ ((ρ n).len≠0->(ρ n).base=(ρ m).base.map (·.add (s*(ρ m).es)))
 | .gone,_=>False
 | .loop r s j,w=> ∃b,(ρ n).bq=some b/\ w.heap[b]? =some (.loop {r with state:=s,pending:=j})
 | .gU jD n0,_=>(ρ n).bq=none/\ ∀m,m<n0->ρ m=jD m
 | .cK _,_=>(ρ n).bq=none
 | .map ka va k v l,w=>k.flat=true/\ v.flat=true/\ ∃b es dI,(ρ n).bq=some b/\ w.heap[b]? =some (.map es dI)/\ es.toList.map (fun e=>(e.key,e.val))=l.map fun p=>(cJ ka k p.1,cJ va v p.2)
 | .oQ ka k u l c q,w=>k.flat=true/\ u.flat=true/\ (l.map (·.1)).Nodup/\ ∃b es dI,(ρ n).bq=some b/\ w.heap[b]? =some (.map es dI)/\ eL ka k u q es.toList l (ρ c).bW/\ Stp es dI
 | .set _,w=>(ρ n).bq=none/\ (∀e∈(ρ n).bW,Dx w e)/\ (ρ n).bW.Pairwise fun e e'=> ∀b,e.bq=some b->e'.bq≠some b
 | .gv _ c k u x l,_=>(ρ n).bq=none/\ (ρ n).len=l.length/\ (ρ n).es=u.size/\ l.length<=(ρ n).cap/\ u.flat=true/\ ((l= []/\ (ρ n).base=none/\ (ρ n).cap=0)\/ ∃e b,e∈(ρ c).bW/\ e.bq=some b/\ e.key=⟨k,x⟩/\ e.base=(ρ n).base/\ e.base=some ⟨b,0,none⟩/\ e.len=(ρ n).len/\ e.cap=(ρ n).cap/\ e.vals=aH u l/\ e.es=u.size)
 | .rc cs,w=>(ρ n).bq=none/\ ∀i c,cs[i]? =some c-> ∃a,(ρ n).base=some a/\ w.cell? (a.add i)=some (c.af ρ)/\ fz a.block
 | .hmap es dI,w=> ∃b,(ρ n).bq=some b/\ w.heap[b]? =some (.map es dI)
 | .dp t l c _ kn,_=>(ρ n).bq=none/\ (ρ n).len=l.length/\ (ρ n).es=t.size/\ l.length<=(ρ n).cap/\ ∃sub rb,(l≠ []->(ρ n).base=some ⟨rb,0,none⟩)/\ (∀i v,(aD sub 0 (ak t l))[i]? =some v->jF (ρ c).bW ⟨rb,i,none⟩ v)/\
   ∀q u l',(ak t l)[q]? =some (.sl u l')->u.flat=true/\ l'.length<=(sub q).2/\ ∀i v,(aH u l')[i]? =some v-> ∃a v',(sub q).1=some a/\ a.block≠rb/\ jF (ρ c).bW (a.add i) v'/\ (kn=true->v'=v)
 | .nv m c j q u,_=>(ρ n).bq=none/\ (ρ n).es=u.size/\ ∃a,(ρ m).base=some a/\ jF (ρ c).bW (a.add (j*(ρ m).es+q)) (.slice (ρ n).base (ρ n).len (ρ n).cap)
 | .xq m c es dI ka k u l cur,w=>k.flat=true/\ u.flat=true/\ Stp es dI/\ ∃b since seen c0,(ρ n).bq=some b/\ w.heap[b]? =some (.mapIter (ρ m).bq since seen c0)/\ (ρ m).bq≠none/\ (∀x∈es.toList,x.born<since)/\ since<=c0/\ since<=dI/\
   eL ka k u none (es.toList.filter fun e=> !seen.contains e.born) l (ρ c).bW/\
   ∀p,cur=some p->c0=dI/\ ∃(seen':Array Nat) (e:MapEntry),seen=seen'.push e.born/\ e∈es.toList/\ e.key=cJ ka k p.1/\ e.val= .slice (ρ p.2).base (ρ p.2).len (ρ p.2).cap
structure St (ax:kz) (W:World) (ρ:Env) (Kn:Nat->Prop) (Γ:HP) (w:World):Prop where
 fr:Fr ax W w
 at_: ∀n o,Γ n=some o->bh (gW ρ Γ w) (Fh ax W) ρ n o w
 kn: ∀n o,Γ n=some o->Kn n/\ o.ok Kn
 dK: ∀n m b,(Γ n).isSome=true->(Γ m).isSome=true->(ρ n).has b->(ρ m).has b->n=m
 oF: ∀n b,(Γ n).isSome=true->(ρ n).has b->W.heap.size<=b\/ ax b
 zo: ∀b,HI Γ b->b<w.heap.size/\ ¬LOb ρ Γ b
 yl: ∀n o,Γ n=some o->(∃m,o= .set m)\/ (ρ n).bW= []
theorem St.inj {ax:kz} {W:World} {ρ:Env} {Kn:Nat->Prop} {Γ:HP} {w:World} (h:St ax W ρ Kn Γ w) (n m b:Nat) (h1:(Γ n).isSome=true) (h2:(Γ m).isSome=true) (h3:(ρ n).bq=some b) (h4:(ρ m).bq=some b):n=m:=h.dK n m b h1 h2 (.inl h3) (.inl h4)
theorem St.own {ax:kz} {W:World} {ρ:Env} {Kn:Nat->Prop} {Γ:HP} {w:World} (h:St ax W ρ Kn Γ w) (n b:Nat) (h1:(Γ n).isSome=true) (h2:(ρ n).bq=some b):W.heap.size<=b\/ ax b:=h.oF n b h1 (.inl h2)
section
variable {ρ ρ':Env} {Kn FX:Nat->Prop}
theorem oW {n off:Nat} (h:ρ' n=ρ n):addrOf ρ' n off=addrOf ρ n off:=by simp [addrOf,h]
theorem Ref.cg (h: ∀m,Kn m->ρ' m=ρ m): ∀(r:Ref),r.ok Kn->r.af ρ'=r.af ρ
 | .ext _,_=>rfl
 | .loc _ _,hk=>by simp [Ref.af,oW (h _ hk)]
 | .elem _ _,hk=>by simp [Ref.af,h _ hk]
 | .full _,hk=>by simp [Ref.af,h _ hk]
 | .mp _,hk=>by simp [Ref.af,h _ hk]
theorem Cell.cg (h: ∀m,Kn m->ρ' m=ρ m): ∀(c:Cell),c.ok Kn->c.af ρ'=c.af ρ
 | .raw _,_=>rfl
 | .ptr _ _,hk=>by simp [Cell.af,oW (h _ hk)]
 | .sl _ _ _ _,hk=>by simp [Cell.af,oW (h _ hk)]
 | .nS _ _,hk=>by simp [Cell.af,oW (h _ hk)]
 | .full _,hk=>by simp [Cell.af,h _ hk]
 | .bD _ _ _,hk=>by simp [Cell.af,h _ hk]
 | .fK _ _ _,hk=>by simp [Cell.af,h _ hk]
 | .mB _ _ cap,hk=>by
  simp only [Cell.af]
  rw [List.map_congr_left fun r hr=>Ref.cg h r (hk r hr)]
 | .Cz _,hk=>by simp [Cell.af,h _ hk]
 | .mp _,hk=>by simp [Cell.af,h _ hk]
 | .mv _ _ rs,hk=>by
  simp only [Cell.af]
  rw [List.map_congr_left fun r hr=>Ref.cg h r (hk r hr)]
theorem vy (h: ∀m,Kn m->ρ' m=ρ m) (cs:List Cell) (hk: ∀c∈cs,c.ok Kn):cs.map (Cell.af ρ')=cs.map (Cell.af ρ):=
 List.map_congr_left fun c hc=>Cell.cg h c (hk c hc)
theorem A0.cg (h: ∀m,Kn m->ρ' m=ρ m): ∀(a:A0),a.ok Kn->a.af ρ'=a.af ρ
 | .one c,hk=>Cell.cg h c hk
 | .agg cs,hk=>by simp only [A0.af];rw [vy h cs hk]
theorem AV.cg (h: ∀m,Kn m->ρ' m=ρ m): ∀(a:AV),a.ok Kn->a.af ρ'=a.af ρ
 | .v a,hk=>A0.cg h a hk
 | .r7 l,hk=>by
  simp only [AV.af]
  rw [List.map_congr_left fun r hr=>A0.cg h r (hk r hr)]
 | .dead,_=>rfl
theorem Ref.bg (h: ∀m,Kn m->FX m): ∀(r:Ref),r.ok Kn->r.ok FX
 | .ext _,_=>trivial
 | .loc _ _,hk=>h _ hk
 | .elem _ _,hk=>h _ hk
 | .full _,hk=>h _ hk
 | .mp _,hk=>h _ hk
theorem Cell.bg (h: ∀m,Kn m->FX m): ∀(c:Cell),c.ok Kn->c.ok FX
 | .raw _,_=>trivial
 | .ptr _ _,hk=>h _ hk
 | .sl _ _ _ _,hk=>h _ hk
 | .nS _ _,hk=>h _ hk
 | .full _,hk=>h _ hk
 | .bD _ _ _,hk=>h _ hk
 | .fK _ _ _,hk=>h _ hk
 | .mB _ _ _,hk=>fun r hr=>Ref.bg h r (hk r hr)
 | .Cz _,hk=>h _ hk
 | .mp _,hk=>h _ hk
 | .mv _ _ _,hk=>fun r hr=>Ref.bg h r (hk r hr)
theorem A0.bg (h: ∀m,Kn m->FX m): ∀(a:A0),a.ok Kn->a.ok FX
 | .one c,hk=>Cell.bg h c hk
 | .agg _,hk=>fun c hc=>Cell.bg h c (hk c hc)
theorem AV.bg (h: ∀m,Kn m->FX m): ∀(a:AV),a.ok Kn->a.ok FX
 | .v a,hk=>A0.bg h a hk
 | .r7 _,hk=>fun a ha=>A0.bg h a (hk a ha)
 | .dead,_=>trivial
theorem aI.bg (h: ∀m,Kn m->FX m): ∀(o:aI),o.ok Kn->o.ok FX
 | .cells _ _,hk=>fun c hc=>Cell.bg h c (hk c hc)
 | .row _ _ _,_=>trivial
 | .alias _ _ _,hk=>h _ hk
 | .gone,_=>trivial
 | .loop _ _ _,_=>trivial
 | .gU _ _,hk=>fun m hm=>h m (hk m hm)
 | .cK _,_=>trivial
 | .map _ _ _ _ _,_=>trivial
 | .oQ _ _ _ _ _ _,hk=>h _ hk
 | .set _,hk=>h _ hk
 | .gv _ _ _ _ _ _,hk=>⟨h _ hk.1,h _ hk.2⟩
 | .rc _,hk=>fun c hc=>Cell.bg h c (hk c hc)
 | .hmap _ _,_=>trivial
 | .xq _ _ _ _ _ _ _ _ _,hk=>⟨h _ hk.1,h _ hk.2.1,fun p hp=>h _ (hk.2.2 p hp)⟩
 | .dp _ _ _ _ _,hk=>h _ hk
 | .nv _ _ _ _ _,hk=>⟨h _ hk.1,h _ hk.2⟩
end
theorem Fz (l:List Value) (ρ:Env):(l.map Cell.raw).map (Cell.af ρ)=l:=by
 induction l<;>simp_all [Cell.af]
theorem NI (l:List Value) (Kn:Nat->Prop): ∀c∈l.map Cell.raw,c.ok Kn:=by
 intro c hc;obtain ⟨v,_,rfl⟩:=List.mem_map.1 hc;trivial
theorem Wm (v:Value) (ρ:Env):(Zp v).af ρ=v:=by
 unfold Zp;split
 ·rename_i cs;simp only [A0.af,Fz]
 ·rfl
theorem wg (v:Value) (ρ:Env):(ofV v).af ρ=v:=Wm v ρ
theorem abV (v:Value) (Kn:Nat->Prop):(Zp v).ok Kn:=by
 unfold Zp;split
 ·exact NI _ _
 ·trivial
theorem C8 (v:Value) (Kn:Nat->Prop):(ofV v).ok Kn:=abV v Kn
theorem Cell.Gf {c:Cell} (h:c.one=true) (ρ:Env):(c.af ρ).oneCell'=true:=by
 cases c with
 |raw v=>simp only [Cell.af,Value.oneCell'];cases v<;>simp_all [Cell.one,wh]
 |Cz n=>simp only [Cell.af];split<;>rfl
 |_=>rfl
theorem Cell.Rb {c:Cell} (h:c.one=true) (ρ:Env):(c.af ρ).cells= #[c.af ρ]:=by
 have:=Cell.Gf h ρ
 revert this;cases c.af ρ<;>simp [Value.cells,Value.oneCell']
theorem A0.iT {a:A0} {cs:List Cell} (h:a.cells=some cs) (ρ:Env):(a.af ρ).cells=(cs.map (Cell.af ρ)).toArray:=by
 cases a with
 |one c=>
  simp only [A0.cells] at h;split at h<;>simp at h;subst h
  simp only [A0.af];rw [Cell.Rb ‹_›];simp
 |agg l=>simp only [A0.cells,Option.some.injEq] at h;subst h;rfl
theorem AV.iT {a:AV} {cs:List Cell} (h:a.cells=some cs) (ρ:Env):(a.af ρ).cells=(cs.map (Cell.af ρ)).toArray:=by
 cases a with
 |v a=>exact A0.iT h ρ
 |r7 l=>simp [AV.cells] at h
 |dead=>simp [AV.cells] at h
theorem AV.Aj {a:AV} {cs:List Cell} (h:a.cells=some cs) {Kn:Nat->Prop} (hk:a.ok Kn): ∀c∈cs,c.ok Kn:=by
 cases a with
 |v a=>
  cases a with
  |one c=>simp only [AV.cells,A0.cells] at h;split at h<;>simp at h;subst h;intro c' Ro;simp at Ro;subst Ro;exact hk
  |agg l=>simp only [AV.cells,A0.cells,Option.some.injEq] at h;subst h;exact hk
 |r7 l=>simp [AV.cells] at h
 |dead=>simp [AV.cells] at h
theorem qz: ∀(cs:List Cell),pV cs=true-> ∀(ρ:Env),∀v∈cs.map (Cell.af ρ),v.oneCell'=true
 | [],_,_=>by simp
 |c::r,h,ρ=>by
  simp only [pV] at h;split at h
  ·rename_i h1
   intro v hv
   simp only [List.map_cons,List.mem_cons] at hv
   rcases hv with rfl|hv
   ·exact Cell.Gf h1 ρ
   ·exact qz r h ρ v hv
  ·cases h
theorem Fr.refl (ax:kz) (W:World):Fr ax W W:=⟨rfl,rfl,rfl,Nat.le_refl _,fun _ _ _=>rfl,Nat.le_refl _⟩
theorem Fr.trans {ax:kz} {W w w':World} (h:Fr ax W w) (h':Fr ax w w'):Fr ax W w':=
 ⟨h'.os.trans h.os,h'.tape.trans h.tape,h'.output.trans h.output,Nat.le_trans h.size h'.size,fun k hk hn=>(h'.block k (Nat.lt_of_lt_of_le hk h.size) hn).trans (h.block k hk hn),Nat.le_trans h.QL h'.QL⟩
theorem Fr.alloc {ax:kz} {W w:World} (h:Fr ax W w) (o:Obj):Fr ax W (w.alloc o):=
 ⟨h.os,h.tape,h.output,by have:=h.size;simp;omega,fun k hk hn=>(Below.heap_alloc w o k (by have:=h.size;omega)).trans (h.block k hk hn),h.QL⟩
theorem Fr.drawn {ax:kz} {W w:World} (h:Fr ax W w) (n:Nat) (hn:w.drawn<=n):Fr ax W {w with drawn:=n} :=⟨h.os,h.tape,h.output,h.size,h.block,Nat.le_trans h.QL hn⟩
theorem fm.mono {w w':World} {ok ok':Nat->Prop} {s:Option Addr×Nat} {u:Ty} {l:List u.T} (h:fm w ok s u l) (hok: ∀b,ok b->ok' b/\ w'.heap[b]? =w.heap[b]?):fm w' ok' s u l:=by
 refine ⟨h.1,h.2.1,fun i v hv=> ?_⟩
 obtain ⟨a,h1,h2,h3⟩:=h.2.2 i v hv
 obtain ⟨h4,h5⟩:=hok _ h3
 exact ⟨a,h1,by rw [<- h2];exact World.cell?_of_block (by rw [show (a.add i).block=a.block by unfold Addr.add;split<;>rfl];exact h5),h4⟩
theorem dX (a:Addr) (i:Nat):(a.add i).block=a.block:=by unfold Addr.add;split<;>rfl
theorem bE (sub:Nat->Option Addr×Nat): ∀(q:Nat) (cs:List ck),(aD sub q cs).length=cs.length
 |_,[]=>rfl
 |q,c::r=>by simp [aD,bE sub (q+1) r]
theorem aM: ∀(t:Ty) (x:t.T),(t.aJ x).length=t.size
 | .int _,_=>rfl
 | .bool,_=>rfl
 | .str,_=>rfl
 | .prod a b,x=>by simp [Ty.aJ,Ty.size,aM a,aM b]
 | .sl _,_=>rfl
theorem Ty.size_pos: ∀(t:Ty),0<t.size
 | .int _=>Nat.one_pos
 | .bool=>Nat.one_pos
 | .str=>Nat.one_pos
 | .prod a _=>Nat.lt_of_lt_of_le (Ty.size_pos a) (Nat.le_add_right _ _)
 | .sl _=>Nat.one_pos
theorem bj (t:Ty): ∀(l:List t.T),(ak t l).length=l.length*t.size
 | []=>by simp [ak]
 |x::r=>by
  have:=bj t r
  simp only [ak,List.flatMap_cons,List.length_append,aM,List.length_cons] at this ⊢
  rw [this,Nat.add_mul];omega
theorem oz.keep {fz pm fz' pm':Nat->Prop} {w w':World} {o:Loc} {t:Ty} {l:List t.T} {rk:Nat} {sub:Nat->Option Addr×Nat} (h:oz fz pm w o t l rk sub)
  (hfz: ∀b,fz b->fz' b/\ w'.heap[b]? =w.heap[b]?) (hpm: ∀b,fz b->pm b->pm' b) (hw: ∀b,o.bq=some b->w'.heap[b]? =w.heap[b]?):oz fz' pm' w' o t l rk sub:=by
 obtain ⟨h1,h2,h3,h4⟩:=h
 refine ⟨fun i v hv=> ?_,fun q u l' hq=>(h2 q u l' hq).mono fun b hb=>⟨⟨(hfz b hb.1).1,fun e=>⟨hpm b hb.1 (hb.2 e).1,(hb.2 e).2.same (hfz b hb.1).2⟩⟩,(hfz b hb.1).2⟩,h3,fun e=> ?_⟩
 ·obtain ⟨a,e1,e2,e3⟩:=h1 i v hv
  refine ⟨a,e1,?_,fun e=>(hfz _ (e3 e)).1⟩
  rw [<- e2]
  refine World.cell?_of_block ?_
  rw [dX]
  by_cases e:rk=0
  ·exact (hfz _ (e3 e)).2
  ·rcases h4 e with ⟨_,e4,_⟩|⟨b,pre,rest,e,e4,e5,_⟩
   ·rw [List.eq_nil_of_length_eq_zero e4] at hv;simp [ak,aD] at hv
   ·rw [e1] at e5;cases e5;exact hw _ e4
 ·exact (h4 e).keep hw
theorem ct {fz pm fz' pm':Nat->Prop} {ρ ρ':Env} {Kn:Nat->Prop} {n:Nat} {o:aI} {w w':World} (h:bh fz pm ρ n o w) (hρ: ∀m,Kn m->ρ' m=ρ m) (hn:Kn n) (ho:o.ok Kn)
  (hfz: ∀b,fz b->fz' b/\ w'.heap[b]? =w.heap[b]?) (hpm: ∀b,fz b->pm b->pm' b) (hwH: ∀b,(ρ n).has b->w'.heap[b]? =w.heap[b]?):bh fz' pm' ρ' n o w':=by
 have hw: ∀b,(ρ n).bq=some b->w'.heap[b]? =w.heap[b]? :=fun b hb=>hwH b (.inl hb)
 cases o with
 |cells cs e=>
  obtain ⟨b,hb,hh⟩:=h
  exact ⟨b,by rw [hρ n hn,hb],by rw [hw b hb,hh,vy hρ cs ho]⟩
 |row t l rk=>
  obtain ⟨h1,h2,h3,sub,h4⟩:=h
  rw [bh,hρ n hn]
  exact ⟨h1,h2,h3,sub,h4.keep hfz hpm hw⟩
 |alias m s q=>
  have hm:=hρ m ho
  rw [bh,hρ n hn,hm];exact h
 |gone=>exact h.elim
 |loop r s j=>
  obtain ⟨b,hb,hh⟩:=h
  exact ⟨b,by rw [hρ n hn,hb],by rw [hw b hb,hh]⟩
 |gU jD n0=>
  obtain ⟨h1,h2⟩:=h
  exact ⟨by rw [hρ n hn,h1],fun m hm=>by rw [hρ m (ho m hm)];exact h2 m hm⟩
 |cK S=>rw [bh,hρ n hn];exact h
 |map ka va k v l=>
  obtain ⟨h1,h2,b,es,dI,hb,hh,he⟩:=h
  exact ⟨h1,h2,b,es,dI,by rw [hρ n hn,hb],by rw [hw b hb,hh],he⟩
 |oQ ka k u l c q=>
  obtain ⟨h1,h2,h3,b,es,dI,hb,hh,he⟩:=h
  exact ⟨h1,h2,h3,b,es,dI,by rw [hρ n hn,hb],by rw [hw b hb,hh],by rw [hρ c ho];exact he⟩
 |set m=>
  obtain ⟨h1,h2,h3⟩:=h
  rw [bh,hρ n hn]
  refine ⟨h1,fun e he=> ?_,h3⟩
  rcases h2 e he with h4|⟨b,rest,t,h4,h5,h6,h7⟩
  ·exact .inl h4
  ·exact .inr ⟨b,rest,t,h4,h5,by rw [hwH b (.inr ⟨e,he,h4⟩)];exact h6,h7⟩
 |gv m c k u x l=>
  rw [bh,hρ n hn,hρ c ho.2];exact h
 |rc cs=>
  rw [bh,hρ n hn]
  refine ⟨h.1,fun i c hc=> ?_⟩
  obtain ⟨a,h1,h2,h3⟩:=h.2 i c hc
  obtain ⟨h4,h5⟩:=hfz _ h3
  exact ⟨a,h1,by rw [Cell.cg hρ c (ho c (List.mem_of_getElem? hc)),<- h2];exact World.cell?_of_block (by rw [dX];exact h5),h4⟩
 |hmap es dI=>
  obtain ⟨b,hb,hh⟩:=h
  exact ⟨b,by rw [hρ n hn,hb],by rw [hw b hb,hh]⟩
 |dp t l c st kn=>
  rw [bh,hρ n hn,hρ c ho];exact h
 |nv m c j q u=>
  rw [bh,hρ n hn,hρ m ho.1,hρ c ho.2];exact h
 |xq m c es dI ka k u l cur=>
  obtain ⟨h1,h2,h3,b,since,seen,c0,hb,hh,h4,h5,h6,h7,h8,h9⟩:=h
  refine ⟨h1,h2,h3,b,since,seen,c0,by rw [hρ n hn,hb],by rw [hw b hb,hh,hρ m ho.1],by rw [hρ m ho.1];exact h4,h5,h6,h7,by rw [hρ c ho.2.1];exact h8,fun p hp=> ?_⟩
  obtain ⟨a1,seen',e,a2,a3,a4,a5⟩:=h9 p hp
  exact ⟨a1,seen',e,a2,a3,a4,by rw [hρ p.2 (ho.2.2 p hp)];exact a5⟩
theorem Hp {fz pm:Nat->Prop} {ρ:Env} {n b:Nat} {o:aI} {w:World} (h:bh fz pm ρ n o w) (hb:(ρ n).bq=some b):b<w.heap.size:=by
 cases o with
 |cells cs e=>
  obtain ⟨b',hb',hh⟩:=h
  rw [hb] at hb';cases hb';exact (Array.getElem?_eq_some_iff.1 hh).1
 |row t l rk=>
  obtain ⟨_,_,_,sub,_,_,h3,h4⟩:=h
  by_cases e:rk=0
  ·rw [h3 e] at hb;cases hb
  ·rcases h4 e with ⟨h5,_⟩|⟨b',pre,rest,e,h5,_,h6,_⟩
   ·rw [h5] at hb;cases hb
   ·rw [hb] at h5;cases h5;exact (Array.getElem?_eq_some_iff.1 h6).1
 |alias m s q=>rw [h.1] at hb;cases hb
 |gone=>exact h.elim
 |loop r s j=>
  obtain ⟨b',hb',hh⟩:=h
  rw [hb] at hb';cases hb';exact (Array.getElem?_eq_some_iff.1 hh).1
 |gU jD n0=>
  obtain ⟨h1,_⟩:=h
  rw [h1] at hb;cases hb
 |cK S=>rw [show (ρ n).bq=none from h] at hb;cases hb
 |map ka va k v l=>
  obtain ⟨_,_,b',es,dI,hb',hh,_⟩:=h
  rw [hb] at hb';cases hb';exact (Array.getElem?_eq_some_iff.1 hh).1
 |oQ ka k u l c q=>
  obtain ⟨_,_,_,b',es,dI,hb',hh,_⟩:=h
  rw [hb] at hb';cases hb';exact (Array.getElem?_eq_some_iff.1 hh).1
 |set m=>rw [h.1] at hb;cases hb
 |gv m c k u x l=>rw [h.1] at hb;cases hb
 |rc cs=>rw [h.1] at hb;cases hb
 |dp t l c st kn=>rw [h.1] at hb;cases hb
 |nv m c j q u=>rw [h.1] at hb;cases hb
 |hmap es dI=>
  obtain ⟨b',hb',hh⟩:=h
  rw [hb] at hb';cases hb';exact (Array.getElem?_eq_some_iff.1 hh).1
 |xq m c es dI ka k u l cur=>
  obtain ⟨_,_,_,b',_,_,_,hb',hh,_⟩:=h
  rw [hb] at hb';cases hb';exact (Array.getElem?_eq_some_iff.1 hh).1
section
variable {ax:kz} {W:World} {ρ:Env} {Kn:Nat->Prop} {Γ:HP} {w:World}
theorem St.afG (h:St ax W ρ Kn Γ w) (n b:Nat) (hn:(Γ n).isSome=true) (hb:(ρ n).has b):(ρ n).bq=some b\/ bA w b:=by
 obtain ⟨o,ho⟩:=Option.isSome_iff_exists.1 hn
 rcases h.yl n o ho with ⟨m,rfl⟩|he
 ·obtain ⟨h1,h2,_⟩:=h.at_ n _ ho
  rcases hb with hb|⟨e,he,hb⟩
  ·exact .inl hb
  ·rcases h2 e he with ⟨h3,_⟩|⟨b',rest,t,h3,_,h4,_⟩
   ·rw [h3] at hb;cases hb
   ·rw [h3] at hb;cases hb;exact .inr ⟨_,_,_,h4⟩
 ·exact .inl ((vQ he).1 hb)
theorem St.lt (h:St ax W ρ Kn Γ w) (n b:Nat) (hn:(Γ n).isSome=true) (hb:(ρ n).has b):b<w.heap.size:=by
 obtain ⟨o,ho⟩:=Option.isSome_iff_exists.1 hn
 rcases h.yl n o ho with ⟨m,rfl⟩|he
 ·obtain ⟨h1,h2,_⟩:=h.at_ n _ ho
  rcases hb with hb|⟨e,he,hb⟩
  ·rw [h1] at hb;cases hb
  ·rcases h2 e he with ⟨h3,_⟩|⟨b',rest,t,h3,_,h4,_⟩
   ·rw [h3] at hb;cases hb
   ·rw [h3] at hb;cases hb;exact (Array.getElem?_eq_some_iff.1 h4).1
 ·exact Hp (h.at_ n o ho) ((vQ he).1 hb)
theorem Wl {fz pm:Nat->Prop} {ρ:Env} {n b:Nat} {o:aI} {w:World} (h:bh fz pm ρ n o w) (hb:(ρ n).bq=some b):Mi w b:=by
 have no: ∀ {b':Nat} {x:Obj},(ρ n).bq=some b'->w.heap[b']? =some x->(∀cs e f,x= .cells cs e f->f=(0,0))->Mi w b:=fun h1 h2 h3 cs e f h4=>by
  rw [hb] at h1;cases h1;rw [h2] at h4;cases h4;exact h3 _ _ _ rfl
 cases o with
 |cells cs e=>
  obtain ⟨b',hb',hh⟩:=h
  exact no hb' hh fun _ _ _ e=>by cases e;rfl
 |row t l rk=>
  obtain ⟨_,_,_,sub,_,_,h3,h4⟩:=h
  by_cases e:rk=0
  ·rw [h3 e] at hb;cases hb
  ·rcases h4 e with ⟨h5,_⟩|⟨b',pre,rest,e,h5,_,h6,_⟩
   ·rw [h5] at hb;cases hb
   ·exact no h5 h6 fun _ _ _ e=>by cases e;rfl
 |alias m s q=>rw [h.1] at hb;cases hb
 |gone=>exact h.elim
 |loop r s j=>
  obtain ⟨b',hb',hh⟩:=h
  exact no hb' hh fun _ _ _ e=>by cases e
 |gU jD n0=>rw [h.1] at hb;cases hb
 |cK S=>rw [show (ρ n).bq=none from h] at hb;cases hb
 |map ka va k v l=>
  obtain ⟨_,_,b',es,dI,hb',hh,_⟩:=h
  exact no hb' hh fun _ _ _ e=>by cases e
 |oQ ka k u l c q=>
  obtain ⟨_,_,_,b',es,dI,hb',hh,_⟩:=h
  exact no hb' hh fun _ _ _ e=>by cases e
 |set m=>rw [h.1] at hb;cases hb
 |gv m c k u x l=>rw [h.1] at hb;cases hb
 |rc cs=>rw [h.1] at hb;cases hb
 |dp t l c st kn=>rw [h.1] at hb;cases hb
 |nv m c j q u=>rw [h.1] at hb;cases hb
 |hmap es dI=>
  obtain ⟨b',hb',hh⟩:=h
  exact no hb' hh fun _ _ _ e=>by cases e
 |xq m c es dI ka k u l cur=>
  obtain ⟨_,_,_,b',_,_,_,hb',hh,_⟩:=h
  exact no hb' hh fun _ _ _ e=>by cases e
theorem St.aiP (h:St ax W ρ Kn Γ w) (n b:Nat) (hn:(Γ n).isSome=true) (hb:(ρ n).bq=some b):Mi w b:=by
 obtain ⟨o,ho⟩:=Option.isSome_iff_exists.1 hn
 exact Wl (h.at_ n o ho) hb
theorem G7 {w w':World} {b:Nat} (hb:b<w.heap.size) (h:w'.heap[b]? =w.heap[b]?):b<w'.heap.size:=by
 rcases Nat.lt_or_ge b w'.heap.size with h1|h1
 ·exact h1
 ·rw [Array.getElem?_eq_none h1,Array.getElem?_eq_getElem hb] at h;cases h
theorem bA.same {w w':World} {b:Nat} (h:bA w b) (e:w'.heap[b]? =w.heap[b]?):bA w' b:=by
 obtain ⟨cs,t,f,h⟩:=h
 exact ⟨cs,t,f,e.trans h⟩
theorem St.world {w':World} (h:St ax W ρ Kn Γ w) (hf:Fr ax W w') (hw: ∀b,b<w.heap.size->w'.heap[b]? =w.heap[b]?):St ax W ρ Kn Γ w':=
 ⟨hf,fun n o hn=>ct (Kn:=Kn) (h.at_ n o hn) (fun _ _=>rfl) (h.kn n o hn).1 (h.kn n o hn).2 (fun b hb=>⟨⟨hb.1.same (hw b hb.1.lt),hb.2⟩,hw b hb.1.lt⟩) (fun _ _ h=>h) fun b hb=>hw b (h.lt n b (by rw [hn];rfl) hb),h.kn,h.dK,h.oF,fun b hb=>⟨G7 (h.zo b hb).1 (hw b (h.zo b hb).1),(h.zo b hb).2⟩,h.yl⟩
theorem St.drawn (h:St ax W ρ Kn Γ w) (n:Nat) (hn:w.drawn<=n):St ax W ρ Kn Γ {w with drawn:=n} :=h.world (h.fr.drawn n hn) fun _ _=>rfl
def aY (ρ:Env) (n:Nat) (x:Loc):Env:=fun m=>if m=n then x else ρ m
def bH (Γ:HP) (n:Nat) (o:aI):HP:=fun m=>if m=n then some o else Γ m
def yz (Kn:Nat->Prop) (n:Nat):Nat->Prop:=fun m=>Kn m\/ m=n
theorem cG {nm:Nat} {x:Loc} (hn: ¬Kn nm): ∀m,Kn m->aY ρ nm x m=ρ m:=fun m hm=>by
 unfold aY;rw [if_neg (by rintro rfl;exact hn hm)]
theorem St.ado {nm:Nat} {x:Loc} {o:aI} {G:List Nat} {ru:HP} {w1:World} (h:St ax W ρ Kn Γ w) (hn: ¬Kn nm) (hf:Fr ax W w1)
  (hw: ∀b,b<w.heap.size-> ¬x.has b->w1.heap[b]? =w.heap[b]?)
  (hb: ∀b,x.has b->(w.heap.size<=b\/ ∃g,g∈G/\ (Γ g).isSome=true/\ (ρ g).has b)/\ (W.heap.size<=b\/ ax b)) (hxe:(∃m,o= .set m)\/ x.bW= [])
  (cj: ∀m p,ru m=some p->(m=nm/\ p=o)\/ (m≠nm/\ m∉G/\ Γ m=some p))
  (hok:o.ok (yz Kn nm)) (hno: ∀S,o≠ .cK S) (br:(∀b,gW ρ Γ w b->gW (aY ρ nm x) ru w1 b/\ w1.heap[b]? =w.heap[b]?)->(∀g b,g∈G->(Γ g).isSome=true->(ρ g).has b-> ¬x.has b->bA w b-> ¬HI Γ b->gW (aY ρ nm x) ru w1 b)->bh (gW (aY ρ nm x) ru w1) (Fh ax W) (aY ρ nm x) nm o w1):
  St ax W (aY ρ nm x) (yz Kn nm) ru w1:=by
 have hold:=cG (ρ:=ρ) (x:=x) hn
 have uX:aY ρ nm x nm=x:=by simp [aY]
 have hkn: ∀n,(Γ n).isSome=true->Kn n:=fun n hs=>by obtain ⟨o,ho⟩:=Option.isSome_iff_exists.1 hs;exact (h.kn n o ho).1
 have hlt: ∀n b,(Γ n).isSome=true->(ρ n).has b->b<w.heap.size:=fun n b hs hb=>h.lt n b hs hb
 have hs: ∀m,(ru m).isSome=true->m=nm\/ (m≠nm/\ m∉G/\ (Γ m).isSome=true):=fun m hm=>by
  obtain ⟨p,hp⟩:=Option.isSome_iff_exists.1 hm
  rcases cj m p hp with ⟨e,_⟩|⟨e1,e2,e3⟩
  ·exact .inl e
  ·exact .inr ⟨e1,e2,by rw [e3];rfl⟩
 have yf: ∀b,HI ru b->HI Γ b:=fun b ⟨m,S,h1,h2⟩=>by
  rcases cj m _ h1 with ⟨_,e⟩|⟨_,_,e⟩
  ·exact absurd e.symm (hno S)
  ·exact ⟨m,S,e,h2⟩
 have hfree: ∀b,gW ρ Γ w b-> ¬x.has b:=fun b hf hx=>by
  rcases (hb b hx).1 with h1|⟨g,_,h2,h3⟩
  ·exact absurd hf.1.lt (by omega)
  ·exact hf.2 (.inl ⟨g,h2,h3⟩)
 have hfz: ∀b,gW ρ Γ w b->gW (aY ρ nm x) ru w1 b/\ w1.heap[b]? =w.heap[b]? :=fun b hf=>by
  have e:=hw b hf.1.lt (hfree b hf)
  refine ⟨⟨hf.1.same e,?_⟩,e⟩
  rintro (⟨m,h1,h2⟩|hh)
  ·rcases hs m h1 with rfl|⟨_,_,h5⟩
   ·rw [uX] at h2;exact hfree b hf h2
   ·rw [hold m (hkn m h5)] at h2
    exact hf.2 (.inl ⟨m,h5,h2⟩)
  ·exact hf.2 (.inr (yf b hh))
 have OE: ∀g b,g∈G->(Γ g).isSome=true->(ρ g).has b-> ¬x.has b->bA w b-> ¬HI Γ b->gW (aY ρ nm x) ru w1 b:=fun g b hg h1 h2 hx hl hnh=>by
  refine ⟨hl.same (hw b hl.lt hx),?_⟩
  rintro (⟨m,h3,h4⟩|hh)
  ·rcases hs m h3 with rfl|⟨_,h5,h6⟩
   ·rw [uX] at h4;exact hx h4
   ·rw [hold m (hkn m h6)] at h4
    exact h5 (h.dK m g b h6 h1 h4 h2▸hg)
  ·exact hnh (yf b hh)
 have VQ: ∀m b,m∉G->(Γ m).isSome=true->(ρ m).has b-> ¬x.has b:=fun m b h1 h2 h3 hx=>by
  rcases (hb b hx).1 with h4|⟨g,h5,h6,h7⟩
  ·exact absurd (hlt m b h2 h3) (by omega)
  ·exact h1 (h.dK m g b h2 h6 h3 h7▸h5)
 have hxh: ∀b,HI Γ b-> ¬x.has b:=fun b hh hx=>by
  obtain ⟨h1,h2⟩:=h.zo b hh
  rcases (hb b hx).1 with h3|⟨g,_,h4,h5⟩
  ·omega
  ·exact h2 ⟨g,h4,h5⟩
 refine ⟨hf,fun n p hp=> ?_,fun n p hp=> ?_,fun n m b oE XA gS iQ=> ?_,fun n b oE gS=> ?_,fun b hh=> ?_,fun n p hp=> ?_⟩
 rotate_right
 ·rcases cj n p hp with ⟨rfl,rfl⟩|⟨e1,e2,e3⟩
  ·rw [uX];exact hxe
  ·rw [hold n (h.kn n p e3).1];exact h.yl n p e3
 rotate_right
 ·have hh:=yf b hh
  obtain ⟨h1,h2⟩:=h.zo b hh
  refine ⟨G7 h1 (hw b h1 (hxh b hh)),?_⟩
  rintro ⟨m,h3,h4⟩
  rcases hs m h3 with rfl|⟨_,_,h6⟩
  ·rw [uX] at h4;exact hxh b hh h4
  ·rw [hold m (hkn m h6)] at h4
   exact h2 ⟨m,h6,h4⟩
 ·rcases cj n p hp with ⟨rfl,rfl⟩|⟨e1,e2,e3⟩
  ·exact br hfz OE
  ·have hk:=h.kn n p e3
   exact ct (h.at_ n p e3) hold hk.1 hk.2 hfz (fun _ _ h=>h) fun b hb'=>hw b (h.lt n b (by rw [e3];rfl) hb') (VQ n b e2 (by rw [e3];rfl) hb')
 ·rcases cj n p hp with ⟨rfl,rfl⟩|⟨e1,e2,e3⟩
  ·exact ⟨.inr rfl,hok⟩
  ·have hk:=h.kn n p e3
   exact ⟨.inl hk.1,aI.bg (fun _=> .inl) p hk.2⟩
 ·rcases hs n oE with rfl|⟨e1,e2,e3⟩
  ·rcases hs m XA with rfl|⟨e4,e5,e6⟩
   ·rfl
   ·rw [uX] at gS
    rw [hold m (hkn m e6)] at iQ
    exact absurd gS (VQ m b e5 e6 iQ)
  ·rw [hold n (hkn n e3)] at gS
   rcases hs m XA with rfl|⟨e4,e5,e6⟩
   ·rw [uX] at iQ
    exact absurd iQ (VQ n b e2 e3 gS)
   ·rw [hold m (hkn m e6)] at iQ
    exact h.dK n m b e3 e6 gS iQ
 ·rcases hs n oE with rfl|⟨e1,e2,e3⟩
  ·rw [uX] at gS;exact (hb b gS).2
  ·rw [hold n (hkn n e3)] at gS
   exact h.oF n b e3 gS
theorem St.swap {nm:Nat} {x:Loc} {o:aI} {G:List Nat} {ru:HP} {w1:World} (h:St ax W ρ Kn Γ w) (hn: ¬Kn nm) (hf:Fr ax W w1)
  (hw: ∀b,b<w.heap.size->x.bq≠some b->w1.heap[b]? =w.heap[b]?)
  (hb: ∀b,x.bq=some b->(w.heap.size<=b\/ ∃g,g∈G/\ (Γ g).isSome=true/\ (ρ g).bq=some b)/\ (W.heap.size<=b\/ ax b))
  (cj: ∀m p,ru m=some p->(m=nm/\ p=o)\/ (m≠nm/\ m∉G/\ Γ m=some p))
  (hok:o.ok (yz Kn nm)) (hno: ∀S,o≠ .cK S) (br:(∀b,gW ρ Γ w b->gW (aY ρ nm x) ru w1 b/\ w1.heap[b]? =w.heap[b]?)->(∀g b,g∈G->(Γ g).isSome=true->(ρ g).bq=some b->x.bq≠some b->bA w b-> ¬HI Γ b->gW (aY ρ nm x) ru w1 b)->bh (gW (aY ρ nm x) ru w1) (Fh ax W) (aY ρ nm x) nm o w1) (he:x.bW= []:=by rfl):
  St ax W (aY ρ nm x) (yz Kn nm) ru w1:=
 h.ado hn hf (fun b hb hx=>hw b hb fun e=>hx (.inl e)) (fun b hx=>by
  obtain ⟨h1,h2⟩:=hb b ((vQ he).1 hx)
  exact ⟨h1.imp id fun ⟨g,a,c,d⟩=>⟨g,a,c,.inl d⟩,h2⟩) (.inr he) cj hok hno fun h1 h2=>br h1 fun g b h3 h4 h5 h6 h7 h8=>h2 g b h3 h4 (.inl h5) (fun hx=>h6 ((vQ he).1 hx)) h7 h8
theorem St.alloc {nm:Nat} {cs:List Cell} {e:TypeId} (h:St ax W ρ Kn Γ w) (hn: ¬Kn nm) (hcs: ∀c∈cs,c.ok Kn):
  St ax W (aY ρ nm {bq:=some w.heap.size}) (yz Kn nm) (bH Γ nm (.cells cs e)) (w.alloc (.cells (cs.map (Cell.af ρ)).toArray e (0,0))):=by
 have hsz:=h.fr.size
 refine h.swap (G:= []) (o:= .cells cs e) hn (h.fr.alloc _) (fun b hb _=>Below.heap_alloc _ _ _ hb) (fun b hb=> ?_) (fun m p hp=> ?_) (fun c hc=>Cell.bg (fun _=> .inl) c (hcs c hc)) (fun _ h=>by cases h) fun _ _=> ?_
 ·cases hb;exact ⟨.inl (Nat.le_refl _),.inl hsz⟩
 ·unfold bH at hp
  split at hp
  ·rename_i e1;cases hp;exact .inl ⟨e1,rfl⟩
  ·rename_i e1;exact .inr ⟨e1,by simp,hp⟩
 ·exact ⟨w.heap.size,by simp [aY],by
   rw [vy (cG hn) cs hcs];show (w.heap.push _)[w.heap.size]? =_;simp⟩
theorem St.uw {ρ':Env} {FX:Nat->Prop} {ru:HP} (h:St ax W ρ Kn Γ w) (hρ: ∀m,Kn m->ρ' m=ρ m) (hK: ∀m,Kn m->FX m)
  (hsub: ∀x b,(ru x).isSome=true->(ρ' x).has b-> ∃y,(Γ y).isSome=true/\ (ρ y).has b)
  (hinj: ∀x y b,(ru x).isSome=true->(ru y).isSome=true->(ρ' x).has b->(ρ' y).has b->x=y)
  (yf: ∀b,HI ru b->HI Γ b)
  (ad3: ∀x o,ru x=some o->Γ x=some o\/ (FX x/\ o.ok FX/\ ((∃m,o= .set m)\/ (ρ' x).bW= [])/\ ((∀b,gW ρ Γ w b->gW ρ' ru w b)->bh (gW ρ' ru w) (Fh ax W) ρ' x o w))):St ax W ρ' FX ru w:=by
 have hL: ∀b,LOb ρ' ru b->LOb ρ Γ b:=fun b ⟨m,h1,h2⟩=>hsub m b h1 h2
 have hfz: ∀b,gW ρ Γ w b->gW ρ' ru w b:=fun b hb=>⟨hb.1,fun q=>hb.2 (q.imp (hL b) (yf b))⟩
 refine ⟨h.fr,fun n o hn=> ?_,fun n o hn=> ?_,hinj,fun n b h1 h2=> ?_,fun b hb=> ?_,fun n o hn=> ?_⟩
 ·rcases ad3 n o hn with h1|⟨_,_,_,h1⟩
  ·exact ct (Kn:=Kn) (h.at_ n o h1) hρ (h.kn n o h1).1 (h.kn n o h1).2 (fun b hb=>⟨hfz b hb,rfl⟩) (fun _ _ h=>h) fun _ _=>rfl
  ·exact h1 hfz
 ·rcases ad3 n o hn with h1|⟨h1,h2,_,_⟩
  ·exact ⟨hK _ (h.kn n o h1).1,aI.bg hK o (h.kn n o h1).2⟩
  ·exact ⟨h1,h2⟩
 ·obtain ⟨y,h3,h4⟩:=hsub n b h1 h2
  exact h.oF y b h3 h4
 ·obtain ⟨h1,h2⟩:=h.zo b (yf b hb)
  exact ⟨h1,fun q=>h2 (hL b q)⟩
 ·rcases ad3 n o hn with h1|⟨_,_,h1,_⟩
  ·rw [hρ n (h.kn n o h1).1];exact h.yl n o h1
  ·exact h1
theorem jr {α:Type} : ∀(ys cs:List α) (off:Nat),off+ys.length<=cs.length->setCells cs off ys=cs.take off++ys++cs.drop (off+ys.length)
 | [],cs,off,_=>by simp [setCells]
 |y::r,cs,off,h=>by
  simp only [List.length_cons] at h
  rw [setCells,jr r _ _ (by simp;omega)]
  apply List.ext_getElem?
  intro j
  simp only [List.getElem?_append,List.length_append,List.length_take,List.length_set,List.getElem?_take,List.getElem?_set,List.getElem?_drop,List.length_cons]
  grind
theorem NM (f:Cell->Value) (ys cs:List Cell) (off:Nat) (h:off+ys.length<=cs.length):
  (setCells cs off ys).map f=(cs.map f).take off++ys.map f++(cs.map f).drop (off+ys.length):=by
 rw [jr ys cs off h];simp
theorem uC {ys cs:List Cell} {off:Nat} (h:off+ys.length<=cs.length) {c:Cell} (hc:c∈setCells cs off ys):c∈cs\/ c∈ys:=by
 rw [jr ys cs off h] at hc
 simp only [List.mem_append] at hc
 rcases hc with (h1|h1)|h1
 ·exact .inl (List.mem_of_mem_take h1)
 ·exact .inr h1
 ·exact .inl (List.mem_of_mem_drop h1)
theorem Fr.setRow {w:World} (h:Fr ax W w) {b:Nat} (hb:W.heap.size<=b\/ ax b) (cs:Array Value):Fr ax W (w.setRow b cs):=
 ⟨h.os,h.tape,h.output,by rw [setRow_size];exact h.size,fun k hk hn=>(setRow_other w b k cs (by rintro rfl;exact hb.elim (fun h=>by omega) hn)).trans (h.block k hk hn),h.QL⟩
theorem St.write {n b:Nat} {o o':aI} {cells:Array Value} (h:St ax W ρ Kn Γ w) (hn:Γ n=some o) (hb:(ρ n).bq=some b) (yx:o'.ok Kn) (hno: ∀S,o'≠ .cK S)
  (br:(∀b',gW ρ Γ w b'->gW ρ (bH Γ n o') (w.setRow b cells) b'/\ (w.setRow b cells).heap[b']? =w.heap[b']?)->bh (gW ρ (bH Γ n o') (w.setRow b cells)) (Fh ax W) ρ n o' (w.setRow b cells)):St ax W ρ Kn (bH Γ n o') (w.setRow b cells):=by
 have hs: ∀m,(bH Γ n o' m).isSome=true->(Γ m).isSome=true:=fun m hm=>by
  unfold bH at hm;split at hm
  ·rename_i e;subst e;simp [hn]
  ·exact hm
 have yf: ∀b,HI (bH Γ n o') b->HI Γ b:=fun b ⟨m,S,h1,h2⟩=>by
  unfold bH at h1
  split at h1
  ·cases h1;exact absurd rfl (hno S)
  ·exact ⟨m,S,h1,h2⟩
 have hfz: ∀b',gW ρ Γ w b'->gW ρ (bH Γ n o') (w.setRow b cells) b'/\ (w.setRow b cells).heap[b']? =w.heap[b']? :=fun b' hf=>by
  have hne:b'≠b:=by rintro rfl;exact hf.2 (.inl ⟨n,by simp [hn],.inl hb⟩)
  refine ⟨⟨hf.1.same (setRow_other _ _ _ _ hne),?_⟩,setRow_other _ _ _ _ hne⟩
  rintro (⟨m,h1,h2⟩|⟨m,S,h1,h2⟩)
  ·exact hf.2 (.inl ⟨m,hs m h1,h2⟩)
  ·exact hf.2 (.inr (yf b' ⟨m,S,h1,h2⟩))
 refine ⟨h.fr.setRow (h.own n b (by simp [hn]) hb) _,fun m p hp=> ?_,fun m p hp=> ?_,fun m m' c hm hm' gS iQ=>h.dK m m' c (hs m hm) (hs m' hm') gS iQ,fun m c hm hc=>h.oF m c (hs m hm) hc,fun c hc=> ?_,fun m p hp=> ?_⟩
 rotate_right
 ·unfold bH at hp
  split at hp
  ·rename_i e;subst e
   rcases h.yl m o hn with ⟨g,rfl⟩|he
   ·have:=(h.at_ m _ hn).1
    rw [hb] at this;cases this
   ·exact .inr he
  ·exact h.yl m p hp
 rotate_right
 ·obtain ⟨h1,h2⟩:=h.zo c (yf c hc)
  exact ⟨by rw [setRow_size];exact h1,fun ⟨m,h3,h4⟩=>h2 ⟨m,hs m h3,h4⟩⟩
 ·unfold bH at hp;split at hp
  ·rename_i e;subst e;cases hp;exact br hfz
  ·rename_i e
   refine ct (Kn:=Kn) (h.at_ m p hp) (fun _ _=>rfl) (h.kn m p hp).1 (h.kn m p hp).2 hfz (fun _ _ h=>h) fun c hc=>setRow_other _ _ _ _ ?_
   rintro rfl
   exact e (h.dK m n _ (by simp [hp]) (by simp [hn]) hc (.inl hb))
 ·unfold bH at hp;split at hp
  ·rename_i e;subst e;cases hp;exact ⟨(h.kn m o hn).1,yx⟩
  ·exact h.kn m p hp
end
def jO (Kn:Nat->Prop) (nm:Nat) (r:Rec):Nat->Prop:=fun m=>Kn m\/ (nm<=m/\ m<nm+r.fresh.length)
def live:Option aI->Option aI
 |some .gone=>none
 |o=>o
def cf:List (Nat×aI)->Nat->Option aI
 | [],_=>none
 |(n,o)::r,m=>match cf r m with
  |some p=>some p
  |none=>if n=m then some o else none
def bC (r:Rec) (nm:Nat) (Γ:HP):HP:=fun m=>if nm<=m/\ m<nm+r.fresh.length then live (r.fresh[m- nm]?) else match cf r.writes m with
 |some o=>live (some o)
 |none=>Γ m
theorem gH (Kn:Nat->Prop) (nm:Nat) (v:AV) (ws:List (Nat×aI)) (tc:List Nat):jO Kn nm {val:=v,writes:=ws,aC:=tc} =Kn:=by
 funext m;simp [jO];omega
theorem tD (Kn:Nat->Prop) (nm:Nat) (v:AV) (o:aI) (tc:List Nat):jO Kn nm {val:=v,fresh:= [o],aC:=tc} =yz Kn nm:=by
 funext m;simp only [jO,yz,List.length_singleton];congr 1;apply propext;omega
theorem si (Γ:HP) (nm:Nat) (v:AV) (tc:List Nat):bC {val:=v,aC:=tc} nm Γ=Γ:=by
 funext m;simp [bC,cf];omega
theorem XP (Γ:HP) (nm:Nat) (v:AV) (cs:List Cell) (e:TypeId) (tc:List Nat):bC {val:=v,fresh:= [.cells cs e],aC:=tc} nm Γ=bH Γ nm (.cells cs e):=by
 funext m;simp only [bC,bH,List.length_singleton,cf]
 by_cases h:m=nm
 ·subst h;simp [live]
 ·have: ¬(nm≤m∧m<nm+1):=by omega
  simp [h,this]
theorem mG (Γ:HP) (nm n:Nat) (v:AV) (o:aI) (tc:List Nat) (ho:live (some o)=some o):bC {val:=v,writes:= [(n,o)],aC:=tc} nm Γ=bH Γ n o:=by
 funext m;simp only [bC,bH,cf,List.length_nil]
 have: ¬(nm<=m/\ m<nm+0):=by omega
 by_cases h:n=m
 ·subst h;rw [if_neg this];simp [ho]
 ·rw [if_neg this];simp [h,Ne.symm h]
def Dy (ax:kz) (W:World) (X:Addr->Value->Prop):Prop:= ∀a v,X a v->a.block<W.heap.size/\ ¬ax a.block/\ W.cell? a=some v
theorem Dy.cell {ax:kz} {W w:World} {X:Addr->Value->Prop} (h:Dy ax W X) (hf:Fr ax W w) {a:Addr} {v:Value} (hx:X a v):w.cell? a=some v:=by
 obtain ⟨h1,h2,h3⟩:=h a v hx
 rw [<- h3];exact World.cell?_of_block (hf.block _ h1 h2)
section
variable (P:Program) (X:Addr->Value->Prop) (hp:HP) (nm:Nat)
def aK {α:Type} (D3:(Nat->Prop)->Prop) (f:Env->Sem α) (val:Env->α) (r:Rec):Prop:=
 (∀p∈r.writes,hp p.1≠none)/\ ∀ax W ρ Kn Γ w,Dy ax W X->D3 Kn->(∀m∈r.aC,Γ m=hp m)->(∀i,i<r.fresh.length-> ¬Kn (nm+i))->St ax W ρ Kn Γ w->
  ∃ρ' w',(f ρ).run P w= .ok (val ρ') w'/\ (∀m,Kn m->ρ' m=ρ m)/\ r.val.ok (jO Kn nm r)/\ St ax W ρ' (jO Kn nm r) (bC r nm Γ) w'
variable {P X hp nm}
theorem aK.pure {α:Type} {D3:(Nat->Prop)->Prop} {f:Env->Sem α} {val:Env->α} {v:AV} {tc:List Nat}
  (h: ∀ax W ρ Kn Γ w,Dy ax W X->D3 Kn->(∀m∈tc,Γ m=hp m)->St ax W ρ Kn Γ w->(f ρ).run P w= .ok (val ρ) w/\ v.ok Kn):
  aK P X hp nm D3 f val {val:=v,aC:=tc} :=by
 refine ⟨fun p hp=>absurd hp (by simp),?_⟩
 intro ax W ρ Kn Γ w hX hk ht _ hst
 obtain ⟨h1,h2⟩:=h ax W ρ Kn Γ w hX hk ht hst
 exact ⟨ρ,w,h1,fun _ _=>rfl,by rw [gH];exact h2,by rw [gH,si];exact hst⟩
end
end Go.Ev
