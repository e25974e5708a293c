/- What a symbolic state says of the machine's memory, and that each operation does what 'opE' says. -/
import Derived.Test.YtojielnkfeoccaaGreatEvA
import Derived.WalkKit
import Derived.OrdersIn
import Derived.RangeFuncCalls
noncomputable section
set_option linter.unusedSectionVars false
set_option linter.unusedVariables false
set_option linter.unusedSimpArgs false
namespace Go.Ev
open Go.RowKit
def fw (ro:Option Nat):Fence:= {fn:=fun _=>True,depth:=none,alive:=false,round:=ro}
structure jh where
 wr:Nat->Prop
 nw:Nat->Prop:=fun _=>False
instance:CoeFun jh fun _=>Nat->Prop:=⟨jh.wr⟩
def Kg:jh:= {wr:=fun _=>False}
structure Fr (ax:jh) (W w:World):Prop where
 os:w.os=W.os
 tape:w.tape=W.tape
 output:w.output=W.output
 size:W.heap.size<=w.heap.size
 block: ∀k,k<W.heap.size-> ¬ax k->w.heap[k]? =W.heap[k]?
 Ez:W.drawn<=w.drawn
def ew (s:Option Addr×Nat):cD->Value
 | .flat v=>v
 | .sl _ l=> .slice s.1 l.length s.2
def ai (t:Ty) (l:List t.T):List cD:=l.flatMap t.aL
def aI (t:Ty) (l:List t.T):List Value:=(ai t l).map aR
def aF (sub:Nat->Option Addr×Nat):Nat->List cD->List Value
 |_,[]=> []
 |q,c::r=>ew (sub q) c::aF sub (q+1) r
def dU (w:World) (ok:Nat->Prop) (s:Option Addr×Nat) (u:Ty) (l:List u.T):Prop:=
 u.flat=true/\ l.length<=s.2/\ ∀i v,(aI u l)[i]? =some v-> ∃a,s.1=some a/\ w.cell? (a.add i)=some v/\ ok a.block
def gl (w:World) (o:Loc) (rk n s:Nat) (vals:List Value):Prop:=
 (o.blk=none/\ n=0/\ o.cap=0/\ (rk≠3->o.base=none))\/ ∃b pre rest e,o.blk=some b/\ o.base=some ⟨b,pre.length,none⟩/\ w.heap[b]? =some (.cells (pre++(vals++rest)).toArray e (0,0))/\ o.cap*s=(vals++rest).length/\ o.cap<=9223372036854775807/\ (rk≠3->pre= [])
theorem gl.old {w:World} {o:Loc} {rk s:Nat} {vals:List Value} {α:Type} {l:List α} (h:gl w o rk l.length s vals) (h3:rk≠3):(o.blk=none/\ l= []/\ o.cap=0/\ o.base=none)\/ ∃b rest e,o.blk=some b/\ o.base=some ⟨b,0,none⟩/\ w.heap[b]? =some (.cells (vals++rest).toArray e (0,0))/\ o.cap*s=(vals++rest).length/\ o.cap<=9223372036854775807:=by
 rcases h with ⟨h1,h2,Bi,h4⟩|⟨b,pre,rest,e,h1,h2,h4,h5,h6,h7⟩
 ·exact .inl ⟨h1,List.eq_nil_of_length_eq_zero h2,Bi,h4 h3⟩
 ·have:=h7 h3
  subst this
  exact .inr ⟨b,rest,e,h1,h2,h4,h5,h6⟩
theorem gl.new {w:World} {o:Loc} {rk s:Nat} {vals:List Value} {α:Type} {l:List α} (h:(o.blk=none/\ l= []/\ o.cap=0/\ o.base=none)\/ ∃b rest e,o.blk=some b/\ o.base=some ⟨b,0,none⟩/\ w.heap[b]? =some (.cells (vals++rest).toArray e (0,0))/\ o.cap*s=(vals++rest).length/\ o.cap<=9223372036854775807):gl w o rk l.length s vals:=by
 rcases h with ⟨h1,h2,h3,h4⟩|⟨b,rest,e,h1,h2,h3,h4,h5⟩
 ·exact .inl ⟨h1,by rw [h2];rfl,h3,fun _=>h4⟩
 ·exact .inr ⟨b,[],rest,e,h1,h2,h3,h4,h5,fun _=>rfl⟩
theorem gl.any {w:World} {o:Loc} {rk n s:Nat} {vals:List Value} (h:gl w o rk n s vals):gl w o 3 n s vals:=by
 rcases h with ⟨h1,h2,h3,h4⟩|⟨b,pre,rest,e,h1,h2,h3,h4,h5,h6⟩
 ·exact .inl ⟨h1,h2,h3,fun q=>absurd rfl q⟩
 ·exact .inr ⟨b,pre,rest,e,h1,h2,h3,h4,h5,fun q=>absurd rfl q⟩
theorem gl.keep {w w':World} {o:Loc} {rk n s:Nat} {vals:List Value} (h:gl w o rk n s vals) (hw: ∀b,o.blk=some b->w'.heap[b]? =w.heap[b]?):gl w' o rk n s vals:=by
 rcases h with h|⟨b,pre,rest,e,h1,h2,h3,h4⟩
 ·exact .inl h
 ·exact .inr ⟨b,pre,rest,e,h1,h2,by rw [hw _ h1];exact h3,h4⟩
def I1 (es:Array MapEntry) (ck:Nat):Prop:=(∀x∈es.toList,x.born<ck)/\ (es.toList.map (·.born)).Nodup
def IW (w:World) (b:Nat):Prop:= ∀cs e f,w.heap[b]? =some (.cells cs e f)->f=(0,0)
theorem IW.same {w w':World} {b:Nat} (h:IW w b) (e:w'.heap[b]? =w.heap[b]?):IW w' b:=fun cs t f hb=>h cs t f (e▸hb)
theorem IW.of {w:World} {b:Nat} {cs:Array Value} {e:TypeId} (h:w.heap[b]? =some (.cells cs e (0,0))):IW w b:=fun cs' e' f hb=>by rw [h] at hb;cases hb;rfl
def l6 (fz pm:Nat->Prop) (w:World) (o:Loc) (t:Ty) (l:List t.T) (rk:Nat) (sub:Nat->Option Addr×Nat):Prop:=
 (∀i v,(aF sub 0 (ai t l))[i]? =some v-> ∃a,o.base=some a/\ w.cell? (a.add i)=some v/\ (rk=0->fz a.block))/\
 (∀q u l',(ai t l)[q]? =some (.sl u l')->dU w (fun b=>fz b/\ (rk=2->pm b/\ IW w b)) (sub q) u l')/\
 (rk=0->o.blk=none)/\
 (rk≠0->gl w o rk l.length t.size (aF sub 0 (ai t l)))
def Loc.has (x:Loc) (b:Nat):Prop:=x.blk=some b\/ ∃e∈x.cG,e.blk=some b
@[simp] theorem iC {o:Option Nat} {a:Option Addr} {n c s b:Nat} :Loc.has ⟨o,a,n,c,s,[]⟩ b↔o=some b:=by simp [Loc.has]
theorem TV {x:Loc} (h:x.blk=none/\ x.cG= []) {b:Nat} : ¬x.has b:=by
 rintro (h1|⟨e,h1,_⟩)
 ·rw [h.1] at h1;cases h1
 ·rw [h.2] at h1;cases h1
theorem ve {x:Loc} (h:x.cG= []) {b:Nat} :x.has b↔x.blk=some b:=by simp [Loc.has,h]
def Vp (ρ:Env) (Γ:HP) (b:Nat):Prop:= ∃m,(Γ m).isSome=true/\ (ρ m).has b
def HI (Γ:HP) (b:Nat):Prop:= ∃m S,Γ m=some (.ga S)/\ S b
def LO (ρ:Env) (Γ:HP) (b:Nat):Prop:=Vp ρ Γ b\/ HI Γ b
def cz (w:World) (b:Nat):Prop:= ∃cs e f,w.heap[b]? =some (.cells cs e f)
theorem cz.lt {w:World} {b:Nat} (h:cz w b):b<w.heap.size:=by
 obtain ⟨_,_,_,h⟩:=h
 exact (Array.getElem?_eq_some_iff.1 h).1
theorem cz.of {w:World} {a:Addr} {v:Value} (h:w.cell? a=some v):cz w a.block:=by
 unfold World.cell? at h
 split at h
 ·exact ⟨_,_,_,‹_›⟩
 ·cases h
def gW (ρ:Env) (Γ:HP) (w:World) (b:Nat):Prop:=cz w b/\ ¬LO ρ Γ b
def B7 (ax:jh) (W:World) (b:Nat):Prop:=W.heap.size<=b\/ ax b\/ ax.nw b
def Ce (w:World) (e:qa):Prop:=(e.blk=none/\ e.vals= []/\ e.cap=0/\ e.base=none/\ e.len=0)\/
 ∃b rest t,e.blk=some b/\ e.base=some ⟨b,0,none⟩/\ w.heap[b]? =some (.cells (e.vals++rest).toArray t (0,0))/\ e.len<=e.cap/\ e.cap*e.es=(e.vals++rest).length/\ e.cap<=9223372036854775807
def FC (k:Ty):Option k.T->k.T->Bool
 |some x,y=>iQ k x y
 |none,_=>false
def ff (ka:Bool) (k u:Ty) (q:Option k.T):List MapEntry->List (k.T×List u.T)->List qa->Prop
 | [],[],[]=>True
 |e::es,p::l,ns=>e.key=bQ ka k p.1/\ (match FC k q p.1 with
  |true=>ff ka k u q es l ns
  |false=>match ns with
   |n::r=>n.key=⟨k,p.1⟩/\ e.val= .slice n.base n.len n.cap/\ n.vals=aI u p.2/\ n.len=p.2.length/\ n.es=u.size/\ ff ka k u q es l r
   | []=>False)
 |_,_,_=>False
def jc (es:List qa) (a:Addr) (v:Value):Prop:= ∃e b off,e∈es/\ a=⟨b,off,none⟩/\ e.blk=some b/\ e.vals[off]? =some v
def rB {k:Ty} {β:Type} (x:k.T):List (k.T×β)->Nat->Option (Nat×β)
 | [],_=>none
 |p::r,i=>match iQ k x p.1 with
  |true=>some (i,p.2)
  |false=>rB x r (i+1)
def bu (fz pm:Nat->Prop) (ρ:Env) (n:Nat):aQ->World->Prop
 | .cells cs e,w=> ∃b,(ρ n).blk=some b/\ w.heap[b]? =some (.cells (cs.map (Cell.ae ρ)).toArray e (0,0))
 | .row t l rk,w=>(ρ n).len=l.length/\ (ρ n).es=t.size/\ l.length<=(ρ n).cap/\ ∃sub,l6 fz pm w (ρ n) t l rk sub
 | .alias m s q,_=>(ρ n).blk=none/\ (ρ n).len=fO (ρ m).len s q/\ (ρ n).es=(ρ m).es/\ (ρ n).len<=(ρ n).cap/\ ((ρ n).len≠0->(ρ n).base=(ρ m).base.map (·.add (s*(ρ m).es)))
 | .gone,_=>False
 | .loop r s j,w=> ∃b,(ρ n).blk=some b/\ w.heap[b]? =some (.loop {r with state:=s,pending:=j})
 | .eJ mI n0,_=>(ρ n).blk=none/\ ∀m,m<n0->ρ m=mI m
 | .ga _,_=>(ρ n).blk=none
 | .map ka va k v l,w=>k.flat=true/\ v.flat=true/\ ∃b es ck,(ρ n).blk=some b/\ w.heap[b]? =some (.map es ck)/\ es.toList.map (fun e=>(e.key,e.val))=(l.map fun p=>(bQ ka k p.1,bQ va v p.2))/\ I1 es ck
 | .IV ka va k v l y a m,w=>k.flat=true/\ v.flat=true/\ ∃b es ck,(ρ n).blk=some b/\ w.heap[b]? =some (.map es ck)/\ es.toList.map (fun e=>(e.key,e.val))=((bU l a y).map fun p=>(bQ ka k p.1,bQ va v p.2))/\ I1 es ck/\
   ∃j e,(rB a (bU l a y) 0).map (·.1)=some j/\ es[j]? =some e/\ e.born=(ρ m).len
 | .jO ka k u l c q,w=>k.flat=true/\ u.flat=true/\ (l.map (·.1)).Nodup/\ ∃b es ck,(ρ n).blk=some b/\ w.heap[b]? =some (.map es ck)/\ ff ka k u q es.toList l (ρ c).cG/\ I1 es ck
 | .set _,w=>(ρ n).blk=none/\ (∀e∈(ρ n).cG,Ce w e)/\ (ρ n).cG.Pairwise fun e e'=> ∀b,e.blk=some b->e'.blk≠some b
 | .gv _ c k u x l,_=>(ρ n).blk=none/\ (ρ n).len=l.length/\ (ρ n).es=u.size/\ l.length<=(ρ n).cap/\ u.flat=true/\ ((l= []/\ (ρ n).base=none/\ (ρ n).cap=0)\/ ∃e b,e∈(ρ c).cG/\ e.blk=some b/\ e.key=⟨k,x⟩/\ e.base=(ρ n).base/\ e.base=some ⟨b,0,none⟩/\ e.len=(ρ n).len/\ e.cap=(ρ n).cap/\ e.vals=aI u l/\ e.es=u.size)
 | .rc cs,w=>(ρ n).blk=none/\ ∀i c,cs[i]? =some c-> ∃a,(ρ n).base=some a/\ w.cell? (a.add i)=some (c.ae ρ)/\ fz a.block
 | .hmap es ck,w=> ∃b,(ρ n).blk=some b/\ w.heap[b]? =some (.map es ck)
 | .dp t l c _ kn,_=>(ρ n).blk=none/\ (ρ n).len=l.length/\ (ρ n).es=t.size/\ l.length<=(ρ n).cap/\ ∃sub rb,(l≠ []->(ρ n).base=some ⟨rb,0,none⟩)/\ (∀i v,(aF sub 0 (ai t l))[i]? =some v->jc (ρ c).cG ⟨rb,i,none⟩ v)/\
   ∀q u l',(ai t l)[q]? =some (.sl u l')->u.flat=true/\ l'.length<=(sub q).2/\ ∀i v,(aI u l')[i]? =some v-> ∃a v',(sub q).1=some a/\ a.block≠rb/\ jc (ρ c).cG (a.add i) v'/\ (kn=true->v'=v)
 | .nv m c j q u,_=>(ρ n).blk=none/\ (ρ n).es=u.size/\ ∃a,(ρ m).base=some a/\ jc (ρ c).cG (a.add (j*(ρ m).es+q)) (.slice (ρ n).base (ρ n).len (ρ n).cap)
 | .rj m c es ck ka k u l cur,w=>k.flat=true/\ u.flat=true/\ I1 es ck/\ ∃b since seen c0,(ρ n).blk=some b/\ w.heap[b]? =some (.mapIter (ρ m).blk since seen c0)/\ (ρ m).blk≠none/\ (∀x∈es.toList,x.born<since)/\ since<=c0/\ since<=ck/\
   ff ka k u none (es.toList.filter fun e=> !seen.contains e.born) l (ρ c).cG/\
   ∀p,cur=some p->c0=ck/\ ∃(seen':Array Nat) (e:MapEntry),seen=seen'.push e.born/\ e∈es.toList/\ e.key=bQ ka k p.1/\ e.val= .slice (ρ p.2).base (ρ p.2).len (ρ p.2).cap
structure St (ax:jh) (W:World) (ρ:Env) (Kn:Nat->Prop) (Γ:HP) (w:World):Prop where
 fr:Fr ax W w
 at_: ∀n o,Γ n=some o->bu (gW ρ Γ w) (B7 ax W) ρ n o w
 kn: ∀n o,Γ n=some o->Kn n/\ o.ok Kn
 eS: ∀n m b,(Γ n).isSome=true->(Γ m).isSome=true->(ρ n).has b->(ρ m).has b->n=m
 mA: ∀n b,(Γ n).isSome=true->(ρ n).has b->W.heap.size<=b\/ ax b
 wZ: ∀b,HI Γ b->b<w.heap.size/\ ¬Vp ρ Γ b
 vX: ∀n o,Γ n=some o->(∃m,o= .set m)\/ (ρ n).cG= []
theorem St.inj {ax:jh} {W:World} {ρ:Env} {Kn:Nat->Prop} {Γ:HP} {w:World} (h:St ax W ρ Kn Γ w) (n m b:Nat) (h1:(Γ n).isSome=true) (h2:(Γ m).isSome=true) (h3:(ρ n).blk=some b) (h4:(ρ m).blk=some b):n=m:=h.eS n m b h1 h2 (.inl h3) (.inl h4)
theorem St.own {ax:jh} {W:World} {ρ:Env} {Kn:Nat->Prop} {Γ:HP} {w:World} (h:St ax W ρ Kn Γ w) (n b:Nat) (h1:(Γ n).isSome=true) (h2:(ρ n).blk=some b):W.heap.size<=b\/ ax b:=h.mA n b h1 (.inl h2)
section
variable {ρ ρ':Env} {Kn Bc:Nat->Prop}
theorem mh {n off:Nat} (h:ρ' n=ρ n):addrOf ρ' n off=addrOf ρ n off:=by simp [addrOf,h]
theorem Ref.bX (h: ∀m,Kn m->ρ' m=ρ m): ∀(r:Ref),r.ok Kn->r.ae ρ'=r.ae ρ
 | .ext _,_=>rfl
 | .loc _ _,hk=>by simp [Ref.ae,mh (h _ hk)]
 | .elem _ _,hk=>by simp [Ref.ae,h _ hk]
 | .full _,hk=>by simp [Ref.ae,h _ hk]
 | .mp _,hk=>by simp [Ref.ae,h _ hk]
theorem Cell.bX (h: ∀m,Kn m->ρ' m=ρ m): ∀(c:Cell),c.ok Kn->c.ae ρ'=c.ae ρ
 | .raw _,_=>rfl
 | .ptr _ _,hk=>by simp [Cell.ae,mh (h _ hk)]
 | .sl _ _ _ _,hk=>by simp [Cell.ae,mh (h _ hk)]
 | .kC _ _,hk=>by simp [Cell.ae,mh (h _ hk)]
 | .full _,hk=>by simp [Cell.ae,h _ hk]
 | .bA _ _ _,hk=>by simp [Cell.ae,h _ hk]
 | .fq _ _ _,hk=>by simp [Cell.ae,h _ hk]
 | .eN _ _ cap,hk=>by
  simp only [Cell.ae]
  rw [List.map_congr_left fun r hr=>Ref.bX h r (hk r hr)]
 | .nU _,hk=>by simp [Cell.ae,h _ hk]
 | .mp _,hk=>by simp [Cell.ae,h _ hk]
 | .GR _,hk=>by simp [Cell.ae,h _ hk]
 | .mv _ _ rs,hk=>by
  simp only [Cell.ae]
  rw [List.map_congr_left fun r hr=>Ref.bX h r (hk r hr)]
theorem rO (h: ∀m,Kn m->ρ' m=ρ m) (cs:List Cell) (hk: ∀c∈cs,c.ok Kn):cs.map (Cell.ae ρ')=cs.map (Cell.ae ρ):=
 List.map_congr_left fun c hc=>Cell.bX h c (hk c hc)
theorem A0.bX (h: ∀m,Kn m->ρ' m=ρ m): ∀(a:A0),a.ok Kn->a.ae ρ'=a.ae ρ
 | .one c,hk=>Cell.bX h c hk
 | .agg cs,hk=>by simp only [A0.ae];rw [rO h cs hk]
theorem AV.bX (h: ∀m,Kn m->ρ' m=ρ m): ∀(a:AV),a.ok Kn->a.ae ρ'=a.ae ρ
 | .v a,hk=>A0.bX h a hk
 | .lZ l,hk=>by
  simp only [AV.ae]
  rw [List.map_congr_left fun r hr=>A0.bX h r (hk r hr)]
 | .dead,_=>rfl
theorem Ref.bC (h: ∀m,Kn m->Bc m): ∀(r:Ref),r.ok Kn->r.ok Bc
 | .ext _,_=>trivial
 | .loc _ _,hk=>h _ hk
 | .elem _ _,hk=>h _ hk
 | .full _,hk=>h _ hk
 | .mp _,hk=>h _ hk
theorem Cell.bC (h: ∀m,Kn m->Bc m): ∀(c:Cell),c.ok Kn->c.ok Bc
 | .raw _,_=>trivial
 | .ptr _ _,hk=>h _ hk
 | .sl _ _ _ _,hk=>h _ hk
 | .kC _ _,hk=>h _ hk
 | .full _,hk=>h _ hk
 | .bA _ _ _,hk=>h _ hk
 | .fq _ _ _,hk=>h _ hk
 | .eN _ _ _,hk=>fun r hr=>Ref.bC h r (hk r hr)
 | .nU _,hk=>h _ hk
 | .mp _,hk=>h _ hk
 | .mv _ _ _,hk=>fun r hr=>Ref.bC h r (hk r hr)
 | .GR _,hk=>h _ hk
theorem A0.bC (h: ∀m,Kn m->Bc m): ∀(a:A0),a.ok Kn->a.ok Bc
 | .one c,hk=>Cell.bC h c hk
 | .agg _,hk=>fun c hc=>Cell.bC h c (hk c hc)
theorem AV.bC (h: ∀m,Kn m->Bc m): ∀(a:AV),a.ok Kn->a.ok Bc
 | .v a,hk=>A0.bC h a hk
 | .lZ _,hk=>fun a ha=>A0.bC h a (hk a ha)
 | .dead,_=>trivial
theorem aQ.bC (h: ∀m,Kn m->Bc m): ∀(o:aQ),o.ok Kn->o.ok Bc
 | .cells _ _,hk=>fun c hc=>Cell.bC h c (hk c hc)
 | .row _ _ _,_=>trivial
 | .alias _ _ _,hk=>h _ hk
 | .gone,_=>trivial
 | .loop _ _ _,_=>trivial
 | .eJ _ _,hk=>fun m hm=>h m (hk m hm)
 | .ga _,_=>trivial
 | .map _ _ _ _ _,_=>trivial
 | .jO _ _ _ _ _ _,hk=>h _ hk
 | .set _,hk=>h _ hk
 | .gv _ _ _ _ _ _,hk=>⟨h _ hk.1,h _ hk.2⟩
 | .rc _,hk=>fun c hc=>Cell.bC h c (hk c hc)
 | .hmap _ _,_=>trivial
 | .rj _ _ _ _ _ _ _ _ _,hk=>⟨h _ hk.1,h _ hk.2.1,fun p hp=>h _ (hk.2.2 p hp)⟩
 | .dp _ _ _ _ _,hk=>h _ hk
 | .nv _ _ _ _ _,hk=>⟨h _ hk.1,h _ hk.2⟩
 | .IV _ _ _ _ _ _ _ _,hk=>h _ hk
end
theorem B1 (l:List Value) (ρ:Env):(l.map Cell.raw).map (Cell.ae ρ)=l:=by
 induction l<;>simp_all [Cell.ae]
theorem Ir (l:List Value) (Kn:Nat->Prop): ∀c∈l.map Cell.raw,c.ok Kn:=by
 intro c hc;obtain ⟨v,_,rfl⟩:=List.mem_map.1 hc;trivial
theorem QM (v:Value) (ρ:Env):(T1 v).ae ρ=v:=by
 unfold T1;split
 ·rename_i cs;simp only [A0.ae,B1]
 ·rfl
theorem sI (v:Value) (ρ:Env):(Ws v).ae ρ=v:=QM v ρ
theorem Wt (v:Value) (Kn:Nat->Prop):(T1 v).ok Kn:=by
 unfold T1;split
 ·exact Ir _ _
 ·trivial
theorem zy (v:Value) (Kn:Nat->Prop):(Ws v).ok Kn:=Wt v Kn
theorem Cell.Cv {c:Cell} (h:c.one=true) (ρ:Env):(c.ae ρ).oneCell'=true:=by
 cases c with
 |raw v=>simp only [Cell.ae,Value.oneCell'];cases v<;>simp_all [Cell.one,sJ]
 |nU n=>simp only [Cell.ae];split<;>rfl
 |_=>rfl
theorem Cell.LI {c:Cell} (h:c.one=true) (ρ:Env):(c.ae ρ).cells= #[c.ae ρ]:=by
 have:=Cell.Cv h ρ
 revert this;cases c.ae ρ<;>simp [Value.cells,Value.oneCell']
theorem A0.iw {a:A0} {cs:List Cell} (h:a.cells=some cs) (ρ:Env):(a.ae ρ).cells=(cs.map (Cell.ae ρ)).toArray:=by
 cases a with
 |one c=>
  simp only [A0.cells] at h;split at h<;>simp at h;subst h
  simp only [A0.ae];rw [Cell.LI ‹_›];simp
 |agg l=>simp only [A0.cells,Option.some.injEq] at h;subst h;rfl
theorem AV.iw {a:AV} {cs:List Cell} (h:a.cells=some cs) (ρ:Env):(a.ae ρ).cells=(cs.map (Cell.ae ρ)).toArray:=by
 cases a with
 |v a=>exact A0.iw h ρ
 |lZ l=>simp [AV.cells] at h
 |dead=>simp [AV.cells] at h
theorem AV.wq {a:AV} {cs:List Cell} (h:a.cells=some cs) {Kn:Nat->Prop} (hk:a.ok Kn): ∀c∈cs,c.ok Kn:=by
 cases a with
 |v a=>
  cases a with
  |one c=>simp only [AV.cells,A0.cells] at h;split at h<;>simp at h;subst h;intro c' V0;simp at V0;subst V0;exact hk
  |agg l=>simp only [AV.cells,A0.cells,Option.some.injEq] at h;subst h;exact hk
 |lZ l=>simp [AV.cells] at h
 |dead=>simp [AV.cells] at h
theorem nZ: ∀(cs:List Cell),mT cs=true-> ∀(ρ:Env),∀v∈cs.map (Cell.ae ρ),v.oneCell'=true
 | [],_,_=>by simp
 |c::r,h,ρ=>by
  simp only [mT] at h;split at h
  ·rename_i h1
   intro v hv
   simp only [List.map_cons,List.mem_cons] at hv
   rcases hv with rfl|hv
   ·exact Cell.Cv h1 ρ
   ·exact nZ r h ρ v hv
  ·cases h
theorem Fr.refl (ax:jh) (W:World):Fr ax W W:=⟨rfl,rfl,rfl,Nat.le_refl _,fun _ _ _=>rfl,Nat.le_refl _⟩
theorem Fr.trans {ax:jh} {W w w':World} (h:Fr ax W w) (h':Fr ax w w'):Fr ax W w':=
 ⟨h'.os.trans h.os,h'.tape.trans h.tape,h'.output.trans h.output,Nat.le_trans h.size h'.size,fun k hk hn=>(h'.block k (Nat.lt_of_lt_of_le hk h.size) hn).trans (h.block k hk hn),Nat.le_trans h.Ez h'.Ez⟩
theorem Fr.alloc {ax:jh} {W w:World} (h:Fr ax W w) (o:Obj):Fr ax W (w.alloc o):=
 ⟨h.os,h.tape,h.output,by have:=h.size;simp;omega,fun k hk hn=>(Below.heap_alloc w o k (by have:=h.size;omega)).trans (h.block k hk hn),h.Ez⟩
theorem Fr.drawn {ax:jh} {W w:World} (h:Fr ax W w) (n:Nat) (hn:w.drawn<=n):Fr ax W {w with drawn:=n} :=⟨h.os,h.tape,h.output,h.size,h.block,Nat.le_trans h.Ez hn⟩
theorem dU.mono {w w':World} {ok XH:Nat->Prop} {s:Option Addr×Nat} {u:Ty} {l:List u.T} (h:dU w ok s u l) (hok: ∀b,ok b->XH b/\ w'.heap[b]? =w.heap[b]?):dU w' XH s u l:=by
 refine ⟨h.1,h.2.1,fun i v hv=> ?_⟩
 obtain ⟨a,h1,h2,h3⟩:=h.2.2 i v hv
 obtain ⟨h4,h5⟩:=hok _ h3
 exact ⟨a,h1,by rw [<- h2];exact World.cell?_of_block (by rw [show (a.add i).block=a.block by unfold Addr.add;split<;>rfl];exact h5),h4⟩
theorem dX (a:Addr) (i:Nat):(a.add i).block=a.block:=by unfold Addr.add;split<;>rfl
theorem bI (sub:Nat->Option Addr×Nat): ∀(q:Nat) (cs:List cD),(aF sub q cs).length=cs.length
 |_,[]=>rfl
 |q,c::r=>by simp [aF,bI sub (q+1) r]
theorem aK: ∀(t:Ty) (x:t.T),(t.aL x).length=t.size
 | .int _,_=>rfl
 | .bool,_=>rfl
 | .str,_=>rfl
 | .prod a b,x=>by simp [Ty.aL,Ty.size,aK a,aK b]
 | .sl _,_=>rfl
theorem Ty.size_pos: ∀(t:Ty),0<t.size
 | .int _=>Nat.one_pos
 | .bool=>Nat.one_pos
 | .str=>Nat.one_pos
 | .prod a _=>Nat.lt_of_lt_of_le (Ty.size_pos a) (Nat.le_add_right _ _)
 | .sl _=>Nat.one_pos
theorem bk (t:Ty): ∀(l:List t.T),(ai t l).length=l.length*t.size
 | []=>by simp [ai]
 |x::r=>by
  have:=bk t r
  simp only [ai,List.flatMap_cons,List.length_append,aK,List.length_cons] at this ⊢
  rw [this,Nat.add_mul];omega
theorem l6.keep {fz pm Zw pm':Nat->Prop} {w w':World} {o:Loc} {t:Ty} {l:List t.T} {rk:Nat} {sub:Nat->Option Addr×Nat} (h:l6 fz pm w o t l rk sub)
  (hfz: ∀b,fz b->Zw b/\ w'.heap[b]? =w.heap[b]?) (hpm: ∀b,fz b->pm b->pm' b) (hw: ∀b,o.blk=some b->w'.heap[b]? =w.heap[b]?):l6 Zw pm' w' o t l rk sub:=by
 obtain ⟨h1,h2,h3,h4⟩:=h
 refine ⟨fun i v hv=> ?_,fun q u l' hq=>(h2 q u l' hq).mono fun b hb=>⟨⟨(hfz b hb.1).1,fun e=>⟨hpm b hb.1 (hb.2 e).1,(hb.2 e).2.same (hfz b hb.1).2⟩⟩,(hfz b hb.1).2⟩,h3,fun e=> ?_⟩
 ·obtain ⟨a,e1,e2,e3⟩:=h1 i v hv
  refine ⟨a,e1,?_,fun e=>(hfz _ (e3 e)).1⟩
  rw [<- e2]
  refine World.cell?_of_block ?_
  rw [dX]
  by_cases e:rk=0
  ·exact (hfz _ (e3 e)).2
  ·rcases h4 e with ⟨_,e4,_⟩|⟨b,pre,rest,e,e4,e5,_⟩
   ·rw [List.eq_nil_of_length_eq_zero e4] at hv;simp [ai,aF] at hv
   ·rw [e1] at e5;cases e5;exact hw _ e4
 ·exact (h4 e).keep hw
theorem cr {fz pm Zw pm':Nat->Prop} {ρ ρ':Env} {Kn:Nat->Prop} {n:Nat} {o:aQ} {w w':World} (h:bu fz pm ρ n o w) (hρ: ∀m,Kn m->ρ' m=ρ m) (hn:Kn n) (ho:o.ok Kn)
  (hfz: ∀b,fz b->Zw b/\ w'.heap[b]? =w.heap[b]?) (hpm: ∀b,fz b->pm b->pm' b) (hwH: ∀b,(ρ n).has b->w'.heap[b]? =w.heap[b]?):bu Zw pm' ρ' n o w':=by
 have hw: ∀b,(ρ n).blk=some b->w'.heap[b]? =w.heap[b]? :=fun b hb=>hwH b (.inl hb)
 cases o with
 |cells cs e=>
  obtain ⟨b,hb,hh⟩:=h
  exact ⟨b,by rw [hρ n hn,hb],by rw [hw b hb,hh,rO hρ cs ho]⟩
 |row t l rk=>
  obtain ⟨h1,h2,h3,sub,h4⟩:=h
  rw [bu,hρ n hn]
  exact ⟨h1,h2,h3,sub,h4.keep hfz hpm hw⟩
 |alias m s q=>
  have hm:=hρ m ho
  rw [bu,hρ n hn,hm];exact h
 |gone=>exact h.elim
 |loop r s j=>
  obtain ⟨b,hb,hh⟩:=h
  exact ⟨b,by rw [hρ n hn,hb],by rw [hw b hb,hh]⟩
 |eJ mI n0=>
  obtain ⟨h1,h2⟩:=h
  exact ⟨by rw [hρ n hn,h1],fun m hm=>by rw [hρ m (ho m hm)];exact h2 m hm⟩
 |ga S=>rw [bu,hρ n hn];exact h
 |map ka va k v l=>
  obtain ⟨h1,h2,b,es,ck,hb,hh,he⟩:=h
  exact ⟨h1,h2,b,es,ck,by rw [hρ n hn,hb],by rw [hw b hb,hh],he⟩
 |IV ka va k v l y a m=>
  obtain ⟨h1,h2,b,es,ck,hb,hh,he⟩:=h
  exact ⟨h1,h2,b,es,ck,by rw [hρ n hn,hb],by rw [hw b hb,hh],by rw [hρ m ho];exact he⟩
 |jO ka k u l c q=>
  obtain ⟨h1,h2,h3,b,es,ck,hb,hh,he⟩:=h
  exact ⟨h1,h2,h3,b,es,ck,by rw [hρ n hn,hb],by rw [hw b hb,hh],by rw [hρ c ho];exact he⟩
 |set m=>
  obtain ⟨h1,h2,h3⟩:=h
  rw [bu,hρ n hn]
  refine ⟨h1,fun e he=> ?_,h3⟩
  rcases h2 e he with h4|⟨b,rest,t,h4,h5,h6,h7⟩
  ·exact .inl h4
  ·exact .inr ⟨b,rest,t,h4,h5,by rw [hwH b (.inr ⟨e,he,h4⟩)];exact h6,h7⟩
 |gv m c k u x l=>
  rw [bu,hρ n hn,hρ c ho.2];exact h
 |rc cs=>
  rw [bu,hρ n hn]
  refine ⟨h.1,fun i c hc=> ?_⟩
  obtain ⟨a,h1,h2,h3⟩:=h.2 i c hc
  obtain ⟨h4,h5⟩:=hfz _ h3
  exact ⟨a,h1,by rw [Cell.bX hρ c (ho c (List.mem_of_getElem? hc)),<- h2];exact World.cell?_of_block (by rw [dX];exact h5),h4⟩
 |hmap es ck=>
  obtain ⟨b,hb,hh⟩:=h
  exact ⟨b,by rw [hρ n hn,hb],by rw [hw b hb,hh]⟩
 |dp t l c st kn=>
  rw [bu,hρ n hn,hρ c ho];exact h
 |nv m c j q u=>
  rw [bu,hρ n hn,hρ m ho.1,hρ c ho.2];exact h
 |rj m c es ck ka k u l cur=>
  obtain ⟨h1,h2,h3,b,since,seen,c0,hb,hh,h4,h5,h6,h7,h8,h9⟩:=h
  refine ⟨h1,h2,h3,b,since,seen,c0,by rw [hρ n hn,hb],by rw [hw b hb,hh,hρ m ho.1],by rw [hρ m ho.1];exact h4,h5,h6,h7,by rw [hρ c ho.2.1];exact h8,fun p hp=> ?_⟩
  obtain ⟨a1,seen',e,a2,a3,a4,a5⟩:=h9 p hp
  exact ⟨a1,seen',e,a2,a3,a4,by rw [hρ p.2 (ho.2.2 p hp)];exact a5⟩
theorem Dv {fz pm:Nat->Prop} {ρ:Env} {n b:Nat} {o:aQ} {w:World} (h:bu fz pm ρ n o w) (hb:(ρ n).blk=some b):b<w.heap.size:=by
 cases o with
 |cells cs e=>
  obtain ⟨b',hb',hh⟩:=h
  rw [hb] at hb';cases hb';exact (Array.getElem?_eq_some_iff.1 hh).1
 |row t l rk=>
  obtain ⟨_,_,_,sub,_,_,h3,h4⟩:=h
  by_cases e:rk=0
  ·rw [h3 e] at hb;cases hb
  ·rcases h4 e with ⟨h5,_⟩|⟨b',pre,rest,e,h5,_,h6,_⟩
   ·rw [h5] at hb;cases hb
   ·rw [hb] at h5;cases h5;exact (Array.getElem?_eq_some_iff.1 h6).1
 |alias m s q=>rw [h.1] at hb;cases hb
 |gone=>exact h.elim
 |loop r s j=>
  obtain ⟨b',hb',hh⟩:=h
  rw [hb] at hb';cases hb';exact (Array.getElem?_eq_some_iff.1 hh).1
 |eJ mI n0=>
  obtain ⟨h1,_⟩:=h
  rw [h1] at hb;cases hb
 |ga S=>rw [show (ρ n).blk=none from h] at hb;cases hb
 |map ka va k v l=>
  obtain ⟨_,_,b',es,ck,hb',hh,_⟩:=h
  rw [hb] at hb';cases hb';exact (Array.getElem?_eq_some_iff.1 hh).1
 |IV ka va k v l y a m=>
  obtain ⟨_,_,b',es,ck,hb',hh,_⟩:=h
  rw [hb] at hb';cases hb';exact (Array.getElem?_eq_some_iff.1 hh).1
 |jO ka k u l c q=>
  obtain ⟨_,_,_,b',es,ck,hb',hh,_⟩:=h
  rw [hb] at hb';cases hb';exact (Array.getElem?_eq_some_iff.1 hh).1
 |set m=>rw [h.1] at hb;cases hb
 |gv m c k u x l=>rw [h.1] at hb;cases hb
 |rc cs=>rw [h.1] at hb;cases hb
 |dp t l c st kn=>rw [h.1] at hb;cases hb
 |nv m c j q u=>rw [h.1] at hb;cases hb
 |hmap es ck=>
  obtain ⟨b',hb',hh⟩:=h
  rw [hb] at hb';cases hb';exact (Array.getElem?_eq_some_iff.1 hh).1
 |rj m c es ck ka k u l cur=>
  obtain ⟨_,_,_,b',_,_,_,hb',hh,_⟩:=h
  rw [hb] at hb';cases hb';exact (Array.getElem?_eq_some_iff.1 hh).1
section
variable {ax:jh} {W:World} {ρ:Env} {Kn:Nat->Prop} {Γ:HP} {w:World}
theorem St.aaw (h:St ax W ρ Kn Γ w) (n b:Nat) (hn:(Γ n).isSome=true) (hb:(ρ n).has b):(ρ n).blk=some b\/ cz w b:=by
 obtain ⟨o,ho⟩:=Option.isSome_iff_exists.1 hn
 rcases h.vX n o ho with ⟨m,rfl⟩|he
 ·obtain ⟨h1,h2,_⟩:=h.at_ n _ ho
  rcases hb with hb|⟨e,he,hb⟩
  ·exact .inl hb
  ·rcases h2 e he with ⟨h3,_⟩|⟨b',rest,t,h3,_,h4,_⟩
   ·rw [h3] at hb;cases hb
   ·rw [h3] at hb;cases hb;exact .inr ⟨_,_,_,h4⟩
 ·exact .inl ((ve he).1 hb)
theorem St.lt (h:St ax W ρ Kn Γ w) (n b:Nat) (hn:(Γ n).isSome=true) (hb:(ρ n).has b):b<w.heap.size:=by
 obtain ⟨o,ho⟩:=Option.isSome_iff_exists.1 hn
 rcases h.vX n o ho with ⟨m,rfl⟩|he
 ·obtain ⟨h1,h2,_⟩:=h.at_ n _ ho
  rcases hb with hb|⟨e,he,hb⟩
  ·rw [h1] at hb;cases hb
  ·rcases h2 e he with ⟨h3,_⟩|⟨b',rest,t,h3,_,h4,_⟩
   ·rw [h3] at hb;cases hb
   ·rw [h3] at hb;cases hb;exact (Array.getElem?_eq_some_iff.1 h4).1
 ·exact Dv (h.at_ n o ho) ((ve he).1 hb)
theorem QL {fz pm:Nat->Prop} {ρ:Env} {n b:Nat} {o:aQ} {w:World} (h:bu fz pm ρ n o w) (hb:(ρ n).blk=some b):IW w b:=by
 have no: ∀ {b':Nat} {x:Obj},(ρ n).blk=some b'->w.heap[b']? =some x->(∀cs e f,x= .cells cs e f->f=(0,0))->IW w b:=fun h1 h2 h3 cs e f h4=>by
  rw [hb] at h1;cases h1;rw [h2] at h4;cases h4;exact h3 _ _ _ rfl
 cases o with
 |cells cs e=>
  obtain ⟨b',hb',hh⟩:=h
  exact no hb' hh fun _ _ _ e=>by cases e;rfl
 |row t l rk=>
  obtain ⟨_,_,_,sub,_,_,h3,h4⟩:=h
  by_cases e:rk=0
  ·rw [h3 e] at hb;cases hb
  ·rcases h4 e with ⟨h5,_⟩|⟨b',pre,rest,e,h5,_,h6,_⟩
   ·rw [h5] at hb;cases hb
   ·exact no h5 h6 fun _ _ _ e=>by cases e;rfl
 |alias m s q=>rw [h.1] at hb;cases hb
 |gone=>exact h.elim
 |loop r s j=>
  obtain ⟨b',hb',hh⟩:=h
  exact no hb' hh fun _ _ _ e=>by cases e
 |eJ mI n0=>rw [h.1] at hb;cases hb
 |ga S=>rw [show (ρ n).blk=none from h] at hb;cases hb
 |map ka va k v l=>
  obtain ⟨_,_,b',es,ck,hb',hh,_⟩:=h
  exact no hb' hh fun _ _ _ e=>by cases e
 |IV ka va k v l y a m=>
  obtain ⟨_,_,b',es,ck,hb',hh,_⟩:=h
  exact no hb' hh fun _ _ _ e=>by cases e
 |jO ka k u l c q=>
  obtain ⟨_,_,_,b',es,ck,hb',hh,_⟩:=h
  exact no hb' hh fun _ _ _ e=>by cases e
 |set m=>rw [h.1] at hb;cases hb
 |gv m c k u x l=>rw [h.1] at hb;cases hb
 |rc cs=>rw [h.1] at hb;cases hb
 |dp t l c st kn=>rw [h.1] at hb;cases hb
 |nv m c j q u=>rw [h.1] at hb;cases hb
 |hmap es ck=>
  obtain ⟨b',hb',hh⟩:=h
  exact no hb' hh fun _ _ _ e=>by cases e
 |rj m c es ck ka k u l cur=>
  obtain ⟨_,_,_,b',_,_,_,hb',hh,_⟩:=h
  exact no hb' hh fun _ _ _ e=>by cases e
theorem St.ad7 (h:St ax W ρ Kn Γ w) (n b:Nat) (hn:(Γ n).isSome=true) (hb:(ρ n).blk=some b):IW w b:=by
 obtain ⟨o,ho⟩:=Option.isSome_iff_exists.1 hn
 exact QL (h.at_ n o ho) hb
theorem Di {w w':World} {b:Nat} (hb:b<w.heap.size) (h:w'.heap[b]? =w.heap[b]?):b<w'.heap.size:=by
 rcases Nat.lt_or_ge b w'.heap.size with h1|h1
 ·exact h1
 ·rw [Array.getElem?_eq_none h1,Array.getElem?_eq_getElem hb] at h;cases h
theorem cz.same {w w':World} {b:Nat} (h:cz w b) (e:w'.heap[b]? =w.heap[b]?):cz w' b:=by
 obtain ⟨cs,t,f,h⟩:=h
 exact ⟨cs,t,f,e.trans h⟩
theorem St.world {w':World} (h:St ax W ρ Kn Γ w) (hf:Fr ax W w') (hw: ∀b,b<w.heap.size->w'.heap[b]? =w.heap[b]?):St ax W ρ Kn Γ w':=
 ⟨hf,fun n o hn=>cr (Kn:=Kn) (h.at_ n o hn) (fun _ _=>rfl) (h.kn n o hn).1 (h.kn n o hn).2 (fun b hb=>⟨⟨hb.1.same (hw b hb.1.lt),hb.2⟩,hw b hb.1.lt⟩) (fun _ _ h=>h) fun b hb=>hw b (h.lt n b (by rw [hn];rfl) hb),h.kn,h.eS,h.mA,fun b hb=>⟨Di (h.wZ b hb).1 (hw b (h.wZ b hb).1),(h.wZ b hb).2⟩,h.vX⟩
theorem St.drawn (h:St ax W ρ Kn Γ w) (n:Nat) (hn:w.drawn<=n):St ax W ρ Kn Γ {w with drawn:=n} :=h.world (h.fr.drawn n hn) fun _ _=>rfl
def aZ (ρ:Env) (n:Nat) (x:Loc):Env:=fun m=>if m=n then x else ρ m
def bK (Γ:HP) (n:Nat) (o:aQ):HP:=fun m=>if m=n then some o else Γ m
def rq (Kn:Nat->Prop) (n:Nat):Nat->Prop:=fun m=>Kn m\/ m=n
theorem bY {nm:Nat} {x:Loc} (hn: ¬Kn nm): ∀m,Kn m->aZ ρ nm x m=ρ m:=fun m hm=>by
 unfold aZ;rw [if_neg (by rintro rfl;exact hn hm)]
theorem St.XO {nm:Nat} {x:Loc} {o:aQ} {G:List Nat} {mH:HP} {w1:World} (h:St ax W ρ Kn Γ w) (hn: ¬Kn nm) (hf:Fr ax W w1)
  (hw: ∀b,b<w.heap.size-> ¬x.has b->w1.heap[b]? =w.heap[b]?)
  (hb: ∀b,x.has b->(w.heap.size<=b\/ ∃g,g∈G/\ (Γ g).isSome=true/\ (ρ g).has b)/\ (W.heap.size<=b\/ ax b)) (hxe:(∃m,o= .set m)\/ x.cG= [])
  (cm: ∀m p,mH m=some p->(m=nm/\ p=o)\/ (m≠nm/\ m∉G/\ Γ m=some p))
  (hok:o.ok (rq Kn nm)) (hno: ∀S,o≠ .ga S) (bD:(∀b,gW ρ Γ w b->gW (aZ ρ nm x) mH w1 b/\ w1.heap[b]? =w.heap[b]?)->(∀g b,g∈G->(Γ g).isSome=true->(ρ g).has b-> ¬x.has b->cz w b-> ¬HI Γ b->gW (aZ ρ nm x) mH w1 b)->bu (gW (aZ ρ nm x) mH w1) (B7 ax W) (aZ ρ nm x) nm o w1):
  St ax W (aZ ρ nm x) (rq Kn nm) mH w1:=by
 have hold:=bY (ρ:=ρ) (x:=x) hn
 have qX:aZ ρ nm x nm=x:=by simp [aZ]
 have hkn: ∀n,(Γ n).isSome=true->Kn n:=fun n hs=>by obtain ⟨o,ho⟩:=Option.isSome_iff_exists.1 hs;exact (h.kn n o ho).1
 have hlt: ∀n b,(Γ n).isSome=true->(ρ n).has b->b<w.heap.size:=fun n b hs hb=>h.lt n b hs hb
 have hs: ∀m,(mH m).isSome=true->m=nm\/ (m≠nm/\ m∉G/\ (Γ m).isSome=true):=fun m hm=>by
  obtain ⟨p,hp⟩:=Option.isSome_iff_exists.1 hm
  rcases cm m p hp with ⟨e,_⟩|⟨e1,e2,e3⟩
  ·exact .inl e
  ·exact .inr ⟨e1,e2,by rw [e3];rfl⟩
 have Bj: ∀b,HI mH b->HI Γ b:=fun b ⟨m,S,h1,h2⟩=>by
  rcases cm m _ h1 with ⟨_,e⟩|⟨_,_,e⟩
  ·exact absurd e.symm (hno S)
  ·exact ⟨m,S,e,h2⟩
 have hfree: ∀b,gW ρ Γ w b-> ¬x.has b:=fun b hf hx=>by
  rcases (hb b hx).1 with h1|⟨g,_,h2,h3⟩
  ·exact absurd hf.1.lt (by omega)
  ·exact hf.2 (.inl ⟨g,h2,h3⟩)
 have hfz: ∀b,gW ρ Γ w b->gW (aZ ρ nm x) mH w1 b/\ w1.heap[b]? =w.heap[b]? :=fun b hf=>by
  have e:=hw b hf.1.lt (hfree b hf)
  refine ⟨⟨hf.1.same e,?_⟩,e⟩
  rintro (⟨m,h1,h2⟩|hh)
  ·rcases hs m h1 with rfl|⟨_,_,h5⟩
   ·rw [qX] at h2;exact hfree b hf h2
   ·rw [hold m (hkn m h5)] at h2
    exact hf.2 (.inl ⟨m,h5,h2⟩)
  ·exact hf.2 (.inr (Bj b hh))
 have SR: ∀g b,g∈G->(Γ g).isSome=true->(ρ g).has b-> ¬x.has b->cz w b-> ¬HI Γ b->gW (aZ ρ nm x) mH w1 b:=fun g b hg h1 h2 hx hl hnh=>by
  refine ⟨hl.same (hw b hl.lt hx),?_⟩
  rintro (⟨m,h3,h4⟩|hh)
  ·rcases hs m h3 with rfl|⟨_,h5,h6⟩
   ·rw [qX] at h4;exact hx h4
   ·rw [hold m (hkn m h6)] at h4
    exact h5 (h.eS m g b h6 h1 h4 h2▸hg)
  ·exact hnh (Bj b hh)
 have Yl: ∀m b,m∉G->(Γ m).isSome=true->(ρ m).has b-> ¬x.has b:=fun m b h1 h2 h3 hx=>by
  rcases (hb b hx).1 with h4|⟨g,h5,h6,h7⟩
  ·exact absurd (hlt m b h2 h3) (by omega)
  ·exact h1 (h.eS m g b h2 h6 h3 h7▸h5)
 have hxh: ∀b,HI Γ b-> ¬x.has b:=fun b hh hx=>by
  obtain ⟨h1,h2⟩:=h.wZ b hh
  rcases (hb b hx).1 with h3|⟨g,_,h4,h5⟩
  ·omega
  ·exact h2 ⟨g,h4,h5⟩
 refine ⟨hf,fun n p hp=> ?_,fun n p hp=> ?_,fun n m b yP Rq ik iW=> ?_,fun n b yP ik=> ?_,fun b hh=> ?_,fun n p hp=> ?_⟩
 rotate_right
 ·rcases cm n p hp with ⟨rfl,rfl⟩|⟨e1,e2,e3⟩
  ·rw [qX];exact hxe
  ·rw [hold n (h.kn n p e3).1];exact h.vX n p e3
 rotate_right
 ·have hh:=Bj b hh
  obtain ⟨h1,h2⟩:=h.wZ b hh
  refine ⟨Di h1 (hw b h1 (hxh b hh)),?_⟩
  rintro ⟨m,h3,h4⟩
  rcases hs m h3 with rfl|⟨_,_,h6⟩
  ·rw [qX] at h4;exact hxh b hh h4
  ·rw [hold m (hkn m h6)] at h4
   exact h2 ⟨m,h6,h4⟩
 ·rcases cm n p hp with ⟨rfl,rfl⟩|⟨e1,e2,e3⟩
  ·exact bD hfz SR
  ·have hk:=h.kn n p e3
   exact cr (h.at_ n p e3) hold hk.1 hk.2 hfz (fun _ _ h=>h) fun b hb'=>hw b (h.lt n b (by rw [e3];rfl) hb') (Yl n b e2 (by rw [e3];rfl) hb')
 ·rcases cm n p hp with ⟨rfl,rfl⟩|⟨e1,e2,e3⟩
  ·exact ⟨.inr rfl,hok⟩
  ·have hk:=h.kn n p e3
   exact ⟨.inl hk.1,aQ.bC (fun _=> .inl) p hk.2⟩
 ·rcases hs n yP with rfl|⟨e1,e2,e3⟩
  ·rcases hs m Rq with rfl|⟨e4,e5,e6⟩
   ·rfl
   ·rw [qX] at ik
    rw [hold m (hkn m e6)] at iW
    exact absurd ik (Yl m b e5 e6 iW)
  ·rw [hold n (hkn n e3)] at ik
   rcases hs m Rq with rfl|⟨e4,e5,e6⟩
   ·rw [qX] at iW
    exact absurd iW (Yl n b e2 e3 ik)
   ·rw [hold m (hkn m e6)] at iW
    exact h.eS n m b e3 e6 ik iW
 ·rcases hs n yP with rfl|⟨e1,e2,e3⟩
  ·rw [qX] at ik;exact (hb b ik).2
  ·rw [hold n (hkn n e3)] at ik
   exact h.mA n b e3 ik
theorem St.swap {nm:Nat} {x:Loc} {o:aQ} {G:List Nat} {mH:HP} {w1:World} (h:St ax W ρ Kn Γ w) (hn: ¬Kn nm) (hf:Fr ax W w1)
  (hw: ∀b,b<w.heap.size->x.blk≠some b->w1.heap[b]? =w.heap[b]?)
  (hb: ∀b,x.blk=some b->(w.heap.size<=b\/ ∃g,g∈G/\ (Γ g).isSome=true/\ (ρ g).blk=some b)/\ (W.heap.size<=b\/ ax b))
  (cm: ∀m p,mH m=some p->(m=nm/\ p=o)\/ (m≠nm/\ m∉G/\ Γ m=some p))
  (hok:o.ok (rq Kn nm)) (hno: ∀S,o≠ .ga S) (bD:(∀b,gW ρ Γ w b->gW (aZ ρ nm x) mH w1 b/\ w1.heap[b]? =w.heap[b]?)->(∀g b,g∈G->(Γ g).isSome=true->(ρ g).blk=some b->x.blk≠some b->cz w b-> ¬HI Γ b->gW (aZ ρ nm x) mH w1 b)->bu (gW (aZ ρ nm x) mH w1) (B7 ax W) (aZ ρ nm x) nm o w1) (he:x.cG= []:=by rfl):
  St ax W (aZ ρ nm x) (rq Kn nm) mH w1:=
 h.XO hn hf (fun b hb hx=>hw b hb fun e=>hx (.inl e)) (fun b hx=>by
  obtain ⟨h1,h2⟩:=hb b ((ve he).1 hx)
  exact ⟨h1.imp id fun ⟨g,a,c,d⟩=>⟨g,a,c,.inl d⟩,h2⟩) (.inr he) cm hok hno fun h1 h2=>bD h1 fun g b h3 h4 h5 h6 h7 h8=>h2 g b h3 h4 (.inl h5) (fun hx=>h6 ((ve he).1 hx)) h7 h8
theorem St.alloc {nm:Nat} {cs:List Cell} {e:TypeId} (h:St ax W ρ Kn Γ w) (hn: ¬Kn nm) (hcs: ∀c∈cs,c.ok Kn):
  St ax W (aZ ρ nm {blk:=some w.heap.size}) (rq Kn nm) (bK Γ nm (.cells cs e)) (w.alloc (.cells (cs.map (Cell.ae ρ)).toArray e (0,0))):=by
 have hsz:=h.fr.size
 refine h.swap (G:= []) (o:= .cells cs e) hn (h.fr.alloc _) (fun b hb _=>Below.heap_alloc _ _ _ hb) (fun b hb=> ?_) (fun m p hp=> ?_) (fun c hc=>Cell.bC (fun _=> .inl) c (hcs c hc)) (fun _ h=>by cases h) fun _ _=> ?_
 ·cases hb;exact ⟨.inl (Nat.le_refl _),.inl hsz⟩
 ·unfold bK at hp
  split at hp
  ·rename_i e1;cases hp;exact .inl ⟨e1,rfl⟩
  ·rename_i e1;exact .inr ⟨e1,by simp,hp⟩
 ·exact ⟨w.heap.size,by simp [aZ],by
   rw [rO (bY hn) cs hcs];show (w.heap.push _)[w.heap.size]? =_;simp⟩
theorem St.qJ {ρ':Env} {Bc:Nat->Prop} {mH:HP} (h:St ax W ρ Kn Γ w) (hρ: ∀m,Kn m->ρ' m=ρ m) (hK: ∀m,Kn m->Bc m)
  (hsub: ∀x b,(mH x).isSome=true->(ρ' x).has b-> ∃y,(Γ y).isSome=true/\ (ρ y).has b)
  (hinj: ∀x y b,(mH x).isSome=true->(mH y).isSome=true->(ρ' x).has b->(ρ' y).has b->x=y)
  (Bj: ∀b,HI mH b->HI Γ b)
  (Qo: ∀x o,mH x=some o->Γ x=some o\/ (Bc x/\ o.ok Bc/\ ((∃m,o= .set m)\/ (ρ' x).cG= [])/\ ((∀b,gW ρ Γ w b->gW ρ' mH w b)->bu (gW ρ' mH w) (B7 ax W) ρ' x o w))):St ax W ρ' Bc mH w:=by
 have hL: ∀b,Vp ρ' mH b->Vp ρ Γ b:=fun b ⟨m,h1,h2⟩=>hsub m b h1 h2
 have hfz: ∀b,gW ρ Γ w b->gW ρ' mH w b:=fun b hb=>⟨hb.1,fun q=>hb.2 (q.imp (hL b) (Bj b))⟩
 refine ⟨h.fr,fun n o hn=> ?_,fun n o hn=> ?_,hinj,fun n b h1 h2=> ?_,fun b hb=> ?_,fun n o hn=> ?_⟩
 ·rcases Qo n o hn with h1|⟨_,_,_,h1⟩
  ·exact cr (Kn:=Kn) (h.at_ n o h1) hρ (h.kn n o h1).1 (h.kn n o h1).2 (fun b hb=>⟨hfz b hb,rfl⟩) (fun _ _ h=>h) fun _ _=>rfl
  ·exact h1 hfz
 ·rcases Qo n o hn with h1|⟨h1,h2,_,_⟩
  ·exact ⟨hK _ (h.kn n o h1).1,aQ.bC hK o (h.kn n o h1).2⟩
  ·exact ⟨h1,h2⟩
 ·obtain ⟨y,h3,h4⟩:=hsub n b h1 h2
  exact h.mA y b h3 h4
 ·obtain ⟨h1,h2⟩:=h.wZ b (Bj b hb)
  exact ⟨h1,fun q=>h2 (hL b q)⟩
 ·rcases Qo n o hn with h1|⟨_,_,h1,_⟩
  ·rw [hρ n (h.kn n o h1).1];exact h.vX n o h1
  ·exact h1
theorem iP {α:Type} : ∀(ys cs:List α) (off:Nat),off+ys.length<=cs.length->setCells cs off ys=cs.take off++ys++cs.drop (off+ys.length)
 | [],cs,off,_=>by simp [setCells]
 |y::r,cs,off,h=>by
  simp only [List.length_cons] at h
  rw [setCells,iP r _ _ (by simp;omega)]
  apply List.ext_getElem?
  intro j
  simp only [List.getElem?_append,List.length_append,List.length_take,List.length_set,List.getElem?_take,List.getElem?_set,List.getElem?_drop,List.length_cons]
  grind
theorem Iy (f:Cell->Value) (ys cs:List Cell) (off:Nat) (h:off+ys.length<=cs.length):
  (setCells cs off ys).map f=(cs.map f).take off++ys.map f++(cs.map f).drop (off+ys.length):=by
 rw [iP ys cs off h];simp
theorem qN {ys cs:List Cell} {off:Nat} (h:off+ys.length<=cs.length) {c:Cell} (hc:c∈setCells cs off ys):c∈cs\/ c∈ys:=by
 rw [iP ys cs off h] at hc
 simp only [List.mem_append] at hc
 rcases hc with (h1|h1)|h1
 ·exact .inl (List.mem_of_mem_take h1)
 ·exact .inr h1
 ·exact .inl (List.mem_of_mem_drop h1)
theorem Fr.setRow {w:World} (h:Fr ax W w) {b:Nat} (hb:W.heap.size<=b\/ ax b) (cs:Array Value):Fr ax W (w.setRow b cs):=
 ⟨h.os,h.tape,h.output,by rw [setRow_size];exact h.size,fun k hk hn=>(setRow_other w b k cs (by rintro rfl;exact hb.elim (fun h=>by omega) hn)).trans (h.block k hk hn),h.Ez⟩
theorem St.write {n b:Nat} {o o':aQ} {cells:Array Value} (h:St ax W ρ Kn Γ w) (hn:Γ n=some o) (hb:(ρ n).blk=some b) (tY:o'.ok Kn) (hno: ∀S,o'≠ .ga S)
  (bD:(∀b',gW ρ Γ w b'->gW ρ (bK Γ n o') (w.setRow b cells) b'/\ (w.setRow b cells).heap[b']? =w.heap[b']?)->bu (gW ρ (bK Γ n o') (w.setRow b cells)) (B7 ax W) ρ n o' (w.setRow b cells)):St ax W ρ Kn (bK Γ n o') (w.setRow b cells):=by
 have hs: ∀m,(bK Γ n o' m).isSome=true->(Γ m).isSome=true:=fun m hm=>by
  unfold bK at hm;split at hm
  ·rename_i e;subst e;simp [hn]
  ·exact hm
 have Bj: ∀b,HI (bK Γ n o') b->HI Γ b:=fun b ⟨m,S,h1,h2⟩=>by
  unfold bK at h1
  split at h1
  ·cases h1;exact absurd rfl (hno S)
  ·exact ⟨m,S,h1,h2⟩
 have hfz: ∀b',gW ρ Γ w b'->gW ρ (bK Γ n o') (w.setRow b cells) b'/\ (w.setRow b cells).heap[b']? =w.heap[b']? :=fun b' hf=>by
  have hne:b'≠b:=by rintro rfl;exact hf.2 (.inl ⟨n,by simp [hn],.inl hb⟩)
  refine ⟨⟨hf.1.same (setRow_other _ _ _ _ hne),?_⟩,setRow_other _ _ _ _ hne⟩
  rintro (⟨m,h1,h2⟩|⟨m,S,h1,h2⟩)
  ·exact hf.2 (.inl ⟨m,hs m h1,h2⟩)
  ·exact hf.2 (.inr (Bj b' ⟨m,S,h1,h2⟩))
 refine ⟨h.fr.setRow (h.own n b (by simp [hn]) hb) _,fun m p hp=> ?_,fun m p hp=> ?_,fun m m' c hm hm' ik iW=>h.eS m m' c (hs m hm) (hs m' hm') ik iW,fun m c hm hc=>h.mA m c (hs m hm) hc,fun c hc=> ?_,fun m p hp=> ?_⟩
 rotate_right
 ·unfold bK at hp
  split at hp
  ·rename_i e;subst e
   rcases h.vX m o hn with ⟨g,rfl⟩|he
   ·have:=(h.at_ m _ hn).1
    rw [hb] at this;cases this
   ·exact .inr he
  ·exact h.vX m p hp
 rotate_right
 ·obtain ⟨h1,h2⟩:=h.wZ c (Bj c hc)
  exact ⟨by rw [setRow_size];exact h1,fun ⟨m,h3,h4⟩=>h2 ⟨m,hs m h3,h4⟩⟩
 ·unfold bK at hp;split at hp
  ·rename_i e;subst e;cases hp;exact bD hfz
  ·rename_i e
   refine cr (Kn:=Kn) (h.at_ m p hp) (fun _ _=>rfl) (h.kn m p hp).1 (h.kn m p hp).2 hfz (fun _ _ h=>h) fun c hc=>setRow_other _ _ _ _ ?_
   rintro rfl
   exact e (h.eS m n _ (by simp [hp]) (by simp [hn]) hc (.inl hb))
 ·unfold bK at hp;split at hp
  ·rename_i e;subst e;cases hp;exact ⟨(h.kn m o hn).1,tY⟩
  ·exact h.kn m p hp
end
def iK (Kn:Nat->Prop) (nm:Nat) (r:Rec):Nat->Prop:=fun m=>Kn m\/ (nm<=m/\ m<nm+r.fresh.length)
def live:Option aQ->Option aQ
 |some .gone=>none
 |o=>o
def ct:List (Nat×aQ)->Nat->Option aQ
 | [],_=>none
 |(n,o)::r,m=>match ct r m with
  |some p=>some p
  |none=>if n=m then some o else none
def cq (r:Rec) (nm:Nat) (Γ:HP):HP:=fun m=>if nm<=m/\ m<nm+r.fresh.length then live (r.fresh[m- nm]?) else match ct r.writes m with
 |some o=>live (some o)
 |none=>Γ m
theorem fe (Kn:Nat->Prop) (nm:Nat) (v:AV) (ws:List (Nat×aQ)) (tc:List Nat):iK Kn nm {val:=v,writes:=ws,aB:=tc} =Kn:=by
 funext m;simp [iK];omega
theorem oD (Kn:Nat->Prop) (nm:Nat) (v:AV) (o:aQ) (tc:List Nat):iK Kn nm {val:=v,fresh:= [o],aB:=tc} =rq Kn nm:=by
 funext m;simp only [iK,rq,List.length_singleton];congr 1;apply propext;omega
theorem mU (Γ:HP) (nm:Nat) (v:AV) (tc:List Nat):cq {val:=v,aB:=tc} nm Γ=Γ:=by
 funext m;simp [cq,ct];omega
theorem RE (Γ:HP) (nm:Nat) (v:AV) (cs:List Cell) (e:TypeId) (tc:List Nat):cq {val:=v,fresh:= [.cells cs e],aB:=tc} nm Γ=bK Γ nm (.cells cs e):=by
 funext m;simp only [cq,bK,List.length_singleton,ct]
 by_cases h:m=nm
 ·subst h;simp [live]
 ·have: ¬(nm≤m∧m<nm+1):=by omega
  simp [h,this]
theorem gp (Γ:HP) (nm n:Nat) (v:AV) (o:aQ) (tc:List Nat) (ho:live (some o)=some o):cq {val:=v,writes:= [(n,o)],aB:=tc} nm Γ=bK Γ n o:=by
 funext m;simp only [cq,bK,ct,List.length_nil]
 have: ¬(nm<=m/\ m<nm+0):=by omega
 by_cases h:n=m
 ·subst h;rw [if_neg this];simp [ho]
 ·rw [if_neg this];simp [h,Ne.symm h]
def Ac (ax:jh) (W:World) (X:Addr->Value->Prop):Prop:= ∀a v,X a v->a.block<W.heap.size/\ ¬ax a.block/\ W.cell? a=some v
theorem Ac.cell {ax:jh} {W w:World} {X:Addr->Value->Prop} (h:Ac ax W X) (hf:Fr ax W w) {a:Addr} {v:Value} (hx:X a v):w.cell? a=some v:=by
 obtain ⟨h1,h2,h3⟩:=h a v hx
 rw [<- h3];exact World.cell?_of_block (hf.block _ h1 h2)
section
variable (P:Program) (X:Addr->Value->Prop) (hp:HP) (nm:Nat)
def aJ {α:Type} (AF:(Nat->Prop)->Prop) (f:Env->Sem α) (val:Env->α) (r:Rec):Prop:=
 (∀p∈r.writes,hp p.1≠none)/\ ∀ax W ρ Kn Γ w,Ac ax W X->AF Kn->(∀m∈r.aB,Γ m=hp m)->(∀i,i<r.fresh.length-> ¬Kn (nm+i))->St ax W ρ Kn Γ w->
  ∃ρ' w',(f ρ).run P w= .ok (val ρ') w'/\ (∀m,Kn m->ρ' m=ρ m)/\ r.val.ok (iK Kn nm r)/\ St ax W ρ' (iK Kn nm r) (cq r nm Γ) w'
variable {P X hp nm}
theorem aJ.pure {α:Type} {AF:(Nat->Prop)->Prop} {f:Env->Sem α} {val:Env->α} {v:AV} {tc:List Nat}
  (h: ∀ax W ρ Kn Γ w,Ac ax W X->AF Kn->(∀m∈tc,Γ m=hp m)->St ax W ρ Kn Γ w->(f ρ).run P w= .ok (val ρ) w/\ v.ok Kn):
  aJ P X hp nm AF f val {val:=v,aB:=tc} :=by
 refine ⟨fun p hp=>absurd hp (by simp),?_⟩
 intro ax W ρ Kn Γ w hX hk ht _ hst
 obtain ⟨h1,h2⟩:=h ax W ρ Kn Γ w hX hk ht hst
 exact ⟨ρ,w,h1,fun _ _=>rfl,by rw [fe];exact h2,by rw [fe,mU];exact hst⟩
end
end Go.Ev
