/- What is done to what is named. -/
import Derived.Test.YtbjfokijjefoeaaGreatEvD3
import Derived.MapKept
noncomputable section
set_option linter.unusedSectionVars false
set_option linter.unusedVariables false
set_option linter.unusedSimpArgs false
namespace Go.Ev
open Go.RowKit
theorem St.less {ax:kz} {W w:World} {ρ:Env} {Kn FX:Nat->Prop} {Γ ru:HP} (h:St ax W ρ Kn Γ w) (hs: ∀m o,ru m=some o->Γ m=some o/\ FX m/\ o.ok FX):St ax W ρ FX ru w:=by
 have hsome: ∀n,(ru n).isSome=true->(Γ n).isSome=true:=fun n hn=>by
  obtain ⟨o,ho⟩:=Option.isSome_iff_exists.1 hn
  rw [(hs n o ho).1];rfl
 refine ⟨h.fr,fun n o ho=> ?_,fun n o ho=>(hs n o ho).2,fun n m b hn hm=>h.dK n m b (hsome n hn) (hsome m hm),fun n b hn=>h.oF n b (hsome n hn),fun b ⟨m,S,h1,h2⟩=> ?_,fun n o ho=>h.yl n o (hs n o ho).1⟩
 rotate_right
 ·obtain ⟨h3,h4⟩:=h.zo b ⟨m,S,(hs m _ h1).1,h2⟩
  exact ⟨h3,fun ⟨n,h5,h6⟩=>h4 ⟨n,hsome n h5,h6⟩⟩
 have h1:=(hs n o ho).1
 refine ct (Kn:=Kn) (h.at_ n o h1) (fun _ _=>rfl) (h.kn n o h1).1 (h.kn n o h1).2 (fun b hb=>⟨⟨hb.1,?_⟩,rfl⟩) (fun _ _ h=>h) fun _ _=>rfl
 rintro (⟨m,h2,h3⟩|⟨m,S,h2,h3⟩)
 ·exact hb.2 (.inl ⟨m,hsome m h2,h3⟩)
 ·exact hb.2 (.inr ⟨m,S,(hs m _ h2).1,h3⟩)
theorem bO (h:List aI) (m:Nat):aq h m=live h[m]? :=by
 unfold aq live;split<;>simp_all
theorem iC {h:List aI} {n:Nat} {o:aI} (ho:aq h n=some o):n<h.length:=by
 rcases Nat.lt_or_ge n h.length with hn|hn
 ·exact hn
 ·simp [aq,List.getElem?_eq_none hn] at ho
theorem mL {o:Option aI} {ρ:Env} {n:Nat} {K:Prop} (h:DW o ρ n K):o=some (.gU ρ n)/\ K:=by
 unfold DW at h
 split at h
 ·obtain ⟨rfl,rfl,h⟩:=h;exact ⟨rfl,h⟩
 ·exact h.elim
theorem b8 (hp:HP): ∀n,(lA hp n).length=n
 |0=>rfl
 |n+1=>by simp [lA,b8 hp n]
theorem GH (hp:HP): ∀n m,m<n->(lA hp n)[m]? =some (match hp m with|some o=>o|none=> .gone)
 |0,_,h=>by omega
 |n+1,m,h=>by
  simp only [lA]
  rcases Nat.lt_or_ge m n with h1|h1
  ·rw [List.getElem?_append_left (by rw [b8];exact h1),GH hp n m h1]
  ·have:m=n:=by omega
   subst this
   rw [List.getElem?_append_right (by rw [b8];exact Nat.le_refl _),b8]
   simp only [Nat.sub_self,List.getElem?_cons_zero]
   cases hp m<;>rfl
theorem D0 {hp:HP} {n m:Nat} (hm:m<n) (hg:hp m≠some .gone):live ((lA hp n)[m]?)=hp m:=by
 rw [GH hp n m hm]
 cases h:hp m with
 |none=>rfl
 |some o=>cases o<;>first|rfl|exact absurd h hg
theorem AJ {hp:HP} {h:List aI} : ∀ {n:Nat} {p:Nat×aI},p∈MQ hp h n->hp p.1≠none
 |0,p,hm=>by simp [MQ] at hm
 |n+1,p,hm=>by
  simp only [MQ] at hm
  split at hm
  ·rename_i o ho
   rcases List.mem_append.1 hm with h1|h1
   ·exact AJ h1
   ·simp only [List.mem_singleton] at h1;subst h1;simp [ho]
  ·exact AJ hm
theorem MW (a b:List (Nat×aI)) (m:Nat):cf (a++b) m=match cf b m with|some o=>some o|none=>cf a m:=by
 induction a with
 |nil=>simp [cf];cases cf b m<;>rfl
 |cons p r ih=>
  simp only [List.cons_append,cf,ih]
  cases cf b m with
  |some o=>rfl
  |none=>rfl
theorem zx {hp:HP} {h:List aI} {m:Nat} : ∀n,cf (MQ hp h n) m=if m<n/\ (hp m).isSome=true then some (match h[m]? with|some o=>o|none=> .gone) else none
 |0=>by simp [MQ,cf]
 |n+1=>by
  simp only [MQ]
  cases hn:hp n with
  |none=>
   dsimp only
   rw [zx n]
   by_cases e:m=n
   ·subst e;simp [hn]
   ·have:(m<n+1)=(m<n):=by apply propext;omega
    simp [this]
  |some o=>
   dsimp only
   rw [MW,zx n]
   simp only [cf]
   by_cases e:n=m
   ·subst e
    simp [hn]
    cases h[n]? <;>rfl
   ·have:(m<n+1)=(m<n):=by apply propext;omega
    rw [if_neg e];simp [this]
theorem F3 {hp:HP} {nm:Nat} {h:List aI} {v:AV} (hl:nm<h.length):(∀m o,bC (An hp nm h v) nm hp m=some o->hp m≠some .gone->(∀m,(hp m).isSome=true->m<nm)->aq h m=some o)/\ jO (· <nm) nm (An hp nm h v)=(· <h.length):=by
 constructor
 ·intro m o hm hg hk
  simp only [bC,An,List.length_drop,List.length_set] at hm
  rw [bO]
  split at hm
  ·rename_i hc
   rw [List.getElem?_drop,show nm+(m- nm)=m by omega,List.getElem?_set] at hm
   split at hm
   ·rename_i e
    simp [live] at hm
   ·exact hm
  ·rw [zx] at hm
   by_cases hc:m<nm/\ (hp m).isSome=true
   ·rw [if_pos hc] at hm
    have:m<h.length:=by omega
    rw [List.getElem?_eq_getElem this] at hm ⊢
    exact hm
   ·rw [if_neg hc] at hm
    have:(hp m).isSome=true:=by simp [hm]
    exact absurd ⟨hk m this,this⟩ hc
 ·funext m
  simp only [jO,An,List.length_drop,List.length_set]
  apply propext;omega
theorem St.pinned {ax:kz} {W w:World} {ρ:Env} {hp:HP} {nm:Nat} (hst:St ax W ρ (· <nm) hp w):
  ∃Jn:Env,(∀m,m<nm->Jn m=ρ m)/\ St ax W Jn (· <nm+1) (aq (lA hp nm++ [.gU ρ nm])) w:=by
 have Kq: ∀m,hp m≠some .gone:=fun m e=>hst.at_ m _ e
 have h3l:(lA hp nm++ [aI.gU ρ nm]).length=nm+1:=by simp [b8]
 have jG: ∀m,m<nm->aY ρ nm {} m=ρ m:=fun m hm=>by simp only [aY];rw [if_neg (by omega)]
 have Ft: ∀m o,aq (lA hp nm++ [aI.gU ρ nm]) m=some o->(m<nm/\ hp m=some o)\/ (m=nm/\ o= .gU ρ nm):=by
  intro m o ho
  have hlt:=iC ho
  rw [bO] at ho
  rcases Nat.lt_or_ge m nm with h1|h1
  ·rw [List.getElem?_append_left (by rw [b8];exact h1),D0 h1 (Kq m)] at ho
   exact .inl ⟨h1,ho⟩
  ·have:m=nm:=by omega
   subst this
   rw [List.getElem?_append_right (by rw [b8];exact Nat.le_refl _),b8] at ho
   simp only [Nat.sub_self,List.getElem?_cons_zero,live,Option.some.injEq] at ho
   exact .inr ⟨rfl,ho.symm⟩
 have adU: ∀b,gW ρ hp w b->gW (aY ρ nm {}) (aq (lA hp nm++ [aI.gU ρ nm])) w b/\ w.heap[b]? =w.heap[b]? :=fun b hb=>by
  refine ⟨⟨hb.1,?_⟩,rfl⟩
  rintro (⟨m,h1,h2⟩|⟨m,S,h1,h2⟩)
  ·obtain ⟨o,ho⟩:=Option.isSome_iff_exists.1 h1
   rcases Ft m o ho with ⟨h3,h4⟩|⟨rfl,rfl⟩
   ·rw [jG m h3] at h2
    exact hb.2 (.inl ⟨m,by simp [h4],h2⟩)
   ·simp [aY] at h2
  ·rcases Ft m _ h1 with ⟨h3,h4⟩|⟨rfl,e⟩
   ·exact hb.2 (.inr ⟨m,S,h4,h2⟩)
   ·cases e
 refine ⟨aY ρ nm {},jG,hst.fr,fun m o ho=> ?_,fun m o ho=> ?_,fun m m' b hm hm' gS iQ=> ?_,fun m b hm hb=> ?_,fun b ⟨m,S,h1,h2⟩=> ?_,fun m o ho=> ?_⟩
 rotate_right
 ·rcases Ft m o ho with ⟨h1,h2⟩|⟨rfl,rfl⟩
  ·rw [jG m h1];exact hst.yl m o h2
  ·exact .inr (by simp [aY])
 rotate_right
 ·rcases Ft m _ h1 with ⟨_,h4⟩|⟨_,e⟩
  ·obtain ⟨h5,h6⟩:=hst.zo b ⟨m,S,h4,h2⟩
   refine ⟨h5,fun ⟨n,h7,h8⟩=> ?_⟩
   obtain ⟨o,ho⟩:=Option.isSome_iff_exists.1 h7
   rcases Ft n o ho with ⟨h9,VK⟩|⟨rfl,rfl⟩
   ·rw [jG n h9] at h8
    exact h6 ⟨n,by simp [VK],h8⟩
   ·simp [aY] at h8
  ·cases e
 ·rcases Ft m o ho with ⟨h1,h2⟩|⟨rfl,rfl⟩
  ·have hk:=hst.kn m o h2
   exact ct (Kn:=(· <nm)) (hst.at_ m o h2) jG h1 hk.2 adU (fun _ _ h=>h) fun _ _=>rfl
  ·exact ⟨by simp [aY],jG⟩
 ·rcases Ft m o ho with ⟨h1,h2⟩|⟨rfl,rfl⟩
  ·exact ⟨by omega,aI.bg (fun i hi=>by omega) o (hst.kn m o h2).2⟩
  ·exact ⟨by omega,fun i hi=>by omega⟩
 ·obtain ⟨o,ho⟩:=Option.isSome_iff_exists.1 hm
  obtain ⟨o',yx⟩:=Option.isSome_iff_exists.1 hm'
  rcases Ft m o ho with ⟨h1,h2⟩|⟨rfl,rfl⟩
  ·rcases Ft m' o' yx with ⟨h3,h4⟩|⟨rfl,rfl⟩
   ·rw [jG m h1] at gS;rw [jG m' h3] at iQ
    exact hst.dK m m' b (by simp [h2]) (by simp [h4]) gS iQ
   ·simp [aY] at iQ
  ·simp [aY] at gS
 ·obtain ⟨o,ho⟩:=Option.isSome_iff_exists.1 hm
  rcases Ft m o ho with ⟨h1,h2⟩|⟨rfl,rfl⟩
  ·rw [jG m h1] at hb
   exact hst.oF m b (by simp [h2]) hb
  ·simp [aY] at hb
theorem St.diff {ax:kz} {W w:World} {ρ':Env} {hp:HP} {nm:Nat} {h:List aI} {v:AV} (hst:St ax W ρ' (· <h.length) (aq h) w) (hl:nm<h.length) (hg: ∀m,hp m≠some .gone) (hk: ∀m,(hp m).isSome=true->m<nm):
  St ax W ρ' (jO (· <nm) nm (An hp nm h v)) (bC (An hp nm h v) nm hp) w:=by
 obtain ⟨e1,e2⟩:=F3 (hp:=hp) (v:=v) hl
 rw [e2]
 refine hst.less fun i o ho=> ?_
 have:=e1 i o ho (hg i) hk
 exact ⟨this,hst.kn i o this⟩
theorem St.afm {ax:kz} {W w:World} {ρ:Env} {h:List aI} (hst:St ax W ρ (· <h.length) (aq h) w) (n:Nat):St ax W ρ (· <(h.set n .gone).length) (aq (h.set n .gone)) w:=by
 rw [List.length_set]
 refine hst.less fun i o ho=> ?_
 rw [bO,List.getElem?_set] at ho
 have:aq h i=some o:=by
  split at ho
  ·split at ho<;>simp [live] at ho
  ·rw [bO];exact ho
 exact ⟨this,hst.kn i o this⟩
end Go.Ev
namespace Go.Ev
open Go.RowKit
theorem xT (t:Ty) (x:t.T) (ρ:Env):(mR t x).map (Cell.af ρ)=(t.aJ x).map aL:=by
 simp [mR,List.map_map,Cell.af,Function.comp_def]
theorem pS (a:Bool) (t:Ty) (x:t.T) (ρ:Env):(Cx a t x).af ρ=cJ a t x:=by
 unfold Cx cJ
 cases a with
 |true=>simp only [A0.af,xT]
 |false=>
  have h:=xT t x ρ
  dsimp only
  rw [<- h]
  match mR t x with
  | []=>rfl
  | [c]=>rfl
  |_::_::_=>rfl
theorem FT (a:Bool) (t:Ty) (x:t.T) (Kn:Nat->Prop):(Cx a t x).ok Kn:=by
 have h: ∀c∈mR t x,c.ok Kn:=fun c hc=>by
  obtain ⟨_,_,rfl⟩:=List.mem_map.1 hc;trivial
 unfold Cx
 cases a with
 |true=>exact h
 |false=>
  dsimp only
  split
  ·rename_i c hm
   exact h c (by rw [hm];simp)
  ·trivial
theorem Oi {t:Ty} {x:t.T} {cs:List Cell} {tc:List Nat} (hf:t.flat=true) (h:b7 (fun _=>none) t cs=some (x,[],tc)) (w:World) (ρ:Env):cs.map (Cell.af ρ)=(t.aJ x).map aL:=by
 obtain ⟨ys,e,_,ha⟩:=kH _ t _ _ _ _ h
 have:=ha KS w ρ (fun _=>False) (fun _=>none) w (fun _ _=>rfl) (St.none w _)
 rw [List.append_nil] at e
 subst e
 have key: ∀(cs:List ck) (vs:List Value),(∀c∈cs,∃v,c= .flat v)->bK (E8 w (QO w)) cs vs->vs=cs.map aL:=by
  intro cs
  induction cs with
  |nil=>intro vs _ h;cases vs<;>first|rfl|exact h.elim
  |cons c r ih=>
   intro vs hc h
   cases vs with
   |nil=>exact h.elim
   |cons v s=>
    obtain ⟨u,rfl⟩:=hc c (by simp)
    have h1:v=u:=h.1
    rw [h1,ih s (fun c hm=>hc c (by simp [hm])) h.2];rfl
 exact key _ _ (fun c hc=>eC hf hc) this
theorem sx {a:Bool} {t:Ty} {v:AV} {x:t.T} (hf:t.flat=true) (h:RS a t v=some x) (w:World) (ρ:Env):v.af ρ=cJ a t x:=by
 unfold RS at h
 split at h
 ·split at h<;>try (cases h;done)
  rename_i cs ha
  split at h<;>try (cases h;done)
  rename_i hd
  cases h
  have:=Oi hf hd w ρ
  rw [ha]
  simp only [AV.af,A0.af,this,cJ]
 ·split at h<;>try (cases h;done)
  rename_i c ha
  split at h<;>try (cases h;done)
  rename_i hd
  cases h
  have:=Oi hf hd w ρ
  have ha:a=false:=by simpa using ha
  rw [ha]
  unfold cJ
  dsimp only
  rw [<- this]
  rfl
 ·cases h
theorem nk: ∀ {t:Ty},t.flat=true-> ∀(x y:t.T),p8 t x y=true↔x=y
 | .int _,_,x,y=>by simp [p8]
 | .bool,_,x,y=>by simp [p8]
 | .str,_,x,y=>MapKept.bytes_beq x y
 | .prod a b,h,x,y=>by
  simp only [Ty.flat,Bool.and_eq_true] at h
  simp only [p8,Bool.and_eq_true,nk h.1,nk h.2]
  exact ⟨fun ⟨h1,h2⟩=>Prod.ext h1 h2,fun h=>by subst h;exact ⟨rfl,rfl⟩⟩
 | .sl _,h,_,_=>by simp [Ty.flat] at h
def F6 {k:Ty} {β:Type} (x:k.T):List (k.T×β)->Nat->Option (Nat×β)
 | [],_=>none
 |p::r,i=>match p8 k x p.1 with
  |true=>some (i,p.2)
  |false=>F6 x r (i+1)
theorem N6 {k:Ty} {β:Type} (x:k.T): ∀(l:List (k.T×β)) (i:Nat),(F6 x l i).map (·.2)=nW l x
 | [],_=>rfl
 |p::r,i=>by
  unfold F6 nW
  cases p8 k x p.1 with
  |true=>rfl
  |false=>exact N6 x r (i+1)
theorem Mv {k:Ty} {β:Type} (x:k.T) (y:β): ∀(l:List (k.T×β)) (i:Nat),match F6 x l i with
  |none=>kV l x y=l++ [(x,y)]
  |some (j,_)=>i<=j/\ ∃p,l[j- i]? =some p/\ p8 k x p.1=true/\ kV l x y=l.set (j- i) (x,y)
 | [],_=>rfl
 |p::r,i=>by
  unfold F6 kV
  cases h:p8 k x p.1 with
  |true=>exact ⟨Nat.le_refl _,p,by simp,h,by simp⟩
  |false=>
   have:=Mv x y r (i+1)
   dsimp only
   split
   ·rename_i e
    rw [e] at this
    simp only at this
    rw [this];rfl
   ·rename_i j q e
    rw [e] at this
    obtain ⟨h1,p',h2,h3,h4⟩:=this
    have e1:j- i=(j- (i+1))+1:=by omega
    exact ⟨by omega,p',by rw [e1];simpa using h2,h3,by rw [e1,h4];simp⟩
end Go.Ev
namespace Go.Ev
open Go.RowKit
section
variable {P:Program} {ctx:Ctx} {hp:HP} {nm:Nat} {k:Rec->Prop}
theorem ng (hT:aU P ctx.tt) (em:Bool): ∀(d:Nat) (t:TypeId) (xs:List Cell) (b:Bool),Vz ctx.tt d t xs xs=some b-> ∀(D:Nat),d<=D-> ∀(ρ:Env) (w:World),
  ∃i,aG ctx.tt t=some i/\ ∃u,valOf i.desc (xs.map (Cell.af ρ))=some u/\ (Instr.checkKey em D t u).run P w= .ok () w
 |0,_,_,_,h,_,_,_,_=>by simp [Vz] at h
 |d+1,t,xs,b,h,D,hD,ρ,w=>by
  obtain ⟨D,rfl⟩: ∃D',D=D'+1:=⟨D- 1,by omega⟩
  simp only [Vz] at h
  split at h
  ·cases h
  ·rename_i i hi
   refine ⟨i,hi,?_⟩
   have hu:=(hT t i hi).1
   split at h
   ·rename_i k0 hd
    split at h
    ·refine ⟨_,(by simp only [valOf,hd,aF,Bool.false_eq_true,if_false,List.map_cons,List.map_nil];rfl),?_⟩
     have e0:P.underlying t=some (.int k0):=by rw [hu,hd]
     simp [Instr.checkKey,run_underlying e0]
    ·cases h
   ·rename_i hd
    split at h
    ·refine ⟨_,(by simp only [valOf,hd,aF,Bool.false_eq_true,if_false,List.map_cons,List.map_nil];rfl),?_⟩
     have e0:P.underlying t=some .bool:=by rw [hu,hd]
     simp [Instr.checkKey,run_underlying e0]
    ·cases h
   ·rename_i hd
    split at h
    ·refine ⟨_,(by simp only [valOf,hd,aF,Bool.false_eq_true,if_false,List.map_cons,List.map_nil];rfl),?_⟩
     have e0:P.underlying t=some .string:=by rw [hu,hd]
     simp [Instr.checkKey,run_underlying e0]
    ·cases h
   ·rename_i fs hd
    refine ⟨.agg (xs.map (Cell.af ρ)).toArray,by simp [valOf,hd,aF],?_⟩
    have e0:P.underlying t=some (.struct fs):=by rw [hu,hd]
    simp only [Instr.checkKey,Sem.run_bind,run_underlying e0,Result.andThen_ok]
    rw [<- Array.forIn_toList]
    clear hd e0 hu
    generalize fs.toList=l at h ⊢
    induction l generalizing b with
    |nil=>simp
    |cons f r ih=>
     simp only [eqFields] at h
     split at h
     ·cases h
     ·rename_i fi MN
      split at h
      ·cases h
      ·rename_i hnm
       split at h
       ·rename_i b1 b2 h1 h2
        obtain ⟨fi',YC,u,QN,hr⟩:=ng hT em d f.type _ b1 h1 D (by omega) ρ w
        rw [MN] at YC;cases YC
        rw [dS] at QN
        simp only [List.forIn_cons,ne_eq,hnm,not_false_eq_true,if_true,Sem.run_bind,ql hT MN _ _ QN,Result.andThen_ok,hr,Sem.run_pure]
        exact ih b2 h2
       ·cases h
   ·rename_i n e hd
    split at h
    ·rename_i ei jZ
     refine ⟨.agg (xs.map (Cell.af ρ)).toArray,by simp [valOf,hd,aF],?_⟩
     have e0:P.underlying t=some (.array n e):=by rw [hu,hd]
     simp only [Instr.checkKey,Sem.run_bind,run_underlying e0,Result.andThen_ok]
     rw [Std.Legacy.Range.forIn_eq_forIn_range']
     simp only [Std.Legacy.Range.size,Nat.sub_zero,Nat.add_sub_cancel,Nat.div_one]
     clear hd e0 hu
     generalize 0=s at h ⊢
     induction n generalizing s b with
     |zero=>simp
     |succ n ih=>
      simp only [Aq] at h
      split at h
      ·rename_i b1 b2 h1 h2
       obtain ⟨ei',YB,u,QN,hr⟩:=ng hT em d e _ b1 h1 D (by omega) ρ w
       rw [jZ] at YB;cases YB
       rw [dS] at QN
       simp only [List.range'_succ,List.forIn_cons,Sem.run_bind,hT.sz jZ,ql hT jZ _ _ QN,Result.andThen_ok,hr,Sem.run_pure]
       exact ih b2 (s+1) h2
      ·cases h
    ·cases h
   ·cases h
theorem uU {t:Ty} {d:TypeDesc} {x:t.T} {u:Value} {ρ:Env} (h:valOf d ((mR t x).map (Cell.af ρ))=some u):u=cJ (aF d) t x:=by
 rw [xT] at h
 unfold valOf at h
 unfold cJ
 split at h
 ·rename_i ha
  cases h;rw [ha]
 ·rename_i ha
  have:aF d=false:=by simpa using ha
  rw [this]
  dsimp only
  split at h
  ·rename_i v hv
   cases h;rw [hv]
  ·cases h
theorem oY (hT:aU P ctx.tt) {kt:TypeId} {ki:TI} (OF:aG ctx.tt kt=some ki) {kT:Ty} (hK:Ad ctx.tt kt kT) (em:Bool) (x:kT.T) (w:World):
  (Instr.checkKey em 10000 kt (cJ (aF ki.desc) kT x)).run P w= .ok () w:=by
 obtain ⟨i,hi,u,hu,hr⟩:=ng hT em 20 kt _ _ (hK x x) 10000 (by omega) (fun _=> {}) w
 rw [OF] at hi;cases hi
 rw [<- uU hu];exact hr
theorem VA (hT:aU P ctx.tt) {kt:TypeId} {ki:TI} (OF:aG ctx.tt kt=some ki) {kT:Ty} (hK:Ad ctx.tt kt kT) (x y:kT.T) (w:World):
  (Op.equal kt (cJ (aF ki.desc) kT x) (cJ (aF ki.desc) kT y)).run P w= .ok (p8 kT x y) w:=by
 obtain ⟨i,hi,u,v,hu,hv,hr⟩:=Ap hT 20 kt _ _ _ (hK x y) 10000 (by omega) (fun _=> {}) w
 rw [OF] at hi;cases hi
 rw [<- uU hu,<- uU hv];exact hr
def adJ (ka va:Bool) (kT vT:Ty) (l:List (kT.T×vT.T)):List (Value×Value):=l.map fun p=>(cJ ka kT p.1,cJ va vT p.2)
def ye {β:Type} (ka:Bool) (kT:Ty) (f:β->Value) (l:List (kT.T×β)):List (Value×Value):=l.map fun p=>(cJ ka kT p.1,f p.2)
theorem vK {β:Type} (f:β->Value) (hT:aU P ctx.tt) {kt:TypeId} {ki:TI} (OF:aG ctx.tt kt=some ki) {kT:Ty} (hK:Ad ctx.tt kt kT) (x:kT.T) (w:World):
  ∀(es:List MapEntry) (l:List (kT.T×β)) (i:Nat),es.map (fun e=>(e.key,e.val))=ye (aF ki.desc) kT f l->
   (Instr.findAsking kt (cJ (aF ki.desc) kT x) es i).run P w= .ok ((F6 x l i).map fun q=>(q.1,f q.2)) w
 | [],l,i,h=>by
  cases l with
  |nil=>rfl
  |cons p r=>simp [ye] at h
 |e::es,l,i,h=>by
  cases l with
  |nil=>simp [ye] at h
  |cons p r=>
   simp only [ye,List.map_cons,List.cons.injEq,Prod.mk.injEq] at h
   obtain ⟨⟨h1,h2⟩,h3⟩:=h
   simp only [Instr.findAsking,Sem.run_bind,h1,VA hT OF hK,Result.andThen_ok,F6]
   cases p8 kT x p.1 with
   |true=>simp [h2]
   |false=>exact vK f hT OF hK x w es r (i+1) h3
theorem S8 (hT:aU P ctx.tt) {kt:TypeId} {ki:TI} (OF:aG ctx.tt kt=some ki) {kT:Ty} (hf:kT.flat=true) (hK:Ad ctx.tt kt kT) (ha:aF ki.desc=false) (x y:kT.T):
  Instr.sameNow ki.desc (cJ false kT x) (cJ false kT y)=some (p8 kT x y):=by
 have h:=hK x y
 simp only [Vz,OF] at h
 split at h
 ·rename_i k0 hd
  cases kT with
  |int k1=>
   simp only [mR,Ty.aJ,List.map_cons,List.map_nil,aL,if_true] at h
   simp only [hd,cJ,Ty.aJ,List.map_cons,List.map_nil,aL,Instr.sameNow,if_true,p8]
  |bool=>simp [mR,Ty.aJ,aL] at h
  |str=>simp [mR,Ty.aJ,aL] at h
  |prod a b=>
   split at h
   ·rename_i hx hy
    have h1:=congrArg List.length hx
    have h2:=Ty.size_pos a
    have h3:=Ty.size_pos b
    simp [mR,aM,Ty.size] at h1;omega
   ·cases h
  |sl u=>simp [Ty.flat] at hf
 ·rename_i hd
  cases kT with
  |bool=>simp only [hd,cJ,Ty.aJ,List.map_cons,List.map_nil,aL,Instr.sameNow,p8]
  |int k1=>simp [mR,Ty.aJ,aL] at h
  |str=>simp [mR,Ty.aJ,aL] at h
  |prod a b=>
   split at h
   ·rename_i hx hy
    have h1:=congrArg List.length hx
    have h2:=Ty.size_pos a
    have h3:=Ty.size_pos b
    simp [mR,aM,Ty.size] at h1;omega
   ·cases h
  |sl u=>simp [Ty.flat] at hf
 ·rename_i hd
  cases kT with
  |str=>simp only [hd,cJ,Ty.aJ,List.map_cons,List.map_nil,aL,Instr.sameNow,p8]
  |int k1=>simp [mR,Ty.aJ,aL] at h
  |bool=>simp [mR,Ty.aJ,aL] at h
  |prod a b=>
   split at h
   ·rename_i hx hy
    have h1:=congrArg List.length hx
    have h2:=Ty.size_pos a
    have h3:=Ty.size_pos b
    simp [mR,aM,Ty.size] at h1;omega
   ·cases h
  |sl u=>simp [Ty.flat] at hf
 ·rename_i fs hd;rw [hd] at ha;cases ha
 ·rename_i n e hd;rw [hd] at ha;cases ha
 ·cases h
theorem DK {β:Type} (f:β->Value) (hT:aU P ctx.tt) {kt:TypeId} {ki:TI} (OF:aG ctx.tt kt=some ki) {kT:Ty} (hf:kT.flat=true) (hK:Ad ctx.tt kt kT) (ha:aF ki.desc=false) (x:kT.T):
  ∀(es:List MapEntry) (l:List (kT.T×β)) (i:Nat),es.map (fun e=>(e.key,e.val))=ye false kT f l->
   Instr.findNow ki.desc (cJ false kT x) es i=some ((F6 x l i).map fun q=>(q.1,f q.2))
 | [],l,i,h=>by
  cases l with
  |nil=>rfl
  |cons p r=>simp [ye] at h
 |e::es,l,i,h=>by
  cases l with
  |nil=>simp [ye] at h
  |cons p r=>
   simp only [ye,List.map_cons,List.cons.injEq,Prod.mk.injEq] at h
   obtain ⟨⟨h1,h2⟩,h3⟩:=h
   simp only [Instr.findNow,h1,S8 hT OF hf hK ha,F6]
   cases p8 kT x p.1 with
   |true=>simp [h2]
   |false=>exact DK f hT OF hf hK ha x es r (i+1) h3
theorem qI {β:Type} (f:β->Value) (hT:aU P ctx.tt) {kt:TypeId} {ki:TI} (OF:aG ctx.tt kt=some ki) {kT:Ty} (hf:kT.flat=true) (hK:Ad ctx.tt kt kT) (x:kT.T) (w:World)
  (es:List MapEntry) (l:List (kT.T×β)) (h:es.map (fun e=>(e.key,e.val))=ye (aF ki.desc) kT f l):
  (Instr.findKey kt (cJ (aF ki.desc) kT x) es).run P w= .ok ((F6 x l 0).map fun q=>(q.1,f q.2)) w:=by
 have hu:=hT.u OF w
 unfold Instr.findKey
 simp only [Sem.run_bind,hu,Result.andThen_ok]
 cases ha:aF ki.desc with
 |false=>
  rw [ha] at h
  rw [DK f hT OF hf hK ha x es l 0 h]
  rfl
 |true=>
  cases es with
  |nil=>
   cases l with
   |nil=>rfl
   |cons p r=>simp [ye] at h
  |cons e es=>
   have:Instr.findNow ki.desc (cJ true kT x) (e::es) 0=none:=by
    have:Instr.sameNow ki.desc (cJ true kT x) e.key=none:=by
     unfold Instr.sameNow cJ
     cases ki.desc<;>simp_all [aF]
    simp only [Instr.findNow,this]
   rw [this]
   rw [<- ha]
   exact vK f hT OF hK x w (e::es) l 0 h
theorem St.TC {ax:kz} {W w w1:World} {ρ:Env} {Kn:Nat->Prop} {Γ:HP} {n b:Nat} {o o':aI} (h:St ax W ρ Kn Γ w) (hn:Γ n=some o) (hb:(ρ n).bq=some b) (yx:o'.ok Kn) (hno: ∀S,o'≠ .cK S)
  (hf:Fr ax W w1) (hw: ∀b',b'≠b->w1.heap[b']? =w.heap[b']?) (hsz:w.heap.size<=w1.heap.size)
  (br:(∀b',gW ρ Γ w b'->gW ρ (bH Γ n o') w1 b'/\ w1.heap[b']? =w.heap[b']?)->bh (gW ρ (bH Γ n o') w1) (Fh ax W) ρ n o' w1):St ax W ρ Kn (bH Γ n o') w1:=by
 have hs: ∀m,(bH Γ n o' m).isSome=true->(Γ m).isSome=true:=fun m hm=>by
  unfold bH at hm;split at hm
  ·rename_i e;subst e;simp [hn]
  ·exact hm
 have yf: ∀b,HI (bH Γ n o') b->HI Γ b:=fun b ⟨m,S,h1,h2⟩=>by
  unfold bH at h1
  split at h1
  ·cases h1;exact absurd rfl (hno S)
  ·exact ⟨m,S,h1,h2⟩
 have hfz: ∀b',gW ρ Γ w b'->gW ρ (bH Γ n o') w1 b'/\ w1.heap[b']? =w.heap[b']? :=fun b' hf=>by
  have hne:b'≠b:=by rintro rfl;exact hf.2 (.inl ⟨n,by simp [hn],.inl hb⟩)
  refine ⟨⟨hf.1.same (hw _ hne),?_⟩,hw _ hne⟩
  rintro (⟨m,h1,h2⟩|⟨m,S,h1,h2⟩)
  ·exact hf.2 (.inl ⟨m,hs m h1,h2⟩)
  ·exact hf.2 (.inr (yf b' ⟨m,S,h1,h2⟩))
 refine ⟨hf,fun m p hp=> ?_,fun m p hp=> ?_,fun m m' c hm hm' gS iQ=>h.dK m m' c (hs m hm) (hs m' hm') gS iQ,fun m c hm hc=>h.oF m c (hs m hm) hc,fun c hc=> ?_,fun m p hp=> ?_⟩
 rotate_right
 ·unfold bH at hp
  split at hp
  ·rename_i e;subst e
   rcases h.yl m o hn with ⟨g,rfl⟩|he
   ·have:=(h.at_ m _ hn).1
    rw [hb] at this;cases this
   ·exact .inr he
  ·exact h.yl m p hp
 rotate_right
 ·obtain ⟨h1,h2⟩:=h.zo c (yf c hc)
  exact ⟨by omega,fun ⟨m,h3,h4⟩=>h2 ⟨m,hs m h3,h4⟩⟩
 ·unfold bH at hp;split at hp
  ·rename_i e;subst e;cases hp;exact br hfz
  ·rename_i e
   refine ct (Kn:=Kn) (h.at_ m p hp) (fun _ _=>rfl) (h.kn m p hp).1 (h.kn m p hp).2 hfz (fun _ _ h=>h) fun c hc=>hw _ ?_
   rintro rfl
   exact e (h.dK m n _ (by simp [hp]) (by simp [hn]) hc (.inl hb))
 ·unfold bH at hp;split at hp
  ·rename_i e;subst e;cases hp;exact ⟨(h.kn m o hn).1,yx⟩
  ·exact h.kn m p hp
theorem zz {i:TI} {kk:TypeId->TI->TI->Ty->Ty->Prop} (h:O0 ctx i kk): ∃kt et ki ei kT vT,i.desc= .map kt et/\ aG ctx.tt kt=some ki/\ aG ctx.tt et=some ei/\ kT.flat=true/\ vT.flat=true/\ GX ei.zero=aF ei.desc/\ kk kt ki ei kT vT:=by
 unfold O0 at h
 split at h
 ·rename_i kt et hd
  split at h
  ·rename_i ki ei h1 h2
   split at h
   ·rename_i kT vT h3 h4
    split at h
    ·rename_i h5
     simp only [Bool.and_eq_true,beq_iff_eq] at h5
     exact ⟨kt,et,ki,ei,kT,vT,hd,h1,h2,h5.1.1,h5.1.2,h5.2,h⟩
    ·exact h.elim
   ·exact h.elim
  ·exact h.elim
 ·exact h.elim
theorem Xy {t:Ty} {z:t.T} {v:Value} {tc:List Nat} (hf:t.flat=true) (h:b7 (fun _=>none) t (jt v)=some (z,[],tc)) (w:World):v=cJ (GX v) t z:=by
 have:=Ml hf h w
 cases v with
 |agg cs=>
  simp only [GX,cJ]
  rw [<- this]
  rfl
 |_=>
  simp only [GX,cJ]
  rw [<- this]
  rfl
theorem MZ {i:TI} {t:TypeId} (h:OY ctx i nm k): ∃r,aK P ctx.X hp nm (fun _=>True) (fun _=>Instr.makeMap t none) (fun ρ=>r.val.af ρ) r/\ k r:=by
 have h0:=zz h
 clear h
 obtain ⟨kt,et,ki,ei,kT,vT,hd,h1,h2,h3,h4,h5,h⟩:=h0
 refine ⟨_,⟨fun p hp=>absurd hp (by simp),?_⟩,h⟩
 intro ax W ρ Kn Γ w _ _ _ hfr hst
 have hn: ¬Kn nm:=by simpa using hfr 0 (by simp)
 refine ⟨aY ρ nm {bq:=some w.heap.size},w.alloc (.map #[] 0),?_,cG hn,?_,?_⟩
 ·simp only [AV.af,A0.af,Cell.af,aY,if_true];rfl
 ·exact .inr ⟨Nat.le_refl _,by simp⟩
 ·rw [tD]
  have e: ∀(v:AV) (o:aI) (tc:List Nat),live (some o)=some o->bC {val:=v,fresh:= [o],aC:=tc} nm Γ=bH Γ nm o:=fun v o tc ho=>by
   funext m;simp only [bC,bH,List.length_singleton,cf]
   by_cases h:m=nm
   ·subst h;simpa using ho
   ·have: ¬(nm≤m∧m<nm+1):=by omega
    simp [h,this]
  rw [e _ _ _ rfl]
  have hsz:=hst.fr.size
  refine hst.swap (G:= []) (o:= .map (aF ki.desc) (aF ei.desc) kT vT []) hn (hst.fr.alloc _) (fun b hb _=>Below.heap_alloc _ _ _ hb) (fun b hb=> ?_) (fun m p hp=> ?_) trivial (fun _ h=>by cases h) fun _ _=> ?_
  ·cases hb;exact ⟨.inl (Nat.le_refl _),.inl hsz⟩
  ·unfold bH at hp
   split at hp
   ·rename_i e1;cases hp;exact .inl ⟨e1,rfl⟩
   ·rename_i e1;exact .inr ⟨e1,by simp,hp⟩
  ·exact ⟨h3,h4,w.heap.size,#[],0,by simp [aY],by show (w.heap.push _)[w.heap.size]? =_;simp,rfl⟩
theorem OW (hT:aU P ctx.tt) {t:TypeId} {i:TI} (ht:aG ctx.tt t=some i) {x ix:AV} {ok:Bool} (h:T4 ctx i x ix ok hp k):
  ∃r,aK P ctx.X hp nm (fun _=>True) (fun ρ=>Instr.lookup t (x.af ρ) (ix.af ρ) ok) (fun ρ=>r.val.af ρ) r/\ k r:=by
 have h0:=zz h
 clear h
 obtain ⟨kt,et,ki,ei,kT,vT,hd,h1,h2,h3,h4,h5,h⟩:=h0
 split at h<;>try (exact h.elim)
 rename_i n
 split at h<;>try (exact h.elim)
 rename_i ka va j7 Fi l hn
 split at h<;>try (exact h.elim)
 rename_i oS
 split at h<;>try (exact h.elim)
 rename_i hty
 obtain ⟨rfl,rfl⟩:=hty
 obtain ⟨rfl,rfl⟩:=oS
 split at h<;>try (exact h.elim)
 rename_i a z tc hk hz
 obtain ⟨hK,_,h⟩:=h
 refine ⟨_,aK.pure ?_,h _ rfl⟩
 intro ax W ρ Kn Γ w _ _ dY hst
 obtain ⟨_,_,b,es,dI,hb,hh,he⟩:=hst.at_ n _ (by rw [dY n (by simp),hn])
 have hkey:=sx h3 hk w ρ
 have hfind:=qI (fun y:Fi.T=>cJ (aF ei.desc) Fi y) hT h1 h3 hK a w es.toList l he
 have Jw:=oY hT h1 hK es.isEmpty a w
 have hzero:=Xy h4 hz w
 rw [h5] at hzero
 have TU:=N6 a l 0
 have eb: ∀v:Value,(A0.one (.raw v)).af ρ=v:=fun _=>rfl
 refine ⟨?_,?_⟩
 ·rw [hkey]
  have YO:(AV.v (.one (.mp n))).af ρ= .map (some b):=by simp only [AV.af,A0.af,Cell.af,hb]
  rw [YO]
  simp only [Instr.lookup,Sem.run_bind,hT.u ht,hd,Result.andThen_ok,MapKept.run_getObj_map hh,Sem.run_pure,Jw,hfind]
  cases br:F6 a l 0 with
  |none=>
   rw [br] at TU
   have e1:nW l a=none:=TU.symm
   simp only [Option.map_none,Sem.run_bind,hT.z h2,Result.andThen_ok,Sem.run_pure]
   have e2:fQ l a z=z:=by simp [fQ,e1]
   have e3:Yw l a=false:=by simp [Yw,e1]
   cases ok with
   |true=>
    simp only [if_true,Sem.run_pure,AV.af,List.map_cons,List.map_nil,pS,eb,e2,e3,hzero]
   |false=>
    simp only [Bool.false_eq_true,if_false,Sem.run_pure,AV.af,pS,e2,hzero]
  |some q=>
   rw [br] at TU
   have e1:nW l a=some q.2:=TU.symm
   simp only [Option.map_some,Sem.run_bind,Result.andThen_ok,Sem.run_pure]
   have e2:fQ l a z=q.2:=by simp [fQ,e1]
   have e3:Yw l a=true:=by simp [Yw,e1]
   cases ok with
   |true=>
    simp only [if_true,Sem.run_pure,AV.af,List.map_cons,List.map_nil,pS,eb,e2,e3]
   |false=>
    simp only [Bool.false_eq_true,if_false,Sem.run_pure,AV.af,pS,e2]
 ·cases ok with
  |true=>
   intro x hx
   simp only [if_true,List.mem_cons,List.not_mem_nil,or_false] at hx
   rcases hx with rfl|rfl
   ·exact FT _ _ _ _
   ·trivial
  |false=>exact FT _ _ _ _
theorem yL {t:Ty} (hf:t.flat=true) (a:Bool) (x:t.T) (n:Nat) (hv:cJ a t x≠ .tuple #[]):Instr.sameBits (n+1) (cJ a t x) (cJ a t x)=true:=by
 have h1: ∀m v,v∈(t.aJ x).map aL->Instr.sameBits m v v=true:=fun m v hv=>by
  obtain ⟨c,hc,rfl⟩:=List.mem_map.1 hv
  have key: ∀(t:Ty) (x:t.T) (c:ck),t.flat=true->c∈t.aJ x->Instr.sameBits m (aL c) (aL c)=true:=by
   intro t
   induction t with
   |int k=>intro x c _ hc;simp only [Ty.aJ,List.mem_singleton] at hc;subst hc;cases m<;>simp [aL,Instr.sameBits]
   |bool=>intro x c _ hc;simp only [Ty.aJ,List.mem_singleton] at hc;subst hc;cases m<;>simp [aL,Instr.sameBits]
   |str=>
    intro x c _ hc
    simp only [Ty.aJ,List.mem_singleton] at hc
    subst hc
    cases m<;>exact (MapKept.bytes_beq _ _).2 rfl
   |prod a b JA JB=>
    intro x c hf hc
    simp only [Ty.flat,Bool.and_eq_true] at hf
    simp only [Ty.aJ,List.mem_append] at hc
    exact hc.elim (JA x.1 c hf.1) (JB x.2 c hf.2)
   |sl u _=>intro x c hf;simp [Ty.flat] at hf
  exact key t x c hf hc
 unfold cJ at hv ⊢
 cases a with
 |true=>
  simp only [Instr.sameBits,beq_self_eq_true,Bool.true_and,List.all_eq_true]
  rintro ⟨u,v⟩ huv
  have:u=v/\ u∈(t.aJ x).map aL:=by
   revert huv
   generalize (t.aJ x).map aL=l
   induction l with
   |nil=>intro h;simp at h
   |cons c r ih=>
    intro h
    simp only [List.zip_cons_cons,List.mem_cons,Prod.mk.injEq] at h
    rcases h with ⟨rfl,rfl⟩|h
    ·exact ⟨rfl,by simp⟩
    ·have:=ih h;exact ⟨this.1,by simp [this.2]⟩
  obtain ⟨rfl,hu⟩:=this
  exact h1 n u hu
 |false=>
  dsimp only at hv ⊢
  split
  ·rename_i v hm
   exact h1 _ v (by rw [hm];simp)
  ·rename_i hm
   split at hv
   ·rename_i v hm2;exact absurd hm2 (hm v)
   ·exact absurd rfl hv
theorem U3 {t:Ty} {ki:TI} {kt:TypeId} (hT:aU P ctx.tt) (OF:aG ctx.tt kt=some ki) (hK:Ad ctx.tt kt t) (x:t.T) (w:World):cJ (aF ki.desc) t x≠ .tuple #[]:=by
 obtain ⟨i,hi,u,hu,hr⟩:=ng hT false 20 kt _ _ (hK x x) 10000 (by omega) (fun _=> {}) w
 rw [OF] at hi;cases hi
 rw [<- uU hu]
 unfold valOf at hu
 split at hu
 ·cases hu;intro h;cases h
 ·split at hu
  ·rename_i v hm
   cases hu
   have hm':=hm
   rw [xT] at hm'
   cases t with
   |int k=>simp only [Ty.aJ,List.map_cons,List.map_nil,aL,List.cons.injEq,and_true] at hm';subst hm';intro h;cases h
   |bool=>simp only [Ty.aJ,List.map_cons,List.map_nil,aL,List.cons.injEq,and_true] at hm';subst hm';intro h;cases h
   |str=>simp only [Ty.aJ,List.map_cons,List.map_nil,aL,List.cons.injEq,and_true] at hm';subst hm';intro h;cases h
   |prod a b=>
    have h1:=congrArg List.length hm'
    have h2:=Ty.size_pos a
    have h3:=Ty.size_pos b
    simp only [List.length_map,aM,Ty.size,List.length_singleton] at h1
    omega
   |sl u=>simp only [Ty.aJ,List.map_cons,List.map_nil,aL,List.cons.injEq,and_true] at hm';subst hm';intro h;cases h
  ·cases hu
theorem vW (hT:aU P ctx.tt) {t:TypeId} {i:TI} (ht:aG ctx.tt t=some i) {x ix v:AV} (h:zB ctx i x ix v hp k):
  ∃r,aK P ctx.X hp nm (fun _=>True) (fun ρ=>Instr.mapUpdate t (x.af ρ) (ix.af ρ) (v.af ρ)) (fun _=>()) r/\ k r/\ r.val=aX:=by
 have h0:=zz h
 clear h
 obtain ⟨kt,et,ki,ei,kT,vT,hd,h1,h2,h3,h4,h5,h⟩:=h0
 split at h<;>try (exact h.elim)
 rename_i n
 split at h<;>try (exact h.elim)
 rename_i ka va j7 Fi l hn
 split at h<;>try (exact h.elim)
 rename_i oS
 split at h<;>try (exact h.elim)
 rename_i hty
 obtain ⟨rfl,rfl⟩:=hty
 obtain ⟨rfl,rfl⟩:=oS
 split at h<;>try (exact h.elim)
 rename_i a y hk hv
 obtain ⟨hK,_,h⟩:=h
 refine ⟨_,⟨fun p hp=> ?_,?_⟩,h _ rfl,rfl⟩
 ·simp only [List.mem_singleton] at hp;subst hp;rw [hn];intro e;cases e
 intro ax W ρ Kn Γ w _ _ dY _ hst
 have cj:Γ n=some (.map (aF ki.desc) (aF ei.desc) j7 Fi l):=by rw [dY n (by simp),hn]
 obtain ⟨_,_,b,es,dI,hb,hh,he⟩:=hst.at_ n _ cj
 have hkey:=sx h3 hk w ρ
 have hval:=sx h4 hv w ρ
 have hfind:=qI (fun y:Fi.T=>cJ (aF ei.desc) Fi y) hT h1 h3 hK a w es.toList l he
 have Jw:=oY hT h1 hK false a w
 have hput:=Mv a y l 0
 have YO:(AV.v (.one (.mp n))).af ρ= .map (some b):=by simp only [AV.af,A0.af,Cell.af,hb]
 have hlt:b<w.heap.size:=(Array.getElem?_eq_some_iff.1 hh).1
 have hown:=hst.own n b (by simp [cj]) hb
 have fin: ∀(es':Array MapEntry) (mH:Nat),es'.toList.map (fun e=>(e.key,e.val))=adJ (aF ki.desc) (aF ei.desc) j7 Fi (kV l a y)->
   (Instr.mapUpdate t ((AV.v (.one (.mp n))).af ρ) (ix.af ρ) (v.af ρ)).run P w= .ok () {w with heap:=w.heap.setIfInBounds b (.map es' mH)} ->
   ∃ρ' w',(Instr.mapUpdate t ((AV.v (.one (.mp n))).af ρ) (ix.af ρ) (v.af ρ)).run P w= .ok () w'/\ (∀m,Kn m->ρ' m=ρ m)/\ aX.ok (jO Kn nm {val:=aX,writes:= [(n,.map (aF ki.desc) (aF ei.desc) j7 Fi (kV l a y))],aC:= [n]})/\
    St ax W ρ' (jO Kn nm {val:=aX,writes:= [(n,.map (aF ki.desc) (aF ei.desc) j7 Fi (kV l a y))],aC:= [n]}) (bC {val:=aX,writes:= [(n,.map (aF ki.desc) (aF ei.desc) j7 Fi (kV l a y))],aC:= [n]} nm Γ) w':=by
  intro es' mH hes hrun
  refine ⟨ρ,_,hrun,fun _ _=>rfl,w4 _,?_⟩
  rw [gH,mG _ _ _ _ _ _ rfl]
  have iV:=MapKept.heap_set (o':=Obj.map es' mH) hh
  refine hst.TC cj hb trivial (fun _ h=>by cases h) ⟨hst.fr.os,hst.fr.tape,hst.fr.output,by simpa using hst.fr.size,fun k hk hnb=> ?_,hst.fr.QL⟩ (fun b' hne=>iV.2 b' hne) (by simp) fun _=> ?_
  ·have hne:k≠b:=by
    rintro rfl
    rcases hown with h|h
    ·omega
    ·exact hnb h
   rw [<- hst.fr.block k hk hnb]
   exact iV.2 k hne
  ·exact ⟨h3,h4,b,es',mH,hb,iV.1,hes⟩
 have ahZ: ∀(f:Result Unit->Prop),True:=fun _=>trivial
 cases br:F6 a l 0 with
 |none=>
  rw [br] at hfind hput
  simp only [Option.map_none] at hfind
  simp only at hput
  refine fin (es.push {key:=cJ (aF ki.desc) j7 a,val:=cJ (aF ei.desc) Fi y,born:=dI}) (dI+1) ?_ ?_
  ·rw [hput]
   simp only [Array.toList_push,List.map_append,he,adJ,List.map_cons,List.map_nil]
  ·rw [YO,hkey,hval]
   simp only [Instr.mapUpdate,Sem.run_bind,hT.u ht,hd,Result.andThen_ok,MapKept.run_getObj_map hh,Jw,hfind,MapKept.run_setObj_map _ hh]
 |some q=>
  obtain ⟨j,q2⟩:=q
  rw [br] at hfind hput
  simp only [Option.map_some] at hfind
  simp only [Nat.sub_zero] at hput
  obtain ⟨_,p,hp1,hp2,hp3⟩:=hput
  have hpa:a=p.1:=(nk h3 _ _).1 hp2
  have hj: ∃e,es.toList[j]? =some e/\ e.key=cJ (aF ki.desc) j7 a:=by
   have:(es.toList.map (fun e=>(e.key,e.val)))[j]? =some (cJ (aF ki.desc) j7 p.1,cJ (aF ei.desc) Fi p.2):=by
    rw [he,List.getElem?_map,hp1];rfl
   rw [List.getElem?_map] at this
   obtain ⟨e,OD,AH⟩:=Option.map_eq_some_iff.1 this
   exact ⟨e,OD,by rw [hpa];exact congrArg Prod.fst AH⟩
  obtain ⟨e,OD,AH⟩:=hj
  have hej:es[j]? =some e:=by rw [<- Array.getElem?_toList];exact OD
  have YL:(Instr.keyThatStays (((es[j]?).map (·.key)).getD (cJ (aF ki.desc) j7 a)) (cJ (aF ki.desc) j7 a)).run P w= .ok (cJ (aF ki.desc) j7 a) w:=by
   rw [hej]
   simp only [Option.map_some,Option.getD_some,AH,Instr.keyThatStays]
   rw [if_pos (yL h3 _ _ 9999 (U3 hT h1 hK a w))]
   rfl
  refine fin (es.modify j fun e=> {e with key:=cJ (aF ki.desc) j7 a,val:=cJ (aF ei.desc) Fi y}) dI ?_ ?_
  ·rw [hp3]
   simp only [adJ,List.map_set]
   have e3:(es.modify j fun e=> {e with key:=cJ (aF ki.desc) j7 a,val:=cJ (aF ei.desc) Fi y}).toList=es.toList.modify j fun e=> {e with key:=cJ (aF ki.desc) j7 a,val:=cJ (aF ei.desc) Fi y} :=by simp
   rw [e3]
   have e4:List.map (fun p=>(cJ (aF ki.desc) j7 p.1,cJ (aF ei.desc) Fi p.2)) l=es.toList.map (fun e=>(e.key,e.val)):=he.symm
   rw [e4]
   apply List.ext_getElem?
   intro i
   simp only [List.getElem?_map,List.getElem?_modify,List.getElem?_set]
   by_cases hij:j=i
   ·subst hij
    have hjl:j<es.toList.length:=(List.getElem?_eq_some_iff.1 OD).1
    simp [OD,hjl]
    have:j<es.size:=by simpa using hjl
    simp [this]
   ·simp [hij]
  ·rw [YO,hkey,hval]
   simp only [Instr.mapUpdate,Sem.run_bind,hT.u ht,hd,Result.andThen_ok,MapKept.run_getObj_map hh,Jw,hfind,YL,MapKept.run_setObj_map _ hh]
end
end Go.Ev
