/- Functions that write rows which they are handed. -/
import Derived.Test.YtaipcbdilkcdbaaEvR
noncomputable section
set_option linter.unusedSectionVars false
set_option linter.unusedVariables false
set_option linter.unusedSimpArgs false
namespace Go.Ev
open Go.RowKit
inductive lV
 |val (p:mF)
 |row (t:Ty)
 |ptr (t:Ty) (e:TypeId)
 |pair (a b:lV)
@[reducible] def lV.ty:lV->Ty
 | .val p=>p.ty
 | .row t=> .sl t
 | .ptr t _=>t
 | .pair a b=> .prod a.ty b.ty
@[reducible] def lV.out:lV->Ty
 | .val _=> .bool
 | .row t=> .sl t
 | .ptr t _=>t
 | .pair a b=> .prod a.out b.out
theorem At {t:Ty} {x:t.T} : ∀c∈kM t x,∃v,c= .raw v:=fun c hc=>by
 obtain ⟨q,_,rfl⟩:=List.mem_map.1 hc
 exact ⟨_,rfl⟩
theorem nR {hp:HP} : ∀(t:Ty) (cs:List Cell) (x:t.T) (r:List Cell) (tc:List Nat),t.flat=true->b8 hp t cs=some (x,r,tc)->cs=kM t x++r
 | .int k,cs,x,r,tc,_,h=>by
  simp only [b8] at h
  split at h
  ·split at h
   ·rename_i e;subst e;cases h;rfl
   ·cases h
  ·cases h
 | .bool,cs,x,r,tc,_,h=>by
  simp only [b8] at h
  split at h
  ·cases h;rfl
  ·cases h
 | .str,cs,x,r,tc,_,h=>by
  simp only [b8] at h
  split at h
  ·cases h;rfl
  ·cases h
 | .prod a b,cs,x,r,tc,hf,h=>by
  simp only [Ty.flat,Bool.and_eq_true] at hf
  simp only [b8] at h
  split at h
  ·rename_i x1 r1 Aa h1
   split at h
   ·rename_i y r2 Ew h2
    cases h
    rw [nR a _ _ _ _ hf.1 h1,nR b _ _ _ _ hf.2 h2]
    simp [kM,Ty.aI]
   ·cases h
  ·cases h
 | .sl u,cs,x,r,tc,hf,h=>by simp [Ty.flat] at hf
def ff:Nat->(p:lV)->p.ty.T->List A0×List aG
 |nm,.val p,x=>aT 0 nm p x
 |nm,.row t,x=>([.one (.full nm)],[.row t x 1])
 |nm,.ptr t e,x=>([.one (.ptr nm 0)],[.cells (kM t x) e])
 |nm,.pair a b,x=>match ff nm a x.1 with
  |(as,os)=>match ff (nm+os.length) b x.2 with
   |(bs,os')=>(as++bs,os++os')
def qN (hp:HP):(p:lV)->List AV->Option (p.ty.T×List AV×List Nat×List (Nat×Nat)×Bool)
 | .val p,l=>match jA hp p l with
  |some (x,r,tc,b)=>some (x,r,tc,[],b)
  |none=>none
 | .row t,l=>match l with
  | .v (.one (.full n))::r=>match hp n with
   |some (.row u l rk)=>if (rk≠0/\ rk≠3)/\ t.flat=true then (match iM u t l with
    |some l'=>some (l',r,[],[(n,rk)],true)
    |none=>none) else none
   |_=>none
  |_=>none
 | .ptr t e,l=>match l with
  | .v (.one (.ptr n 0))::r=>match hp n with
   |some (.cells cs e')=>if e'=e/\ t.flat=true then (match b8 hp t cs with
    |some (x,[],_)=>some (x,r,[],[(n,0)],true)
    |_=>none) else none
   |_=>none
  |_=>none
 | .pair a b,l=>match qN hp a l with
  |some (x,r,tc,ws,f)=>match qN hp b r with
   |some (y,r',uS,VB,f')=>some ((x,y),r',tc++uS,ws++VB,f&&f')
   |none=>none
  |none=>none
def P0 (cs:List Cell):Prop:= ∀c∈cs,∃v,c=Cell.raw v
structure fD where
 n:Nat
 rk:Nat
 m:Nat
 a:aG
 b:aG
 c:aG
 d:aG
def QX (q:fD):Prop:=(∃(t:Ty) (l:List t.T),(q.rk≠0/\ q.rk≠3)/\ t.flat=true/\ q.a= .row t l 1/\ q.b= .row t l q.rk)\/ (∃cs e,P0 cs/\ q.a= .cells cs e/\ q.b= .cells cs e)
def VF (q:fD):Prop:=(∃(t:Ty) (l z:List t.T),z.length=l.length/\ q.a= .row t l 1/\ q.c= .row t z 1/\ q.d= .row t z q.rk)\/ (∃cs zs e,P0 zs/\ q.a= .cells cs e/\ q.c= .cells zs e/\ q.d= .cells zs e)
def SO (q:fD):Prop:=(∃(t:Ty) (l z:List t.T),q.rk≠0/\ t.flat=true/\ z.length=l.length/\ q.b= .row t l q.rk/\ q.c= .row t z 1/\ q.d= .row t z q.rk)\/ (∃cs zs e,P0 zs/\ q.b= .cells cs e/\ q.c= .cells zs e/\ q.d= .cells zs e)
theorem SO.of {q:fD} (h:QX q) (h':VF q):SO q:=by
 rcases h with ⟨t,l,h1,h2,h3,h4⟩|⟨cs,e,h1,h2,h3⟩
 ·rcases h' with ⟨t',l',z,k1,k2,k3,k4⟩|⟨cs,zs,e,k1,k2,k3,k4⟩
  ·rw [h3] at k2
   injection k2 with e1 e2
   subst e1
   cases eq_of_heq e2
   exact .inl ⟨t,l,z,h1.1,h2,k1,h4,k3,k4⟩
  ·rw [h3] at k2;cases k2
 ·rcases h' with ⟨t',l',z,k1,k2,k3,k4⟩|⟨cs',zs,e',k1,k2,k3,k4⟩
  ·rw [h2] at k2;cases k2
  ·rw [h2] at k2
   injection k2 with e1 e2
   subst e1;subst e2
   exact .inr ⟨cs,zs,e,k1,h3,k3,k4⟩
theorem DP {cs:List Cell} (h:P0 cs) (ρ ρ':Env):cs.map (Cell.af ρ')=cs.map (Cell.af ρ):=List.map_congr_left fun c hc=>by
 obtain ⟨v,rfl⟩:=h c hc;rfl
theorem QX.at_ {q:fD} (h:QX q) {fz pm QG pm':Nat->Prop} {ρ dH:Env} {n m:Nat} {w:World} (ho:aX fz pm ρ n q.b w) (he:dH m=ρ n):aX QG pm' dH m q.a w:=by
 rcases h with ⟨t,l,h1,h2,h3,h4⟩|⟨cs,e,h1,h2,h3⟩
 ·rw [h4] at ho
  rw [h3]
  obtain ⟨g1,g2,g3,sub,g4,g5,g6,g7⟩:=ho
  rw [aX,he]
  refine ⟨g1,g2,g3,sub,fun i v hv=> ?_,fun j u' l' hj=> ?_,fun e=>absurd e (by decide),fun _=>(g7 h1.1).to fun e=>absurd e h1.2⟩
  ·obtain ⟨a,e1,e2,_⟩:=g4 i v hv
   exact ⟨a,e1,e2,fun e=>absurd e (by decide)⟩
  ·obtain ⟨v,hv⟩:=dn h2 (List.mem_of_getElem? hj)
   cases hv
 ·rw [h3] at ho
  rw [h2]
  obtain ⟨b,b1,b2⟩:=ho
  exact ⟨b,by rw [he];exact b1,by rw [DP h1 ρ dH];exact b2⟩
theorem SO.at_ {q:fD} (h:SO q) {fz pm QG pm':Nat->Prop} {ρ dH:Env} {n m:Nat} {w:World} (ho:aX fz pm ρ n q.c w) (he:dH m=ρ n):aX QG pm' dH m q.d w:=by
 rcases h with ⟨t,l,z,h1,h2,h3,h4,h5,h6⟩|⟨cs,zs,e,h1,h2,h3,h4⟩
 ·rw [h5] at ho
  rw [h6]
  obtain ⟨g1,g2,g3,sub,g4,g5,g6,g7⟩:=ho
  rw [aX,he]
  refine ⟨g1,g2,g3,sub,fun i v hv=> ?_,fun j u' l' hj=> ?_,fun e=>absurd e h1,fun _=>(g7 (by decide)).to fun e=>absurd e (by decide)⟩
  ·obtain ⟨a,e1,e2,_⟩:=g4 i v hv
   exact ⟨a,e1,e2,fun e=>absurd e h1⟩
  ·obtain ⟨v,hv⟩:=dn h2 (List.mem_of_getElem? hj)
   cases hv
 ·rw [h3] at ho
  rw [h4]
  obtain ⟨b,b1,b2⟩:=ho
  exact ⟨b,by rw [he];exact b1,by rw [DP h1 ρ dH];exact b2⟩
theorem QX.kind {q:fD} (h:QX q):(∀S,q.a≠ .eZ S)/\ (∀Kn,q.a.ok Kn):=by
 rcases h with ⟨t,l,h1,h2,h3,h4⟩|⟨cs,e,h1,h2,h3⟩
 ·rw [h3];exact ⟨fun S=>by simp,fun _=>trivial⟩
 ·rw [h2]
  exact ⟨fun S=>by simp,fun Kn c hc=>by obtain ⟨v,rfl⟩:=h1 c hc;trivial⟩
theorem SO.kind {q:fD} (h:SO q):(∀S,q.d≠ .eZ S)/\ (∀Kn,q.d.ok Kn)/\ live q.d=some q.d/\ live q.c=some q.c:=by
 rcases h with ⟨t,l,z,h1,h2,h3,h4,h5,h6⟩|⟨cs,zs,e,h1,h2,h3,h4⟩
 ·rw [h5,h6];exact ⟨fun S=>by simp,fun _=>trivial,rfl,rfl⟩
 ·rw [h3,h4]
  exact ⟨fun S=>by simp,fun Kn c hc=>by obtain ⟨v,rfl⟩:=h1 c hc;trivial,rfl,rfl⟩
def bY:(p:lV)->p.ty.T->p.out.T->Nat->List (Nat×Nat)->List fD×List (Nat×Nat)
 | .val _,_,_,_,ws=>([],ws)
 | .row t,x,z,nm,ws=>match ws with
  |(n,rk)::r=>([⟨n,rk,nm,.row t x 1,.row t x rk,.row t z 1,.row t z rk⟩],r)
  | []=>([],[])
 | .ptr t e,x,z,nm,ws=>match ws with
  |(n,rk)::r=>([⟨n,rk,nm,.cells (kM t x) e,.cells (kM t x) e,.cells (kM t z) e,.cells (kM t z) e⟩],r)
  | []=>([],[])
 | .pair a b,x,z,nm,ws=>match bY a x.1 z.1 nm ws with
  |(R,VB)=>match bY b x.2 z.2 (nm+(ff nm a x.1).2.length) VB with
   |(R',Zx)=>(R++R',Zx)
def G7 (hp:HP):(p:lV)->p.ty.T->Nat->Option (p.out.T×Bool)
 | .val _,_,_=>some (false,true)
 | .row t,x,nm=>match hp nm with
  |some (.row u l rk)=>if rk=1 then (match iM u t l with
   |some l'=>some (l',decide (l'.length=x.length))
   |none=>none) else none
  |_=>none
 | .ptr t e,x,nm=>match hp nm with
  |some (.cells cs e')=>if e'=e/\ t.flat=true then (match b8 hp t cs with
   |some (y,[],_)=>some (y,true)
   |_=>none) else none
  |_=>none
 | .pair a b,x,nm=>match G7 hp a x.1 nm with
  |some (y,f)=>match G7 hp b x.2 (nm+(ff nm a x.1).2.length) with
   |some (z,g)=>some ((y,z),f&&g)
   |none=>none
  |none=>none
def eB:(p:lV)->p.ty.T->Nat->List Nat
 | .val _,_,_=> []
 | .row _,_,nm=> [nm]
 | .ptr _ _,_,nm=> [nm]
 | .pair a b,x,nm=>eB a x.1 nm++eB b x.2 (nm+(ff nm a x.1).2.length)
structure Cz where
 p:lV
 r:mF
 pre:p.ty.T->Prop
 f:p.ty.T->r.ty.T×p.out.T
def QU (R:List fD):List (Nat×aG):=R.map fun r=>(r.n,r.d)
def bC (s:Cz):Spec:=fun _ args hp nm k=>match qN hp s.p args with
 | some (x,[],tc,ws,b)=>if iT (ws.map (·.1))&&AB tc (ws.map (·.1)) then
   ob b (s.pre x/\ ∀y,y=s.f x->k {val:=iq (aT 2 nm s.r y.1).1,fresh:=(aT 2 nm s.r y.1).2,writes:=QU (bY s.p x y.2 0 ws).1,az:=tc++ws.map (·.1)}) else False
 |_=>False
def J9 (p:lV) (x:p.ty.T):List AV:=(ff 0 p x).1.map .v
def Ov (p:lV) (x:p.ty.T) (ρ:Env):List aG:=(ff 0 p x).2++ [.de ρ (ff 0 p x).2.length]
def Sz (r:mF) (p:lV) (x:p.ty.T) (ρ:Env) (Q:r.ty.T×p.out.T->Prop) (v:AV) (st:AS):Prop:=match jn v with
 |some l=>match zu (aj st.heap) r l with
  |some (y,[],ss)=>if iT (ss.filterMap x6++eB p x 0) then (match G7 (aj st.heap) p x 0 with
   |some (z,f)=>vJ (aj st.heap (ff 0 p x).2.length) ρ (ff 0 p x).2.length (ob f (Q (y,z)))
   |none=>False) else False
  |_=>False
 |none=>False
theorem Ss (p:lV): ∀(x:p.ty.T) (z:p.out.T) (nm:Nat) (ws:List (Nat×Nat)),∀r∈(bY p x z nm ws).1,nm<=r.m/\ r.m<nm+(ff nm p x).2.length/\ (ff nm p x).2[r.m- nm]? =some r.a:=by
 induction p with
 |val p=>intro x z nm ws r h;simp [bY] at h
 |row t=>
  intro x z nm ws r h
  simp only [bY] at h
  split at h
  ·simp only [List.mem_singleton] at h;subst h;simp [ff]
  ·cases h
 |ptr t e=>
  intro x z nm ws r h
  simp only [bY] at h
  split at h
  ·simp only [List.mem_singleton] at h;subst h;simp [ff]
  ·cases h
 |pair a b CM CN=>
  intro x z nm ws r h
  simp only [bY,List.mem_append] at h
  simp only [ff,List.length_append]
  rcases h with h|h
  ·obtain ⟨h1,h2,h3⟩:=CM _ _ _ _ r h
   exact ⟨h1,by omega,by rw [List.getElem?_append_left (by omega)];exact h3⟩
  ·obtain ⟨h1,h2,h3⟩:=CN _ _ _ _ r h
   exact ⟨by omega,by omega,by rw [List.getElem?_append_right (by omega),show r.m- nm- (ff nm a x.1).2.length=r.m- (nm+(ff nm a x.1).2.length) by omega];exact h3⟩
theorem DQ {hp:HP} (p:lV): ∀(x:p.ty.T) (z:p.out.T) (nm:Nat) (ws:List (Nat×Nat)),G7 hp p x nm=some (z,true)-> ∀r∈(bY p x z nm ws).1,hp r.m=some r.c/\ VF r:=by
 induction p with
 |val p=>intro x z nm ws _ r h;simp [bY] at h
 |row t=>
  intro x z nm ws ho r h
  simp only [G7] at ho
  split at ho<;>try (cases ho;done)
  rename_i u l rk hl
  split at ho<;>try (cases ho;done)
  rename_i mW
  split at ho<;>try (cases ho;done)
  rename_i l' hc
  simp only [Option.some.injEq,Prod.mk.injEq,decide_eq_true_eq] at ho
  obtain ⟨rfl,hlen⟩:=ho
  obtain ⟨e1,e2⟩:=cK hc
  subst e1
  dsimp only at e2
  subst e2
  simp only [bY] at h
  split at h
  ·simp only [List.mem_singleton] at h;subst h;exact ⟨by rw [hl,mW],.inl ⟨_,_,_,hlen,rfl,rfl,rfl⟩⟩
  ·cases h
 |ptr t e=>
  intro x z nm ws ho r h
  simp only [G7] at ho
  split at ho<;>try (cases ho;done)
  rename_i cs e' hl
  split at ho<;>try (cases ho;done)
  rename_i hc
  split at ho<;>try (cases ho;done)
  rename_i y tc hd
  simp only [Option.some.injEq,Prod.mk.injEq,and_true] at ho
  subst ho
  have hcs:=nR t _ _ _ _ hc.2 hd
  rw [List.append_nil] at hcs
  simp only [bY] at h
  split at h
  ·simp only [List.mem_singleton] at h;subst h
   exact ⟨by rw [hl,hcs,hc.1],.inr ⟨_,_,_,At,rfl,rfl,rfl⟩⟩
  ·cases h
 |pair a b CM CN=>
  intro x z nm ws ho r h
  simp only [G7] at ho
  split at ho<;>try (cases ho;done)
  rename_i y f h1
  split at ho<;>try (cases ho;done)
  rename_i z' g h2
  simp only [Option.some.injEq,Prod.mk.injEq,Bool.and_eq_true] at ho
  obtain ⟨rfl,rfl,rfl⟩:=ho
  simp only [bY,List.mem_append] at h
  rcases h with h|h
  ·exact CM _ _ _ _ h1 r h
  ·exact CN _ _ _ _ h2 r h
theorem oa (p:lV): ∀(x:p.ty.T) (z:p.out.T) (nm:Nat) (ws:List (Nat×Nat)),(eB p x nm).length<=ws.length->((bY p x z nm ws).1.map (·.m))=eB p x nm/\ (bY p x z nm ws).2=ws.drop (eB p x nm).length/\ (bY p x z nm ws).1.map (fun r=>(r.n,r.rk))=ws.take (eB p x nm).length:=by
 induction p with
 |val p=>intro x z nm ws _;simp [bY,eB]
 |row t=>
  intro x z nm ws h
  cases ws with
  |nil=>simp [eB] at h
  |cons q r=>simp [bY,eB]
 |ptr t e=>
  intro x z nm ws h
  cases ws with
  |nil=>simp [eB] at h
  |cons q r=>simp [bY,eB]
 |pair a b CM CN=>
  intro x z nm ws h
  simp only [eB,List.length_append] at h
  obtain ⟨h1,h2,h3⟩:=CM x.1 z.1 nm ws (by omega)
  obtain ⟨h4,h5,h6⟩:=CN x.2 z.2 (nm+(ff nm a x.1).2.length) (bY a x.1 z.1 nm ws).2 (by rw [h2,List.length_drop];omega)
  rw [h2] at h4 h5 h6
  refine ⟨?_,?_,?_⟩
  ·simp only [bY,eB,List.map_append,h2]
   rw [h1,h4]
  ·simp only [bY,eB,List.length_append,h2]
   rw [h5,List.drop_drop]
  ·simp only [bY,eB,List.map_append,List.length_append,h2]
   rw [h3,h6,List.take_add]
theorem rf {hp:HP} (p:lV): ∀(args:List AV) (x:p.ty.T) (r:List AV) (tc:List Nat) (ws:List (Nat×Nat)) (b:Bool),qN hp p args=some (x,r,tc,ws,b)-> ∀nm,(eB p x nm).length=ws.length:=by
 induction p with
 |val p=>
  intro args x r tc ws b h nm
  simp only [qN] at h
  split at h
  ·cases h;rfl
  ·cases h
 |row t=>
  intro args x r tc ws b h nm
  simp only [qN] at h
  split at h<;>try (cases h;done)
  split at h<;>try (cases h;done)
  split at h<;>try (cases h;done)
  split at h<;>try (cases h;done)
  cases h;rfl
 |ptr t e=>
  intro args x r tc ws b h nm
  simp only [qN] at h
  split at h<;>try (cases h;done)
  split at h<;>try (cases h;done)
  split at h<;>try (cases h;done)
  split at h<;>try (cases h;done)
  cases h;rfl
 |pair a b' CM CN=>
  intro args x r tc ws b h nm
  simp only [qN] at h
  split at h<;>try (cases h;done)
  rename_i h1
  split at h<;>try (cases h;done)
  rename_i h2
  cases h
  simp only [eB,List.length_append,CM _ _ _ _ _ _ h1,CN _ _ _ _ _ _ h2]
theorem LR {hp:HP} (p:lV): ∀(args:List AV) (x:p.ty.T) (r:List AV) (tc:List Nat) (ws:List (Nat×Nat)),qN hp p args=some (x,r,tc,ws,true)->
  ∀(z:p.out.T) (nm:Nat) (Ib:List (Nat×Nat)),∀q∈(bY p x z nm (ws++Ib)).1,hp q.n=some q.b/\ QX q:=by
 induction p with
 |val p=>intro args x r tc ws h z nm Ib q hq;simp [bY] at hq
 |row t=>
  intro args x r tc ws h z nm Ib q hq
  simp only [qN] at h
  split at h<;>try (cases h;done)
  rename_i n r'
  split at h<;>try (cases h;done)
  rename_i u l rk hl
  split at h<;>try (cases h;done)
  rename_i hc
  split at h<;>try (cases h;done)
  rename_i l' hcast
  cases h
  obtain ⟨e1,e2⟩:=cK hcast
  subst e1
  dsimp only at e2
  subst e2
  simp only [List.cons_append,bY,List.mem_singleton] at hq
  subst hq
  exact ⟨hl,.inl ⟨_,_,hc.1,hc.2,rfl,rfl⟩⟩
 |ptr t e=>
  intro args x r tc ws h z nm Ib q hq
  simp only [qN] at h
  split at h<;>try (cases h;done)
  rename_i n r'
  split at h<;>try (cases h;done)
  rename_i cs e' hl
  split at h<;>try (cases h;done)
  rename_i hc
  split at h<;>try (cases h;done)
  rename_i y uS hd
  cases h
  have hcs:=nR t _ _ _ _ hc.2 hd
  rw [List.append_nil] at hcs
  simp only [List.cons_append,bY,List.mem_singleton] at hq
  subst hq
  exact ⟨by rw [hl,hcs,hc.1],.inr ⟨_,_,At,rfl,rfl⟩⟩
 |pair a b CM CN=>
  intro args x r tc ws h z nm Ib q hq
  simp only [qN] at h
  split at h<;>try (cases h;done)
  rename_i x1 r1 Aa XS f1 h1
  split at h<;>try (cases h;done)
  rename_i y r2 Ew VC f2 h2
  simp only [Option.some.injEq,Prod.mk.injEq,Bool.and_eq_true] at h
  obtain ⟨rfl,rfl,rfl,rfl,rfl,rfl⟩:=h
  rcases z with ⟨z1,z2⟩
  rw [List.append_assoc] at hq
  simp only [bY,List.mem_append] at hq
  rcases hq with hq|hq
  ·exact CM _ _ _ _ _ h1 _ _ _ q hq
  ·have hn:=oa a x1 z1 nm (XS++(VC++Ib)) (by rw [rf a _ _ _ _ _ _ h1 nm,List.length_append];omega)
   rw [hn.2.1,rf a _ _ _ _ _ _ h1 nm,List.drop_left] at hq
   exact CN _ _ _ _ _ h2 _ _ _ q hq
theorem LS {hp:HP} (p:lV): ∀(args:List AV) (x:p.ty.T) (r:List AV) (tc:List Nat) (ws:List (Nat×Nat)),qN hp p args=some (x,r,tc,ws,true)->
  ∃as,args=as++r/\ ∀ax W ρ Kn Γ w,(∀m∈tc,Γ m=hp m)->St ax W ρ Kn Γ w-> ∀ok,lD ok ρ Γ w tc-> ∀(z:p.out.T) (nm:Nat) (Ib:List (Nat×Nat)),∃xs:List Loc,xs.length=(ff nm p x).2.length/\
   (∀i o,(ff nm p x).2[i]? =some o-> ∃y,xs[i]? =some y/\ (dg ok w o y\/ ∃q∈(bY p x z nm (ws++Ib)).1,q.m=nm+i/\ o=q.a/\ y=ρ q.n))/\
   ∀aY:Env,(∀i y,xs[i]? =some y->aY (nm+i)=y)->as.map (AV.af ρ)=(ff nm p x).1.map (A0.af aY):=by
 induction p with
 |val p=>
  intro args x r tc ws h
  simp only [qN] at h
  split at h<;>try (cases h;done)
  rename_i hd
  cases h
  obtain ⟨as,e,hs⟩:=kz p _ _ _ _ hd
  refine ⟨as,e,fun ax W ρ Kn Γ w ht hst ok hok z nm Ib=> ?_⟩
  obtain ⟨xs,h1,h2⟩:=hs ax W ρ Kn Γ w ht hst ok hok nm
  refine ⟨xs,h1.length.symm,fun i o ho=> ?_,h2⟩
  obtain ⟨y,h3,h4⟩:=h1.get i o ho
  exact ⟨y,h3,.inl h4⟩
 |row t=>
  intro args x r tc ws h
  simp only [qN] at h
  split at h<;>try (cases h;done)
  rename_i n r'
  split at h<;>try (cases h;done)
  rename_i u l rk hl
  split at h<;>try (cases h;done)
  rename_i hc
  split at h<;>try (cases h;done)
  rename_i l' hcast
  cases h
  refine ⟨[_],rfl,fun ax W ρ Kn Γ w ht hst ok hok z nm Ib=>⟨[ρ n],rfl,fun i o ho=> ?_,fun aY hr=> ?_⟩⟩
  ·match i,ho with
   |0,ho=>
    simp only [ff,List.getElem?_cons_zero,Option.some.injEq] at ho
    exact ⟨_,rfl,.inr ⟨_,List.mem_singleton.2 rfl,rfl,ho.symm,rfl⟩⟩
   |i+1,ho=>simp [ff] at ho
  ·have h0:=hr 0 _ rfl
   rw [Nat.add_zero] at h0
   simp only [ff,List.map_cons,List.map_nil,AV.af,A0.af,Cell.af,h0]
 |ptr t e=>
  intro args x r tc ws h
  simp only [qN] at h
  split at h<;>try (cases h;done)
  rename_i n r'
  split at h<;>try (cases h;done)
  rename_i cs e' hl
  split at h<;>try (cases h;done)
  rename_i hc
  split at h<;>try (cases h;done)
  rename_i y uS hd
  cases h
  refine ⟨[_],rfl,fun ax W ρ Kn Γ w ht hst ok hok z nm Ib=>⟨[ρ n],rfl,fun i o ho=> ?_,fun aY hr=> ?_⟩⟩
  ·match i,ho with
   |0,ho=>
    simp only [ff,List.getElem?_cons_zero,Option.some.injEq] at ho
    exact ⟨_,rfl,.inr ⟨_,List.mem_singleton.2 rfl,rfl,ho.symm,rfl⟩⟩
   |i+1,ho=>simp [ff] at ho
  ·have h0:=hr 0 _ rfl
   rw [Nat.add_zero] at h0
   simp only [ff,List.map_cons,List.map_nil,AV.af,A0.af,Cell.af,addrOf,h0]
 |pair a b CM CN=>
  intro args x r tc ws h
  simp only [qN] at h
  split at h<;>try (cases h;done)
  rename_i x1 r1 Aa XS f1 h1
  split at h<;>try (cases h;done)
  rename_i y r2 Ew VC f2 h2
  simp only [Option.some.injEq,Prod.mk.injEq,Bool.and_eq_true] at h
  obtain ⟨rfl,rfl,rfl,rfl,rfl,rfl⟩:=h
  obtain ⟨as,e1,k1⟩:=CM _ _ _ _ _ h1
  obtain ⟨bs,e2,k2⟩:=CN _ _ _ _ _ h2
  refine ⟨as++bs,by rw [e1,e2];simp,fun ax W ρ Kn Γ w ht hst ok hok z nm Ib=> ?_⟩
  rcases z with ⟨z1,z2⟩
  obtain ⟨xs,l1,g1,c1⟩:=k1 ax W ρ Kn Γ w (fun m hm=>ht m (by simp [hm])) hst ok (hok.sub fun m hm=>by simp [hm]) z1 nm (VC++Ib)
  obtain ⟨ys,l2,g2,c2⟩:=k2 ax W ρ Kn Γ w (fun m hm=>ht m (by simp [hm])) hst ok (hok.sub fun m hm=>by simp [hm]) z2 (nm+(ff nm a x1).2.length) Ib
  have hn:=oa a x1 z1 nm (XS++(VC++Ib)) (by rw [rf a _ _ _ _ _ _ h1 nm,List.length_append];omega)
  have Wd:(bY a x1 z1 nm (XS++(VC++Ib))).2=VC++Ib:=by rw [hn.2.1,rf a _ _ _ _ _ _ h1 nm,List.drop_left]
  refine ⟨xs++ys,by simp only [ff,List.length_append,l1,l2],fun i o ho=> ?_,fun aY hr=> ?_⟩
  ·simp only [ff] at ho
   rw [List.append_assoc]
   simp only [bY,Wd]
   rcases Nat.lt_or_ge i (ff nm a x1).2.length with hlt|hge
   ·rw [List.getElem?_append_left hlt] at ho
    obtain ⟨y,h3,h4⟩:=g1 i o ho
    refine ⟨y,by rw [List.getElem?_append_left (by omega)];exact h3,h4.imp_right fun ⟨q,q1,q2⟩=>⟨q,List.mem_append.2 (.inl q1),q2⟩⟩
   ·rw [List.getElem?_append_right hge] at ho
    obtain ⟨y,h3,h4⟩:=g2 _ o ho
    refine ⟨y,by rw [List.getElem?_append_right (by omega),l1];exact h3,h4.imp_right fun ⟨q,q1,q2,q3⟩=>⟨q,List.mem_append.2 (.inr q1),by omega,q3⟩⟩
  ·simp only [ff,List.map_append]
   rw [c1 aY fun i y hi=>hr i y (by rw [List.getElem?_append_left (List.getElem?_eq_some_iff.1 hi).1];exact hi),c2 aY fun i y hi=>by
    have:=hr (xs.length+i) y (by rw [List.getElem?_append_right (by omega)];simpa using hi)
    rwa [l1,<- Nat.add_assoc] at this]
theorem Ri (p:lV): ∀(x:p.ty.T) (nm:Nat),∀c∈(ff nm p x).1,c.ok fun m=>nm<=m/\ m<nm+(ff nm p x).2.length:=by
 induction p with
 |val p=>intro x nm c h;exact gH 0 p x nm c h
 |row t=>
  intro x nm c h
  simp only [ff,List.mem_singleton] at h
  subst h
  simp only [ff,A0.ok,Cell.ok,List.length_singleton];omega
 |ptr t e=>
  intro x nm c h
  simp only [ff,List.mem_singleton] at h
  subst h
  simp only [ff,A0.ok,Cell.ok,List.length_singleton];omega
 |pair a b CM CN=>
  intro x nm c h
  simp only [ff,List.mem_append,List.length_append] at h ⊢
  rcases h with h|h
  ·exact A0.aZ (fun m hm=>by omega) c (CM _ _ c h)
  ·exact A0.aZ (fun m hm=>by omega) c (CN _ _ c h)
theorem St.Tw {ax:iV} {W:World} {ρ:Env} {Kn:Nat->Prop} {Γ:HP} {w:World} (h:St ax W ρ Kn Γ w) {os:List aG} {xs:List Loc} {R:List fD} (hl:xs.length=os.length)
  (hR: ∀q∈R,Γ q.n=some q.b/\ ((∀S,q.a≠ .eZ S)/\ q.a.ok (· <os.length))/\ ((∃m,q.a= .set m)\/ (ρ q.n).bT= []))
  (hA: ∀q∈R,xs.getD q.m {} =ρ q.n-> ∀fz pm,aX fz pm (fun n=>xs.getD n {}) q.m q.a w)
  (hn: ∀q∈R,∀q'∈R,q.n=q'.n->q.m=q'.m)
  (hx: ∀i o,os[i]? =some o-> ∃y,xs[i]? =some y/\ (dg (fun b=>bg w b/\ ∀q∈R,¬(ρ q.n).has b) w o y\/ ∃q∈R,q.m=i/\ o=q.a/\ y=ρ q.n)):
  St {wr:=fun b=> ∃q∈R,(ρ q.n).has b} w (fun n=>xs.getD n {}) (· <(os++ [aG.de (fun n=>xs.getD n {}) os.length]).length) (aj (os++ [aG.de (fun n=>xs.getD n {}) os.length])) w:=by
 obtain ⟨dH,lZ⟩: ∃dH:Env,dH=fun n=>xs.getD n {} :=⟨_,rfl⟩
 rw [<- lZ]
 have uo: ∀i y,xs[i]? =some y->dH i=y:=fun i y hy=>by rw [lZ];simp [hy]
 have E3:(dH os.length).bt=Option.none/\ (dH os.length).bT= []:=by rw [lZ];simp [List.getElem?_eq_none (show xs.length<=os.length by omega)]
 have rE: ∀n o,aj (os++ [aG.de dH os.length]) n=some o->(n<os.length/\ (dg (fun b=>bg w b/\ ∀q∈R,¬(ρ q.n).has b) w o (dH n)\/ ∃q∈R,q.m=n/\ o=q.a/\ dH n=ρ q.n))\/ (n=os.length/\ o= .de dH os.length):=fun n o ho=>by
  have h1:=rN ho
  rcases Nat.lt_or_ge n os.length with h2|h2
  ·rw [List.getElem?_append_left h2] at h1
   obtain ⟨y,h3,h4⟩:=hx n o h1
   rw [uo n y h3]
   exact .inl ⟨h2,h4⟩
  ·rw [List.getElem?_append_right h2] at h1
   have:n- os.length=0:=by
    rcases Nat.eq_zero_or_pos (n- os.length) with h3|h3
    ·exact h3
    ·rw [List.getElem?_eq_none (by simp;omega)] at h1;cases h1
   rw [this] at h1
   simp only [List.getElem?_cons_zero,Option.some.injEq] at h1
   exact .inr ⟨by omega,h1.symm⟩
 have gO: ∀n b,(aj (os++ [aG.de dH os.length]) n).isSome=true->(dH n).has b-> ∃q∈R,q.m=n/\ dH n=ρ q.n/\ (ρ q.n).has b:=fun n b hn' hb=>by
  obtain ⟨o,ho⟩:=Option.isSome_iff_exists.1 hn'
  rcases rE n o ho with ⟨_,h1|⟨q,h1,h2,_,h3⟩⟩|⟨rfl,_⟩
  ·obtain ⟨u,l,rfl⟩:=bM h1
   exact (nZ h1.2.1 hb).elim
  ·exact ⟨q,h1,h2,h3,by rw [<- h3];exact hb⟩
  ·exact (nZ E3 hb).elim
 have Gt: ∀b,¬HI (aj (os++ [aG.de dH os.length])) b:=fun b ⟨m,S,h1,_⟩=>by
  rcases rE m _ h1 with ⟨_,h2|⟨q,hq,_,e,_⟩⟩|⟨_,e⟩
  ·obtain ⟨u,l,e⟩:=bM h2;cases e
  ·exact (hR q hq).2.1.1 S e.symm
  ·cases e
 have hfz: ∀b,(bg w b/\ ∀q∈R,¬(ρ q.n).has b)->eo dH (aj (os++ [aG.de dH os.length])) w b:=fun b hb=>⟨hb.1,by
  rintro (⟨m,h1,h2⟩|h1)
  ·obtain ⟨q,h3,_,_,h4⟩:=gO m b h1 h2
   exact hb.2 q h3 h4
  ·exact Gt b h1⟩
 refine ⟨Fr.refl _ _,fun n o ho=> ?_,fun n o ho=> ?_,fun n m b kC Dg fg fV=> ?_,fun n b kC fg=> ?_,fun b hb=>absurd hb (Gt b),fun n o ho=> ?_⟩
 rotate_right
 ·rcases rE n o ho with ⟨_,h1|⟨q,h1,h2,h3,h4⟩⟩|⟨rfl,rfl⟩
  ·obtain ⟨u,l,rfl⟩:=bM h1
   exact .inr h1.2.1.2
  ·rw [h4,h3]
   exact (hR q h1).2.2
  ·exact .inr E3.2
 ·rcases rE n o ho with ⟨_,h1|⟨q,h1,h2,h3,h4⟩⟩|⟨rfl,rfl⟩
  ·obtain ⟨u,l,rfl⟩:=bM h1
   obtain ⟨_,g1,g2,g3,g4,vals,g5,g6⟩:=h1
   obtain ⟨e1,e2⟩:=jo g5
   refine ⟨g2,g3,g4,pM vals,fun i v hv=> ?_,fun q u' l' hq=> ?_,fun _=>g1.1,fun h=>absurd rfl h⟩
   ·rw [e1] at hv
    obtain ⟨a,k1,k2,k3⟩:=g6 i v hv
    exact ⟨a,k1,k2,fun _=>hfz _ k3⟩
   ·exact (e2 q u' l' hq).weak fun b hb=>⟨hfz b hb,fun h=>by cases h⟩
  ·subst h3
   subst h2
   have e:=hA q h1 (by rw [lZ] at h4;exact h4)
   rw [<- lZ] at e
   exact e _ _
  ·exact ⟨E3.1,fun m _=>rfl⟩
 ·rcases rE n o ho with ⟨h0,h1|⟨q,h1,h2,h3,h4⟩⟩|⟨rfl,rfl⟩
  ·obtain ⟨u,l,rfl⟩:=bM h1
   exact ⟨by simp;omega,trivial⟩
  ·subst h3
   exact ⟨by simp;omega,aG.aZ (fun m hm=>by simp;omega) _ (hR q h1).2.1.2⟩
  ·exact ⟨by simp,fun m hm=>by simp;omega⟩
 ·obtain ⟨q,q1,q2,_,q3⟩:=gO n b kC fg
  obtain ⟨q',MU,Xg,_,Vz⟩:=gO m b Dg fV
  have:=h.cW q.n q'.n b (by rw [(hR q q1).1];rfl) (by rw [(hR q' MU).1];rfl) q3 Vz
  rw [<- q2,<- Xg]
  exact hn q q1 q' MU this
 ·obtain ⟨q,q1,_,_,q3⟩:=gO n b kC fg
  exact .inr ⟨q,q1,q3⟩
theorem St.Tx {ax:iV} {W:World} {ρ:Env} {Kn:Nat->Prop} {Γ:HP} {w:World} (h:St ax W ρ Kn Γ w) {os:List aG} {xs:List Loc} {R:List fD} (hl:xs.length=os.length)
  (hR: ∀q∈R,Γ q.n=some q.b/\ QX q)
  (hn: ∀q∈R,∀q'∈R,q.n=q'.n->q.m=q'.m)
  (hx: ∀i o,os[i]? =some o-> ∃y,xs[i]? =some y/\ (dg (fun b=>bg w b/\ ∀q∈R,¬(ρ q.n).has b) w o y\/ ∃q∈R,q.m=i/\ o=q.a/\ y=ρ q.n)):
  St {wr:=fun b=> ∃q∈R,(ρ q.n).has b} w (fun n=>xs.getD n {}) (· <(os++ [aG.de (fun n=>xs.getD n {}) os.length]).length) (aj (os++ [aG.de (fun n=>xs.getD n {}) os.length])) w:=
 h.Tw hl (fun q hq=>⟨(hR q hq).1,⟨(hR q hq).2.kind.1,(hR q hq).2.kind.2 _⟩,.inr (by
  obtain ⟨k1,k2⟩:=hR q hq
  rcases h.qI _ _ k1 with ⟨g,e⟩|e
  ·rcases k2 with ⟨_,_,_,_,_,e2⟩|⟨_,_,_,_,e2⟩<;>rw [e2] at e<;>cases e
  ·exact e)⟩) (fun q hq e fz pm=>(hR q hq).2.at_ (h.at_ _ _ (hR q hq).1) e) hn hx
theorem Mt {R:List fD} {m:Nat} {o:aG} (h:bW (QU R) m=some o): ∃q∈R,q.n=m/\ o=q.d:=by
 induction R with
 |nil=>cases h
 |cons q r ih=>
  simp only [QU,List.map_cons,bW] at h
  split at h
  ·rename_i p hp
   cases h
   obtain ⟨q',h1,h2⟩:=ih hp
   exact ⟨q',by simp [h1],h2⟩
  ·split at h
   ·rename_i e;cases h;exact ⟨q,by simp,e,rfl⟩
   ·cases h
theorem Ms {R:List fD} {q:fD} (h:q∈R): ∃o,bW (QU R) q.n=some o:=by
 induction R with
 |nil=>cases h
 |cons p r ih=>
  simp only [QU,List.map_cons,bW]
  rcases List.mem_cons.1 h with rfl|h
  ·cases e:bW (List.map (fun r=>(r.n,r.d)) r) q.n with
   |some o=>exact ⟨o,rfl⟩
   |none=>exact ⟨q.d,by simp⟩
  ·obtain ⟨o,ho⟩:=ih h
   have ho:bW (List.map (fun r=>(r.n,r.d)) r) q.n=some o:=ho
   rw [ho];exact ⟨o,rfl⟩
theorem St.VR {ax:iV} {W:World} {ρ aY:Env} {Kn:Nat->Prop} {Γ:HP} {w w':World} {nm:Nat} {os:List aG} {v:AV} {tc:List Nat} {R:List fD} (h:St ax W ρ Kn Γ w) (hn: ∀i,i<os.length-> ¬Kn (nm+i)) (hrow: ∀o∈os,∃u,∃l:List u.T,o= .row u l 2)
  (hR: ∀q∈R,Γ q.n=some q.b/\ ((∀S,q.d≠ .eZ S)/\ q.d.ok Kn/\ live q.d=some q.d/\ live q.c=some q.c)/\ ((∃m,q.d= .set m)\/ (ρ q.n).bT= []))
  (hA: ∀(i:Nat) (q:fD),R[i]? =some q-> ∀ρ':Env,(∀m,Kn m->ρ' m=ρ m)->aX (eo aY (aj (os++R.map fD.c)) w') (qP {wr:=fun b=> ∃q∈R,(ρ q.n).has b} w) aY (os.length+i) q.c w'-> ∀fz pm,aX fz pm ρ' q.n q.d w')
  (h1:St {wr:=fun b=> ∃q∈R,(ρ q.n).has b} w aY (· <(os++R.map fD.c).length) (aj (os++R.map fD.c)) w')
  (h2: ∀(i:Nat) (q:fD),R[i]? =some q->aY (os.length+i)=ρ q.n):
  ∃ρ',(∀m,Kn m->ρ' m=ρ m)/\ (∀n,n<os.length->ρ' (n+nm)=aY n)/\ St ax W ρ' (iQ Kn nm {val:=v,fresh:=os,writes:=QU R,az:=tc}) (bB {val:=v,fresh:=os,writes:=QU R,az:=tc} nm Γ) w':=by
 let ρ':Env:=fun m=>if nm<=m/\ m<nm+os.length then aY (m- nm) else ρ m
 have hold: ∀m,Kn m->ρ' m=ρ m:=fun m hm=>by
  simp only [ρ']
  rw [if_neg]
  rintro ⟨h2,h3⟩
  exact hn (m- nm) (by omega) (by rw [show nm+(m- nm)=m by omega];exact hm)
 have hnew: ∀n,n<os.length->ρ' (n+nm)=aY n:=fun n hn=>by
  simp only [ρ']
  rw [if_pos (by omega),show n+nm- nm=n by omega]
 have I0: ∀n,n<os.length->aj (os++R.map fD.c) n=aj os n:=fun n hn=>by
  unfold aj;rw [List.getElem?_append_left hn]
 have Yj: ∀q∈R,∃i,R[i]? =some q/\ aj (os++R.map fD.c) (os.length+i)=some q.c:=fun q hq=>by
  obtain ⟨i,hi⟩:=List.mem_iff_getElem?.1 hq
  refine ⟨i,hi,?_⟩
  unfold aj
  rw [List.getElem?_append_right (by omega),Nat.add_sub_cancel_left,List.getElem?_map,hi];exact (hR q hq).2.1.2.2.2
 have hkn: ∀q∈R,Kn q.n:=fun q hq=>(h.kn q.n _ (hR q hq).1).1
 obtain ⟨r,hr⟩: ∃r:Rec,r= {val:=v,fresh:=os,writes:=QU R,az:=tc} :=⟨_,rfl⟩
 rw [<- hr]
 have bV: ∀m o,bB r nm Γ m=some o->(∃n,m=n+nm/\ n<os.length/\ aj os n=some o/\ ∃u,∃l:List u.T,o= .row u l 2)\/ (∃q∈R,m=q.n/\ o=q.d)\/ (Γ m=some o/\ Kn m/\ ∀q∈R,q.n≠m):=by
  intro m o ho
  rw [hr] at ho
  simp only [bB] at ho
  split at ho
  ·rename_i hc
   have hlt:m- nm<os.length:=by omega
   refine .inl ⟨m- nm,by omega,hlt,by rw [bX];exact ho,?_⟩
   rw [List.getElem?_eq_getElem hlt] at ho
   obtain ⟨u,l,e⟩:=hrow _ (List.getElem_mem hlt)
   rw [e] at ho
   simp only [live,Option.some.injEq] at ho
   exact ⟨u,l,ho.symm⟩
  ·split at ho
   ·rename_i p hp
    obtain ⟨q,q1,q2,rfl⟩:=Mt hp
    rw [(hR q q1).2.1.2.2.1,Option.some.injEq] at ho
    exact .inr (.inl ⟨q,q1,q2.symm,ho.symm⟩)
   ·rename_i hp
    refine .inr (.inr ⟨ho,(h.kn m o ho).1,fun q hq e=> ?_⟩)
    obtain ⟨p,fI⟩:=Ms hq
    rw [e,hp] at fI;cases fI
 have hsome: ∀m,(∃n,m=n+nm/\ n<os.length)\/ ((bB r nm Γ m).isSome=true->(Γ m).isSome=true/\ Kn m):=fun m=>by
  rcases Decidable.em (nm<=m/\ m<nm+os.length) with hc|hc
  ·exact .inl ⟨m- nm,by omega,by omega⟩
  ·refine .inr fun hs=> ?_
   obtain ⟨o,ho⟩:=Option.isSome_iff_exists.1 hs
   rcases bV m o ho with ⟨n,e,hlt,_⟩|⟨q,q1,rfl,_⟩|⟨g,k,_⟩
   ·exact absurd ⟨by omega,by omega⟩ hc
   ·exact ⟨by rw [(hR q q1).1];rfl,hkn q q1⟩
   ·exact ⟨by rw [g];rfl,k⟩
 have QJ: ∀b,b<w.heap.size->(∀q∈R,¬(ρ q.n).has b)->w'.heap[b]? =w.heap[b]? :=fun b hb hq=>h1.fr.block b hb fun ⟨q,q1,q2⟩=>hq q q1 q2
 have hnb: ∀n b,n<os.length->(aj os n).isSome=true->(aY n).has b->w.heap.size<=b:=fun n b hlt hs hb=>by
  rcases h1.jR n b (by rw [I0 n hlt];exact hs) hb with h3|⟨q,q1,q2⟩
  ·exact h3
  ·exfalso
   obtain ⟨i,hi,hlv⟩:=Yj q q1
   have:=h1.cW n (os.length+i) b (by rw [I0 n hlt];exact hs) (by rw [hlv];rfl) hb (by rw [h2 i q hi];exact q2)
   omega
 have kD: ∀m o b,Γ m=some o->(ρ m).has b->b<w.heap.size:=fun m o b ho hb=>h.lt m b (by rw [ho];rfl) hb
 have Me: ∀b,QE ρ' (bB r nm Γ) b->(w.heap.size<=b/\ ∃n,n<os.length/\ (aj os n).isSome=true/\ (aY n).has b)\/ (b<w.heap.size/\ QE ρ Γ b):=by
  rintro b ⟨m,h3,h4⟩
  obtain ⟨o,ho⟩:=Option.isSome_iff_exists.1 h3
  rcases bV m o ho with ⟨n,rfl,kC,hp,_⟩|⟨q,q1,rfl,_⟩|⟨hg,hk,_⟩
  ·rw [hnew n kC] at h4
   exact .inl ⟨hnb n b kC (by rw [hp];rfl) h4,n,kC,by rw [hp];rfl,h4⟩
  ·rw [hold _ (hkn q q1)] at h4
   exact .inr ⟨kD _ _ b (hR q q1).1 h4,q.n,by rw [(hR q q1).1];rfl,h4⟩
  ·rw [hold m hk] at h4
   exact .inr ⟨kD m o b hg h4,m,by rw [hg];rfl,h4⟩
 have qG: ∀b,HI (bB r nm Γ) b->HI Γ b:=fun b ⟨m,S,h3,h4⟩=>by
  rcases bV m _ h3 with ⟨n,_,_,_,u,l,e⟩|⟨q,hq,_,e⟩|⟨hg,hk,_⟩
  ·cases e
  ·exact absurd e.symm ((hR q hq).2.1.1 S)
  ·exact ⟨m,S,hg,h4⟩
 have hnw: ∀b,eo ρ Γ w b-> ∀q∈R,¬(ρ q.n).has b:=fun b hb q hq e=>hb.2 (.inl ⟨q.n,by rw [(hR q hq).1];rfl,e⟩)
 have hsz:=h.fr.size
 have ON:=h1.fr.size
 have hfz: ∀b,eo ρ Γ w b->eo ρ' (bB r nm Γ) w' b/\ w'.heap[b]? =w.heap[b]? :=fun b hb=>by
  have hlt:=hb.1.lt
  have e:=QJ b hlt (hnw b hb)
  refine ⟨⟨hb.1.same e,?_⟩,e⟩
  rintro (hl|hl)
  ·rcases Me b hl with ⟨h3,_⟩|⟨_,h3⟩
   ·omega
   ·exact hb.2 (.inl h3)
  ·exact hb.2 (.inr (qG b hl))
 have IW: ∀b,eo aY (aj (os++R.map fD.c)) w' b->qP {wr:=fun b=> ∃q∈R,(ρ q.n).has b} w b->eo ρ' (bB r nm Γ) w' b/\ qP ax W b:=fun b hb hp=>by
  have hge:w.heap.size<=b:=by
   rcases hp with h3|⟨q,q1,q2⟩|h3
   ·exact h3
   ·exfalso
    obtain ⟨i,hi,hlv⟩:=Yj q q1
    exact hb.2 (.inl ⟨os.length+i,by rw [hlv];rfl,by rw [h2 i q hi];exact q2⟩)
   ·exact h3.elim
  refine ⟨⟨hb.1,?_⟩,.inl (by omega)⟩
  rintro (hl|hl)
  ·rcases Me b hl with ⟨_,n,n1,n2,n3⟩|⟨h3,_⟩
   ·exact hb.2 (.inl ⟨n,by rw [I0 n n1];exact n2,n3⟩)
   ·omega
  ·have:=(h.rH b (qG b hl)).1
   omega
 have Ud: ∀m:Nat,m<os.length->iQ Kn nm r (m+nm):=fun m hm=> .inr (by rw [hr];simp only [];omega)
 have V2: ∀q∈R,∀b,(ρ q.n).has b->W.heap.size<=b\/ ax b:=fun q hq b hb=>h.jR q.n b (by rw [(hR q hq).1];rfl) hb
 refine ⟨ρ',hold,hnew,⟨?_,fun m o ho=> ?_,fun m o ho=> ?_,fun m m' b hm hm' fg fV=> ?_,fun m b hm hb=> ?_,fun b hh=> ?_,fun m o ho=> ?_⟩⟩
 rotate_right
 ·rcases bV m o ho with ⟨n,rfl,kC,hp,_⟩|⟨q,q1,rfl,rfl⟩|⟨hg,hk,_⟩
  ·rw [hnew n kC];exact h1.qI n o (by rw [I0 n kC];exact hp)
  ·rw [hold _ (hkn q q1)]
   exact (hR q q1).2.2
  ·rw [hold m hk];exact h.qI m o hg
 rotate_right
 ·obtain ⟨h3,h4⟩:=h.rH b (qG b hh)
  refine ⟨by omega,fun h5=> ?_⟩
  rcases Me b h5 with ⟨h6,_⟩|⟨_,h6⟩
  ·omega
  ·exact h4 h6
 ·refine ⟨h1.fr.os.trans h.fr.os,h1.fr.tape.trans h.fr.tape,h1.fr.output.trans h.fr.output,Nat.le_trans hsz ON,fun k hk Wo=> ?_,Nat.le_trans h.fr.FJ h1.fr.FJ⟩
  rw [h1.fr.block k (by omega) fun ⟨q,q1,q2⟩=> ?_]
  ·exact h.fr.block k hk Wo
  ·rcases V2 q q1 k q2 with h3|h3
   ·omega
   ·exact Wo h3
 ·rcases bV m o ho with ⟨n,rfl,kC,hp,u,l,rfl⟩|⟨q,q1,rfl,rfl⟩|⟨hg,hk,hne⟩
  ·obtain ⟨g1,g2,g3,sub,g4,g5,g6,g7⟩:=h1.at_ n _ (by rw [I0 n kC];exact hp)
   rw [aX,hnew n kC]
   exact ⟨g1,g2,g3,sub,fun i x hi=>by
    obtain ⟨a,e1,e2,_⟩:=g4 i x hi
    exact ⟨a,e1,e2,fun h=>by cases h⟩,fun q u' l' hq=>(g5 q u' l' hq).weak fun b hb=>by
     obtain ⟨e1,e2⟩:=IW b hb.1 (hb.2 rfl).1
     exact ⟨e1,fun _=>⟨e2,(hb.2 rfl).2⟩⟩,g6,g7⟩
  ·obtain ⟨i,hi,hlv⟩:=Yj q q1
   exact hA i q hi ρ' hold (h1.at_ _ _ hlv) _ _
  ·refine ct (Kn:=Kn) (h.at_ m o hg) hold hk (h.kn m o hg).2 hfz (fun _ _ h=>h) fun b hb=>QJ b (kD m o b hg hb) fun q hq e=> ?_
   exact hne q hq (h.cW q.n m b (by rw [(hR q hq).1];rfl) (by rw [hg];rfl) e hb)
 ·rcases bV m o ho with ⟨n,rfl,kC,hp,u,l,rfl⟩|⟨q,q1,rfl,rfl⟩|⟨hg,hk,_⟩
  ·exact ⟨Ud n kC,trivial⟩
  ·exact ⟨.inl (hkn q q1),aG.aZ (fun _=> .inl) _ (hR q q1).2.1.2.1⟩
  ·exact ⟨.inl hk,aG.aZ (fun _=> .inl) o (h.kn m o hg).2⟩
 ·have Gn: ∀m b,(bB r nm Γ m).isSome=true→(ρ' m).has b→(∃n,m=n+nm∧n<os.length∧(aj os n).isSome=true∧(aY n).has b∧w.heap.size≤b)∨((Γ m).isSome=true∧(ρ m).has b∧b<w.heap.size):=fun m b hm hb=>by
   obtain ⟨o,ho⟩:=Option.isSome_iff_exists.1 hm
   rcases bV m o ho with ⟨n,rfl,kC,hp,_⟩|⟨q,q1,rfl,_⟩|⟨hg,hk,_⟩
   ·rw [hnew n kC] at hb
    exact .inl ⟨n,rfl,kC,by rw [hp];rfl,hb,hnb n b kC (by rw [hp];rfl) hb⟩
   ·rw [hold _ (hkn q q1)] at hb
    exact .inr ⟨by rw [(hR q q1).1];rfl,hb,kD _ _ b (hR q q1).1 hb⟩
   ·rw [hold m hk] at hb
    exact .inr ⟨by rw [hg];rfl,hb,kD m o b hg hb⟩
  rcases Gn m b hm fg with ⟨n,rfl,n1,n2,n3,n4⟩|⟨n1,n2,n3⟩
  ·rcases Gn m' b hm' fV with ⟨n',rfl,W3,W4,Vx,n4'⟩|⟨W3,W4,Vx⟩
   ·rw [h1.cW n n' b (by rw [I0 n n1];exact n2) (by rw [I0 n' W3];exact W4) n3 Vx]
   ·omega
  ·rcases Gn m' b hm' fV with ⟨n',rfl,W3,W4,Vx,n4'⟩|⟨W3,W4,Vx⟩
   ·omega
   ·exact h.cW m m' b n1 W3 n2 W4
 ·obtain ⟨o,ho⟩:=Option.isSome_iff_exists.1 hm
  rcases bV m o ho with ⟨n,rfl,kC,hp,_⟩|⟨q,q1,rfl,_⟩|⟨hg,hk,_⟩
  ·rw [hnew n kC] at hb
   have:=hnb n b kC (by rw [hp];rfl) hb
   exact .inl (by omega)
  ·rw [hold _ (hkn q q1)] at hb
   exact V2 q q1 b hb
  ·rw [hold m hk] at hb
   exact h.jR m b (by rw [hg];rfl) hb
theorem St.VS {ax:iV} {W:World} {ρ aY:Env} {Kn:Nat->Prop} {Γ:HP} {w w':World} {nm:Nat} {os:List aG} {v:AV} {tc:List Nat} {R:List fD} (h:St ax W ρ Kn Γ w) (hn: ∀i,i<os.length-> ¬Kn (nm+i)) (hrow: ∀o∈os,∃u,∃l:List u.T,o= .row u l 2)
  (hR: ∀q∈R,Γ q.n=some q.b/\ SO q)
  (h1:St {wr:=fun b=> ∃q∈R,(ρ q.n).has b} w aY (· <(os++R.map fD.c).length) (aj (os++R.map fD.c)) w')
  (h2: ∀(i:Nat) (q:fD),R[i]? =some q->aY (os.length+i)=ρ q.n):
  ∃ρ',(∀m,Kn m->ρ' m=ρ m)/\ (∀n,n<os.length->ρ' (n+nm)=aY n)/\ St ax W ρ' (iQ Kn nm {val:=v,fresh:=os,writes:=QU R,az:=tc}) (bB {val:=v,fresh:=os,writes:=QU R,az:=tc} nm Γ) w':=
 h.VR hn hrow (fun q hq=>⟨(hR q hq).1,⟨(hR q hq).2.kind.1,(hR q hq).2.kind.2.1 _,(hR q hq).2.kind.2.2⟩,.inr (by
  obtain ⟨k1,k2⟩:=hR q hq
  rcases h.qI _ _ k1 with ⟨g,e⟩|e
  ·rcases k2 with ⟨_,_,_,_,_,_,e2,_⟩|⟨_,_,_,_,e2,_⟩<;>rw [e2] at e<;>cases e
  ·exact e)⟩) (fun i q hi ρ' hold ho fz pm=>(hR q (List.mem_of_getElem? hi)).2.at_ ho (by rw [hold _ (h.kn q.n _ (hR q (List.mem_of_getElem? hi)).1).1,h2 i q hi])) h1 h2
end Go.Ev
