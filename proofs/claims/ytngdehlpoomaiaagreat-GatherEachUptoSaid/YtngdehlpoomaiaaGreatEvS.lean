/- Functions that write rows which they are handed. -/
import Derived.Test.YtngdehlpoomaiaaGreatEvR
noncomputable section
set_option linter.unusedSectionVars false
set_option linter.unusedVariables false
set_option linter.unusedSimpArgs false
namespace Go.Ev
open Go.RowKit
inductive mT
 |val (p:kK)
 |row (t:Ty)
 |ptr (t:Ty) (e:TypeId)
 |pair (a b:mT)
@[reducible] def mT.ty:mT->Ty
 | .val p=>p.ty
 | .row t=> .sl t
 | .ptr t _=>t
 | .pair a b=> .prod a.ty b.ty
@[reducible] def mT.out:mT->Ty
 | .val _=> .bool
 | .row t=> .sl t
 | .ptr t _=>t
 | .pair a b=> .prod a.out b.out
theorem E1 {t:Ty} {x:t.T} : ∀c∈Pj t x,∃v,c= .raw v:=fun c hc=>by
 obtain ⟨q,_,rfl⟩:=List.mem_map.1 hc
 exact ⟨_,rfl⟩
theorem pK {hp:HP} : ∀(t:Ty) (cs:List Cell) (x:t.T) (r:List Cell) (tc:List Nat),t.flat=true->b9 hp t cs=some (x,r,tc)->cs=Pj t x++r
 | .int k,cs,x,r,tc,_,h=>by
  simp only [b9] at h
  split at h
  ·split at h
   ·rename_i e;subst e;cases h;rfl
   ·cases h
  ·cases h
 | .bool,cs,x,r,tc,_,h=>by
  simp only [b9] at h
  split at h
  ·cases h;rfl
  ·cases h
 | .str,cs,x,r,tc,_,h=>by
  simp only [b9] at h
  split at h
  ·cases h;rfl
  ·cases h
 | .prod a b,cs,x,r,tc,hf,h=>by
  simp only [Ty.flat,Bool.and_eq_true] at hf
  simp only [b9] at h
  split at h
  ·rename_i x1 r1 El h1
   split at h
   ·rename_i y r2 tH h2
    cases h
    rw [pK a _ _ _ _ hf.1 h1,pK b _ _ _ _ hf.2 h2]
    simp [Pj,Ty.aT]
   ·cases h
  ·cases h
 | .sl u,cs,x,r,tc,hf,h=>by simp [Ty.flat] at hf
def e9:Nat->(p:mT)->p.ty.T->List A0×List aG
 |nm,.val p,x=>aW 0 nm p x
 |nm,.row t,x=>([.one (.full nm)],[.row t x 1])
 |nm,.ptr t e,x=>([.one (.ptr nm 0)],[.cells (Pj t x) e])
 |nm,.pair a b,x=>match e9 nm a x.1 with
  |(as,os)=>match e9 (nm+os.length) b x.2 with
   |(bs,os')=>(as++bs,os++os')
def tX (hp:HP):(p:mT)->List AV->Option (p.ty.T×List AV×List Nat×List (Nat×Nat)×Bool)
 | .val p,l=>match eY hp p l with
  |some (x,r,tc,b)=>some (x,r,tc,[],b)
  |none=>none
 | .row t,l=>match l with
  | .v (.one (.full n))::r=>match hp n with
   |some (.row u l rk)=>if (rk≠0/\ rk≠3)/\ t.flat=true then (match ij u t l with
    |some l'=>some (l',r,[],[(n,rk)],true)
    |none=>none) else none
   |_=>none
  |_=>none
 | .ptr t e,l=>match l with
  | .v (.one (.ptr n 0))::r=>match hp n with
   |some (.cells cs e')=>if e'=e/\ t.flat=true then (match b9 hp t cs with
    |some (x,[],_)=>some (x,r,[],[(n,0)],true)
    |_=>none) else none
   |_=>none
  |_=>none
 | .pair a b,l=>match tX hp a l with
  |some (x,r,tc,ws,f)=>match tX hp b r with
   |some (y,r',yL,ws',f')=>some ((x,y),r',tc++yL,ws++ws',f&&f')
   |none=>none
  |none=>none
def abg (cs:List Cell):Prop:= ∀c∈cs,∃v,c=Cell.raw v
structure fG where
 n:Nat
 rk:Nat
 m:Nat
 a:aG
 b:aG
 c:aG
 d:aG
def WP1 (q:fG):Prop:=(∃(t:Ty) (l:List t.T),(q.rk≠0/\ q.rk≠3)/\ t.flat=true/\ q.a= .row t l 1/\ q.b= .row t l q.rk)\/ (∃cs e,abg cs/\ q.a= .cells cs e/\ q.b= .cells cs e)
def WPc (q:fG):Prop:=(∃(t:Ty) (l z:List t.T),z.length=l.length/\ q.a= .row t l 1/\ q.c= .row t z 1/\ q.d= .row t z q.rk)\/ (∃cs zs e,abg zs/\ q.a= .cells cs e/\ q.c= .cells zs e/\ q.d= .cells zs e)
def WP2 (q:fG):Prop:=(∃(t:Ty) (l z:List t.T),q.rk≠0/\ t.flat=true/\ z.length=l.length/\ q.b= .row t l q.rk/\ q.c= .row t z 1/\ q.d= .row t z q.rk)\/ (∃cs zs e,abg zs/\ q.b= .cells cs e/\ q.c= .cells zs e/\ q.d= .cells zs e)
theorem WP2.of {q:fG} (h:WP1 q) (h':WPc q):WP2 q:=by
 rcases h with ⟨t,l,h1,h2,h3,h4⟩|⟨cs,e,h1,h2,h3⟩
 ·rcases h' with ⟨t',l',z,k1,k2,k3,k4⟩|⟨cs,zs,e,k1,k2,k3,k4⟩
  ·rw [h3] at k2
   injection k2 with e1 e2
   subst e1
   cases eq_of_heq e2
   exact .inl ⟨t,l,z,h1.1,h2,k1,h4,k3,k4⟩
  ·rw [h3] at k2;cases k2
 ·rcases h' with ⟨t',l',z,k1,k2,k3,k4⟩|⟨cs',zs,e',k1,k2,k3,k4⟩
  ·rw [h2] at k2;cases k2
  ·rw [h2] at k2
   injection k2 with e1 e2
   subst e1;subst e2
   exact .inr ⟨cs,zs,e,k1,h3,k3,k4⟩
theorem Kf {cs:List Cell} (h:abg cs) (ρ ρ':Env):cs.map (Cell.ae ρ')=cs.map (Cell.ae ρ):=List.map_congr_left fun c hc=>by
 obtain ⟨v,rfl⟩:=h c hc;rfl
theorem WP1.at_ {q:fG} (h:WP1 q) {fz pm fz' pm':Nat->Prop} {ρ aV:Env} {n m:Nat} {w:World} (ho:bn fz pm ρ n q.b w) (he:aV m=ρ n):bn fz' pm' aV m q.a w:=by
 rcases h with ⟨t,l,h1,h2,h3,h4⟩|⟨cs,e,h1,h2,h3⟩
 ·rw [h4] at ho
  rw [h3]
  obtain ⟨g1,g2,g3,sub,g4,g5,g6,g7⟩:=ho
  rw [bn,he]
  refine ⟨g1,g2,g3,sub,fun i v hv=> ?_,fun j u' l' hj=> ?_,fun e=>absurd e (by decide),fun _=>(g7 h1.1).to fun e=>absurd e h1.2⟩
  ·obtain ⟨a,e1,e2,_⟩:=g4 i v hv
   exact ⟨a,e1,e2,fun e=>absurd e (by decide)⟩
  ·obtain ⟨v,hv⟩:=eD h2 (List.mem_of_getElem? hj)
   cases hv
 ·rw [h3] at ho
  rw [h2]
  obtain ⟨b,b1,b2⟩:=ho
  exact ⟨b,by rw [he];exact b1,by rw [Kf h1 ρ aV];exact b2⟩
theorem WP2.at_ {q:fG} (h:WP2 q) {fz pm fz' pm':Nat->Prop} {ρ aV:Env} {n m:Nat} {w:World} (ho:bn fz pm ρ n q.c w) (he:aV m=ρ n):bn fz' pm' aV m q.d w:=by
 rcases h with ⟨t,l,z,h1,h2,h3,h4,h5,h6⟩|⟨cs,zs,e,h1,h2,h3,h4⟩
 ·rw [h5] at ho
  rw [h6]
  obtain ⟨g1,g2,g3,sub,g4,g5,g6,g7⟩:=ho
  rw [bn,he]
  refine ⟨g1,g2,g3,sub,fun i v hv=> ?_,fun j u' l' hj=> ?_,fun e=>absurd e h1,fun _=>(g7 (by decide)).to fun e=>absurd e (by decide)⟩
  ·obtain ⟨a,e1,e2,_⟩:=g4 i v hv
   exact ⟨a,e1,e2,fun e=>absurd e h1⟩
  ·obtain ⟨v,hv⟩:=eD h2 (List.mem_of_getElem? hj)
   cases hv
 ·rw [h3] at ho
  rw [h4]
  obtain ⟨b,b1,b2⟩:=ho
  exact ⟨b,by rw [he];exact b1,by rw [Kf h1 ρ aV];exact b2⟩
theorem WP1.kind {q:fG} (h:WP1 q):(∀S,q.a≠ .hide S)/\ (∀Kn,q.a.ok Kn):=by
 rcases h with ⟨t,l,h1,h2,h3,h4⟩|⟨cs,e,h1,h2,h3⟩
 ·rw [h3];exact ⟨fun S=>by simp,fun _=>trivial⟩
 ·rw [h2]
  exact ⟨fun S=>by simp,fun Kn c hc=>by obtain ⟨v,rfl⟩:=h1 c hc;trivial⟩
theorem WP2.kind {q:fG} (h:WP2 q):(∀S,q.d≠ .hide S)/\ (∀Kn,q.d.ok Kn)/\ live q.d=some q.d/\ live q.c=some q.c:=by
 rcases h with ⟨t,l,z,h1,h2,h3,h4,h5,h6⟩|⟨cs,zs,e,h1,h2,h3,h4⟩
 ·rw [h5,h6];exact ⟨fun S=>by simp,fun _=>trivial,rfl,rfl⟩
 ·rw [h3,h4]
  exact ⟨fun S=>by simp,fun Kn c hc=>by obtain ⟨v,rfl⟩:=h1 c hc;trivial,rfl,rfl⟩
def bM:(p:mT)->p.ty.T->p.out.T->Nat->List (Nat×Nat)->List fG×List (Nat×Nat)
 | .val _,_,_,_,ws=>([],ws)
 | .row t,x,z,nm,ws=>match ws with
  |(n,rk)::r=>([⟨n,rk,nm,.row t x 1,.row t x rk,.row t z 1,.row t z rk⟩],r)
  | []=>([],[])
 | .ptr t e,x,z,nm,ws=>match ws with
  |(n,rk)::r=>([⟨n,rk,nm,.cells (Pj t x) e,.cells (Pj t x) e,.cells (Pj t z) e,.cells (Pj t z) e⟩],r)
  | []=>([],[])
 | .pair a b,x,z,nm,ws=>match bM a x.1 z.1 nm ws with
  |(R,ws')=>match bM b x.2 z.2 (nm+(e9 nm a x.1).2.length) ws' with
   |(R',amY)=>(R++R',amY)
def Pb (hp:HP):(p:mT)->p.ty.T->Nat->Option (p.out.T×Bool)
 | .val _,_,_=>some (false,true)
 | .row t,x,nm=>match hp nm with
  |some (.row u l rk)=>if rk=1 then (match ij u t l with
   |some l'=>some (l',decide (l'.length=x.length))
   |none=>none) else none
  |_=>none
 | .ptr t e,x,nm=>match hp nm with
  |some (.cells cs e')=>if e'=e/\ t.flat=true then (match b9 hp t cs with
   |some (y,[],_)=>some (y,true)
   |_=>none) else none
  |_=>none
 | .pair a b,x,nm=>match Pb hp a x.1 nm with
  |some (y,f)=>match Pb hp b x.2 (nm+(e9 nm a x.1).2.length) with
   |some (z,g)=>some ((y,z),f&&g)
   |none=>none
  |none=>none
def dZ:(p:mT)->p.ty.T->Nat->List Nat
 | .val _,_,_=> []
 | .row _,_,nm=> [nm]
 | .ptr _ _,_,nm=> [nm]
 | .pair a b,x,nm=>dZ a x.1 nm++dZ b x.2 (nm+(e9 nm a x.1).2.length)
structure FnW where
 p:mT
 r:kK
 pre:p.ty.T->Prop
 f:p.ty.T->r.ty.T×p.out.T
def wwr (R:List fG):List (Nat×aG):=R.map fun r=>(r.n,r.d)
def jZ (s:FnW):Spec:=fun _ args hp nm k=>match tX hp s.p args with
 | some (x,[],tc,ws,b)=>if dY (ws.map (·.1))&&oZ tc (ws.map (·.1)) then
   ob b (s.pre x/\ ∀y,y=s.f x->k {val:=ji (aW 2 nm s.r y.1).1,fresh:=(aW 2 nm s.r y.1).2,writes:=wwr (bM s.p x y.2 0 ws).1,aH:=tc++ws.map (·.1)}) else False
 |_=>False
def Ts (p:mT) (x:p.ty.T):List AV:=(e9 0 p x).1.map .v
def ZP (p:mT) (x:p.ty.T) (ρ:Env):List aG:=(e9 0 p x).2++ [.bT ρ (e9 0 p x).2.length]
def ae2 (r:kK) (p:mT) (x:p.ty.T) (ρ:Env) (Q:r.ty.T×p.out.T->Prop) (v:AV) (st:AS):Prop:=match kj v with
 |some l=>match Dy (aj st.heap) r l with
  |some (y,[],ss)=>if dY (ss.filterMap Cg++dZ p x 0) then (match Pb (aj st.heap) p x 0 with
   |some (z,f)=>pR (aj st.heap (e9 0 p x).2.length) ρ (e9 0 p x).2.length (ob f (Q (y,z)))
   |none=>False) else False
  |_=>False
 |none=>False
theorem aeY (p:mT): ∀(x:p.ty.T) (z:p.out.T) (nm:Nat) (ws:List (Nat×Nat)),∀r∈(bM p x z nm ws).1,nm<=r.m/\ r.m<nm+(e9 nm p x).2.length/\ (e9 nm p x).2[r.m- nm]? =some r.a:=by
 induction p with
 |val p=>intro x z nm ws r h;simp [bM] at h
 |row t=>
  intro x z nm ws r h
  simp only [bM] at h
  split at h
  ·simp only [List.mem_singleton] at h;subst h;simp [e9]
  ·cases h
 |ptr t e=>
  intro x z nm ws r h
  simp only [bM] at h
  split at h
  ·simp only [List.mem_singleton] at h;subst h;simp [e9]
  ·cases h
 |pair a b Mf Mg=>
  intro x z nm ws r h
  simp only [bM,List.mem_append] at h
  simp only [e9,List.length_append]
  rcases h with h|h
  ·obtain ⟨h1,h2,h3⟩:=Mf _ _ _ _ r h
   exact ⟨h1,by omega,by rw [List.getElem?_append_left (by omega)];exact h3⟩
  ·obtain ⟨h1,h2,h3⟩:=Mg _ _ _ _ r h
   exact ⟨by omega,by omega,by rw [List.getElem?_append_right (by omega),show r.m- nm- (e9 nm a x.1).2.length=r.m- (nm+(e9 nm a x.1).2.length) by omega];exact h3⟩
theorem Kg {hp:HP} (p:mT): ∀(x:p.ty.T) (z:p.out.T) (nm:Nat) (ws:List (Nat×Nat)),Pb hp p x nm=some (z,true)-> ∀r∈(bM p x z nm ws).1,hp r.m=some r.c/\ WPc r:=by
 induction p with
 |val p=>intro x z nm ws _ r h;simp [bM] at h
 |row t=>
  intro x z nm ws ho r h
  simp only [Pb] at ho
  split at ho<;>try (cases ho;done)
  rename_i u l rk hl
  split at ho<;>try (cases ho;done)
  rename_i qm
  split at ho<;>try (cases ho;done)
  rename_i l' hc
  simp only [Option.some.injEq,Prod.mk.injEq,decide_eq_true_eq] at ho
  obtain ⟨rfl,hlen⟩:=ho
  obtain ⟨e1,e2⟩:=bZ hc
  subst e1
  dsimp only at e2
  subst e2
  simp only [bM] at h
  split at h
  ·simp only [List.mem_singleton] at h;subst h;exact ⟨by rw [hl,qm],.inl ⟨_,_,_,hlen,rfl,rfl,rfl⟩⟩
  ·cases h
 |ptr t e=>
  intro x z nm ws ho r h
  simp only [Pb] at ho
  split at ho<;>try (cases ho;done)
  rename_i cs e' hl
  split at ho<;>try (cases ho;done)
  rename_i hc
  split at ho<;>try (cases ho;done)
  rename_i y tc hd
  simp only [Option.some.injEq,Prod.mk.injEq,and_true] at ho
  subst ho
  have hcs:=pK t _ _ _ _ hc.2 hd
  rw [List.append_nil] at hcs
  simp only [bM] at h
  split at h
  ·simp only [List.mem_singleton] at h;subst h
   exact ⟨by rw [hl,hcs,hc.1],.inr ⟨_,_,_,E1,rfl,rfl,rfl⟩⟩
  ·cases h
 |pair a b Mf Mg=>
  intro x z nm ws ho r h
  simp only [Pb] at ho
  split at ho<;>try (cases ho;done)
  rename_i y f h1
  split at ho<;>try (cases ho;done)
  rename_i z' g h2
  simp only [Option.some.injEq,Prod.mk.injEq,Bool.and_eq_true] at ho
  obtain ⟨rfl,rfl,rfl⟩:=ho
  simp only [bM,List.mem_append] at h
  rcases h with h|h
  ·exact Mf _ _ _ _ h1 r h
  ·exact Mg _ _ _ _ h2 r h
theorem pZ (p:mT): ∀(x:p.ty.T) (z:p.out.T) (nm:Nat) (ws:List (Nat×Nat)),(dZ p x nm).length<=ws.length->((bM p x z nm ws).1.map (·.m))=dZ p x nm/\ (bM p x z nm ws).2=ws.drop (dZ p x nm).length/\ (bM p x z nm ws).1.map (fun r=>(r.n,r.rk))=ws.take (dZ p x nm).length:=by
 induction p with
 |val p=>intro x z nm ws _;simp [bM,dZ]
 |row t=>
  intro x z nm ws h
  cases ws with
  |nil=>simp [dZ] at h
  |cons q r=>simp [bM,dZ]
 |ptr t e=>
  intro x z nm ws h
  cases ws with
  |nil=>simp [dZ] at h
  |cons q r=>simp [bM,dZ]
 |pair a b Mf Mg=>
  intro x z nm ws h
  simp only [dZ,List.length_append] at h
  obtain ⟨h1,h2,h3⟩:=Mf x.1 z.1 nm ws (by omega)
  obtain ⟨h4,h5,h6⟩:=Mg x.2 z.2 (nm+(e9 nm a x.1).2.length) (bM a x.1 z.1 nm ws).2 (by rw [h2,List.length_drop];omega)
  rw [h2] at h4 h5 h6
  refine ⟨?_,?_,?_⟩
  ·simp only [bM,dZ,List.map_append,h2]
   rw [h1,h4]
  ·simp only [bM,dZ,List.length_append,h2]
   rw [h5,List.drop_drop]
  ·simp only [bM,dZ,List.map_append,List.length_append,h2]
   rw [h3,h6,List.take_add]
theorem tY {hp:HP} (p:mT): ∀(args:List AV) (x:p.ty.T) (r:List AV) (tc:List Nat) (ws:List (Nat×Nat)) (b:Bool),tX hp p args=some (x,r,tc,ws,b)-> ∀nm,(dZ p x nm).length=ws.length:=by
 induction p with
 |val p=>
  intro args x r tc ws b h nm
  simp only [tX] at h
  split at h
  ·cases h;rfl
  ·cases h
 |row t=>
  intro args x r tc ws b h nm
  simp only [tX] at h
  split at h<;>try (cases h;done)
  split at h<;>try (cases h;done)
  split at h<;>try (cases h;done)
  split at h<;>try (cases h;done)
  cases h;rfl
 |ptr t e=>
  intro args x r tc ws b h nm
  simp only [tX] at h
  split at h<;>try (cases h;done)
  split at h<;>try (cases h;done)
  split at h<;>try (cases h;done)
  split at h<;>try (cases h;done)
  cases h;rfl
 |pair a b' Mf Mg=>
  intro args x r tc ws b h nm
  simp only [tX] at h
  split at h<;>try (cases h;done)
  rename_i h1
  split at h<;>try (cases h;done)
  rename_i h2
  cases h
  simp only [dZ,List.length_append,Mf _ _ _ _ _ _ h1,Mg _ _ _ _ _ _ h2]
theorem VM {hp:HP} (p:mT): ∀(args:List AV) (x:p.ty.T) (r:List AV) (tc:List Nat) (ws:List (Nat×Nat)),tX hp p args=some (x,r,tc,ws,true)->
  ∀(z:p.out.T) (nm:Nat) (QV:List (Nat×Nat)),∀q∈(bM p x z nm (ws++QV)).1,hp q.n=some q.b/\ WP1 q:=by
 induction p with
 |val p=>intro args x r tc ws h z nm QV q hq;simp [bM] at hq
 |row t=>
  intro args x r tc ws h z nm QV q hq
  simp only [tX] at h
  split at h<;>try (cases h;done)
  rename_i n r'
  split at h<;>try (cases h;done)
  rename_i u l rk hl
  split at h<;>try (cases h;done)
  rename_i hc
  split at h<;>try (cases h;done)
  rename_i l' hcast
  cases h
  obtain ⟨e1,e2⟩:=bZ hcast
  subst e1
  dsimp only at e2
  subst e2
  simp only [List.cons_append,bM,List.mem_singleton] at hq
  subst hq
  exact ⟨hl,.inl ⟨_,_,hc.1,hc.2,rfl,rfl⟩⟩
 |ptr t e=>
  intro args x r tc ws h z nm QV q hq
  simp only [tX] at h
  split at h<;>try (cases h;done)
  rename_i n r'
  split at h<;>try (cases h;done)
  rename_i cs e' hl
  split at h<;>try (cases h;done)
  rename_i hc
  split at h<;>try (cases h;done)
  rename_i y yL hd
  cases h
  have hcs:=pK t _ _ _ _ hc.2 hd
  rw [List.append_nil] at hcs
  simp only [List.cons_append,bM,List.mem_singleton] at hq
  subst hq
  exact ⟨by rw [hl,hcs,hc.1],.inr ⟨_,_,E1,rfl,rfl⟩⟩
 |pair a b Mf Mg=>
  intro args x r tc ws h z nm QV q hq
  simp only [tX] at h
  split at h<;>try (cases h;done)
  rename_i x1 r1 El ws1 f1 h1
  split at h<;>try (cases h;done)
  rename_i y r2 tH ws3 f2 h2
  simp only [Option.some.injEq,Prod.mk.injEq,Bool.and_eq_true] at h
  obtain ⟨rfl,rfl,rfl,rfl,rfl,rfl⟩:=h
  rcases z with ⟨z1,z2⟩
  rw [List.append_assoc] at hq
  simp only [bM,List.mem_append] at hq
  rcases hq with hq|hq
  ·exact Mf _ _ _ _ _ h1 _ _ _ q hq
  ·have hn:=pZ a x1 z1 nm (ws1++(ws3++QV)) (by rw [tY a _ _ _ _ _ _ h1 nm,List.length_append];omega)
   rw [hn.2.1,tY a _ _ _ _ _ _ h1 nm,List.drop_left] at hq
   exact Mg _ _ _ _ _ h2 _ _ _ q hq
theorem VN {hp:HP} (p:mT): ∀(args:List AV) (x:p.ty.T) (r:List AV) (tc:List Nat) (ws:List (Nat×Nat)),tX hp p args=some (x,r,tc,ws,true)->
  ∃as,args=as++r/\ ∀au W ρ Kn Γ w,(∀m∈tc,Γ m=hp m)->St au W ρ Kn Γ w-> ∀ok,lY ok ρ Γ w tc-> ∀(z:p.out.T) (nm:Nat) (QV:List (Nat×Nat)),∃xs:List Loc,xs.length=(e9 nm p x).2.length/\
   (∀i o,(e9 nm p x).2[i]? =some o-> ∃y,xs[i]? =some y/\ (cw ok w o y\/ ∃q∈(bM p x z nm (ws++QV)).1,q.m=nm+i/\ o=q.a/\ y=ρ q.n))/\
   ∀aQ:Env,(∀i y,xs[i]? =some y->aQ (nm+i)=y)->as.map (AV.ae ρ)=(e9 nm p x).1.map (A0.ae aQ):=by
 induction p with
 |val p=>
  intro args x r tc ws h
  simp only [tX] at h
  split at h<;>try (cases h;done)
  rename_i hd
  cases h
  obtain ⟨as,e,hs⟩:=kZ p _ _ _ _ hd
  refine ⟨as,e,fun au W ρ Kn Γ w ht hst ok hok z nm QV=> ?_⟩
  obtain ⟨xs,h1,h2⟩:=hs au W ρ Kn Γ w ht hst ok hok nm
  refine ⟨xs,h1.length.symm,fun i o ho=> ?_,h2⟩
  obtain ⟨y,h3,h4⟩:=h1.get i o ho
  exact ⟨y,h3,.inl h4⟩
 |row t=>
  intro args x r tc ws h
  simp only [tX] at h
  split at h<;>try (cases h;done)
  rename_i n r'
  split at h<;>try (cases h;done)
  rename_i u l rk hl
  split at h<;>try (cases h;done)
  rename_i hc
  split at h<;>try (cases h;done)
  rename_i l' hcast
  cases h
  refine ⟨[_],rfl,fun au W ρ Kn Γ w ht hst ok hok z nm QV=>⟨[ρ n],rfl,fun i o ho=> ?_,fun aQ hr=> ?_⟩⟩
  ·match i,ho with
   |0,ho=>
    simp only [e9,List.getElem?_cons_zero,Option.some.injEq] at ho
    exact ⟨_,rfl,.inr ⟨_,List.mem_singleton.2 rfl,rfl,ho.symm,rfl⟩⟩
   |i+1,ho=>simp [e9] at ho
  ·have h0:=hr 0 _ rfl
   rw [Nat.add_zero] at h0
   simp only [e9,List.map_cons,List.map_nil,AV.ae,A0.ae,Cell.ae,h0]
 |ptr t e=>
  intro args x r tc ws h
  simp only [tX] at h
  split at h<;>try (cases h;done)
  rename_i n r'
  split at h<;>try (cases h;done)
  rename_i cs e' hl
  split at h<;>try (cases h;done)
  rename_i hc
  split at h<;>try (cases h;done)
  rename_i y yL hd
  cases h
  refine ⟨[_],rfl,fun au W ρ Kn Γ w ht hst ok hok z nm QV=>⟨[ρ n],rfl,fun i o ho=> ?_,fun aQ hr=> ?_⟩⟩
  ·match i,ho with
   |0,ho=>
    simp only [e9,List.getElem?_cons_zero,Option.some.injEq] at ho
    exact ⟨_,rfl,.inr ⟨_,List.mem_singleton.2 rfl,rfl,ho.symm,rfl⟩⟩
   |i+1,ho=>simp [e9] at ho
  ·have h0:=hr 0 _ rfl
   rw [Nat.add_zero] at h0
   simp only [e9,List.map_cons,List.map_nil,AV.ae,A0.ae,Cell.ae,addrOf,h0]
 |pair a b Mf Mg=>
  intro args x r tc ws h
  simp only [tX] at h
  split at h<;>try (cases h;done)
  rename_i x1 r1 El ws1 f1 h1
  split at h<;>try (cases h;done)
  rename_i y r2 tH ws3 f2 h2
  simp only [Option.some.injEq,Prod.mk.injEq,Bool.and_eq_true] at h
  obtain ⟨rfl,rfl,rfl,rfl,rfl,rfl⟩:=h
  obtain ⟨as,e1,k1⟩:=Mf _ _ _ _ _ h1
  obtain ⟨bs,e2,k2⟩:=Mg _ _ _ _ _ h2
  refine ⟨as++bs,by rw [e1,e2];simp,fun au W ρ Kn Γ w ht hst ok hok z nm QV=> ?_⟩
  rcases z with ⟨z1,z2⟩
  obtain ⟨xs,l1,g1,c1⟩:=k1 au W ρ Kn Γ w (fun m hm=>ht m (by simp [hm])) hst ok (hok.sub fun m hm=>by simp [hm]) z1 nm (ws3++QV)
  obtain ⟨ys,l2,g2,c2⟩:=k2 au W ρ Kn Γ w (fun m hm=>ht m (by simp [hm])) hst ok (hok.sub fun m hm=>by simp [hm]) z2 (nm+(e9 nm a x1).2.length) QV
  have hn:=pZ a x1 z1 nm (ws1++(ws3++QV)) (by rw [tY a _ _ _ _ _ _ h1 nm,List.length_append];omega)
  have hdr:(bM a x1 z1 nm (ws1++(ws3++QV))).2=ws3++QV:=by rw [hn.2.1,tY a _ _ _ _ _ _ h1 nm,List.drop_left]
  refine ⟨xs++ys,by simp only [e9,List.length_append,l1,l2],fun i o ho=> ?_,fun aQ hr=> ?_⟩
  ·simp only [e9] at ho
   rw [List.append_assoc]
   simp only [bM,hdr]
   rcases Nat.lt_or_ge i (e9 nm a x1).2.length with hlt|hge
   ·rw [List.getElem?_append_left hlt] at ho
    obtain ⟨y,h3,h4⟩:=g1 i o ho
    refine ⟨y,by rw [List.getElem?_append_left (by omega)];exact h3,h4.imp_right fun ⟨q,q1,q2⟩=>⟨q,List.mem_append.2 (.inl q1),q2⟩⟩
   ·rw [List.getElem?_append_right hge] at ho
    obtain ⟨y,h3,h4⟩:=g2 _ o ho
    refine ⟨y,by rw [List.getElem?_append_right (by omega),l1];exact h3,h4.imp_right fun ⟨q,q1,q2,q3⟩=>⟨q,List.mem_append.2 (.inr q1),by omega,q3⟩⟩
  ·simp only [e9,List.map_append]
   rw [c1 aQ fun i y hi=>hr i y (by rw [List.getElem?_append_left (List.getElem?_eq_some_iff.1 hi).1];exact hi),c2 aQ fun i y hi=>by
    have:=hr (xs.length+i) y (by rw [List.getElem?_append_right (by omega)];simpa using hi)
    rwa [l1,<- Nat.add_assoc] at this]
theorem adq (p:mT): ∀(x:p.ty.T) (nm:Nat),∀c∈(e9 nm p x).1,c.ok fun m=>nm<=m/\ m<nm+(e9 nm p x).2.length:=by
 induction p with
 |val p=>intro x nm c h;exact gW 0 p x nm c h
 |row t=>
  intro x nm c h
  simp only [e9,List.mem_singleton] at h
  subst h
  simp only [e9,A0.ok,Cell.ok,List.length_singleton];omega
 |ptr t e=>
  intro x nm c h
  simp only [e9,List.mem_singleton] at h
  subst h
  simp only [e9,A0.ok,Cell.ok,List.length_singleton];omega
 |pair a b Mf Mg=>
  intro x nm c h
  simp only [e9,List.mem_append,List.length_append] at h ⊢
  rcases h with h|h
  ·exact A0.aR (fun m hm=>by omega) c (Mf _ _ c h)
  ·exact A0.aR (fun m hm=>by omega) c (Mg _ _ c h)
theorem St.agz {au:eW} {W:World} {ρ:Env} {Kn:Nat->Prop} {Γ:HP} {w:World} (h:St au W ρ Kn Γ w) {os:List aG} {xs:List Loc} {R:List fG} (hl:xs.length=os.length)
  (hR: ∀q∈R,Γ q.n=some q.b/\ ((∀S,q.a≠ .hide S)/\ q.a.ok (· <os.length))/\ ((∃m,q.a= .set m)\/ (ρ q.n).iw= []))
  (hA: ∀q∈R,xs.getD q.m {} =ρ q.n-> ∀fz pm,bn fz pm (fun n=>xs.getD n {}) q.m q.a w)
  (hn: ∀q∈R,∀q'∈R,q.n=q'.n->q.m=q'.m)
  (hx: ∀i o,os[i]? =some o-> ∃y,xs[i]? =some y/\ (cw (fun b=>bh w b/\ ∀q∈R,¬(ρ q.n).has b) w o y\/ ∃q∈R,q.m=i/\ o=q.a/\ y=ρ q.n)):
  St {wr:=fun b=> ∃q∈R,(ρ q.n).has b} w (fun n=>xs.getD n {}) (· <(os++ [aG.bT (fun n=>xs.getD n {}) os.length]).length) (aj (os++ [aG.bT (fun n=>xs.getD n {}) os.length])) w:=by
 obtain ⟨aV,dL⟩: ∃aV:Env,aV=fun n=>xs.getD n {} :=⟨_,rfl⟩
 rw [<- dL]
 have Iz: ∀i y,xs[i]? =some y->aV i=y:=fun i y hy=>by rw [dL];simp [hy]
 have wZ:(aV os.length).blk=Option.none/\ (aV os.length).iw= []:=by rw [dL];simp [List.getElem?_eq_none (show xs.length<=os.length by omega)]
 have ux: ∀n o,aj (os++ [aG.bT aV os.length]) n=some o->(n<os.length/\ (cw (fun b=>bh w b/\ ∀q∈R,¬(ρ q.n).has b) w o (aV n)\/ ∃q∈R,q.m=n/\ o=q.a/\ aV n=ρ q.n))\/ (n=os.length/\ o= .bT aV os.length):=fun n o ho=>by
  have h1:=mo ho
  rcases Nat.lt_or_ge n os.length with h2|h2
  ·rw [List.getElem?_append_left h2] at h1
   obtain ⟨y,h3,h4⟩:=hx n o h1
   rw [Iz n y h3]
   exact .inl ⟨h2,h4⟩
  ·rw [List.getElem?_append_right h2] at h1
   have:n- os.length=0:=by
    rcases Nat.eq_zero_or_pos (n- os.length) with h3|h3
    ·exact h3
    ·rw [List.getElem?_eq_none (by simp;omega)] at h1;cases h1
   rw [this] at h1
   simp only [List.getElem?_cons_zero,Option.some.injEq] at h1
   exact .inr ⟨by omega,h1.symm⟩
 have dy: ∀n b,(aj (os++ [aG.bT aV os.length]) n).isSome=true->(aV n).has b-> ∃q∈R,q.m=n/\ aV n=ρ q.n/\ (ρ q.n).has b:=fun n b hn' hb=>by
  obtain ⟨o,ho⟩:=Option.isSome_iff_exists.1 hn'
  rcases ux n o ho with ⟨_,h1|⟨q,h1,h2,_,h3⟩⟩|⟨rfl,_⟩
  ·obtain ⟨u,l,rfl⟩:=bE h1
   exact (my h1.2.1 hb).elim
  ·exact ⟨q,h1,h2,h3,by rw [<- h3];exact hb⟩
  ·exact (my wZ hb).elim
 have uH: ∀b,¬HI (aj (os++ [aG.bT aV os.length])) b:=fun b ⟨m,S,h1,_⟩=>by
  rcases ux m _ h1 with ⟨_,h2|⟨q,hq,_,e,_⟩⟩|⟨_,e⟩
  ·obtain ⟨u,l,e⟩:=bE h2;cases e
  ·exact (hR q hq).2.1.1 S e.symm
  ·cases e
 have hfz: ∀b,(bh w b/\ ∀q∈R,¬(ρ q.n).has b)->dA aV (aj (os++ [aG.bT aV os.length])) w b:=fun b hb=>⟨hb.1,by
  rintro (⟨m,h1,h2⟩|h1)
  ·obtain ⟨q,h3,_,_,h4⟩:=dy m b h1 h2
   exact hb.2 q h3 h4
  ·exact uH b h1⟩
 refine ⟨Fr.refl _ _,fun n o ho=> ?_,fun n o ho=> ?_,fun n m b kM FK fC dI=> ?_,fun n b kM fC=> ?_,fun b hb=>absurd hb (uH b),fun n o ho=> ?_⟩
 rotate_right
 ·rcases ux n o ho with ⟨_,h1|⟨q,h1,h2,h3,h4⟩⟩|⟨rfl,rfl⟩
  ·obtain ⟨u,l,rfl⟩:=bE h1
   exact .inr h1.2.1.2
  ·rw [h4,h3]
   exact (hR q h1).2.2
  ·exact .inr wZ.2
 ·rcases ux n o ho with ⟨_,h1|⟨q,h1,h2,h3,h4⟩⟩|⟨rfl,rfl⟩
  ·obtain ⟨u,l,rfl⟩:=bE h1
   obtain ⟨_,g1,g2,g3,g4,vals,g5,g6⟩:=h1
   obtain ⟨e1,e2⟩:=jC g5
   refine ⟨g2,g3,g4,rz vals,fun i v hv=> ?_,fun q u' l' hq=> ?_,fun _=>g1.1,fun h=>absurd rfl h⟩
   ·rw [e1] at hv
    obtain ⟨a,k1,k2,k3⟩:=g6 i v hv
    exact ⟨a,k1,k2,fun _=>hfz _ k3⟩
   ·exact (e2 q u' l' hq).weak fun b hb=>⟨hfz b hb,fun h=>by cases h⟩
  ·subst h3
   subst h2
   have e:=hA q h1 (by rw [dL] at h4;exact h4)
   rw [<- dL] at e
   exact e _ _
  ·exact ⟨wZ.1,fun m _=>rfl⟩
 ·rcases ux n o ho with ⟨h0,h1|⟨q,h1,h2,h3,h4⟩⟩|⟨rfl,rfl⟩
  ·obtain ⟨u,l,rfl⟩:=bE h1
   exact ⟨by simp;omega,trivial⟩
  ·subst h3
   exact ⟨by simp;omega,aG.aR (fun m hm=>by simp;omega) _ (hR q h1).2.1.2⟩
  ·exact ⟨by simp,fun m hm=>by simp;omega⟩
 ·obtain ⟨q,q1,q2,_,q3⟩:=dy n b kM fC
  obtain ⟨q',q1',q2',_,q3'⟩:=dy m b FK dI
  have:=h.dz q.n q'.n b (by rw [(hR q q1).1];rfl) (by rw [(hR q' q1').1];rfl) q3 q3'
  rw [<- q2,<- q2']
  exact hn q q1 q' q1' this
 ·obtain ⟨q,q1,_,_,q3⟩:=dy n b kM fC
  exact .inr ⟨q,q1,q3⟩
theorem St.agA {au:eW} {W:World} {ρ:Env} {Kn:Nat->Prop} {Γ:HP} {w:World} (h:St au W ρ Kn Γ w) {os:List aG} {xs:List Loc} {R:List fG} (hl:xs.length=os.length)
  (hR: ∀q∈R,Γ q.n=some q.b/\ WP1 q)
  (hn: ∀q∈R,∀q'∈R,q.n=q'.n->q.m=q'.m)
  (hx: ∀i o,os[i]? =some o-> ∃y,xs[i]? =some y/\ (cw (fun b=>bh w b/\ ∀q∈R,¬(ρ q.n).has b) w o y\/ ∃q∈R,q.m=i/\ o=q.a/\ y=ρ q.n)):
  St {wr:=fun b=> ∃q∈R,(ρ q.n).has b} w (fun n=>xs.getD n {}) (· <(os++ [aG.bT (fun n=>xs.getD n {}) os.length]).length) (aj (os++ [aG.bT (fun n=>xs.getD n {}) os.length])) w:=
 h.agz hl (fun q hq=>⟨(hR q hq).1,⟨(hR q hq).2.kind.1,(hR q hq).2.kind.2 _⟩,.inr (by
  obtain ⟨k1,k2⟩:=hR q hq
  rcases h.tg _ _ k1 with ⟨g,e⟩|e
  ·rcases k2 with ⟨_,_,_,_,_,e2⟩|⟨_,_,_,_,e2⟩<;>rw [e2] at e<;>cases e
  ·exact e)⟩) (fun q hq e fz pm=>(hR q hq).2.at_ (h.at_ _ _ (hR q hq).1) e) hn hx
theorem WE {R:List fG} {m:Nat} {o:aG} (h:bV (wwr R) m=some o): ∃q∈R,q.n=m/\ o=q.d:=by
 induction R with
 |nil=>cases h
 |cons q r ih=>
  simp only [wwr,List.map_cons,bV] at h
  split at h
  ·rename_i p hp
   cases h
   obtain ⟨q',h1,h2⟩:=ih hp
   exact ⟨q',by simp [h1],h2⟩
  ·split at h
   ·rename_i e;cases h;exact ⟨q,by simp,e,rfl⟩
   ·cases h
theorem WD {R:List fG} {q:fG} (h:q∈R): ∃o,bV (wwr R) q.n=some o:=by
 induction R with
 |nil=>cases h
 |cons p r ih=>
  simp only [wwr,List.map_cons,bV]
  rcases List.mem_cons.1 h with rfl|h
  ·cases e:bV (List.map (fun r=>(r.n,r.d)) r) q.n with
   |some o=>exact ⟨o,rfl⟩
   |none=>exact ⟨q.d,by simp⟩
  ·obtain ⟨o,ho⟩:=ih h
   have ho:bV (List.map (fun r=>(r.n,r.d)) r) q.n=some o:=ho
   rw [ho];exact ⟨o,rfl⟩
theorem St.ajd {au:eW} {W:World} {ρ aQ:Env} {Kn:Nat->Prop} {Γ:HP} {w w':World} {nm:Nat} {os:List aG} {v:AV} {tc:List Nat} {R:List fG} (h:St au W ρ Kn Γ w) (hn: ∀i,i<os.length-> ¬Kn (nm+i)) (hrow: ∀o∈os,∃u,∃l:List u.T,o= .row u l 2)
  (hR: ∀q∈R,Γ q.n=some q.b/\ ((∀S,q.d≠ .hide S)/\ q.d.ok Kn/\ live q.d=some q.d/\ live q.c=some q.c)/\ ((∃m,q.d= .set m)\/ (ρ q.n).iw= []))
  (hA: ∀(i:Nat) (q:fG),R[i]? =some q-> ∀ρ':Env,(∀m,Kn m->ρ' m=ρ m)->bn (dA aQ (aj (os++R.map fG.c)) w') (q8 {wr:=fun b=> ∃q∈R,(ρ q.n).has b} w) aQ (os.length+i) q.c w'-> ∀fz pm,bn fz pm ρ' q.n q.d w')
  (h1:St {wr:=fun b=> ∃q∈R,(ρ q.n).has b} w aQ (· <(os++R.map fG.c).length) (aj (os++R.map fG.c)) w')
  (h2: ∀(i:Nat) (q:fG),R[i]? =some q->aQ (os.length+i)=ρ q.n):
  ∃ρ',(∀m,Kn m->ρ' m=ρ m)/\ (∀n,n<os.length->ρ' (n+nm)=aQ n)/\ St au W ρ' (mG Kn nm {val:=v,fresh:=os,writes:=wwr R,aH:=tc}) (bO {val:=v,fresh:=os,writes:=wwr R,aH:=tc} nm Γ) w':=by
 let ρ':Env:=fun m=>if nm<=m/\ m<nm+os.length then aQ (m- nm) else ρ m
 have hold: ∀m,Kn m->ρ' m=ρ m:=fun m hm=>by
  simp only [ρ']
  rw [if_neg]
  rintro ⟨h2,h3⟩
  exact hn (m- nm) (by omega) (by rw [show nm+(m- nm)=m by omega];exact hm)
 have hnew: ∀n,n<os.length->ρ' (n+nm)=aQ n:=fun n hn=>by
  simp only [ρ']
  rw [if_pos (by omega),show n+nm- nm=n by omega]
 have RJ: ∀n,n<os.length->aj (os++R.map fG.c) n=aj os n:=fun n hn=>by
  unfold aj;rw [List.getElem?_append_left hn]
 have hRl: ∀q∈R,∃i,R[i]? =some q/\ aj (os++R.map fG.c) (os.length+i)=some q.c:=fun q hq=>by
  obtain ⟨i,hi⟩:=List.mem_iff_getElem?.1 hq
  refine ⟨i,hi,?_⟩
  unfold aj
  rw [List.getElem?_append_right (by omega),Nat.add_sub_cancel_left,List.getElem?_map,hi];exact (hR q hq).2.1.2.2.2
 have hkn: ∀q∈R,Kn q.n:=fun q hq=>(h.kn q.n _ (hR q hq).1).1
 obtain ⟨r,hr⟩: ∃r:Rec,r= {val:=v,fresh:=os,writes:=wwr R,aH:=tc} :=⟨_,rfl⟩
 rw [<- hr]
 have bL: ∀m o,bO r nm Γ m=some o->(∃n,m=n+nm/\ n<os.length/\ aj os n=some o/\ ∃u,∃l:List u.T,o= .row u l 2)\/ (∃q∈R,m=q.n/\ o=q.d)\/ (Γ m=some o/\ Kn m/\ ∀q∈R,q.n≠m):=by
  intro m o ho
  rw [hr] at ho
  simp only [bO] at ho
  split at ho
  ·rename_i hc
   have hlt:m- nm<os.length:=by omega
   refine .inl ⟨m- nm,by omega,hlt,by rw [br];exact ho,?_⟩
   rw [List.getElem?_eq_getElem hlt] at ho
   obtain ⟨u,l,e⟩:=hrow _ (List.getElem_mem hlt)
   rw [e] at ho
   simp only [live,Option.some.injEq] at ho
   exact ⟨u,l,ho.symm⟩
  ·split at ho
   ·rename_i p hp
    obtain ⟨q,q1,q2,rfl⟩:=WE hp
    rw [(hR q q1).2.1.2.2.1,Option.some.injEq] at ho
    exact .inr (.inl ⟨q,q1,q2.symm,ho.symm⟩)
   ·rename_i hp
    refine .inr (.inr ⟨ho,(h.kn m o ho).1,fun q hq e=> ?_⟩)
    obtain ⟨p,eL⟩:=WD hq
    rw [e,hp] at eL;cases eL
 have hsome: ∀m,(∃n,m=n+nm/\ n<os.length)\/ ((bO r nm Γ m).isSome=true->(Γ m).isSome=true/\ Kn m):=fun m=>by
  rcases Decidable.em (nm<=m/\ m<nm+os.length) with hc|hc
  ·exact .inl ⟨m- nm,by omega,by omega⟩
  ·refine .inr fun hs=> ?_
   obtain ⟨o,ho⟩:=Option.isSome_iff_exists.1 hs
   rcases bL m o ho with ⟨n,e,hlt,_⟩|⟨q,q1,rfl,_⟩|⟨g,k,_⟩
   ·exact absurd ⟨by omega,by omega⟩ hc
   ·exact ⟨by rw [(hR q q1).1];rfl,hkn q q1⟩
   ·exact ⟨by rw [g];rfl,k⟩
 have hf1: ∀b,b<w.heap.size->(∀q∈R,¬(ρ q.n).has b)->w'.heap[b]? =w.heap[b]? :=fun b hb hq=>h1.fr.block b hb fun ⟨q,q1,q2⟩=>hq q q1 q2
 have hnb: ∀n b,n<os.length->(aj os n).isSome=true->(aQ n).has b->w.heap.size<=b:=fun n b hlt hs hb=>by
  rcases h1.jP n b (by rw [RJ n hlt];exact hs) hb with h3|⟨q,q1,q2⟩
  ·exact h3
  ·exfalso
   obtain ⟨i,hi,hlv⟩:=hRl q q1
   have:=h1.dz n (os.length+i) b (by rw [RJ n hlt];exact hs) (by rw [hlv];rfl) hb (by rw [h2 i q hi];exact q2)
   omega
 have mF: ∀m o b,Γ m=some o->(ρ m).has b->b<w.heap.size:=fun m o b ho hb=>h.lt m b (by rw [ho];rfl) hb
 have Wd: ∀b,LOb ρ' (bO r nm Γ) b->(w.heap.size<=b/\ ∃n,n<os.length/\ (aj os n).isSome=true/\ (aQ n).has b)\/ (b<w.heap.size/\ LOb ρ Γ b):=by
  rintro b ⟨m,h3,h4⟩
  obtain ⟨o,ho⟩:=Option.isSome_iff_exists.1 h3
  rcases bL m o ho with ⟨n,rfl,kM,hp,_⟩|⟨q,q1,rfl,_⟩|⟨hg,hk,_⟩
  ·rw [hnew n kM] at h4
   exact .inl ⟨hnb n b kM (by rw [hp];rfl) h4,n,kM,by rw [hp];rfl,h4⟩
  ·rw [hold _ (hkn q q1)] at h4
   exact .inr ⟨mF _ _ b (hR q q1).1 h4,q.n,by rw [(hR q q1).1];rfl,h4⟩
  ·rw [hold m hk] at h4
   exact .inr ⟨mF m o b hg h4,m,by rw [hg];rfl,h4⟩
 have wu: ∀b,HI (bO r nm Γ) b->HI Γ b:=fun b ⟨m,S,h3,h4⟩=>by
  rcases bL m _ h3 with ⟨n,_,_,_,u,l,e⟩|⟨q,hq,_,e⟩|⟨hg,hk,_⟩
  ·cases e
  ·exact absurd e.symm ((hR q hq).2.1.1 S)
  ·exact ⟨m,S,hg,h4⟩
 have hnw: ∀b,dA ρ Γ w b-> ∀q∈R,¬(ρ q.n).has b:=fun b hb q hq e=>hb.2 (.inl ⟨q.n,by rw [(hR q hq).1];rfl,e⟩)
 have hsz:=h.fr.size
 have Wq:=h1.fr.size
 have hfz: ∀b,dA ρ Γ w b->dA ρ' (bO r nm Γ) w' b/\ w'.heap[b]? =w.heap[b]? :=fun b hb=>by
  have hlt:=hb.1.lt
  have e:=hf1 b hlt (hnw b hb)
  refine ⟨⟨hb.1.same e,?_⟩,e⟩
  rintro (hl|hl)
  ·rcases Wd b hl with ⟨h3,_⟩|⟨_,h3⟩
   ·omega
   ·exact hb.2 (.inl h3)
  ·exact hb.2 (.inr (wu b hl))
 have RG: ∀b,dA aQ (aj (os++R.map fG.c)) w' b->q8 {wr:=fun b=> ∃q∈R,(ρ q.n).has b} w b->dA ρ' (bO r nm Γ) w' b/\ q8 au W b:=fun b hb hp=>by
  have hge:w.heap.size<=b:=by
   rcases hp with h3|⟨q,q1,q2⟩|h3
   ·exact h3
   ·exfalso
    obtain ⟨i,hi,hlv⟩:=hRl q q1
    exact hb.2 (.inl ⟨os.length+i,by rw [hlv];rfl,by rw [h2 i q hi];exact q2⟩)
   ·exact h3.elim
  refine ⟨⟨hb.1,?_⟩,.inl (by omega)⟩
  rintro (hl|hl)
  ·rcases Wd b hl with ⟨_,n,n1,n2,n3⟩|⟨h3,_⟩
   ·exact hb.2 (.inl ⟨n,by rw [RJ n n1];exact n2,n3⟩)
   ·omega
  ·have:=(h.oX b (wu b hl)).1
   omega
 have ahc: ∀m:Nat,m<os.length->mG Kn nm r (m+nm):=fun m hm=> .inr (by rw [hr];simp only [];omega)
 have ajp: ∀q∈R,∀b,(ρ q.n).has b->W.heap.size<=b\/ au b:=fun q hq b hb=>h.jP q.n b (by rw [(hR q hq).1];rfl) hb
 refine ⟨ρ',hold,hnew,⟨?_,fun m o ho=> ?_,fun m o ho=> ?_,fun m m' b hm hm' fC dI=> ?_,fun m b hm hb=> ?_,fun b hh=> ?_,fun m o ho=> ?_⟩⟩
 rotate_right
 ·rcases bL m o ho with ⟨n,rfl,kM,hp,_⟩|⟨q,q1,rfl,rfl⟩|⟨hg,hk,_⟩
  ·rw [hnew n kM];exact h1.tg n o (by rw [RJ n kM];exact hp)
  ·rw [hold _ (hkn q q1)]
   exact (hR q q1).2.2
  ·rw [hold m hk];exact h.tg m o hg
 rotate_right
 ·obtain ⟨h3,h4⟩:=h.oX b (wu b hh)
  refine ⟨by omega,fun h5=> ?_⟩
  rcases Wd b h5 with ⟨h6,_⟩|⟨_,h6⟩
  ·omega
  ·exact h4 h6
 ·refine ⟨h1.fr.os.trans h.fr.os,h1.fr.tape.trans h.fr.tape,h1.fr.output.trans h.fr.output,Nat.le_trans hsz Wq,fun k hk ajF=> ?_,Nat.le_trans h.fr.Ji h1.fr.Ji⟩
  rw [h1.fr.block k (by omega) fun ⟨q,q1,q2⟩=> ?_]
  ·exact h.fr.block k hk ajF
  ·rcases ajp q q1 k q2 with h3|h3
   ·omega
   ·exact ajF h3
 ·rcases bL m o ho with ⟨n,rfl,kM,hp,u,l,rfl⟩|⟨q,q1,rfl,rfl⟩|⟨hg,hk,hne⟩
  ·obtain ⟨g1,g2,g3,sub,g4,g5,g6,g7⟩:=h1.at_ n _ (by rw [RJ n kM];exact hp)
   rw [bn,hnew n kM]
   exact ⟨g1,g2,g3,sub,fun i x hi=>by
    obtain ⟨a,e1,e2,_⟩:=g4 i x hi
    exact ⟨a,e1,e2,fun h=>by cases h⟩,fun q u' l' hq=>(g5 q u' l' hq).weak fun b hb=>by
     obtain ⟨e1,e2⟩:=RG b hb.1 (hb.2 rfl).1
     exact ⟨e1,fun _=>⟨e2,(hb.2 rfl).2⟩⟩,g6,g7⟩
  ·obtain ⟨i,hi,hlv⟩:=hRl q q1
   exact hA i q hi ρ' hold (h1.at_ _ _ hlv) _ _
  ·refine ck (Kn:=Kn) (h.at_ m o hg) hold hk (h.kn m o hg).2 hfz (fun _ _ h=>h) fun b hb=>hf1 b (mF m o b hg hb) fun q hq e=> ?_
   exact hne q hq (h.dz q.n m b (by rw [(hR q hq).1];rfl) (by rw [hg];rfl) e hb)
 ·rcases bL m o ho with ⟨n,rfl,kM,hp,u,l,rfl⟩|⟨q,q1,rfl,rfl⟩|⟨hg,hk,_⟩
  ·exact ⟨ahc n kM,trivial⟩
  ·exact ⟨.inl (hkn q q1),aG.aR (fun _=> .inl) _ (hR q q1).2.1.2.1⟩
  ·exact ⟨.inl hk,aG.aR (fun _=> .inl) o (h.kn m o hg).2⟩
 ·have Ot: ∀m b,(bO r nm Γ m).isSome=true→(ρ' m).has b→(∃n,m=n+nm∧n<os.length∧(aj os n).isSome=true∧(aQ n).has b∧w.heap.size≤b)∨((Γ m).isSome=true∧(ρ m).has b∧b<w.heap.size):=fun m b hm hb=>by
   obtain ⟨o,ho⟩:=Option.isSome_iff_exists.1 hm
   rcases bL m o ho with ⟨n,rfl,kM,hp,_⟩|⟨q,q1,rfl,_⟩|⟨hg,hk,_⟩
   ·rw [hnew n kM] at hb
    exact .inl ⟨n,rfl,kM,by rw [hp];rfl,hb,hnb n b kM (by rw [hp];rfl) hb⟩
   ·rw [hold _ (hkn q q1)] at hb
    exact .inr ⟨by rw [(hR q q1).1];rfl,hb,mF _ _ b (hR q q1).1 hb⟩
   ·rw [hold m hk] at hb
    exact .inr ⟨by rw [hg];rfl,hb,mF m o b hg hb⟩
  rcases Ot m b hm fC with ⟨n,rfl,n1,n2,n3,n4⟩|⟨n1,n2,n3⟩
  ·rcases Ot m' b hm' dI with ⟨n',rfl,n1',n2',n3',n4'⟩|⟨n1',n2',n3'⟩
   ·rw [h1.dz n n' b (by rw [RJ n n1];exact n2) (by rw [RJ n' n1'];exact n2') n3 n3']
   ·omega
  ·rcases Ot m' b hm' dI with ⟨n',rfl,n1',n2',n3',n4'⟩|⟨n1',n2',n3'⟩
   ·omega
   ·exact h.dz m m' b n1 n1' n2 n2'
 ·obtain ⟨o,ho⟩:=Option.isSome_iff_exists.1 hm
  rcases bL m o ho with ⟨n,rfl,kM,hp,_⟩|⟨q,q1,rfl,_⟩|⟨hg,hk,_⟩
  ·rw [hnew n kM] at hb
   have:=hnb n b kM (by rw [hp];rfl) hb
   exact .inl (by omega)
  ·rw [hold _ (hkn q q1)] at hb
   exact ajp q q1 b hb
  ·rw [hold m hk] at hb
   exact h.jP m b (by rw [hg];rfl) hb
theorem St.aje {au:eW} {W:World} {ρ aQ:Env} {Kn:Nat->Prop} {Γ:HP} {w w':World} {nm:Nat} {os:List aG} {v:AV} {tc:List Nat} {R:List fG} (h:St au W ρ Kn Γ w) (hn: ∀i,i<os.length-> ¬Kn (nm+i)) (hrow: ∀o∈os,∃u,∃l:List u.T,o= .row u l 2)
  (hR: ∀q∈R,Γ q.n=some q.b/\ WP2 q)
  (h1:St {wr:=fun b=> ∃q∈R,(ρ q.n).has b} w aQ (· <(os++R.map fG.c).length) (aj (os++R.map fG.c)) w')
  (h2: ∀(i:Nat) (q:fG),R[i]? =some q->aQ (os.length+i)=ρ q.n):
  ∃ρ',(∀m,Kn m->ρ' m=ρ m)/\ (∀n,n<os.length->ρ' (n+nm)=aQ n)/\ St au W ρ' (mG Kn nm {val:=v,fresh:=os,writes:=wwr R,aH:=tc}) (bO {val:=v,fresh:=os,writes:=wwr R,aH:=tc} nm Γ) w':=
 h.ajd hn hrow (fun q hq=>⟨(hR q hq).1,⟨(hR q hq).2.kind.1,(hR q hq).2.kind.2.1 _,(hR q hq).2.kind.2.2⟩,.inr (by
  obtain ⟨k1,k2⟩:=hR q hq
  rcases h.tg _ _ k1 with ⟨g,e⟩|e
  ·rcases k2 with ⟨_,_,_,_,_,_,e2,_⟩|⟨_,_,_,_,e2,_⟩<;>rw [e2] at e<;>cases e
  ·exact e)⟩) (fun i q hi ρ' hold ho fz pm=>(hR q (List.mem_of_getElem? hi)).2.at_ ho (by rw [hold _ (h.kn q.n _ (hR q (List.mem_of_getElem? hi)).1).1,h2 i q hi])) h1 h2
end Go.Ev
