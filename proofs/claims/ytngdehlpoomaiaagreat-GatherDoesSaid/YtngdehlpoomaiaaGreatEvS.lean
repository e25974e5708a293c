/- Functions that write rows which they are handed. -/
import Derived.Test.YtngdehlpoomaiaaGreatEvR
noncomputable section
set_option linter.unusedSectionVars false
set_option linter.unusedVariables false
set_option linter.unusedSimpArgs false
namespace Go.Ev
open Go.RowKit
inductive o8
 |val (p:mG)
 |row (t:Ty)
 |ptr (t:Ty) (e:TypeId)
 |pair (a b:o8)
@[reducible] def o8.ty:o8->Ty
 | .val p=>p.ty
 | .row t=> .sl t
 | .ptr t _=>t
 | .pair a b=> .prod a.ty b.ty
@[reducible] def o8.out:o8->Ty
 | .val _=> .bool
 | .row t=> .sl t
 | .ptr t _=>t
 | .pair a b=> .prod a.out b.out
theorem KQ {t:Ty} {x:t.T} : ∀c∈W9 t x,∃v,c= .raw v:=fun c hc=>by
 obtain ⟨q,_,rfl⟩:=List.mem_map.1 hc
 exact ⟨_,rfl⟩
theorem rO {hp:HP} : ∀(t:Ty) (cs:List Cell) (x:t.T) (r:List Cell) (tc:List Nat),t.flat=true->ct hp t cs=some (x,r,tc)->cs=W9 t x++r
 | .int k,cs,x,r,tc,_,h=>by
  simp only [ct] at h
  split at h
  ·split at h
   ·rename_i e;subst e;cases h;rfl
   ·cases h
  ·cases h
 | .bool,cs,x,r,tc,_,h=>by
  simp only [ct] at h
  split at h
  ·cases h;rfl
  ·cases h
 | .str,cs,x,r,tc,_,h=>by
  simp only [ct] at h
  split at h
  ·cases h;rfl
  ·cases h
 | .prod a b,cs,x,r,tc,hf,h=>by
  simp only [Ty.flat,Bool.and_eq_true] at hf
  simp only [ct] at h
  split at h
  ·rename_i x1 r1 J8 h1
   split at h
   ·rename_i y r2 w7 h2
    cases h
    rw [rO a _ _ _ _ hf.1 h1,rO b _ _ _ _ hf.2 h2]
    simp [W9,Ty.aU]
   ·cases h
  ·cases h
 | .sl u,cs,x,r,tc,hf,h=>by simp [Ty.flat] at hf
def fQ:Nat->(p:o8)->p.ty.T->List A0×List aD
 |nm,.val p,x=>aY 0 nm p x
 |nm,.row t,x=>([.one (.full nm)],[.row t x 1])
 |nm,.ptr t e,x=>([.one (.ptr nm 0)],[.cells (W9 t x) e])
 |nm,.pair a b,x=>match fQ nm a x.1 with
  |(as,os)=>match fQ (nm+os.length) b x.2 with
   |(bs,os')=>(as++bs,os++os')
def xq (hp:HP):(p:o8)->List AV->Option (p.ty.T×List AV×List Nat×List (Nat×Nat)×Bool)
 | .val p,l=>match fJ hp p l with
  |some (x,r,tc,b)=>some (x,r,tc,[],b)
  |none=>none
 | .row t,l=>match l with
  | .v (.one (.full n))::r=>match hp n with
   |some (.row u l rk)=>if (rk≠0/\ rk≠3)/\ t.flat=true then (match jm u t l with
    |some l'=>some (l',r,[],[(n,rk)],true)
    |none=>none) else none
   |_=>none
  |_=>none
 | .ptr t e,l=>match l with
  | .v (.one (.ptr n 0))::r=>match hp n with
   |some (.cells cs e')=>if e'=e/\ t.flat=true then (match ct hp t cs with
    |some (x,[],_)=>some (x,r,[],[(n,0)],true)
    |_=>none) else none
   |_=>none
  |_=>none
 | .pair a b,l=>match xq hp a l with
  |some (x,r,tc,ws,f)=>match xq hp b r with
   |some (y,r',CN,ws',f')=>some ((x,y),r',tc++CN,ws++ws',f&&f')
   |none=>none
  |none=>none
def ajO (cs:List Cell):Prop:= ∀c∈cs,∃v,c=Cell.raw v
structure gF where
 n:Nat
 rk:Nat
 m:Nat
 a:aD
 b:aD
 c:aD
 d:aD
def WP1 (q:gF):Prop:=(∃(t:Ty) (l:List t.T),(q.rk≠0/\ q.rk≠3)/\ t.flat=true/\ q.a= .row t l 1/\ q.b= .row t l q.rk)\/ (∃cs e,ajO cs/\ q.a= .cells cs e/\ q.b= .cells cs e)
def WPc (q:gF):Prop:=(∃(t:Ty) (l z:List t.T),z.length=l.length/\ q.a= .row t l 1/\ q.c= .row t z 1/\ q.d= .row t z q.rk)\/ (∃cs zs e,ajO zs/\ q.a= .cells cs e/\ q.c= .cells zs e/\ q.d= .cells zs e)
def WP2 (q:gF):Prop:=(∃(t:Ty) (l z:List t.T),q.rk≠0/\ t.flat=true/\ z.length=l.length/\ q.b= .row t l q.rk/\ q.c= .row t z 1/\ q.d= .row t z q.rk)\/ (∃cs zs e,ajO zs/\ q.b= .cells cs e/\ q.c= .cells zs e/\ q.d= .cells zs e)
theorem WP2.of {q:gF} (h:WP1 q) (h':WPc q):WP2 q:=by
 rcases h with ⟨t,l,h1,h2,h3,h4⟩|⟨cs,e,h1,h2,h3⟩
 ·rcases h' with ⟨t',l',z,k1,k2,k3,k4⟩|⟨cs,zs,e,k1,k2,k3,k4⟩
  ·rw [h3] at k2
   injection k2 with e1 e2
   subst e1
   cases eq_of_heq e2
   exact .inl ⟨t,l,z,h1.1,h2,k1,h4,k3,k4⟩
  ·rw [h3] at k2;cases k2
 ·rcases h' with ⟨t',l',z,k1,k2,k3,k4⟩|⟨cs',zs,e',k1,k2,k3,k4⟩
  ·rw [h2] at k2;cases k2
  ·rw [h2] at k2
   injection k2 with e1 e2
   subst e1;subst e2
   exact .inr ⟨cs,zs,e,k1,h3,k3,k4⟩
theorem Qw {cs:List Cell} (h:ajO cs) (ρ ρ':Env):cs.map (Cell.ae ρ')=cs.map (Cell.ae ρ):=List.map_congr_left fun c hc=>by
 obtain ⟨v,rfl⟩:=h c hc;rfl
theorem WP1.at_ {q:gF} (h:WP1 q) {fz pm fz' pm':Nat->Prop} {ρ aW:Env} {n m:Nat} {w:World} (ho:bp fz pm ρ n q.b w) (he:aW m=ρ n):bp fz' pm' aW m q.a w:=by
 rcases h with ⟨t,l,h1,h2,h3,h4⟩|⟨cs,e,h1,h2,h3⟩
 ·rw [h4] at ho
  rw [h3]
  obtain ⟨g1,g2,g3,sub,g4,g5,g6,g7⟩:=ho
  rw [bp,he]
  refine ⟨g1,g2,g3,sub,fun i v hv=> ?_,fun j u' l' hj=> ?_,fun e=>absurd e (by decide),fun _=>(g7 h1.1).to fun e=>absurd e h1.2⟩
  ·obtain ⟨a,e1,e2,_⟩:=g4 i v hv
   exact ⟨a,e1,e2,fun e=>absurd e (by decide)⟩
  ·obtain ⟨v,hv⟩:=fb h2 (List.mem_of_getElem? hj)
   cases hv
 ·rw [h3] at ho
  rw [h2]
  obtain ⟨b,b1,b2⟩:=ho
  exact ⟨b,by rw [he];exact b1,by rw [Qw h1 ρ aW];exact b2⟩
theorem WP2.at_ {q:gF} (h:WP2 q) {fz pm fz' pm':Nat->Prop} {ρ aW:Env} {n m:Nat} {w:World} (ho:bp fz pm ρ n q.c w) (he:aW m=ρ n):bp fz' pm' aW m q.d w:=by
 rcases h with ⟨t,l,z,h1,h2,h3,h4,h5,h6⟩|⟨cs,zs,e,h1,h2,h3,h4⟩
 ·rw [h5] at ho
  rw [h6]
  obtain ⟨g1,g2,g3,sub,g4,g5,g6,g7⟩:=ho
  rw [bp,he]
  refine ⟨g1,g2,g3,sub,fun i v hv=> ?_,fun j u' l' hj=> ?_,fun e=>absurd e h1,fun _=>(g7 (by decide)).to fun e=>absurd e (by decide)⟩
  ·obtain ⟨a,e1,e2,_⟩:=g4 i v hv
   exact ⟨a,e1,e2,fun e=>absurd e h1⟩
  ·obtain ⟨v,hv⟩:=fb h2 (List.mem_of_getElem? hj)
   cases hv
 ·rw [h3] at ho
  rw [h4]
  obtain ⟨b,b1,b2⟩:=ho
  exact ⟨b,by rw [he];exact b1,by rw [Qw h1 ρ aW];exact b2⟩
theorem WP1.kind {q:gF} (h:WP1 q):(∀S,q.a≠ .hide S)/\ (∀Kn,q.a.ok Kn):=by
 rcases h with ⟨t,l,h1,h2,h3,h4⟩|⟨cs,e,h1,h2,h3⟩
 ·rw [h3];exact ⟨fun S=>by simp,fun _=>trivial⟩
 ·rw [h2]
  exact ⟨fun S=>by simp,fun Kn c hc=>by obtain ⟨v,rfl⟩:=h1 c hc;trivial⟩
theorem WP2.kind {q:gF} (h:WP2 q):(∀S,q.d≠ .hide S)/\ (∀Kn,q.d.ok Kn)/\ live q.d=some q.d/\ live q.c=some q.c:=by
 rcases h with ⟨t,l,z,h1,h2,h3,h4,h5,h6⟩|⟨cs,zs,e,h1,h2,h3,h4⟩
 ·rw [h5,h6];exact ⟨fun S=>by simp,fun _=>trivial,rfl,rfl⟩
 ·rw [h3,h4]
  exact ⟨fun S=>by simp,fun Kn c hc=>by obtain ⟨v,rfl⟩:=h1 c hc;trivial,rfl,rfl⟩
def bT:(p:o8)->p.ty.T->p.out.T->Nat->List (Nat×Nat)->List gF×List (Nat×Nat)
 | .val _,_,_,_,ws=>([],ws)
 | .row t,x,z,nm,ws=>match ws with
  |(n,rk)::r=>([⟨n,rk,nm,.row t x 1,.row t x rk,.row t z 1,.row t z rk⟩],r)
  | []=>([],[])
 | .ptr t e,x,z,nm,ws=>match ws with
  |(n,rk)::r=>([⟨n,rk,nm,.cells (W9 t x) e,.cells (W9 t x) e,.cells (W9 t z) e,.cells (W9 t z) e⟩],r)
  | []=>([],[])
 | .pair a b,x,z,nm,ws=>match bT a x.1 z.1 nm ws with
  |(R,ws')=>match bT b x.2 z.2 (nm+(fQ nm a x.1).2.length) ws' with
   |(R',avx)=>(R++R',avx)
def Wq (hp:HP):(p:o8)->p.ty.T->Nat->Option (p.out.T×Bool)
 | .val _,_,_=>some (false,true)
 | .row t,x,nm=>match hp nm with
  |some (.row u l rk)=>if rk=1 then (match jm u t l with
   |some l'=>some (l',decide (l'.length=x.length))
   |none=>none) else none
  |_=>none
 | .ptr t e,x,nm=>match hp nm with
  |some (.cells cs e')=>if e'=e/\ t.flat=true then (match ct hp t cs with
   |some (y,[],_)=>some (y,true)
   |_=>none) else none
  |_=>none
 | .pair a b,x,nm=>match Wq hp a x.1 nm with
  |some (y,f)=>match Wq hp b x.2 (nm+(fQ nm a x.1).2.length) with
   |some (z,g)=>some ((y,z),f&&g)
   |none=>none
  |none=>none
def eW:(p:o8)->p.ty.T->Nat->List Nat
 | .val _,_,_=> []
 | .row _,_,nm=> [nm]
 | .ptr _ _,_,nm=> [nm]
 | .pair a b,x,nm=>eW a x.1 nm++eW b x.2 (nm+(fQ nm a x.1).2.length)
structure FnW where
 p:o8
 r:mG
 pre:p.ty.T->Prop
 f:p.ty.T->r.ty.T×p.out.T
def wwr (R:List gF):List (Nat×aD):=R.map fun r=>(r.n,r.d)
def lN (s:FnW):Spec:=fun _ args hp nm k=>match xq hp s.p args with
 | some (x,[],tc,ws,b)=>if eV (ws.map (·.1))&&ry tc (ws.map (·.1)) then
   ob b (s.pre x/\ ∀y,y=s.f x->k {val:=kp (aY 2 nm s.r y.1).1,fresh:=(aY 2 nm s.r y.1).2,writes:=wwr (bT s.p x y.2 0 ws).1,aF:=tc++ws.map (·.1)}) else False
 |_=>False
def abJ (p:o8) (x:p.ty.T):List AV:=(fQ 0 p x).1.map .v
def aii (p:o8) (x:p.ty.T) (ρ:Env):List aD:=(fQ 0 p x).2++ [.cg ρ (fQ 0 p x).2.length]
def ans (r:mG) (p:o8) (x:p.ty.T) (ρ:Env) (Q:r.ty.T×p.out.T->Prop) (v:AV) (st:AS):Prop:=match lU v with
 |some l=>match Jg (ai st.heap) r l with
  |some (y,[],ss)=>if eV (ss.filterMap GZ++eW p x 0) then (match Wq (ai st.heap) p x 0 with
   |some (z,f)=>rU (ai st.heap (fQ 0 p x).2.length) ρ (fQ 0 p x).2.length (ob f (Q (y,z)))
   |none=>False) else False
  |_=>False
 |none=>False
theorem ano (p:o8): ∀(x:p.ty.T) (z:p.out.T) (nm:Nat) (ws:List (Nat×Nat)),∀r∈(bT p x z nm ws).1,nm<=r.m/\ r.m<nm+(fQ nm p x).2.length/\ (fQ nm p x).2[r.m- nm]? =some r.a:=by
 induction p with
 |val p=>intro x z nm ws r h;simp [bT] at h
 |row t=>
  intro x z nm ws r h
  simp only [bT] at h
  split at h
  ·simp only [List.mem_singleton] at h;subst h;simp [fQ]
  ·cases h
 |ptr t e=>
  intro x z nm ws r h
  simp only [bT] at h
  split at h
  ·simp only [List.mem_singleton] at h;subst h;simp [fQ]
  ·cases h
 |pair a b SV SW=>
  intro x z nm ws r h
  simp only [bT,List.mem_append] at h
  simp only [fQ,List.length_append]
  rcases h with h|h
  ·obtain ⟨h1,h2,h3⟩:=SV _ _ _ _ r h
   exact ⟨h1,by omega,by rw [List.getElem?_append_left (by omega)];exact h3⟩
  ·obtain ⟨h1,h2,h3⟩:=SW _ _ _ _ r h
   exact ⟨by omega,by omega,by rw [List.getElem?_append_right (by omega),show r.m- nm- (fQ nm a x.1).2.length=r.m- (nm+(fQ nm a x.1).2.length) by omega];exact h3⟩
theorem Qx {hp:HP} (p:o8): ∀(x:p.ty.T) (z:p.out.T) (nm:Nat) (ws:List (Nat×Nat)),Wq hp p x nm=some (z,true)-> ∀r∈(bT p x z nm ws).1,hp r.m=some r.c/\ WPc r:=by
 induction p with
 |val p=>intro x z nm ws _ r h;simp [bT] at h
 |row t=>
  intro x z nm ws ho r h
  simp only [Wq] at ho
  split at ho<;>try (cases ho;done)
  rename_i u l rk hl
  split at ho<;>try (cases ho;done)
  rename_i sQ
  split at ho<;>try (cases ho;done)
  rename_i l' hc
  simp only [Option.some.injEq,Prod.mk.injEq,decide_eq_true_eq] at ho
  obtain ⟨rfl,hlen⟩:=ho
  obtain ⟨e1,e2⟩:=cr hc
  subst e1
  dsimp only at e2
  subst e2
  simp only [bT] at h
  split at h
  ·simp only [List.mem_singleton] at h;subst h;exact ⟨by rw [hl,sQ],.inl ⟨_,_,_,hlen,rfl,rfl,rfl⟩⟩
  ·cases h
 |ptr t e=>
  intro x z nm ws ho r h
  simp only [Wq] at ho
  split at ho<;>try (cases ho;done)
  rename_i cs e' hl
  split at ho<;>try (cases ho;done)
  rename_i hc
  split at ho<;>try (cases ho;done)
  rename_i y tc hd
  simp only [Option.some.injEq,Prod.mk.injEq,and_true] at ho
  subst ho
  have hcs:=rO t _ _ _ _ hc.2 hd
  rw [List.append_nil] at hcs
  simp only [bT] at h
  split at h
  ·simp only [List.mem_singleton] at h;subst h
   exact ⟨by rw [hl,hcs,hc.1],.inr ⟨_,_,_,KQ,rfl,rfl,rfl⟩⟩
  ·cases h
 |pair a b SV SW=>
  intro x z nm ws ho r h
  simp only [Wq] at ho
  split at ho<;>try (cases ho;done)
  rename_i y f h1
  split at ho<;>try (cases ho;done)
  rename_i z' g h2
  simp only [Option.some.injEq,Prod.mk.injEq,Bool.and_eq_true] at ho
  obtain ⟨rfl,rfl,rfl⟩:=ho
  simp only [bT,List.mem_append] at h
  rcases h with h|h
  ·exact SV _ _ _ _ h1 r h
  ·exact SW _ _ _ _ h2 r h
theorem sy (p:o8): ∀(x:p.ty.T) (z:p.out.T) (nm:Nat) (ws:List (Nat×Nat)),(eW p x nm).length<=ws.length->((bT p x z nm ws).1.map (·.m))=eW p x nm/\ (bT p x z nm ws).2=ws.drop (eW p x nm).length/\ (bT p x z nm ws).1.map (fun r=>(r.n,r.rk))=ws.take (eW p x nm).length:=by
 induction p with
 |val p=>intro x z nm ws _;simp [bT,eW]
 |row t=>
  intro x z nm ws h
  cases ws with
  |nil=>simp [eW] at h
  |cons q r=>simp [bT,eW]
 |ptr t e=>
  intro x z nm ws h
  cases ws with
  |nil=>simp [eW] at h
  |cons q r=>simp [bT,eW]
 |pair a b SV SW=>
  intro x z nm ws h
  simp only [eW,List.length_append] at h
  obtain ⟨h1,h2,h3⟩:=SV x.1 z.1 nm ws (by omega)
  obtain ⟨h4,h5,h6⟩:=SW x.2 z.2 (nm+(fQ nm a x.1).2.length) (bT a x.1 z.1 nm ws).2 (by rw [h2,List.length_drop];omega)
  rw [h2] at h4 h5 h6
  refine ⟨?_,?_,?_⟩
  ·simp only [bT,eW,List.map_append,h2]
   rw [h1,h4]
  ·simp only [bT,eW,List.length_append,h2]
   rw [h5,List.drop_drop]
  ·simp only [bT,eW,List.map_append,List.length_append,h2]
   rw [h3,h6,List.take_add]
theorem xu {hp:HP} (p:o8): ∀(args:List AV) (x:p.ty.T) (r:List AV) (tc:List Nat) (ws:List (Nat×Nat)) (b:Bool),xq hp p args=some (x,r,tc,ws,b)-> ∀nm,(eW p x nm).length=ws.length:=by
 induction p with
 |val p=>
  intro args x r tc ws b h nm
  simp only [xq] at h
  split at h
  ·cases h;rfl
  ·cases h
 |row t=>
  intro args x r tc ws b h nm
  simp only [xq] at h
  split at h<;>try (cases h;done)
  split at h<;>try (cases h;done)
  split at h<;>try (cases h;done)
  split at h<;>try (cases h;done)
  cases h;rfl
 |ptr t e=>
  intro args x r tc ws b h nm
  simp only [xq] at h
  split at h<;>try (cases h;done)
  split at h<;>try (cases h;done)
  split at h<;>try (cases h;done)
  split at h<;>try (cases h;done)
  cases h;rfl
 |pair a b' SV SW=>
  intro args x r tc ws b h nm
  simp only [xq] at h
  split at h<;>try (cases h;done)
  rename_i h1
  split at h<;>try (cases h;done)
  rename_i h2
  cases h
  simp only [eW,List.length_append,SV _ _ _ _ _ _ h1,SW _ _ _ _ _ _ h2]
theorem adZ {hp:HP} (p:o8): ∀(args:List AV) (x:p.ty.T) (r:List AV) (tc:List Nat) (ws:List (Nat×Nat)),xq hp p args=some (x,r,tc,ws,true)->
  ∀(z:p.out.T) (nm:Nat) (YA:List (Nat×Nat)),∀q∈(bT p x z nm (ws++YA)).1,hp q.n=some q.b/\ WP1 q:=by
 induction p with
 |val p=>intro args x r tc ws h z nm YA q hq;simp [bT] at hq
 |row t=>
  intro args x r tc ws h z nm YA q hq
  simp only [xq] at h
  split at h<;>try (cases h;done)
  rename_i n r'
  split at h<;>try (cases h;done)
  rename_i u l rk hl
  split at h<;>try (cases h;done)
  rename_i hc
  split at h<;>try (cases h;done)
  rename_i l' hcast
  cases h
  obtain ⟨e1,e2⟩:=cr hcast
  subst e1
  dsimp only at e2
  subst e2
  simp only [List.cons_append,bT,List.mem_singleton] at hq
  subst hq
  exact ⟨hl,.inl ⟨_,_,hc.1,hc.2,rfl,rfl⟩⟩
 |ptr t e=>
  intro args x r tc ws h z nm YA q hq
  simp only [xq] at h
  split at h<;>try (cases h;done)
  rename_i n r'
  split at h<;>try (cases h;done)
  rename_i cs e' hl
  split at h<;>try (cases h;done)
  rename_i hc
  split at h<;>try (cases h;done)
  rename_i y CN hd
  cases h
  have hcs:=rO t _ _ _ _ hc.2 hd
  rw [List.append_nil] at hcs
  simp only [List.cons_append,bT,List.mem_singleton] at hq
  subst hq
  exact ⟨by rw [hl,hcs,hc.1],.inr ⟨_,_,KQ,rfl,rfl⟩⟩
 |pair a b SV SW=>
  intro args x r tc ws h z nm YA q hq
  simp only [xq] at h
  split at h<;>try (cases h;done)
  rename_i x1 r1 J8 ws1 f1 h1
  split at h<;>try (cases h;done)
  rename_i y r2 w7 ws3 f2 h2
  simp only [Option.some.injEq,Prod.mk.injEq,Bool.and_eq_true] at h
  obtain ⟨rfl,rfl,rfl,rfl,rfl,rfl⟩:=h
  rcases z with ⟨z1,z2⟩
  rw [List.append_assoc] at hq
  simp only [bT,List.mem_append] at hq
  rcases hq with hq|hq
  ·exact SV _ _ _ _ _ h1 _ _ _ q hq
  ·have hn:=sy a x1 z1 nm (ws1++(ws3++YA)) (by rw [xu a _ _ _ _ _ _ h1 nm,List.length_append];omega)
   rw [hn.2.1,xu a _ _ _ _ _ _ h1 nm,List.drop_left] at hq
   exact SW _ _ _ _ _ h2 _ _ _ q hq
theorem ad1 {hp:HP} (p:o8): ∀(args:List AV) (x:p.ty.T) (r:List AV) (tc:List Nat) (ws:List (Nat×Nat)),xq hp p args=some (x,r,tc,ws,true)->
  ∃as,args=as++r/\ ∀av W ρ Kn Γ w,(∀m∈tc,Γ m=hp m)->St av W ρ Kn Γ w-> ∀ok,nV ok ρ Γ w tc-> ∀(z:p.out.T) (nm:Nat) (YA:List (Nat×Nat)),∃xs:List Loc,xs.length=(fQ nm p x).2.length/\
   (∀i o,(fQ nm p x).2[i]? =some o-> ∃y,xs[i]? =some y/\ (cK ok w o y\/ ∃q∈(bT p x z nm (ws++YA)).1,q.m=nm+i/\ o=q.a/\ y=ρ q.n))/\
   ∀aR:Env,(∀i y,xs[i]? =some y->aR (nm+i)=y)->as.map (AV.ae ρ)=(fQ nm p x).1.map (A0.ae aR):=by
 induction p with
 |val p=>
  intro args x r tc ws h
  simp only [xq] at h
  split at h<;>try (cases h;done)
  rename_i hd
  cases h
  obtain ⟨as,e,hs⟩:=mS p _ _ _ _ hd
  refine ⟨as,e,fun av W ρ Kn Γ w ht hst ok hok z nm YA=> ?_⟩
  obtain ⟨xs,h1,h2⟩:=hs av W ρ Kn Γ w ht hst ok hok nm
  refine ⟨xs,h1.length.symm,fun i o ho=> ?_,h2⟩
  obtain ⟨y,h3,h4⟩:=h1.get i o ho
  exact ⟨y,h3,.inl h4⟩
 |row t=>
  intro args x r tc ws h
  simp only [xq] at h
  split at h<;>try (cases h;done)
  rename_i n r'
  split at h<;>try (cases h;done)
  rename_i u l rk hl
  split at h<;>try (cases h;done)
  rename_i hc
  split at h<;>try (cases h;done)
  rename_i l' hcast
  cases h
  refine ⟨[_],rfl,fun av W ρ Kn Γ w ht hst ok hok z nm YA=>⟨[ρ n],rfl,fun i o ho=> ?_,fun aR hr=> ?_⟩⟩
  ·match i,ho with
   |0,ho=>
    simp only [fQ,List.getElem?_cons_zero,Option.some.injEq] at ho
    exact ⟨_,rfl,.inr ⟨_,List.mem_singleton.2 rfl,rfl,ho.symm,rfl⟩⟩
   |i+1,ho=>simp [fQ] at ho
  ·have h0:=hr 0 _ rfl
   rw [Nat.add_zero] at h0
   simp only [fQ,List.map_cons,List.map_nil,AV.ae,A0.ae,Cell.ae,h0]
 |ptr t e=>
  intro args x r tc ws h
  simp only [xq] at h
  split at h<;>try (cases h;done)
  rename_i n r'
  split at h<;>try (cases h;done)
  rename_i cs e' hl
  split at h<;>try (cases h;done)
  rename_i hc
  split at h<;>try (cases h;done)
  rename_i y CN hd
  cases h
  refine ⟨[_],rfl,fun av W ρ Kn Γ w ht hst ok hok z nm YA=>⟨[ρ n],rfl,fun i o ho=> ?_,fun aR hr=> ?_⟩⟩
  ·match i,ho with
   |0,ho=>
    simp only [fQ,List.getElem?_cons_zero,Option.some.injEq] at ho
    exact ⟨_,rfl,.inr ⟨_,List.mem_singleton.2 rfl,rfl,ho.symm,rfl⟩⟩
   |i+1,ho=>simp [fQ] at ho
  ·have h0:=hr 0 _ rfl
   rw [Nat.add_zero] at h0
   simp only [fQ,List.map_cons,List.map_nil,AV.ae,A0.ae,Cell.ae,addrOf,h0]
 |pair a b SV SW=>
  intro args x r tc ws h
  simp only [xq] at h
  split at h<;>try (cases h;done)
  rename_i x1 r1 J8 ws1 f1 h1
  split at h<;>try (cases h;done)
  rename_i y r2 w7 ws3 f2 h2
  simp only [Option.some.injEq,Prod.mk.injEq,Bool.and_eq_true] at h
  obtain ⟨rfl,rfl,rfl,rfl,rfl,rfl⟩:=h
  obtain ⟨as,e1,k1⟩:=SV _ _ _ _ _ h1
  obtain ⟨bs,e2,k2⟩:=SW _ _ _ _ _ h2
  refine ⟨as++bs,by rw [e1,e2];simp,fun av W ρ Kn Γ w ht hst ok hok z nm YA=> ?_⟩
  rcases z with ⟨z1,z2⟩
  obtain ⟨xs,l1,g1,c1⟩:=k1 av W ρ Kn Γ w (fun m hm=>ht m (by simp [hm])) hst ok (hok.sub fun m hm=>by simp [hm]) z1 nm (ws3++YA)
  obtain ⟨ys,l2,g2,c2⟩:=k2 av W ρ Kn Γ w (fun m hm=>ht m (by simp [hm])) hst ok (hok.sub fun m hm=>by simp [hm]) z2 (nm+(fQ nm a x1).2.length) YA
  have hn:=sy a x1 z1 nm (ws1++(ws3++YA)) (by rw [xu a _ _ _ _ _ _ h1 nm,List.length_append];omega)
  have hdr:(bT a x1 z1 nm (ws1++(ws3++YA))).2=ws3++YA:=by rw [hn.2.1,xu a _ _ _ _ _ _ h1 nm,List.drop_left]
  refine ⟨xs++ys,by simp only [fQ,List.length_append,l1,l2],fun i o ho=> ?_,fun aR hr=> ?_⟩
  ·simp only [fQ] at ho
   rw [List.append_assoc]
   simp only [bT,hdr]
   rcases Nat.lt_or_ge i (fQ nm a x1).2.length with hlt|hge
   ·rw [List.getElem?_append_left hlt] at ho
    obtain ⟨y,h3,h4⟩:=g1 i o ho
    refine ⟨y,by rw [List.getElem?_append_left (by omega)];exact h3,h4.imp_right fun ⟨q,q1,q2⟩=>⟨q,List.mem_append.2 (.inl q1),q2⟩⟩
   ·rw [List.getElem?_append_right hge] at ho
    obtain ⟨y,h3,h4⟩:=g2 _ o ho
    refine ⟨y,by rw [List.getElem?_append_right (by omega),l1];exact h3,h4.imp_right fun ⟨q,q1,q2,q3⟩=>⟨q,List.mem_append.2 (.inr q1),by omega,q3⟩⟩
  ·simp only [fQ,List.map_append]
   rw [c1 aR fun i y hi=>hr i y (by rw [List.getElem?_append_left (List.getElem?_eq_some_iff.1 hi).1];exact hi),c2 aR fun i y hi=>by
    have:=hr (xs.length+i) y (by rw [List.getElem?_append_right (by omega)];simpa using hi)
    rwa [l1,<- Nat.add_assoc] at this]
theorem alV (p:o8): ∀(x:p.ty.T) (nm:Nat),∀c∈(fQ nm p x).1,c.ok fun m=>nm<=m/\ m<nm+(fQ nm p x).2.length:=by
 induction p with
 |val p=>intro x nm c h;exact jc 0 p x nm c h
 |row t=>
  intro x nm c h
  simp only [fQ,List.mem_singleton] at h
  subst h
  simp only [fQ,A0.ok,Cell.ok,List.length_singleton];omega
 |ptr t e=>
  intro x nm c h
  simp only [fQ,List.mem_singleton] at h
  subst h
  simp only [fQ,A0.ok,Cell.ok,List.length_singleton];omega
 |pair a b SV SW=>
  intro x nm c h
  simp only [fQ,List.mem_append,List.length_append] at h ⊢
  rcases h with h|h
  ·exact A0.aT (fun m hm=>by omega) c (SV _ _ c h)
  ·exact A0.aT (fun m hm=>by omega) c (SW _ _ c h)
theorem St.aoW {av:fG} {W:World} {ρ:Env} {Kn:Nat->Prop} {Γ:HP} {w:World} (h:St av W ρ Kn Γ w) {os:List aD} {xs:List Loc} {R:List gF} (hl:xs.length=os.length)
  (hR: ∀q∈R,Γ q.n=some q.b/\ ((∀S,q.a≠ .hide S)/\ q.a.ok (· <os.length))/\ ((∃m,q.a= .set m)\/ (ρ q.n).jq= []))
  (hA: ∀q∈R,xs.getD q.m {} =ρ q.n-> ∀fz pm,bp fz pm (fun n=>xs.getD n {}) q.m q.a w)
  (hn: ∀q∈R,∀q'∈R,q.n=q'.n->q.m=q'.m)
  (hx: ∀i o,os[i]? =some o-> ∃y,xs[i]? =some y/\ (cK (fun b=>bj w b/\ ∀q∈R,¬(ρ q.n).has b) w o y\/ ∃q∈R,q.m=i/\ o=q.a/\ y=ρ q.n)):
  St {wr:=fun b=> ∃q∈R,(ρ q.n).has b} w (fun n=>xs.getD n {}) (· <(os++ [aD.cg (fun n=>xs.getD n {}) os.length]).length) (ai (os++ [aD.cg (fun n=>xs.getD n {}) os.length])) w:=by
 obtain ⟨aW,ep⟩: ∃aW:Env,aW=fun n=>xs.getD n {} :=⟨_,rfl⟩
 rw [<- ep]
 have On: ∀i y,xs[i]? =some y->aW i=y:=fun i y hy=>by rw [ep];simp [hy]
 have AO:(aW os.length).blk=Option.none/\ (aW os.length).jq= []:=by rw [ep];simp [List.getElem?_eq_none (show xs.length<=os.length by omega)]
 have xM: ∀n o,ai (os++ [aD.cg aW os.length]) n=some o->(n<os.length/\ (cK (fun b=>bj w b/\ ∀q∈R,¬(ρ q.n).has b) w o (aW n)\/ ∃q∈R,q.m=n/\ o=q.a/\ aW n=ρ q.n))\/ (n=os.length/\ o= .cg aW os.length):=fun n o ho=>by
  have h1:=oo ho
  rcases Nat.lt_or_ge n os.length with h2|h2
  ·rw [List.getElem?_append_left h2] at h1
   obtain ⟨y,h3,h4⟩:=hx n o h1
   rw [On n y h3]
   exact .inl ⟨h2,h4⟩
  ·rw [List.getElem?_append_right h2] at h1
   have:n- os.length=0:=by
    rcases Nat.eq_zero_or_pos (n- os.length) with h3|h3
    ·exact h3
    ·rw [List.getElem?_eq_none (by simp;omega)] at h1;cases h1
   rw [this] at h1
   simp only [List.getElem?_cons_zero,Option.some.injEq] at h1
   exact .inr ⟨by omega,h1.symm⟩
 have dS: ∀n b,(ai (os++ [aD.cg aW os.length]) n).isSome=true->(aW n).has b-> ∃q∈R,q.m=n/\ aW n=ρ q.n/\ (ρ q.n).has b:=fun n b hn' hb=>by
  obtain ⟨o,ho⟩:=Option.isSome_iff_exists.1 hn'
  rcases xM n o ho with ⟨_,h1|⟨q,h1,h2,_,h3⟩⟩|⟨rfl,_⟩
  ·obtain ⟨u,l,rfl⟩:=bH h1
   exact (ot h1.2.1 hb).elim
  ·exact ⟨q,h1,h2,h3,by rw [<- h3];exact hb⟩
  ·exact (ot AO hb).elim
 have xU: ∀b,¬HI (ai (os++ [aD.cg aW os.length])) b:=fun b ⟨m,S,h1,_⟩=>by
  rcases xM m _ h1 with ⟨_,h2|⟨q,hq,_,e,_⟩⟩|⟨_,e⟩
  ·obtain ⟨u,l,e⟩:=bH h2;cases e
  ·exact (hR q hq).2.1.1 S e.symm
  ·cases e
 have hfz: ∀b,(bj w b/\ ∀q∈R,¬(ρ q.n).has b)->dV aW (ai (os++ [aD.cg aW os.length])) w b:=fun b hb=>⟨hb.1,by
  rintro (⟨m,h1,h2⟩|h1)
  ·obtain ⟨q,h3,_,_,h4⟩:=dS m b h1 h2
   exact hb.2 q h3 h4
  ·exact xU b h1⟩
 refine ⟨Fr.refl _ _,fun n o ho=> ?_,fun n o ho=> ?_,fun n m b mD Lx gy dR=> ?_,fun n b mD gy=> ?_,fun b hb=>absurd hb (xU b),fun n o ho=> ?_⟩
 rotate_right
 ·rcases xM n o ho with ⟨_,h1|⟨q,h1,h2,h3,h4⟩⟩|⟨rfl,rfl⟩
  ·obtain ⟨u,l,rfl⟩:=bH h1
   exact .inr h1.2.1.2
  ·rw [h4,h3]
   exact (hR q h1).2.2
  ·exact .inr AO.2
 ·rcases xM n o ho with ⟨_,h1|⟨q,h1,h2,h3,h4⟩⟩|⟨rfl,rfl⟩
  ·obtain ⟨u,l,rfl⟩:=bH h1
   obtain ⟨_,g1,g2,g3,g4,vals,g5,g6⟩:=h1
   obtain ⟨e1,e2⟩:=kS g5
   refine ⟨g2,g3,g4,uK vals,fun i v hv=> ?_,fun q u' l' hq=> ?_,fun _=>g1.1,fun h=>absurd rfl h⟩
   ·rw [e1] at hv
    obtain ⟨a,k1,k2,k3⟩:=g6 i v hv
    exact ⟨a,k1,k2,fun _=>hfz _ k3⟩
   ·exact (e2 q u' l' hq).weak fun b hb=>⟨hfz b hb,fun h=>by cases h⟩
  ·subst h3
   subst h2
   have e:=hA q h1 (by rw [ep] at h4;exact h4)
   rw [<- ep] at e
   exact e _ _
  ·exact ⟨AO.1,fun m _=>rfl⟩
 ·rcases xM n o ho with ⟨h0,h1|⟨q,h1,h2,h3,h4⟩⟩|⟨rfl,rfl⟩
  ·obtain ⟨u,l,rfl⟩:=bH h1
   exact ⟨by simp;omega,trivial⟩
  ·subst h3
   exact ⟨by simp;omega,aD.aT (fun m hm=>by simp;omega) _ (hR q h1).2.1.2⟩
  ·exact ⟨by simp,fun m hm=>by simp;omega⟩
 ·obtain ⟨q,q1,q2,_,q3⟩:=dS n b mD gy
  obtain ⟨q',q1',q2',_,q3'⟩:=dS m b Lx dR
  have:=h.dU q.n q'.n b (by rw [(hR q q1).1];rfl) (by rw [(hR q' q1').1];rfl) q3 q3'
  rw [<- q2,<- q2']
  exact hn q q1 q' q1' this
 ·obtain ⟨q,q1,_,_,q3⟩:=dS n b mD gy
  exact .inr ⟨q,q1,q3⟩
theorem St.aoX {av:fG} {W:World} {ρ:Env} {Kn:Nat->Prop} {Γ:HP} {w:World} (h:St av W ρ Kn Γ w) {os:List aD} {xs:List Loc} {R:List gF} (hl:xs.length=os.length)
  (hR: ∀q∈R,Γ q.n=some q.b/\ WP1 q)
  (hn: ∀q∈R,∀q'∈R,q.n=q'.n->q.m=q'.m)
  (hx: ∀i o,os[i]? =some o-> ∃y,xs[i]? =some y/\ (cK (fun b=>bj w b/\ ∀q∈R,¬(ρ q.n).has b) w o y\/ ∃q∈R,q.m=i/\ o=q.a/\ y=ρ q.n)):
  St {wr:=fun b=> ∃q∈R,(ρ q.n).has b} w (fun n=>xs.getD n {}) (· <(os++ [aD.cg (fun n=>xs.getD n {}) os.length]).length) (ai (os++ [aD.cg (fun n=>xs.getD n {}) os.length])) w:=
 h.aoW hl (fun q hq=>⟨(hR q hq).1,⟨(hR q hq).2.kind.1,(hR q hq).2.kind.2 _⟩,.inr (by
  obtain ⟨k1,k2⟩:=hR q hq
  rcases h.wK _ _ k1 with ⟨g,e⟩|e
  ·rcases k2 with ⟨_,_,_,_,_,e2⟩|⟨_,_,_,_,e2⟩<;>rw [e2] at e<;>cases e
  ·exact e)⟩) (fun q hq e fz pm=>(hR q hq).2.at_ (h.at_ _ _ (hR q hq).1) e) hn hx
theorem aeM {R:List gF} {m:Nat} {o:aD} (h:cm (wwr R) m=some o): ∃q∈R,q.n=m/\ o=q.d:=by
 induction R with
 |nil=>cases h
 |cons q r ih=>
  simp only [wwr,List.map_cons,cm] at h
  split at h
  ·rename_i p hp
   cases h
   obtain ⟨q',h1,h2⟩:=ih hp
   exact ⟨q',by simp [h1],h2⟩
  ·split at h
   ·rename_i e;cases h;exact ⟨q,by simp,e,rfl⟩
   ·cases h
theorem aeL {R:List gF} {q:gF} (h:q∈R): ∃o,cm (wwr R) q.n=some o:=by
 induction R with
 |nil=>cases h
 |cons p r ih=>
  simp only [wwr,List.map_cons,cm]
  rcases List.mem_cons.1 h with rfl|h
  ·cases e:cm (List.map (fun r=>(r.n,r.d)) r) q.n with
   |some o=>exact ⟨o,rfl⟩
   |none=>exact ⟨q.d,by simp⟩
  ·obtain ⟨o,ho⟩:=ih h
   have ho:cm (List.map (fun r=>(r.n,r.d)) r) q.n=some o:=ho
   rw [ho];exact ⟨o,rfl⟩
theorem St.arG {av:fG} {W:World} {ρ aR:Env} {Kn:Nat->Prop} {Γ:HP} {w w':World} {nm:Nat} {os:List aD} {v:AV} {tc:List Nat} {R:List gF} (h:St av W ρ Kn Γ w) (hn: ∀i,i<os.length-> ¬Kn (nm+i)) (hrow: ∀o∈os,∃u,∃l:List u.T,o= .row u l 2)
  (hR: ∀q∈R,Γ q.n=some q.b/\ ((∀S,q.d≠ .hide S)/\ q.d.ok Kn/\ live q.d=some q.d/\ live q.c=some q.c)/\ ((∃m,q.d= .set m)\/ (ρ q.n).jq= []))
  (hA: ∀(i:Nat) (q:gF),R[i]? =some q-> ∀ρ':Env,(∀m,Kn m->ρ' m=ρ m)->bp (dV aR (ai (os++R.map gF.c)) w') (uk {wr:=fun b=> ∃q∈R,(ρ q.n).has b} w) aR (os.length+i) q.c w'-> ∀fz pm,bp fz pm ρ' q.n q.d w')
  (h1:St {wr:=fun b=> ∃q∈R,(ρ q.n).has b} w aR (· <(os++R.map gF.c).length) (ai (os++R.map gF.c)) w')
  (h2: ∀(i:Nat) (q:gF),R[i]? =some q->aR (os.length+i)=ρ q.n):
  ∃ρ',(∀m,Kn m->ρ' m=ρ m)/\ (∀n,n<os.length->ρ' (n+nm)=aR n)/\ St av W ρ' (oI Kn nm {val:=v,fresh:=os,writes:=wwr R,aF:=tc}) (bV {val:=v,fresh:=os,writes:=wwr R,aF:=tc} nm Γ) w':=by
 let ρ':Env:=fun m=>if nm<=m/\ m<nm+os.length then aR (m- nm) else ρ m
 have hold: ∀m,Kn m->ρ' m=ρ m:=fun m hm=>by
  simp only [ρ']
  rw [if_neg]
  rintro ⟨h2,h3⟩
  exact hn (m- nm) (by omega) (by rw [show nm+(m- nm)=m by omega];exact hm)
 have hnew: ∀n,n<os.length->ρ' (n+nm)=aR n:=fun n hn=>by
  simp only [ρ']
  rw [if_pos (by omega),show n+nm- nm=n by omega]
 have Zo: ∀n,n<os.length->ai (os++R.map gF.c) n=ai os n:=fun n hn=>by
  unfold ai;rw [List.getElem?_append_left hn]
 have hRl: ∀q∈R,∃i,R[i]? =some q/\ ai (os++R.map gF.c) (os.length+i)=some q.c:=fun q hq=>by
  obtain ⟨i,hi⟩:=List.mem_iff_getElem?.1 hq
  refine ⟨i,hi,?_⟩
  unfold ai
  rw [List.getElem?_append_right (by omega),Nat.add_sub_cancel_left,List.getElem?_map,hi];exact (hR q hq).2.1.2.2.2
 have hkn: ∀q∈R,Kn q.n:=fun q hq=>(h.kn q.n _ (hR q hq).1).1
 obtain ⟨r,hr⟩: ∃r:Rec,r= {val:=v,fresh:=os,writes:=wwr R,aF:=tc} :=⟨_,rfl⟩
 rw [<- hr]
 have bQ: ∀m o,bV r nm Γ m=some o->(∃n,m=n+nm/\ n<os.length/\ ai os n=some o/\ ∃u,∃l:List u.T,o= .row u l 2)\/ (∃q∈R,m=q.n/\ o=q.d)\/ (Γ m=some o/\ Kn m/\ ∀q∈R,q.n≠m):=by
  intro m o ho
  rw [hr] at ho
  simp only [bV] at ho
  split at ho
  ·rename_i hc
   have hlt:m- nm<os.length:=by omega
   refine .inl ⟨m- nm,by omega,hlt,by rw [bz];exact ho,?_⟩
   rw [List.getElem?_eq_getElem hlt] at ho
   obtain ⟨u,l,e⟩:=hrow _ (List.getElem_mem hlt)
   rw [e] at ho
   simp only [live,Option.some.injEq] at ho
   exact ⟨u,l,ho.symm⟩
  ·split at ho
   ·rename_i p hp
    obtain ⟨q,q1,q2,rfl⟩:=aeM hp
    rw [(hR q q1).2.1.2.2.1,Option.some.injEq] at ho
    exact .inr (.inl ⟨q,q1,q2.symm,ho.symm⟩)
   ·rename_i hp
    refine .inr (.inr ⟨ho,(h.kn m o ho).1,fun q hq e=> ?_⟩)
    obtain ⟨p,fh⟩:=aeL hq
    rw [e,hp] at fh;cases fh
 have hsome: ∀m,(∃n,m=n+nm/\ n<os.length)\/ ((bV r nm Γ m).isSome=true->(Γ m).isSome=true/\ Kn m):=fun m=>by
  rcases Decidable.em (nm<=m/\ m<nm+os.length) with hc|hc
  ·exact .inl ⟨m- nm,by omega,by omega⟩
  ·refine .inr fun hs=> ?_
   obtain ⟨o,ho⟩:=Option.isSome_iff_exists.1 hs
   rcases bQ m o ho with ⟨n,e,hlt,_⟩|⟨q,q1,rfl,_⟩|⟨g,k,_⟩
   ·exact absurd ⟨by omega,by omega⟩ hc
   ·exact ⟨by rw [(hR q q1).1];rfl,hkn q q1⟩
   ·exact ⟨by rw [g];rfl,k⟩
 have hf1: ∀b,b<w.heap.size->(∀q∈R,¬(ρ q.n).has b)->w'.heap[b]? =w.heap[b]? :=fun b hb hq=>h1.fr.block b hb fun ⟨q,q1,q2⟩=>hq q q1 q2
 have hnb: ∀n b,n<os.length->(ai os n).isSome=true->(aR n).has b->w.heap.size<=b:=fun n b hlt hs hb=>by
  rcases h1.lC n b (by rw [Zo n hlt];exact hs) hb with h3|⟨q,q1,q2⟩
  ·exact h3
  ·exfalso
   obtain ⟨i,hi,hlv⟩:=hRl q q1
   have:=h1.dU n (os.length+i) b (by rw [Zo n hlt];exact hs) (by rw [hlv];rfl) hb (by rw [h2 i q hi];exact q2)
   omega
 have oH: ∀m o b,Γ m=some o->(ρ m).has b->b<w.heap.size:=fun m o b ho hb=>h.lt m b (by rw [ho];rfl) hb
 have aen: ∀b,LOb ρ' (bV r nm Γ) b->(w.heap.size<=b/\ ∃n,n<os.length/\ (ai os n).isSome=true/\ (aR n).has b)\/ (b<w.heap.size/\ LOb ρ Γ b):=by
  rintro b ⟨m,h3,h4⟩
  obtain ⟨o,ho⟩:=Option.isSome_iff_exists.1 h3
  rcases bQ m o ho with ⟨n,rfl,mD,hp,_⟩|⟨q,q1,rfl,_⟩|⟨hg,hk,_⟩
  ·rw [hnew n mD] at h4
   exact .inl ⟨hnb n b mD (by rw [hp];rfl) h4,n,mD,by rw [hp];rfl,h4⟩
  ·rw [hold _ (hkn q q1)] at h4
   exact .inr ⟨oH _ _ b (hR q q1).1 h4,q.n,by rw [(hR q q1).1];rfl,h4⟩
  ·rw [hold m hk] at h4
   exact .inr ⟨oH m o b hg h4,m,by rw [hg];rfl,h4⟩
 have z6: ∀b,HI (bV r nm Γ) b->HI Γ b:=fun b ⟨m,S,h3,h4⟩=>by
  rcases bQ m _ h3 with ⟨n,_,_,_,u,l,e⟩|⟨q,hq,_,e⟩|⟨hg,hk,_⟩
  ·cases e
  ·exact absurd e.symm ((hR q hq).2.1.1 S)
  ·exact ⟨m,S,hg,h4⟩
 have hnw: ∀b,dV ρ Γ w b-> ∀q∈R,¬(ρ q.n).has b:=fun b hb q hq e=>hb.2 (.inl ⟨q.n,by rw [(hR q hq).1];rfl,e⟩)
 have hsz:=h.fr.size
 have aey:=h1.fr.size
 have hfz: ∀b,dV ρ Γ w b->dV ρ' (bV r nm Γ) w' b/\ w'.heap[b]? =w.heap[b]? :=fun b hb=>by
  have hlt:=hb.1.lt
  have e:=hf1 b hlt (hnw b hb)
  refine ⟨⟨hb.1.same e,?_⟩,e⟩
  rintro (hl|hl)
  ·rcases aen b hl with ⟨h3,_⟩|⟨_,h3⟩
   ·omega
   ·exact hb.2 (.inl h3)
  ·exact hb.2 (.inr (z6 b hl))
 have Zm: ∀b,dV aR (ai (os++R.map gF.c)) w' b->uk {wr:=fun b=> ∃q∈R,(ρ q.n).has b} w b->dV ρ' (bV r nm Γ) w' b/\ uk av W b:=fun b hb hp=>by
  have hge:w.heap.size<=b:=by
   rcases hp with h3|⟨q,q1,q2⟩|h3
   ·exact h3
   ·exfalso
    obtain ⟨i,hi,hlv⟩:=hRl q q1
    exact hb.2 (.inl ⟨os.length+i,by rw [hlv];rfl,by rw [h2 i q hi];exact q2⟩)
   ·exact h3.elim
  refine ⟨⟨hb.1,?_⟩,.inl (by omega)⟩
  rintro (hl|hl)
  ·rcases aen b hl with ⟨_,n,n1,n2,n3⟩|⟨h3,_⟩
   ·exact hb.2 (.inl ⟨n,by rw [Zo n n1];exact n2,n3⟩)
   ·omega
  ·have:=(h.ru b (z6 b hl)).1
   omega
 have apC: ∀m:Nat,m<os.length->oI Kn nm r (m+nm):=fun m hm=> .inr (by rw [hr];simp only [];omega)
 have arT: ∀q∈R,∀b,(ρ q.n).has b->W.heap.size<=b\/ av b:=fun q hq b hb=>h.lC q.n b (by rw [(hR q hq).1];rfl) hb
 refine ⟨ρ',hold,hnew,⟨?_,fun m o ho=> ?_,fun m o ho=> ?_,fun m m' b hm hm' gy dR=> ?_,fun m b hm hb=> ?_,fun b hh=> ?_,fun m o ho=> ?_⟩⟩
 rotate_right
 ·rcases bQ m o ho with ⟨n,rfl,mD,hp,_⟩|⟨q,q1,rfl,rfl⟩|⟨hg,hk,_⟩
  ·rw [hnew n mD];exact h1.wK n o (by rw [Zo n mD];exact hp)
  ·rw [hold _ (hkn q q1)]
   exact (hR q q1).2.2
  ·rw [hold m hk];exact h.wK m o hg
 rotate_right
 ·obtain ⟨h3,h4⟩:=h.ru b (z6 b hh)
  refine ⟨by omega,fun h5=> ?_⟩
  rcases aen b h5 with ⟨h6,_⟩|⟨_,h6⟩
  ·omega
  ·exact h4 h6
 ·refine ⟨h1.fr.os.trans h.fr.os,h1.fr.tape.trans h.fr.tape,h1.fr.output.trans h.fr.output,Nat.le_trans hsz aey,fun k hk ar9=> ?_,Nat.le_trans h.fr.Pd h1.fr.Pd⟩
  rw [h1.fr.block k (by omega) fun ⟨q,q1,q2⟩=> ?_]
  ·exact h.fr.block k hk ar9
  ·rcases arT q q1 k q2 with h3|h3
   ·omega
   ·exact ar9 h3
 ·rcases bQ m o ho with ⟨n,rfl,mD,hp,u,l,rfl⟩|⟨q,q1,rfl,rfl⟩|⟨hg,hk,hne⟩
  ·obtain ⟨g1,g2,g3,sub,g4,g5,g6,g7⟩:=h1.at_ n _ (by rw [Zo n mD];exact hp)
   rw [bp,hnew n mD]
   exact ⟨g1,g2,g3,sub,fun i x hi=>by
    obtain ⟨a,e1,e2,_⟩:=g4 i x hi
    exact ⟨a,e1,e2,fun h=>by cases h⟩,fun q u' l' hq=>(g5 q u' l' hq).weak fun b hb=>by
     obtain ⟨e1,e2⟩:=Zm b hb.1 (hb.2 rfl).1
     exact ⟨e1,fun _=>⟨e2,(hb.2 rfl).2⟩⟩,g6,g7⟩
  ·obtain ⟨i,hi,hlv⟩:=hRl q q1
   exact hA i q hi ρ' hold (h1.at_ _ _ hlv) _ _
  ·refine cx (Kn:=Kn) (h.at_ m o hg) hold hk (h.kn m o hg).2 hfz (fun _ _ h=>h) fun b hb=>hf1 b (oH m o b hg hb) fun q hq e=> ?_
   exact hne q hq (h.dU q.n m b (by rw [(hR q hq).1];rfl) (by rw [hg];rfl) e hb)
 ·rcases bQ m o ho with ⟨n,rfl,mD,hp,u,l,rfl⟩|⟨q,q1,rfl,rfl⟩|⟨hg,hk,_⟩
  ·exact ⟨apC n mD,trivial⟩
  ·exact ⟨.inl (hkn q q1),aD.aT (fun _=> .inl) _ (hR q q1).2.1.2.1⟩
  ·exact ⟨.inl hk,aD.aT (fun _=> .inl) o (h.kn m o hg).2⟩
 ·have VH: ∀m b,(bV r nm Γ m).isSome=true→(ρ' m).has b→(∃n,m=n+nm∧n<os.length∧(ai os n).isSome=true∧(aR n).has b∧w.heap.size≤b)∨((Γ m).isSome=true∧(ρ m).has b∧b<w.heap.size):=fun m b hm hb=>by
   obtain ⟨o,ho⟩:=Option.isSome_iff_exists.1 hm
   rcases bQ m o ho with ⟨n,rfl,mD,hp,_⟩|⟨q,q1,rfl,_⟩|⟨hg,hk,_⟩
   ·rw [hnew n mD] at hb
    exact .inl ⟨n,rfl,mD,by rw [hp];rfl,hb,hnb n b mD (by rw [hp];rfl) hb⟩
   ·rw [hold _ (hkn q q1)] at hb
    exact .inr ⟨by rw [(hR q q1).1];rfl,hb,oH _ _ b (hR q q1).1 hb⟩
   ·rw [hold m hk] at hb
    exact .inr ⟨by rw [hg];rfl,hb,oH m o b hg hb⟩
  rcases VH m b hm gy with ⟨n,rfl,n1,n2,n3,n4⟩|⟨n1,n2,n3⟩
  ·rcases VH m' b hm' dR with ⟨n',rfl,n1',n2',n3',n4'⟩|⟨n1',n2',n3'⟩
   ·rw [h1.dU n n' b (by rw [Zo n n1];exact n2) (by rw [Zo n' n1'];exact n2') n3 n3']
   ·omega
  ·rcases VH m' b hm' dR with ⟨n',rfl,n1',n2',n3',n4'⟩|⟨n1',n2',n3'⟩
   ·omega
   ·exact h.dU m m' b n1 n1' n2 n2'
 ·obtain ⟨o,ho⟩:=Option.isSome_iff_exists.1 hm
  rcases bQ m o ho with ⟨n,rfl,mD,hp,_⟩|⟨q,q1,rfl,_⟩|⟨hg,hk,_⟩
  ·rw [hnew n mD] at hb
   have:=hnb n b mD (by rw [hp];rfl) hb
   exact .inl (by omega)
  ·rw [hold _ (hkn q q1)] at hb
   exact arT q q1 b hb
  ·rw [hold m hk] at hb
   exact h.lC m b (by rw [hg];rfl) hb
theorem St.arH {av:fG} {W:World} {ρ aR:Env} {Kn:Nat->Prop} {Γ:HP} {w w':World} {nm:Nat} {os:List aD} {v:AV} {tc:List Nat} {R:List gF} (h:St av W ρ Kn Γ w) (hn: ∀i,i<os.length-> ¬Kn (nm+i)) (hrow: ∀o∈os,∃u,∃l:List u.T,o= .row u l 2)
  (hR: ∀q∈R,Γ q.n=some q.b/\ WP2 q)
  (h1:St {wr:=fun b=> ∃q∈R,(ρ q.n).has b} w aR (· <(os++R.map gF.c).length) (ai (os++R.map gF.c)) w')
  (h2: ∀(i:Nat) (q:gF),R[i]? =some q->aR (os.length+i)=ρ q.n):
  ∃ρ',(∀m,Kn m->ρ' m=ρ m)/\ (∀n,n<os.length->ρ' (n+nm)=aR n)/\ St av W ρ' (oI Kn nm {val:=v,fresh:=os,writes:=wwr R,aF:=tc}) (bV {val:=v,fresh:=os,writes:=wwr R,aF:=tc} nm Γ) w':=
 h.arG hn hrow (fun q hq=>⟨(hR q hq).1,⟨(hR q hq).2.kind.1,(hR q hq).2.kind.2.1 _,(hR q hq).2.kind.2.2⟩,.inr (by
  obtain ⟨k1,k2⟩:=hR q hq
  rcases h.wK _ _ k1 with ⟨g,e⟩|e
  ·rcases k2 with ⟨_,_,_,_,_,_,e2,_⟩|⟨_,_,_,_,e2,_⟩<;>rw [e2] at e<;>cases e
  ·exact e)⟩) (fun i q hi ρ' hold ho fz pm=>(hR q (List.mem_of_getElem? hi)).2.at_ ho (by rw [hold _ (h.kn q.n _ (hR q (List.mem_of_getElem? hi)).1).1,h2 i q hi])) h1 h2
end Go.Ev
