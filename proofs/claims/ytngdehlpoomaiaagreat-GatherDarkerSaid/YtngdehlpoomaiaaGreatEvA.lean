/- The abstract evaluator: values whose addresses are names, a small heap of named objects, and 'codeE', the condition under which a piece of code does what is asked. -/
import Derived.Below
import Derived.KernelRfl
noncomputable section
set_option linter.unusedSectionVars false
set_option linter.unusedVariables false
set_option linter.unusedSimpArgs false
namespace Go.Ev
inductive Ty
 |int (k:IntKind)
 |bool
 |str
 |prod (a b:Ty)
 |sl (t:Ty)
 deriving DecidableEq
@[reducible] def Ty.T:Ty->Type
 | .int _=>Int
 | .bool=>Bool
 | .str=>ByteArray
 | .prod a b=>a.T×b.T
 | .sl t=>List t.T
def Ty.d:(t:Ty)->t.T
 | .int _=>(0:Int)
 | .bool=>false
 | .str=>ByteArray.empty
 | .prod a b=>(a.d,b.d)
 | .sl t=>([]:List t.T)
def Ty.size:Ty->Nat
 | .prod a b=>a.size+b.size
 |_=>1
def Ty.flat:Ty->Bool
 | .prod a b=>a.flat&&b.flat
 | .sl _=>false
 |_=>true
def Ty.shallow:Ty->Bool
 | .prod a b=>a.shallow&&b.shallow
 | .sl t=>t.flat
 |_=>true
inductive cm
 |flat (v:Value)
 |sl (u:Ty) (l:List u.T)
def Ty.aU:(t:Ty)->t.T->List cm
 | .int k,n=> [.flat (.int k n)]
 | .bool,b=> [.flat (.bool b)]
 | .str,s=> [.flat (.string s)]
 | .prod a b,x=>a.aU x.1++b.aU x.2
 | .sl u,l=> [.sl u l]
def bK:cm->Value
 | .flat v=>v
 | .sl _ _=> .slice none 0 0
def eqT:(t:Ty)->t.T->t.T->Bool
 | .int _,x,y=>(x:Int)==y
 | .bool,x,y=>(x:Bool)==y
 | .str,x,y=>(x:ByteArray)==y
 | .prod a b,x,y=>eqT a x.1 y.1&&eqT b x.2 y.2
 | .sl _,_,_=>false
def ad8 (a:Bool) (t:Ty) (x:t.T):Value:=match a with
 |true=> .agg ((t.aU x).map bK).toArray
 |false=>match (t.aU x).map bK with
  | [v]=>v
  |_=> .tuple #[]
def gd (t:Ty) (l:List t.T) (j:Nat):t.T:=l.getD j t.d
def iw (t u:Ty) (l:List t.T):Option (List u.T):=if h:t=u then some (h▸l) else none
inductive Ref
 |ext (v:Value)
 |loc (n off:Nat)
 |elem (n j:Nat)
 |full (n:Nat)
 |mp (n:Nat)
inductive Cell
 |raw (v:Value)
 |ptr (n off:Nat)
 |lY (n off:Nat)
 |sl (n off len cap:Nat)
 |full (n:Nat)
 |cW (n j k:Nat)
 |fB (n j k:Nat)
 |iT (f:Fn) (first:List Value) (cap:List Ref)
 |HA (n:Nat)
 |mp (n:Nat)
 |mv (f:FuncId) (agg:Bool) (rs:List Ref)
inductive A0
 |one (c:Cell)
 |agg (cs:List Cell)
inductive AV
 |v (a:A0)
 |nC (l:List A0)
 |dead
structure Ent where
 key:Sigma Ty.T
 blk:Option Nat
 base:Option Addr
 len:Nat
 cap:Nat
 es:Nat
 vals:List Value
structure Loc where
 blk:Option Nat:=none
 base:Option Addr:=none
 len:Nat:=0
 cap:Nat:=0
 es:Nat:=1
 iB:List Ent:= []
abbrev Env:=Nat->Loc
inductive aF
 |cells (cs:List Cell) (e:TypeId)
 |row (t:Ty) (l:List t.T) (rk:Nat)
 |alias (n s:Nat) (q:Option Nat)
 |gone
 |loop (r:Loop) (s:LoopState) (j:Option Code)
 |cw (ρ:Env) (n:Nat)
 |hide (S:Nat->Prop)
 |map (ka va:Bool) (k v:Ty) (l:List (k.T×v.T))
 |IP (ka:Bool) (k u:Ty) (l:List (k.T×List u.T)) (c:Nat) (q:Option k.T)
 |set (n:Nat)
 |gv (n c:Nat) (k u:Ty) (x:k.T) (l:List u.T)
 |rc (cs:List Cell)
 |hmap (es:Array MapEntry) (mY:Nat)
 |NT (n c:Nat) (es:Array MapEntry) (mY:Nat) (ka:Bool) (k u:Ty) (l:List (k.T×List u.T)) (cur:Option (k.T×Nat))
 |dp (t:Ty) (l:List t.T) (c:Nat) (st kn:Bool)
 |nv (n c j q:Nat) (u:Ty)
def addrOf (ρ:Env) (n off:Nat):Option Addr:=(ρ n).blk.map fun b=> {block:=b,off:=off,spot:=none}
def Ref.ae (ρ:Env):Ref->Value
 | .ext v=>v
 | .loc n off=> .pointer (addrOf ρ n off)
 | .elem n j=> .pointer ((ρ n).base.map (·.add (j*(ρ n).es+0)))
 | .full n=> .slice (ρ n).base (ρ n).len (ρ n).cap
 | .mp n=> .map (ρ n).blk
def TG (agg:Bool) (vs:List Value):Value:=match agg with
 |true=> .agg vs.toArray
 |false=>match vs with
  | [v]=>v
  |_=> .tuple #[]
def Cell.ae (ρ:Env):Cell->Value
 | .raw v=>v
 | .ptr n off=> .pointer (addrOf ρ n off)
 | .lY n off=> .pointer (addrOf ρ n off)
 | .sl n off len cap=> .slice (addrOf ρ n off) len cap
 | .full n=> .slice (ρ n).base (ρ n).len (ρ n).cap
 | .cW n j k=> .pointer ((ρ n).base.map (·.add (j*(ρ n).es+k)))
 | .fB n j k=> .pointer ((ρ n).base.map (·.add (j*(ρ n).es+k)))
 | .iT f first cap=> .func f first.toArray (cap.map (Ref.ae ρ)).toArray
 | .HA n=>match (ρ n).blk with
  |some l=> .func (.yield l) #[] #[]
  |none=> .nilFunc
 | .mp n=> .map (ρ n).blk
 | .mv f agg rs=> .func (.func f) #[TG agg (rs.map (Ref.ae ρ))] #[]
def A0.ae (ρ:Env):A0->Value
 | .one c=>c.ae ρ
 | .agg cs=> .agg (cs.map (Cell.ae ρ)).toArray
def AV.ae (ρ:Env):AV->Value
 | .v a=>a.ae ρ
 | .nC l=> .tuple (l.map (A0.ae ρ)).toArray
 | .dead=> .tuple #[]
def Ref.ok (Kn:Nat->Prop):Ref->Prop
 | .ext _=>True
 | .loc n _=>Kn n
 | .elem n _=>Kn n
 | .full n=>Kn n
 | .mp n=>Kn n
def Cell.ok (Kn:Nat->Prop):Cell->Prop
 | .raw _=>True
 | .ptr n _=>Kn n
 | .lY n _=>Kn n
 | .sl n _ _ _=>Kn n
 | .full n=>Kn n
 | .cW n _ _=>Kn n
 | .fB n _ _=>Kn n
 | .iT _ _ cap=> ∀r∈cap,r.ok Kn
 | .HA n=>Kn n
 | .mp n=>Kn n
 | .mv _ _ rs=> ∀r∈rs,r.ok Kn
def A0.ok (Kn:Nat->Prop):A0->Prop
 | .one c=>c.ok Kn
 | .agg cs=> ∀c∈cs,c.ok Kn
def AV.ok (Kn:Nat->Prop):AV->Prop
 | .v a=>a.ok Kn
 | .nC l=> ∀a∈l,a.ok Kn
 | .dead=>True
def aF.ok (Kn:Nat->Prop):aF->Prop
 | .cells cs _=> ∀c∈cs,c.ok Kn
 | .row _ _ _=>True
 | .alias n _ _=>Kn n
 | .gone=>True
 | .loop _ _ _=>True
 | .cw _ n=> ∀m,m<n->Kn m
 | .hide _=>True
 | .map _ _ _ _ _=>True
 | .IP _ _ _ _ c _=>Kn c
 | .set n=>Kn n
 | .gv n c _ _ _ _=>Kn n/\ Kn c
 | .rc cs=> ∀c∈cs,c.ok Kn
 | .hmap _ _=>True
 | .NT n c _ _ _ _ _ _ cur=>Kn n/\ Kn c/\ ∀p,cur=some p->Kn p.2
 | .dp _ _ c _ _=>Kn c
 | .nv n c _ _ _=>Kn n/\ Kn c
def ck:AV:= .nC []
def Z5:Value->A0
 | .agg cs=> .agg (cs.toList.map .raw)
 |v=> .one (.raw v)
def ofV (v:Value):AV:= .v (Z5 v)
def uL:Value->Bool
 | .agg _=>false
 | .tuple _=>false
 |_=>true
def Cell.one:Cell->Bool
 | .raw v=>uL v
 |_=>true
def A0.cells:A0->Option (List Cell)
 | .one c=>if c.one then some [c] else none
 | .agg cs=>some cs
def AV.cells:AV->Option (List Cell)
 | .v a=>a.cells
 | .nC _=>none
 | .dead=>none
def AV.Rf:AV->Bool
 | .dead=>true
 |_=>false
def nX:List Cell->Bool
 | []=>true
 |c::r=>if c.one then nX r else false
structure Rec where
 val:AV
 fresh:List aF:= []
 writes:List (Nat×aF):= []
 aD:List Nat:= []
structure TI where
 desc:TypeDesc
 size:Nat
 bytes:Nat
 zero:Value
 ty:Option Ty
def cB (b:Bool) (p q:Prop):Prop:=match b with|true=>p|false=>q
def ob (b:Bool) (p:Prop):Prop:=match b with|true=>p|false=>False
def aI {α:Type _} :List (Nat×α)->Nat->Option α
 | [],_=>none
 |(k,a)::r,n=>if k=n then some a else aI r n
def dc:TypeDesc->Bool
 | .struct _=>true
 | .array _ _=>true
 |_=>false
def cz:List AV->Nat->AV
 | [],_=>ck
 |a::_,0=>a
 |_::r,n+1=>cz r n
abbrev HP:=Nat->Option aF
abbrev Spec:=(Addr->Value->Prop)->List AV->HP->Nat->(Rec->Prop)->Prop
structure AS where
 tmps:List AV
 heap:List aF
abbrev cX:=List (Nat×Spec)->List AV->List aF->(AV->AS->Prop)->Prop
abbrev bC:=AS->(Exit->AS->Prop)->Prop
structure Ctx where
 tt:List (Nat×TI)
 specs:List (Nat×Spec)
 X:Addr->Value->Prop
 lp:List (Nat×bC):= []
 ys:List (Nat×Spec):= []
 its:List (Nat×cX):= []
def dw (tmps:List AV):Operand->AV
 | .tmp t=>cz tmps t
 | .const v=>ofV v
 | .global g=> .v (.one (.raw (.pointer (some {block:=g,off:=0,spot:=none}))))
 | .func f=> .v (.one (.iT (.func f) [] []))
def setCells {α:Type} :List α->Nat->List α->List α
 |cs,_,[]=>cs
 |cs,off,c::r=>setCells (cs.set off c) (off+1) r
def wW (place:Nat->Option (Nat×Nat)) (ev:Operand->AV):List Cell->List (Nat×Operand)->Option (List Cell)
 |cs,[]=>some cs
 |cs,(i,x)::r=>match place i,(ev x).cells with
  |some (off,size),some xs=>if xs.length=size then (if off+size<=cs.length then wW place ev (setCells cs off xs) r else none) else none
  |_,_=>none
def uI (d:TypeDesc) (cs:List Cell):Option AV:=
 if dc d then some (.v (.agg cs)) else match cs with
  | [c]=>some (.v (.one c))
  |_=>none
def gp (k:IntKind) (n:Int):AV:= .v (.one (.raw (.int k n)))
def bG (b:Bool):AV:= .v (.one (.raw (.bool b)))
def NM:Operand->Bool
 | .const _=>true
 |_=>false
def Rb (op:BinOp) (kk:IntKind) (a b:Int) (k:Rec->Prop):Prop:=
 match op with
 | .add=>k {val:=gp kk (kk.wrap (a+b))}
 | .sub=>k {val:=gp kk (kk.wrap (a- b))}
 | .mul=>k {val:=gp kk (kk.wrap (a*b))}
 | .quo=>ob (decide (b≠0)) (k {val:=gp kk (kk.wrap (a.tdiv b))})
 | .rem=>ob (decide (b≠0)) (k {val:=gp kk (a.tmod b)})
 | .eql=>k {val:=bG (a==b)}
 | .neq=>k {val:=bG (a !=b)}
 | .lss=>k {val:=bG (decide (a<b))}
 | .leq=>k {val:=bG (decide (a<=b))}
 | .gtr=>k {val:=bG (decide (a>b))}
 | .geq=>k {val:=bG (decide (a>=b))}
 | .and=>k {val:=gp kk (kk.wrap ((BitVec.ofInt kk.bits a&&&BitVec.ofInt kk.bits b).toNat))}
 | .or=>k {val:=gp kk (kk.wrap ((BitVec.ofInt kk.bits a|||BitVec.ofInt kk.bits b).toNat))}
 | .xor=>k {val:=gp kk (kk.wrap ((BitVec.ofInt kk.bits a^^^BitVec.ofInt kk.bits b).toNat))}
 | .andNot=>k {val:=gp kk (kk.wrap ((BitVec.ofInt kk.bits a&&& ~~~ BitVec.ofInt kk.bits b).toNat))}
 |_=>False
def eqFields (tt:List (Nat×TI)) (eq:TypeId->List Cell->List Cell->Option Bool):List Field->List Cell->List Cell->Option Bool
 | [],_,_=>some true
 |f::r,xs,ys=>match aI tt f.type with
  |none=>none
  |some fi=>if f.name= "_" then none else
   match eq f.type ((xs.drop f.offset).take fi.size) ((ys.drop f.offset).take fi.size),eqFields tt eq r xs ys with
   |some a,some b=>some (a&&b)
   |_,_=>none
def Du (eq:TypeId->List Cell->List Cell->Option Bool) (e s:Nat):Nat->Nat->List Cell->List Cell->Option Bool
 |0,_,_,_=>some true
 |n+1,i,xs,ys=>match eq e ((xs.drop (i*s)).take s) ((ys.drop (i*s)).take s),Du eq e s n (i+1) xs ys with
  |some a,some b=>some (a&&b)
  |_,_=>none
def eqE (tt:List (Nat×TI)):Nat->TypeId->List Cell->List Cell->Option Bool
 |0,_,_,_=>none
 |d+1,t,xs,ys=>match aI tt t with
  |none=>none
  |some i=>match i.desc with
   | .int _=>match xs,ys with
    | [.raw (.int k a)],[.raw (.int k' b)]=>if k=k' then some (a==b) else none
    |_,_=>none
   | .bool=>match xs,ys with
    | [.raw (.bool a)],[.raw (.bool b)]=>some (a==b)
    |_,_=>none
   | .string=>match xs,ys with
    | [.raw (.string a)],[.raw (.string b)]=>some (a==b)
    |_,_=>none
   | .struct fs=>eqFields tt (eqE tt d) fs.toList xs ys
   | .array n e=>match aI tt e with
    |some ei=>Du (eqE tt d) e ei.size n 0 xs ys
    |none=>none
   |_=>none
def fJ (nm:Nat):List cm->List Cell×List aF
 | []=>([],[])
 | .flat v::r=>match fJ nm r with|(cs,os)=>(.raw v::cs,os)
 | .sl u l::r=>match fJ (nm+1) r with|(cs,os)=>(.full nm::cs,.row u l 0::os)
def cH (t:Ty) (l:List t.T) (j k size:Nat):List cm:=((t.aU (gd t l j)).drop k).take size
def ju:(t:Ty)->List cm->Option (t.T×List cm)
 | .int k,cs=>match cs with
  | .flat (.int k' n)::r=>if k=k' then some (n,r) else none
  |_=>none
 | .bool,cs=>match cs with
  | .flat (.bool b)::r=>some (b,r)
  |_=>none
 | .str,cs=>match cs with
  | .flat (.string s)::r=>some (s,r)
  |_=>none
 | .prod a b,cs=>match ju a cs with
  |some (x,r)=>match ju b r with
   |some (y,r')=>some ((x,y),r')
   |none=>none
  |none=>none
 | .sl u,cs=>match cs with
  | .sl u' l::r=>match iw u' u l with
   |some l'=>some (l',r)
   |none=>none
  |_=>none
def fD:List Cell->Option (List cm)
 | []=>some []
 | .raw v::r=>match v with
  | .int _ _=>(fD r).map (.flat v:: ·)
  | .bool _=>(fD r).map (.flat v:: ·)
  | .string _=>(fD r).map (.flat v:: ·)
  |_=>none
 |_=>none
def fk (n s:Nat):Option Nat->Nat
 |some m=>min m (n- s)
 |none=>n- s
def mz {α:Type} (l:List α) (s:Nat):Option Nat->List α
 |none=>l.drop s
 |some m=>(l.drop s).take m
def akj (dec:List Cell->Option (List cm×List Nat×List Nat)) (size:Nat) (u:Ty):Nat->List Cell->Option (List u.T×List Nat×List Nat)
 |0,_=>some ([],[],[])
 |n+1,cs=>match dec (cs.take size) with
  |some (ps,tc,ab)=>match ju u ps with
   |some (x,[])=>match akj dec size u n (cs.drop size) with
    |some (l,yw,ab')=>some (x::l,tc++yw,ab++ab')
    |none=>none
   |_=>none
  |none=>none
def xF {α:Type} (dec:List Cell->Option (α×List Cell×List Nat)):Nat->List Cell->Option (List α×List Nat)
 |0,_=>some ([],[])
 |n+1,cs=>match dec cs with
  |some (x,r,tc)=>match xF dec n r with
   |some (l,yw)=>some (x::l,tc++yw)
   |none=>none
  |none=>none
def cj (hp:HP):(t:Ty)->List Cell->Option (t.T×List Cell×List Nat)
 | .int k,cs=>match cs with
  | .raw (.int k' n)::r=>if k=k' then some (n,r,[]) else none
  |_=>none
 | .bool,cs=>match cs with
  | .raw (.bool b)::r=>some (b,r,[])
  |_=>none
 | .str,cs=>match cs with
  | .raw (.string s)::r=>some (s,r,[])
  |_=>none
 | .prod a b,cs=>match cj hp a cs with
  |some (x,r,tc)=>match cj hp b r with
   |some (y,r',yw)=>some ((x,y),r',tc++yw)
   |none=>none
  |none=>none
 | .sl u,cs=>match cs with
  | .raw (.slice none 0 _)::r=>some (([]:List u.T),r,[])
  | .full n::r=>match hp n with
   |some (.row t l _)=>match iw t u l with
    |some l'=>some (l',r,[n])
    |none=>none
   |some (.alias m s q)=>match hp m with
    |some (.row t l _)=>match iw t u l with
     |some l'=>some (mz l' s q,r,[n,m])
     |none=>none
    |_=>none
   |some (.dp t l c _ kn)=>match kn,hp c with
    |true,some (.set _)=>match iw t u l with
     |some l'=>some (l',r,[n,c])
     |none=>none
    |_,_=>none
   |_=>none
  | .sl n off len cap::r=>if u.shallow&&decide (len<=cap) then (match hp n with
   |some (.cells cs _)=>match xF (cj hp u) len (cs.drop off) with
    |some (l,tc)=>some (l,r,n::tc)
    |none=>none
   |_=>none) else none
  |_=>none
def x6 (hp:HP):Ty->List Cell->Option (List Nat×Bool×List Cell)
 | .prod a b,cs=>match x6 hp a cs with
  |some (ns,f,r)=>match x6 hp b r with
   |some (ns',f',r')=>some (ns++ns',f&&f',r')
   |none=>none
  |none=>none
 | .sl u,cs=>if u.flat then (match cs with
  | .raw (.slice none 0 _)::r=>some ([],true,r)
  | .full n::r=>match hp n with
   |some (.row _ _ rk)=>if rk=0 then some ([],false,r) else some ([n],true,r)
   |some (.alias m _ _)=>match hp m with
    |some (.row _ _ rk)=>if rk=0 then some ([],false,r) else none
    |_=>none
   |_=>none
  | .sl n _ _ _::r=>match hp n with
   |some (.cells _ _)=>some ([n],true,r)
   |_=>none
  |_=>none) else none
 |_,cs=>match cs with
  |_::r=>some ([],true,r)
  | []=>none
def RA (hp:HP) (u:Ty):Nat->List Cell->Option (List Nat×Bool)
 |0,_=>some ([],true)
 |n+1,cs=>match x6 hp u cs with
  |some (ns,f,r)=>match RA hp u n r with
   |some (ns',f')=>some (ns++ns',f&&f')
   |none=>none
  |none=>none
def jl:List Cell->Option (List Int)
 | []=>some []
 | .raw (.int .i64 n)::r=>match jl r with
  |some l=>some (n::l)
  |none=>none
 |_=>none
def qM:List cm->Option (List Int)
 | []=>some []
 | .flat (.int .i64 n)::r=>match qM r with
  |some l=>some (n::l)
  |none=>none
 |_=>none
def Rg:Ty->Bool
 | .int .i64=>true
 | .prod a b=>Rg a&&Rg b
 |_=>false
def adT (hp:Nat->Option aF) (n:Nat):Bool:=match hp n with
 |some (.row t _ _)=>Rg t
 |_=>false
def x9 (off:Nat) (y:Int):Nat->List Int->List Int
 |_,[]=> []
 |q,n::r=>(bif Nat.beq off q then y else n)::x9 off y (q+1) r
def sq (off:Nat):List Int->List Int->List Int
 | [],ns=>ns
 |y::r,ns=>sq (off+1) r (x9 off y 0 ns)
def pS (ns:List Int) (off:Nat):Nat->List Cell
 |0=> []
 |m+1=> .raw (.int .i64 (ns.getD off 0))::pS ns (off+1) m
def ai (h:List aF) (n:Nat):Option aF:=match h[n]? with
 |some .gone=>none
 |o=>o
def gY (hp:HP):Nat->List aF
 |0=> []
 |n+1=>gY hp n++ [match hp n with|some o=>o|none=> .gone]
def Lx (hp:HP) (h:List aF):Nat->List (Nat×aF)
 |0=> []
 |n+1=>match hp n with
  |some _=>Lx hp h n++ [(n,match h[n]? with|some o=>o|none=> .gone)]
  |none=>Lx hp h n
def yP (hp:HP) (nm:Nat) (h:List aF) (v:AV):Rec:= {val:=v,fresh:=(h.set nm .gone).drop nm,writes:=Lx hp h nm,aD:=List.range nm}
def pE (o:Option aF) (ρ:Env) (n:Nat) (K:Prop):Prop:=match o with
 |some (.cw ρ' n')=>ρ'=ρ/\ n'=n/\ K
 |_=>False
section
variable (ctx:Ctx)
def zA (i:TI) (cs:List Cell) (n off:Nat) (k:Rec->Prop):Prop:=
 if dc i.desc then (if off+i.size<=cs.length then k {val:= .v (.agg ((cs.drop off).take i.size)),aD:= [n]} else False)
 else match cs[off]? with
  |some c=>k {val:= .v (.one c),aD:= [n]}
  |none=>False
def pG (i:TI) (x:AV) (hp:HP) (nm:Nat) (k:Rec->Prop):Prop:=
 match x with
 | .v (.one (.ptr n off))=>match hp n with
  |some (.cells cs _)=>zA i cs n off k
  |_=>False
 | .v (.one (.lY n off))=>match hp n with
  |some (.cells cs _)=>match jl cs with
   |some ns=>ob (decide (off+i.size<=cs.length)) (match uI i.desc (pS ns off i.size) with
    |some v=>k {val:=v,aD:= [n]}
    |none=>False)
   |none=>False
  |_=>False
 | .v (.one (.cW n j q))=>match hp n with
  |some (.row t l _)=>if q+i.size<=t.size then ob (decide (j<l.length)) (match fJ nm (cH t l j q i.size) with
   |(cs,os)=>match uI i.desc cs with
    |some v=>k {val:=v,fresh:=os,aD:= [n]}
    |none=>False) else False
  |some (.gv _ c _ t _ l)=>match hp c with
   |some (.set _)=>if q+i.size<=t.size then ob (decide (j<l.length)) (match fJ nm (cH t l j q i.size) with
    |(cs,_)=>match uI i.desc cs with
     |some v=>k {val:=v,aD:= [n,c]}
     |none=>False) else False
   |_=>False
  |some (.rc cs)=>if j=0 then zA i cs n q k else False
  |_=>False
 | .v (.one (.fB n j q))=>match hp n with
  |some (.row t l _)=>match qM (t.aU (gd t l j)) with
   |some ns=>ob (decide (q+i.size<=t.size)) (ob (decide (j<l.length)) (match uI i.desc (pS ns q i.size) with
    |some v=>k {val:=v,aD:= [n]}
    |none=>False))
   |none=>False
  |_=>False
 |_=>False
def R9 (t:Ty) (l:List t.T) (rk n j q:Nat) (ys:List Cell) (hp:HP) (k:Rec->Prop):Prop:=match ys with
 | [.full m]=>match hp m with
  |some (.row u lm rm)=>if rm=0\/ rk=3\/ m=n\/ u.flat=false\/ t.size<q+1 then False else (match ju t (setCells (t.aU (gd t l j)) q [.sl u lm]) with
   |some (x',[])=>ob (decide (j<l.length)) (True/\ ∀l',l'=l.set j x'->k {val:=ck,writes:= [(n,.row t l' rk),(m,.gone)],aD:= [n,m]})
   |_=>False)
  |_=>False
 |_=>False
def oG (i:TI) (x y:AV) (hp:HP) (k:Rec->Prop):Prop:=
 match x,y.cells with
 | .v (.one (.ptr n off)),some ys=>if ys.length=i.size then (if nX ys then
   match hp n with
   |some (.cells cs e)=>if off+ys.length<=cs.length then k {val:=ck,writes:= [(n,.cells (setCells cs off ys) e)],aD:= [n]} else False
   |_=>False
   else False) else False
 | .v (.one (.lY n off)),some ys=>if ys.length=i.size then (match hp n with
   |some (.cells cs e)=>match jl cs,jl ys with
    |some ns,some ms=>ob (decide (off+ys.length<=cs.length)) (k {val:=ck,writes:= [(n,.cells ((sq off ms ns).map fun q=> .raw (.int .i64 q)) e)],aD:= [n]})
    |_,_=>False
   |_=>False) else False
 | .v (.one (.cW n j q)),some ys=>if ys.length=i.size then (match hp n with
   |some (.row t l rk)=>if rk=0\/ rk=3 then False else match fD ys with
    |some ps=>if q+ps.length<=t.size then (match ju t (setCells (t.aU (gd t l j)) q ps) with
     |some (x',[])=>ob (decide (j<l.length)) (True/\ ∀l',l'=l.set j x'->k {val:=ck,writes:= [(n,.row t l' rk)],aD:= [n]})
     |_=>False) else False
    |none=>R9 t l rk n j q ys hp k
   |_=>False) else False
 | .v (.one (.fB n j q)),some ys=>if ys.length=i.size then (match hp n with
   |some (.row t l rk)=>if rk=0\/ rk=3 then False else match jl ys,qM (t.aU (gd t l j)) with
    |some ms,some ns=>(match ju t ((sq q ms ns).map fun m=> .flat (.int .i64 m)) with
     |some (x',[])=>ob (decide (q+ys.length<=t.size)) (ob (decide (j<l.length)) (True/\ ∀l',l'=l.set j x'->k {val:=ck,writes:= [(n,.row t l' rk)],aD:= [n]}))
     |_=>False)
    |_,_=>False
   |_=>False) else False
 |_,_=>False
def kM (v:Value):List Cell:=v.cells.toList.map .raw
def RI (fs:Array Field) (j:Nat):Option (Nat×Nat):=match fs[j]? with
 |some f=>(match aI ctx.tt f.type with|some fi=>some (f.offset,fi.size)|none=>none)
 |none=>none
def Qi (i:TI) (parts:List (Nat×Operand)) (ev:Operand->AV) (k:Rec->Prop):Prop:=
 match i.desc with
 | .struct fs=>if fs.toList.all (fun f=>(aI ctx.tt f.type).isSome) then
   match wW (RI ctx fs) ev (kM i.zero) parts with
   |some cs=>k {val:= .v (.agg cs)}
   |none=>False
   else False
 | .array _ e=>match aI ctx.tt e with
  |some ei=>match wW (fun j=>some (j*ei.size,ei.size)) ev (kM i.zero) parts with
   |some cs=>k {val:= .v (.agg cs)}
   |none=>False
  |none=>False
 |_=>False
def tn (i:TI) (len:Nat) (parts:List (Nat×Operand)) (ev:Operand->AV) (nm:Nat) (k:Rec->Prop):Prop:=
 match i.desc with
 | .slice e=>match aI ctx.tt e with
  |some ei=>if len*ei.size>2^24 then False else if len*ei.size=0 then False else
   match wW (fun j=>some (j*ei.size,ei.size)) ev ((List.range (len*ei.size)).map fun j=> .raw (ei.zero.cells[j % ei.zero.cells.size]!)) parts with
   |some cs=>k {val:= .v (.one (.sl nm 0 len len)),fresh:= [.cells cs e]}
   |none=>False
  |none=>False
 |_=>False
def dN (hp:HP) (n:Nat) (k:Prop):Prop:=match hp n with
 |some (.cells _ _)=>k
 |_=>False
def kK (hp:HP) (n j:Nat) (k:Ty->Prop):Prop:=match hp n with
 |some (.row t l _)=>ob (decide (j<l.length)) (k t)
 |some (.gv _ _ _ t _ l)=>ob (decide (j<l.length)) (k t)
 |some (.dp t l _ _ _)=>ob (decide (j<l.length)) (k t)
 |_=>False
def Zv (hp:HP) (n:Nat):Bool:=match hp n with
 |some (.rc (_::_))=>true
 |_=>false
def B1 (hp:HP) (p:Nat) (k:(n:Nat)->Option Nat->Option Nat->Nat->List Nat->Prop):Prop:=match hp p with
 |some (.row _ l _)=>k p none none l.length [p]
 |some (.gv _ _ _ _ _ l)=>k p none none l.length [p]
 |some (.dp _ l _ _ _)=>k p none none l.length [p]
 |some (.alias n s q)=>match hp n with
  |some (.row _ l _)=>k n (some s) q (fk l.length s q) [p,n]
  |_=>False
 |_=>False
def gu:Option Nat->Nat->Nat
 |none,j=>j
 |some s,j=>s+j
def ld (i:TI) (x:AV) (f:Nat) (hp:HP) (k:Rec->Prop):Prop:=
 match i.desc with
 | .struct fs=>match fs[f]? with
  |some fd=>match aI ctx.tt fd.type with
   |some fi=>if fi.size=0 then False else match x with
    | .v (.one (.ptr n off))=>dN hp n (k {val:= .v (.one (.ptr n (off+fd.offset))),aD:= [n]})
    | .v (.one (.lY n off))=>dN hp n (k {val:= .v (.one (.lY n (off+fd.offset))),aD:= [n]})
    | .v (.one (.cW n j q))=>(match Zv hp n with
     |true=>k {val:= .v (.one (.cW n j (q+fd.offset))),aD:= [n]}
     |false=>kK hp n j fun _=>k {val:= .v (.one (.cW n j (q+fd.offset))),aD:= [n]})
    | .v (.one (.fB n j q))=>kK hp n j fun _=>k {val:= .v (.one (.fB n j (q+fd.offset))),aD:= [n]}
    |_=>False
   |none=>False
  |none=>False
 |_=>False
def Jx (i:TI) (cs:List Cell) (off:Nat) (k:Rec->Prop):Prop:=
 if dc i.desc then (if off+i.size<=cs.length then k {val:= .v (.agg ((cs.drop off).take i.size))} else False)
 else match cs[off]? with
  |some c=>k {val:= .v (.one c)}
  |none=>False
def Qx (i:TI) (x:AV) (f:Nat) (k:Rec->Prop):Prop:=
 match i.desc,x with
 | .struct fs,.v (.agg cs)=>match fs[f]? with
  |some fd=>match aI ctx.tt fd.type with
   |some fi=>Jx fi cs fd.offset k
   |none=>False
  |none=>False
 |_,_=>False
def Zt (hp:HP) (n:Nat):Bool:=match hp n with
 |some (.cells cs _)=>(jl cs).isSome
 |_=>false
def Zj (j:Int) (n:Nat):Bool:=decide (0<=j)&&decide (j<(n:Int))
def aiX (hp:HP) (n:Nat):Bool:=match hp n with
 |some (.cells cs _)=>cs.any fun c=>match c with| .iT _ _ _=>true|_=>false
 |_=>false
def Md (j:Int) (K:Nat->Prop):Nat->Prop
 |0=>K 0
 |i+1=>cB (decide (j=((i+1:Nat):Int))) (K (i+1)) (Md j K i)
def xR (i:TI) (x ix:AV) (lit:Bool) (hp:HP) (k:Rec->Prop):Prop:=
 match ix with
 | .v (.one (.raw (.int _ j)))=>match i.desc with
  | .array n e=>match aI ctx.tt e with
   |some ei=>match x with
    | .v (.one (.ptr m off))=>ob (Zj j n) (dN hp m (if !lit&&Zt hp m then k {val:= .v (.one (.lY m (off+j.toNat*ei.size))),aD:= [m]} else if !lit&&aiX hp m then Md j (fun q=>k {val:= .v (.one (.ptr m (off+q*ei.size))),aD:= [m]}) (n- 1) else k {val:= .v (.one (.ptr m (off+j.toNat*ei.size))),aD:= [m]}))
    | .v (.one (.lY m off))=>ob (Zj j n) (dN hp m (k {val:= .v (.one (.lY m (off+j.toNat*ei.size))),aD:= [m]}))
    | .v (.one (.cW m jj q))=>ob (Zj j n) (kK hp m jj fun _=>if !lit&&adT hp m then k {val:= .v (.one (.fB m jj (q+j.toNat*ei.size))),aD:= [m]} else k {val:= .v (.one (.cW m jj (q+j.toNat*ei.size))),aD:= [m]})
    | .v (.one (.fB m jj q))=>ob (Zj j n) (kK hp m jj fun _=>k {val:= .v (.one (.fB m jj (q+j.toNat*ei.size))),aD:= [m]})
    |_=>False
   |none=>False
  | .slice e=>match aI ctx.tt e with
   |some ei=>match x with
    | .v (.one (.sl m off len _))=>ob (Zj j len) (dN hp m (if Nat.beq len 1 then k {val:= .v (.one (.ptr m off)),aD:= [m]} else if !lit&&Zt hp m then k {val:= .v (.one (.lY m (off+j.toNat*ei.size))),aD:= [m]} else k {val:= .v (.one (.ptr m (off+j.toNat*ei.size))),aD:= [m]}))
    | .v (.one (.full p))=>B1 hp p fun m s _ len tc=>ob (Zj j len) (kK hp m (gu s j.toNat) fun t=>if ei.size=t.size then k {val:= .v (.one (.cW m (gu s j.toNat) 0)),aD:=tc} else False)
    | .v (.one (.raw (.slice none 0 _)))=>ob (Zj j 0) False
    |_=>False
   |none=>False
  |_=>False
 |_=>False
def Q5 (i:TI) (x ix:AV) (lit:Bool) (k:Rec->Prop):Prop:=
 match ix with
 | .v (.one (.raw (.int _ j)))=>match i.desc,x with
  | .array n e,.v (.agg cs)=>match aI ctx.tt e with
   |some ei=>ob (Zj j n) (if lit then Jx ei cs (j.toNat*ei.size) k else match jl cs with
    |some ns=>if cs.length=n*ei.size then (match uI ei.desc (pS ns (j.toNat*ei.size) ei.size) with
     |some v=>k {val:=v}
     |none=>False) else False
    |none=>Jx ei cs (j.toNat*ei.size) k)
   |none=>False
  | .string,.v (.one (.raw (.string s)))=>ob (Zj j s.size) (k {val:=gp .u8 (s.get! j.toNat).toNat})
  |_,_=>False
 |_=>False
def rA (b:Option AV) (top dflt:Nat) (k:Nat->Prop):Prop:=
 match b with
 |none=>k dflt
 |some (.v (.one (.raw (.int _ j))))=>ob (decide (0<=j)&&decide (j<=(top:Int))) (k j.toNat)
 |_=>False
def Sm (hp:HP) (n es:Nat) (k:Prop):Prop:=match hp n with
 |some (.row t _ _)=>if es=t.size then k else False
 |_=>False
def DW (hp:HP) (p:Nat):Option (List Int):=match hp p with
 |some (.row (.int .i64) l 3)=>some l
 |_=>none
def R1 (i:TI) (x:AV) (lo hi mx:Option AV) (hp:HP) (nm:Nat) (k:Rec->Prop):Prop:=
 match i.desc with
 | .array n e=>match aI ctx.tt e,x,mx with
  | some ei,.v (.one (.ptr m off)),none=>rA hi n n fun h=>rA lo h 0 fun l=>
    dN hp m (k {val:= .v (.one (.sl m (if n=l then off else off+l*ei.size) (h- l) (n- l))),aD:= [m]})
  |_,_,_=>False
 | .slice e=>match aI ctx.tt e,x with
  | some ei,.v (.one (.sl m off len cap))=>rA mx cap cap fun c=>rA hi (if mx.isSome then c else cap) len fun h=>rA lo h 0 fun l=>
    if mx.isSome&&hi.isNone then False else k {val:= .v (.one (.sl m (if c=l then off else off+l*ei.size) (h- l) (c- l)))}
  |some ei,.v (.one (.full p))=>B1 hp p fun m s q len tc=>Sm hp m ei.size (match mx with
   |none=>match hi with
    |none=>match DW hp p with
     |some l0=>rA lo l0.length 0 fun j=>k {val:= .v (.one (.full nm)),fresh:= [.row (.int .i64) (l0.drop j) 3],writes:= [(p,.gone)],aD:= [p]}
     |none=>rA lo len 0 fun l=>k {val:= .v (.one (.full nm)),fresh:= [.alias m (gu s l) (q.map fun _=>len- l)],aD:=tc}
    |some _=>match DW hp p,lo with
     |some l0,none=>rA hi l0.length l0.length fun h=>k {val:= .v (.one (.full nm)),fresh:= [.row (.int .i64) (l0.take h) 3],writes:= [(p,.gone)],aD:= [p]}
     |_,_=>rA hi len len fun h=>rA lo h 0 fun l=>k {val:= .v (.one (.full nm)),fresh:= [.alias m (gu s l) (some (h- l))],aD:=tc}
   |some _=>rA mx len len fun c=>rA hi c 0 fun h=>rA lo h 0 fun l=>if hi.isNone then False else k {val:= .v (.one (.full nm)),fresh:= [.alias m (gu s l) (some (h- l))],aD:=tc})
  |some _,.v (.one (.raw (.slice none 0 c)))=>match mx with
   |none=>rA hi 0 0 fun h=>rA lo h 0 fun l=>if h=0/\ l=0/\ c=0 then k {val:= .v (.one (.raw (.slice none 0 0)))} else False
   |some _=>False
  |_,_=>False
 | .string=>match x,mx with
  | .v (.one (.raw (.string s))),none=>rA hi s.size s.size fun h=>rA lo h 0 fun l=>k {val:= .v (.one (.raw (.string (s.extract l h))))}
  |_,_=>False
 |_=>False
def yx:A0->Option Value
 | .one (.raw v)=>some v
 | .one _=>none
 | .agg cs=>(FV cs).map fun l=> .agg l.toArray
where FV:List Cell->Option (List Value)
 | []=>some []
 | .raw v::r=>(FV r).map (v:: ·)
 |_::_=>none
def aa0:AV->Option Value
 | .v a=>yx a
 |_=>none
def G0:List AV->Option (List Value)
 | []=>some []
 |x::r=>match aa0 x,G0 r with
  |some v,some l=>some (v::l)
  |_,_=>none
def aa1:AV->Option Ref
 | .v (.one (.ptr n off))=>some (.loc n off)
 | .v (.one (.cW n j 0))=>some (.elem n j)
 | .v (.one (.raw v))=>some (.ext v)
 | .v (.one (.full n))=>some (.full n)
 | .v (.one (.mp n))=>some (.mp n)
 |_=>none
def G3:List AV->Option (List Ref)
 | []=>some []
 |x::r=>match aa1 x,G3 r with
  |some v,some l=>some (v::l)
  |_,_=>none
def zH:Ref->AV
 | .ext v=>ofV v
 | .loc n off=> .v (.one (.ptr n off))
 | .elem n j=> .v (.one (.cW n j 0))
 | .full n=> .v (.one (.full n))
 | .mp n=> .v (.one (.mp n))
def Dt:Cell->Option Ref
 | .ptr n off=>some (.loc n off)
 | .cW n j 0=>some (.elem n j)
 | .raw v=>if uL v then some (.ext v) else none
 | .full n=>some (.full n)
 | .mp n=>some (.mp n)
 |_=>none
def tp:List Cell->Option (List Ref)
 | []=>some []
 |c::r=>match Dt c,tp r with
  |some x,some l=>some (x::l)
  |_,_=>none
def RP:AV->Option (Bool×List Ref)
 | .v (.agg cs)=>match tp cs with
  |some l=>some (true,l)
  |none=>none
 | .v (.one c)=>match Dt c with
  |some r=>some (false,[r])
  |none=>none
 |_=>none
def zP:Ref->Cell
 | .ext v=> .raw v
 | .loc n off=> .ptr n off
 | .elem n j=> .cW n j 0
 | .full n=> .full n
 | .mp n=> .mp n
def Ov (agg:Bool) (rs:List Ref):AV:=match agg with
 |true=> .v (.agg (rs.map zP))
 |false=>match rs with
  | [r]=> .v (.one (zP r))
  |_=> .nC []
def qh (ev:Operand->AV):List Operand->List AV
 | []=> []
 |x::r=>ev x::qh ev r
def aY (x y:Int):Int:=if y<x then y else x
def aT (x y:Int):Int:=if y>x then y else x
def vM (f:Int->Int->Int):Int->List AV->Option Int
 |a,[]=>some a
 |a,.v (.one (.raw (.int _ b)))::r=>vM f (f a b) r
 |_,_=>none
def KR (i:Option Ty) (x:AV) (hp:HP) (k:(t:Ty)->List t.T->Nat->List Nat->Nat->List Nat->Prop):Prop:=
 match x with
 | .v (.one (.raw (.slice none 0 0)))=>match i with
  |some t=>k t [] 2 [] 0 []
  |none=>False
 | .v (.one (.full n))=>match hp n with
  |some (.row t l rk)=>if rk=0 then False else k t l rk [n] 0 []
  |_=>False
 | .v (.one (.sl n _ 0 c))=>match i with
  |some t=>match hp n with
   |some (.cells _ _)=>k t [] 3 [] c [n]
   |_=>False
  |none=>False
 |_=>False
def oO (rk:Nat) (f:Bool):Nat:=match f with
 |true=>rk
 |false=>match rk with
  |3=>3
  |_=>1
def eB:List Nat->Bool
 | []=>true
 |x::r=> !r.contains x&&eB r
def A6 (hp:HP) (t:Ty) (y:AV):Option (List Nat×Bool):=if t.flat then some ([],true) else
 match y with
 | .v (.one (.sl n off len _))=>match hp n with
  |some (.cells cs _)=>RA hp t len (cs.drop off)
  |_=>none
 | .v (.one (.full n))=>match hp n with
  |some (.row _ _ rk)=>if rk=2 then some ([],true) else some ([],false)
  |some (.alias _ _ _)=>some ([],false)
  |_=>none
 | .v (.one (.raw (.slice none 0 _)))=>some ([],true)
 |_=>none
def KT (x y:AV) (ei:TI) (hp:HP) (nm:Nat) (k:Rec->Prop):Prop:=
 KR ei.ty x hp fun t l rk gone c tb=>if ei.size=t.size/\ ei.bytes<=128/\ (kM ei.zero).length=ei.size then
  match y with
  | .v (.one yc)=>match cj hp (.sl t) [yc] with
   |some (ys,[],tc)=>match A6 hp t y with
    |some (ab,f)=>if eB (gone++ab)&&(Nat.ble c 0||Nat.blt c ys.length) then ob (decide (l.length+ys.length<1099511627776)) (k {val:= .v (.one (.full nm)),fresh:= [.row t (l++ys) (oO rk f)],writes:=(gone++ab).map fun n=>(n,.gone),aD:=gone++ab++tc++tb}) else False
    |none=>False
   |_=>False
  |_=>False
 else False
def o8 (a b:Nat):Nat:=Nat.min b a
def ja {α:Type} (l:List α) (s d:Nat) (ys:List α):List α:=l.take s++ys.take (o8 d ys.length)++l.drop (s+o8 d ys.length)
def X8 (x y:AV) (ei:TI) (hp:HP) (k:Rec->Prop):Prop:=match x,y with
 | .v (.one (.full p)),.v (.one yc)=>B1 hp p fun n s _ len tc=>match hp n with
  |some (.row t l rk)=>if (rk≠0/\ rk≠3)/\ t.flat=true/\ ei.size=t.size then (match cj hp (.sl t) [yc] with
   |some (ys,[],yw)=>True/\ ∀l',l'=ja l (gu s 0) len ys->k {val:=gp .i64 (o8 len ys.length:Nat),writes:= [(n,.row t l' rk)],aD:=n::(tc++yw)}
   |_=>False) else False
  |_=>False
 |_,_=>False
def Ew (b:Builtin) (tys:List TypeId) (args:List AV) (hp:HP) (nm:Nat) (k:Rec->Prop):Prop:=
 match b,args with
 | .len,[x]=>match tys with
  |t::_=>match aI ctx.tt t with
   |some i=>match i.desc,x with
    | .slice _,.v (.one (.sl _ _ len _))=>k {val:=gp .i64 len}
    | .slice _,.v (.one (.full p))=>B1 hp p fun _ _ _ len tc=>k {val:=gp .i64 len,aD:=tc}
    | .slice _,.v (.one (.raw (.slice _ len _)))=>k {val:=gp .i64 len}
    | .string,.v (.one (.raw (.string s)))=>k {val:=gp .i64 s.size}
    |_,_=>False
   |none=>False
  | []=>False
 | .min,.v (.one (.raw (.int kk a)))::r=>match vM aY a r with
  |some n=>k {val:=gp kk n}
  |none=>False
 | .max,.v (.one (.raw (.int kk a)))::r=>match vM aT a r with
  |some n=>k {val:=gp kk n}
  |none=>False
 | .append,[x,y]=>match tys with
  | [t,t']=>match aI ctx.tt t,aI ctx.tt t' with
   |some i,some i'=>match i.desc,i'.desc with
    | .slice e,.slice _=>match aI ctx.tt e with
     |some ei=>KT x y ei hp nm k
     |none=>False
    |_,_=>False
   |_,_=>False
  |_=>False
 | .copy,[x,y]=>match tys with
  | [t,_]=>match aI ctx.tt t with
   |some i=>match i.desc with
    | .slice e=>match aI ctx.tt e with
     |some ei=>X8 x y ei hp k
     |none=>False
    |_=>False
   |none=>False
  |_=>False
 |_,_=>False
def lq (i:TI) (x y:AV) (nm:Nat) (k:Rec->Prop):Prop:=
 match i.desc,x,y with
 | .slice e,.v (.one (.raw (.int .i64 n))),.v (.one (.raw (.int .i64 c)))=>match aI ctx.tt e with
  |some ei=>match ei.ty with
   |some t=>if t.flat/\ ei.size=t.size/\ ei.bytes<=128/\ (kM ei.zero).length=ei.size then (match cj (fun _=>none) t (kM ei.zero) with
    |some (z,[],_)=>ob (decide (0<=n)&&decide (n<=c)&&decide (c.toNat<1099511627776)) (k {val:= .v (.one (.full nm)),fresh:= [.row t (List.replicate n.toNat z) 2]})
    |_=>False) else False
   |none=>False
  |none=>False
 |_,_,_=>False
def Oq (t:Ty) (x:t.T):List Cell:=(t.aU x).map fun c=> .raw (bK c)
def X4:Cell->Option (FuncId×List AV×List AV)
 | .iT (.func g) first cap=>some (g,first.map ofV,cap.map zH)
 | .mv g agg rs=>some (g,[Ov agg rs],[])
 |_=>none
def Iu (c:Call) (ev:Operand->AV) (hp:HP) (nm:Nat) (k:Rec->Prop):Prop:=
 match c.callee with
 | .builtin b=>Ew ctx b c.argTypes.toList (qh ev c.args.toList) hp nm k
 | .value f=>match ev f with
  | .v (.one q)=>match X4 q with
   |some (g,fs,cs)=>match aI ctx.specs g with
    |some s=>s ctx.X (fs++qh ev c.args.toList++cs) hp nm k
    |none=>match aI ctx.its g with
     |some Rh=> ∀aX:Env,Rh [] (fs++qh ev c.args.toList++cs) (gY hp nm++ [.cw aX nm]) fun v st=>pE (ai st.heap nm) aX nm (k (yP hp nm st.heap v))
     |none=>False
   |none=>match q with
    | .raw (.func (.func g) first cap)=>match aI ctx.specs g with
     |some s=>s ctx.X (first.toList.map ofV++qh ev c.args.toList++cap.toList.map ofV) hp nm k
     |none=>False
    | .HA n=>match aI ctx.ys n with
     |some s=>s ctx.X (qh ev c.args.toList) hp nm k
     |none=>False
    |_=>False
  |_=>False
 |_=>False
def abW (tt:List (Nat×TI)) (t:TypeId):Bool:=match aI tt t with|some i=>dc i.desc|none=>false
def afp (op:BinOp) (t:TypeId) (x y:AV) (k:Rec->Prop):Prop:=
 match x,y with
 | .v (.one (.raw (.int kk a))),.v (.one (.raw (.int k' b)))=>match op with
  | .shl=>ob (decide (0<=b)) (k {val:=gp kk (kk.wrap (a*2^(min b.toNat kk.bits)))})
  | .shr=>ob (decide (0<=b)) (k {val:=gp kk (a.fdiv (2^(min b.toNat kk.bits)))})
  |op=>if kk=k' then Rb op kk a b k else False
 | .v (.one (.raw (.bool a))),.v (.one (.raw (.bool b)))=>match op with
  | .eql=>match aI ctx.tt t with|some i=>(match i.desc with| .bool=>k {val:=bG (a==b)} |_=>False)|none=>False
  | .neq=>match aI ctx.tt t with|some i=>(match i.desc with| .bool=>k {val:=bG (!(a==b))} |_=>False)|none=>False
  |_=>False
 | .v (.one (.raw (.string a))),.v (.one (.raw (.string b)))=>match op with
  | .eql=>k {val:=bG (a==b)}
  | .neq=>k {val:=bG (a !=b)}
  | .add=>ob (decide (a.size+b.size<4611686018427387904)) (k {val:= .v (.one (.raw (.string (a++b))))})
  |_=>False
 | .v (.agg xs),.v (.agg ys)=>match op with
  | .eql=>match abW ctx.tt t,eqE ctx.tt 20 t xs ys with|true,some b=>k {val:=bG b} |_,_=>False
  | .neq=>match abW ctx.tt t,eqE ctx.tt 20 t xs ys with|true,some b=>k {val:=bG (!b)} |_,_=>False
  |_=>False
 | .v (.one (.raw (.slice a _ _))),.v (.one (.raw (.slice none _ _)))=>match aI ctx.tt t with
  |some i=>match i.desc,op with
   | .slice _,.eql=>k {val:=bG a.isNone}
   | .slice _,.neq=>k {val:=bG (!a.isNone)}
   |_,_=>False
  |none=>False
 |_,_=>False
def agu:AV->Bool
 | .v (.one (.ptr _ _))=>true
 | .v (.one (.raw (.pointer _)))=>true
 |_=>false
def agS (op:BinOp) (t:TypeId) (x y:AV) (hp:HP) (k:Rec->Prop):Prop:=match x,y with
 | .v (.one (.ptr n _)),.v (.one (.raw (.pointer none)))=>match aI ctx.tt t with
  |some i=>match i.desc,op with
   | .pointer _,.eql=>dN hp n (k {val:=bG false,aD:= [n]})
   | .pointer _,.neq=>dN hp n (k {val:=bG true,aD:= [n]})
   |_,_=>False
  |none=>False
 | .v (.one (.raw (.pointer a))),.v (.one (.raw (.pointer none)))=>match aI ctx.tt t with
  |some i=>match i.desc,op with
   | .pointer _,.eql=>k {val:=bG a.isNone}
   | .pointer _,.neq=>k {val:=bG (!a.isNone)}
   |_,_=>False
  |none=>False
 |_,_=>False
def ndB (x y:AV):Bool:= !ctx.its.isEmpty&&(match x,y with
 | .v (.one (.full _)),.v (.one (.raw (.slice none 0 0)))=>true
 |_,_=>false)
def agJ (op:BinOp) (t:TypeId) (x y:AV) (hp:HP) (k:Rec->Prop):Prop:=match x,y with
 | .v (.one (.full n)),.v (.one (.raw (.slice none 0 0)))=>match hp n,aI ctx.tt t with
  |some (.row _ l _),some i=>match i.desc,op with
   | .slice _,.eql=> ∀b:Bool,(0<l.length->b=false)->k {val:=bG b,aD:= [n]}
   | .slice _,.neq=> ∀b:Bool,(0<l.length->b=false)->k {val:=bG (!b),aD:= [n]}
   |_,_=>False
  |_,_=>False
 |_,_=>False
def DO (o:Op) (ev:Operand->AV) (hp:HP) (nm:Nat) (k:Rec->Prop):Prop:=
 match o with
 | .move x=>k {val:=ev x}
 | .assign x=>k {val:=ev x}
 | .pick c a b=>match ev c with
  | .v (.one (.raw (.bool t)))=>cB t (k {val:=ev a}) (k {val:=ev b})
  |_=>False
 | .alloc t=>match aI ctx.tt t with
  |some i=>k {val:= .v (.one (.ptr nm 0)),fresh:= [.cells (kM i.zero) t]}
  |none=>False
 | .box t x=>match (ev x).cells with
  |some xs=>k {val:= .v (.one (.ptr nm 0)),fresh:= [.cells xs t]}
  |none=>False
 | .build t parts=>match aI ctx.tt t with
  |some i=>Qi ctx i parts.toList ev k
  |none=>False
 | .buildSlice t len parts=>match aI ctx.tt t with
  |some i=>if Nat.beq len 0&&parts.toList.isEmpty then lq ctx i (.v (.one (.raw (.int .i64 0)))) (.v (.one (.raw (.int .i64 0)))) nm k else tn ctx i len parts.toList ev nm k
  |none=>False
 | .load t x=>match aI ctx.tt t with
  |some i=>pG i (ev x) hp nm k
  |none=>False
 | .store t x y=>match aI ctx.tt t with
  |some i=>oG i (ev x) (ev y) hp k
  |none=>False
 | .nilCheck x=>match ev x with
  | .v (.one (.ptr n off))=>dN hp n (k {val:= .v (.one (.ptr n off)),aD:= [n]})
  | .v (.one (.lY n off))=>dN hp n (k {val:= .v (.one (.lY n off)),aD:= [n]})
  | .v (.one (.cW n j q))=>(match Zv hp n with
   |true=>k {val:= .v (.one (.cW n j q)),aD:= [n]}
   |false=>kK hp n j fun _=>k {val:= .v (.one (.cW n j q)),aD:= [n]})
  | .v (.one (.fB n j q))=>kK hp n j fun _=>k {val:= .v (.one (.fB n j q)),aD:= [n]}
  | .v (.one (.iT (.func f) first cap))=>k {val:= .v (.one (.iT (.func f) first cap))}
  | .v (.one (.mv f agg rs))=>k {val:= .v (.one (.mv f agg rs))}
  | .v (.one (.raw (.pointer (some a))))=>k {val:= .v (.one (.raw (.pointer (some a))))}
  | .v (.one (.raw (.func (.func f) first cap)))=>k {val:= .v (.one (.raw (.func (.func f) first cap)))}
  |_=>False
 | .binOp op t x y _=>if ndB ctx (ev x) (ev y) then agJ ctx op t (ev x) (ev y) hp k else if agu (ev x) then agS ctx op t (ev x) (ev y) hp k else afp ctx op t (ev x) (ev y) k
 | .unOp u _ x=>match u,ev x with
  | .neg,.v (.one (.raw (.int kk a)))=>k {val:=gp kk (kk.wrap (0- a))}
  | .not,.v (.one (.raw (.bool b)))=>k {val:=bG (!b)}
  |_,_=>False
 | .convert s d x=>match aI ctx.tt s,aI ctx.tt d with
  |some _,some i=>match i.desc,ev x with
   | .int kk,.v (.one (.raw (.int _ a)))=>k {val:=gp kk (kk.wrap a)}
   |_,_=>False
  |_,_=>False
 | .makeFunc fn first cap=>match G0 (qh ev first.toList),G3 (qh ev cap.toList) with
  |some f,some c=>k {val:= .v (.one (.iT fn f c))}
  |_,_=>match fn,qh ev first.toList,cap.toList with
   | .func g,[r],[]=>match RP r with
    |some (agg,rs)=>k {val:= .v (.one (.mv g agg rs))}
    |none=>False
   |_,_,_=>False
 | .slice t x lo hi mx=>match aI ctx.tt t with
  |some i=>R1 ctx i (ev x) (lo.map ev) (hi.map ev) (mx.map ev) hp nm k
  |none=>False
 | .makeSlice t x y=>match aI ctx.tt t with
  |some i=>lq ctx i (ev x) (ev y) nm k
  |none=>False
 | .fieldAddr t x f=>match aI ctx.tt t with
  |some i=>ld ctx i (ev x) f hp k
  |none=>False
 | .field t x f=>match aI ctx.tt t with
  |some i=>Qx ctx i (ev x) f k
  |none=>False
 | .indexAddr t x ix=>match aI ctx.tt t with
  |some i=>xR ctx i (ev x) (ev ix) (NM ix) hp k
  |none=>False
 | .index t x ix=>match aI ctx.tt t with
  |some i=>Q5 ctx i (ev x) (ev ix) (NM ix) k
  |none=>False
 | .extract x i=>match ev x with
  | .nC l=>match l[i]? with|some a=>k {val:= .v a} |none=>False
  |_=>False
 | .call c=>Iu ctx c ev hp nm k
 |_=>False
def jf (tmps:List AV):Option Nat->AV->List AV
 |some d,v=>tmps.set d v
 |none,_=>tmps
def AS.app (st:AS) (dst:Option Nat) (r:Rec):AS:=
 {tmps:=jf st.tmps dst r.val,heap:=r.writes.foldl (fun h p=>h.set p.1 p.2) st.heap++r.fresh}
inductive Eb
 |blk
 |full (off m:Nat)
def Eb.hit:Eb->Option aF->Bool
 | .blk,some (.cells _ _)=>true
 | .full off m,some (.cells cs _)=>match cs[off]? with
  |some (.full m')=>Nat.beq m' m
  |_=>false
 |_,_=>false
def dY (o:Op) (ev:Operand->AV) (v:AV):Option (Nat×Eb):=match o with
 | .load _ x=>match ev x,v with
  | .v (.one (.ptr n off)),.v (.one (.full m))=>some (n,.full off m)
  |_,_=>none
 | .fieldAddr _ x _=>match ev x with
  | .v (.one (.ptr n _))=>some (n,.blk)
  |_=>none
 | .nilCheck x=>match ev x with
  | .v (.one (.ptr n _))=>some (n,.blk)
  |_=>none
 |_=>none
structure fR where
 nm:Nat
 cnt:Nat
 aD:List Nat
 wr:List Nat
 look:Option (Nat×Eb):=none
 ws:List (Nat×aF):= []
def Jj (o:Op) (ev:Operand->AV) (nm:Nat) (r:Rec):fR:= {nm:=nm,cnt:=r.fresh.length,aD:=r.aD,wr:=r.writes.map (·.1),look:=dY o ev r.val,ws:=r.writes}
def lN (nm:Nat):fR:= {nm:=nm,cnt:=0,aD:= [],wr:= []}
def B9 (ops:Array Oper) (j:Nat):Option Nat:=match ops[j]? with
 |some o=>o.dst
 |none=>none
def agK (o:Op) (ev:Operand->AV):Bool:=o.operands.toList.all fun x=> !(ev x).Rf
def pO (o:Op) (st:AS) (k:Rec->Prop):Prop:=if agK o (dw st.tmps) then DO ctx o (dw st.tmps) (ai st.heap) st.heap.length k else False
def nj (all:Array Oper):List Oper->List Nat->AS->List fR->(AS->List fR->Prop)->Prop
  | [],_,st,lg,K=>K st lg
  | o::rest,dec,st,lg,K=>match o.guard with
    |none=>pO ctx o.op st fun r=>nj all rest dec (st.app o.dst r) (lg++ [Jj o.op (dw st.tmps) st.heap.length r]) K
    | some (j,want)=>match B9 all j with
      | some d=>match cz st.tmps d with
        | .v (.one (.raw (.bool x)))=>
          if dec.contains d then
            (if x=want then pO ctx o.op st fun r=>nj all rest dec (st.app o.dst r) (lg++ [Jj o.op (dw st.tmps) st.heap.length r]) K
             else nj all rest dec {st with tmps:=jf st.tmps o.dst ck} (lg++ [lN st.heap.length]) K)
          else
            (match want with
             |true=>cB x (pO ctx o.op {st with tmps:=st.tmps.set d (bG true)} fun r=>nj all rest (d::dec) ({st with tmps:=st.tmps.set d (bG true)}.app o.dst r) (lg++ [Jj o.op (dw (st.tmps.set d (bG true))) st.heap.length r]) K)
                (nj all rest (d::dec) {st with tmps:=jf (st.tmps.set d (bG false)) o.dst ck} (lg++ [lN st.heap.length]) K)
             |false=>cB x (nj all rest (d::dec) {st with tmps:=jf (st.tmps.set d (bG true)) o.dst ck} (lg++ [lN st.heap.length]) K)
                (pO ctx o.op {st with tmps:=st.tmps.set d (bG false)} fun r=>nj all rest (d::dec) ({st with tmps:=st.tmps.set d (bG false)}.app o.dst r) (lg++ [Jj o.op (dw (st.tmps.set d (bG false))) st.heap.length r]) K))
        | .nC []=>nj all rest dec {st with tmps:=jf st.tmps o.dst ck} (lg++ [lN st.heap.length]) K
        |_=>False
      |none=>False
def direct (o:Oper):List Nat:=(o.after.toList.filter (Region.binds .any)).map (·.on)
def masks:List Oper->List Nat->List Nat
 | [],acc=>acc
 |o::r,acc=>masks r (acc++ [(direct o).foldl (fun s j=>s|||(2^j|||acc.getD j 0)) 0])
def IB (a b:List Nat):Bool:=a.all fun x=> !b.contains x
def zD (lg:List fR) (m:Nat):Option Nat:=lg.findIdx? fun l=>l.nm<=m&&m<l.nm+l.cnt
def kz (ops:Array Oper) (o:Oper):List Nat:=
 (o.op.operands.toList.filterMap fun| .tmp t=>some t|_=>none)++(match o.guard with|some (g,_)=>(B9 ops g).toList|none=> [])
def Rz (ops:Array Oper) (ms:List Nat) (lg:List fR) (i:Nat):Bool:=
  match ops[i]?,lg[i]? with
  | some o,some l=>
    (direct o).all (· <i)&&(l.wr.all fun m=>l.aD.contains m)&&
    (l.aD.all fun m=>match zD lg m with|some j=>j==i||(ms.getD i 0).testBit j|none=>true)&&
    (List.range i).all fun j=>(ms.getD i 0).testBit j||
      (match ops[j]?,lg[j]? with
       |some p,some q=>IB l.wr q.aD&&IB q.wr l.aD&&IB l.wr q.wr&&
          (match p.dst with|some d=>o.dst !=some d&& !(kz ops o).contains d|none=>true)&&
          (match o.dst with|some d=> !(kz ops p).contains d|none=>true)
       |_,_=>false)
  |_,_=>false
def TA (ops:Array Oper) (lg:List fR):Bool:=
 lg.length==ops.size&&(List.range ops.size).all (Rz ops (masks ops.toList []) lg)
def xZ (x:Nat):List Nat->Bool
 | []=>false
 |y::r=>Nat.beq x y||xZ x r
def ad1:List Nat->List Nat->Bool
 | [],_=>true
 |x::r,l=>xZ x l&&ad1 r l
def oL:List Nat->List Nat->Bool
 | [],_=>true
 |x::r,l=> !xZ x l&&oL r l
def LP:List Oper->Nat->List Nat->List Nat
 | [],_,acc=>acc
 |o::r,k,acc=>LP r (k+1) ((direct o).foldl (fun s j=>s|||(2^j|||(bif Nat.blt j k then acc.getD (k- 1- j) 0 else 0))) 0::acc)
def msF (ops:Array Oper):List Nat:=(LP ops.toList 0 []).reverse
structure OI where
 d:Option Nat
 lk:List Nat
 m:Nat
def oiL (all:Array Oper):List Oper->List Nat->List OI
 |o::r,m::ms=>⟨o.dst,kz all o,m⟩::oiL all r ms
 |_,_=> []
def Un (o p:OI):Bool:=
 (match p.d with
  |some d=>(match o.d with|some e=> !Nat.beq e d|none=>true)&& !xZ d o.lk
  |none=>true)&&
 (match o.d with
  |some d=> !xZ d p.lk
  |none=>true)
def AJ (o:OI):List OI->Nat->Nat->Bool
 |p::r,j,k+1=>(o.m.testBit j||Un o p)&&AJ o r (j+1) k
 |_,_,_=>true
def DU (all:List OI):List OI->Nat->Bool
 | [],_=>true
 |o::r,i=>AJ o all 0 i&&DU all r (i+1)
def La:List Oper->Nat->Bool
 | [],_=>true
 |o::r,i=>((direct o).all fun j=>Nat.blt j i)&&La r (i+1)
def aaT (ops:Array Oper):Bool:=La ops.toList 0&&DU (oiL ops ops.toList (msF ops)) (oiL ops ops.toList (msF ops)) 0
structure DI where
 i:Nat
 m:Nat
 t:List Nat
 w:List Nat
def U5:List fR->List Nat->Nat->List DI
 |l::r,m::ms,i=>(match l.aD,l.wr with
  | [],[]=>U5 r ms (i+1)
  |t,w=>⟨i,m,t,w⟩::U5 r ms (i+1))
 |_,_,_=> []
def mkL:List fR->Nat->List (Nat×Nat×Nat)
 | [],_=> []
 |l::r,i=>match l.cnt with
  |0=>mkL r (i+1)
  |c=>(i,l.nm,c)::mkL r (i+1)
def LN (x:Nat):List (Nat×Nat×Nat)->Option Nat
 | []=>none
 |p::r=>bif Nat.ble p.2.1 x&&Nat.blt x (p.2.1+p.2.2) then some p.1 else LN x r
def Qs (mk:List (Nat×Nat×Nat)) (o:DI):Bool:=
 ad1 o.w o.t&&o.t.all fun x=>match LN x mk with|some j=>Nat.beq j o.i||o.m.testBit j|none=>true
def vG (o p:DI):Bool:=Nat.ble o.i p.i||o.m.testBit p.i||(oL o.w p.t&&oL p.w o.t&&oL o.w p.w)
def wsL:List DI->List DI
 | []=> []
 |o::r=>match o.w with
  | []=>wsL r
  |_=>o::wsL r
def Yi (D:List DI) (mk:List (Nat×Nat×Nat)):Bool:=(D.all fun o=>Qs mk o)&&(wsL D).all fun p=>D.all fun o=>vG o p&&vG p o
def force {α:Type} (n:Nat) (k:Nat->α):α:=match n with
 |0=>k 0
 |m+1=>k (m+1)
def EW {α:Type} :List Nat->(List Nat->α)->α
 | [],k=>k []
 |x::r,k=>force x fun v=>EW r fun l=>k (v::l)
def Dy {α:Type} :List fR->(List fR->α)->α
 | [],k=>k []
 |e::r,k=>force e.nm fun a=>force e.cnt fun b=>EW e.aD fun t=>EW e.wr fun w=>Dy r fun l=>k ({nm:=a,cnt:=b,aD:=t,wr:=w,look:=e.look,ws:=e.ws} ::l)
def wh (ops:Array Oper) (lg:List fR):Bool:=Dy lg fun lg=>
 Nat.beq lg.length ops.size&&aaT ops&&Yi (U5 lg (msF ops) 0) (mkL lg 0)
def aby (n:Nat) (q:Eb):List (Nat×aF)->Bool
 | []=>true
 |p::r=>(!Nat.beq p.1 n||q.hit (some p.2))&&aby n q r
def C7 (n:Nat) (q:Eb):List fR->Bool
 | []=>true
 |l::r=>aby n q l.ws&&C7 n q r
def M4 (h0:List aF) (all:List fR) (l:fR):fR:=match l.look,l.aD,l.wr with
 |some (n,q),[m],[]=>bif Nat.beq m n&&Nat.blt n h0.length&&q.hit (ai h0 n)&&C7 n q all then {nm:=l.nm,cnt:=l.cnt,aD:= [],wr:= []} else l
 |_,_,_=>l
def ach (h0:List aF) (lg:List fR):List fR:=lg.map (M4 h0 lg)
def lP (ops:Array Oper) (draw:Bool) (st:AS) (K:AS->Prop):Prop:=
 if draw then nj {ctx with ys:= [],its:= []} ops ops.toList [] st [] fun st' lg=>if wh ops lg then K st' else if wh ops (ach st.heap lg) then K st' else False
 else nj ctx ops ops.toList [] st [] fun st' _=>K st'
inductive Src
 |same (m:Nat)
 |nil
 |cells (m len:Nat)
 |mt (m off:Nat)
 |any (m:Nat)
def iL (π:List Src) (n:Nat):Option Nat:=match π[n]? with
 |some (.same m)=>some m
 |_=>none
def oB (π:List Src):Ref->Option Ref
 | .ext v=>some (.ext v)
 | .loc n o=>match iL π n with|some m=>some (.loc m o)|none=>none
 | .elem n j=>match iL π n with|some m=>some (.elem m j)|none=>none
 | .full n=>match iL π n with|some m=>some (.full m)|none=>none
 | .mp n=>match iL π n with|some m=>some (.mp m)|none=>none
def jw (π:List Src):List Ref->Option (List Ref)
 | []=>some []
 |r::l=>match oB π r,jw π l with|some q,some m=>some (q::m)|_,_=>none
def jn (π:List Src):Cell->Option Cell
 | .raw v=>some (.raw v)
 | .ptr n o=>match iL π n with|some m=>some (.ptr m o)|none=>none
 | .lY n o=>match iL π n with|some m=>some (.lY m o)|none=>none
 | .sl n o l c=>match iL π n with|some m=>some (.sl m o l c)|none=>none
 | .cW n j k=>match iL π n with|some m=>some (.cW m j k)|none=>none
 | .fB n j k=>match iL π n with|some m=>some (.fB m j k)|none=>none
 | .full n=>match π[n]? with
  |some (.same m)=>some (.full m)
  |some .nil=>some (.raw (.slice none 0 0))
  |some (.cells m len)=>some (.sl m 0 len len)
  |some (.mt m off)=>some (.sl m off 0 0)
  |some (.any m)=>some (.full m)
  |none=>none
 | .iT f a cap=>match jw π cap with|some c=>some (.iT f a c)|none=>none
 | .HA n=>match iL π n with|some m=>some (.HA m)|none=>none
 | .mp n=>match iL π n with|some m=>some (.mp m)|none=>none
 | .mv f a rs=>match jw π rs with|some c=>some (.mv f a c)|none=>none
def hO (π:List Src):List Cell->Option (List Cell)
 | []=>some []
 |c::l=>match jn π c,hO π l with|some q,some m=>some (q::m)|_,_=>none
def H8 (π:List Src):A0->Option A0
 | .one c=>match jn π c with|some q=>some (.one q)|none=>none
 | .agg cs=>match hO π cs with|some q=>some (.agg q)|none=>none
def gy (π:List Src):List A0->Option (List A0)
 | []=>some []
 |c::l=>match H8 π c,gy π l with|some q,some m=>some (q::m)|_,_=>none
def sv (π:List Src):AV->Option AV
 | .v a=>match H8 π a with|some q=>some (.v q)|none=>none
 | .nC l=>match gy π l with|some q=>some (.nC q)|none=>none
 | .dead=>none
def Bi (π:List Src):Nat->Bool
 |0=>true
 |n+1=>(match π[n]? with|some (.same m)=>m==n|_=>false)&&Bi π n
def fH (π:List Src):aF->Option aF
 | .cells cs e=>match hO π cs with|some q=>some (.cells q e)|none=>none
 | .row t l rk=>some (.row t l rk)
 | .alias n s q=>match iL π n with|some m=>some (.alias m s q)|none=>none
 | .gone=>none
 | .loop r s j=>some (.loop r s j)
 | .cw ρ n=>if Bi π n then some (.cw ρ n) else none
 | .hide S=>some (.hide S)
 | .map ka va k v l=>some (.map ka va k v l)
 | .IP ka k u l c q=>match iL π c with|some m=>some (.IP ka k u l m q)|none=>none
 | .set n=>match iL π n with|some m=>some (.set m)|none=>none
 | .gv n c k u x l=>match iL π n,iL π c with|some m,some d=>some (.gv m d k u x l)|_,_=>none
 | .rc cs=>match hO π cs with|some q=>some (.rc q)|none=>none
 | .hmap es mY=>some (.hmap es mY)
 | .dp t l c st kn=>match iL π c with|some d=>some (.dp t l d st kn)|none=>none
 | .nv n c j q u=>match iL π n,iL π c with|some m,some d=>some (.nv m d j q u)|_,_=>none
 | .NT n c es mY ka k u l cur=>match iL π n,iL π c,cur with
  |some m,some d,none=>some (.NT m d es mY ka k u l none)
  |some m,some d,some (a,q)=>match iL π q with|some q'=>some (.NT m d es mY ka k u l (some (a,q')))|none=>none
  |_,_,_=>none
def BT:Src->Option Nat
 | .same m=>some m
 | .nil=>none
 | .cells m _=>some m
 | .mt _ _=>none
 | .any m=>some m
def Dk (π:List Src) (h:List aF) (s:Src) (o:aF):Prop:=match s with
 | .same m=> ∃p,ai h m=some p/\ fH π o=some p
 | .nil=> ∃t rk,o= .row t [] rk/\ rk≠0
 | .mt m _=> ∃t cs e,o= .row t [] 3/\ ai h m=some (.cells cs e)
 | .any m=> ∃t l rk,o= .row t l 3/\ ai h m=some (.row t l rk)/\ rk≠0
 | .cells m len=> ∃t l cs e rk,o= .row t l rk/\ (rk=2\/ rk=3)/\ ai h m=some (.cells cs e)/\ t.flat=true/\ xF (cj (fun _=>none) t) len cs=some (l,[])/\ cs.length=len*t.size/\ Nat.ble len 1099511627776=true
def sQ (π:List Src) (h:List aF):List Src->List aF->Prop
 |_::r,.gone::l=>sQ π h r l
 |s::r,o::l=>Dk π h s o/\ sQ π h r l
 | [],[]=>True
 |_,_=>False
def vo:List Src->List aF->List Nat
 |_::r,.gone::l=>vo r l
 |s::r,_::l=>(match BT s with|some m=>m::vo r l|none=>vo r l)
 |_,_=> []
def GZ (π:List Src):List AV->List AV->Prop
 |_::r,.dead::s=>GZ π r s
 |x::r,y::s=>sv π y=some x/\ GZ π r s
 | [],[]=>True
 |_,_=>False
structure Ren (π:List Src) (st st':AS):Prop where
 tmps:GZ π st.tmps st'.tmps
 heap:sQ π st.heap π st'.heap
 inj:eB (vo π st'.heap)=true
def rq (st st':AS):Prop:= ∃π,Ren π st st'
def jU (id:Nat) (K:Exit->AS->Prop) (e:Exit) (st':AS):Prop:=match e with
 | .exit id'=>if id'=id then K .normal st' else K (.exit id') st'
 |e=>K e st'
def lz:Code->Bool
 | .seq a b=>lz a&&lz b
 | .cond _ a b=>lz a&&lz b
 | .loop c=>lz c
 | .block _ c=>lz c
 | .rangeFunc _ _ _ _=>false
 | .scope c=>lz c
 |_=>true
def zX:List AV->List Nat->List AV->List AV
 |l,t::ts,v::vs=>zX (l.set t v) ts vs
 |l,_,_=>l
def aeB (hp:HP) (nm:Nat) (h:List aF) (b:Bool):Rec:=yP hp nm h (bG b)
def Ta (o:Option aF) (r:Loop) (K:Prop):Prop:=match o with
 |some (.loop r' .ready none)=>r'=r/\ K
 |_=>False
def Rd (o:Option aF) (r:Loop) (K:Prop):Prop:=match o with
 |some (.loop r' .busy none)=>r'=r/\ K
 |_=>False
def LG (r:Loop):Option Code->aF
 |none=> .loop r .ready none
 |some c=> .loop r .done (some c)
def uO (hp:HP) (nm n:Nat) (r:Loop) (aX:Env) (h:List aF) (jump:Option Code) (k:Rec->Prop):Prop:=
 Rd (ai h n) r (pE (ai h nm) aX nm (k (aeB hp nm (h.set n (LG r jump)) jump.isNone)))
def Tk (n:Nat) (aZ:Env) (tmps:List AV) (h:List aF) (K:Exit->AS->Prop):Prop:=
 pE (ai h (n+1)) aZ (n+1) (match ai h n with
  |some (.loop _ .ready none)=>K .normal ⟨tmps,(h.set n .gone).set (n+1) .gone⟩
  |some (.loop _ .done (some .ret))=>K .ret ⟨tmps,(h.set n .gone).set (n+1) .gone⟩
  |some (.loop _ .done (some (.exit id)))=>K (.exit id) ⟨tmps,(h.set n .gone).set (n+1) .gone⟩
  |_=>False)
def aeo  (X0:Addr->Value->Prop) (n:Nat) (tmps:List AV) (r:Loop) (aZ:Env) (ps:Array Tmp) (A B:AS->(Exit->AS->Prop)->Prop):Spec:=fun X args hp nm k=>X=X0/\ (if ps.size=args.length then
          pE (hp (n+1)) aZ (n+1) (Ta (hp n) r (∀aX:Env,
            A ⟨zX tmps ps.toList args,gY hp nm++ [.cw aX nm]⟩ fun e lC=>match e with
              | .normal=>pE (ai lC.heap nm) aX nm (Ta (ai lC.heap n) r (B ⟨lC.tmps,lC.heap.set n (.loop r .busy none)⟩ fun e qx=>match e with
                | .normal=>uO hp nm n r aX qx.heap none k
                | .ret=>uO hp nm n r aX qx.heap (some .ret) k
                | .exit id=>uO hp nm n r aX qx.heap (some (.exit id)) k
                |_=>False))
              |_=>False)) else False)
def cJ:Code->AS->(Exit->AS->Prop)->Prop
 | .skip,st,K=>K .normal st
 | .region _ ops draw,st,K=>lP ctx ops draw st (K .normal)
 | .seq a b,st,K=>cJ a st fun e st'=>match e with
  | .normal=>cJ b st' K
  |e=>K e st'
 | .cond c x y,st,K=>match dw st.tmps c with
  | .v (.one (.raw (.bool t)))=>cB t (cJ x st K) (cJ y st K)
  |_=>False
 | .block id c,st,K=>match aI ctx.lp id with
  |some sp=>sp st K
  |none=>cJ c st (jU id K)
 | .loop c,st,K=> ∃(I:Nat->AS->Prop),(∃m st',rq st st'/\ I m st')/\ ∀m lC,I m lC->cJ c lC fun e qx=>match e with
  | .normal=> ∃m' st',m'<m/\ rq qx st'/\ I m' st'
  |e=>K e qx
 | .rangeFunc g ps assign body,st,K=>if lz assign&&lz body then match dw st.tmps g with
  | .v (.one (.iT (.func f) [] cap))=>match aI ctx.its f with
   | some Rh=> ∀(r:Loop) (aZ:Env),Rh [(st.heap.length,aeo ctx.X st.heap.length st.tmps r aZ ps (cJ assign) (cJ body))]
     (.v (.one (.HA st.heap.length))::cap.map zH) (st.heap++ [.loop r .ready none,.cw aZ (st.heap.length+1)]) fun _ qx=>Tk st.heap.length aZ st.tmps qx.heap K
   |none=>False
  |_=>False else False
 | .exit id,st,K=>K (.exit id) st
 | .ret,st,K=>K .ret st
 |_,_,_=>False
def BW (c:Code):Nat->bC
 |0,_,_=>False
 |n+1,st,K=>cJ ctx c st fun e qx=>match e with
  | .normal=>BW c n qx K
  |e=>K e qx
def L5 (st:AS):ResultVar->Option A0
 | .tmp t=>match cz st.tmps t with| .v a=>some a|_=>none
 | .cell t ty=>match cz st.tmps t,aI ctx.tt ty with
  | .v (.one (.ptr n off)),some i=>match ai st.heap n with
   |some (.cells cs _)=>if dc i.desc then (if off+i.size<=cs.length then some (.agg ((cs.drop off).take i.size)) else none)
    else (match cs[off]? with|some c=>some (.one c)|none=>none)
   |_=>none
  |_,_=>none
def BI (st:AS):List ResultVar->Option (List A0)
 | []=>some []
 |r::l=>match L5 ctx st r,BI st l with
  |some a,some b=>some (a::b)
  |_,_=>none
def qj (fn:Func) (st:AS) (R:AV->AS->Prop):Prop:=
 match BI ctx st fn.results.toList with
 |some [a]=>R (.v a) st
 |some l=>R (.nC l) st
 |none=>False
def HB (fn:Func) (args:List AV) (heap:List aF) (R:AV->AS->Prop):Prop:=
 match fn.body with
 |some c=>cJ ctx c ⟨args++List.replicate (fn.ntmps- args.length) ck,heap⟩ fun e st=>match e with
  | .ret=>qj ctx fn st R
  | .normal=>qj ctx fn st R
  |_=>False
 |none=>False
end
end Go.Ev
