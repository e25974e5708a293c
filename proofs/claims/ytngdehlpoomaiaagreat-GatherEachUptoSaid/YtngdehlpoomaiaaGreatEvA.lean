/- The abstract evaluator: values whose addresses are names, a small heap of named objects, and 'codeE', the condition under which a piece of code does what is asked. -/
import Derived.Below
import Derived.KernelRfl
noncomputable section
set_option linter.unusedSectionVars false
set_option linter.unusedVariables false
set_option linter.unusedSimpArgs false
namespace Go.Ev
inductive Ty
 |int (k:IntKind)
 |bool
 |str
 |prod (a b:Ty)
 |sl (t:Ty)
 deriving DecidableEq
@[reducible] def Ty.T:Ty->Type
 | .int _=>Int
 | .bool=>Bool
 | .str=>ByteArray
 | .prod a b=>a.T×b.T
 | .sl t=>List t.T
def Ty.d:(t:Ty)->t.T
 | .int _=>(0:Int)
 | .bool=>false
 | .str=>ByteArray.empty
 | .prod a b=>(a.d,b.d)
 | .sl t=>([]:List t.T)
def Ty.size:Ty->Nat
 | .prod a b=>a.size+b.size
 |_=>1
def Ty.flat:Ty->Bool
 | .prod a b=>a.flat&&b.flat
 | .sl _=>false
 |_=>true
def Ty.shallow:Ty->Bool
 | .prod a b=>a.shallow&&b.shallow
 | .sl t=>t.flat
 |_=>true
inductive cg
 |flat (v:Value)
 |sl (u:Ty) (l:List u.T)
def Ty.aT:(t:Ty)->t.T->List cg
 | .int k,n=> [.flat (.int k n)]
 | .bool,b=> [.flat (.bool b)]
 | .str,s=> [.flat (.string s)]
 | .prod a b,x=>a.aT x.1++b.aT x.2
 | .sl u,l=> [.sl u l]
def bF:cg->Value
 | .flat v=>v
 | .sl _ _=> .slice none 0 0
def eqT:(t:Ty)->t.T->t.T->Bool
 | .int _,x,y=>(x:Int)==y
 | .bool,x,y=>(x:Bool)==y
 | .str,x,y=>(x:ByteArray)==y
 | .prod a b,x,y=>eqT a x.1 y.1&&eqT b x.2 y.2
 | .sl _,_,_=>false
def afg (a:Bool) (t:Ty) (x:t.T):Value:=match a with
 |true=> .agg ((t.aT x).map bF).toArray
 |false=>match (t.aT x).map bF with
  | [v]=>v
  |_=> .tuple #[]
def gd (t:Ty) (l:List t.T) (j:Nat):t.T:=l.getD j t.d
def ij (t u:Ty) (l:List t.T):Option (List u.T):=if h:t=u then some (h▸l) else none
inductive Ref
 |ext (v:Value)
 |loc (n off:Nat)
 |elem (n j:Nat)
 |full (n:Nat)
 |mp (n:Nat)
inductive Cell
 |raw (v:Value)
 |ptr (n off:Nat)
 |lZ (n off:Nat)
 |sl (n off len cap:Nat)
 |full (n:Nat)
 |cK (n j k:Nat)
 |fk (n j k:Nat)
 |iP (f:Fn) (first:List Value) (cap:List Ref)
 |Ic (n:Nat)
 |mp (n:Nat)
 |mv (f:FuncId) (agg:Bool) (rs:List Ref)
inductive A0
 |one (c:Cell)
 |agg (cs:List Cell)
inductive AV
 |v (a:A0)
 |nC (l:List A0)
 |dead
structure Ent where
 key:Sigma Ty.T
 blk:Option Nat
 base:Option Addr
 len:Nat
 cap:Nat
 es:Nat
 vals:List Value
structure Loc where
 blk:Option Nat:=none
 base:Option Addr:=none
 len:Nat:=0
 cap:Nat:=0
 es:Nat:=1
 iw:List Ent:= []
abbrev Env:=Nat->Loc
inductive aG
 |cells (cs:List Cell) (e:TypeId)
 |row (t:Ty) (l:List t.T) (rk:Nat)
 |alias (n s:Nat) (q:Option Nat)
 |gone
 |loop (r:Loop) (s:LoopState) (j:Option Code)
 |bT (ρ:Env) (n:Nat)
 |hide (S:Nat->Prop)
 |map (ka va:Bool) (k v:Ty) (l:List (k.T×v.T))
 |Jp (ka:Bool) (k u:Ty) (l:List (k.T×List u.T)) (c:Nat) (q:Option k.T)
 |set (n:Nat)
 |gv (n c:Nat) (k u:Ty) (x:k.T) (l:List u.T)
 |rc (cs:List Cell)
 |hmap (es:Array MapEntry) (mY:Nat)
 |OP (n c:Nat) (es:Array MapEntry) (mY:Nat) (ka:Bool) (k u:Ty) (l:List (k.T×List u.T)) (cur:Option (k.T×Nat))
 |dp (t:Ty) (l:List t.T) (c:Nat) (st kn:Bool)
 |nv (n c j q:Nat) (u:Ty)
def addrOf (ρ:Env) (n off:Nat):Option Addr:=(ρ n).blk.map fun b=> {block:=b,off:=off,spot:=none}
def Ref.ae (ρ:Env):Ref->Value
 | .ext v=>v
 | .loc n off=> .pointer (addrOf ρ n off)
 | .elem n j=> .pointer ((ρ n).base.map (·.add (j*(ρ n).es+0)))
 | .full n=> .slice (ρ n).base (ρ n).len (ρ n).cap
 | .mp n=> .map (ρ n).blk
def Uy (agg:Bool) (vs:List Value):Value:=match agg with
 |true=> .agg vs.toArray
 |false=>match vs with
  | [v]=>v
  |_=> .tuple #[]
def Cell.ae (ρ:Env):Cell->Value
 | .raw v=>v
 | .ptr n off=> .pointer (addrOf ρ n off)
 | .lZ n off=> .pointer (addrOf ρ n off)
 | .sl n off len cap=> .slice (addrOf ρ n off) len cap
 | .full n=> .slice (ρ n).base (ρ n).len (ρ n).cap
 | .cK n j k=> .pointer ((ρ n).base.map (·.add (j*(ρ n).es+k)))
 | .fk n j k=> .pointer ((ρ n).base.map (·.add (j*(ρ n).es+k)))
 | .iP f first cap=> .func f first.toArray (cap.map (Ref.ae ρ)).toArray
 | .Ic n=>match (ρ n).blk with
  |some l=> .func (.yield l) #[] #[]
  |none=> .nilFunc
 | .mp n=> .map (ρ n).blk
 | .mv f agg rs=> .func (.func f) #[Uy agg (rs.map (Ref.ae ρ))] #[]
def A0.ae (ρ:Env):A0->Value
 | .one c=>c.ae ρ
 | .agg cs=> .agg (cs.map (Cell.ae ρ)).toArray
def AV.ae (ρ:Env):AV->Value
 | .v a=>a.ae ρ
 | .nC l=> .tuple (l.map (A0.ae ρ)).toArray
 | .dead=> .tuple #[]
def Ref.ok (Kn:Nat->Prop):Ref->Prop
 | .ext _=>True
 | .loc n _=>Kn n
 | .elem n _=>Kn n
 | .full n=>Kn n
 | .mp n=>Kn n
def Cell.ok (Kn:Nat->Prop):Cell->Prop
 | .raw _=>True
 | .ptr n _=>Kn n
 | .lZ n _=>Kn n
 | .sl n _ _ _=>Kn n
 | .full n=>Kn n
 | .cK n _ _=>Kn n
 | .fk n _ _=>Kn n
 | .iP _ _ cap=> ∀r∈cap,r.ok Kn
 | .Ic n=>Kn n
 | .mp n=>Kn n
 | .mv _ _ rs=> ∀r∈rs,r.ok Kn
def A0.ok (Kn:Nat->Prop):A0->Prop
 | .one c=>c.ok Kn
 | .agg cs=> ∀c∈cs,c.ok Kn
def AV.ok (Kn:Nat->Prop):AV->Prop
 | .v a=>a.ok Kn
 | .nC l=> ∀a∈l,a.ok Kn
 | .dead=>True
def aG.ok (Kn:Nat->Prop):aG->Prop
 | .cells cs _=> ∀c∈cs,c.ok Kn
 | .row _ _ _=>True
 | .alias n _ _=>Kn n
 | .gone=>True
 | .loop _ _ _=>True
 | .bT _ n=> ∀m,m<n->Kn m
 | .hide _=>True
 | .map _ _ _ _ _=>True
 | .Jp _ _ _ _ c _=>Kn c
 | .set n=>Kn n
 | .gv n c _ _ _ _=>Kn n/\ Kn c
 | .rc cs=> ∀c∈cs,c.ok Kn
 | .hmap _ _=>True
 | .OP n c _ _ _ _ _ _ cur=>Kn n/\ Kn c/\ ∀p,cur=some p->Kn p.2
 | .dp _ _ c _ _=>Kn c
 | .nv n c _ _ _=>Kn n/\ Kn c
def bU:AV:= .nC []
def aaW:Value->A0
 | .agg cs=> .agg (cs.toList.map .raw)
 |v=> .one (.raw v)
def ofV (v:Value):AV:= .v (aaW v)
def u9:Value->Bool
 | .agg _=>false
 | .tuple _=>false
 |_=>true
def Cell.one:Cell->Bool
 | .raw v=>u9 v
 |_=>true
def A0.cells:A0->Option (List Cell)
 | .one c=>if c.one then some [c] else none
 | .agg cs=>some cs
def AV.cells:AV->Option (List Cell)
 | .v a=>a.cells
 | .nC _=>none
 | .dead=>none
def AV.FV:AV->Bool
 | .dead=>true
 |_=>false
def nZ:List Cell->Bool
 | []=>true
 |c::r=>if c.one then nZ r else false
structure Rec where
 val:AV
 fresh:List aG:= []
 writes:List (Nat×aG):= []
 aH:List Nat:= []
structure TI where
 desc:TypeDesc
 size:Nat
 bytes:Nat
 zero:Value
 ty:Option Ty
def cB (b:Bool) (p q:Prop):Prop:=match b with|true=>p|false=>q
def ob (b:Bool) (p:Prop):Prop:=match b with|true=>p|false=>False
def aJ {α:Type _} :List (Nat×α)->Nat->Option α
 | [],_=>none
 |(k,a)::r,n=>if k=n then some a else aJ r n
def cY:TypeDesc->Bool
 | .struct _=>true
 | .array _ _=>true
 |_=>false
def bP:List AV->Nat->AV
 | [],_=>bU
 |a::_,0=>a
 |_::r,n+1=>bP r n
abbrev HP:=Nat->Option aG
abbrev Spec:=(Addr->Value->Prop)->List AV->HP->Nat->(Rec->Prop)->Prop
structure AS where
 tmps:List AV
 heap:List aG
abbrev cD:=List (Nat×Spec)->List AV->List aG->(AV->AS->Prop)->Prop
abbrev bw:=AS->(Exit->AS->Prop)->Prop
structure Ctx where
 tt:List (Nat×TI)
 specs:List (Nat×Spec)
 X:Addr->Value->Prop
 lp:List (Nat×bw):= []
 ys:List (Nat×Spec):= []
 its:List (Nat×cD):= []
def cr (tmps:List AV):Operand->AV
 | .tmp t=>bP tmps t
 | .const v=>ofV v
 | .global g=> .v (.one (.raw (.pointer (some {block:=g,off:=0,spot:=none}))))
 | .func f=> .v (.one (.iP (.func f) [] []))
def setCells {α:Type} :List α->Nat->List α->List α
 |cs,_,[]=>cs
 |cs,off,c::r=>setCells (cs.set off c) (off+1) r
def xl (place:Nat->Option (Nat×Nat)) (ev:Operand->AV):List Cell->List (Nat×Operand)->Option (List Cell)
 |cs,[]=>some cs
 |cs,(i,x)::r=>match place i,(ev x).cells with
  |some (off,size),some xs=>if xs.length=size then (if off+size<=cs.length then xl place ev (setCells cs off xs) r else none) else none
  |_,_=>none
def uY (d:TypeDesc) (cs:List Cell):Option AV:=
 if cY d then some (.v (.agg cs)) else match cs with
  | [c]=>some (.v (.one c))
  |_=>none
def gb (k:IntKind) (n:Int):AV:= .v (.one (.raw (.int k n)))
def bD (b:Bool):AV:= .v (.one (.raw (.bool b)))
def OH:Operand->Bool
 | .const _=>true
 |_=>false
def R1 (op:BinOp) (kk:IntKind) (a b:Int) (k:Rec->Prop):Prop:=
 match op with
 | .add=>k {val:=gb kk (kk.wrap (a+b))}
 | .sub=>k {val:=gb kk (kk.wrap (a- b))}
 | .mul=>k {val:=gb kk (kk.wrap (a*b))}
 | .quo=>ob (decide (b≠0)) (k {val:=gb kk (kk.wrap (a.tdiv b))})
 | .rem=>ob (decide (b≠0)) (k {val:=gb kk (a.tmod b)})
 | .eql=>k {val:=bD (a==b)}
 | .neq=>k {val:=bD (a !=b)}
 | .lss=>k {val:=bD (decide (a<b))}
 | .leq=>k {val:=bD (decide (a<=b))}
 | .gtr=>k {val:=bD (decide (a>b))}
 | .geq=>k {val:=bD (decide (a>=b))}
 | .and=>k {val:=gb kk (kk.wrap ((BitVec.ofInt kk.bits a&&&BitVec.ofInt kk.bits b).toNat))}
 | .or=>k {val:=gb kk (kk.wrap ((BitVec.ofInt kk.bits a|||BitVec.ofInt kk.bits b).toNat))}
 | .xor=>k {val:=gb kk (kk.wrap ((BitVec.ofInt kk.bits a^^^BitVec.ofInt kk.bits b).toNat))}
 | .andNot=>k {val:=gb kk (kk.wrap ((BitVec.ofInt kk.bits a&&& ~~~ BitVec.ofInt kk.bits b).toNat))}
 |_=>False
def eqFields (tt:List (Nat×TI)) (eq:TypeId->List Cell->List Cell->Option Bool):List Field->List Cell->List Cell->Option Bool
 | [],_,_=>some true
 |f::r,xs,ys=>match aJ tt f.type with
  |none=>none
  |some fi=>if f.name= "_" then none else
   match eq f.type ((xs.drop f.offset).take fi.size) ((ys.drop f.offset).take fi.size),eqFields tt eq r xs ys with
   |some a,some b=>some (a&&b)
   |_,_=>none
def DQ (eq:TypeId->List Cell->List Cell->Option Bool) (e s:Nat):Nat->Nat->List Cell->List Cell->Option Bool
 |0,_,_,_=>some true
 |n+1,i,xs,ys=>match eq e ((xs.drop (i*s)).take s) ((ys.drop (i*s)).take s),DQ eq e s n (i+1) xs ys with
  |some a,some b=>some (a&&b)
  |_,_=>none
def eqE (tt:List (Nat×TI)):Nat->TypeId->List Cell->List Cell->Option Bool
 |0,_,_,_=>none
 |d+1,t,xs,ys=>match aJ tt t with
  |none=>none
  |some i=>match i.desc with
   | .int _=>match xs,ys with
    | [.raw (.int k a)],[.raw (.int k' b)]=>if k=k' then some (a==b) else none
    |_,_=>none
   | .bool=>match xs,ys with
    | [.raw (.bool a)],[.raw (.bool b)]=>some (a==b)
    |_,_=>none
   | .string=>match xs,ys with
    | [.raw (.string a)],[.raw (.string b)]=>some (a==b)
    |_,_=>none
   | .struct fs=>eqFields tt (eqE tt d) fs.toList xs ys
   | .array n e=>match aJ tt e with
    |some ei=>DQ (eqE tt d) e ei.size n 0 xs ys
    |none=>none
   |_=>none
def fB (nm:Nat):List cg->List Cell×List aG
 | []=>([],[])
 | .flat v::r=>match fB nm r with|(cs,os)=>(.raw v::cs,os)
 | .sl u l::r=>match fB (nm+1) r with|(cs,os)=>(.full nm::cs,.row u l 0::os)
def cx (t:Ty) (l:List t.T) (j k size:Nat):List cg:=((t.aT (gd t l j)).drop k).take size
def jn:(t:Ty)->List cg->Option (t.T×List cg)
 | .int k,cs=>match cs with
  | .flat (.int k' n)::r=>if k=k' then some (n,r) else none
  |_=>none
 | .bool,cs=>match cs with
  | .flat (.bool b)::r=>some (b,r)
  |_=>none
 | .str,cs=>match cs with
  | .flat (.string s)::r=>some (s,r)
  |_=>none
 | .prod a b,cs=>match jn a cs with
  |some (x,r)=>match jn b r with
   |some (y,r')=>some ((x,y),r')
   |none=>none
  |none=>none
 | .sl u,cs=>match cs with
  | .sl u' l::r=>match ij u' u l with
   |some l'=>some (l',r)
   |none=>none
  |_=>none
def fu:List Cell->Option (List cg)
 | []=>some []
 | .raw v::r=>match v with
  | .int _ _=>(fu r).map (.flat v:: ·)
  | .bool _=>(fu r).map (.flat v:: ·)
  | .string _=>(fu r).map (.flat v:: ·)
  |_=>none
 |_=>none
def fc (n s:Nat):Option Nat->Nat
 |some m=>min m (n- s)
 |none=>n- s
def mz {α:Type} (l:List α) (s:Nat):Option Nat->List α
 |none=>l.drop s
 |some m=>(l.drop s).take m
def alw (dec:List Cell->Option (List cg×List Nat×List Nat)) (size:Nat) (u:Ty):Nat->List Cell->Option (List u.T×List Nat×List Nat)
 |0,_=>some ([],[],[])
 |n+1,cs=>match dec (cs.take size) with
  |some (ps,tc,ab)=>match jn u ps with
   |some (x,[])=>match alw dec size u n (cs.drop size) with
    |some (l,yL,ab')=>some (x::l,tc++yL,ab++ab')
    |none=>none
   |_=>none
  |none=>none
def xU {α:Type} (dec:List Cell->Option (α×List Cell×List Nat)):Nat->List Cell->Option (List α×List Nat)
 |0,_=>some ([],[])
 |n+1,cs=>match dec cs with
  |some (x,r,tc)=>match xU dec n r with
   |some (l,yL)=>some (x::l,tc++yL)
   |none=>none
  |none=>none
def b9 (hp:HP):(t:Ty)->List Cell->Option (t.T×List Cell×List Nat)
 | .int k,cs=>match cs with
  | .raw (.int k' n)::r=>if k=k' then some (n,r,[]) else none
  |_=>none
 | .bool,cs=>match cs with
  | .raw (.bool b)::r=>some (b,r,[])
  |_=>none
 | .str,cs=>match cs with
  | .raw (.string s)::r=>some (s,r,[])
  |_=>none
 | .prod a b,cs=>match b9 hp a cs with
  |some (x,r,tc)=>match b9 hp b r with
   |some (y,r',yL)=>some ((x,y),r',tc++yL)
   |none=>none
  |none=>none
 | .sl u,cs=>match cs with
  | .raw (.slice none 0 _)::r=>some (([]:List u.T),r,[])
  | .full n::r=>match hp n with
   |some (.row t l _)=>match ij t u l with
    |some l'=>some (l',r,[n])
    |none=>none
   |some (.alias m s q)=>match hp m with
    |some (.row t l _)=>match ij t u l with
     |some l'=>some (mz l' s q,r,[n,m])
     |none=>none
    |_=>none
   |some (.dp t l c _ kn)=>match kn,hp c with
    |true,some (.set _)=>match ij t u l with
     |some l'=>some (l',r,[n,c])
     |none=>none
    |_,_=>none
   |_=>none
  | .sl n off len cap::r=>if u.shallow&&decide (len<=cap) then (match hp n with
   |some (.cells cs _)=>match xU (b9 hp u) len (cs.drop off) with
    |some (l,tc)=>some (l,r,n::tc)
    |none=>none
   |_=>none) else none
  |_=>none
def yl (hp:HP):Ty->List Cell->Option (List Nat×Bool×List Cell)
 | .prod a b,cs=>match yl hp a cs with
  |some (ns,f,r)=>match yl hp b r with
   |some (ns',f',r')=>some (ns++ns',f&&f',r')
   |none=>none
  |none=>none
 | .sl u,cs=>if u.flat then (match cs with
  | .raw (.slice none 0 _)::r=>some ([],true,r)
  | .full n::r=>match hp n with
   |some (.row _ _ rk)=>if rk=0 then some ([],false,r) else some ([n],true,r)
   |some (.alias m _ _)=>match hp m with
    |some (.row _ _ rk)=>if rk=0 then some ([],false,r) else none
    |_=>none
   |_=>none
  | .sl n _ _ _::r=>match hp n with
   |some (.cells _ _)=>some ([n],true,r)
   |_=>none
  |_=>none) else none
 |_,cs=>match cs with
  |_::r=>some ([],true,r)
  | []=>none
def Sr (hp:HP) (u:Ty):Nat->List Cell->Option (List Nat×Bool)
 |0,_=>some ([],true)
 |n+1,cs=>match yl hp u cs with
  |some (ns,f,r)=>match Sr hp u n r with
   |some (ns',f')=>some (ns++ns',f&&f')
   |none=>none
  |none=>none
def jg:List Cell->Option (List Int)
 | []=>some []
 | .raw (.int .i64 n)::r=>match jg r with
  |some l=>some (n::l)
  |none=>none
 |_=>none
def qW:List cg->Option (List Int)
 | []=>some []
 | .flat (.int .i64 n)::r=>match qW r with
  |some l=>some (n::l)
  |none=>none
 |_=>none
def R5:Ty->Bool
 | .int .i64=>true
 | .prod a b=>R5 a&&R5 b
 |_=>false
def ae3 (hp:Nat->Option aG) (n:Nat):Bool:=match hp n with
 |some (.row t _ _)=>R5 t
 |_=>false
def yo (off:Nat) (y:Int):Nat->List Int->List Int
 |_,[]=> []
 |q,n::r=>(bif Nat.beq off q then y else n)::yo off y (q+1) r
def sG (off:Nat):List Int->List Int->List Int
 | [],ns=>ns
 |y::r,ns=>sG (off+1) r (yo off y 0 ns)
def qg (ns:List Int) (off:Nat):Nat->List Cell
 |0=> []
 |m+1=> .raw (.int .i64 (ns.getD off 0))::qg ns (off+1) m
def aj (h:List aG) (n:Nat):Option aG:=match h[n]? with
 |some .gone=>none
 |o=>o
def gQ (hp:HP):Nat->List aG
 |0=> []
 |n+1=>gQ hp n++ [match hp n with|some o=>o|none=> .gone]
def Mc (hp:HP) (h:List aG):Nat->List (Nat×aG)
 |0=> []
 |n+1=>match hp n with
  |some _=>Mc hp h n++ [(n,match h[n]? with|some o=>o|none=> .gone)]
  |none=>Mc hp h n
def zf (hp:HP) (nm:Nat) (h:List aG) (v:AV):Rec:= {val:=v,fresh:=(h.set nm .gone).drop nm,writes:=Mc hp h nm,aH:=List.range nm}
def pR (o:Option aG) (ρ:Env) (n:Nat) (K:Prop):Prop:=match o with
 |some (.bT ρ' n')=>ρ'=ρ/\ n'=n/\ K
 |_=>False
section
variable (ctx:Ctx)
def zP (i:TI) (cs:List Cell) (n off:Nat) (k:Rec->Prop):Prop:=
 if cY i.desc then (if off+i.size<=cs.length then k {val:= .v (.agg ((cs.drop off).take i.size)),aH:= [n]} else False)
 else match cs[off]? with
  |some c=>k {val:= .v (.one c),aH:= [n]}
  |none=>False
def pT (i:TI) (x:AV) (hp:HP) (nm:Nat) (k:Rec->Prop):Prop:=
 match x with
 | .v (.one (.ptr n off))=>match hp n with
  |some (.cells cs _)=>zP i cs n off k
  |_=>False
 | .v (.one (.lZ n off))=>match hp n with
  |some (.cells cs _)=>match jg cs with
   |some ns=>ob (decide (off+i.size<=cs.length)) (match uY i.desc (qg ns off i.size) with
    |some v=>k {val:=v,aH:= [n]}
    |none=>False)
   |none=>False
  |_=>False
 | .v (.one (.cK n j q))=>match hp n with
  |some (.row t l _)=>if q+i.size<=t.size then ob (decide (j<l.length)) (match fB nm (cx t l j q i.size) with
   |(cs,os)=>match uY i.desc cs with
    |some v=>k {val:=v,fresh:=os,aH:= [n]}
    |none=>False) else False
  |some (.gv _ c _ t _ l)=>match hp c with
   |some (.set _)=>if q+i.size<=t.size then ob (decide (j<l.length)) (match fB nm (cx t l j q i.size) with
    |(cs,_)=>match uY i.desc cs with
     |some v=>k {val:=v,aH:= [n,c]}
     |none=>False) else False
   |_=>False
  |some (.rc cs)=>if j=0 then zP i cs n q k else False
  |_=>False
 | .v (.one (.fk n j q))=>match hp n with
  |some (.row t l _)=>match qW (t.aT (gd t l j)) with
   |some ns=>ob (decide (q+i.size<=t.size)) (ob (decide (j<l.length)) (match uY i.desc (qg ns q i.size) with
    |some v=>k {val:=v,aH:= [n]}
    |none=>False))
   |none=>False
  |_=>False
 |_=>False
def SW (t:Ty) (l:List t.T) (rk n j q:Nat) (ys:List Cell) (hp:HP) (k:Rec->Prop):Prop:=match ys with
 | [.full m]=>match hp m with
  |some (.row u lm rm)=>if rm=0\/ rk=3\/ m=n\/ u.flat=false\/ t.size<q+1 then False else (match jn t (setCells (t.aT (gd t l j)) q [.sl u lm]) with
   |some (x',[])=>ob (decide (j<l.length)) (True/\ ∀l',l'=l.set j x'->k {val:=bU,writes:= [(n,.row t l' rk),(m,.gone)],aH:= [n,m]})
   |_=>False)
  |_=>False
 |_=>False
def oP (i:TI) (x y:AV) (hp:HP) (k:Rec->Prop):Prop:=
 match x,y.cells with
 | .v (.one (.ptr n off)),some ys=>if ys.length=i.size then (if nZ ys then
   match hp n with
   |some (.cells cs e)=>if off+ys.length<=cs.length then k {val:=bU,writes:= [(n,.cells (setCells cs off ys) e)],aH:= [n]} else False
   |_=>False
   else False) else False
 | .v (.one (.lZ n off)),some ys=>if ys.length=i.size then (match hp n with
   |some (.cells cs e)=>match jg cs,jg ys with
    |some ns,some ms=>ob (decide (off+ys.length<=cs.length)) (k {val:=bU,writes:= [(n,.cells ((sG off ms ns).map fun q=> .raw (.int .i64 q)) e)],aH:= [n]})
    |_,_=>False
   |_=>False) else False
 | .v (.one (.cK n j q)),some ys=>if ys.length=i.size then (match hp n with
   |some (.row t l rk)=>if rk=0\/ rk=3 then False else match fu ys with
    |some ps=>if q+ps.length<=t.size then (match jn t (setCells (t.aT (gd t l j)) q ps) with
     |some (x',[])=>ob (decide (j<l.length)) (True/\ ∀l',l'=l.set j x'->k {val:=bU,writes:= [(n,.row t l' rk)],aH:= [n]})
     |_=>False) else False
    |none=>SW t l rk n j q ys hp k
   |_=>False) else False
 | .v (.one (.fk n j q)),some ys=>if ys.length=i.size then (match hp n with
   |some (.row t l rk)=>if rk=0\/ rk=3 then False else match jg ys,qW (t.aT (gd t l j)) with
    |some ms,some ns=>(match jn t ((sG q ms ns).map fun m=> .flat (.int .i64 m)) with
     |some (x',[])=>ob (decide (q+ys.length<=t.size)) (ob (decide (j<l.length)) (True/\ ∀l',l'=l.set j x'->k {val:=bU,writes:= [(n,.row t l' rk)],aH:= [n]}))
     |_=>False)
    |_,_=>False
   |_=>False) else False
 |_,_=>False
def kE (v:Value):List Cell:=v.cells.toList.map .raw
def Sx (fs:Array Field) (j:Nat):Option (Nat×Nat):=match fs[j]? with
 |some f=>(match aJ ctx.tt f.type with|some fi=>some (f.offset,fi.size)|none=>none)
 |none=>none
def Rb (i:TI) (parts:List (Nat×Operand)) (ev:Operand->AV) (k:Rec->Prop):Prop:=
 match i.desc with
 | .struct fs=>if fs.toList.all (fun f=>(aJ ctx.tt f.type).isSome) then
   match xl (Sx ctx fs) ev (kE i.zero) parts with
   |some cs=>k {val:= .v (.agg cs)}
   |none=>False
   else False
 | .array _ e=>match aJ ctx.tt e with
  |some ei=>match xl (fun j=>some (j*ei.size,ei.size)) ev (kE i.zero) parts with
   |some cs=>k {val:= .v (.agg cs)}
   |none=>False
  |none=>False
 |_=>False
def tP (i:TI) (len:Nat) (parts:List (Nat×Operand)) (ev:Operand->AV) (nm:Nat) (k:Rec->Prop):Prop:=
 match i.desc with
 | .slice e=>match aJ ctx.tt e with
  |some ei=>if len*ei.size>2^24 then False else if len*ei.size=0 then False else
   match xl (fun j=>some (j*ei.size,ei.size)) ev ((List.range (len*ei.size)).map fun j=> .raw (ei.zero.cells[j % ei.zero.cells.size]!)) parts with
   |some cs=>k {val:= .v (.one (.sl nm 0 len len)),fresh:= [.cells cs e]}
   |none=>False
  |none=>False
 |_=>False
def dB (hp:HP) (n:Nat) (k:Prop):Prop:=match hp n with
 |some (.cells _ _)=>k
 |_=>False
def kC (hp:HP) (n j:Nat) (k:Ty->Prop):Prop:=match hp n with
 |some (.row t l _)=>ob (decide (j<l.length)) (k t)
 |some (.gv _ _ _ t _ l)=>ob (decide (j<l.length)) (k t)
 |some (.dp t l _ _ _)=>ob (decide (j<l.length)) (k t)
 |_=>False
def aak (hp:HP) (n:Nat):Bool:=match hp n with
 |some (.rc (_::_))=>true
 |_=>false
def Co (hp:HP) (p:Nat) (k:(n:Nat)->Option Nat->Option Nat->Nat->List Nat->Prop):Prop:=match hp p with
 |some (.row _ l _)=>k p none none l.length [p]
 |some (.gv _ _ _ _ _ l)=>k p none none l.length [p]
 |some (.dp _ l _ _ _)=>k p none none l.length [p]
 |some (.alias n s q)=>match hp n with
  |some (.row _ l _)=>k n (some s) q (fc l.length s q) [p,n]
  |_=>False
 |_=>False
def gk:Option Nat->Nat->Nat
 |none,j=>j
 |some s,j=>s+j
def ld (i:TI) (x:AV) (f:Nat) (hp:HP) (k:Rec->Prop):Prop:=
 match i.desc with
 | .struct fs=>match fs[f]? with
  |some fd=>match aJ ctx.tt fd.type with
   |some fi=>if fi.size=0 then False else match x with
    | .v (.one (.ptr n off))=>dB hp n (k {val:= .v (.one (.ptr n (off+fd.offset))),aH:= [n]})
    | .v (.one (.lZ n off))=>dB hp n (k {val:= .v (.one (.lZ n (off+fd.offset))),aH:= [n]})
    | .v (.one (.cK n j q))=>(match aak hp n with
     |true=>k {val:= .v (.one (.cK n j (q+fd.offset))),aH:= [n]}
     |false=>kC hp n j fun _=>k {val:= .v (.one (.cK n j (q+fd.offset))),aH:= [n]})
    | .v (.one (.fk n j q))=>kC hp n j fun _=>k {val:= .v (.one (.fk n j (q+fd.offset))),aH:= [n]}
    |_=>False
   |none=>False
  |none=>False
 |_=>False
def J7 (i:TI) (cs:List Cell) (off:Nat) (k:Rec->Prop):Prop:=
 if cY i.desc then (if off+i.size<=cs.length then k {val:= .v (.agg ((cs.drop off).take i.size))} else False)
 else match cs[off]? with
  |some c=>k {val:= .v (.one c)}
  |none=>False
def Rs (i:TI) (x:AV) (f:Nat) (k:Rec->Prop):Prop:=
 match i.desc,x with
 | .struct fs,.v (.agg cs)=>match fs[f]? with
  |some fd=>match aJ ctx.tt fd.type with
   |some fi=>J7 fi cs fd.offset k
   |none=>False
  |none=>False
 |_,_=>False
def aai (hp:HP) (n:Nat):Bool:=match hp n with
 |some (.cells cs _)=>(jg cs).isSome
 |_=>false
def Z6 (j:Int) (n:Nat):Bool:=decide (0<=j)&&decide (j<(n:Int))
def aj6 (hp:HP) (n:Nat):Bool:=match hp n with
 |some (.cells cs _)=>cs.any fun c=>match c with| .iP _ _ _=>true|_=>false
 |_=>false
def MU (j:Int) (K:Nat->Prop):Nat->Prop
 |0=>K 0
 |i+1=>cB (decide (j=((i+1:Nat):Int))) (K (i+1)) (MU j K i)
def ya (i:TI) (x ix:AV) (lit:Bool) (hp:HP) (k:Rec->Prop):Prop:=
 match ix with
 | .v (.one (.raw (.int _ j)))=>match i.desc with
  | .array n e=>match aJ ctx.tt e with
   |some ei=>match x with
    | .v (.one (.ptr m off))=>ob (Z6 j n) (dB hp m (if !lit&&aai hp m then k {val:= .v (.one (.lZ m (off+j.toNat*ei.size))),aH:= [m]} else if !lit&&aj6 hp m then MU j (fun q=>k {val:= .v (.one (.ptr m (off+q*ei.size))),aH:= [m]}) (n- 1) else k {val:= .v (.one (.ptr m (off+j.toNat*ei.size))),aH:= [m]}))
    | .v (.one (.lZ m off))=>ob (Z6 j n) (dB hp m (k {val:= .v (.one (.lZ m (off+j.toNat*ei.size))),aH:= [m]}))
    | .v (.one (.cK m jj q))=>ob (Z6 j n) (kC hp m jj fun _=>if !lit&&ae3 hp m then k {val:= .v (.one (.fk m jj (q+j.toNat*ei.size))),aH:= [m]} else k {val:= .v (.one (.cK m jj (q+j.toNat*ei.size))),aH:= [m]})
    | .v (.one (.fk m jj q))=>ob (Z6 j n) (kC hp m jj fun _=>k {val:= .v (.one (.fk m jj (q+j.toNat*ei.size))),aH:= [m]})
    |_=>False
   |none=>False
  | .slice e=>match aJ ctx.tt e with
   |some ei=>match x with
    | .v (.one (.sl m off len _))=>ob (Z6 j len) (dB hp m (if Nat.beq len 1 then k {val:= .v (.one (.ptr m off)),aH:= [m]} else if !lit&&aai hp m then k {val:= .v (.one (.lZ m (off+j.toNat*ei.size))),aH:= [m]} else k {val:= .v (.one (.ptr m (off+j.toNat*ei.size))),aH:= [m]}))
    | .v (.one (.full p))=>Co hp p fun m s _ len tc=>ob (Z6 j len) (kC hp m (gk s j.toNat) fun t=>if ei.size=t.size then k {val:= .v (.one (.cK m (gk s j.toNat) 0)),aH:=tc} else False)
    | .v (.one (.raw (.slice none 0 _)))=>ob (Z6 j 0) False
    |_=>False
   |none=>False
  |_=>False
 |_=>False
def RU (i:TI) (x ix:AV) (lit:Bool) (k:Rec->Prop):Prop:=
 match ix with
 | .v (.one (.raw (.int _ j)))=>match i.desc,x with
  | .array n e,.v (.agg cs)=>match aJ ctx.tt e with
   |some ei=>ob (Z6 j n) (if lit then J7 ei cs (j.toNat*ei.size) k else match jg cs with
    |some ns=>if cs.length=n*ei.size then (match uY ei.desc (qg ns (j.toNat*ei.size) ei.size) with
     |some v=>k {val:=v}
     |none=>False) else False
    |none=>J7 ei cs (j.toNat*ei.size) k)
   |none=>False
  | .string,.v (.one (.raw (.string s)))=>ob (Z6 j s.size) (k {val:=gb .u8 (s.get! j.toNat).toNat})
  |_,_=>False
 |_=>False
def rH (b:Option AV) (top dflt:Nat) (k:Nat->Prop):Prop:=
 match b with
 |none=>k dflt
 |some (.v (.one (.raw (.int _ j))))=>ob (decide (0<=j)&&decide (j<=(top:Int))) (k j.toNat)
 |_=>False
def S8 (hp:HP) (n es:Nat) (k:Prop):Prop:=match hp n with
 |some (.row t _ _)=>if es=t.size then k else False
 |_=>False
def Ek (hp:HP) (p:Nat):Option (List Int):=match hp p with
 |some (.row (.int .i64) l 3)=>some l
 |_=>none
def SN (i:TI) (x:AV) (lo hi mx:Option AV) (hp:HP) (nm:Nat) (k:Rec->Prop):Prop:=
 match i.desc with
 | .array n e=>match aJ ctx.tt e,x,mx with
  | some ei,.v (.one (.ptr m off)),none=>rH hi n n fun h=>rH lo h 0 fun l=>
    dB hp m (k {val:= .v (.one (.sl m (if n=l then off else off+l*ei.size) (h- l) (n- l))),aH:= [m]})
  |_,_,_=>False
 | .slice e=>match aJ ctx.tt e,x with
  | some ei,.v (.one (.sl m off len cap))=>rH mx cap cap fun c=>rH hi (if mx.isSome then c else cap) len fun h=>rH lo h 0 fun l=>
    if mx.isSome&&hi.isNone then False else k {val:= .v (.one (.sl m (if c=l then off else off+l*ei.size) (h- l) (c- l)))}
  |some ei,.v (.one (.full p))=>Co hp p fun m s q len tc=>S8 hp m ei.size (match mx with
   |none=>match hi with
    |none=>match Ek hp p with
     |some l0=>rH lo l0.length 0 fun j=>k {val:= .v (.one (.full nm)),fresh:= [.row (.int .i64) (l0.drop j) 3],writes:= [(p,.gone)],aH:= [p]}
     |none=>rH lo len 0 fun l=>k {val:= .v (.one (.full nm)),fresh:= [.alias m (gk s l) (q.map fun _=>len- l)],aH:=tc}
    |some _=>match Ek hp p,lo with
     |some l0,none=>rH hi l0.length l0.length fun h=>k {val:= .v (.one (.full nm)),fresh:= [.row (.int .i64) (l0.take h) 3],writes:= [(p,.gone)],aH:= [p]}
     |_,_=>rH hi len len fun h=>rH lo h 0 fun l=>k {val:= .v (.one (.full nm)),fresh:= [.alias m (gk s l) (some (h- l))],aH:=tc}
   |some _=>rH mx len len fun c=>rH hi c 0 fun h=>rH lo h 0 fun l=>if hi.isNone then False else k {val:= .v (.one (.full nm)),fresh:= [.alias m (gk s l) (some (h- l))],aH:=tc})
  |some _,.v (.one (.raw (.slice none 0 c)))=>match mx with
   |none=>rH hi 0 0 fun h=>rH lo h 0 fun l=>if h=0/\ l=0/\ c=0 then k {val:= .v (.one (.raw (.slice none 0 0)))} else False
   |some _=>False
  |_,_=>False
 | .string=>match x,mx with
  | .v (.one (.raw (.string s))),none=>rH hi s.size s.size fun h=>rH lo h 0 fun l=>k {val:= .v (.one (.raw (.string (s.extract l h))))}
  |_,_=>False
 |_=>False
def yM:A0->Option Value
 | .one (.raw v)=>some v
 | .one _=>none
 | .agg cs=>(Gr cs).map fun l=> .agg l.toArray
where Gr:List Cell->Option (List Value)
 | []=>some []
 | .raw v::r=>(Gr r).map (v:: ·)
 |_::_=>none
def abW:AV->Option Value
 | .v a=>yM a
 |_=>none
def HF:List AV->Option (List Value)
 | []=>some []
 |x::r=>match abW x,HF r with
  |some v,some l=>some (v::l)
  |_,_=>none
def abX:AV->Option Ref
 | .v (.one (.ptr n off))=>some (.loc n off)
 | .v (.one (.cK n j 0))=>some (.elem n j)
 | .v (.one (.raw v))=>some (.ext v)
 | .v (.one (.full n))=>some (.full n)
 | .v (.one (.mp n))=>some (.mp n)
 |_=>none
def HG:List AV->Option (List Ref)
 | []=>some []
 |x::r=>match abX x,HG r with
  |some v,some l=>some (v::l)
  |_,_=>none
def zY:Ref->AV
 | .ext v=>ofV v
 | .loc n off=> .v (.one (.ptr n off))
 | .elem n j=> .v (.one (.cK n j 0))
 | .full n=> .v (.one (.full n))
 | .mp n=> .v (.one (.mp n))
def DN:Cell->Option Ref
 | .ptr n off=>some (.loc n off)
 | .cK n j 0=>some (.elem n j)
 | .raw v=>if u9 v then some (.ext v) else none
 | .full n=>some (.full n)
 | .mp n=>some (.mp n)
 |_=>none
def tQ:List Cell->Option (List Ref)
 | []=>some []
 |c::r=>match DN c,tQ r with
  |some x,some l=>some (x::l)
  |_,_=>none
def SC:AV->Option (Bool×List Ref)
 | .v (.agg cs)=>match tQ cs with
  |some l=>some (true,l)
  |none=>none
 | .v (.one c)=>match DN c with
  |some r=>some (false,[r])
  |none=>none
 |_=>none
def z9:Ref->Cell
 | .ext v=> .raw v
 | .loc n off=> .ptr n off
 | .elem n j=> .cK n j 0
 | .full n=> .full n
 | .mp n=> .mp n
def Po (agg:Bool) (rs:List Ref):AV:=match agg with
 |true=> .v (.agg (rs.map z9))
 |false=>match rs with
  | [r]=> .v (.one (z9 r))
  |_=> .nC []
def oE (ev:Operand->AV):List Operand->List AV
 | []=> []
 |x::r=>ev x::oE ev r
def bt (x y:Int):Int:=if y<x then y else x
def bf (x y:Int):Int:=if y>x then y else x
def wg (f:Int->Int->Int):Int->List AV->Option Int
 |a,[]=>some a
 |a,.v (.one (.raw (.int _ b)))::r=>wg f (f a b) r
 |_,_=>none
def Lx (i:Option Ty) (x:AV) (hp:HP) (k:(t:Ty)->List t.T->Nat->List Nat->Nat->List Nat->Prop):Prop:=
 match x with
 | .v (.one (.raw (.slice none 0 0)))=>match i with
  |some t=>k t [] 2 [] 0 []
  |none=>False
 | .v (.one (.full n))=>match hp n with
  |some (.row t l rk)=>if rk=0 then False else k t l rk [n] 0 []
  |_=>False
 | .v (.one (.sl n _ 0 c))=>match i with
  |some t=>match hp n with
   |some (.cells _ _)=>k t [] 3 [] c [n]
   |_=>False
  |none=>False
 |_=>False
def o9 (rk:Nat) (f:Bool):Nat:=match f with
 |true=>rk
 |false=>match rk with
  |3=>3
  |_=>1
def dY:List Nat->Bool
 | []=>true
 |x::r=> !r.contains x&&dY r
def Br (hp:HP) (t:Ty) (y:AV):Option (List Nat×Bool):=if t.flat then some ([],true) else
 match y with
 | .v (.one (.sl n off len _))=>match hp n with
  |some (.cells cs _)=>Sr hp t len (cs.drop off)
  |_=>none
 | .v (.one (.full n))=>match hp n with
  |some (.row _ _ rk)=>if rk=2 then some ([],true) else some ([],false)
  |some (.alias _ _ _)=>some ([],false)
  |_=>none
 | .v (.one (.raw (.slice none 0 _)))=>some ([],true)
 |_=>none
def Lz (x y:AV) (ei:TI) (hp:HP) (nm:Nat) (k:Rec->Prop):Prop:=
 Lx ei.ty x hp fun t l rk gone c tb=>if ei.size=t.size/\ ei.bytes<=128/\ (kE ei.zero).length=ei.size then
  match y with
  | .v (.one yc)=>match b9 hp (.sl t) [yc] with
   |some (ys,[],tc)=>match Br hp t y with
    |some (ab,f)=>if dY (gone++ab)&&(Nat.ble c 0||Nat.blt c ys.length) then ob (decide (l.length+ys.length<1099511627776)) (k {val:= .v (.one (.full nm)),fresh:= [.row t (l++ys) (o9 rk f)],writes:=(gone++ab).map fun n=>(n,.gone),aH:=gone++ab++tc++tb}) else False
    |none=>False
   |_=>False
  |_=>False
 else False
def pG (a b:Nat):Nat:=Nat.min b a
def iX {α:Type} (l:List α) (s d:Nat) (ys:List α):List α:=l.take s++ys.take (pG d ys.length)++l.drop (s+pG d ys.length)
def YQ (x y:AV) (ei:TI) (hp:HP) (k:Rec->Prop):Prop:=match x,y with
 | .v (.one (.full p)),.v (.one yc)=>Co hp p fun n s _ len tc=>match hp n with
  |some (.row t l rk)=>if (rk≠0/\ rk≠3)/\ t.flat=true/\ ei.size=t.size then (match b9 hp (.sl t) [yc] with
   |some (ys,[],yL)=>True/\ ∀l',l'=iX l (gk s 0) len ys->k {val:=gb .i64 (pG len ys.length:Nat),writes:= [(n,.row t l' rk)],aH:=n::(tc++yL)}
   |_=>False) else False
  |_=>False
 |_,_=>False
def EX (b:Builtin) (tys:List TypeId) (args:List AV) (hp:HP) (nm:Nat) (k:Rec->Prop):Prop:=
 match b,args with
 | .len,[x]=>match tys with
  |t::_=>match aJ ctx.tt t with
   |some i=>match i.desc,x with
    | .slice _,.v (.one (.sl _ _ len _))=>k {val:=gb .i64 len}
    | .slice _,.v (.one (.full p))=>Co hp p fun _ _ _ len tc=>k {val:=gb .i64 len,aH:=tc}
    | .slice _,.v (.one (.raw (.slice _ len _)))=>k {val:=gb .i64 len}
    | .string,.v (.one (.raw (.string s)))=>k {val:=gb .i64 s.size}
    |_,_=>False
   |none=>False
  | []=>False
 | .min,.v (.one (.raw (.int kk a)))::r=>match wg bt a r with
  |some n=>k {val:=gb kk n}
  |none=>False
 | .max,.v (.one (.raw (.int kk a)))::r=>match wg bf a r with
  |some n=>k {val:=gb kk n}
  |none=>False
 | .append,[x,y]=>match tys with
  | [t,t']=>match aJ ctx.tt t,aJ ctx.tt t' with
   |some i,some i'=>match i.desc,i'.desc with
    | .slice e,.slice _=>match aJ ctx.tt e with
     |some ei=>Lz x y ei hp nm k
     |none=>False
    |_,_=>False
   |_,_=>False
  |_=>False
 | .copy,[x,y]=>match tys with
  | [t,_]=>match aJ ctx.tt t with
   |some i=>match i.desc with
    | .slice e=>match aJ ctx.tt e with
     |some ei=>YQ x y ei hp k
     |none=>False
    |_=>False
   |none=>False
  |_=>False
 |_,_=>False
def lu (i:TI) (x y:AV) (nm:Nat) (k:Rec->Prop):Prop:=
 match i.desc,x,y with
 | .slice e,.v (.one (.raw (.int .i64 n))),.v (.one (.raw (.int .i64 c)))=>match aJ ctx.tt e with
  |some ei=>match ei.ty with
   |some t=>if t.flat/\ ei.size=t.size/\ ei.bytes<=128/\ (kE ei.zero).length=ei.size then (match b9 (fun _=>none) t (kE ei.zero) with
    |some (z,[],_)=>ob (decide (0<=n)&&decide (n<=c)&&decide (c.toNat<1099511627776)) (k {val:= .v (.one (.full nm)),fresh:= [.row t (List.replicate n.toNat z) 2]})
    |_=>False) else False
   |none=>False
  |none=>False
 |_,_,_=>False
def Pj (t:Ty) (x:t.T):List Cell:=(t.aT x).map fun c=> .raw (bF c)
def YM:Cell->Option (FuncId×List AV×List AV)
 | .iP (.func g) first cap=>some (g,first.map ofV,cap.map zY)
 | .mv g agg rs=>some (g,[Po agg rs],[])
 |_=>none
def Ja (c:Call) (ev:Operand->AV) (hp:HP) (nm:Nat) (k:Rec->Prop):Prop:=
 match c.callee with
 | .builtin b=>EX ctx b c.argTypes.toList (oE ev c.args.toList) hp nm k
 | .value f=>match ev f with
  | .v (.one q)=>match YM q with
   |some (g,fs,cs)=>match aJ ctx.specs g with
    |some s=>s ctx.X (fs++oE ev c.args.toList++cs) hp nm k
    |none=>match aJ ctx.its g with
     |some R6=> ∀aQ:Env,R6 [] (fs++oE ev c.args.toList++cs) (gQ hp nm++ [.bT aQ nm]) fun v st=>pR (aj st.heap nm) aQ nm (k (zf hp nm st.heap v))
     |none=>False
   |none=>match q with
    | .raw (.func (.func g) first cap)=>match aJ ctx.specs g with
     |some s=>s ctx.X (first.toList.map ofV++oE ev c.args.toList++cap.toList.map ofV) hp nm k
     |none=>False
    | .Ic n=>match aJ ctx.ys n with
     |some s=>s ctx.X (oE ev c.args.toList) hp nm k
     |none=>False
    |_=>False
  |_=>False
 |_=>False
def ac2 (tt:List (Nat×TI)) (t:TypeId):Bool:=match aJ tt t with|some i=>cY i.desc|none=>false
def agB (op:BinOp) (t:TypeId) (x y:AV) (k:Rec->Prop):Prop:=
 match x,y with
 | .v (.one (.raw (.int kk a))),.v (.one (.raw (.int k' b)))=>match op with
  | .shl=>ob (decide (0<=b)) (k {val:=gb kk (kk.wrap (a*2^(min b.toNat kk.bits)))})
  | .shr=>ob (decide (0<=b)) (k {val:=gb kk (a.fdiv (2^(min b.toNat kk.bits)))})
  |op=>if kk=k' then R1 op kk a b k else False
 | .v (.one (.raw (.bool a))),.v (.one (.raw (.bool b)))=>match op with
  | .eql=>match aJ ctx.tt t with|some i=>(match i.desc with| .bool=>k {val:=bD (a==b)} |_=>False)|none=>False
  | .neq=>match aJ ctx.tt t with|some i=>(match i.desc with| .bool=>k {val:=bD (!(a==b))} |_=>False)|none=>False
  |_=>False
 | .v (.one (.raw (.string a))),.v (.one (.raw (.string b)))=>match op with
  | .eql=>k {val:=bD (a==b)}
  | .neq=>k {val:=bD (a !=b)}
  | .add=>ob (decide (a.size+b.size<4611686018427387904)) (k {val:= .v (.one (.raw (.string (a++b))))})
  |_=>False
 | .v (.agg xs),.v (.agg ys)=>match op with
  | .eql=>match ac2 ctx.tt t,eqE ctx.tt 20 t xs ys with|true,some b=>k {val:=bD b} |_,_=>False
  | .neq=>match ac2 ctx.tt t,eqE ctx.tt 20 t xs ys with|true,some b=>k {val:=bD (!b)} |_,_=>False
  |_=>False
 | .v (.one (.raw (.slice a _ _))),.v (.one (.raw (.slice none _ _)))=>match aJ ctx.tt t with
  |some i=>match i.desc,op with
   | .slice _,.eql=>k {val:=bD a.isNone}
   | .slice _,.neq=>k {val:=bD (!a.isNone)}
   |_,_=>False
  |none=>False
 |_,_=>False
def ahD:AV->Bool
 | .v (.one (.ptr _ _))=>true
 | .v (.one (.raw (.pointer _)))=>true
 |_=>false
def ahZ (op:BinOp) (t:TypeId) (x y:AV) (hp:HP) (k:Rec->Prop):Prop:=match x,y with
 | .v (.one (.ptr n _)),.v (.one (.raw (.pointer none)))=>match aJ ctx.tt t with
  |some i=>match i.desc,op with
   | .pointer _,.eql=>dB hp n (k {val:=bD false,aH:= [n]})
   | .pointer _,.neq=>dB hp n (k {val:=bD true,aH:= [n]})
   |_,_=>False
  |none=>False
 | .v (.one (.raw (.pointer a))),.v (.one (.raw (.pointer none)))=>match aJ ctx.tt t with
  |some i=>match i.desc,op with
   | .pointer _,.eql=>k {val:=bD a.isNone}
   | .pointer _,.neq=>k {val:=bD (!a.isNone)}
   |_,_=>False
  |none=>False
 |_,_=>False
def ndB (x y:AV):Bool:= !ctx.its.isEmpty&&(match x,y with
 | .v (.one (.full _)),.v (.one (.raw (.slice none 0 0)))=>true
 |_,_=>false)
def ahQ (op:BinOp) (t:TypeId) (x y:AV) (hp:HP) (k:Rec->Prop):Prop:=match x,y with
 | .v (.one (.full n)),.v (.one (.raw (.slice none 0 0)))=>match hp n,aJ ctx.tt t with
  |some (.row _ l _),some i=>match i.desc,op with
   | .slice _,.eql=> ∀b:Bool,(0<l.length->b=false)->k {val:=bD b,aH:= [n]}
   | .slice _,.neq=> ∀b:Bool,(0<l.length->b=false)->k {val:=bD (!b),aH:= [n]}
   |_,_=>False
  |_,_=>False
 |_,_=>False
def Ed (o:Op) (ev:Operand->AV) (hp:HP) (nm:Nat) (k:Rec->Prop):Prop:=
 match o with
 | .move x=>k {val:=ev x}
 | .assign x=>k {val:=ev x}
 | .pick c a b=>match ev c with
  | .v (.one (.raw (.bool t)))=>cB t (k {val:=ev a}) (k {val:=ev b})
  |_=>False
 | .alloc t=>match aJ ctx.tt t with
  |some i=>k {val:= .v (.one (.ptr nm 0)),fresh:= [.cells (kE i.zero) t]}
  |none=>False
 | .box t x=>match (ev x).cells with
  |some xs=>k {val:= .v (.one (.ptr nm 0)),fresh:= [.cells xs t]}
  |none=>False
 | .build t parts=>match aJ ctx.tt t with
  |some i=>Rb ctx i parts.toList ev k
  |none=>False
 | .buildSlice t len parts=>match aJ ctx.tt t with
  |some i=>if Nat.beq len 0&&parts.toList.isEmpty then lu ctx i (.v (.one (.raw (.int .i64 0)))) (.v (.one (.raw (.int .i64 0)))) nm k else tP ctx i len parts.toList ev nm k
  |none=>False
 | .load t x=>match aJ ctx.tt t with
  |some i=>pT i (ev x) hp nm k
  |none=>False
 | .store t x y=>match aJ ctx.tt t with
  |some i=>oP i (ev x) (ev y) hp k
  |none=>False
 | .nilCheck x=>match ev x with
  | .v (.one (.ptr n off))=>dB hp n (k {val:= .v (.one (.ptr n off)),aH:= [n]})
  | .v (.one (.lZ n off))=>dB hp n (k {val:= .v (.one (.lZ n off)),aH:= [n]})
  | .v (.one (.cK n j q))=>(match aak hp n with
   |true=>k {val:= .v (.one (.cK n j q)),aH:= [n]}
   |false=>kC hp n j fun _=>k {val:= .v (.one (.cK n j q)),aH:= [n]})
  | .v (.one (.fk n j q))=>kC hp n j fun _=>k {val:= .v (.one (.fk n j q)),aH:= [n]}
  | .v (.one (.iP (.func f) first cap))=>k {val:= .v (.one (.iP (.func f) first cap))}
  | .v (.one (.mv f agg rs))=>k {val:= .v (.one (.mv f agg rs))}
  | .v (.one (.raw (.pointer (some a))))=>k {val:= .v (.one (.raw (.pointer (some a))))}
  | .v (.one (.raw (.func (.func f) first cap)))=>k {val:= .v (.one (.raw (.func (.func f) first cap)))}
  |_=>False
 | .binOp op t x y _=>if ndB ctx (ev x) (ev y) then ahQ ctx op t (ev x) (ev y) hp k else if ahD (ev x) then ahZ ctx op t (ev x) (ev y) hp k else agB ctx op t (ev x) (ev y) k
 | .unOp u _ x=>match u,ev x with
  | .neg,.v (.one (.raw (.int kk a)))=>k {val:=gb kk (kk.wrap (0- a))}
  | .not,.v (.one (.raw (.bool b)))=>k {val:=bD (!b)}
  |_,_=>False
 | .convert s d x=>match aJ ctx.tt s,aJ ctx.tt d with
  |some _,some i=>match i.desc,ev x with
   | .int kk,.v (.one (.raw (.int _ a)))=>k {val:=gb kk (kk.wrap a)}
   |_,_=>False
  |_,_=>False
 | .makeFunc fn first cap=>match HF (oE ev first.toList),HG (oE ev cap.toList) with
  |some f,some c=>k {val:= .v (.one (.iP fn f c))}
  |_,_=>match fn,oE ev first.toList,cap.toList with
   | .func g,[r],[]=>match SC r with
    |some (agg,rs)=>k {val:= .v (.one (.mv g agg rs))}
    |none=>False
   |_,_,_=>False
 | .slice t x lo hi mx=>match aJ ctx.tt t with
  |some i=>SN ctx i (ev x) (lo.map ev) (hi.map ev) (mx.map ev) hp nm k
  |none=>False
 | .makeSlice t x y=>match aJ ctx.tt t with
  |some i=>lu ctx i (ev x) (ev y) nm k
  |none=>False
 | .fieldAddr t x f=>match aJ ctx.tt t with
  |some i=>ld ctx i (ev x) f hp k
  |none=>False
 | .field t x f=>match aJ ctx.tt t with
  |some i=>Rs ctx i (ev x) f k
  |none=>False
 | .indexAddr t x ix=>match aJ ctx.tt t with
  |some i=>ya ctx i (ev x) (ev ix) (OH ix) hp k
  |none=>False
 | .index t x ix=>match aJ ctx.tt t with
  |some i=>RU ctx i (ev x) (ev ix) (OH ix) k
  |none=>False
 | .extract x i=>match ev x with
  | .nC l=>match l[i]? with|some a=>k {val:= .v a} |none=>False
  |_=>False
 | .call c=>Ja ctx c ev hp nm k
 |_=>False
def jb (tmps:List AV):Option Nat->AV->List AV
 |some d,v=>tmps.set d v
 |none,_=>tmps
def AS.app (st:AS) (dst:Option Nat) (r:Rec):AS:=
 {tmps:=jb st.tmps dst r.val,heap:=r.writes.foldl (fun h p=>h.set p.1 p.2) st.heap++r.fresh}
inductive Ey
 |blk
 |full (off m:Nat)
def Ey.hit:Ey->Option aG->Bool
 | .blk,some (.cells _ _)=>true
 | .full off m,some (.cells cs _)=>match cs[off]? with
  |some (.full m')=>Nat.beq m' m
  |_=>false
 |_,_=>false
def dP (o:Op) (ev:Operand->AV) (v:AV):Option (Nat×Ey):=match o with
 | .load _ x=>match ev x,v with
  | .v (.one (.ptr n off)),.v (.one (.full m))=>some (n,.full off m)
  |_,_=>none
 | .fieldAddr _ x _=>match ev x with
  | .v (.one (.ptr n _))=>some (n,.blk)
  |_=>none
 | .nilCheck x=>match ev x with
  | .v (.one (.ptr n _))=>some (n,.blk)
  |_=>none
 |_=>none
structure fD where
 nm:Nat
 cnt:Nat
 aH:List Nat
 wr:List Nat
 look:Option (Nat×Ey):=none
 ws:List (Nat×aG):= []
def JU (o:Op) (ev:Operand->AV) (nm:Nat) (r:Rec):fD:= {nm:=nm,cnt:=r.fresh.length,aH:=r.aH,wr:=r.writes.map (·.1),look:=dP o ev r.val,ws:=r.writes}
def lQ (nm:Nat):fD:= {nm:=nm,cnt:=0,aH:= [],wr:= []}
def tZ (ops:Array Oper) (j:Nat):Option Nat:=match ops[j]? with
 |some o=>o.dst
 |none=>none
def ahR (o:Op) (ev:Operand->AV):Bool:=o.operands.toList.all fun x=> !(ev x).FV
def qb (o:Op) (st:AS) (k:Rec->Prop):Prop:=if ahR o (cr st.tmps) then Ed ctx o (cr st.tmps) (aj st.heap) st.heap.length k else False
def mL (all:Array Oper):List Oper->List Nat->AS->List fD->(AS->List fD->Prop)->Prop
  | [],_,st,lg,K=>K st lg
  | o::rest,dec,st,lg,K=>match o.guard with
    |none=>qb ctx o.op st fun r=>mL all rest dec (st.app o.dst r) (lg++ [JU o.op (cr st.tmps) st.heap.length r]) K
    | some (j,want)=>match tZ all j with
      | some d=>match bP st.tmps d with
        | .v (.one (.raw (.bool x)))=>
          if dec.contains d then
            (if x=want then qb ctx o.op st fun r=>mL all rest dec (st.app o.dst r) (lg++ [JU o.op (cr st.tmps) st.heap.length r]) K
             else mL all rest dec {st with tmps:=jb st.tmps o.dst bU} (lg++ [lQ st.heap.length]) K)
          else
            (match want with
             |true=>cB x (qb ctx o.op {st with tmps:=st.tmps.set d (bD true)} fun r=>mL all rest (d::dec) ({st with tmps:=st.tmps.set d (bD true)}.app o.dst r) (lg++ [JU o.op (cr (st.tmps.set d (bD true))) st.heap.length r]) K)
                (mL all rest (d::dec) {st with tmps:=jb (st.tmps.set d (bD false)) o.dst bU} (lg++ [lQ st.heap.length]) K)
             |false=>cB x (mL all rest (d::dec) {st with tmps:=jb (st.tmps.set d (bD true)) o.dst bU} (lg++ [lQ st.heap.length]) K)
                (qb ctx o.op {st with tmps:=st.tmps.set d (bD false)} fun r=>mL all rest (d::dec) ({st with tmps:=st.tmps.set d (bD false)}.app o.dst r) (lg++ [JU o.op (cr (st.tmps.set d (bD false))) st.heap.length r]) K))
        | .nC []=>mL all rest dec {st with tmps:=jb st.tmps o.dst bU} (lg++ [lQ st.heap.length]) K
        |_=>False
      |none=>False
def direct (o:Oper):List Nat:=(o.after.toList.filter (Region.binds .any)).map (·.on)
def masks:List Oper->List Nat->List Nat
 | [],acc=>acc
 |o::r,acc=>masks r (acc++ [(direct o).foldl (fun s j=>s|||(2^j|||acc.getD j 0)) 0])
def Jh (a b:List Nat):Bool:=a.all fun x=> !b.contains x
def zU (lg:List fD) (m:Nat):Option Nat:=lg.findIdx? fun l=>l.nm<=m&&m<l.nm+l.cnt
def j9 (ops:Array Oper) (o:Oper):List Nat:=
 (o.op.operands.toList.filterMap fun| .tmp t=>some t|_=>none)++(match o.guard with|some (g,_)=>(tZ ops g).toList|none=> [])
def Sq (ops:Array Oper) (ms:List Nat) (lg:List fD) (i:Nat):Bool:=
  match ops[i]?,lg[i]? with
  | some o,some l=>
    (direct o).all (· <i)&&(l.wr.all fun m=>l.aH.contains m)&&
    (l.aH.all fun m=>match zU lg m with|some j=>j==i||(ms.getD i 0).testBit j|none=>true)&&
    (List.range i).all fun j=>(ms.getD i 0).testBit j||
      (match ops[j]?,lg[j]? with
       |some p,some q=>Jh l.wr q.aH&&Jh q.wr l.aH&&Jh l.wr q.wr&&
          (match p.dst with|some d=>o.dst !=some d&& !(j9 ops o).contains d|none=>true)&&
          (match o.dst with|some d=> !(j9 ops p).contains d|none=>true)
       |_,_=>false)
  |_,_=>false
def Ur (ops:Array Oper) (lg:List fD):Bool:=
 lg.length==ops.size&&(List.range ops.size).all (Sq ops (masks ops.toList []) lg)
def yf (x:Nat):List Nat->Bool
 | []=>false
 |y::r=>Nat.beq x y||yf x r
def afa:List Nat->List Nat->Bool
 | [],_=>true
 |x::r,l=>yf x l&&afa r l
def oZ:List Nat->List Nat->Bool
 | [],_=>true
 |x::r,l=> !yf x l&&oZ r l
def Mr:List Oper->Nat->List Nat->List Nat
 | [],_,acc=>acc
 |o::r,k,acc=>Mr r (k+1) ((direct o).foldl (fun s j=>s|||(2^j|||(bif Nat.blt j k then acc.getD (k- 1- j) 0 else 0))) 0::acc)
def msF (ops:Array Oper):List Nat:=(Mr ops.toList 0 []).reverse
structure OI where
 d:Option Nat
 lk:List Nat
 m:Nat
def oiL (all:Array Oper):List Oper->List Nat->List OI
 |o::r,m::ms=>⟨o.dst,j9 all o,m⟩::oiL all r ms
 |_,_=> []
def Vd (o p:OI):Bool:=
 (match p.d with
  |some d=>(match o.d with|some e=> !Nat.beq e d|none=>true)&& !yf d o.lk
  |none=>true)&&
 (match o.d with
  |some d=> !yf d p.lk
  |none=>true)
def A3 (o:OI):List OI->Nat->Nat->Bool
 |p::r,j,k+1=>(o.m.testBit j||Vd o p)&&A3 o r (j+1) k
 |_,_,_=>true
def Ej (all:List OI):List OI->Nat->Bool
 | [],_=>true
 |o::r,i=>A3 o all 0 i&&Ej all r (i+1)
def LS:List Oper->Nat->Bool
 | [],_=>true
 |o::r,i=>((direct o).all fun j=>Nat.blt j i)&&LS r (i+1)
def abR (ops:Array Oper):Bool:=LS ops.toList 0&&Ej (oiL ops ops.toList (msF ops)) (oiL ops ops.toList (msF ops)) 0
structure DI where
 i:Nat
 m:Nat
 t:List Nat
 w:List Nat
def VO:List fD->List Nat->Nat->List DI
 |l::r,m::ms,i=>(match l.aH,l.wr with
  | [],[]=>VO r ms (i+1)
  |t,w=>⟨i,m,t,w⟩::VO r ms (i+1))
 |_,_,_=> []
def mkL:List fD->Nat->List (Nat×Nat×Nat)
 | [],_=> []
 |l::r,i=>match l.cnt with
  |0=>mkL r (i+1)
  |c=>(i,l.nm,c)::mkL r (i+1)
def Mq (x:Nat):List (Nat×Nat×Nat)->Option Nat
 | []=>none
 |p::r=>bif Nat.ble p.2.1 x&&Nat.blt x (p.2.1+p.2.2) then some p.1 else Mq x r
def Rm (mk:List (Nat×Nat×Nat)) (o:DI):Bool:=
 afa o.w o.t&&o.t.all fun x=>match Mq x mk with|some j=>Nat.beq j o.i||o.m.testBit j|none=>true
def vZ (o p:DI):Bool:=Nat.ble o.i p.i||o.m.testBit p.i||(oZ o.w p.t&&oZ p.w o.t&&oZ o.w p.w)
def wsL:List DI->List DI
 | []=> []
 |o::r=>match o.w with
  | []=>wsL r
  |_=>o::wsL r
def Y0 (D:List DI) (mk:List (Nat×Nat×Nat)):Bool:=(D.all fun o=>Rm mk o)&&(wsL D).all fun p=>D.all fun o=>vZ o p&&vZ p o
def force {α:Type} (n:Nat) (k:Nat->α):α:=match n with
 |0=>k 0
 |m+1=>k (m+1)
def Fu {α:Type} :List Nat->(List Nat->α)->α
 | [],k=>k []
 |x::r,k=>force x fun v=>Fu r fun l=>k (v::l)
def DW {α:Type} :List fD->(List fD->α)->α
 | [],k=>k []
 |e::r,k=>force e.nm fun a=>force e.cnt fun b=>Fu e.aH fun t=>Fu e.wr fun w=>DW r fun l=>k ({nm:=a,cnt:=b,aH:=t,wr:=w,look:=e.look,ws:=e.ws} ::l)
def sy (ops:Array Oper) (lg:List fD):Bool:=DW lg fun lg=>
 Nat.beq lg.length ops.size&&abR ops&&Y0 (VO lg (msF ops) 0) (mkL lg 0)
def acy (n:Nat) (q:Ey):List (Nat×aG)->Bool
 | []=>true
 |p::r=>(!Nat.beq p.1 n||q.hit (some p.2))&&acy n q r
def Ds (n:Nat) (q:Ey):List fD->Bool
 | []=>true
 |l::r=>acy n q l.ws&&Ds n q r
def N3 (h0:List aG) (all:List fD) (l:fD):fD:=match l.look,l.aH,l.wr with
 |some (n,q),[m],[]=>bif Nat.beq m n&&Nat.blt n h0.length&&q.hit (aj h0 n)&&Ds n q all then {nm:=l.nm,cnt:=l.cnt,aH:= [],wr:= []} else l
 |_,_,_=>l
def adp (h0:List aG) (lg:List fD):List fD:=lg.map (N3 h0 lg)
def iV (ops:Array Oper) (draw:Bool) (st:AS) (K:AS->Prop):Prop:=
 if draw then mL {ctx with ys:= [],its:= []} ops ops.toList [] st [] fun st' lg=>if sy ops lg then K st' else if sy ops (adp st.heap lg) then K st' else False
 else mL ctx ops ops.toList [] st [] fun st' _=>K st'
inductive Src
 |same (m:Nat)
 |nil
 |cells (m len:Nat)
 |mt (m off:Nat)
 |any (m:Nat)
def iG (π:List Src) (n:Nat):Option Nat:=match π[n]? with
 |some (.same m)=>some m
 |_=>none
def oJ (π:List Src):Ref->Option Ref
 | .ext v=>some (.ext v)
 | .loc n o=>match iG π n with|some m=>some (.loc m o)|none=>none
 | .elem n j=>match iG π n with|some m=>some (.elem m j)|none=>none
 | .full n=>match iG π n with|some m=>some (.full m)|none=>none
 | .mp n=>match iG π n with|some m=>some (.mp m)|none=>none
def jq (π:List Src):List Ref->Option (List Ref)
 | []=>some []
 |r::l=>match oJ π r,jq π l with|some q,some m=>some (q::m)|_,_=>none
def jh (π:List Src):Cell->Option Cell
 | .raw v=>some (.raw v)
 | .ptr n o=>match iG π n with|some m=>some (.ptr m o)|none=>none
 | .lZ n o=>match iG π n with|some m=>some (.lZ m o)|none=>none
 | .sl n o l c=>match iG π n with|some m=>some (.sl m o l c)|none=>none
 | .cK n j k=>match iG π n with|some m=>some (.cK m j k)|none=>none
 | .fk n j k=>match iG π n with|some m=>some (.fk m j k)|none=>none
 | .full n=>match π[n]? with
  |some (.same m)=>some (.full m)
  |some .nil=>some (.raw (.slice none 0 0))
  |some (.cells m len)=>some (.sl m 0 len len)
  |some (.mt m off)=>some (.sl m off 0 0)
  |some (.any m)=>some (.full m)
  |none=>none
 | .iP f a cap=>match jq π cap with|some c=>some (.iP f a c)|none=>none
 | .Ic n=>match iG π n with|some m=>some (.Ic m)|none=>none
 | .mp n=>match iG π n with|some m=>some (.mp m)|none=>none
 | .mv f a rs=>match jq π rs with|some c=>some (.mv f a c)|none=>none
def gX (π:List Src):List Cell->Option (List Cell)
 | []=>some []
 |c::l=>match jh π c,gX π l with|some q,some m=>some (q::m)|_,_=>none
def IL (π:List Src):A0->Option A0
 | .one c=>match jh π c with|some q=>some (.one q)|none=>none
 | .agg cs=>match gX π cs with|some q=>some (.agg q)|none=>none
def gp (π:List Src):List A0->Option (List A0)
 | []=>some []
 |c::l=>match IL π c,gp π l with|some q,some m=>some (q::m)|_,_=>none
def sK (π:List Src):AV->Option AV
 | .v a=>match IL π a with|some q=>some (.v q)|none=>none
 | .nC l=>match gp π l with|some q=>some (.nC q)|none=>none
 | .dead=>none
def BG (π:List Src):Nat->Bool
 |0=>true
 |n+1=>(match π[n]? with|some (.same m)=>m==n|_=>false)&&BG π n
def fA (π:List Src):aG->Option aG
 | .cells cs e=>match gX π cs with|some q=>some (.cells q e)|none=>none
 | .row t l rk=>some (.row t l rk)
 | .alias n s q=>match iG π n with|some m=>some (.alias m s q)|none=>none
 | .gone=>none
 | .loop r s j=>some (.loop r s j)
 | .bT ρ n=>if BG π n then some (.bT ρ n) else none
 | .hide S=>some (.hide S)
 | .map ka va k v l=>some (.map ka va k v l)
 | .Jp ka k u l c q=>match iG π c with|some m=>some (.Jp ka k u l m q)|none=>none
 | .set n=>match iG π n with|some m=>some (.set m)|none=>none
 | .gv n c k u x l=>match iG π n,iG π c with|some m,some d=>some (.gv m d k u x l)|_,_=>none
 | .rc cs=>match gX π cs with|some q=>some (.rc q)|none=>none
 | .hmap es mY=>some (.hmap es mY)
 | .dp t l c st kn=>match iG π c with|some d=>some (.dp t l d st kn)|none=>none
 | .nv n c j q u=>match iG π n,iG π c with|some m,some d=>some (.nv m d j q u)|_,_=>none
 | .OP n c es mY ka k u l cur=>match iG π n,iG π c,cur with
  |some m,some d,none=>some (.OP m d es mY ka k u l none)
  |some m,some d,some (a,q)=>match iG π q with|some q'=>some (.OP m d es mY ka k u l (some (a,q')))|none=>none
  |_,_,_=>none
def Cg:Src->Option Nat
 | .same m=>some m
 | .nil=>none
 | .cells m _=>some m
 | .mt _ _=>none
 | .any m=>some m
def DG (π:List Src) (h:List aG) (s:Src) (o:aG):Prop:=match s with
 | .same m=> ∃p,aj h m=some p/\ fA π o=some p
 | .nil=> ∃t rk,o= .row t [] rk/\ rk≠0
 | .mt m _=> ∃t cs e,o= .row t [] 3/\ aj h m=some (.cells cs e)
 | .any m=> ∃t l rk,o= .row t l 3/\ aj h m=some (.row t l rk)/\ rk≠0
 | .cells m len=> ∃t l cs e rk,o= .row t l rk/\ (rk=2\/ rk=3)/\ aj h m=some (.cells cs e)/\ t.flat=true/\ xU (b9 (fun _=>none) t) len cs=some (l,[])/\ cs.length=len*t.size/\ Nat.ble len 1099511627776=true
def tf (π:List Src) (h:List aG):List Src->List aG->Prop
 |_::r,.gone::l=>tf π h r l
 |s::r,o::l=>DG π h s o/\ tf π h r l
 | [],[]=>True
 |_,_=>False
def vJ:List Src->List aG->List Nat
 |_::r,.gone::l=>vJ r l
 |s::r,_::l=>(match Cg s with|some m=>m::vJ r l|none=>vJ r l)
 |_,_=> []
def HE (π:List Src):List AV->List AV->Prop
 |_::r,.dead::s=>HE π r s
 |x::r,y::s=>sK π y=some x/\ HE π r s
 | [],[]=>True
 |_,_=>False
structure Ren (π:List Src) (st st':AS):Prop where
 tmps:HE π st.tmps st'.tmps
 heap:tf π st.heap π st'.heap
 inj:dY (vJ π st'.heap)=true
def rF (st st':AS):Prop:= ∃π,Ren π st st'
def jN (id:Nat) (K:Exit->AS->Prop) (e:Exit) (st':AS):Prop:=match e with
 | .exit id'=>if id'=id then K .normal st' else K (.exit id') st'
 |e=>K e st'
def lA:Code->Bool
 | .seq a b=>lA a&&lA b
 | .cond _ a b=>lA a&&lA b
 | .loop c=>lA c
 | .block _ c=>lA c
 | .rangeFunc _ _ _ _=>false
 | .scope c=>lA c
 |_=>true
def Ai:List AV->List Nat->List AV->List AV
 |l,t::ts,v::vs=>Ai (l.set t v) ts vs
 |l,_,_=>l
def afJ (hp:HP) (nm:Nat) (h:List aG) (b:Bool):Rec:=zf hp nm h (bD b)
def T6 (o:Option aG) (r:Loop) (K:Prop):Prop:=match o with
 |some (.loop r' .ready none)=>r'=r/\ K
 |_=>False
def R3 (o:Option aG) (r:Loop) (K:Prop):Prop:=match o with
 |some (.loop r' .busy none)=>r'=r/\ K
 |_=>False
def Mk (r:Loop):Option Code->aG
 |none=> .loop r .ready none
 |some c=> .loop r .done (some c)
def vf (hp:HP) (nm n:Nat) (r:Loop) (aQ:Env) (h:List aG) (jump:Option Code) (k:Rec->Prop):Prop:=
 R3 (aj h n) r (pR (aj h nm) aQ nm (k (afJ hp nm (h.set n (Mk r jump)) jump.isNone)))
def Uf (n:Nat) (aV:Env) (tmps:List AV) (h:List aG) (K:Exit->AS->Prop):Prop:=
 pR (aj h (n+1)) aV (n+1) (match aj h n with
  |some (.loop _ .ready none)=>K .normal ⟨tmps,(h.set n .gone).set (n+1) .gone⟩
  |some (.loop _ .done (some .ret))=>K .ret ⟨tmps,(h.set n .gone).set (n+1) .gone⟩
  |some (.loop _ .done (some (.exit id)))=>K (.exit id) ⟨tmps,(h.set n .gone).set (n+1) .gone⟩
  |_=>False)
def afy  (X0:Addr->Value->Prop) (n:Nat) (tmps:List AV) (r:Loop) (aV:Env) (ps:Array Tmp) (A B:AS->(Exit->AS->Prop)->Prop):Spec:=fun X args hp nm k=>X=X0/\ (if ps.size=args.length then
          pR (hp (n+1)) aV (n+1) (T6 (hp n) r (∀aQ:Env,
            A ⟨Ai tmps ps.toList args,gQ hp nm++ [.bT aQ nm]⟩ fun e kI=>match e with
              | .normal=>pR (aj kI.heap nm) aQ nm (T6 (aj kI.heap n) r (B ⟨kI.tmps,kI.heap.set n (.loop r .busy none)⟩ fun e qF=>match e with
                | .normal=>vf hp nm n r aQ qF.heap none k
                | .ret=>vf hp nm n r aQ qF.heap (some .ret) k
                | .exit id=>vf hp nm n r aQ qF.heap (some (.exit id)) k
                |_=>False))
              |_=>False)) else False)
def cz:Code->AS->(Exit->AS->Prop)->Prop
 | .skip,st,K=>K .normal st
 | .region _ ops draw,st,K=>iV ctx ops draw st (K .normal)
 | .seq a b,st,K=>cz a st fun e st'=>match e with
  | .normal=>cz b st' K
  |e=>K e st'
 | .cond c x y,st,K=>match cr st.tmps c with
  | .v (.one (.raw (.bool t)))=>cB t (cz x st K) (cz y st K)
  |_=>False
 | .block id c,st,K=>match aJ ctx.lp id with
  |some sp=>sp st K
  |none=>cz c st (jN id K)
 | .loop c,st,K=> ∃(I:Nat->AS->Prop),(∃m st',rF st st'/\ I m st')/\ ∀m kI,I m kI->cz c kI fun e qF=>match e with
  | .normal=> ∃m' st',m'<m/\ rF qF st'/\ I m' st'
  |e=>K e qF
 | .rangeFunc g ps assign body,st,K=>if lA assign&&lA body then match cr st.tmps g with
  | .v (.one (.iP (.func f) [] cap))=>match aJ ctx.its f with
   | some R6=> ∀(r:Loop) (aV:Env),R6 [(st.heap.length,afy ctx.X st.heap.length st.tmps r aV ps (cz assign) (cz body))]
     (.v (.one (.Ic st.heap.length))::cap.map zY) (st.heap++ [.loop r .ready none,.bT aV (st.heap.length+1)]) fun _ qF=>Uf st.heap.length aV st.tmps qF.heap K
   |none=>False
  |_=>False else False
 | .exit id,st,K=>K (.exit id) st
 | .ret,st,K=>K .ret st
 |_,_,_=>False
def Cj (c:Code):Nat->bw
 |0,_,_=>False
 |n+1,st,K=>cz ctx c st fun e qF=>match e with
  | .normal=>Cj c n qF K
  |e=>K e qF
def MJ (st:AS):ResultVar->Option A0
 | .tmp t=>match bP st.tmps t with| .v a=>some a|_=>none
 | .cell t ty=>match bP st.tmps t,aJ ctx.tt ty with
  | .v (.one (.ptr n off)),some i=>match aj st.heap n with
   |some (.cells cs _)=>if cY i.desc then (if off+i.size<=cs.length then some (.agg ((cs.drop off).take i.size)) else none)
    else (match cs[off]? with|some c=>some (.one c)|none=>none)
   |_=>none
  |_,_=>none
def B5 (st:AS):List ResultVar->Option (List A0)
 | []=>some []
 |r::l=>match MJ ctx st r,B5 st l with
  |some a,some b=>some (a::b)
  |_,_=>none
def oK (fn:Func) (st:AS) (R:AV->AS->Prop):Prop:=
 match B5 ctx st fn.results.toList with
 |some [a]=>R (.v a) st
 |some l=>R (.nC l) st
 |none=>False
def Ie (fn:Func) (args:List AV) (heap:List aG) (R:AV->AS->Prop):Prop:=
 match fn.body with
 |some c=>cz ctx c ⟨args++List.replicate (fn.ntmps- args.length) bU,heap⟩ fun e st=>match e with
  | .ret=>oK ctx fn st R
  | .normal=>oK ctx fn st R
  |_=>False
 |none=>False
end
end Go.Ev
