/- The abstract evaluator: values whose addresses are names, a small heap of named objects, and 'codeE', the condition under which a piece of code does what is asked. -/
import Derived.Below
import Derived.KernelRfl
noncomputable section
set_option linter.unusedSectionVars false
set_option linter.unusedVariables false
set_option linter.unusedSimpArgs false
namespace Go.Ev
inductive Ty
 |int (k:IntKind)
 |bool
 |str
 |prod (a b:Ty)
 |sl (t:Ty)
 deriving DecidableEq
@[reducible] def Ty.T:Ty->Type
 | .int _=>Int
 | .bool=>Bool
 | .str=>ByteArray
 | .prod a b=>a.T×b.T
 | .sl t=>List t.T
def Ty.d:(t:Ty)->t.T
 | .int _=>(0:Int)
 | .bool=>false
 | .str=>ByteArray.empty
 | .prod a b=>(a.d,b.d)
 | .sl t=>([]:List t.T)
def Ty.size:Ty->Nat
 | .prod a b=>a.size+b.size
 |_=>1
def Ty.flat:Ty->Bool
 | .prod a b=>a.flat&&b.flat
 | .sl _=>false
 |_=>true
def Ty.shallow:Ty->Bool
 | .prod a b=>a.shallow&&b.shallow
 | .sl t=>t.flat
 |_=>true
inductive cl
 |flat (v:Value)
 |sl (u:Ty) (l:List u.T)
def Ty.aQ:(t:Ty)->t.T->List cl
 | .int k,n=> [.flat (.int k n)]
 | .bool,b=> [.flat (.bool b)]
 | .str,s=> [.flat (.string s)]
 | .prod a b,x=>a.aQ x.1++b.aQ x.2
 | .sl u,l=> [.sl u l]
def bJ:cl->Value
 | .flat v=>v
 | .sl _ _=> .slice none 0 0
def eqT:(t:Ty)->t.T->t.T->Bool
 | .int _,x,y=>(x:Int)==y
 | .bool,x,y=>(x:Bool)==y
 | .str,x,y=>(x:ByteArray)==y
 | .prod a b,x,y=>eqT a x.1 y.1&&eqT b x.2 y.2
 | .sl _,_,_=>false
def Vy (a:Bool) (t:Ty) (x:t.T):Value:=match a with
 |true=> .agg ((t.aQ x).map bJ).toArray
 |false=>match (t.aQ x).map bJ with
  | [v]=>v
  |_=> .tuple #[]
def gd (t:Ty) (l:List t.T) (j:Nat):t.T:=l.getD j t.d
def iy (t u:Ty) (l:List t.T):Option (List u.T):=if h:t=u then some (h▸l) else none
inductive Ref
 |ext (v:Value)
 |loc (n off:Nat)
 |elem (n j:Nat)
 |full (n:Nat)
 |mp (n:Nat)
inductive Cell
 |raw (v:Value)
 |ptr (n off:Nat)
 |kV (n off:Nat)
 |sl (n off len cap:Nat)
 |full (n:Nat)
 |cN (n j k:Nat)
 |eZ (n j k:Nat)
 |jS (f:Fn) (first:List Value) (cap:List Ref)
 |Hl (n:Nat)
 |mp (n:Nat)
 |mv (f:FuncId) (agg:Bool) (rs:List Ref)
inductive A0
 |one (c:Cell)
 |agg (cs:List Cell)
inductive AV
 |v (a:A0)
 |oG (l:List A0)
 |dead
structure ZQ where
 key:Sigma Ty.T
 bW:Option Nat
 base:Option Addr
 len:Nat
 cap:Nat
 es:Nat
 vals:List Value
structure Loc where
 bW:Option Nat:=none
 base:Option Addr:=none
 len:Nat:=0
 cap:Nat:=0
 es:Nat:=1
 ik:List ZQ:= []
abbrev Env:=Nat->Loc
inductive aF
 |cells (cs:List Cell) (e:TypeId)
 |row (t:Ty) (l:List t.T) (rk:Nat)
 |alias (n s:Nat) (q:Option Nat)
 |gone
 |loop (r:Loop) (s:LoopState) (j:Option Code)
 |dO (ρ:Env) (n:Nat)
 |fJ (S:Nat->Prop)
 |map (ka va:Bool) (k v:Ty) (l:List (k.T×v.T))
 |Ec (ka:Bool) (k u:Ty) (l:List (k.T×List u.T)) (c:Nat) (q:Option k.T)
 |set (n:Nat)
 |gv (n c:Nat) (k u:Ty) (x:k.T) (l:List u.T)
 |rc (cs:List Cell)
 |hmap (es:Array MapEntry) (l7:Nat)
 |It (n c:Nat) (es:Array MapEntry) (l7:Nat) (ka:Bool) (k u:Ty) (l:List (k.T×List u.T)) (cur:Option (k.T×Nat))
 |dp (t:Ty) (l:List t.T) (c:Nat) (st kn:Bool)
 |nv (n c j q:Nat) (u:Ty)
def addrOf (ρ:Env) (n off:Nat):Option Addr:=(ρ n).bW.map fun b=> {block:=b,off:=off,spot:=none}
def Ref.af (ρ:Env):Ref->Value
 | .ext v=>v
 | .loc n off=> .pointer (addrOf ρ n off)
 | .elem n j=> .pointer ((ρ n).base.map (·.add (j*(ρ n).es+0)))
 | .full n=> .slice (ρ n).base (ρ n).len (ρ n).cap
 | .mp n=> .map (ρ n).bW
def MD (agg:Bool) (vs:List Value):Value:=match agg with
 |true=> .agg vs.toArray
 |false=>match vs with
  | [v]=>v
  |_=> .tuple #[]
def Cell.af (ρ:Env):Cell->Value
 | .raw v=>v
 | .ptr n off=> .pointer (addrOf ρ n off)
 | .kV n off=> .pointer (addrOf ρ n off)
 | .sl n off len cap=> .slice (addrOf ρ n off) len cap
 | .full n=> .slice (ρ n).base (ρ n).len (ρ n).cap
 | .cN n j k=> .pointer ((ρ n).base.map (·.add (j*(ρ n).es+k)))
 | .eZ n j k=> .pointer ((ρ n).base.map (·.add (j*(ρ n).es+k)))
 | .jS f first cap=> .func f first.toArray (cap.map (Ref.af ρ)).toArray
 | .Hl n=>match (ρ n).bW with
  |some l=> .func (.yield l) #[] #[]
  |none=> .nilFunc
 | .mp n=> .map (ρ n).bW
 | .mv f agg rs=> .func (.func f) #[MD agg (rs.map (Ref.af ρ))] #[]
def A0.af (ρ:Env):A0->Value
 | .one c=>c.af ρ
 | .agg cs=> .agg (cs.map (Cell.af ρ)).toArray
def AV.af (ρ:Env):AV->Value
 | .v a=>a.af ρ
 | .oG l=> .tuple (l.map (A0.af ρ)).toArray
 | .dead=> .tuple #[]
def Ref.ok (Kn:Nat->Prop):Ref->Prop
 | .ext _=>True
 | .loc n _=>Kn n
 | .elem n _=>Kn n
 | .full n=>Kn n
 | .mp n=>Kn n
def Cell.ok (Kn:Nat->Prop):Cell->Prop
 | .raw _=>True
 | .ptr n _=>Kn n
 | .kV n _=>Kn n
 | .sl n _ _ _=>Kn n
 | .full n=>Kn n
 | .cN n _ _=>Kn n
 | .eZ n _ _=>Kn n
 | .jS _ _ cap=> ∀r∈cap,r.ok Kn
 | .Hl n=>Kn n
 | .mp n=>Kn n
 | .mv _ _ rs=> ∀r∈rs,r.ok Kn
def A0.ok (Kn:Nat->Prop):A0->Prop
 | .one c=>c.ok Kn
 | .agg cs=> ∀c∈cs,c.ok Kn
def AV.ok (Kn:Nat->Prop):AV->Prop
 | .v a=>a.ok Kn
 | .oG l=> ∀a∈l,a.ok Kn
 | .dead=>True
def aF.ok (Kn:Nat->Prop):aF->Prop
 | .cells cs _=> ∀c∈cs,c.ok Kn
 | .row _ _ _=>True
 | .alias n _ _=>Kn n
 | .gone=>True
 | .loop _ _ _=>True
 | .dO _ n=> ∀m,m<n->Kn m
 | .fJ _=>True
 | .map _ _ _ _ _=>True
 | .Ec _ _ _ _ c _=>Kn c
 | .set n=>Kn n
 | .gv n c _ _ _ _=>Kn n/\ Kn c
 | .rc cs=> ∀c∈cs,c.ok Kn
 | .hmap _ _=>True
 | .It n c _ _ _ _ _ _ cur=>Kn n/\ Kn c/\ ∀p,cur=some p->Kn p.2
 | .dp _ _ c _ _=>Kn c
 | .nv n c _ _ _=>Kn n/\ Kn c
def qo:AV:= .oG []
def RM:Value->A0
 | .agg cs=> .agg (cs.toList.map .raw)
 |v=> .one (.raw v)
def UJ (v:Value):AV:= .v (RM v)
def rT:Value->Bool
 | .agg _=>false
 | .tuple _=>false
 |_=>true
def Cell.one:Cell->Bool
 | .raw v=>rT v
 |_=>true
def A0.cells:A0->Option (List Cell)
 | .one c=>if c.one then some [c] else none
 | .agg cs=>some cs
def AV.cells:AV->Option (List Cell)
 | .v a=>a.cells
 | .oG _=>none
 | .dead=>none
def AV.Rb:AV->Bool
 | .dead=>true
 |_=>false
def mH:List Cell->Bool
 | []=>true
 |c::r=>if c.one then mH r else false
structure Rec where
 val:AV
 fresh:List aF:= []
 writes:List (Nat×aF):= []
 aD:List Nat:= []
structure TI where
 desc:TypeDesc
 size:Nat
 bytes:Nat
 zero:Value
 ty:Option Ty
def cB (b:Bool) (p q:Prop):Prop:=match b with|true=>p|false=>q
def ob (b:Bool) (p:Prop):Prop:=match b with|true=>p|false=>False
def aJ {α:Type _} :List (Nat×α)->Nat->Option α
 | [],_=>none
 |(k,a)::r,n=>if k=n then some a else aJ r n
def cY:TypeDesc->Bool
 | .struct _=>true
 | .array _ _=>true
 |_=>false
def dD:List AV->Nat->AV
 | [],_=>qo
 |a::_,0=>a
 |_::r,n+1=>dD r n
abbrev HP:=Nat->Option aF
abbrev Spec:=(Addr->Value->Prop)->List AV->HP->Nat->(Rec->Prop)->Prop
structure AS where
 tmps:List AV
 heap:List aF
abbrev eV:=List (Nat×Spec)->List AV->List aF->(AV->AS->Prop)->Prop
abbrev iw:=AS->(Exit->AS->Prop)->Prop
structure Ctx where
 tt:List (Nat×TI)
 specs:List (Nat×Spec)
 X:Addr->Value->Prop
 lp:List (Nat×iw):= []
 ys:List (Nat×Spec):= []
 dR:List (Nat×eV):= []
def eO (tmps:List AV):Operand->AV
 | .tmp t=>dD tmps t
 | .const v=>UJ v
 | .global g=> .v (.one (.raw (.pointer (some {block:=g,off:=0,spot:=none}))))
 | .func f=> .v (.one (.jS (.func f) [] []))
def setCells {α:Type} :List α->Nat->List α->List α
 |cs,_,[]=>cs
 |cs,off,c::r=>setCells (cs.set off c) (off+1) r
def tG (place:Nat->Option (Nat×Nat)) (ev:Operand->AV):List Cell->List (Nat×Operand)->Option (List Cell)
 |cs,[]=>some cs
 |cs,(i,x)::r=>match place i,(ev x).cells with
  |some (off,size),some xs=>if xs.length=size then (if off+size<=cs.length then tG place ev (setCells cs off xs) r else none) else none
  |_,_=>none
def rP (d:TypeDesc) (cs:List Cell):Option AV:=
 if cY d then some (.v (.agg cs)) else match cs with
  | [c]=>some (.v (.one c))
  |_=>none
def fT (k:IntKind) (n:Int):AV:= .v (.one (.raw (.int k n)))
def bC (b:Bool):AV:= .v (.one (.raw (.bool b)))
def Im:Operand->Bool
 | .const _=>true
 |_=>false
def KJ (op:BinOp) (kk:IntKind) (a b:Int) (k:Rec->Prop):Prop:=
 match op with
 | .add=>k {val:=fT kk (kk.wrap (a+b))}
 | .sub=>k {val:=fT kk (kk.wrap (a- b))}
 | .mul=>k {val:=fT kk (kk.wrap (a*b))}
 | .quo=>ob (decide (b≠0)) (k {val:=fT kk (kk.wrap (a.tdiv b))})
 | .rem=>ob (decide (b≠0)) (k {val:=fT kk (a.tmod b)})
 | .eql=>k {val:=bC (a==b)}
 | .neq=>k {val:=bC (a !=b)}
 | .lss=>k {val:=bC (decide (a<b))}
 | .leq=>k {val:=bC (decide (a<=b))}
 | .gtr=>k {val:=bC (decide (a>b))}
 | .geq=>k {val:=bC (decide (a>=b))}
 | .and=>k {val:=fT kk (kk.wrap ((BitVec.ofInt kk.bits a&&&BitVec.ofInt kk.bits b).toNat))}
 | .or=>k {val:=fT kk (kk.wrap ((BitVec.ofInt kk.bits a|||BitVec.ofInt kk.bits b).toNat))}
 | .xor=>k {val:=fT kk (kk.wrap ((BitVec.ofInt kk.bits a^^^BitVec.ofInt kk.bits b).toNat))}
 | .andNot=>k {val:=fT kk (kk.wrap ((BitVec.ofInt kk.bits a&&& ~~~ BitVec.ofInt kk.bits b).toNat))}
 |_=>False
def eqFields (tt:List (Nat×TI)) (eq:TypeId->List Cell->List Cell->Option Bool):List Field->List Cell->List Cell->Option Bool
 | [],_,_=>some true
 |f::r,xs,ys=>match aJ tt f.type with
  |none=>none
  |some fi=>if f.name= "_" then none else
   match eq f.type ((xs.drop f.offset).take fi.size) ((ys.drop f.offset).take fi.size),eqFields tt eq r xs ys with
   |some a,some b=>some (a&&b)
   |_,_=>none
def zU (eq:TypeId->List Cell->List Cell->Option Bool) (e s:Nat):Nat->Nat->List Cell->List Cell->Option Bool
 |0,_,_,_=>some true
 |n+1,i,xs,ys=>match eq e ((xs.drop (i*s)).take s) ((ys.drop (i*s)).take s),zU eq e s n (i+1) xs ys with
  |some a,some b=>some (a&&b)
  |_,_=>none
def VR (tt:List (Nat×TI)):Nat->TypeId->List Cell->List Cell->Option Bool
 |0,_,_,_=>none
 |d+1,t,xs,ys=>match aJ tt t with
  |none=>none
  |some i=>match i.desc with
   | .int _=>match xs,ys with
    | [.raw (.int k a)],[.raw (.int k' b)]=>if k=k' then some (a==b) else none
    |_,_=>none
   | .bool=>match xs,ys with
    | [.raw (.bool a)],[.raw (.bool b)]=>some (a==b)
    |_,_=>none
   | .string=>match xs,ys with
    | [.raw (.string a)],[.raw (.string b)]=>some (a==b)
    |_,_=>none
   | .struct fs=>eqFields tt (VR tt d) fs.toList xs ys
   | .array n e=>match aJ tt e with
    |some ei=>zU (VR tt d) e ei.size n 0 xs ys
    |none=>none
   |_=>none
def fk (nm:Nat):List cl->List Cell×List aF
 | []=>([],[])
 | .flat v::r=>match fk nm r with|(cs,os)=>(.raw v::cs,os)
 | .sl u l::r=>match fk (nm+1) r with|(cs,os)=>(.full nm::cs,.row u l 0::os)
def cy (t:Ty) (l:List t.T) (j k size:Nat):List cl:=((t.aQ (gd t l j)).drop k).take size
def iP:(t:Ty)->List cl->Option (t.T×List cl)
 | .int k,cs=>match cs with
  | .flat (.int k' n)::r=>if k=k' then some (n,r) else none
  |_=>none
 | .bool,cs=>match cs with
  | .flat (.bool b)::r=>some (b,r)
  |_=>none
 | .str,cs=>match cs with
  | .flat (.string s)::r=>some (s,r)
  |_=>none
 | .prod a b,cs=>match iP a cs with
  |some (x,r)=>match iP b r with
   |some (y,r')=>some ((x,y),r')
   |none=>none
  |none=>none
 | .sl u,cs=>match cs with
  | .sl u' l::r=>match iy u' u l with
   |some l'=>some (l',r)
   |none=>none
  |_=>none
def fb:List Cell->Option (List cl)
 | []=>some []
 | .raw v::r=>match v with
  | .int _ _=>(fb r).map (.flat v:: ·)
  | .bool _=>(fb r).map (.flat v:: ·)
  | .string _=>(fb r).map (.flat v:: ·)
  |_=>none
 |_=>none
def eU (n s:Nat):Option Nat->Nat
 |some m=>min m (n- s)
 |none=>n- s
def lD {α:Type} (l:List α) (s:Nat):Option Nat->List α
 |none=>l.drop s
 |some m=>(l.drop s).take m
def aaB (dec:List Cell->Option (List cl×List Nat×List Nat)) (size:Nat) (u:Ty):Nat->List Cell->Option (List u.T×List Nat×List Nat)
 |0,_=>some ([],[],[])
 |n+1,cs=>match dec (cs.take size) with
  |some (ps,tc,ab)=>match iP u ps with
   |some (x,[])=>match aaB dec size u n (cs.drop size) with
    |some (l,uW,ab')=>some (x::l,tc++uW,ab++ab')
    |none=>none
   |_=>none
  |none=>none
def uh {α:Type} (dec:List Cell->Option (α×List Cell×List Nat)):Nat->List Cell->Option (List α×List Nat)
 |0,_=>some ([],[])
 |n+1,cs=>match dec cs with
  |some (x,r,tc)=>match uh dec n r with
   |some (l,uW)=>some (x::l,tc++uW)
   |none=>none
  |none=>none
def ck (hp:HP):(t:Ty)->List Cell->Option (t.T×List Cell×List Nat)
 | .int k,cs=>match cs with
  | .raw (.int k' n)::r=>if k=k' then some (n,r,[]) else none
  |_=>none
 | .bool,cs=>match cs with
  | .raw (.bool b)::r=>some (b,r,[])
  |_=>none
 | .str,cs=>match cs with
  | .raw (.string s)::r=>some (s,r,[])
  |_=>none
 | .prod a b,cs=>match ck hp a cs with
  |some (x,r,tc)=>match ck hp b r with
   |some (y,r',uW)=>some ((x,y),r',tc++uW)
   |none=>none
  |none=>none
 | .sl u,cs=>match cs with
  | .raw (.slice none 0 _)::r=>some (([]:List u.T),r,[])
  | .full n::r=>match hp n with
   |some (.row t l _)=>match iy t u l with
    |some l'=>some (l',r,[n])
    |none=>none
   |some (.alias m s q)=>match hp m with
    |some (.row t l _)=>match iy t u l with
     |some l'=>some (lD l' s q,r,[n,m])
     |none=>none
    |_=>none
   |some (.dp t l c _ kn)=>match kn,hp c with
    |true,some (.set _)=>match iy t u l with
     |some l'=>some (l',r,[n,c])
     |none=>none
    |_,_=>none
   |_=>none
  | .sl n off len cap::r=>if u.shallow&&decide (len<=cap) then (match hp n with
   |some (.cells cs _)=>match uh (ck hp u) len (cs.drop off) with
    |some (l,tc)=>some (l,r,n::tc)
    |none=>none
   |_=>none) else none
  |_=>none
def uG (hp:HP):Ty->List Cell->Option (List Nat×Bool×List Cell)
 | .prod a b,cs=>match uG hp a cs with
  |some (ns,f,r)=>match uG hp b r with
   |some (ns',f',r')=>some (ns++ns',f&&f',r')
   |none=>none
  |none=>none
 | .sl u,cs=>if u.flat then (match cs with
  | .raw (.slice none 0 _)::r=>some ([],true,r)
  | .full n::r=>match hp n with
   |some (.row _ _ rk)=>if rk=0 then some ([],false,r) else some ([n],true,r)
   |some (.alias m _ _)=>match hp m with
    |some (.row _ _ rk)=>if rk=0 then some ([],false,r) else none
    |_=>none
   |_=>none
  | .sl n _ _ _::r=>match hp n with
   |some (.cells _ _)=>some ([n],true,r)
   |_=>none
  |_=>none) else none
 |_,cs=>match cs with
  |_::r=>some ([],true,r)
  | []=>none
def K6 (hp:HP) (u:Ty):Nat->List Cell->Option (List Nat×Bool)
 |0,_=>some ([],true)
 |n+1,cs=>match uG hp u cs with
  |some (ns,f,r)=>match K6 hp u n r with
   |some (ns',f')=>some (ns++ns',f&&f')
   |none=>none
  |none=>none
def iI:List Cell->Option (List Int)
 | []=>some []
 | .raw (.int .i64 n)::r=>match iI r with
  |some l=>some (n::l)
  |none=>none
 |_=>none
def oQ:List cl->Option (List Int)
 | []=>some []
 | .flat (.int .i64 n)::r=>match oQ r with
  |some l=>some (n::l)
  |none=>none
 |_=>none
def KM:Ty->Bool
 | .int .i64=>true
 | .prod a b=>KM a&&KM b
 |_=>false
def Vn (hp:Nat->Option aF) (n:Nat):Bool:=match hp n with
 |some (.row t _ _)=>KM t
 |_=>false
def uJ (off:Nat) (y:Int):Nat->List Int->List Int
 |_,[]=> []
 |q,n::r=>(bif Nat.beq off q then y else n)::uJ off y (q+1) r
def p8 (off:Nat):List Int->List Int->List Int
 | [],ns=>ns
 |y::r,ns=>p8 (off+1) r (uJ off y 0 ns)
def nX (ns:List Int) (off:Nat):Nat->List Cell
 |0=> []
 |m+1=> .raw (.int .i64 (ns.getD off 0))::nX ns (off+1) m
def aj (h:List aF) (n:Nat):Option aF:=match h[n]? with
 |some .gone=>none
 |o=>o
def iB (hp:HP):Nat->List aF
 |0=> []
 |n+1=>iB hp n++ [match hp n with|some o=>o|none=> .gone]
def Gi (hp:HP) (h:List aF):Nat->List (Nat×aF)
 |0=> []
 |n+1=>match hp n with
  |some _=>Gi hp h n++ [(n,match h[n]? with|some o=>o|none=> .gone)]
  |none=>Gi hp h n
def vo (hp:HP) (nm:Nat) (h:List aF) (v:AV):Rec:= {val:=v,fresh:=(h.set nm .gone).drop nm,writes:=Gi hp h nm,aD:=List.range nm}
def rG (o:Option aF) (ρ:Env) (n:Nat) (K:Prop):Prop:=match o with
 |some (.dO ρ' n')=>ρ'=ρ/\ n'=n/\ K
 |_=>False
section
variable (ctx:Ctx)
def vN (i:TI) (cs:List Cell) (n off:Nat) (k:Rec->Prop):Prop:=
 if cY i.desc then (if off+i.size<=cs.length then k {val:= .v (.agg ((cs.drop off).take i.size)),aD:= [n]} else False)
 else match cs[off]? with
  |some c=>k {val:= .v (.one c),aD:= [n]}
  |none=>False
def nK (i:TI) (x:AV) (hp:HP) (nm:Nat) (k:Rec->Prop):Prop:=
 match x with
 | .v (.one (.ptr n off))=>match hp n with
  |some (.cells cs _)=>vN i cs n off k
  |_=>False
 | .v (.one (.kV n off))=>match hp n with
  |some (.cells cs _)=>match iI cs with
   |some ns=>ob (decide (off+i.size<=cs.length)) (match rP i.desc (nX ns off i.size) with
    |some v=>k {val:=v,aD:= [n]}
    |none=>False)
   |none=>False
  |_=>False
 | .v (.one (.cN n j q))=>match hp n with
  |some (.row t l _)=>if q+i.size<=t.size then ob (decide (j<l.length)) (match fk nm (cy t l j q i.size) with
   |(cs,os)=>match rP i.desc cs with
    |some v=>k {val:=v,fresh:=os,aD:= [n]}
    |none=>False) else False
  |some (.gv _ c _ t _ l)=>match hp c with
   |some (.set _)=>if q+i.size<=t.size then ob (decide (j<l.length)) (match fk nm (cy t l j q i.size) with
    |(cs,_)=>match rP i.desc cs with
     |some v=>k {val:=v,aD:= [n,c]}
     |none=>False) else False
   |_=>False
  |some (.rc cs)=>if j=0 then vN i cs n q k else False
  |_=>False
 | .v (.one (.eZ n j q))=>match hp n with
  |some (.row t l _)=>match oQ (t.aQ (gd t l j)) with
   |some ns=>ob (decide (q+i.size<=t.size)) (ob (decide (j<l.length)) (match rP i.desc (nX ns q i.size) with
    |some v=>k {val:=v,aD:= [n]}
    |none=>False))
   |none=>False
  |_=>False
 |_=>False
def Lu (t:Ty) (l:List t.T) (rk n j q:Nat) (ys:List Cell) (hp:HP) (k:Rec->Prop):Prop:=match ys with
 | [.full m]=>match hp m with
  |some (.row u lm rm)=>if rm=0\/ rk=3\/ m=n\/ u.flat=false\/ t.size<q+1 then False else (match iP t (setCells (t.aQ (gd t l j)) q [.sl u lm]) with
   |some (x',[])=>ob (decide (j<l.length)) (True/\ ∀l',l'=l.set j x'->k {val:=qo,writes:= [(n,.row t l' rk),(m,.gone)],aD:= [n,m]})
   |_=>False)
  |_=>False
 |_=>False
def oC (i:TI) (x y:AV) (hp:HP) (k:Rec->Prop):Prop:=
 match x,y.cells with
 | .v (.one (.ptr n off)),some ys=>if ys.length=i.size then (if mH ys then
   match hp n with
   |some (.cells cs e)=>if off+ys.length<=cs.length then k {val:=qo,writes:= [(n,.cells (setCells cs off ys) e)],aD:= [n]} else False
   |_=>False
   else False) else False
 | .v (.one (.kV n off)),some ys=>if ys.length=i.size then (match hp n with
   |some (.cells cs e)=>match iI cs,iI ys with
    |some ns,some ms=>ob (decide (off+ys.length<=cs.length)) (k {val:=qo,writes:= [(n,.cells ((p8 off ms ns).map fun q=> .raw (.int .i64 q)) e)],aD:= [n]})
    |_,_=>False
   |_=>False) else False
 | .v (.one (.cN n j q)),some ys=>if ys.length=i.size then (match hp n with
   |some (.row t l rk)=>if rk=0\/ rk=3 then False else match fb ys with
    |some ps=>if q+ps.length<=t.size then (match iP t (setCells (t.aQ (gd t l j)) q ps) with
     |some (x',[])=>ob (decide (j<l.length)) (True/\ ∀l',l'=l.set j x'->k {val:=qo,writes:= [(n,.row t l' rk)],aD:= [n]})
     |_=>False) else False
    |none=>Lu t l rk n j q ys hp k
   |_=>False) else False
 | .v (.one (.eZ n j q)),some ys=>if ys.length=i.size then (match hp n with
   |some (.row t l rk)=>if rk=0\/ rk=3 then False else match iI ys,oQ (t.aQ (gd t l j)) with
    |some ms,some ns=>(match iP t ((p8 q ms ns).map fun m=> .flat (.int .i64 m)) with
     |some (x',[])=>ob (decide (q+ys.length<=t.size)) (ob (decide (j<l.length)) (True/\ ∀l',l'=l.set j x'->k {val:=qo,writes:= [(n,.row t l' rk)],aD:= [n]}))
     |_=>False)
    |_,_=>False
   |_=>False) else False
 |_,_=>False
def jP (v:Value):List Cell:=v.cells.toList.map .raw
def Lc (fs:Array Field) (j:Nat):Option (Nat×Nat):=match fs[j]? with
 |some f=>(match aJ ctx.tt f.type with|some fi=>some (f.offset,fi.size)|none=>none)
 |none=>none
def J2 (i:TI) (parts:List (Nat×Operand)) (ev:Operand->AV) (k:Rec->Prop):Prop:=
 match i.desc with
 | .struct fs=>if fs.toList.all (fun f=>(aJ ctx.tt f.type).isSome) then
   match tG (Lc ctx fs) ev (jP i.zero) parts with
   |some cs=>k {val:= .v (.agg cs)}
   |none=>False
   else False
 | .array _ e=>match aJ ctx.tt e with
  |some ei=>match tG (fun j=>some (j*ei.size,ei.size)) ev (jP i.zero) parts with
   |some cs=>k {val:= .v (.agg cs)}
   |none=>False
  |none=>False
 |_=>False
def qL (i:TI) (len:Nat) (parts:List (Nat×Operand)) (ev:Operand->AV) (nm:Nat) (k:Rec->Prop):Prop:=
 match i.desc with
 | .slice e=>match aJ ctx.tt e with
  |some ei=>if len*ei.size>2^24 then False else if len*ei.size=0 then False else
   match tG (fun j=>some (j*ei.size,ei.size)) ev ((List.range (len*ei.size)).map fun j=> .raw (ei.zero.cells[j % ei.zero.cells.size]!)) parts with
   |some cs=>k {val:= .v (.one (.sl nm 0 len len)),fresh:= [.cells cs e]}
   |none=>False
  |none=>False
 |_=>False
def dw (hp:HP) (n:Nat) (k:Prop):Prop:=match hp n with
 |some (.cells _ _)=>k
 |_=>False
def jN (hp:HP) (n j:Nat) (k:Ty->Prop):Prop:=match hp n with
 |some (.row t l _)=>ob (decide (j<l.length)) (k t)
 |some (.gv _ _ _ t _ l)=>ob (decide (j<l.length)) (k t)
 |some (.dp t l _ _ _)=>ob (decide (j<l.length)) (k t)
 |_=>False
def Rf (hp:HP) (n:Nat):Bool:=match hp n with
 |some (.rc (_::_))=>true
 |_=>false
def yp (hp:HP) (p:Nat) (k:(n:Nat)->Option Nat->Option Nat->Nat->List Nat->Prop):Prop:=match hp p with
 |some (.row _ l _)=>k p none none l.length [p]
 |some (.gv _ _ _ _ _ l)=>k p none none l.length [p]
 |some (.dp _ l _ _ _)=>k p none none l.length [p]
 |some (.alias n s q)=>match hp n with
  |some (.row _ l _)=>k n (some s) q (eU l.length s q) [p,n]
  |_=>False
 |_=>False
def fV:Option Nat->Nat->Nat
 |none,j=>j
 |some s,j=>s+j
def j9 (i:TI) (x:AV) (f:Nat) (hp:HP) (k:Rec->Prop):Prop:=
 match i.desc with
 | .struct fs=>match fs[f]? with
  |some fd=>match aJ ctx.tt fd.type with
   |some fi=>if fi.size=0 then False else match x with
    | .v (.one (.ptr n off))=>dw hp n (k {val:= .v (.one (.ptr n (off+fd.offset))),aD:= [n]})
    | .v (.one (.kV n off))=>dw hp n (k {val:= .v (.one (.kV n (off+fd.offset))),aD:= [n]})
    | .v (.one (.cN n j q))=>(match Rf hp n with
     |true=>k {val:= .v (.one (.cN n j (q+fd.offset))),aD:= [n]}
     |false=>jN hp n j fun _=>k {val:= .v (.one (.cN n j (q+fd.offset))),aD:= [n]})
    | .v (.one (.eZ n j q))=>jN hp n j fun _=>k {val:= .v (.one (.eZ n j (q+fd.offset))),aD:= [n]}
    |_=>False
   |none=>False
  |none=>False
 |_=>False
def EO (i:TI) (cs:List Cell) (off:Nat) (k:Rec->Prop):Prop:=
 if cY i.desc then (if off+i.size<=cs.length then k {val:= .v (.agg ((cs.drop off).take i.size))} else False)
 else match cs[off]? with
  |some c=>k {val:= .v (.one c)}
  |none=>False
def Kf (i:TI) (x:AV) (f:Nat) (k:Rec->Prop):Prop:=
 match i.desc,x with
 | .struct fs,.v (.agg cs)=>match fs[f]? with
  |some fd=>match aJ ctx.tt fd.type with
   |some fi=>EO fi cs fd.offset k
   |none=>False
  |none=>False
 |_,_=>False
def Rd (hp:HP) (n:Nat):Bool:=match hp n with
 |some (.cells cs _)=>(iI cs).isSome
 |_=>false
def QY (j:Int) (n:Nat):Bool:=decide (0<=j)&&decide (j<(n:Int))
def uw (i:TI) (x ix:AV) (lit:Bool) (hp:HP) (k:Rec->Prop):Prop:=
 match ix with
 | .v (.one (.raw (.int _ j)))=>match i.desc with
  | .array n e=>match aJ ctx.tt e with
   |some ei=>match x with
    | .v (.one (.ptr m off))=>ob (QY j n) (dw hp m (if !lit&&Rd hp m then k {val:= .v (.one (.kV m (off+j.toNat*ei.size))),aD:= [m]} else k {val:= .v (.one (.ptr m (off+j.toNat*ei.size))),aD:= [m]}))
    | .v (.one (.kV m off))=>ob (QY j n) (dw hp m (k {val:= .v (.one (.kV m (off+j.toNat*ei.size))),aD:= [m]}))
    | .v (.one (.cN m jj q))=>ob (QY j n) (jN hp m jj fun _=>if !lit&&Vn hp m then k {val:= .v (.one (.eZ m jj (q+j.toNat*ei.size))),aD:= [m]} else k {val:= .v (.one (.cN m jj (q+j.toNat*ei.size))),aD:= [m]})
    | .v (.one (.eZ m jj q))=>ob (QY j n) (jN hp m jj fun _=>k {val:= .v (.one (.eZ m jj (q+j.toNat*ei.size))),aD:= [m]})
    |_=>False
   |none=>False
  | .slice e=>match aJ ctx.tt e with
   |some ei=>match x with
    | .v (.one (.sl m off len _))=>ob (QY j len) (dw hp m (if Nat.beq len 1 then k {val:= .v (.one (.ptr m off)),aD:= [m]} else if !lit&&Rd hp m then k {val:= .v (.one (.kV m (off+j.toNat*ei.size))),aD:= [m]} else k {val:= .v (.one (.ptr m (off+j.toNat*ei.size))),aD:= [m]}))
    | .v (.one (.full p))=>yp hp p fun m s _ len tc=>ob (QY j len) (jN hp m (fV s j.toNat) fun t=>if ei.size=t.size then k {val:= .v (.one (.cN m (fV s j.toNat) 0)),aD:=tc} else False)
    | .v (.one (.raw (.slice none 0 _)))=>ob (QY j 0) False
    |_=>False
   |none=>False
  |_=>False
 |_=>False
def KC (i:TI) (x ix:AV) (lit:Bool) (k:Rec->Prop):Prop:=
 match ix with
 | .v (.one (.raw (.int _ j)))=>match i.desc,x with
  | .array n e,.v (.agg cs)=>match aJ ctx.tt e with
   |some ei=>ob (QY j n) (if lit then EO ei cs (j.toNat*ei.size) k else match iI cs with
    |some ns=>if cs.length=n*ei.size then (match rP ei.desc (nX ns (j.toNat*ei.size) ei.size) with
     |some v=>k {val:=v}
     |none=>False) else False
    |none=>EO ei cs (j.toNat*ei.size) k)
   |none=>False
  | .string,.v (.one (.raw (.string s)))=>ob (QY j s.size) (k {val:=fT .u8 (s.get! j.toNat).toNat})
  |_,_=>False
 |_=>False
def pB (b:Option AV) (top dflt:Nat) (k:Nat->Prop):Prop:=
 match b with
 |none=>k dflt
 |some (.v (.one (.raw (.int _ j))))=>ob (decide (0<=j)&&decide (j<=(top:Int))) (k j.toNat)
 |_=>False
def LC (hp:HP) (n es:Nat) (k:Prop):Prop:=match hp n with
 |some (.row t _ _)=>if es=t.size then k else False
 |_=>False
def Ak (hp:HP) (p:Nat):Option (List Int):=match hp p with
 |some (.row (.int .i64) l 3)=>some l
 |_=>none
def Lk (i:TI) (x:AV) (lo hi mx:Option AV) (hp:HP) (nm:Nat) (k:Rec->Prop):Prop:=
 match i.desc with
 | .array n e=>match aJ ctx.tt e,x,mx with
  | some ei,.v (.one (.ptr m off)),none=>pB hi n n fun h=>pB lo h 0 fun l=>
    dw hp m (k {val:= .v (.one (.sl m (if n=l then off else off+l*ei.size) (h- l) (n- l))),aD:= [m]})
  |_,_,_=>False
 | .slice e=>match aJ ctx.tt e,x with
  | some ei,.v (.one (.sl m off len cap))=>pB mx cap cap fun c=>pB hi (if mx.isSome then c else cap) len fun h=>pB lo h 0 fun l=>
    if mx.isSome&&hi.isNone then False else k {val:= .v (.one (.sl m (if c=l then off else off+l*ei.size) (h- l) (c- l)))}
  |some ei,.v (.one (.full p))=>yp hp p fun m s q len tc=>LC hp m ei.size (match mx with
   |none=>match hi with
    |none=>match Ak hp p with
     |some l0=>pB lo l0.length 0 fun j=>k {val:= .v (.one (.full nm)),fresh:= [.row (.int .i64) (l0.drop j) 3],writes:= [(p,.gone)],aD:= [p]}
     |none=>pB lo len 0 fun l=>k {val:= .v (.one (.full nm)),fresh:= [.alias m (fV s l) (q.map fun _=>len- l)],aD:=tc}
    |some _=>match Ak hp p,lo with
     |some l0,none=>pB hi l0.length l0.length fun h=>k {val:= .v (.one (.full nm)),fresh:= [.row (.int .i64) (l0.take h) 3],writes:= [(p,.gone)],aD:= [p]}
     |_,_=>pB hi len len fun h=>pB lo h 0 fun l=>k {val:= .v (.one (.full nm)),fresh:= [.alias m (fV s l) (some (h- l))],aD:=tc}
   |some _=>pB mx len len fun c=>pB hi c 0 fun h=>pB lo h 0 fun l=>if hi.isNone then False else k {val:= .v (.one (.full nm)),fresh:= [.alias m (fV s l) (some (h- l))],aD:=tc})
  |some _,.v (.one (.raw (.slice none 0 c)))=>match mx with
   |none=>pB hi 0 0 fun h=>pB lo h 0 fun l=>if h=0/\ l=0/\ c=0 then k {val:= .v (.one (.raw (.slice none 0 0)))} else False
   |some _=>False
  |_,_=>False
 | .string=>match x,mx with
  | .v (.one (.raw (.string s))),none=>pB hi s.size s.size fun h=>pB lo h 0 fun l=>k {val:= .v (.one (.raw (.string (s.extract l h))))}
  |_,_=>False
 |_=>False
def uX:A0->Option Value
 | .one (.raw v)=>some v
 | .one _=>none
 | .agg cs=>(Cd cs).map fun l=> .agg l.toArray
where Cd:List Cell->Option (List Value)
 | []=>some []
 | .raw v::r=>(Cd r).map (v:: ·)
 |_::_=>none
def SP:AV->Option Value
 | .v a=>uX a
 |_=>none
def C2:List AV->Option (List Value)
 | []=>some []
 |x::r=>match SP x,C2 r with
  |some v,some l=>some (v::l)
  |_,_=>none
def SQ:AV->Option Ref
 | .v (.one (.ptr n off))=>some (.loc n off)
 | .v (.one (.cN n j 0))=>some (.elem n j)
 | .v (.one (.raw v))=>some (.ext v)
 | .v (.one (.full n))=>some (.full n)
 | .v (.one (.mp n))=>some (.mp n)
 |_=>none
def C3:List AV->Option (List Ref)
 | []=>some []
 |x::r=>match SQ x,C3 r with
  |some v,some l=>some (v::l)
  |_,_=>none
def vU:Ref->AV
 | .ext v=>UJ v
 | .loc n off=> .v (.one (.ptr n off))
 | .elem n j=> .v (.one (.cN n j 0))
 | .full n=> .v (.one (.full n))
 | .mp n=> .v (.one (.mp n))
def zR:Cell->Option Ref
 | .ptr n off=>some (.loc n off)
 | .cN n j 0=>some (.elem n j)
 | .raw v=>if rT v then some (.ext v) else none
 | .full n=>some (.full n)
 | .mp n=>some (.mp n)
 |_=>none
def qM:List Cell->Option (List Ref)
 | []=>some []
 |c::r=>match zR c,qM r with
  |some x,some l=>some (x::l)
  |_,_=>none
def Lg:AV->Option (Bool×List Ref)
 | .v (.agg cs)=>match qM cs with
  |some l=>some (true,l)
  |none=>none
 | .v (.one c)=>match zR c with
  |some r=>some (false,[r])
  |none=>none
 |_=>none
def wq:Ref->Cell
 | .ext v=> .raw v
 | .loc n off=> .ptr n off
 | .elem n j=> .cN n j 0
 | .full n=> .full n
 | .mp n=> .mp n
def IU (agg:Bool) (rs:List Ref):AV:=match agg with
 |true=> .v (.agg (rs.map wq))
 |false=>match rs with
  | [r]=> .v (.one (wq r))
  |_=> .oG []
def pV (ev:Operand->AV):List Operand->List AV
 | []=> []
 |x::r=>ev x::pV ev r
def fe (x y:Int):Int:=if y<x then y else x
def eI (x y:Int):Int:=if y>x then y else x
def sS (f:Int->Int->Int):Int->List AV->Option Int
 |a,[]=>some a
 |a,.v (.one (.raw (.int _ b)))::r=>sS f (f a b) r
 |_,_=>none
def FM (i:Option Ty) (x:AV) (hp:HP) (k:(t:Ty)->List t.T->Nat->List Nat->Nat->List Nat->Prop):Prop:=
 match x with
 | .v (.one (.raw (.slice none 0 0)))=>match i with
  |some t=>k t [] 2 [] 0 []
  |none=>False
 | .v (.one (.full n))=>match hp n with
  |some (.row t l rk)=>if rk=0 then False else k t l rk [n] 0 []
  |_=>False
 | .v (.one (.sl n _ 0 c))=>match i with
  |some t=>match hp n with
   |some (.cells _ _)=>k t [] 3 [] c [n]
   |_=>False
  |none=>False
 |_=>False
def nr (rk:Nat) (f:Bool):Nat:=match f with
 |true=>rk
 |false=>match rk with
  |3=>3
  |_=>1
def gW:List Nat->Bool
 | []=>true
 |x::r=> !r.contains x&&gW r
def xH (hp:HP) (t:Ty) (y:AV):Option (List Nat×Bool):=if t.flat then some ([],true) else
 match y with
 | .v (.one (.sl n off len _))=>match hp n with
  |some (.cells cs _)=>K6 hp t len (cs.drop off)
  |_=>none
 | .v (.one (.full n))=>match hp n with
  |some (.row _ _ rk)=>if rk=2 then some ([],true) else some ([],false)
  |some (.alias _ _ _)=>some ([],false)
  |_=>none
 | .v (.one (.raw (.slice none 0 _)))=>some ([],true)
 |_=>none
def FO (x y:AV) (ei:TI) (hp:HP) (nm:Nat) (k:Rec->Prop):Prop:=
 FM ei.ty x hp fun t l rk gone c tb=>if ei.size=t.size/\ ei.bytes<=128/\ (jP ei.zero).length=ei.size then
  match y with
  | .v (.one yc)=>match ck hp (.sl t) [yc] with
   |some (ys,[],tc)=>match xH hp t y with
    |some (ab,f)=>if gW (gone++ab)&&(Nat.ble c 0||Nat.blt c ys.length) then ob (decide (l.length+ys.length<1099511627776)) (k {val:= .v (.one (.full nm)),fresh:= [.row t (l++ys) (nr rk f)],writes:=(gone++ab).map fun n=>(n,.gone),aD:=gone++ab++tc++tb}) else False
    |none=>False
   |_=>False
  |_=>False
 else False
def nE (a b:Nat):Nat:=Nat.min b a
def iz {α:Type} (l:List α) (s d:Nat) (ys:List α):List α:=l.take s++ys.take (nE d ys.length)++l.drop (s+nE d ys.length)
def Qa (x y:AV) (ei:TI) (hp:HP) (k:Rec->Prop):Prop:=match x,y with
 | .v (.one (.full p)),.v (.one yc)=>yp hp p fun n s _ len tc=>match hp n with
  |some (.row t l rk)=>if (rk≠0/\ rk≠3)/\ t.flat=true/\ ei.size=t.size then (match ck hp (.sl t) [yc] with
   |some (ys,[],uW)=>True/\ ∀l',l'=iz l (fV s 0) len ys->k {val:=fT .i64 (nE len ys.length:Nat),writes:= [(n,.row t l' rk)],aD:=n::(tc++uW)}
   |_=>False) else False
  |_=>False
 |_,_=>False
def abY:Value->Bool
 | .slice none 0 0=>true
 |_=>false
def gTy (i:TI) (kk:TypeId->TI->Ty->Ty->Prop):Prop:=match i.desc with
 | .map kt et=>match aJ ctx.tt kt,aJ ctx.tt et with
  |some ki,some ei=>match ki.ty,ei.ty with
   |some kT,some (.sl uT)=>if kT.flat&&uT.flat&&abY ei.zero&& !cY ei.desc then kk kt ki kT uT else False
   |_,_=>False
  |_,_=>False
 |_=>False
def AJ (b:Builtin) (Vx:List TypeId) (args:List AV) (hp:HP) (nm:Nat) (k:Rec->Prop):Prop:=
 match b,args with
 | .len,[x]=>match Vx with
  |t::_=>match aJ ctx.tt t with
   |some i=>match i.desc,x with
    | .slice _,.v (.one (.sl _ _ len _))=>k {val:=fT .i64 len}
    | .slice _,.v (.one (.full p))=>yp hp p fun _ _ _ len tc=>k {val:=fT .i64 len,aD:=tc}
    | .slice _,.v (.one (.raw (.slice _ len _)))=>k {val:=fT .i64 len}
    | .string,.v (.one (.raw (.string s)))=>k {val:=fT .i64 s.size}
    |_,_=>False
   |none=>False
  | []=>False
 | .min,.v (.one (.raw (.int kk a)))::r=>match sS fe a r with
  |some n=>k {val:=fT kk n}
  |none=>False
 | .max,.v (.one (.raw (.int kk a)))::r=>match sS eI a r with
  |some n=>k {val:=fT kk n}
  |none=>False
 | .append,[x,y]=>match Vx with
  | [t,t']=>match aJ ctx.tt t,aJ ctx.tt t' with
   |some i,some i'=>match i.desc,i'.desc with
    | .slice e,.slice _=>match aJ ctx.tt e with
     |some ei=>FO x y ei hp nm k
     |none=>False
    |_,_=>False
   |_,_=>False
  |_=>False
 | .copy,[x,y]=>match Vx with
  | [t,_]=>match aJ ctx.tt t with
   |some i=>match i.desc with
    | .slice e=>match aJ ctx.tt e with
     |some ei=>Qa x y ei hp k
     |none=>False
    |_=>False
   |none=>False
  |_=>False
 |_,_=>False
def kg (i:TI) (x y:AV) (nm:Nat) (k:Rec->Prop):Prop:=
 match i.desc,x,y with
 | .slice e,.v (.one (.raw (.int .i64 n))),.v (.one (.raw (.int .i64 c)))=>match aJ ctx.tt e with
  |some ei=>match ei.ty with
   |some t=>if t.flat/\ ei.size=t.size/\ ei.bytes<=128/\ (jP ei.zero).length=ei.size then (match ck (fun _=>none) t (jP ei.zero) with
    |some (z,[],_)=>ob (decide (0<=n)&&decide (n<=c)&&decide (c.toNat<1099511627776)) (k {val:= .v (.one (.full nm)),fresh:= [.row t (List.replicate n.toNat z) 2]})
    |_=>False) else False
   |none=>False
  |none=>False
 |_,_,_=>False
def IQ (t:Ty) (x:t.T):List Cell:=(t.aQ x).map fun c=> .raw (bJ c)
def P6:Cell->Option (FuncId×List AV×List AV)
 | .jS (.func g) first cap=>some (g,first.map UJ,cap.map vU)
 | .mv g agg rs=>some (g,[IU agg rs],[])
 |_=>none
def D1 (c:Call) (ev:Operand->AV) (hp:HP) (nm:Nat) (k:Rec->Prop):Prop:=
 match c.callee with
 | .builtin b=>AJ ctx b c.argTypes.toList (pV ev c.args.toList) hp nm k
 | .value f=>match ev f with
  | .v (.one q)=>match P6 q with
   |some (g,fs,cs)=>match aJ ctx.specs g with
    |some s=>s ctx.X (fs++pV ev c.args.toList++cs) hp nm k
    |none=>match aJ ctx.dR g with
     |some KN=> ∀bh:Env,KN [] (fs++pV ev c.args.toList++cs) (iB hp nm++ [.dO bh nm]) fun v st=>rG (aj st.heap nm) bh nm (k (vo hp nm st.heap v))
     |none=>False
   |none=>match q with
    | .raw (.func (.func g) first cap)=>match aJ ctx.specs g with
     |some s=>s ctx.X (first.toList.map UJ++pV ev c.args.toList++cap.toList.map UJ) hp nm k
     |none=>False
    | .Hl n=>match aJ ctx.ys n with
     |some s=>s ctx.X (pV ev c.args.toList) hp nm k
     |none=>False
    |_=>False
  |_=>False
 |_=>False
def Tp (tt:List (Nat×TI)) (t:TypeId):Bool:=match aJ tt t with|some i=>cY i.desc|none=>false
def Wr (op:BinOp) (t:TypeId) (x y:AV) (k:Rec->Prop):Prop:=
 match x,y with
 | .v (.one (.raw (.int kk a))),.v (.one (.raw (.int k' b)))=>match op with
  | .shl=>ob (decide (0<=b)) (k {val:=fT kk (kk.wrap (a*2^(min b.toNat kk.bits)))})
  | .shr=>ob (decide (0<=b)) (k {val:=fT kk (a.fdiv (2^(min b.toNat kk.bits)))})
  |op=>if kk=k' then KJ op kk a b k else False
 | .v (.one (.raw (.bool a))),.v (.one (.raw (.bool b)))=>match op with
  | .eql=>match aJ ctx.tt t with|some i=>(match i.desc with| .bool=>k {val:=bC (a==b)} |_=>False)|none=>False
  | .neq=>match aJ ctx.tt t with|some i=>(match i.desc with| .bool=>k {val:=bC (!(a==b))} |_=>False)|none=>False
  |_=>False
 | .v (.one (.raw (.string a))),.v (.one (.raw (.string b)))=>match op with
  | .eql=>k {val:=bC (a==b)}
  | .neq=>k {val:=bC (a !=b)}
  | .add=>ob (decide (a.size+b.size<4611686018427387904)) (k {val:= .v (.one (.raw (.string (a++b))))})
  |_=>False
 | .v (.agg xs),.v (.agg ys)=>match op with
  | .eql=>match Tp ctx.tt t,VR ctx.tt 20 t xs ys with|true,some b=>k {val:=bC b} |_,_=>False
  | .neq=>match Tp ctx.tt t,VR ctx.tt 20 t xs ys with|true,some b=>k {val:=bC (!b)} |_,_=>False
  |_=>False
 | .v (.one (.raw (.slice a _ _))),.v (.one (.raw (.slice none _ _)))=>match aJ ctx.tt t with
  |some i=>match i.desc,op with
   | .slice _,.eql=>k {val:=bC a.isNone}
   | .slice _,.neq=>k {val:=bC (!a.isNone)}
   |_,_=>False
  |none=>False
 |_,_=>False
def Xd:AV->Bool
 | .v (.one (.ptr _ _))=>true
 | .v (.one (.raw (.pointer _)))=>true
 |_=>false
def XF (op:BinOp) (t:TypeId) (x y:AV) (hp:HP) (k:Rec->Prop):Prop:=match x,y with
 | .v (.one (.ptr n _)),.v (.one (.raw (.pointer none)))=>match aJ ctx.tt t with
  |some i=>match i.desc,op with
   | .pointer _,.eql=>dw hp n (k {val:=bC false,aD:= [n]})
   | .pointer _,.neq=>dw hp n (k {val:=bC true,aD:= [n]})
   |_,_=>False
  |none=>False
 | .v (.one (.raw (.pointer a))),.v (.one (.raw (.pointer none)))=>match aJ ctx.tt t with
  |some i=>match i.desc,op with
   | .pointer _,.eql=>k {val:=bC a.isNone}
   | .pointer _,.neq=>k {val:=bC (!a.isNone)}
   |_,_=>False
  |none=>False
 |_,_=>False
def ndB (x y:AV):Bool:= !ctx.dR.isEmpty&&(match x,y with
 | .v (.one (.full _)),.v (.one (.raw (.slice none 0 0)))=>true
 |_,_=>false)
def Xp (op:BinOp) (t:TypeId) (x y:AV) (hp:HP) (k:Rec->Prop):Prop:=match x,y with
 | .v (.one (.full n)),.v (.one (.raw (.slice none 0 0)))=>match hp n,aJ ctx.tt t with
  |some (.row _ l _),some i=>match i.desc,op with
   | .slice _,.eql=> ∀b:Bool,(0<l.length->b=false)->k {val:=bC b,aD:= [n]}
   | .slice _,.neq=> ∀b:Bool,(0<l.length->b=false)->k {val:=bC (!b),aD:= [n]}
   |_,_=>False
  |_,_=>False
 |_,_=>False
def Ah (o:Op) (ev:Operand->AV) (hp:HP) (nm:Nat) (k:Rec->Prop):Prop:=
 match o with
 | .move x=>k {val:=ev x}
 | .assign x=>k {val:=ev x}
 | .pick c a b=>match ev c with
  | .v (.one (.raw (.bool t)))=>cB t (k {val:=ev a}) (k {val:=ev b})
  |_=>False
 | .alloc t=>match aJ ctx.tt t with
  |some i=>k {val:= .v (.one (.ptr nm 0)),fresh:= [.cells (jP i.zero) t]}
  |none=>False
 | .box t x=>match (ev x).cells with
  |some xs=>k {val:= .v (.one (.ptr nm 0)),fresh:= [.cells xs t]}
  |none=>False
 | .build t parts=>match aJ ctx.tt t with
  |some i=>J2 ctx i parts.toList ev k
  |none=>False
 | .buildSlice t len parts=>match aJ ctx.tt t with
  |some i=>if Nat.beq len 0&&parts.toList.isEmpty then kg ctx i (.v (.one (.raw (.int .i64 0)))) (.v (.one (.raw (.int .i64 0)))) nm k else qL ctx i len parts.toList ev nm k
  |none=>False
 | .load t x=>match aJ ctx.tt t with
  |some i=>nK i (ev x) hp nm k
  |none=>False
 | .store t x y=>match aJ ctx.tt t with
  |some i=>oC i (ev x) (ev y) hp k
  |none=>False
 | .nilCheck x=>match ev x with
  | .v (.one (.ptr n off))=>dw hp n (k {val:= .v (.one (.ptr n off)),aD:= [n]})
  | .v (.one (.kV n off))=>dw hp n (k {val:= .v (.one (.kV n off)),aD:= [n]})
  | .v (.one (.cN n j q))=>(match Rf hp n with
   |true=>k {val:= .v (.one (.cN n j q)),aD:= [n]}
   |false=>jN hp n j fun _=>k {val:= .v (.one (.cN n j q)),aD:= [n]})
  | .v (.one (.eZ n j q))=>jN hp n j fun _=>k {val:= .v (.one (.eZ n j q)),aD:= [n]}
  | .v (.one (.jS (.func f) first cap))=>k {val:= .v (.one (.jS (.func f) first cap))}
  | .v (.one (.mv f agg rs))=>k {val:= .v (.one (.mv f agg rs))}
  | .v (.one (.raw (.pointer (some a))))=>k {val:= .v (.one (.raw (.pointer (some a))))}
  | .v (.one (.raw (.func (.func f) first cap)))=>k {val:= .v (.one (.raw (.func (.func f) first cap)))}
  |_=>False
 | .binOp op t x y _=>if ndB ctx (ev x) (ev y) then Xp ctx op t (ev x) (ev y) hp k else if Xd (ev x) then XF ctx op t (ev x) (ev y) hp k else Wr ctx op t (ev x) (ev y) k
 | .unOp u _ x=>match u,ev x with
  | .neg,.v (.one (.raw (.int kk a)))=>k {val:=fT kk (kk.wrap (0- a))}
  | .not,.v (.one (.raw (.bool b)))=>k {val:=bC (!b)}
  |_,_=>False
 | .convert s d x=>match aJ ctx.tt s,aJ ctx.tt d with
  |some _,some i=>match i.desc,ev x with
   | .int kk,.v (.one (.raw (.int _ a)))=>k {val:=fT kk (kk.wrap a)}
   |_,_=>False
  |_,_=>False
 | .makeFunc fn first cap=>match C2 (pV ev first.toList),C3 (pV ev cap.toList) with
  |some f,some c=>k {val:= .v (.one (.jS fn f c))}
  |_,_=>match fn,pV ev first.toList,cap.toList with
   | .func g,[r],[]=>match Lg r with
    |some (agg,rs)=>k {val:= .v (.one (.mv g agg rs))}
    |none=>False
   |_,_,_=>False
 | .slice t x lo hi mx=>match aJ ctx.tt t with
  |some i=>Lk ctx i (ev x) (lo.map ev) (hi.map ev) (mx.map ev) hp nm k
  |none=>False
 | .makeSlice t x y=>match aJ ctx.tt t with
  |some i=>kg ctx i (ev x) (ev y) nm k
  |none=>False
 | .fieldAddr t x f=>match aJ ctx.tt t with
  |some i=>j9 ctx i (ev x) f hp k
  |none=>False
 | .field t x f=>match aJ ctx.tt t with
  |some i=>Kf ctx i (ev x) f k
  |none=>False
 | .indexAddr t x ix=>match aJ ctx.tt t with
  |some i=>uw ctx i (ev x) (ev ix) (Im ix) hp k
  |none=>False
 | .index t x ix=>match aJ ctx.tt t with
  |some i=>KC ctx i (ev x) (ev ix) (Im ix) k
  |none=>False
 | .extract x i=>match ev x with
  | .oG l=>match l[i]? with|some a=>k {val:= .v a} |none=>False
  |_=>False
 | .call c=>D1 ctx c ev hp nm k
 |_=>False
def iD (tmps:List AV):Option Nat->AV->List AV
 |some d,v=>tmps.set d v
 |none,_=>tmps
def AS.app (st:AS) (dst:Option Nat) (r:Rec):AS:=
 {tmps:=iD st.tmps dst r.val,heap:=r.writes.foldl (fun h p=>h.set p.1 p.2) st.heap++r.fresh}
inductive Aw
 |bW
 |full (off m:Nat)
def Aw.hit:Aw->Option aF->Bool
 | .bW,some (.cells _ _)=>true
 | .full off m,some (.cells cs _)=>match cs[off]? with
  |some (.full m')=>Nat.beq m' m
  |_=>false
 |_,_=>false
def dL (o:Op) (ev:Operand->AV) (v:AV):Option (Nat×Aw):=match o with
 | .load _ x=>match ev x,v with
  | .v (.one (.ptr n off)),.v (.one (.full m))=>some (n,.full off m)
  |_,_=>none
 | .fieldAddr _ x _=>match ev x with
  | .v (.one (.ptr n _))=>some (n,.bW)
  |_=>none
 | .nilCheck x=>match ev x with
  | .v (.one (.ptr n _))=>some (n,.bW)
  |_=>none
 |_=>none
structure fR where
 nm:Nat
 cnt:Nat
 aD:List Nat
 wr:List Nat
 look:Option (Nat×Aw):=none
 ws:List (Nat×aF):= []
def EC (o:Op) (ev:Operand->AV) (nm:Nat) (r:Rec):fR:= {nm:=nm,cnt:=r.fresh.length,aD:=r.aD,wr:=r.writes.map (·.1),look:=dL o ev r.val,ws:=r.writes}
def kM (nm:Nat):fR:= {nm:=nm,cnt:=0,aD:= [],wr:= []}
def yE (ops:Array Oper) (j:Nat):Option Nat:=match ops[j]? with
 |some o=>o.dst
 |none=>none
def Xq (o:Op) (ev:Operand->AV):Bool:=o.operands.toList.all fun x=> !(ev x).Rb
def oZ (o:Op) (st:AS) (k:Rec->Prop):Prop:=if Xq o (eO st.tmps) then Ah ctx o (eO st.tmps) (aj st.heap) st.heap.length k else False
def mT (all:Array Oper):List Oper->List Nat->AS->List fR->(AS->List fR->Prop)->Prop
  | [],_,st,lg,K=>K st lg
  | o::rest,dec,st,lg,K=>match o.guard with
    |none=>oZ ctx o.op st fun r=>mT all rest dec (st.app o.dst r) (lg++ [EC o.op (eO st.tmps) st.heap.length r]) K
    | some (j,want)=>match yE all j with
      | some d=>match dD st.tmps d with
        | .v (.one (.raw (.bool x)))=>
          if dec.contains d then
            (if x=want then oZ ctx o.op st fun r=>mT all rest dec (st.app o.dst r) (lg++ [EC o.op (eO st.tmps) st.heap.length r]) K
             else mT all rest dec {st with tmps:=iD st.tmps o.dst qo} (lg++ [kM st.heap.length]) K)
          else
            (match want with
             |true=>cB x (oZ ctx o.op {st with tmps:=st.tmps.set d (bC true)} fun r=>mT all rest (d::dec) ({st with tmps:=st.tmps.set d (bC true)}.app o.dst r) (lg++ [EC o.op (eO (st.tmps.set d (bC true))) st.heap.length r]) K)
                (mT all rest (d::dec) {st with tmps:=iD (st.tmps.set d (bC false)) o.dst qo} (lg++ [kM st.heap.length]) K)
             |false=>cB x (mT all rest (d::dec) {st with tmps:=iD (st.tmps.set d (bC true)) o.dst qo} (lg++ [kM st.heap.length]) K)
                (oZ ctx o.op {st with tmps:=st.tmps.set d (bC false)} fun r=>mT all rest (d::dec) ({st with tmps:=st.tmps.set d (bC false)}.app o.dst r) (lg++ [EC o.op (eO (st.tmps.set d (bC false))) st.heap.length r]) K))
        | .oG []=>mT all rest dec {st with tmps:=iD st.tmps o.dst qo} (lg++ [kM st.heap.length]) K
        |_=>False
      |none=>False
def direct (o:Oper):List Nat:=(o.after.toList.filter (Region.binds .any)).map (·.on)
def nN:List Oper->List Nat->List Nat
 | [],acc=>acc
 |o::r,acc=>nN r (acc++ [(direct o).foldl (fun s j=>s|||(2^j|||acc.getD j 0)) 0])
def D7 (a b:List Nat):Bool:=a.all fun x=> !b.contains x
def vP (lg:List fR) (m:Nat):Option Nat:=lg.findIdx? fun l=>l.nm<=m&&m<l.nm+l.cnt
def jC (ops:Array Oper) (o:Oper):List Nat:=
 (o.op.operands.toList.filterMap fun| .tmp t=>some t|_=>none)++(match o.guard with|some (g,_)=>(yE ops g).toList|none=> [])
def K4 (ops:Array Oper) (ms:List Nat) (lg:List fR) (i:Nat):Bool:=
  match ops[i]?,lg[i]? with
  | some o,some l=>
    (direct o).all (· <i)&&(l.wr.all fun m=>l.aD.contains m)&&
    (l.aD.all fun m=>match vP lg m with|some j=>j==i||(ms.getD i 0).testBit j|none=>true)&&
    (List.range i).all fun j=>(ms.getD i 0).testBit j||
      (match ops[j]?,lg[j]? with
       |some p,some q=>D7 l.wr q.aD&&D7 q.wr l.aD&&D7 l.wr q.wr&&
          (match p.dst with|some d=>o.dst !=some d&& !(jC ops o).contains d|none=>true)&&
          (match o.dst with|some d=> !(jC ops p).contains d|none=>true)
       |_,_=>false)
  |_,_=>false
def Mv (ops:Array Oper) (lg:List fR):Bool:=
 lg.length==ops.size&&(List.range ops.size).all (K4 ops (nN ops.toList []) lg)
def zM (x:Nat):List Nat->Bool
 | []=>false
 |y::r=>Nat.beq x y||zM x r
def Vs:List Nat->List Nat->Bool
 | [],_=>true
 |x::r,l=>zM x l&&Vs r l
def vp:List Nat->List Nat->Bool
 | [],_=>true
 |x::r,l=> !zM x l&&vp r l
def Gt:List Oper->Nat->List Nat->List Nat
 | [],_,acc=>acc
 |o::r,k,acc=>Gt r (k+1) ((direct o).foldl (fun s j=>s|||(2^j|||(bif Nat.blt j k then acc.getD (k- 1- j) 0 else 0))) 0::acc)
def msF (ops:Array Oper):List Nat:=(Gt ops.toList 0 []).reverse
structure OI where
 d:Option Nat
 lk:List Nat
 m:Nat
def oiL (all:Array Oper):List Oper->List Nat->List OI
 |o::r,m::ms=>⟨o.dst,jC all o,m⟩::oiL all r ms
 |_,_=> []
def M7 (o p:OI):Bool:=
 (match p.d with
  |some d=>(match o.d with|some e=> !Nat.beq e d|none=>true)&& !zM d o.lk
  |none=>true)&&
 (match o.d with
  |some d=> !zM d p.lk
  |none=>true)
def xl (o:OI):List OI->Nat->Nat->Bool
 |p::r,j,k+1=>(o.m.testBit j||M7 o p)&&xl o r (j+1) k
 |_,_,_=>true
def Aj (all:List OI):List OI->Nat->Bool
 | [],_=>true
 |o::r,i=>xl o all 0 i&&Aj all r (i+1)
def F5:List Oper->Nat->Bool
 | [],_=>true
 |o::r,i=>((direct o).all fun j=>Nat.blt j i)&&F5 r (i+1)
def SL (ops:Array Oper):Bool:=F5 ops.toList 0&&Aj (oiL ops ops.toList (msF ops)) (oiL ops ops.toList (msF ops)) 0
structure DI where
 i:Nat
 m:Nat
 t:List Nat
 w:List Nat
def NI:List fR->List Nat->Nat->List DI
 |l::r,m::ms,i=>(match l.aD,l.wr with
  | [],[]=>NI r ms (i+1)
  |t,w=>⟨i,m,t,w⟩::NI r ms (i+1))
 |_,_,_=> []
def Zn:List fR->Nat->List (Nat×Nat×Nat)
 | [],_=> []
 |l::r,i=>match l.cnt with
  |0=>Zn r (i+1)
  |c=>(i,l.nm,c)::Zn r (i+1)
def Gs (x:Nat):List (Nat×Nat×Nat)->Option Nat
 | []=>none
 |p::r=>bif Nat.ble p.2.1 x&&Nat.blt x (p.2.1+p.2.2) then some p.1 else Gs x r
def Kb (mk:List (Nat×Nat×Nat)) (o:DI):Bool:=
 Vs o.w o.t&&o.t.all fun x=>match Gs x mk with|some j=>Nat.beq j o.i||o.m.testBit j|none=>true
def sM (o p:DI):Bool:=Nat.ble o.i p.i||o.m.testBit p.i||(vp o.w p.t&&vp p.w o.t&&vp o.w p.w)
def Ye:List DI->List DI
 | []=> []
 |o::r=>match o.w with
  | []=>Ye r
  |_=>o::Ye r
def Qf (D:List DI) (mk:List (Nat×Nat×Nat)):Bool:=(D.all fun o=>Kb mk o)&&(Ye D).all fun p=>D.all fun o=>sM o p&&sM p o
def force {α:Type} (n:Nat) (k:Nat->α):α:=match n with
 |0=>k 0
 |m+1=>k (m+1)
def A6 {α:Type} :List Nat->(List Nat->α)->α
 | [],k=>k []
 |x::r,k=>force x fun v=>A6 r fun l=>k (v::l)
def zX {α:Type} :List fR->(List fR->α)->α
 | [],k=>k []
 |e::r,k=>force e.nm fun a=>force e.cnt fun b=>A6 e.aD fun t=>A6 e.wr fun w=>zX r fun l=>k ({nm:=a,cnt:=b,aD:=t,wr:=w,look:=e.look,ws:=e.ws} ::l)
def td (ops:Array Oper) (lg:List fR):Bool:=zX lg fun lg=>
 Nat.beq lg.length ops.size&&SL ops&&Qf (NI lg (msF ops) 0) (Zn lg 0)
def S9 (n:Nat) (q:Aw):List (Nat×aF)->Bool
 | []=>true
 |p::r=>(!Nat.beq p.1 n||q.hit (some p.2))&&S9 n q r
def zD (n:Nat) (q:Aw):List fR->Bool
 | []=>true
 |l::r=>S9 n q l.ws&&zD n q r
def HU (h0:List aF) (all:List fR) (l:fR):fR:=match l.look,l.aD,l.wr with
 |some (n,q),[m],[]=>bif Nat.beq m n&&Nat.blt n h0.length&&q.hit (aj h0 n)&&zD n q all then {nm:=l.nm,cnt:=l.cnt,aD:= [],wr:= []} else l
 |_,_,_=>l
def TG (h0:List aF) (lg:List fR):List fR:=lg.map (HU h0 lg)
def ME (ops:Array Oper) (draw:Bool) (st:AS) (K:AS->Prop):Prop:=
 if draw then mT {ctx with ys:= [],dR:= []} ops ops.toList [] st [] fun st' lg=>if td ops lg then K st' else if td ops (TG st.heap lg) then K st' else False
 else mT ctx ops ops.toList [] st [] fun st' _=>K st'
inductive Src
 |same (m:Nat)
 |nil
 |cells (m len:Nat)
 |mt (m off:Nat)
 |any (m:Nat)
def gY (π:List Src) (n:Nat):Option Nat:=match π[n]? with
 |some (.same m)=>some m
 |_=>none
def mZ (π:List Src):Ref->Option Ref
 | .ext v=>some (.ext v)
 | .loc n o=>match gY π n with|some m=>some (.loc m o)|none=>none
 | .elem n j=>match gY π n with|some m=>some (.elem m j)|none=>none
 | .full n=>match gY π n with|some m=>some (.full m)|none=>none
 | .mp n=>match gY π n with|some m=>some (.mp m)|none=>none
def iS (π:List Src):List Ref->Option (List Ref)
 | []=>some []
 |r::l=>match mZ π r,iS π l with|some q,some m=>some (q::m)|_,_=>none
def iM (π:List Src):Cell->Option Cell
 | .raw v=>some (.raw v)
 | .ptr n o=>match gY π n with|some m=>some (.ptr m o)|none=>none
 | .kV n o=>match gY π n with|some m=>some (.kV m o)|none=>none
 | .sl n o l c=>match gY π n with|some m=>some (.sl m o l c)|none=>none
 | .cN n j k=>match gY π n with|some m=>some (.cN m j k)|none=>none
 | .eZ n j k=>match gY π n with|some m=>some (.eZ m j k)|none=>none
 | .full n=>match π[n]? with
  |some (.same m)=>some (.full m)
  |some .nil=>some (.raw (.slice none 0 0))
  |some (.cells m len)=>some (.sl m 0 len len)
  |some (.mt m off)=>some (.sl m off 0 0)
  |some (.any m)=>some (.full m)
  |none=>none
 | .jS f a cap=>match iS π cap with|some c=>some (.jS f a c)|none=>none
 | .Hl n=>match gY π n with|some m=>some (.Hl m)|none=>none
 | .mp n=>match gY π n with|some m=>some (.mp m)|none=>none
 | .mv f a rs=>match iS π rs with|some c=>some (.mv f a c)|none=>none
def gF (π:List Src):List Cell->Option (List Cell)
 | []=>some []
 |c::l=>match iM π c,gF π l with|some q,some m=>some (q::m)|_,_=>none
def DK (π:List Src):A0->Option A0
 | .one c=>match iM π c with|some q=>some (.one q)|none=>none
 | .agg cs=>match gF π cs with|some q=>some (.agg q)|none=>none
def fX (π:List Src):List A0->Option (List A0)
 | []=>some []
 |c::l=>match DK π c,fX π l with|some q,some m=>some (q::m)|_,_=>none
def qb (π:List Src):AV->Option AV
 | .v a=>match DK π a with|some q=>some (.v q)|none=>none
 | .oG l=>match fX π l with|some q=>some (.oG q)|none=>none
 | .dead=>none
def xO (π:List Src):Nat->Bool
 |0=>true
 |n+1=>(match π[n]? with|some (.same m)=>m==n|_=>false)&&xO π n
def fB (π:List Src):aF->Option aF
 | .cells cs e=>match gF π cs with|some q=>some (.cells q e)|none=>none
 | .row t l rk=>some (.row t l rk)
 | .alias n s q=>match gY π n with|some m=>some (.alias m s q)|none=>none
 | .gone=>none
 | .loop r s j=>some (.loop r s j)
 | .dO ρ n=>if xO π n then some (.dO ρ n) else none
 | .fJ S=>some (.fJ S)
 | .map ka va k v l=>some (.map ka va k v l)
 | .Ec ka k u l c q=>match gY π c with|some m=>some (.Ec ka k u l m q)|none=>none
 | .set n=>match gY π n with|some m=>some (.set m)|none=>none
 | .gv n c k u x l=>match gY π n,gY π c with|some m,some d=>some (.gv m d k u x l)|_,_=>none
 | .rc cs=>match gF π cs with|some q=>some (.rc q)|none=>none
 | .hmap es l7=>some (.hmap es l7)
 | .dp t l c st kn=>match gY π c with|some d=>some (.dp t l d st kn)|none=>none
 | .nv n c j q u=>match gY π n,gY π c with|some m,some d=>some (.nv m d j q u)|_,_=>none
 | .It n c es l7 ka k u l cur=>match gY π n,gY π c,cur with
  |some m,some d,none=>some (.It m d es l7 ka k u l none)
  |some m,some d,some (a,q)=>match gY π q with|some q'=>some (.It m d es l7 ka k u l (some (a,q')))|none=>none
  |_,_,_=>none
def yj:Src->Option Nat
 | .same m=>some m
 | .nil=>none
 | .cells m _=>some m
 | .mt _ _=>none
 | .any m=>some m
def BS (π:List Src) (h:List aF) (s:Src) (o:aF):Prop:=match s with
 | .same m=> ∃p,aj h m=some p/\ fB π o=some p
 | .nil=> ∃t rk,o= .row t [] rk/\ rk≠0
 | .mt m _=> ∃t cs e,o= .row t [] 3/\ aj h m=some (.cells cs e)
 | .any m=> ∃t l rk,o= .row t l 3/\ aj h m=some (.row t l rk)/\ rk≠0
 | .cells m len=> ∃t l cs e rk,o= .row t l rk/\ (rk=2\/ rk=3)/\ aj h m=some (.cells cs e)/\ t.flat=true/\ uh (ck (fun _=>none) t) len cs=some (l,[])/\ cs.length=len*t.size/\ Nat.ble len 1099511627776=true
def ry (π:List Src) (h:List aF):List Src->List aF->Prop
 |_::r,.gone::l=>ry π h r l
 |s::r,o::l=>BS π h s o/\ ry π h r l
 | [],[]=>True
 |_,_=>False
def tw:List Src->List aF->List Nat
 |_::r,.gone::l=>tw r l
 |s::r,_::l=>(match yj s with|some m=>m::tw r l|none=>tw r l)
 |_,_=> []
def FF (π:List Src):List AV->List AV->Prop
 |_::r,.dead::s=>FF π r s
 |x::r,y::s=>qb π y=some x/\ FF π r s
 | [],[]=>True
 |_,_=>False
structure Ren (π:List Src) (st st':AS):Prop where
 tmps:FF π st.tmps st'.tmps
 heap:ry π st.heap π st'.heap
 inj:gW (tw π st'.heap)=true
def Dn (st st':AS):Prop:= ∃π,Ren π st st'
def tX (id:Nat) (K:Exit->AS->Prop) (e:Exit) (st':AS):Prop:=match e with
 | .exit id'=>if id'=id then K .normal st' else K (.exit id') st'
 |e=>K e st'
def ko:Code->Bool
 | .seq a b=>ko a&&ko b
 | .cond _ a b=>ko a&&ko b
 | .loop c=>ko c
 | .block _ c=>ko c
 | .rangeFunc _ _ _ _=>false
 | .scope c=>ko c
 |_=>true
def wC:List AV->List Nat->List AV->List AV
 |l,t::ts,v::vs=>wC (l.set t v) ts vs
 |l,_,_=>l
def VO (hp:HP) (nm:Nat) (h:List aF) (b:Bool):Rec:=vo hp nm h (bC b)
def Mg (o:Option aF) (r:Loop) (K:Prop):Prop:=match o with
 |some (.loop r' .ready none)=>r'=r/\ K
 |_=>False
def KL (o:Option aF) (r:Loop) (K:Prop):Prop:=match o with
 |some (.loop r' .busy none)=>r'=r/\ K
 |_=>False
def Gm (r:Loop):Option Code->aF
 |none=> .loop r .ready none
 |some c=> .loop r .done (some c)
def rW (hp:HP) (nm n:Nat) (r:Loop) (bh:Env) (h:List aF) (jump:Option Code) (k:Rec->Prop):Prop:=
 KL (aj h n) r (rG (aj h nm) bh nm (k (VO hp nm (h.set n (Gm r jump)) jump.isNone)))
def Ml (n:Nat) (b8:Env) (tmps:List AV) (h:List aF) (K:Exit->AS->Prop):Prop:=
 rG (aj h (n+1)) b8 (n+1) (match aj h n with
  |some (.loop _ .ready none)=>K .normal ⟨tmps,(h.set n .gone).set (n+1) .gone⟩
  |some (.loop _ .done (some .ret))=>K .ret ⟨tmps,(h.set n .gone).set (n+1) .gone⟩
  |some (.loop _ .done (some (.exit id)))=>K (.exit id) ⟨tmps,(h.set n .gone).set (n+1) .gone⟩
  |_=>False)
def XT   (X0:Addr->Value->Prop) (n:Nat) (tmps:List AV) (r:Loop) (b8:Env) (ps:Array Tmp) (A B:AS->(Exit->AS->Prop)->Prop):Spec:=fun X args hp nm k=>X=X0/\ (if ps.size=args.length then
          rG (hp (n+1)) b8 (n+1) (Mg (hp n) r (∀bh:Env,
            A ⟨wC tmps ps.toList args,iB hp nm++ [.dO bh nm]⟩ fun e u9=>match e with
              | .normal=>rG (aj u9.heap nm) bh nm (Mg (aj u9.heap n) r (B ⟨u9.tmps,u9.heap.set n (.loop r .busy none)⟩ fun e Dl=>match e with
                | .normal=>rW hp nm n r bh Dl.heap none k
                | .ret=>rW hp nm n r bh Dl.heap (some .ret) k
                | .exit id=>rW hp nm n r bh Dl.heap (some (.exit id)) k
                |_=>False))
              |_=>False)) else False)
def iF:Code->AS->(Exit->AS->Prop)->Prop
 | .skip,st,K=>K .normal st
 | .region _ ops draw,st,K=>ME ctx ops draw st (K .normal)
 | .seq a b,st,K=>iF a st fun e st'=>match e with
  | .normal=>iF b st' K
  |e=>K e st'
 | .cond c x y,st,K=>match eO st.tmps c with
  | .v (.one (.raw (.bool t)))=>cB t (iF x st K) (iF y st K)
  |_=>False
 | .block id c,st,K=>match aJ ctx.lp id with
  |some sp=>sp st K
  |none=>iF c st (tX id K)
 | .loop c,st,K=> ∃(I:Nat->AS->Prop),(∃m st',Dn st st'/\ I m st')/\ ∀m u9,I m u9->iF c u9 fun e Dl=>match e with
  | .normal=> ∃m' st',m'<m/\ Dn Dl st'/\ I m' st'
  |e=>K e Dl
 | .rangeFunc g ps assign body,st,K=>if ko assign&&ko body then match eO st.tmps g with
  | .v (.one (.jS (.func f) [] cap))=>match aJ ctx.dR f with
   | some KN=> ∀(r:Loop) (b8:Env),KN [(st.heap.length,XT ctx.X st.heap.length st.tmps r b8 ps (iF assign) (iF body))]
     (.v (.one (.Hl st.heap.length))::cap.map vU) (st.heap++ [.loop r .ready none,.dO b8 (st.heap.length+1)]) fun _ Dl=>Ml st.heap.length b8 st.tmps Dl.heap K
   |none=>False
  |_=>False else False
 | .exit id,st,K=>K (.exit id) st
 | .ret,st,K=>K .ret st
 |_,_,_=>False
def ym (c:Code):Nat->iw
 |0,_,_=>False
 |n+1,st,K=>iF ctx c st fun e Dl=>match e with
  | .normal=>ym c n Dl K
  |e=>K e Dl
def GI (st:AS):ResultVar->Option A0
 | .tmp t=>match dD st.tmps t with| .v a=>some a|_=>none
 | .cell t ty=>match dD st.tmps t,aJ ctx.tt ty with
  | .v (.one (.ptr n off)),some i=>match aj st.heap n with
   |some (.cells cs _)=>if cY i.desc then (if off+i.size<=cs.length then some (.agg ((cs.drop off).take i.size)) else none)
    else (match cs[off]? with|some c=>some (.one c)|none=>none)
   |_=>none
  |_,_=>none
def x9 (st:AS):List ResultVar->Option (List A0)
 | []=>some []
 |r::l=>match GI ctx st r,x9 st l with
  |some a,some b=>some (a::b)
  |_,_=>none
def O1 (fn:Func) (st:AS) (R:AV->AS->Prop):Prop:=
 match x9 ctx st fn.results.toList with
 |some [a]=>R (.v a) st
 |some l=>R (.oG l) st
 |none=>False
def H6 (fn:Func) (args:List AV) (heap:List aF) (R:AV->AS->Prop):Prop:=
 match fn.body with
 |some c=>iF ctx c ⟨args++List.replicate (fn.ntmps- args.length) qo,heap⟩ fun e st=>match e with
  | .ret=>O1 ctx fn st R
  | .normal=>O1 ctx fn st R
  |_=>False
 |none=>False
end
end Go.Ev
