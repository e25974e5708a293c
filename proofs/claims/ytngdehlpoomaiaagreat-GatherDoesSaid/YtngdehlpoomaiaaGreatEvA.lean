/- The abstract evaluator: values whose addresses are names, a small heap of named objects, and 'codeE', the condition under which a piece of code does what is asked. -/
import Derived.Below
import Derived.KernelRfl
noncomputable section
set_option linter.unusedSectionVars false
set_option linter.unusedVariables false
set_option linter.unusedSimpArgs false
namespace Go.Ev
inductive Ty
 |int (k:IntKind)
 |bool
 |str
 |prod (a b:Ty)
 |sl (t:Ty)
 deriving DecidableEq
@[reducible] def Ty.T:Ty->Type
 | .int _=>Int
 | .bool=>Bool
 | .str=>ByteArray
 | .prod a b=>a.T×b.T
 | .sl t=>List t.T
def Ty.d:(t:Ty)->t.T
 | .int _=>(0:Int)
 | .bool=>false
 | .str=>ByteArray.empty
 | .prod a b=>(a.d,b.d)
 | .sl t=>([]:List t.T)
def Ty.size:Ty->Nat
 | .prod a b=>a.size+b.size
 |_=>1
def Ty.flat:Ty->Bool
 | .prod a b=>a.flat&&b.flat
 | .sl _=>false
 |_=>true
def Ty.shallow:Ty->Bool
 | .prod a b=>a.shallow&&b.shallow
 | .sl t=>t.flat
 |_=>true
inductive cw
 |flat (v:Value)
 |sl (u:Ty) (l:List u.T)
def Ty.aU:(t:Ty)->t.T->List cw
 | .int k,n=> [.flat (.int k n)]
 | .bool,b=> [.flat (.bool b)]
 | .str,s=> [.flat (.string s)]
 | .prod a b,x=>a.aU x.1++b.aU x.2
 | .sl u,l=> [.sl u l]
def bJ:cw->Value
 | .flat v=>v
 | .sl _ _=> .slice none 0 0
def eqT:(t:Ty)->t.T->t.T->Bool
 | .int _,x,y=>(x:Int)==y
 | .bool,x,y=>(x:Bool)==y
 | .str,x,y=>(x:ByteArray)==y
 | .prod a b,x,y=>eqT a x.1 y.1&&eqT b x.2 y.2
 | .sl _,_,_=>false
def anI (a:Bool) (t:Ty) (x:t.T):Value:=match a with
 |true=> .agg ((t.aU x).map bJ).toArray
 |false=>match (t.aU x).map bJ with
  | [v]=>v
  |_=> .tuple #[]
def gd (t:Ty) (l:List t.T) (j:Nat):t.T:=l.getD j t.d
def jm (t u:Ty) (l:List t.T):Option (List u.T):=if h:t=u then some (h▸l) else none
inductive Ref
 |ext (v:Value)
 |loc (n off:Nat)
 |elem (n j:Nat)
 |full (n:Nat)
 |mp (n:Nat)
inductive Cell
 |raw (v:Value)
 |ptr (n off:Nat)
 |nW (n off:Nat)
 |sl (n off len cap:Nat)
 |full (n:Nat)
 |c9 (n j k:Nat)
 |fY (n j k:Nat)
 |jO (f:Fn) (first:List Value) (cap:List Ref)
 |N8 (n:Nat)
 |mp (n:Nat)
 |mv (f:FuncId) (agg:Bool) (rs:List Ref)
inductive A0
 |one (c:Cell)
 |agg (cs:List Cell)
inductive AV
 |v (a:A0)
 |pT (l:List A0)
 |dead
structure Ent where
 key:Sigma Ty.T
 blk:Option Nat
 base:Option Addr
 len:Nat
 cap:Nat
 es:Nat
 vals:List Value
structure Loc where
 blk:Option Nat:=none
 base:Option Addr:=none
 len:Nat:=0
 cap:Nat:=0
 es:Nat:=1
 jq:List Ent:= []
abbrev Env:=Nat->Loc
inductive aD
 |cells (cs:List Cell) (e:TypeId)
 |row (t:Ty) (l:List t.T) (rk:Nat)
 |alias (n s:Nat) (q:Option Nat)
 |gone
 |loop (r:Loop) (s:LoopState) (j:Option Code)
 |cg (ρ:Env) (n:Nat)
 |hide (S:Nat->Prop)
 |map (ka va:Bool) (k v:Ty) (l:List (k.T×v.T))
 |Pp (ka:Bool) (k u:Ty) (l:List (k.T×List u.T)) (c:Nat) (q:Option k.T)
 |set (n:Nat)
 |gv (n c:Nat) (k u:Ty) (x:k.T) (l:List u.T)
 |rc (cs:List Cell)
 |hmap (es:Array MapEntry) (pB:Nat)
 |V2 (n c:Nat) (es:Array MapEntry) (pB:Nat) (ka:Bool) (k u:Ty) (l:List (k.T×List u.T)) (cur:Option (k.T×Nat))
 |dp (t:Ty) (l:List t.T) (c:Nat) (st kn:Bool)
 |nv (n c j q:Nat) (u:Ty)
def addrOf (ρ:Env) (n off:Nat):Option Addr:=(ρ n).blk.map fun b=> {block:=b,off:=off,spot:=none}
def Ref.ae (ρ:Env):Ref->Value
 | .ext v=>v
 | .loc n off=> .pointer (addrOf ρ n off)
 | .elem n j=> .pointer ((ρ n).base.map (·.add (j*(ρ n).es+0)))
 | .full n=> .slice (ρ n).base (ρ n).len (ρ n).cap
 | .mp n=> .map (ρ n).blk
def acP (agg:Bool) (vs:List Value):Value:=match agg with
 |true=> .agg vs.toArray
 |false=>match vs with
  | [v]=>v
  |_=> .tuple #[]
def Cell.ae (ρ:Env):Cell->Value
 | .raw v=>v
 | .ptr n off=> .pointer (addrOf ρ n off)
 | .nW n off=> .pointer (addrOf ρ n off)
 | .sl n off len cap=> .slice (addrOf ρ n off) len cap
 | .full n=> .slice (ρ n).base (ρ n).len (ρ n).cap
 | .c9 n j k=> .pointer ((ρ n).base.map (·.add (j*(ρ n).es+k)))
 | .fY n j k=> .pointer ((ρ n).base.map (·.add (j*(ρ n).es+k)))
 | .jO f first cap=> .func f first.toArray (cap.map (Ref.ae ρ)).toArray
 | .N8 n=>match (ρ n).blk with
  |some l=> .func (.yield l) #[] #[]
  |none=> .nilFunc
 | .mp n=> .map (ρ n).blk
 | .mv f agg rs=> .func (.func f) #[acP agg (rs.map (Ref.ae ρ))] #[]
def A0.ae (ρ:Env):A0->Value
 | .one c=>c.ae ρ
 | .agg cs=> .agg (cs.map (Cell.ae ρ)).toArray
def AV.ae (ρ:Env):AV->Value
 | .v a=>a.ae ρ
 | .pT l=> .tuple (l.map (A0.ae ρ)).toArray
 | .dead=> .tuple #[]
def Ref.ok (Kn:Nat->Prop):Ref->Prop
 | .ext _=>True
 | .loc n _=>Kn n
 | .elem n _=>Kn n
 | .full n=>Kn n
 | .mp n=>Kn n
def Cell.ok (Kn:Nat->Prop):Cell->Prop
 | .raw _=>True
 | .ptr n _=>Kn n
 | .nW n _=>Kn n
 | .sl n _ _ _=>Kn n
 | .full n=>Kn n
 | .c9 n _ _=>Kn n
 | .fY n _ _=>Kn n
 | .jO _ _ cap=> ∀r∈cap,r.ok Kn
 | .N8 n=>Kn n
 | .mp n=>Kn n
 | .mv _ _ rs=> ∀r∈rs,r.ok Kn
def A0.ok (Kn:Nat->Prop):A0->Prop
 | .one c=>c.ok Kn
 | .agg cs=> ∀c∈cs,c.ok Kn
def AV.ok (Kn:Nat->Prop):AV->Prop
 | .v a=>a.ok Kn
 | .pT l=> ∀a∈l,a.ok Kn
 | .dead=>True
def aD.ok (Kn:Nat->Prop):aD->Prop
 | .cells cs _=> ∀c∈cs,c.ok Kn
 | .row _ _ _=>True
 | .alias n _ _=>Kn n
 | .gone=>True
 | .loop _ _ _=>True
 | .cg _ n=> ∀m,m<n->Kn m
 | .hide _=>True
 | .map _ _ _ _ _=>True
 | .Pp _ _ _ _ c _=>Kn c
 | .set n=>Kn n
 | .gv n c _ _ _ _=>Kn n/\ Kn c
 | .rc cs=> ∀c∈cs,c.ok Kn
 | .hmap _ _=>True
 | .V2 n c _ _ _ _ _ _ cur=>Kn n/\ Kn c/\ ∀p,cur=some p->Kn p.2
 | .dp _ _ c _ _=>Kn c
 | .nv n c _ _ _=>Kn n/\ Kn c
def ck:AV:= .pT []
def ajl:Value->A0
 | .agg cs=> .agg (cs.toList.map .raw)
 |v=> .one (.raw v)
def ofV (v:Value):AV:= .v (ajl v)
def yn:Value->Bool
 | .agg _=>false
 | .tuple _=>false
 |_=>true
def Cell.one:Cell->Bool
 | .raw v=>yn v
 |_=>true
def A0.cells:A0->Option (List Cell)
 | .one c=>if c.one then some [c] else none
 | .agg cs=>some cs
def AV.cells:AV->Option (List Cell)
 | .v a=>a.cells
 | .pT _=>none
 | .dead=>none
def AV.LH:AV->Bool
 | .dead=>true
 |_=>false
def qq:List Cell->Bool
 | []=>true
 |c::r=>if c.one then qq r else false
structure Rec where
 val:AV
 fresh:List aD:= []
 writes:List (Nat×aD):= []
 aF:List Nat:= []
structure TI where
 desc:TypeDesc
 size:Nat
 bytes:Nat
 zero:Value
 ty:Option Ty
def cB (b:Bool) (p q:Prop):Prop:=match b with|true=>p|false=>q
def ob (b:Bool) (p:Prop):Prop:=match b with|true=>p|false=>False
def aL {α:Type _} :List (Nat×α)->Nat->Option α
 | [],_=>none
 |(k,a)::r,n=>if k=n then some a else aL r n
def dx:TypeDesc->Bool
 | .struct _=>true
 | .array _ _=>true
 |_=>false
def bY:List AV->Nat->AV
 | [],_=>ck
 |a::_,0=>a
 |_::r,n+1=>bY r n
abbrev HP:=Nat->Option aD
abbrev Spec:=(Addr->Value->Prop)->List AV->HP->Nat->(Rec->Prop)->Prop
structure AS where
 tmps:List AV
 heap:List aD
abbrev cP:=List (Nat×Spec)->List AV->List aD->(AV->AS->Prop)->Prop
abbrev br:=AS->(Exit->AS->Prop)->Prop
structure Ctx where
 tt:List (Nat×TI)
 specs:List (Nat×Spec)
 X:Addr->Value->Prop
 lp:List (Nat×br):= []
 ys:List (Nat×Spec):= []
 its:List (Nat×cP):= []
def cE (tmps:List AV):Operand->AV
 | .tmp t=>bY tmps t
 | .const v=>ofV v
 | .global g=> .v (.one (.raw (.pointer (some {block:=g,off:=0,spot:=none}))))
 | .func f=> .v (.one (.jO (.func f) [] []))
def setCells {α:Type} :List α->Nat->List α->List α
 |cs,_,[]=>cs
 |cs,off,c::r=>setCells (cs.set off c) (off+1) r
def A1 (place:Nat->Option (Nat×Nat)) (ev:Operand->AV):List Cell->List (Nat×Operand)->Option (List Cell)
 |cs,[]=>some cs
 |cs,(i,x)::r=>match place i,(ev x).cells with
  |some (off,size),some xs=>if xs.length=size then (if off+size<=cs.length then A1 place ev (setCells cs off xs) r else none) else none
  |_,_=>none
def yh (d:TypeDesc) (cs:List Cell):Option AV:=
 if dx d then some (.v (.agg cs)) else match cs with
  | [c]=>some (.v (.one c))
  |_=>none
def iA (k:IntKind) (n:Int):AV:= .v (.one (.raw (.int k n)))
def bG (b:Bool):AV:= .v (.one (.raw (.bool b)))
def VX:Operand->Bool
 | .const _=>true
 |_=>false
def ZF (op:BinOp) (kk:IntKind) (a b:Int) (k:Rec->Prop):Prop:=
 match op with
 | .add=>k {val:=iA kk (kk.wrap (a+b))}
 | .sub=>k {val:=iA kk (kk.wrap (a- b))}
 | .mul=>k {val:=iA kk (kk.wrap (a*b))}
 | .quo=>ob (decide (b≠0)) (k {val:=iA kk (kk.wrap (a.tdiv b))})
 | .rem=>ob (decide (b≠0)) (k {val:=iA kk (a.tmod b)})
 | .eql=>k {val:=bG (a==b)}
 | .neq=>k {val:=bG (a !=b)}
 | .lss=>k {val:=bG (decide (a<b))}
 | .leq=>k {val:=bG (decide (a<=b))}
 | .gtr=>k {val:=bG (decide (a>b))}
 | .geq=>k {val:=bG (decide (a>=b))}
 | .and=>k {val:=iA kk (kk.wrap ((BitVec.ofInt kk.bits a&&&BitVec.ofInt kk.bits b).toNat))}
 | .or=>k {val:=iA kk (kk.wrap ((BitVec.ofInt kk.bits a|||BitVec.ofInt kk.bits b).toNat))}
 | .xor=>k {val:=iA kk (kk.wrap ((BitVec.ofInt kk.bits a^^^BitVec.ofInt kk.bits b).toNat))}
 | .andNot=>k {val:=iA kk (kk.wrap ((BitVec.ofInt kk.bits a&&& ~~~ BitVec.ofInt kk.bits b).toNat))}
 |_=>False
def eqFields (tt:List (Nat×TI)) (eq:TypeId->List Cell->List Cell->Option Bool):List Field->List Cell->List Cell->Option Bool
 | [],_,_=>some true
 |f::r,xs,ys=>match aL tt f.type with
  |none=>none
  |some fi=>if f.name= "_" then none else
   match eq f.type ((xs.drop f.offset).take fi.size) ((ys.drop f.offset).take fi.size),eqFields tt eq r xs ys with
   |some a,some b=>some (a&&b)
   |_,_=>none
def JB (eq:TypeId->List Cell->List Cell->Option Bool) (e s:Nat):Nat->Nat->List Cell->List Cell->Option Bool
 |0,_,_,_=>some true
 |n+1,i,xs,ys=>match eq e ((xs.drop (i*s)).take s) ((ys.drop (i*s)).take s),JB eq e s n (i+1) xs ys with
  |some a,some b=>some (a&&b)
  |_,_=>none
def eqE (tt:List (Nat×TI)):Nat->TypeId->List Cell->List Cell->Option Bool
 |0,_,_,_=>none
 |d+1,t,xs,ys=>match aL tt t with
  |none=>none
  |some i=>match i.desc with
   | .int _=>match xs,ys with
    | [.raw (.int k a)],[.raw (.int k' b)]=>if k=k' then some (a==b) else none
    |_,_=>none
   | .bool=>match xs,ys with
    | [.raw (.bool a)],[.raw (.bool b)]=>some (a==b)
    |_,_=>none
   | .string=>match xs,ys with
    | [.raw (.string a)],[.raw (.string b)]=>some (a==b)
    |_,_=>none
   | .struct fs=>eqFields tt (eqE tt d) fs.toList xs ys
   | .array n e=>match aL tt e with
    |some ei=>JB (eqE tt d) e ei.size n 0 xs ys
    |none=>none
   |_=>none
def gw (nm:Nat):List cw->List Cell×List aD
 | []=>([],[])
 | .flat v::r=>match gw nm r with|(cs,os)=>(.raw v::cs,os)
 | .sl u l::r=>match gw (nm+1) r with|(cs,os)=>(.full nm::cs,.row u l 0::os)
def cM (t:Ty) (l:List t.T) (j k size:Nat):List cw:=((t.aU (gd t l j)).drop k).take size
def kB:(t:Ty)->List cw->Option (t.T×List cw)
 | .int k,cs=>match cs with
  | .flat (.int k' n)::r=>if k=k' then some (n,r) else none
  |_=>none
 | .bool,cs=>match cs with
  | .flat (.bool b)::r=>some (b,r)
  |_=>none
 | .str,cs=>match cs with
  | .flat (.string s)::r=>some (s,r)
  |_=>none
 | .prod a b,cs=>match kB a cs with
  |some (x,r)=>match kB b r with
   |some (y,r')=>some ((x,y),r')
   |none=>none
  |none=>none
 | .sl u,cs=>match cs with
  | .sl u' l::r=>match jm u' u l with
   |some l'=>some (l',r)
   |none=>none
  |_=>none
def ga:List Cell->Option (List cw)
 | []=>some []
 | .raw v::r=>match v with
  | .int _ _=>(ga r).map (.flat v:: ·)
  | .bool _=>(ga r).map (.flat v:: ·)
  | .string _=>(ga r).map (.flat v:: ·)
  |_=>none
 |_=>none
def fT (n s:Nat):Option Nat->Nat
 |some m=>min m (n- s)
 |none=>n- s
def ov {α:Type} (l:List α) (s:Nat):Option Nat->List α
 |none=>l.drop s
 |some m=>(l.drop s).take m
def at4 (dec:List Cell->Option (List cw×List Nat×List Nat)) (size:Nat) (u:Ty):Nat->List Cell->Option (List u.T×List Nat×List Nat)
 |0,_=>some ([],[],[])
 |n+1,cs=>match dec (cs.take size) with
  |some (ps,tc,ab)=>match kB u ps with
   |some (x,[])=>match at4 dec size u n (cs.drop size) with
    |some (l,CN,ab')=>some (x::l,tc++CN,ab++ab')
    |none=>none
   |_=>none
  |none=>none
def BR {α:Type} (dec:List Cell->Option (α×List Cell×List Nat)):Nat->List Cell->Option (List α×List Nat)
 |0,_=>some ([],[])
 |n+1,cs=>match dec cs with
  |some (x,r,tc)=>match BR dec n r with
   |some (l,CN)=>some (x::l,tc++CN)
   |none=>none
  |none=>none
def ct (hp:HP):(t:Ty)->List Cell->Option (t.T×List Cell×List Nat)
 | .int k,cs=>match cs with
  | .raw (.int k' n)::r=>if k=k' then some (n,r,[]) else none
  |_=>none
 | .bool,cs=>match cs with
  | .raw (.bool b)::r=>some (b,r,[])
  |_=>none
 | .str,cs=>match cs with
  | .raw (.string s)::r=>some (s,r,[])
  |_=>none
 | .prod a b,cs=>match ct hp a cs with
  |some (x,r,tc)=>match ct hp b r with
   |some (y,r',CN)=>some ((x,y),r',tc++CN)
   |none=>none
  |none=>none
 | .sl u,cs=>match cs with
  | .raw (.slice none 0 _)::r=>some (([]:List u.T),r,[])
  | .full n::r=>match hp n with
   |some (.row t l _)=>match jm t u l with
    |some l'=>some (l',r,[n])
    |none=>none
   |some (.alias m s q)=>match hp m with
    |some (.row t l _)=>match jm t u l with
     |some l'=>some (ov l' s q,r,[n,m])
     |none=>none
    |_=>none
   |some (.dp t l c _ kn)=>match kn,hp c with
    |true,some (.set _)=>match jm t u l with
     |some l'=>some (l',r,[n,c])
     |none=>none
    |_,_=>none
   |_=>none
  | .sl n off len cap::r=>if u.shallow&&decide (len<=cap) then (match hp n with
   |some (.cells cs _)=>match BR (ct hp u) len (cs.drop off) with
    |some (l,tc)=>some (l,r,n::tc)
    |none=>none
   |_=>none) else none
  |_=>none
def Ch (hp:HP):Ty->List Cell->Option (List Nat×Bool×List Cell)
 | .prod a b,cs=>match Ch hp a cs with
  |some (ns,f,r)=>match Ch hp b r with
   |some (ns',f',r')=>some (ns++ns',f&&f',r')
   |none=>none
  |none=>none
 | .sl u,cs=>if u.flat then (match cs with
  | .raw (.slice none 0 _)::r=>some ([],true,r)
  | .full n::r=>match hp n with
   |some (.row _ _ rk)=>if rk=0 then some ([],false,r) else some ([n],true,r)
   |some (.alias m _ _)=>match hp m with
    |some (.row _ _ rk)=>if rk=0 then some ([],false,r) else none
    |_=>none
   |_=>none
  | .sl n _ _ _::r=>match hp n with
   |some (.cells _ _)=>some ([n],true,r)
   |_=>none
  |_=>none) else none
 |_,cs=>match cs with
  |_::r=>some ([],true,r)
  | []=>none
def Z4 (hp:HP) (u:Ty):Nat->List Cell->Option (List Nat×Bool)
 |0,_=>some ([],true)
 |n+1,cs=>match Ch hp u cs with
  |some (ns,f,r)=>match Z4 hp u n r with
   |some (ns',f')=>some (ns++ns',f&&f')
   |none=>none
  |none=>none
def kj:List Cell->Option (List Int)
 | []=>some []
 | .raw (.int .i64 n)::r=>match kj r with
  |some l=>some (n::l)
  |none=>none
 |_=>none
def tZ:List cw->Option (List Int)
 | []=>some []
 | .flat (.int .i64 n)::r=>match tZ r with
  |some l=>some (n::l)
  |none=>none
 |_=>none
def ZJ:Ty->Bool
 | .int .i64=>true
 | .prod a b=>ZJ a&&ZJ b
 |_=>false
def ant (hp:Nat->Option aD) (n:Nat):Bool:=match hp n with
 |some (.row t _ _)=>ZJ t
 |_=>false
def Cj (off:Nat) (y:Int):Nat->List Int->List Int
 |_,[]=> []
 |q,n::r=>(bif Nat.beq off q then y else n)::Cj off y (q+1) r
def vG (off:Nat):List Int->List Int->List Int
 | [],ns=>ns
 |y::r,ns=>vG (off+1) r (Cj off y 0 ns)
def sK (ns:List Int) (off:Nat):Nat->List Cell
 |0=> []
 |m+1=> .raw (.int .i64 (ns.getD off 0))::sK ns (off+1) m
def ai (h:List aD) (n:Nat):Option aD:=match h[n]? with
 |some .gone=>none
 |o=>o
def iZ (hp:HP):Nat->List aD
 |0=> []
 |n+1=>iZ hp n++ [match hp n with|some o=>o|none=> .gone]
def SR (hp:HP) (h:List aD):Nat->List (Nat×aD)
 |0=> []
 |n+1=>match hp n with
  |some _=>SR hp h n++ [(n,match h[n]? with|some o=>o|none=> .gone)]
  |none=>SR hp h n
def C5 (hp:HP) (nm:Nat) (h:List aD) (v:AV):Rec:= {val:=v,fresh:=(h.set nm .gone).drop nm,writes:=SR hp h nm,aF:=List.range nm}
def rU (o:Option aD) (ρ:Env) (n:Nat) (K:Prop):Prop:=match o with
 |some (.cg ρ' n')=>ρ'=ρ/\ n'=n/\ K
 |_=>False
section
variable (ctx:Ctx)
def DD (i:TI) (cs:List Cell) (n off:Nat) (k:Rec->Prop):Prop:=
 if dx i.desc then (if off+i.size<=cs.length then k {val:= .v (.agg ((cs.drop off).take i.size)),aF:= [n]} else False)
 else match cs[off]? with
  |some c=>k {val:= .v (.one c),aF:= [n]}
  |none=>False
def rW (i:TI) (x:AV) (hp:HP) (nm:Nat) (k:Rec->Prop):Prop:=
 match x with
 | .v (.one (.ptr n off))=>match hp n with
  |some (.cells cs _)=>DD i cs n off k
  |_=>False
 | .v (.one (.nW n off))=>match hp n with
  |some (.cells cs _)=>match kj cs with
   |some ns=>ob (decide (off+i.size<=cs.length)) (match yh i.desc (sK ns off i.size) with
    |some v=>k {val:=v,aF:= [n]}
    |none=>False)
   |none=>False
  |_=>False
 | .v (.one (.c9 n j q))=>match hp n with
  |some (.row t l _)=>if q+i.size<=t.size then ob (decide (j<l.length)) (match gw nm (cM t l j q i.size) with
   |(cs,os)=>match yh i.desc cs with
    |some v=>k {val:=v,fresh:=os,aF:= [n]}
    |none=>False) else False
  |some (.gv _ c _ t _ l)=>match hp c with
   |some (.set _)=>if q+i.size<=t.size then ob (decide (j<l.length)) (match gw nm (cM t l j q i.size) with
    |(cs,_)=>match yh i.desc cs with
     |some v=>k {val:=v,aF:= [n,c]}
     |none=>False) else False
   |_=>False
  |some (.rc cs)=>if j=0 then DD i cs n q k else False
  |_=>False
 | .v (.one (.fY n j q))=>match hp n with
  |some (.row t l _)=>match tZ (t.aU (gd t l j)) with
   |some ns=>ob (decide (q+i.size<=t.size)) (ob (decide (j<l.length)) (match yh i.desc (sK ns q i.size) with
    |some v=>k {val:=v,aF:= [n]}
    |none=>False))
   |none=>False
  |_=>False
 |_=>False
def abb (t:Ty) (l:List t.T) (rk n j q:Nat) (ys:List Cell) (hp:HP) (k:Rec->Prop):Prop:=match ys with
 | [.full m]=>match hp m with
  |some (.row u lm rm)=>if rm=0\/ rk=3\/ m=n\/ u.flat=false\/ t.size<q+1 then False else (match kB t (setCells (t.aU (gd t l j)) q [.sl u lm]) with
   |some (x',[])=>ob (decide (j<l.length)) (True/\ ∀l',l'=l.set j x'->k {val:=ck,writes:= [(n,.row t l' rk),(m,.gone)],aF:= [n,m]})
   |_=>False)
  |_=>False
 |_=>False
def ri (i:TI) (x y:AV) (hp:HP) (k:Rec->Prop):Prop:=
 match x,y.cells with
 | .v (.one (.ptr n off)),some ys=>if ys.length=i.size then (if qq ys then
   match hp n with
   |some (.cells cs e)=>if off+ys.length<=cs.length then k {val:=ck,writes:= [(n,.cells (setCells cs off ys) e)],aF:= [n]} else False
   |_=>False
   else False) else False
 | .v (.one (.nW n off)),some ys=>if ys.length=i.size then (match hp n with
   |some (.cells cs e)=>match kj cs,kj ys with
    |some ns,some ms=>ob (decide (off+ys.length<=cs.length)) (k {val:=ck,writes:= [(n,.cells ((vG off ms ns).map fun q=> .raw (.int .i64 q)) e)],aF:= [n]})
    |_,_=>False
   |_=>False) else False
 | .v (.one (.c9 n j q)),some ys=>if ys.length=i.size then (match hp n with
   |some (.row t l rk)=>if rk=0\/ rk=3 then False else match ga ys with
    |some ps=>if q+ps.length<=t.size then (match kB t (setCells (t.aU (gd t l j)) q ps) with
     |some (x',[])=>ob (decide (j<l.length)) (True/\ ∀l',l'=l.set j x'->k {val:=ck,writes:= [(n,.row t l' rk)],aF:= [n]})
     |_=>False) else False
    |none=>abb t l rk n j q ys hp k
   |_=>False) else False
 | .v (.one (.fY n j q)),some ys=>if ys.length=i.size then (match hp n with
   |some (.row t l rk)=>if rk=0\/ rk=3 then False else match kj ys,tZ (t.aU (gd t l j)) with
    |some ms,some ns=>(match kB t ((vG q ms ns).map fun m=> .flat (.int .i64 m)) with
     |some (x',[])=>ob (decide (q+ys.length<=t.size)) (ob (decide (j<l.length)) (True/\ ∀l',l'=l.set j x'->k {val:=ck,writes:= [(n,.row t l' rk)],aF:= [n]}))
     |_=>False)
    |_,_=>False
   |_=>False) else False
 |_,_=>False
def mB (v:Value):List Cell:=v.cells.toList.map .raw
def Z9 (fs:Array Field) (j:Nat):Option (Nat×Nat):=match fs[j]? with
 |some f=>(match aL ctx.tt f.type with|some fi=>some (f.offset,fi.size)|none=>none)
 |none=>none
def YQ (i:TI) (parts:List (Nat×Operand)) (ev:Operand->AV) (k:Rec->Prop):Prop:=
 match i.desc with
 | .struct fs=>if fs.toList.all (fun f=>(aL ctx.tt f.type).isSome) then
   match A1 (Z9 ctx fs) ev (mB i.zero) parts with
   |some cs=>k {val:= .v (.agg cs)}
   |none=>False
   else False
 | .array _ e=>match aL ctx.tt e with
  |some ei=>match A1 (fun j=>some (j*ei.size,ei.size)) ev (mB i.zero) parts with
   |some cs=>k {val:= .v (.agg cs)}
   |none=>False
  |none=>False
 |_=>False
def xj (i:TI) (len:Nat) (parts:List (Nat×Operand)) (ev:Operand->AV) (nm:Nat) (k:Rec->Prop):Prop:=
 match i.desc with
 | .slice e=>match aL ctx.tt e with
  |some ei=>if len*ei.size>2^24 then False else if len*ei.size=0 then False else
   match A1 (fun j=>some (j*ei.size,ei.size)) ev ((List.range (len*ei.size)).map fun j=> .raw (ei.zero.cells[j % ei.zero.cells.size]!)) parts with
   |some cs=>k {val:= .v (.one (.sl nm 0 len len)),fresh:= [.cells cs e]}
   |none=>False
  |none=>False
 |_=>False
def dX (hp:HP) (n:Nat) (k:Prop):Prop:=match hp n with
 |some (.cells _ _)=>k
 |_=>False
def mz (hp:HP) (n j:Nat) (k:Ty->Prop):Prop:=match hp n with
 |some (.row t l _)=>ob (decide (j<l.length)) (k t)
 |some (.gv _ _ _ t _ l)=>ob (decide (j<l.length)) (k t)
 |some (.dp t l _ _ _)=>ob (decide (j<l.length)) (k t)
 |_=>False
def aiL (hp:HP) (n:Nat):Bool:=match hp n with
 |some (.rc (_::_))=>true
 |_=>false
def G7 (hp:HP) (p:Nat) (k:(n:Nat)->Option Nat->Option Nat->Nat->List Nat->Prop):Prop:=match hp p with
 |some (.row _ l _)=>k p none none l.length [p]
 |some (.gv _ _ _ _ _ l)=>k p none none l.length [p]
 |some (.dp _ l _ _ _)=>k p none none l.length [p]
 |some (.alias n s q)=>match hp n with
  |some (.row _ l _)=>k n (some s) q (fT l.length s q) [p,n]
  |_=>False
 |_=>False
def iD:Option Nat->Nat->Nat
 |none,j=>j
 |some s,j=>s+j
def mU (i:TI) (x:AV) (f:Nat) (hp:HP) (k:Rec->Prop):Prop:=
 match i.desc with
 | .struct fs=>match fs[f]? with
  |some fd=>match aL ctx.tt fd.type with
   |some fi=>if fi.size=0 then False else match x with
    | .v (.one (.ptr n off))=>dX hp n (k {val:= .v (.one (.ptr n (off+fd.offset))),aF:= [n]})
    | .v (.one (.nW n off))=>dX hp n (k {val:= .v (.one (.nW n (off+fd.offset))),aF:= [n]})
    | .v (.one (.c9 n j q))=>(match aiL hp n with
     |true=>k {val:= .v (.one (.c9 n j (q+fd.offset))),aF:= [n]}
     |false=>mz hp n j fun _=>k {val:= .v (.one (.c9 n j (q+fd.offset))),aF:= [n]})
    | .v (.one (.fY n j q))=>mz hp n j fun _=>k {val:= .v (.one (.fY n j (q+fd.offset))),aF:= [n]}
    |_=>False
   |none=>False
  |none=>False
 |_=>False
def Qh (i:TI) (cs:List Cell) (off:Nat) (k:Rec->Prop):Prop:=
 if dx i.desc then (if off+i.size<=cs.length then k {val:= .v (.agg ((cs.drop off).take i.size))} else False)
 else match cs[off]? with
  |some c=>k {val:= .v (.one c)}
  |none=>False
def Y8 (i:TI) (x:AV) (f:Nat) (k:Rec->Prop):Prop:=
 match i.desc,x with
 | .struct fs,.v (.agg cs)=>match fs[f]? with
  |some fd=>match aL ctx.tt fd.type with
   |some fi=>Qh fi cs fd.offset k
   |none=>False
  |none=>False
 |_,_=>False
def aiJ (hp:HP) (n:Nat):Bool:=match hp n with
 |some (.cells cs _)=>(kj cs).isSome
 |_=>false
def inR (j:Int) (n:Nat):Bool:=decide (0<=j)&&decide (j<(n:Int))
def asD (hp:HP) (n:Nat):Bool:=match hp n with
 |some (.cells cs _)=>cs.any fun c=>match c with| .jO _ _ _=>true|_=>false
 |_=>false
def Ue (j:Int) (K:Nat->Prop):Nat->Prop
 |0=>K 0
 |i+1=>cB (decide (j=((i+1:Nat):Int))) (K (i+1)) (Ue j K i)
def B8 (i:TI) (x ix:AV) (lit:Bool) (hp:HP) (k:Rec->Prop):Prop:=
 match ix with
 | .v (.one (.raw (.int _ j)))=>match i.desc with
  | .array n e=>match aL ctx.tt e with
   |some ei=>match x with
    | .v (.one (.ptr m off))=>ob (inR j n) (dX hp m (if !lit&&aiJ hp m then k {val:= .v (.one (.nW m (off+j.toNat*ei.size))),aF:= [m]} else if !lit&&asD hp m then Ue j (fun q=>k {val:= .v (.one (.ptr m (off+q*ei.size))),aF:= [m]}) (n- 1) else k {val:= .v (.one (.ptr m (off+j.toNat*ei.size))),aF:= [m]}))
    | .v (.one (.nW m off))=>ob (inR j n) (dX hp m (k {val:= .v (.one (.nW m (off+j.toNat*ei.size))),aF:= [m]}))
    | .v (.one (.c9 m jj q))=>ob (inR j n) (mz hp m jj fun _=>if !lit&&ant hp m then k {val:= .v (.one (.fY m jj (q+j.toNat*ei.size))),aF:= [m]} else k {val:= .v (.one (.c9 m jj (q+j.toNat*ei.size))),aF:= [m]})
    | .v (.one (.fY m jj q))=>ob (inR j n) (mz hp m jj fun _=>k {val:= .v (.one (.fY m jj (q+j.toNat*ei.size))),aF:= [m]})
    |_=>False
   |none=>False
  | .slice e=>match aL ctx.tt e with
   |some ei=>match x with
    | .v (.one (.sl m off len _))=>ob (inR j len) (dX hp m (if Nat.beq len 1 then k {val:= .v (.one (.ptr m off)),aF:= [m]} else if !lit&&aiJ hp m then k {val:= .v (.one (.nW m (off+j.toNat*ei.size))),aF:= [m]} else k {val:= .v (.one (.ptr m (off+j.toNat*ei.size))),aF:= [m]}))
    | .v (.one (.full p))=>G7 hp p fun m s _ len tc=>ob (inR j len) (mz hp m (iD s j.toNat) fun t=>if ei.size=t.size then k {val:= .v (.one (.c9 m (iD s j.toNat) 0)),aF:=tc} else False)
    | .v (.one (.raw (.slice none 0 _)))=>ob (inR j 0) False
    |_=>False
   |none=>False
  |_=>False
 |_=>False
def Zz (i:TI) (x ix:AV) (lit:Bool) (k:Rec->Prop):Prop:=
 match ix with
 | .v (.one (.raw (.int _ j)))=>match i.desc,x with
  | .array n e,.v (.agg cs)=>match aL ctx.tt e with
   |some ei=>ob (inR j n) (if lit then Qh ei cs (j.toNat*ei.size) k else match kj cs with
    |some ns=>if cs.length=n*ei.size then (match yh ei.desc (sK ns (j.toNat*ei.size) ei.size) with
     |some v=>k {val:=v}
     |none=>False) else False
    |none=>Qh ei cs (j.toNat*ei.size) k)
   |none=>False
  | .string,.v (.one (.raw (.string s)))=>ob (inR j s.size) (k {val:=iA .u8 (s.get! j.toNat).toNat})
  |_,_=>False
 |_=>False
def uU (b:Option AV) (top dflt:Nat) (k:Nat->Prop):Prop:=
 match b with
 |none=>k dflt
 |some (.v (.one (.raw (.int _ j))))=>ob (decide (0<=j)&&decide (j<=(top:Int))) (k j.toNat)
 |_=>False
def abp (hp:HP) (n es:Nat) (k:Prop):Prop:=match hp n with
 |some (.row t _ _)=>if es=t.size then k else False
 |_=>False
def J7 (hp:HP) (p:Nat):Option (List Int):=match hp p with
 |some (.row (.int .i64) l 3)=>some l
 |_=>none
def aa1 (i:TI) (x:AV) (lo hi mx:Option AV) (hp:HP) (nm:Nat) (k:Rec->Prop):Prop:=
 match i.desc with
 | .array n e=>match aL ctx.tt e,x,mx with
  | some ei,.v (.one (.ptr m off)),none=>uU hi n n fun h=>uU lo h 0 fun l=>
    dX hp m (k {val:= .v (.one (.sl m (if n=l then off else off+l*ei.size) (h- l) (n- l))),aF:= [m]})
  |_,_,_=>False
 | .slice e=>match aL ctx.tt e,x with
  | some ei,.v (.one (.sl m off len cap))=>uU mx cap cap fun c=>uU hi (if mx.isSome then c else cap) len fun h=>uU lo h 0 fun l=>
    if mx.isSome&&hi.isNone then False else k {val:= .v (.one (.sl m (if c=l then off else off+l*ei.size) (h- l) (c- l)))}
  |some ei,.v (.one (.full p))=>G7 hp p fun m s q len tc=>abp hp m ei.size (match mx with
   |none=>match hi with
    |none=>match J7 hp p with
     |some l0=>uU lo l0.length 0 fun j=>k {val:= .v (.one (.full nm)),fresh:= [.row (.int .i64) (l0.drop j) 3],writes:= [(p,.gone)],aF:= [p]}
     |none=>uU lo len 0 fun l=>k {val:= .v (.one (.full nm)),fresh:= [.alias m (iD s l) (q.map fun _=>len- l)],aF:=tc}
    |some _=>match J7 hp p,lo with
     |some l0,none=>uU hi l0.length l0.length fun h=>k {val:= .v (.one (.full nm)),fresh:= [.row (.int .i64) (l0.take h) 3],writes:= [(p,.gone)],aF:= [p]}
     |_,_=>uU hi len len fun h=>uU lo h 0 fun l=>k {val:= .v (.one (.full nm)),fresh:= [.alias m (iD s l) (some (h- l))],aF:=tc}
   |some _=>uU mx len len fun c=>uU hi c 0 fun h=>uU lo h 0 fun l=>if hi.isNone then False else k {val:= .v (.one (.full nm)),fresh:= [.alias m (iD s l) (some (h- l))],aF:=tc})
  |some _,.v (.one (.raw (.slice none 0 c)))=>match mx with
   |none=>uU hi 0 0 fun h=>uU lo h 0 fun l=>if h=0/\ l=0/\ c=0 then k {val:= .v (.one (.raw (.slice none 0 0)))} else False
   |some _=>False
  |_,_=>False
 | .string=>match x,mx with
  | .v (.one (.raw (.string s))),none=>uU hi s.size s.size fun h=>uU lo h 0 fun l=>k {val:= .v (.one (.raw (.string (s.extract l h))))}
  |_,_=>False
 |_=>False
def CO:A0->Option Value
 | .one (.raw v)=>some v
 | .one _=>none
 | .agg cs=>(Mu cs).map fun l=> .agg l.toArray
where Mu:List Cell->Option (List Value)
 | []=>some []
 | .raw v::r=>(Mu r).map (v:: ·)
 |_::_=>none
def akw:AV->Option Value
 | .v a=>CO a
 |_=>none
def NI:List AV->Option (List Value)
 | []=>some []
 |x::r=>match akw x,NI r with
  |some v,some l=>some (v::l)
  |_,_=>none
def akx:AV->Option Ref
 | .v (.one (.ptr n off))=>some (.loc n off)
 | .v (.one (.c9 n j 0))=>some (.elem n j)
 | .v (.one (.raw v))=>some (.ext v)
 | .v (.one (.full n))=>some (.full n)
 | .v (.one (.mp n))=>some (.mp n)
 |_=>none
def NJ:List AV->Option (List Ref)
 | []=>some []
 |x::r=>match akx x,NJ r with
  |some v,some l=>some (v::l)
  |_,_=>none
def DN:Ref->AV
 | .ext v=>ofV v
 | .loc n off=> .v (.one (.ptr n off))
 | .elem n j=> .v (.one (.c9 n j 0))
 | .full n=> .v (.one (.full n))
 | .mp n=> .v (.one (.mp n))
def Jy:Cell->Option Ref
 | .ptr n off=>some (.loc n off)
 | .c9 n j 0=>some (.elem n j)
 | .raw v=>if yn v then some (.ext v) else none
 | .full n=>some (.full n)
 | .mp n=>some (.mp n)
 |_=>none
def xk:List Cell->Option (List Ref)
 | []=>some []
 |c::r=>match Jy c,xk r with
  |some x,some l=>some (x::l)
  |_,_=>none
def aaQ:AV->Option (Bool×List Ref)
 | .v (.agg cs)=>match xk cs with
  |some l=>some (true,l)
  |none=>none
 | .v (.one c)=>match Jy c with
  |some r=>some (false,[r])
  |none=>none
 |_=>none
def Ee:Ref->Cell
 | .ext v=> .raw v
 | .loc n off=> .ptr n off
 | .elem n j=> .c9 n j 0
 | .full n=> .full n
 | .mp n=> .mp n
def Xc (agg:Bool) (rs:List Ref):AV:=match agg with
 |true=> .v (.agg (rs.map Ee))
 |false=>match rs with
  | [r]=> .v (.one (Ee r))
  |_=> .pT []
def qG (ev:Operand->AV):List Operand->List AV
 | []=> []
 |x::r=>ev x::qG ev r
def bB (x y:Int):Int:=if y<x then y else x
def bw (x y:Int):Int:=if y>x then y else x
def zW (f:Int->Int->Int):Int->List AV->Option Int
 |a,[]=>some a
 |a,.v (.one (.raw (.int _ b)))::r=>zW f (f a b) r
 |_,_=>none
def R4 (i:Option Ty) (x:AV) (hp:HP) (k:(t:Ty)->List t.T->Nat->List Nat->Nat->List Nat->Prop):Prop:=
 match x with
 | .v (.one (.raw (.slice none 0 0)))=>match i with
  |some t=>k t [] 2 [] 0 []
  |none=>False
 | .v (.one (.full n))=>match hp n with
  |some (.row t l rk)=>if rk=0 then False else k t l rk [n] 0 []
  |_=>False
 | .v (.one (.sl n _ 0 c))=>match i with
  |some t=>match hp n with
   |some (.cells _ _)=>k t [] 3 [] c [n]
   |_=>False
  |none=>False
 |_=>False
def rC (rk:Nat) (f:Bool):Nat:=match f with
 |true=>rk
 |false=>match rk with
  |3=>3
  |_=>1
def eV:List Nat->Bool
 | []=>true
 |x::r=> !r.contains x&&eV r
def FV (hp:HP) (t:Ty) (y:AV):Option (List Nat×Bool):=if t.flat then some ([],true) else
 match y with
 | .v (.one (.sl n off len _))=>match hp n with
  |some (.cells cs _)=>Z4 hp t len (cs.drop off)
  |_=>none
 | .v (.one (.full n))=>match hp n with
  |some (.row _ _ rk)=>if rk=2 then some ([],true) else some ([],false)
  |some (.alias _ _ _)=>some ([],false)
  |_=>none
 | .v (.one (.raw (.slice none 0 _)))=>some ([],true)
 |_=>none
def R6 (x y:AV) (ei:TI) (hp:HP) (nm:Nat) (k:Rec->Prop):Prop:=
 R4 ei.ty x hp fun t l rk gone c tb=>if ei.size=t.size/\ ei.bytes<=128/\ (mB ei.zero).length=ei.size then
  match y with
  | .v (.one yc)=>match ct hp (.sl t) [yc] with
   |some (ys,[],tc)=>match FV hp t y with
    |some (ab,f)=>if eV (gone++ab)&&(Nat.ble c 0||Nat.blt c ys.length) then ob (decide (l.length+ys.length<1099511627776)) (k {val:= .v (.one (.full nm)),fresh:= [.row t (l++ys) (rC rk f)],writes:=(gone++ab).map fun n=>(n,.gone),aF:=gone++ab++tc++tb}) else False
    |none=>False
   |_=>False
  |_=>False
 else False
def tL (a b:Nat):Nat:=Nat.min b a
def ke {α:Type} (l:List α) (s d:Nat) (ys:List α):List α:=l.take s++ys.take (tL d ys.length)++l.drop (s+tL d ys.length)
def ahg (x y:AV) (ei:TI) (hp:HP) (k:Rec->Prop):Prop:=match x,y with
 | .v (.one (.full p)),.v (.one yc)=>G7 hp p fun n s _ len tc=>match hp n with
  |some (.row t l rk)=>if (rk≠0/\ rk≠3)/\ t.flat=true/\ ei.size=t.size then (match ct hp (.sl t) [yc] with
   |some (ys,[],CN)=>True/\ ∀l',l'=ke l (iD s 0) len ys->k {val:=iA .i64 (tL len ys.length:Nat),writes:= [(n,.row t l' rk)],aF:=n::(tc++CN)}
   |_=>False) else False
  |_=>False
 |_,_=>False
def KL (b:Builtin) (tys:List TypeId) (args:List AV) (hp:HP) (nm:Nat) (k:Rec->Prop):Prop:=
 match b,args with
 | .len,[x]=>match tys with
  |t::_=>match aL ctx.tt t with
   |some i=>match i.desc,x with
    | .slice _,.v (.one (.sl _ _ len _))=>k {val:=iA .i64 len}
    | .slice _,.v (.one (.full p))=>G7 hp p fun _ _ _ len tc=>k {val:=iA .i64 len,aF:=tc}
    | .slice _,.v (.one (.raw (.slice _ len _)))=>k {val:=iA .i64 len}
    | .string,.v (.one (.raw (.string s)))=>k {val:=iA .i64 s.size}
    |_,_=>False
   |none=>False
  | []=>False
 | .min,.v (.one (.raw (.int kk a)))::r=>match zW bB a r with
  |some n=>k {val:=iA kk n}
  |none=>False
 | .max,.v (.one (.raw (.int kk a)))::r=>match zW bw a r with
  |some n=>k {val:=iA kk n}
  |none=>False
 | .append,[x,y]=>match tys with
  | [t,t']=>match aL ctx.tt t,aL ctx.tt t' with
   |some i,some i'=>match i.desc,i'.desc with
    | .slice e,.slice _=>match aL ctx.tt e with
     |some ei=>R6 x y ei hp nm k
     |none=>False
    |_,_=>False
   |_,_=>False
  |_=>False
 | .copy,[x,y]=>match tys with
  | [t,_]=>match aL ctx.tt t with
   |some i=>match i.desc with
    | .slice e=>match aL ctx.tt e with
     |some ei=>ahg x y ei hp k
     |none=>False
    |_=>False
   |none=>False
  |_=>False
 |_,_=>False
def mY (i:TI) (x y:AV) (nm:Nat) (k:Rec->Prop):Prop:=
 match i.desc,x,y with
 | .slice e,.v (.one (.raw (.int .i64 n))),.v (.one (.raw (.int .i64 c)))=>match aL ctx.tt e with
  |some ei=>match ei.ty with
   |some t=>if t.flat/\ ei.size=t.size/\ ei.bytes<=128/\ (mB ei.zero).length=ei.size then (match ct (fun _=>none) t (mB ei.zero) with
    |some (z,[],_)=>ob (decide (0<=n)&&decide (n<=c)&&decide (c.toNat<1099511627776)) (k {val:= .v (.one (.full nm)),fresh:= [.row t (List.replicate n.toNat z) 2]})
    |_=>False) else False
   |none=>False
  |none=>False
 |_,_,_=>False
def W9 (t:Ty) (x:t.T):List Cell:=(t.aU x).map fun c=> .raw (bJ c)
def ahd:Cell->Option (FuncId×List AV×List AV)
 | .jO (.func g) first cap=>some (g,first.map ofV,cap.map DN)
 | .mv g agg rs=>some (g,[Xc agg rs],[])
 |_=>none
def O6 (c:Call) (ev:Operand->AV) (hp:HP) (nm:Nat) (k:Rec->Prop):Prop:=
 match c.callee with
 | .builtin b=>KL ctx b c.argTypes.toList (qG ev c.args.toList) hp nm k
 | .value f=>match ev f with
  | .v (.one q)=>match ahd q with
   |some (g,fs,cs)=>match aL ctx.specs g with
    |some s=>s ctx.X (fs++qG ev c.args.toList++cs) hp nm k
    |none=>match aL ctx.its g with
     |some ZK=> ∀aR:Env,ZK [] (fs++qG ev c.args.toList++cs) (iZ hp nm++ [.cg aR nm]) fun v st=>rU (ai st.heap nm) aR nm (k (C5 hp nm st.heap v))
     |none=>False
   |none=>match q with
    | .raw (.func (.func g) first cap)=>match aL ctx.specs g with
     |some s=>s ctx.X (first.toList.map ofV++qG ev c.args.toList++cap.toList.map ofV) hp nm k
     |none=>False
    | .N8 n=>match aL ctx.ys n with
     |some s=>s ctx.X (qG ev c.args.toList) hp nm k
     |none=>False
    |_=>False
  |_=>False
 |_=>False
def alC (tt:List (Nat×TI)) (t:TypeId):Bool:=match aL tt t with|some i=>dx i.desc|none=>false
def aoY (op:BinOp) (t:TypeId) (x y:AV) (k:Rec->Prop):Prop:=
 match x,y with
 | .v (.one (.raw (.int kk a))),.v (.one (.raw (.int k' b)))=>match op with
  | .shl=>ob (decide (0<=b)) (k {val:=iA kk (kk.wrap (a*2^(min b.toNat kk.bits)))})
  | .shr=>ob (decide (0<=b)) (k {val:=iA kk (a.fdiv (2^(min b.toNat kk.bits)))})
  |op=>if kk=k' then ZF op kk a b k else False
 | .v (.one (.raw (.bool a))),.v (.one (.raw (.bool b)))=>match op with
  | .eql=>match aL ctx.tt t with|some i=>(match i.desc with| .bool=>k {val:=bG (a==b)} |_=>False)|none=>False
  | .neq=>match aL ctx.tt t with|some i=>(match i.desc with| .bool=>k {val:=bG (!(a==b))} |_=>False)|none=>False
  |_=>False
 | .v (.one (.raw (.string a))),.v (.one (.raw (.string b)))=>match op with
  | .eql=>k {val:=bG (a==b)}
  | .neq=>k {val:=bG (a !=b)}
  | .add=>ob (decide (a.size+b.size<4611686018427387904)) (k {val:= .v (.one (.raw (.string (a++b))))})
  |_=>False
 | .v (.agg xs),.v (.agg ys)=>match op with
  | .eql=>match alC ctx.tt t,eqE ctx.tt 20 t xs ys with|true,some b=>k {val:=bG b} |_,_=>False
  | .neq=>match alC ctx.tt t,eqE ctx.tt 20 t xs ys with|true,some b=>k {val:=bG (!b)} |_,_=>False
  |_=>False
 | .v (.one (.raw (.slice a _ _))),.v (.one (.raw (.slice none _ _)))=>match aL ctx.tt t with
  |some i=>match i.desc,op with
   | .slice _,.eql=>k {val:=bG a.isNone}
   | .slice _,.neq=>k {val:=bG (!a.isNone)}
   |_,_=>False
  |none=>False
 |_,_=>False
def ap5:AV->Bool
 | .v (.one (.ptr _ _))=>true
 | .v (.one (.raw (.pointer _)))=>true
 |_=>false
def aqq (op:BinOp) (t:TypeId) (x y:AV) (hp:HP) (k:Rec->Prop):Prop:=match x,y with
 | .v (.one (.ptr n _)),.v (.one (.raw (.pointer none)))=>match aL ctx.tt t with
  |some i=>match i.desc,op with
   | .pointer _,.eql=>dX hp n (k {val:=bG false,aF:= [n]})
   | .pointer _,.neq=>dX hp n (k {val:=bG true,aF:= [n]})
   |_,_=>False
  |none=>False
 | .v (.one (.raw (.pointer a))),.v (.one (.raw (.pointer none)))=>match aL ctx.tt t with
  |some i=>match i.desc,op with
   | .pointer _,.eql=>k {val:=bG a.isNone}
   | .pointer _,.neq=>k {val:=bG (!a.isNone)}
   |_,_=>False
  |none=>False
 |_,_=>False
def ndB (x y:AV):Bool:= !ctx.its.isEmpty&&(match x,y with
 | .v (.one (.full _)),.v (.one (.raw (.slice none 0 0)))=>true
 |_,_=>false)
def aqi (op:BinOp) (t:TypeId) (x y:AV) (hp:HP) (k:Rec->Prop):Prop:=match x,y with
 | .v (.one (.full n)),.v (.one (.raw (.slice none 0 0)))=>match hp n,aL ctx.tt t with
  |some (.row _ l _),some i=>match i.desc,op with
   | .slice _,.eql=> ∀b:Bool,(0<l.length->b=false)->k {val:=bG b,aF:= [n]}
   | .slice _,.neq=> ∀b:Bool,(0<l.length->b=false)->k {val:=bG (!b),aF:= [n]}
   |_,_=>False
  |_,_=>False
 |_,_=>False
def JY (o:Op) (ev:Operand->AV) (hp:HP) (nm:Nat) (k:Rec->Prop):Prop:=
 match o with
 | .move x=>k {val:=ev x}
 | .assign x=>k {val:=ev x}
 | .pick c a b=>match ev c with
  | .v (.one (.raw (.bool t)))=>cB t (k {val:=ev a}) (k {val:=ev b})
  |_=>False
 | .alloc t=>match aL ctx.tt t with
  |some i=>k {val:= .v (.one (.ptr nm 0)),fresh:= [.cells (mB i.zero) t]}
  |none=>False
 | .box t x=>match (ev x).cells with
  |some xs=>k {val:= .v (.one (.ptr nm 0)),fresh:= [.cells xs t]}
  |none=>False
 | .build t parts=>match aL ctx.tt t with
  |some i=>YQ ctx i parts.toList ev k
  |none=>False
 | .buildSlice t len parts=>match aL ctx.tt t with
  |some i=>if Nat.beq len 0&&parts.toList.isEmpty then mY ctx i (.v (.one (.raw (.int .i64 0)))) (.v (.one (.raw (.int .i64 0)))) nm k else xj ctx i len parts.toList ev nm k
  |none=>False
 | .load t x=>match aL ctx.tt t with
  |some i=>rW i (ev x) hp nm k
  |none=>False
 | .store t x y=>match aL ctx.tt t with
  |some i=>ri i (ev x) (ev y) hp k
  |none=>False
 | .nilCheck x=>match ev x with
  | .v (.one (.ptr n off))=>dX hp n (k {val:= .v (.one (.ptr n off)),aF:= [n]})
  | .v (.one (.nW n off))=>dX hp n (k {val:= .v (.one (.nW n off)),aF:= [n]})
  | .v (.one (.c9 n j q))=>(match aiL hp n with
   |true=>k {val:= .v (.one (.c9 n j q)),aF:= [n]}
   |false=>mz hp n j fun _=>k {val:= .v (.one (.c9 n j q)),aF:= [n]})
  | .v (.one (.fY n j q))=>mz hp n j fun _=>k {val:= .v (.one (.fY n j q)),aF:= [n]}
  | .v (.one (.jO (.func f) first cap))=>k {val:= .v (.one (.jO (.func f) first cap))}
  | .v (.one (.mv f agg rs))=>k {val:= .v (.one (.mv f agg rs))}
  | .v (.one (.raw (.pointer (some a))))=>k {val:= .v (.one (.raw (.pointer (some a))))}
  | .v (.one (.raw (.func (.func f) first cap)))=>k {val:= .v (.one (.raw (.func (.func f) first cap)))}
  |_=>False
 | .binOp op t x y _=>if ndB ctx (ev x) (ev y) then aqi ctx op t (ev x) (ev y) hp k else if ap5 (ev x) then aqq ctx op t (ev x) (ev y) hp k else aoY ctx op t (ev x) (ev y) k
 | .unOp u _ x=>match u,ev x with
  | .neg,.v (.one (.raw (.int kk a)))=>k {val:=iA kk (kk.wrap (0- a))}
  | .not,.v (.one (.raw (.bool b)))=>k {val:=bG (!b)}
  |_,_=>False
 | .convert s d x=>match aL ctx.tt s,aL ctx.tt d with
  |some _,some i=>match i.desc,ev x with
   | .int kk,.v (.one (.raw (.int _ a)))=>k {val:=iA kk (kk.wrap a)}
   |_,_=>False
  |_,_=>False
 | .makeFunc fn first cap=>match NI (qG ev first.toList),NJ (qG ev cap.toList) with
  |some f,some c=>k {val:= .v (.one (.jO fn f c))}
  |_,_=>match fn,qG ev first.toList,cap.toList with
   | .func g,[r],[]=>match aaQ r with
    |some (agg,rs)=>k {val:= .v (.one (.mv g agg rs))}
    |none=>False
   |_,_,_=>False
 | .slice t x lo hi mx=>match aL ctx.tt t with
  |some i=>aa1 ctx i (ev x) (lo.map ev) (hi.map ev) (mx.map ev) hp nm k
  |none=>False
 | .makeSlice t x y=>match aL ctx.tt t with
  |some i=>mY ctx i (ev x) (ev y) nm k
  |none=>False
 | .fieldAddr t x f=>match aL ctx.tt t with
  |some i=>mU ctx i (ev x) f hp k
  |none=>False
 | .field t x f=>match aL ctx.tt t with
  |some i=>Y8 ctx i (ev x) f k
  |none=>False
 | .indexAddr t x ix=>match aL ctx.tt t with
  |some i=>B8 ctx i (ev x) (ev ix) (VX ix) hp k
  |none=>False
 | .index t x ix=>match aL ctx.tt t with
  |some i=>Zz ctx i (ev x) (ev ix) (VX ix) k
  |none=>False
 | .extract x i=>match ev x with
  | .pT l=>match l[i]? with|some a=>k {val:= .v a} |none=>False
  |_=>False
 | .call c=>O6 ctx c ev hp nm k
 |_=>False
def j8 (tmps:List AV):Option Nat->AV->List AV
 |some d,v=>tmps.set d v
 |none,_=>tmps
def AS.app (st:AS) (dst:Option Nat) (r:Rec):AS:=
 {tmps:=j8 st.tmps dst r.val,heap:=r.writes.foldl (fun h p=>h.set p.1 p.2) st.heap++r.fresh}
inductive Kl
 |blk
 |full (off m:Nat)
def Kl.hit:Kl->Option aD->Bool
 | .blk,some (.cells _ _)=>true
 | .full off m,some (.cells cs _)=>match cs[off]? with
  |some (.full m')=>Nat.beq m' m
  |_=>false
 |_,_=>false
def eH (o:Op) (ev:Operand->AV) (v:AV):Option (Nat×Kl):=match o with
 | .load _ x=>match ev x,v with
  | .v (.one (.ptr n off)),.v (.one (.full m))=>some (n,.full off m)
  |_,_=>none
 | .fieldAddr _ x _=>match ev x with
  | .v (.one (.ptr n _))=>some (n,.blk)
  |_=>none
 | .nilCheck x=>match ev x with
  | .v (.one (.ptr n _))=>some (n,.blk)
  |_=>none
 |_=>none
structure gD where
 nm:Nat
 cnt:Nat
 aF:List Nat
 wr:List Nat
 look:Option (Nat×Kl):=none
 ws:List (Nat×aD):= []
def P6 (o:Op) (ev:Operand->AV) (nm:Nat) (r:Rec):gD:= {nm:=nm,cnt:=r.fresh.length,aF:=r.aF,wr:=r.writes.map (·.1),look:=eH o ev r.val,ws:=r.writes}
def nD (nm:Nat):gD:= {nm:=nm,cnt:=0,aF:= [],wr:= []}
def xw (ops:Array Oper) (j:Nat):Option Nat:=match ops[j]? with
 |some o=>o.dst
 |none=>none
def aqj (o:Op) (ev:Operand->AV):Bool:=o.operands.toList.all fun x=> !(ev x).LH
def sG (o:Op) (st:AS) (k:Rec->Prop):Prop:=if aqj o (cE st.tmps) then JY ctx o (cE st.tmps) (ai st.heap) st.heap.length k else False
def oM (all:Array Oper):List Oper->List Nat->AS->List gD->(AS->List gD->Prop)->Prop
  | [],_,st,lg,K=>K st lg
  | o::rest,dec,st,lg,K=>match o.guard with
    |none=>sG ctx o.op st fun r=>oM all rest dec (st.app o.dst r) (lg++ [P6 o.op (cE st.tmps) st.heap.length r]) K
    | some (j,want)=>match xw all j with
      | some d=>match bY st.tmps d with
        | .v (.one (.raw (.bool x)))=>
          if dec.contains d then
            (if x=want then sG ctx o.op st fun r=>oM all rest dec (st.app o.dst r) (lg++ [P6 o.op (cE st.tmps) st.heap.length r]) K
             else oM all rest dec {st with tmps:=j8 st.tmps o.dst ck} (lg++ [nD st.heap.length]) K)
          else
            (match want with
             |true=>cB x (sG ctx o.op {st with tmps:=st.tmps.set d (bG true)} fun r=>oM all rest (d::dec) ({st with tmps:=st.tmps.set d (bG true)}.app o.dst r) (lg++ [P6 o.op (cE (st.tmps.set d (bG true))) st.heap.length r]) K)
                (oM all rest (d::dec) {st with tmps:=j8 (st.tmps.set d (bG false)) o.dst ck} (lg++ [nD st.heap.length]) K)
             |false=>cB x (oM all rest (d::dec) {st with tmps:=j8 (st.tmps.set d (bG true)) o.dst ck} (lg++ [nD st.heap.length]) K)
                (sG ctx o.op {st with tmps:=st.tmps.set d (bG false)} fun r=>oM all rest (d::dec) ({st with tmps:=st.tmps.set d (bG false)}.app o.dst r) (lg++ [P6 o.op (cE (st.tmps.set d (bG false))) st.heap.length r]) K))
        | .pT []=>oM all rest dec {st with tmps:=j8 st.tmps o.dst ck} (lg++ [nD st.heap.length]) K
        |_=>False
      |none=>False
def direct (o:Oper):List Nat:=(o.after.toList.filter (Region.binds .any)).map (·.on)
def masks:List Oper->List Nat->List Nat
 | [],acc=>acc
 |o::r,acc=>masks r (acc++ [(direct o).foldl (fun s j=>s|||(2^j|||acc.getD j 0)) 0])
def Pc (a b:List Nat):Bool:=a.all fun x=> !b.contains x
def DH (lg:List gD) (m:Nat):Option Nat:=lg.findIdx? fun l=>l.nm<=m&&m<l.nm+l.cnt
def lQ (ops:Array Oper) (o:Oper):List Nat:=
 (o.op.operands.toList.filterMap fun| .tmp t=>some t|_=>none)++(match o.guard with|some (g,_)=>(xw ops g).toList|none=> [])
def Z3 (ops:Array Oper) (ms:List Nat) (lg:List gD) (i:Nat):Bool:=
  match ops[i]?,lg[i]? with
  | some o,some l=>
    (direct o).all (· <i)&&(l.wr.all fun m=>l.aF.contains m)&&
    (l.aF.all fun m=>match DH lg m with|some j=>j==i||(ms.getD i 0).testBit j|none=>true)&&
    (List.range i).all fun j=>(ms.getD i 0).testBit j||
      (match ops[j]?,lg[j]? with
       |some p,some q=>Pc l.wr q.aF&&Pc q.wr l.aF&&Pc l.wr q.wr&&
          (match p.dst with|some d=>o.dst !=some d&& !(lQ ops o).contains d|none=>true)&&
          (match o.dst with|some d=> !(lQ ops p).contains d|none=>true)
       |_,_=>false)
  |_,_=>false
def acI (ops:Array Oper) (lg:List gD):Bool:=
 lg.length==ops.size&&(List.range ops.size).all (Z3 ops (masks ops.toList []) lg)
def Ce (x:Nat):List Nat->Bool
 | []=>false
 |y::r=>Nat.beq x y||Ce x r
def anC:List Nat->List Nat->Bool
 | [],_=>true
 |x::r,l=>Ce x l&&anC r l
def ry:List Nat->List Nat->Bool
 | [],_=>true
 |x::r,l=> !Ce x l&&ry r l
def Tb:List Oper->Nat->List Nat->List Nat
 | [],_,acc=>acc
 |o::r,k,acc=>Tb r (k+1) ((direct o).foldl (fun s j=>s|||(2^j|||(bif Nat.blt j k then acc.getD (k- 1- j) 0 else 0))) 0::acc)
def msF (ops:Array Oper):List Nat:=(Tb ops.toList 0 []).reverse
structure OI where
 d:Option Nat
 lk:List Nat
 m:Nat
def oiL (all:Array Oper):List Oper->List Nat->List OI
 |o::r,m::ms=>⟨o.dst,lQ all o,m⟩::oiL all r ms
 |_,_=> []
def adq (o p:OI):Bool:=
 (match p.d with
  |some d=>(match o.d with|some e=> !Nat.beq e d|none=>true)&& !Ce d o.lk
  |none=>true)&&
 (match o.d with
  |some d=> !Ce d p.lk
  |none=>true)
def Fo (o:OI):List OI->Nat->Nat->Bool
 |p::r,j,k+1=>(o.m.testBit j||adq o p)&&Fo o r (j+1) k
 |_,_,_=>true
def J6 (all:List OI):List OI->Nat->Bool
 | [],_=>true
 |o::r,i=>Fo o all 0 i&&J6 all r (i+1)
def Sq:List Oper->Nat->Bool
 | [],_=>true
 |o::r,i=>((direct o).all fun j=>Nat.blt j i)&&Sq r (i+1)
def akq (ops:Array Oper):Bool:=Sq ops.toList 0&&J6 (oiL ops ops.toList (msF ops)) (oiL ops ops.toList (msF ops)) 0
structure DI where
 i:Nat
 m:Nat
 t:List Nat
 w:List Nat
def ad3:List gD->List Nat->Nat->List DI
 |l::r,m::ms,i=>(match l.aF,l.wr with
  | [],[]=>ad3 r ms (i+1)
  |t,w=>⟨i,m,t,w⟩::ad3 r ms (i+1))
 |_,_,_=> []
def mkL:List gD->Nat->List (Nat×Nat×Nat)
 | [],_=> []
 |l::r,i=>match l.cnt with
  |0=>mkL r (i+1)
  |c=>(i,l.nm,c)::mkL r (i+1)
def Ta (x:Nat):List (Nat×Nat×Nat)->Option Nat
 | []=>none
 |p::r=>bif Nat.ble p.2.1 x&&Nat.blt x (p.2.1+p.2.2) then some p.1 else Ta x r
def Y3 (mk:List (Nat×Nat×Nat)) (o:DI):Bool:=
 anC o.w o.t&&o.t.all fun x=>match Ta x mk with|some j=>Nat.beq j o.i||o.m.testBit j|none=>true
def zN (o p:DI):Bool:=Nat.ble o.i p.i||o.m.testBit p.i||(ry o.w p.t&&ry p.w o.t&&ry o.w p.w)
def wsL:List DI->List DI
 | []=> []
 |o::r=>match o.w with
  | []=>wsL r
  |_=>o::wsL r
def aho (D:List DI) (mk:List (Nat×Nat×Nat)):Bool:=(D.all fun o=>Y3 mk o)&&(wsL D).all fun p=>D.all fun o=>zN o p&&zN p o
def force {α:Type} (n:Nat) (k:Nat->α):α:=match n with
 |0=>k 0
 |m+1=>k (m+1)
def Lg {α:Type} :List Nat->(List Nat->α)->α
 | [],k=>k []
 |x::r,k=>force x fun v=>Lg r fun l=>k (v::l)
def JG {α:Type} :List gD->(List gD->α)->α
 | [],k=>k []
 |e::r,k=>force e.nm fun a=>force e.cnt fun b=>Lg e.aF fun t=>Lg e.wr fun w=>JG r fun l=>k ({nm:=a,cnt:=b,aF:=t,wr:=w,look:=e.look,ws:=e.ws} ::l)
def vA (ops:Array Oper) (lg:List gD):Bool:=JG lg fun lg=>
 Nat.beq lg.length ops.size&&akq ops&&aho (ad3 lg (msF ops) 0) (mkL lg 0)
def ak4 (n:Nat) (q:Kl):List (Nat×aD)->Bool
 | []=>true
 |p::r=>(!Nat.beq p.1 n||q.hit (some p.2))&&ak4 n q r
def I7 (n:Nat) (q:Kl):List gD->Bool
 | []=>true
 |l::r=>ak4 n q l.ws&&I7 n q r
def Vo (h0:List aD) (all:List gD) (l:gD):gD:=match l.look,l.aF,l.wr with
 |some (n,q),[m],[]=>bif Nat.beq m n&&Nat.blt n h0.length&&q.hit (ai h0 n)&&I7 n q all then {nm:=l.nm,cnt:=l.cnt,aF:= [],wr:= []} else l
 |_,_,_=>l
def alU (h0:List aD) (lg:List gD):List gD:=lg.map (Vo h0 lg)
def jW (ops:Array Oper) (draw:Bool) (st:AS) (K:AS->Prop):Prop:=
 if draw then oM {ctx with ys:= [],its:= []} ops ops.toList [] st [] fun st' lg=>if vA ops lg then K st' else if vA ops (alU st.heap lg) then K st' else False
 else oM ctx ops ops.toList [] st [] fun st' _=>K st'
inductive Src
 |same (m:Nat)
 |nil
 |cells (m len:Nat)
 |mt (m off:Nat)
 |any (m:Nat)
def jG (π:List Src) (n:Nat):Option Nat:=match π[n]? with
 |some (.same m)=>some m
 |_=>none
def qW (π:List Src):Ref->Option Ref
 | .ext v=>some (.ext v)
 | .loc n o=>match jG π n with|some m=>some (.loc m o)|none=>none
 | .elem n j=>match jG π n with|some m=>some (.elem m j)|none=>none
 | .full n=>match jG π n with|some m=>some (.full m)|none=>none
 | .mp n=>match jG π n with|some m=>some (.mp m)|none=>none
def kH (π:List Src):List Ref->Option (List Ref)
 | []=>some []
 |r::l=>match qW π r,kH π l with|some q,some m=>some (q::m)|_,_=>none
def ko (π:List Src):Cell->Option Cell
 | .raw v=>some (.raw v)
 | .ptr n o=>match jG π n with|some m=>some (.ptr m o)|none=>none
 | .nW n o=>match jG π n with|some m=>some (.nW m o)|none=>none
 | .sl n o l c=>match jG π n with|some m=>some (.sl m o l c)|none=>none
 | .c9 n j k=>match jG π n with|some m=>some (.c9 m j k)|none=>none
 | .fY n j k=>match jG π n with|some m=>some (.fY m j k)|none=>none
 | .full n=>match π[n]? with
  |some (.same m)=>some (.full m)
  |some .nil=>some (.raw (.slice none 0 0))
  |some (.cells m len)=>some (.sl m 0 len len)
  |some (.mt m off)=>some (.sl m off 0 0)
  |some (.any m)=>some (.full m)
  |none=>none
 | .jO f a cap=>match kH π cap with|some c=>some (.jO f a c)|none=>none
 | .N8 n=>match jG π n with|some m=>some (.N8 m)|none=>none
 | .mp n=>match jG π n with|some m=>some (.mp m)|none=>none
 | .mv f a rs=>match kH π rs with|some c=>some (.mv f a c)|none=>none
def je (π:List Src):List Cell->Option (List Cell)
 | []=>some []
 |c::l=>match ko π c,je π l with|some q,some m=>some (q::m)|_,_=>none
def OM (π:List Src):A0->Option A0
 | .one c=>match ko π c with|some q=>some (.one q)|none=>none
 | .agg cs=>match je π cs with|some q=>some (.agg q)|none=>none
def iI (π:List Src):List A0->Option (List A0)
 | []=>some []
 |c::l=>match OM π c,iI π l with|some q,some m=>some (q::m)|_,_=>none
def v8 (π:List Src):AV->Option AV
 | .v a=>match OM π a with|some q=>some (.v q)|none=>none
 | .pT l=>match iI π l with|some q=>some (.pT q)|none=>none
 | .dead=>none
def F9 (π:List Src):Nat->Bool
 |0=>true
 |n+1=>(match π[n]? with|some (.same m)=>m==n|_=>false)&&F9 π n
def gu (π:List Src):aD->Option aD
 | .cells cs e=>match je π cs with|some q=>some (.cells q e)|none=>none
 | .row t l rk=>some (.row t l rk)
 | .alias n s q=>match jG π n with|some m=>some (.alias m s q)|none=>none
 | .gone=>none
 | .loop r s j=>some (.loop r s j)
 | .cg ρ n=>if F9 π n then some (.cg ρ n) else none
 | .hide S=>some (.hide S)
 | .map ka va k v l=>some (.map ka va k v l)
 | .Pp ka k u l c q=>match jG π c with|some m=>some (.Pp ka k u l m q)|none=>none
 | .set n=>match jG π n with|some m=>some (.set m)|none=>none
 | .gv n c k u x l=>match jG π n,jG π c with|some m,some d=>some (.gv m d k u x l)|_,_=>none
 | .rc cs=>match je π cs with|some q=>some (.rc q)|none=>none
 | .hmap es pB=>some (.hmap es pB)
 | .dp t l c st kn=>match jG π c with|some d=>some (.dp t l d st kn)|none=>none
 | .nv n c j q u=>match jG π n,jG π c with|some m,some d=>some (.nv m d j q u)|_,_=>none
 | .V2 n c es pB ka k u l cur=>match jG π n,jG π c,cur with
  |some m,some d,none=>some (.V2 m d es pB ka k u l none)
  |some m,some d,some (a,q)=>match jG π q with|some q'=>some (.V2 m d es pB ka k u l (some (a,q')))|none=>none
  |_,_,_=>none
def GZ:Src->Option Nat
 | .same m=>some m
 | .nil=>none
 | .cells m _=>some m
 | .mt _ _=>none
 | .any m=>some m
def Jp (π:List Src) (h:List aD) (s:Src) (o:aD):Prop:=match s with
 | .same m=> ∃p,ai h m=some p/\ gu π o=some p
 | .nil=> ∃t rk,o= .row t [] rk/\ rk≠0
 | .mt m _=> ∃t cs e,o= .row t [] 3/\ ai h m=some (.cells cs e)
 | .any m=> ∃t l rk,o= .row t l 3/\ ai h m=some (.row t l rk)/\ rk≠0
 | .cells m len=> ∃t l cs e rk,o= .row t l rk/\ (rk=2\/ rk=3)/\ ai h m=some (.cells cs e)/\ t.flat=true/\ BR (ct (fun _=>none) t) len cs=some (l,[])/\ cs.length=len*t.size/\ Nat.ble len 1099511627776=true
def wJ (π:List Src) (h:List aD):List Src->List aD->Prop
 |_::r,.gone::l=>wJ π h r l
 |s::r,o::l=>Jp π h s o/\ wJ π h r l
 | [],[]=>True
 |_,_=>False
def zn:List Src->List aD->List Nat
 |_::r,.gone::l=>zn r l
 |s::r,_::l=>(match GZ s with|some m=>m::zn r l|none=>zn r l)
 |_,_=> []
def NH (π:List Src):List AV->List AV->Prop
 |_::r,.dead::s=>NH π r s
 |x::r,y::s=>v8 π y=some x/\ NH π r s
 | [],[]=>True
 |_,_=>False
structure Ren (π:List Src) (st st':AS):Prop where
 tmps:NH π st.tmps st'.tmps
 heap:wJ π st.heap π st'.heap
 inj:eV (zn π st'.heap)=true
def uS (st st':AS):Prop:= ∃π,Ren π st st'
def lA (id:Nat) (K:Exit->AS->Prop) (e:Exit) (st':AS):Prop:=match e with
 | .exit id'=>if id'=id then K .normal st' else K (.exit id') st'
 |e=>K e st'
def mZ:Code->Bool
 | .seq a b=>mZ a&&mZ b
 | .cond _ a b=>mZ a&&mZ b
 | .loop c=>mZ c
 | .block _ c=>mZ c
 | .rangeFunc _ _ _ _=>false
 | .scope c=>mZ c
 |_=>true
def El:List AV->List Nat->List AV->List AV
 |l,t::ts,v::vs=>El (l.set t v) ts vs
 |l,_,_=>l
def aob (hp:HP) (nm:Nat) (h:List aD) (b:Bool):Rec:=C5 hp nm h (bG b)
def acm (o:Option aD) (r:Loop) (K:Prop):Prop:=match o with
 |some (.loop r' .ready none)=>r'=r/\ K
 |_=>False
def ZH (o:Option aD) (r:Loop) (K:Prop):Prop:=match o with
 |some (.loop r' .busy none)=>r'=r/\ K
 |_=>False
def S2 (r:Loop):Option Code->aD
 |none=> .loop r .ready none
 |some c=> .loop r .done (some c)
def yH (hp:HP) (nm n:Nat) (r:Loop) (aR:Env) (h:List aD) (jump:Option Code) (k:Rec->Prop):Prop:=
 ZH (ai h n) r (rU (ai h nm) aR nm (k (aob hp nm (h.set n (S2 r jump)) jump.isNone)))
def acv (n:Nat) (aW:Env) (tmps:List AV) (h:List aD) (K:Exit->AS->Prop):Prop:=
 rU (ai h (n+1)) aW (n+1) (match ai h n with
  |some (.loop _ .ready none)=>K .normal ⟨tmps,(h.set n .gone).set (n+1) .gone⟩
  |some (.loop _ .done (some .ret))=>K .ret ⟨tmps,(h.set n .gone).set (n+1) .gone⟩
  |some (.loop _ .done (some (.exit id)))=>K (.exit id) ⟨tmps,(h.set n .gone).set (n+1) .gone⟩
  |_=>False)
def anY  (X0:Addr->Value->Prop) (n:Nat) (tmps:List AV) (r:Loop) (aW:Env) (ps:Array Tmp) (A B:AS->(Exit->AS->Prop)->Prop):Spec:=fun X args hp nm k=>X=X0/\ (if ps.size=args.length then
          rU (hp (n+1)) aW (n+1) (acm (hp n) r (∀aR:Env,
            A ⟨El tmps ps.toList args,iZ hp nm++ [.cg aR nm]⟩ fun e mE=>match e with
              | .normal=>rU (ai mE.heap nm) aR nm (acm (ai mE.heap n) r (B ⟨mE.tmps,mE.heap.set n (.loop r .busy none)⟩ fun e tC=>match e with
                | .normal=>yH hp nm n r aR tC.heap none k
                | .ret=>yH hp nm n r aR tC.heap (some .ret) k
                | .exit id=>yH hp nm n r aR tC.heap (some (.exit id)) k
                |_=>False))
              |_=>False)) else False)
def cJ:Code->AS->(Exit->AS->Prop)->Prop
 | .skip,st,K=>K .normal st
 | .region _ ops draw,st,K=>jW ctx ops draw st (K .normal)
 | .seq a b,st,K=>cJ a st fun e st'=>match e with
  | .normal=>cJ b st' K
  |e=>K e st'
 | .cond c x y,st,K=>match cE st.tmps c with
  | .v (.one (.raw (.bool t)))=>cB t (cJ x st K) (cJ y st K)
  |_=>False
 | .block id c,st,K=>match aL ctx.lp id with
  |some sp=>sp st K
  |none=>cJ c st (lA id K)
 | .loop c,st,K=> ∃(I:Nat->AS->Prop),(∃m st',uS st st'/\ I m st')/\ ∀m mE,I m mE->cJ c mE fun e tC=>match e with
  | .normal=> ∃m' st',m'<m/\ uS tC st'/\ I m' st'
  |e=>K e tC
 | .rangeFunc g ps assign body,st,K=>if mZ assign&&mZ body then match cE st.tmps g with
  | .v (.one (.jO (.func f) [] cap))=>match aL ctx.its f with
   | some ZK=> ∀(r:Loop) (aW:Env),ZK [(st.heap.length,anY ctx.X st.heap.length st.tmps r aW ps (cJ assign) (cJ body))]
     (.v (.one (.N8 st.heap.length))::cap.map DN) (st.heap++ [.loop r .ready none,.cg aW (st.heap.length+1)]) fun _ tC=>acv st.heap.length aW st.tmps tC.heap K
   |none=>False
  |_=>False else False
 | .exit id,st,K=>K (.exit id) st
 | .ret,st,K=>K .ret st
 |_,_,_=>False
def G3 (c:Code):Nat->br
 |0,_,_=>False
 |n+1,st,K=>cJ ctx c st fun e tC=>match e with
  | .normal=>G3 c n tC K
  |e=>K e tC
def T6 (st:AS):ResultVar->Option A0
 | .tmp t=>match bY st.tmps t with| .v a=>some a|_=>none
 | .cell t ty=>match bY st.tmps t,aL ctx.tt ty with
  | .v (.one (.ptr n off)),some i=>match ai st.heap n with
   |some (.cells cs _)=>if dx i.desc then (if off+i.size<=cs.length then some (.agg ((cs.drop off).take i.size)) else none)
    else (match cs[off]? with|some c=>some (.one c)|none=>none)
   |_=>none
  |_,_=>none
def GL (st:AS):List ResultVar->Option (List A0)
 | []=>some []
 |r::l=>match T6 ctx st r,GL st l with
  |some a,some b=>some (a::b)
  |_,_=>none
def qX (fn:Func) (st:AS) (R:AV->AS->Prop):Prop:=
 match GL ctx st fn.results.toList with
 |some [a]=>R (.v a) st
 |some l=>R (.pT l) st
 |none=>False
def JD (fn:Func) (args:List AV) (heap:List aD) (R:AV->AS->Prop):Prop:=
 match fn.body with
 |some c=>cJ ctx c ⟨args++List.replicate (fn.ntmps- args.length) ck,heap⟩ fun e st=>match e with
  | .ret=>qX ctx fn st R
  | .normal=>qX ctx fn st R
  |_=>False
 |none=>False
end
end Go.Ev
