/- The abstract evaluator: values whose addresses are names, a small heap of named objects, and 'codeE', the condition under which a piece of code does what is asked. -/
import Derived.Below
import Derived.KernelRfl
noncomputable section
set_option linter.unusedSectionVars false
set_option linter.unusedVariables false
set_option linter.unusedSimpArgs false
namespace Go.Ev
inductive Ty
 |int (k:IntKind)
 |bool
 |str
 |prod (a b:Ty)
 |sl (t:Ty)
 deriving DecidableEq
@[reducible] def Ty.T:Ty->Type
 | .int _=>Int
 | .bool=>Bool
 | .str=>ByteArray
 | .prod a b=>a.T×b.T
 | .sl t=>List t.T
def Ty.d:(t:Ty)->t.T
 | .int _=>(0:Int)
 | .bool=>false
 | .str=>ByteArray.empty
 | .prod a b=>(a.d,b.d)
 | .sl t=>([]:List t.T)
def Ty.size:Ty->Nat
 | .prod a b=>a.size+b.size
 |_=>1
def Ty.flat:Ty->Bool
 | .prod a b=>a.flat&&b.flat
 | .sl _=>false
 |_=>true
def Ty.shallow:Ty->Bool
 | .prod a b=>a.shallow&&b.shallow
 | .sl t=>t.flat
 |_=>true
inductive cn
 |flat (v:Value)
 |sl (u:Ty) (l:List u.T)
def Ty.aI:(t:Ty)->t.T->List cn
 | .int k,n=> [.flat (.int k n)]
 | .bool,b=> [.flat (.bool b)]
 | .str,s=> [.flat (.string s)]
 | .prod a b,x=>a.aI x.1++b.aI x.2
 | .sl u,l=> [.sl u l]
def aM:cn->Value
 | .flat v=>v
 | .sl _ _=> .slice none 0 0
def qO:(t:Ty)->t.T->t.T->Bool
 | .int _,x,y=>(x:Int)==y
 | .bool,x,y=>(x:Bool)==y
 | .str,x,y=>(x:ByteArray)==y
 | .prod a b,x,y=>qO a x.1 y.1&&qO b x.2 y.2
 | .sl _,_,_=>false
def cO (a:Bool) (t:Ty) (x:t.T):Value:=match a with
 |true=> .agg ((t.aI x).map aM).toArray
 |false=>match (t.aI x).map aM with
  | [v]=>v
  |_=> .tuple #[]
def tJ {k:Ty} {β:Type} :List (k.T×β)->k.T->Option β
 | [],_=>none
 |p::r,x=>match qO k x p.1 with
  |true=>some p.2
  |false=>tJ r x
def Om {k:Ty} {β:Type} (l:List (k.T×β)) (x:k.T):Bool:=(tJ l x).isSome
def nV {k:Ty} {β:Type} (l:List (k.T×β)) (x:k.T) (z:β):β:=(tJ l x).getD z
def ni {k:Ty} {β:Type} :List (k.T×β)->k.T->β->List (k.T×β)
 | [],x,y=> [(x,y)]
 |p::r,x,y=>match qO k x p.1 with
  |true=>(x,y)::r
  |false=>p::ni r x y
def gd (t:Ty) (l:List t.T) (j:Nat):t.T:=l.getD j t.d
def iM (t u:Ty) (l:List t.T):Option (List u.T):=if h:t=u then some (h▸l) else none
inductive Ref
 |ext (v:Value)
 |loc (n off:Nat)
 |elem (n j:Nat)
 |full (n:Nat)
 |mp (n:Nat)
inductive Cell
 |raw (v:Value)
 |ptr (n off:Nat)
 |jE (n off:Nat)
 |sl (n off len cap:Nat)
 |full (n:Nat)
 |cx (n j k:Nat)
 |fq (n j k:Nat)
 |kq (f:Fn) (first:List Value) (cap:List Ref)
 |zJ (n:Nat)
 |mp (n:Nat)
 |mv (f:FuncId) (agg:Bool) (rs:List Ref)
inductive A0
 |one (c:Cell)
 |agg (cs:List Cell)
inductive AV
 |v (a:A0)
 |oP (l:List A0)
 |dead
structure pN where
 key:Sigma Ty.T
 bt:Option Nat
 base:Option Addr
 len:Nat
 cap:Nat
 es:Nat
 vals:List Value
structure Loc where
 bt:Option Nat:=none
 base:Option Addr:=none
 len:Nat:=0
 cap:Nat:=0
 es:Nat:=1
 bT:List pN:= []
abbrev Env:=Nat->Loc
inductive aG
 |cells (cs:List Cell) (e:TypeId)
 |row (t:Ty) (l:List t.T) (rk:Nat)
 |alias (n s:Nat) (q:Option Nat)
 |gone
 |loop (r:Loop) (s:LoopState) (j:Option Code)
 |de (ρ:Env) (n:Nat)
 |eZ (S:Nat->Prop)
 |map (ka va:Bool) (k v:Ty) (l:List (k.T×v.T))
 |mh (ka:Bool) (k u:Ty) (l:List (k.T×List u.T)) (c:Nat) (q:Option k.T)
 |set (n:Nat)
 |gv (n c:Nat) (k u:Ty) (x:k.T) (l:List u.T)
 |rc (cs:List Cell)
 |hmap (es:Array MapEntry) (dI:Nat)
 |sK (n c:Nat) (es:Array MapEntry) (dI:Nat) (ka:Bool) (k u:Ty) (l:List (k.T×List u.T)) (cur:Option (k.T×Nat))
 |dp (t:Ty) (l:List t.T) (c:Nat) (st kn:Bool)
 |nv (n c j q:Nat) (u:Ty)
def addrOf (ρ:Env) (n off:Nat):Option Addr:=(ρ n).bt.map fun b=> {block:=b,off:=off,spot:=none}
def Ref.af (ρ:Env):Ref->Value
 | .ext v=>v
 | .loc n off=> .pointer (addrOf ρ n off)
 | .elem n j=> .pointer ((ρ n).base.map (·.add (j*(ρ n).es+0)))
 | .full n=> .slice (ρ n).base (ρ n).len (ρ n).cap
 | .mp n=> .map (ρ n).bt
def K0 (agg:Bool) (vs:List Value):Value:=match agg with
 |true=> .agg vs.toArray
 |false=>match vs with
  | [v]=>v
  |_=> .tuple #[]
def Cell.af (ρ:Env):Cell->Value
 | .raw v=>v
 | .ptr n off=> .pointer (addrOf ρ n off)
 | .jE n off=> .pointer (addrOf ρ n off)
 | .sl n off len cap=> .slice (addrOf ρ n off) len cap
 | .full n=> .slice (ρ n).base (ρ n).len (ρ n).cap
 | .cx n j k=> .pointer ((ρ n).base.map (·.add (j*(ρ n).es+k)))
 | .fq n j k=> .pointer ((ρ n).base.map (·.add (j*(ρ n).es+k)))
 | .kq f first cap=> .func f first.toArray (cap.map (Ref.af ρ)).toArray
 | .zJ n=>match (ρ n).bt with
  |some l=> .func (.yield l) #[] #[]
  |none=> .nilFunc
 | .mp n=> .map (ρ n).bt
 | .mv f agg rs=> .func (.func f) #[K0 agg (rs.map (Ref.af ρ))] #[]
def A0.af (ρ:Env):A0->Value
 | .one c=>c.af ρ
 | .agg cs=> .agg (cs.map (Cell.af ρ)).toArray
def AV.af (ρ:Env):AV->Value
 | .v a=>a.af ρ
 | .oP l=> .tuple (l.map (A0.af ρ)).toArray
 | .dead=> .tuple #[]
def Ref.ok (Kn:Nat->Prop):Ref->Prop
 | .ext _=>True
 | .loc n _=>Kn n
 | .elem n _=>Kn n
 | .full n=>Kn n
 | .mp n=>Kn n
def Cell.ok (Kn:Nat->Prop):Cell->Prop
 | .raw _=>True
 | .ptr n _=>Kn n
 | .jE n _=>Kn n
 | .sl n _ _ _=>Kn n
 | .full n=>Kn n
 | .cx n _ _=>Kn n
 | .fq n _ _=>Kn n
 | .kq _ _ cap=> ∀r∈cap,r.ok Kn
 | .zJ n=>Kn n
 | .mp n=>Kn n
 | .mv _ _ rs=> ∀r∈rs,r.ok Kn
def A0.ok (Kn:Nat->Prop):A0->Prop
 | .one c=>c.ok Kn
 | .agg cs=> ∀c∈cs,c.ok Kn
def AV.ok (Kn:Nat->Prop):AV->Prop
 | .v a=>a.ok Kn
 | .oP l=> ∀a∈l,a.ok Kn
 | .dead=>True
def aG.ok (Kn:Nat->Prop):aG->Prop
 | .cells cs _=> ∀c∈cs,c.ok Kn
 | .row _ _ _=>True
 | .alias n _ _=>Kn n
 | .gone=>True
 | .loop _ _ _=>True
 | .de _ n=> ∀m,m<n->Kn m
 | .eZ _=>True
 | .map _ _ _ _ _=>True
 | .mh _ _ _ _ c _=>Kn c
 | .set n=>Kn n
 | .gv n c _ _ _ _=>Kn n/\ Kn c
 | .rc cs=> ∀c∈cs,c.ok Kn
 | .hmap _ _=>True
 | .sK n c _ _ _ _ _ _ cur=>Kn n/\ Kn c/\ ∀p,cur=some p->Kn p.2
 | .dp _ _ c _ _=>Kn c
 | .nv n c _ _ _=>Kn n/\ Kn c
def aW:AV:= .oP []
def Ps:Value->A0
 | .agg cs=> .agg (cs.toList.map .raw)
 |v=> .one (.raw v)
def RX (v:Value):AV:= .v (Ps v)
def rU:Value->Bool
 | .agg _=>false
 | .tuple _=>false
 |_=>true
def Cell.one:Cell->Bool
 | .raw v=>rU v
 |_=>true
def A0.cells:A0->Option (List Cell)
 | .one c=>if c.one then some [c] else none
 | .agg cs=>some cs
def AV.cells:AV->Option (List Cell)
 | .v a=>a.cells
 | .oP _=>none
 | .dead=>none
def AV.OV:AV->Bool
 | .dead=>true
 |_=>false
def mO:List Cell->Bool
 | []=>true
 |c::r=>if c.one then mO r else false
structure Rec where
 val:AV
 fresh:List aG:= []
 writes:List (Nat×aG):= []
 az:List Nat:= []
structure TI where
 desc:TypeDesc
 size:Nat
 bytes:Nat
 zero:Value
 ty:Option Ty
def cB (b:Bool) (p q:Prop):Prop:=match b with|true=>p|false=>q
def ob (b:Bool) (p:Prop):Prop:=match b with|true=>p|false=>False
def aF {α:Type _} :List (Nat×α)->Nat->Option α
 | [],_=>none
 |(k,a)::r,n=>if k=n then some a else aF r n
def aE:TypeDesc->Bool
 | .struct _=>true
 | .array _ _=>true
 |_=>false
def dK:List AV->Nat->AV
 | [],_=>aW
 |a::_,0=>a
 |_::r,n+1=>dK r n
abbrev HP:=Nat->Option aG
abbrev Spec:=(Addr->Value->Prop)->List AV->HP->Nat->(Rec->Prop)->Prop
structure AS where
 tmps:List AV
 heap:List aG
abbrev iL:=List (Nat×Spec)->List AV->List aG->(AV->AS->Prop)->Prop
abbrev cy:=AS->(Exit->AS->Prop)->Prop
structure Ctx where
 tt:List (Nat×TI)
 specs:List (Nat×Spec)
 X:Addr->Value->Prop
 lp:List (Nat×cy):= []
 ys:List (Nat×Spec):= []
 dc:List (Nat×iL):= []
def mg (tmps:List AV):Operand->AV
 | .tmp t=>dK tmps t
 | .const v=>RX v
 | .global g=> .v (.one (.raw (.pointer (some {block:=g,off:=0,spot:=none}))))
 | .func f=> .v (.one (.kq (.func f) [] []))
def setCells {α:Type} :List α->Nat->List α->List α
 |cs,_,[]=>cs
 |cs,off,c::r=>setCells (cs.set off c) (off+1) r
def tx (place:Nat->Option (Nat×Nat)) (ev:Operand->AV):List Cell->List (Nat×Operand)->Option (List Cell)
 |cs,[]=>some cs
 |cs,(i,x)::r=>match place i,(ev x).cells with
  |some (off,size),some xs=>if xs.length=size then (if off+size<=cs.length then tx place ev (setCells cs off xs) r else none) else none
  |_,_=>none
def nY (d:TypeDesc) (cs:List Cell):Option AV:=
 if aE d then some (.v (.agg cs)) else match cs with
  | [c]=>some (.v (.one c))
  |_=>none
def fG (k:IntKind) (n:Int):AV:= .v (.one (.raw (.int k n)))
def cw (b:Bool):AV:= .v (.one (.raw (.bool b)))
def Gz:Operand->Bool
 | .const _=>true
 |_=>false
def Ji (op:BinOp) (kk:IntKind) (a b:Int) (k:Rec->Prop):Prop:=
 match op with
 | .add=>k {val:=fG kk (kk.wrap (a+b))}
 | .sub=>k {val:=fG kk (kk.wrap (a- b))}
 | .mul=>k {val:=fG kk (kk.wrap (a*b))}
 | .quo=>ob (decide (b≠0)) (k {val:=fG kk (kk.wrap (a.tdiv b))})
 | .rem=>ob (decide (b≠0)) (k {val:=fG kk (a.tmod b)})
 | .eql=>k {val:=cw (a==b)}
 | .neq=>k {val:=cw (a !=b)}
 | .lss=>k {val:=cw (decide (a<b))}
 | .leq=>k {val:=cw (decide (a<=b))}
 | .gtr=>k {val:=cw (decide (a>b))}
 | .geq=>k {val:=cw (decide (a>=b))}
 | .and=>k {val:=fG kk (kk.wrap ((BitVec.ofInt kk.bits a&&&BitVec.ofInt kk.bits b).toNat))}
 | .or=>k {val:=fG kk (kk.wrap ((BitVec.ofInt kk.bits a|||BitVec.ofInt kk.bits b).toNat))}
 | .xor=>k {val:=fG kk (kk.wrap ((BitVec.ofInt kk.bits a^^^BitVec.ofInt kk.bits b).toNat))}
 | .andNot=>k {val:=fG kk (kk.wrap ((BitVec.ofInt kk.bits a&&& ~~~ BitVec.ofInt kk.bits b).toNat))}
 |_=>False
def eqFields (tt:List (Nat×TI)) (eq:TypeId->List Cell->List Cell->Option Bool):List Field->List Cell->List Cell->Option Bool
 | [],_,_=>some true
 |f::r,xs,ys=>match aF tt f.type with
  |none=>none
  |some fi=>if f.name= "_" then none else
   match eq f.type ((xs.drop f.offset).take fi.size) ((ys.drop f.offset).take fi.size),eqFields tt eq r xs ys with
   |some a,some b=>some (a&&b)
   |_,_=>none
def vl (eq:TypeId->List Cell->List Cell->Option Bool) (e s:Nat):Nat->Nat->List Cell->List Cell->Option Bool
 |0,_,_,_=>some true
 |n+1,i,xs,ys=>match eq e ((xs.drop (i*s)).take s) ((ys.drop (i*s)).take s),vl eq e s n (i+1) xs ys with
  |some a,some b=>some (a&&b)
  |_,_=>none
def L1 (tt:List (Nat×TI)):Nat->TypeId->List Cell->List Cell->Option Bool
 |0,_,_,_=>none
 |d+1,t,xs,ys=>match aF tt t with
  |none=>none
  |some i=>match i.desc with
   | .int _=>match xs,ys with
    | [.raw (.int k a)],[.raw (.int k' b)]=>if k=k' then some (a==b) else none
    |_,_=>none
   | .bool=>match xs,ys with
    | [.raw (.bool a)],[.raw (.bool b)]=>some (a==b)
    |_,_=>none
   | .string=>match xs,ys with
    | [.raw (.string a)],[.raw (.string b)]=>some (a==b)
    |_,_=>none
   | .struct fs=>eqFields tt (L1 tt d) fs.toList xs ys
   | .array n e=>match aF tt e with
    |some ei=>vl (L1 tt d) e ei.size n 0 xs ys
    |none=>none
   |_=>none
def eV (nm:Nat):List cn->List Cell×List aG
 | []=>([],[])
 | .flat v::r=>match eV nm r with|(cs,os)=>(.raw v::cs,os)
 | .sl u l::r=>match eV (nm+1) r with|(cs,os)=>(.full nm::cs,.row u l 0::os)
def bP (t:Ty) (l:List t.T) (j k size:Nat):List cn:=((t.aI (gd t l j)).drop k).take size
def iJ:(t:Ty)->List cn->Option (t.T×List cn)
 | .int k,cs=>match cs with
  | .flat (.int k' n)::r=>if k=k' then some (n,r) else none
  |_=>none
 | .bool,cs=>match cs with
  | .flat (.bool b)::r=>some (b,r)
  |_=>none
 | .str,cs=>match cs with
  | .flat (.string s)::r=>some (s,r)
  |_=>none
 | .prod a b,cs=>match iJ a cs with
  |some (x,r)=>match iJ b r with
   |some (y,r')=>some ((x,y),r')
   |none=>none
  |none=>none
 | .sl u,cs=>match cs with
  | .sl u' l::r=>match iM u' u l with
   |some l'=>some (l',r)
   |none=>none
  |_=>none
def fx:List Cell->Option (List cn)
 | []=>some []
 | .raw v::r=>match v with
  | .int _ _=>(fx r).map (.flat v:: ·)
  | .bool _=>(fx r).map (.flat v:: ·)
  | .string _=>(fx r).map (.flat v:: ·)
  |_=>none
 |_=>none
def ep (n s:Nat):Option Nat->Nat
 |some m=>min m (n- s)
 |none=>n- s
def lO {α:Type} (l:List α) (s:Nat):Option Nat->List α
 |none=>l.drop s
 |some m=>(l.drop s).take m
def X2 (dec:List Cell->Option (List cn×List Nat×List Nat)) (size:Nat) (u:Ty):Nat->List Cell->Option (List u.T×List Nat×List Nat)
 |0,_=>some ([],[],[])
 |n+1,cs=>match dec (cs.take size) with
  |some (ps,tc,ab)=>match iJ u ps with
   |some (x,[])=>match X2 dec size u n (cs.drop size) with
    |some (l,uS,ab')=>some (x::l,tc++uS,ab++ab')
    |none=>none
   |_=>none
  |none=>none
def ta {α:Type} (dec:List Cell->Option (α×List Cell×List Nat)):Nat->List Cell->Option (List α×List Nat)
 |0,_=>some ([],[])
 |n+1,cs=>match dec cs with
  |some (x,r,tc)=>match ta dec n r with
   |some (l,uS)=>some (x::l,tc++uS)
   |none=>none
  |none=>none
def b8 (hp:HP):(t:Ty)->List Cell->Option (t.T×List Cell×List Nat)
 | .int k,cs=>match cs with
  | .raw (.int k' n)::r=>if k=k' then some (n,r,[]) else none
  |_=>none
 | .bool,cs=>match cs with
  | .raw (.bool b)::r=>some (b,r,[])
  |_=>none
 | .str,cs=>match cs with
  | .raw (.string s)::r=>some (s,r,[])
  |_=>none
 | .prod a b,cs=>match b8 hp a cs with
  |some (x,r,tc)=>match b8 hp b r with
   |some (y,r',uS)=>some ((x,y),r',tc++uS)
   |none=>none
  |none=>none
 | .sl u,cs=>match cs with
  | .raw (.slice none 0 _)::r=>some (([]:List u.T),r,[])
  | .full n::r=>match hp n with
   |some (.row t l _)=>match iM t u l with
    |some l'=>some (l',r,[n])
    |none=>none
   |some (.alias m s q)=>match hp m with
    |some (.row t l _)=>match iM t u l with
     |some l'=>some (lO l' s q,r,[n,m])
     |none=>none
    |_=>none
   |some (.dp t l c _ kn)=>match kn,hp c with
    |true,some (.set _)=>match iM t u l with
     |some l'=>some (l',r,[n,c])
     |none=>none
    |_,_=>none
   |_=>none
  | .sl n off len cap::r=>if u.shallow&&decide (len<=cap) then (match hp n with
   |some (.cells cs _)=>match ta (b8 hp u) len (cs.drop off) with
    |some (l,tc)=>some (l,r,n::tc)
    |none=>none
   |_=>none) else none
  |_=>none
def pB (hp:HP):Ty->List Cell->Option (List Nat×Bool×List Cell)
 | .prod a b,cs=>match pB hp a cs with
  |some (ns,f,r)=>match pB hp b r with
   |some (ns',f',r')=>some (ns++ns',f&&f',r')
   |none=>none
  |none=>none
 | .sl u,cs=>if u.flat then (match cs with
  | .raw (.slice none 0 _)::r=>some ([],true,r)
  | .full n::r=>match hp n with
   |some (.row _ _ rk)=>if rk=0 then some ([],false,r) else some ([n],true,r)
   |some (.alias m _ _)=>match hp m with
    |some (.row _ _ rk)=>if rk=0 then some ([],false,r) else none
    |_=>none
   |_=>none
  | .sl n _ _ _::r=>match hp n with
   |some (.cells _ _)=>some ([n],true,r)
   |_=>none
  |_=>none) else none
 |_,cs=>match cs with
  |_::r=>some ([],true,r)
  | []=>none
def JA (hp:HP) (u:Ty):Nat->List Cell->Option (List Nat×Bool)
 |0,_=>some ([],true)
 |n+1,cs=>match pB hp u cs with
  |some (ns,f,r)=>match JA hp u n r with
   |some (ns',f')=>some (ns++ns',f&&f')
   |none=>none
  |none=>none
def gZ:List Cell->Option (List Int)
 | []=>some []
 | .raw (.int .i64 n)::r=>match gZ r with
  |some l=>some (n::l)
  |none=>none
 |_=>none
def pq:List cn->Option (List Int)
 | []=>some []
 | .flat (.int .i64 n)::r=>match pq r with
  |some l=>some (n::l)
  |none=>none
 |_=>none
def Jl:Ty->Bool
 | .int .i64=>true
 | .prod a b=>Jl a&&Jl b
 |_=>false
def SC (hp:Nat->Option aG) (n:Nat):Bool:=match hp n with
 |some (.row t _ _)=>Jl t
 |_=>false
def uH (off:Nat) (y:Int):Nat->List Int->List Int
 |_,[]=> []
 |q,n::r=>(bif Nat.beq off q then y else n)::uH off y (q+1) r
def qi (off:Nat):List Int->List Int->List Int
 | [],ns=>ns
 |y::r,ns=>qi (off+1) r (uH off y 0 ns)
def oA (ns:List Int) (off:Nat):Nat->List Cell
 |0=> []
 |m+1=> .raw (.int .i64 (ns.getD off 0))::oA ns (off+1) m
def aj (h:List aG) (n:Nat):Option aG:=match h[n]? with
 |some .gone=>none
 |o=>o
def jJ (hp:HP):Nat->List aG
 |0=> []
 |n+1=>jJ hp n++ [match hp n with|some o=>o|none=> .gone]
def E2 (hp:HP) (h:List aG):Nat->List (Nat×aG)
 |0=> []
 |n+1=>match hp n with
  |some _=>E2 hp h n++ [(n,match h[n]? with|some o=>o|none=> .gone)]
  |none=>E2 hp h n
def vh (hp:HP) (nm:Nat) (h:List aG) (v:AV):Rec:= {val:=v,fresh:=(h.set nm .gone).drop nm,writes:=E2 hp h nm,az:=List.range nm}
def vJ (o:Option aG) (ρ:Env) (n:Nat) (K:Prop):Prop:=match o with
 |some (.de ρ' n')=>ρ'=ρ/\ n'=n/\ K
 |_=>False
section
variable (ctx:Ctx)
def GL (i:TI) (cs:List Cell) (n off:Nat) (k:Rec->Prop):Prop:=
 if aE i.desc then (if off+i.size<=cs.length then k {val:= .v (.agg ((cs.drop off).take i.size)),az:= [n]} else False)
 else match cs[off]? with
  |some c=>k {val:= .v (.one c),az:= [n]}
  |none=>False
def tI (i:TI) (x:AV) (hp:HP) (nm:Nat) (k:Rec->Prop):Prop:=
 match x with
 | .v (.one (.ptr n off))=>match hp n with
  |some (.cells cs _)=>GL i cs n off k
  |_=>False
 | .v (.one (.jE n off))=>match hp n with
  |some (.cells cs _)=>match gZ cs with
   |some ns=>ob (decide (off+i.size<=cs.length)) (match nY i.desc (oA ns off i.size) with
    |some v=>k {val:=v,az:= [n]}
    |none=>False)
   |none=>False
  |_=>False
 | .v (.one (.cx n j q))=>match hp n with
  |some (.row t l _)=>if q+i.size<=t.size then ob (decide (j<l.length)) (match eV nm (bP t l j q i.size) with
   |(cs,os)=>match nY i.desc cs with
    |some v=>k {val:=v,fresh:=os,az:= [n]}
    |none=>False) else False
  |some (.gv _ c _ t _ l)=>match hp c with
   |some (.set _)=>if q+i.size<=t.size then ob (decide (j<l.length)) (match eV nm (bP t l j q i.size) with
    |(cs,_)=>match nY i.desc cs with
     |some v=>k {val:=v,az:= [n,c]}
     |none=>False) else False
   |_=>False
  |some (.rc cs)=>if j=0 then GL i cs n q k else False
  |_=>False
 | .v (.one (.fq n j q))=>match hp n with
  |some (.row t l _)=>match pq (t.aI (gd t l j)) with
   |some ns=>ob (decide (q+i.size<=t.size)) (ob (decide (j<l.length)) (match nY i.desc (oA ns q i.size) with
    |some v=>k {val:=v,az:= [n]}
    |none=>False))
   |none=>False
  |_=>False
 |_=>False
def JZ (t:Ty) (l:List t.T) (rk n j q:Nat) (ys:List Cell) (hp:HP) (k:Rec->Prop):Prop:=match ys with
 | [.full m]=>match hp m with
  |some (.row u lm rm)=>if rm=0\/ rk=3\/ m=n\/ u.flat=false\/ t.size<q+1 then False else (match iJ t (setCells (t.aI (gd t l j)) q [.sl u lm]) with
   |some (x',[])=>ob (decide (j<l.length)) (True/\ ∀l',l'=l.set j x'->k {val:=aW,writes:= [(n,.row t l' rk),(m,.gone)],az:= [n,m]})
   |_=>False)
  |_=>False
 |_=>False
def oO (i:TI) (x y:AV) (hp:HP) (k:Rec->Prop):Prop:=
 match x,y.cells with
 | .v (.one (.ptr n off)),some ys=>if ys.length=i.size then (if mO ys then
   match hp n with
   |some (.cells cs e)=>if off+ys.length<=cs.length then k {val:=aW,writes:= [(n,.cells (setCells cs off ys) e)],az:= [n]} else False
   |_=>False
   else False) else False
 | .v (.one (.jE n off)),some ys=>if ys.length=i.size then (match hp n with
   |some (.cells cs e)=>match gZ cs,gZ ys with
    |some ns,some ms=>ob (decide (off+ys.length<=cs.length)) (k {val:=aW,writes:= [(n,.cells ((qi off ms ns).map fun q=> .raw (.int .i64 q)) e)],az:= [n]})
    |_,_=>False
   |_=>False) else False
 | .v (.one (.cx n j q)),some ys=>if ys.length=i.size then (match hp n with
   |some (.row t l rk)=>if rk=0\/ rk=3 then False else match fx ys with
    |some ps=>if q+ps.length<=t.size then (match iJ t (setCells (t.aI (gd t l j)) q ps) with
     |some (x',[])=>ob (decide (j<l.length)) (True/\ ∀l',l'=l.set j x'->k {val:=aW,writes:= [(n,.row t l' rk)],az:= [n]})
     |_=>False) else False
    |none=>JZ t l rk n j q ys hp k
   |_=>False) else False
 | .v (.one (.fq n j q)),some ys=>if ys.length=i.size then (match hp n with
   |some (.row t l rk)=>if rk=0\/ rk=3 then False else match gZ ys,pq (t.aI (gd t l j)) with
    |some ms,some ns=>(match iJ t ((qi q ms ns).map fun m=> .flat (.int .i64 m)) with
     |some (x',[])=>ob (decide (q+ys.length<=t.size)) (ob (decide (j<l.length)) (True/\ ∀l',l'=l.set j x'->k {val:=aW,writes:= [(n,.row t l' rk)],az:= [n]}))
     |_=>False)
    |_,_=>False
   |_=>False) else False
 |_,_=>False
def iz (v:Value):List Cell:=v.cells.toList.map .raw
def JF (fs:Array Field) (j:Nat):Option (Nat×Nat):=match fs[j]? with
 |some f=>(match aF ctx.tt f.type with|some fi=>some (f.offset,fi.size)|none=>none)
 |none=>none
def It (i:TI) (parts:List (Nat×Operand)) (ev:Operand->AV) (k:Rec->Prop):Prop:=
 match i.desc with
 | .struct fs=>if fs.toList.all (fun f=>(aF ctx.tt f.type).isSome) then
   match tx (JF ctx fs) ev (iz i.zero) parts with
   |some cs=>k {val:= .v (.agg cs)}
   |none=>False
   else False
 | .array _ e=>match aF ctx.tt e with
  |some ei=>match tx (fun j=>some (j*ei.size,ei.size)) ev (iz i.zero) parts with
   |some cs=>k {val:= .v (.agg cs)}
   |none=>False
  |none=>False
 |_=>False
def qV (i:TI) (len:Nat) (parts:List (Nat×Operand)) (ev:Operand->AV) (nm:Nat) (k:Rec->Prop):Prop:=
 match i.desc with
 | .slice e=>match aF ctx.tt e with
  |some ei=>if len*ei.size>2^24 then False else if len*ei.size=0 then False else
   match tx (fun j=>some (j*ei.size,ei.size)) ev ((List.range (len*ei.size)).map fun j=> .raw (ei.zero.cells[j % ei.zero.cells.size]!)) parts with
   |some cs=>k {val:= .v (.one (.sl nm 0 len len)),fresh:= [.cells cs e]}
   |none=>False
  |none=>False
 |_=>False
def j5 (hp:HP) (n:Nat) (k:Prop):Prop:=match hp n with
 |some (.cells _ _)=>k
 |_=>False
def j6 (hp:HP) (n j:Nat) (k:Ty->Prop):Prop:=match hp n with
 |some (.row t l _)=>ob (decide (j<l.length)) (k t)
 |some (.gv _ _ _ t _ l)=>ob (decide (j<l.length)) (k t)
 |some (.dp t l _ _ _)=>ob (decide (j<l.length)) (k t)
 |_=>False
def OZ (hp:HP) (n:Nat):Bool:=match hp n with
 |some (.rc (_::_))=>true
 |_=>false
def ya (hp:HP) (p:Nat) (k:(n:Nat)->Option Nat->Option Nat->Nat->List Nat->Prop):Prop:=match hp p with
 |some (.row _ l _)=>k p none none l.length [p]
 |some (.gv _ _ _ _ _ l)=>k p none none l.length [p]
 |some (.dp _ l _ _ _)=>k p none none l.length [p]
 |some (.alias n s q)=>match hp n with
  |some (.row _ l _)=>k n (some s) q (ep l.length s q) [p,n]
  |_=>False
 |_=>False
def fY:Option Nat->Nat->Nat
 |none,j=>j
 |some s,j=>s+j
def um (i:TI) (x:AV) (f:Nat) (hp:HP) (k:Rec->Prop):Prop:=
 match i.desc with
 | .struct fs=>match fs[f]? with
  |some fd=>match aF ctx.tt fd.type with
   |some fi=>if fi.size=0 then False else match x with
    | .v (.one (.ptr n off))=>j5 hp n (k {val:= .v (.one (.ptr n (off+fd.offset))),az:= [n]})
    | .v (.one (.jE n off))=>j5 hp n (k {val:= .v (.one (.jE n (off+fd.offset))),az:= [n]})
    | .v (.one (.cx n j q))=>(match OZ hp n with
     |true=>k {val:= .v (.one (.cx n j (q+fd.offset))),az:= [n]}
     |false=>j6 hp n j fun _=>k {val:= .v (.one (.cx n j (q+fd.offset))),az:= [n]})
    | .v (.one (.fq n j q))=>j6 hp n j fun _=>k {val:= .v (.one (.fq n j (q+fd.offset))),az:= [n]}
    |_=>False
   |none=>False
  |none=>False
 |_=>False
def DJ (i:TI) (cs:List Cell) (off:Nat) (k:Rec->Prop):Prop:=
 if aE i.desc then (if off+i.size<=cs.length then k {val:= .v (.agg ((cs.drop off).take i.size))} else False)
 else match cs[off]? with
  |some c=>k {val:= .v (.one c)}
  |none=>False
def II (i:TI) (x:AV) (f:Nat) (k:Rec->Prop):Prop:=
 match i.desc,x with
 | .struct fs,.v (.agg cs)=>match fs[f]? with
  |some fd=>match aF ctx.tt fd.type with
   |some fi=>DJ fi cs fd.offset k
   |none=>False
  |none=>False
 |_,_=>False
def OX (hp:HP) (n:Nat):Bool:=match hp n with
 |some (.cells cs _)=>(gZ cs).isSome
 |_=>false
def Nx (j:Int) (n:Nat):Bool:=decide (0<=j)&&decide (j<(n:Int))
def ur (i:TI) (x ix:AV) (lit:Bool) (hp:HP) (k:Rec->Prop):Prop:=
 match ix with
 | .v (.one (.raw (.int _ j)))=>match i.desc with
  | .array n e=>match aF ctx.tt e with
   |some ei=>match x with
    | .v (.one (.ptr m off))=>ob (Nx j n) (j5 hp m (if !lit&&OX hp m then k {val:= .v (.one (.jE m (off+j.toNat*ei.size))),az:= [m]} else k {val:= .v (.one (.ptr m (off+j.toNat*ei.size))),az:= [m]}))
    | .v (.one (.jE m off))=>ob (Nx j n) (j5 hp m (k {val:= .v (.one (.jE m (off+j.toNat*ei.size))),az:= [m]}))
    | .v (.one (.cx m jj q))=>ob (Nx j n) (j6 hp m jj fun _=>if !lit&&SC hp m then k {val:= .v (.one (.fq m jj (q+j.toNat*ei.size))),az:= [m]} else k {val:= .v (.one (.cx m jj (q+j.toNat*ei.size))),az:= [m]})
    | .v (.one (.fq m jj q))=>ob (Nx j n) (j6 hp m jj fun _=>k {val:= .v (.one (.fq m jj (q+j.toNat*ei.size))),az:= [m]})
    |_=>False
   |none=>False
  | .slice e=>match aF ctx.tt e with
   |some ei=>match x with
    | .v (.one (.sl m off len _))=>ob (Nx j len) (j5 hp m (if Nat.beq len 1 then k {val:= .v (.one (.ptr m off)),az:= [m]} else if !lit&&OX hp m then k {val:= .v (.one (.jE m (off+j.toNat*ei.size))),az:= [m]} else k {val:= .v (.one (.ptr m (off+j.toNat*ei.size))),az:= [m]}))
    | .v (.one (.full p))=>ya hp p fun m s _ len tc=>ob (Nx j len) (j6 hp m (fY s j.toNat) fun t=>if ei.size=t.size then k {val:= .v (.one (.cx m (fY s j.toNat) 0)),az:=tc} else False)
    | .v (.one (.raw (.slice none 0 _)))=>ob (Nx j 0) False
    |_=>False
   |none=>False
  |_=>False
 |_=>False
def Jc (i:TI) (x ix:AV) (lit:Bool) (k:Rec->Prop):Prop:=
 match ix with
 | .v (.one (.raw (.int _ j)))=>match i.desc,x with
  | .array n e,.v (.agg cs)=>match aF ctx.tt e with
   |some ei=>ob (Nx j n) (if lit then DJ ei cs (j.toNat*ei.size) k else match gZ cs with
    |some ns=>if cs.length=n*ei.size then (match nY ei.desc (oA ns (j.toNat*ei.size) ei.size) with
     |some v=>k {val:=v}
     |none=>False) else False
    |none=>DJ ei cs (j.toNat*ei.size) k)
   |none=>False
  | .string,.v (.one (.raw (.string s)))=>ob (Nx j s.size) (k {val:=fG .u8 (s.get! j.toNat).toNat})
  |_,_=>False
 |_=>False
def qM (b:Option AV) (top dflt:Nat) (k:Nat->Prop):Prop:=
 match b with
 |none=>k dflt
 |some (.v (.one (.raw (.int _ j))))=>ob (decide (0<=j)&&decide (j<=(top:Int))) (k j.toNat)
 |_=>False
def J4 (hp:HP) (n es:Nat) (k:Prop):Prop:=match hp n with
 |some (.row t _ _)=>if es=t.size then k else False
 |_=>False
def FC (hp:HP) (p:Nat):Option (List Int):=match hp p with
 |some (.row (.int .i64) l 3)=>some l
 |_=>none
def JP (i:TI) (x:AV) (lo hi mx:Option AV) (hp:HP) (nm:Nat) (k:Rec->Prop):Prop:=
 match i.desc with
 | .array n e=>match aF ctx.tt e,x,mx with
  | some ei,.v (.one (.ptr m off)),none=>qM hi n n fun h=>qM lo h 0 fun l=>
    j5 hp m (k {val:= .v (.one (.sl m (if n=l then off else off+l*ei.size) (h- l) (n- l))),az:= [m]})
  |_,_,_=>False
 | .slice e=>match aF ctx.tt e,x with
  | some ei,.v (.one (.sl m off len cap))=>qM mx cap cap fun c=>qM hi (if mx.isSome then c else cap) len fun h=>qM lo h 0 fun l=>
    if mx.isSome&&hi.isNone then False else k {val:= .v (.one (.sl m (if c=l then off else off+l*ei.size) (h- l) (c- l)))}
  |some ei,.v (.one (.full p))=>ya hp p fun m s q len tc=>J4 hp m ei.size (match mx with
   |none=>match hi with
    |none=>match FC hp p with
     |some l0=>qM lo l0.length 0 fun j=>k {val:= .v (.one (.full nm)),fresh:= [.row (.int .i64) (l0.drop j) 3],writes:= [(p,.gone)],az:= [p]}
     |none=>qM lo len 0 fun l=>k {val:= .v (.one (.full nm)),fresh:= [.alias m (fY s l) (q.map fun _=>len- l)],az:=tc}
    |some _=>qM hi len len fun h=>qM lo h 0 fun l=>k {val:= .v (.one (.full nm)),fresh:= [.alias m (fY s l) (some (h- l))],az:=tc}
   |some _=>qM mx len len fun c=>qM hi c 0 fun h=>qM lo h 0 fun l=>if hi.isNone then False else k {val:= .v (.one (.full nm)),fresh:= [.alias m (fY s l) (some (h- l))],az:=tc})
  |some _,.v (.one (.raw (.slice none 0 c)))=>match mx with
   |none=>qM hi 0 0 fun h=>qM lo h 0 fun l=>if h=0/\ l=0/\ c=0 then k {val:= .v (.one (.raw (.slice none 0 0)))} else False
   |some _=>False
  |_,_=>False
 | .string=>match x,mx with
  | .v (.one (.raw (.string s))),none=>qM hi s.size s.size fun h=>qM lo h 0 fun l=>k {val:= .v (.one (.raw (.string (s.extract l h))))}
  |_,_=>False
 |_=>False
def uU:A0->Option Value
 | .one (.raw v)=>some v
 | .one _=>none
 | .agg cs=>(BO cs).map fun l=> .agg l.toArray
where BO:List Cell->Option (List Value)
 | []=>some []
 | .raw v::r=>(BO r).map (v:: ·)
 |_::_=>none
def Qw:AV->Option Value
 | .v a=>uU a
 |_=>none
def Cq:List AV->Option (List Value)
 | []=>some []
 |x::r=>match Qw x,Cq r with
  |some v,some l=>some (v::l)
  |_,_=>none
def Qx:AV->Option Ref
 | .v (.one (.ptr n off))=>some (.loc n off)
 | .v (.one (.cx n j 0))=>some (.elem n j)
 | .v (.one (.raw v))=>some (.ext v)
 | .v (.one (.full n))=>some (.full n)
 | .v (.one (.mp n))=>some (.mp n)
 |_=>none
def Cr:List AV->Option (List Ref)
 | []=>some []
 |x::r=>match Qx x,Cr r with
  |some v,some l=>some (v::l)
  |_,_=>none
def vW:Ref->AV
 | .ext v=>RX v
 | .loc n off=> .v (.one (.ptr n off))
 | .elem n j=> .v (.one (.cx n j 0))
 | .full n=> .v (.one (.full n))
 | .mp n=> .v (.one (.mp n))
def zN:Cell->Option Ref
 | .ptr n off=>some (.loc n off)
 | .cx n j 0=>some (.elem n j)
 | .raw v=>if rU v then some (.ext v) else none
 | .full n=>some (.full n)
 | .mp n=>some (.mp n)
 |_=>none
def qY:List Cell->Option (List Ref)
 | []=>some []
 |c::r=>match zN c,qY r with
  |some x,some l=>some (x::l)
  |_,_=>none
def JL:AV->Option (Bool×List Ref)
 | .v (.agg cs)=>match qY cs with
  |some l=>some (true,l)
  |none=>none
 | .v (.one c)=>match zN c with
  |some r=>some (false,[r])
  |none=>none
 |_=>none
def wv:Ref->Cell
 | .ext v=> .raw v
 | .loc n off=> .ptr n off
 | .elem n j=> .cx n j 0
 | .full n=> .full n
 | .mp n=> .mp n
def Ho (agg:Bool) (rs:List Ref):AV:=match agg with
 |true=> .v (.agg (rs.map wv))
 |false=>match rs with
  | [r]=> .v (.one (wv r))
  |_=> .oP []
def qd (ev:Operand->AV):List Operand->List AV
 | []=> []
 |x::r=>ev x::qd ev r
def iI (x y:Int):Int:=if y<x then y else x
def dJ (x y:Int):Int:=if y>x then y else x
def sF (f:Int->Int->Int):Int->List AV->Option Int
 |a,[]=>some a
 |a,.v (.one (.raw (.int _ b)))::r=>sF f (f a b) r
 |_,_=>none
def zL (i:Option Ty) (x:AV) (hp:HP) (k:(t:Ty)->List t.T->Nat->List Nat->Prop):Prop:=
 match x with
 | .v (.one (.raw (.slice none 0 0)))=>match i with
  |some t=>k t [] 2 []
  |none=>False
 | .v (.one (.full n))=>match hp n with
  |some (.row t l rk)=>if rk=0 then False else k t l rk [n]
  |_=>False
 | .v (.one (.sl n _ 0 0))=>match i with
  |some t=>match hp n with
   |some (.cells _ _)=>k t [] 3 []
   |_=>False
  |none=>False
 |_=>False
def mP (rk:Nat) (f:Bool):Nat:=match f with
 |true=>rk
 |false=>match rk with
  |3=>3
  |_=>1
def iT:List Nat->Bool
 | []=>true
 |x::r=> !r.contains x&&iT r
def tY (hp:HP) (t:Ty) (y:AV):Option (List Nat×Bool):=if t.flat then some ([],true) else
 match y with
 | .v (.one (.sl n off len _))=>match hp n with
  |some (.cells cs _)=>JA hp t len (cs.drop off)
  |_=>none
 | .v (.one (.full n))=>match hp n with
  |some (.row _ _ rk)=>if rk=2 then some ([],true) else some ([],false)
  |some (.alias _ _ _)=>some ([],false)
  |_=>none
 | .v (.one (.raw (.slice none 0 _)))=>some ([],true)
 |_=>none
def uZ (x y:AV) (ei:TI) (hp:HP) (nm:Nat) (k:Rec->Prop):Prop:=
 zL ei.ty x hp fun t l rk gone=>if ei.size=t.size/\ ei.bytes<=128/\ (iz ei.zero).length=ei.size then
  match y with
  | .v (.one yc)=>match b8 hp (.sl t) [yc] with
   |some (ys,[],tc)=>match tY hp t y with
    |some (ab,f)=>if iT (gone++ab) then ob (decide (l.length+ys.length<1099511627776)) (k {val:= .v (.one (.full nm)),fresh:= [.row t (l++ys) (mP rk f)],writes:=(gone++ab).map fun n=>(n,.gone),az:=gone++ab++tc}) else False
    |none=>False
   |_=>False
  |_=>False
 else False
def nQ (a b:Nat):Nat:=Nat.min b a
def iN {α:Type} (l:List α) (s d:Nat) (ys:List α):List α:=l.take s++ys.take (nQ d ys.length)++l.drop (s+nQ d ys.length)
def NU (x y:AV) (ei:TI) (hp:HP) (k:Rec->Prop):Prop:=match x,y with
 | .v (.one (.full p)),.v (.one yc)=>ya hp p fun n s _ len tc=>match hp n with
  |some (.row t l rk)=>if (rk≠0/\ rk≠3)/\ t.flat=true/\ ei.size=t.size then (match b8 hp (.sl t) [yc] with
   |some (ys,[],uS)=>True/\ ∀l',l'=iN l (fY s 0) len ys->k {val:=fG .i64 (nQ len ys.length:Nat),writes:= [(n,.row t l' rk)],az:=n::(tc++uS)}
   |_=>False) else False
  |_=>False
 |_,_=>False
def W5:Value->Bool
 | .slice none 0 0=>true
 |_=>false
def VP (i:TI) (kk:TypeId->TI->Ty->Ty->Prop):Prop:=match i.desc with
 | .map kt et=>match aF ctx.tt kt,aF ctx.tt et with
  |some ki,some ei=>match ki.ty,ei.ty with
   |some kT,some (.sl uT)=>if kT.flat&&uT.flat&&W5 ei.zero&& !aE ei.desc then kk kt ki kT uT else False
   |_,_=>False
  |_,_=>False
 |_=>False
def Ta (hp:HP):AV->Bool
 | .v (.one (.mp n))=>match hp n with
  |some (.mh _ _ _ _ _ _)=>true
  |_=>false
 |_=>false
def Zn (hp:HP):AV->Bool
 | .v (.one (.full n))=>match hp n with
  |some (.gv _ _ _ _ _ _)=>true
  |_=>false
 |_=>false
def Xk (i:TI):Bool:=match i.desc with
 | .map _ et=>match aF ctx.tt et with
  |some ei=>match ei.ty with
   |some (.sl _)=>true
   |_=>false
  |none=>false
 |_=>false
def qa:Option aG->Bool
 |some (.set _)=>true
 |_=>false
def Tb (hp:HP) (n:Nat):Bool:=match hp n with
 |some (.nv _ _ _ _ _)=>true
 |_=>false
def WS (hp:HP) (n:Nat):Bool:=match hp n with
 |some (.nv _ _ _ _ _)=>true
 |some (.dp _ _ _ _ _)=>true
 |_=>false
def WT (hp:HP):AV->Bool
 | .v (.one (.full n))=>Tb hp n
 |_=>false
def S9 (hp:HP):AV->Bool
 | .v (.one (.cx n _ _))=>WS hp n
 |_=>false
def KI:cn->List Value
 | .flat _=> []
 | .sl u l=>l.flatMap fun x=>(u.aI x).map aM
def vU (t:Ty) (l:List t.T):List Value:=l.flatMap fun x=>(t.aI x).flatMap KI
def setInt:(u:Ty)->List u.T->Nat->Int->Option (List u.T)
 | .int .i64,x,k,y=>some (List.set (show List Int from x) k y)
 |_,_,_,_=>none
def x9 (hp:HP) (m:Nat) (k:(n c j q:Nat)->(t:Ty)->List t.T->(st kn:Bool)->(u:Ty)->List u.T->Prop):Prop:=match hp m with
 |some (.nv n c j q u)=>match hp n with
  |some (.dp t l c' st kn)=>if c'=c/\ qa (hp c)=true then ob (decide (j<l.length)) (match (t.aI (gd t l j))[q]? with
   |some (.sl u' x)=>if u'=u then k n c j q t l st kn u' x else False
   |_=>False) else False
  |_=>False
 |_=>False
def UJ (hp:HP) (m:Nat) (k:Rec->Prop):Prop:=x9 hp m fun n c _ _ _ _ _ _ _ x=>k {val:=fG .i64 x.length,az:= [m,n,c]}
def Fl (i:TI) (x ix:AV) (hp:HP) (k:Rec->Prop):Prop:=match ix,x with
 | .v (.one (.raw (.int _ j0))),.v (.one (.full m))=>match i.desc with
  | .slice e=>match aF ctx.tt e with
   |some ei=>x9 hp m fun n c _ _ _ _ _ _ u y=>ob (Nx j0 y.length) (if ei.size=u.size then k {val:= .v (.one (.cx m j0.toNat 0)),az:= [m,n,c]} else False)
   |none=>False
  |_=>False
 |_,_=>False
def EO (i:TI) (x:AV) (hp:HP) (nm:Nat) (k:Rec->Prop):Prop:=match x with
 | .v (.one (.cx n j q))=>match hp n with
  |some (.dp t l c _ _)=>if qa (hp c)=true/\ aE i.desc=false then ob (decide (j<l.length)) (match (t.aI (gd t l j))[q]? with
   |some (.sl u _)=>k {val:= .v (.one (.full nm)),fresh:= [.nv n c j q u],az:= [n,c]}
   |_=>False) else False
  |some (.nv _ _ _ _ _)=>x9 hp n fun n' c _ _ _ _ _ kn u y=>if q+i.size<=u.size then ob kn (ob (decide (j<y.length)) (match eV 0 (bP u y j q i.size) with
   |(cs,_)=>match nY i.desc cs with
    |some v=>k {val:=v,az:= [n,n',c]}
    |none=>False)) else False
  |_=>False
 |_=>False
def AE (i:TI) (x y:AV) (hp:HP) (nm:Nat) (k:Rec->Prop):Prop:=match x,y.cells with
 | .v (.one (.cx m k0 r)),some ys=>x9 hp m fun n c j q t l st kn u z=>match gZ ys with
  |some [y0]=>if r=0/\ i.size=1 then (match setInt u z k0 y0 with
   |some z'=>ob (decide (k0<z.length)) (match st with
    |false=>k {val:=aW,fresh:= [.set n],writes:= [(n,.dp t l nm false false),(c,.gone),(m,.gone)],az:= [m,n,c]}
    |true=>match iJ t (setCells (t.aI (gd t l j)) q [.sl u z']) with
     |some (x',[])=>ob kn ((vU t l).Nodup/\ ∀l',l'=l.set j x'->k {val:=aW,fresh:= [.set n],writes:= [(n,.dp t l' nm true true),(c,.gone),(m,.gone)],az:= [m,n,c]})
     |_=>False)
   |none=>False) else False
  |_=>False
 |_,_=>False
def EE (x y:AV) (ei:TI) (hp:HP) (nm:Nat) (k:Rec->Prop):Prop:=match x with
 | .v (.one (.full m))=>match hp m with
  |some (.gv n c kT uT a l0)=>match hp n with
   |some (.mh ka je FG l c' none)=>if c'=c/\ qa (hp c)=true/\ ei.size=uT.size/\ ei.bytes<=128/\ (iz ei.zero).length=ei.size then (if h:kT=je/\ uT=FG then match y with
    | .v (.one (.sl p off len cap))=>match hp p with
     |some (.cells cs _)=>match ta (b8 (fun _=>none) uT) len (cs.drop off) with
      |some (ys,_)=>ob (decide (len<=cap)&&decide (l0.length+ys.length<1099511627776)) (k {val:= .v (.one (.full (nm+2))),fresh:= [.set n,.gone,.row uT (l0++ys) 1],writes:= [(n,.mh ka je FG l nm (some (h.1▸a))),(c,.gone)],az:= [m,n,c,p]})
      |none=>False
     |_=>False
    |_=>False else False) else False
   |_=>False
  |_=>False
 |_=>False
def Ar (b:Builtin) (SK:List TypeId) (args:List AV) (hp:HP) (nm:Nat) (k:Rec->Prop):Prop:=
 match b,args with
 | .len,[x]=>match SK with
  |t::_=>match aF ctx.tt t with
   |some i=>match i.desc,x with
    | .slice _,.v (.one (.sl _ _ len _))=>k {val:=fG .i64 len}
    | .slice _,.v (.one (.full p))=>if Tb hp p then UJ hp p k else ya hp p fun _ _ _ len tc=>k {val:=fG .i64 len,az:=tc}
    | .slice _,.v (.one (.raw (.slice _ len _)))=>k {val:=fG .i64 len}
    | .string,.v (.one (.raw (.string s)))=>k {val:=fG .i64 s.size}
    | .map _ _,.v (.one (.mp n))=>match hp n with
     |some (.map _ _ _ _ l)=>k {val:=fG .i64 l.length,az:= [n]}
     |_=>False
    |_,_=>False
   |none=>False
  | []=>False
 | .min,.v (.one (.raw (.int kk a)))::r=>match sF iI a r with
  |some n=>k {val:=fG kk n}
  |none=>False
 | .max,.v (.one (.raw (.int kk a)))::r=>match sF dJ a r with
  |some n=>k {val:=fG kk n}
  |none=>False
 | .append,[x,y]=>match SK with
  | [t,t']=>match aF ctx.tt t,aF ctx.tt t' with
   |some i,some i'=>match i.desc,i'.desc with
    | .slice e,.slice _=>match aF ctx.tt e with
     |some ei=>if Zn hp x then EE x y ei hp nm k else uZ x y ei hp nm k
     |none=>False
    |_,_=>False
   |_,_=>False
  |_=>False
 | .copy,[x,y]=>match SK with
  | [t,_]=>match aF ctx.tt t with
   |some i=>match i.desc with
    | .slice e=>match aF ctx.tt e with
     |some ei=>NU x y ei hp k
     |none=>False
    |_=>False
   |none=>False
  |_=>False
 |_,_=>False
def kI (i:TI) (x y:AV) (nm:Nat) (k:Rec->Prop):Prop:=
 match i.desc,x,y with
 | .slice e,.v (.one (.raw (.int .i64 n))),.v (.one (.raw (.int .i64 c)))=>match aF ctx.tt e with
  |some ei=>match ei.ty with
   |some t=>if t.flat/\ ei.size=t.size/\ ei.bytes<=128/\ (iz ei.zero).length=ei.size then (match b8 (fun _=>none) t (iz ei.zero) with
    |some (z,[],_)=>ob (decide (0<=n)&&decide (n<=c)&&decide (c.toNat<1099511627776)) (k {val:= .v (.one (.full nm)),fresh:= [.row t (List.replicate n.toNat z) 2]})
    |_=>False) else False
   |none=>False
  |none=>False
 |_,_,_=>False
def kM (t:Ty) (x:t.T):List Cell:=(t.aI x).map fun c=> .raw (aM c)
def xk (a:Bool) (t:Ty) (x:t.T):A0:=match a with
 |true=> .agg (kM t x)
 |false=>match kM t x with
  | [c]=> .one c
  |_=> .one (.raw (.tuple #[]))
def Af (tt:List (Nat×TI)) (t:TypeId) (k:Ty):Prop:= ∀x y:k.T,L1 tt 20 t (kM k x) (kM k y)=some (qO k x y)
def Jn (a:Bool) (t:Ty):AV->Option t.T
 | .v (.agg cs)=>if a then (match b8 (fun _=>none) t cs with
  |some (x,[],_)=>some x
  |_=>none) else none
 | .v (.one c)=>if a then none else (match b8 (fun _=>none) t [c] with
  |some (x,[],_)=>some x
  |_=>none)
 |_=>none
def Bc:Value->Bool
 | .agg _=>true
 |_=>false
def GU (i:TI) (kk:TypeId->TI->TI->Ty->Ty->Prop):Prop:=match i.desc with
 | .map kt et=>match aF ctx.tt kt,aF ctx.tt et with
  |some ki,some ei=>match ki.ty,ei.ty with
   |some kT,some vT=>if kT.flat&&vT.flat&&(Bc ei.zero==aE ei.desc) then kk kt ki ei kT vT else False
   |_,_=>False
  |_,_=>False
 |_=>False
def KC (i:TI) (x ix:AV) (ok:Bool) (hp:HP) (k:Rec->Prop):Prop:=
 GU ctx i fun kt ki ei kT vT=>match x with
  | .v (.one (.mp n))=>match hp n with
   |some (.map ka va je zH l)=>if ka=aE ki.desc/\ va=aE ei.desc then (if h:je=kT/\ zH=vT then match Jn ka je ix,b8 (fun _=>none) zH (iz ei.zero) with
    |some a,some (z,[],_)=>Af ctx.tt kt je/\ True/\ ∀y,y=nV l a z->k {val:=if ok then .oP [xk va zH y,.one (.raw (.bool (Om l a)))] else .v (xk va zH y),az:= [n]}
    |_,_=>False else False) else False
   |_=>False
  |_=>False
def ux (i:TI) (x ix v:AV) (hp:HP) (k:Rec->Prop):Prop:=
 GU ctx i fun kt ki ei kT vT=>match x with
  | .v (.one (.mp n))=>match hp n with
   |some (.map ka va je zH l)=>if ka=aE ki.desc/\ va=aE ei.desc then (if h:je=kT/\ zH=vT then match Jn ka je ix,Jn va zH v with
    |some a,some b=>Af ctx.tt kt je/\ True/\ ∀l',l'=ni l a b->k {val:=aW,writes:= [(n,.map ka va je zH l')],az:= [n]}
    |_,_=>False else False) else False
   |_=>False
  |_=>False
def GQ (i:TI) (nm:Nat) (k:Rec->Prop):Prop:=
 GU ctx i fun _ ki ei kT vT=>k {val:= .v (.one (.mp nm)),fresh:= [.map (aE ki.desc) (aE ei.desc) kT vT []]}
def KD (i:TI) (x ix:AV) (ok:Bool) (hp:HP) (nm:Nat) (k:Rec->Prop):Prop:=
 VP ctx i fun kt ki kT uT=>match x with
  | .v (.one (.mp n))=>match hp n with
   |some (.mh ka je FG l c none)=>if ka=aE ki.desc/\ ok=false/\ qa (hp c)=true then (if h:je=kT/\ FG=uT then match Jn ka je ix with
    |some a=>Af ctx.tt kt je/\ True/\ ∀y,y=nV l a []->k {val:= .v (.one (.full nm)),fresh:= [.gv n c je FG a y],az:= [n,c]}
    |none=>False else False) else False
   |_=>False
  |_=>False
def Bl (i:TI) (x ix v:AV) (hp:HP) (nm:Nat) (k:Rec->Prop):Prop:=
 VP ctx i fun kt ki kT uT=>match x,v with
  | .v (.one (.mp n)),.v (.one (.full m))=>match hp n,hp m with
   |some (.mh ka je FG l c (some a0)),some (.row t l2 rk)=>if ka=aE ki.desc/\ qa (hp c)=true/\ rk≠0/\ rk≠3 then (if h:je=kT/\ FG=uT then match Jn ka je ix,iM t FG l2 with
    |some a,some z=>Af ctx.tt kt je/\ a=a0/\ True/\ ∀l',l'=ni l a z->k {val:=aW,fresh:= [.set n],writes:= [(n,.mh ka je FG l' nm none),(c,.gone),(m,.gone)],az:= [n,c,m]}
    |_,_=>False else False) else False
   |_,_=>False
  |_,_=>False
def GR (i:TI) (nm:Nat) (k:Rec->Prop):Prop:=
 VP ctx i fun _ ki kT uT=>k {val:= .v (.one (.mp nm)),fresh:= [.mh (aE ki.desc) kT uT [] (nm+1) none,.set nm]}
def JI (t:TypeId) (x:AV) (hp:HP) (nm:Nat) (k:Rec->Prop):Prop:=match aF ctx.tt t with
 |some i=>match i.desc,x with
  | .map _ _,.v (.one (.mp n))=>match hp n with
   |some (.mh ka kT uT l c none)=>ob (qa (hp c)) (∀es dI,k {val:= .v (.one (.ptr nm 0)),fresh:= [.sK n c es dI ka kT uT l none],writes:= [(n,.hmap es dI)],az:= [n,c]})
   |_=>False
  |_,_=>False
 |none=>False
def GI {k u:Ty} (l:List (k.T×List u.T)) (i:Nat):k.T×List u.T:=l.getD i (k.d,[])
def Pn (x:AV) (hp:HP) (nm:Nat) (k:Rec->Prop):Prop:=match x with
 | .v (.one (.ptr r 0))=>match hp r with
  |some (.sK n c es dI ka kT uT l _)=>match hp n with
   | some (.hmap es' ko)=>ob (qa (hp c)) (es'=es/\ ko=dI/\ (l= []->k {val:= .oP [.one (.raw (.bool false))],az:= [r,n,c]})/\
     ∀i,i<l.length->k {val:= .oP [.one (.raw (.bool true)),xk ka kT (GI l i).1,.one (.full (nm+1))],fresh:= [.set n,.row uT (GI l i).2 1],writes:= [(r,.sK n nm es dI ka kT uT (l.eraseIdx i) (some ((GI l i).1,nm+1))),(c,.gone)],az:= [r,n,c]})
   |_=>False
  |_=>False
 |_=>False
def IG (x:AV) (hp:HP) (k:Rec->Prop):Prop:=match x with
 | .v (.one (.ptr r 0))=>match hp r with
  |some (.sK n _ es dI ka kT _ _ (some (a,m)))=>match hp n,hp m with
   |some (.hmap es' ko),some (.row _ _ _)=>es'=es/\ ko=dI/\ k {val:= .oP [xk ka kT a,.one (.full m)],az:= [r,n,m]}
   |_,_=>False
  |_=>False
 |_=>False
def Rb:Cell->Option (FuncId×List AV×List AV)
 | .kq (.func g) first cap=>some (g,first.map RX,cap.map vW)
 | .mv g agg rs=>some (g,[Ho agg rs],[])
 |_=>none
def C2 (c:Call) (ev:Operand->AV) (hp:HP) (nm:Nat) (k:Rec->Prop):Prop:=
 match c.callee with
 | .builtin b=>Ar ctx b c.argTypes.toList (qd ev c.args.toList) hp nm k
 | .value f=>match ev f with
  | .v (.one q)=>match Rb q with
   |some (g,fs,cs)=>match aF ctx.specs g with
    |some s=>s ctx.X (fs++qd ev c.args.toList++cs) hp nm k
    |none=>match aF ctx.dc g with
     |some Jm=> ∀aY:Env,Jm [] (fs++qd ev c.args.toList++cs) (jJ hp nm++ [.de aY nm]) fun v st=>vJ (aj st.heap nm) aY nm (k (vh hp nm st.heap v))
     |none=>False
   |none=>match q with
    | .raw (.func (.func g) first cap)=>match aF ctx.specs g with
     |some s=>s ctx.X (first.toList.map RX++qd ev c.args.toList++cap.toList.map RX) hp nm k
     |none=>False
    | .zJ n=>match aF ctx.ys n with
     |some s=>s ctx.X (qd ev c.args.toList) hp nm k
     |none=>False
    |_=>False
  |_=>False
 |_=>False
def QY (tt:List (Nat×TI)) (t:TypeId):Bool:=match aF tt t with|some i=>aE i.desc|none=>false
def Tz (op:BinOp) (t:TypeId) (x y:AV) (k:Rec->Prop):Prop:=
 match x,y with
 | .v (.one (.raw (.int kk a))),.v (.one (.raw (.int k' b)))=>match op with
  | .shl=>ob (decide (0<=b)) (k {val:=fG kk (kk.wrap (a*2^(min b.toNat kk.bits)))})
  | .shr=>ob (decide (0<=b)) (k {val:=fG kk (a.fdiv (2^(min b.toNat kk.bits)))})
  |op=>if kk=k' then Ji op kk a b k else False
 | .v (.one (.raw (.bool a))),.v (.one (.raw (.bool b)))=>match op with
  | .eql=>match aF ctx.tt t with|some i=>(match i.desc with| .bool=>k {val:=cw (a==b)} |_=>False)|none=>False
  | .neq=>match aF ctx.tt t with|some i=>(match i.desc with| .bool=>k {val:=cw (!(a==b))} |_=>False)|none=>False
  |_=>False
 | .v (.one (.raw (.string a))),.v (.one (.raw (.string b)))=>match op with
  | .eql=>k {val:=cw (a==b)}
  | .neq=>k {val:=cw (a !=b)}
  | .add=>ob (decide (a.size+b.size<4611686018427387904)) (k {val:= .v (.one (.raw (.string (a++b))))})
  |_=>False
 | .v (.agg xs),.v (.agg ys)=>match op with
  | .eql=>match QY ctx.tt t,L1 ctx.tt 20 t xs ys with|true,some b=>k {val:=cw b} |_,_=>False
  | .neq=>match QY ctx.tt t,L1 ctx.tt 20 t xs ys with|true,some b=>k {val:=cw (!b)} |_,_=>False
  |_=>False
 | .v (.one (.raw (.slice a _ _))),.v (.one (.raw (.slice none _ _)))=>match aF ctx.tt t with
  |some i=>match i.desc,op with
   | .slice _,.eql=>k {val:=cw a.isNone}
   | .slice _,.neq=>k {val:=cw (!a.isNone)}
   |_,_=>False
  |none=>False
 |_,_=>False
def XP (x y:AV):Bool:= !ctx.dc.isEmpty&&(match x,y with
 | .v (.one (.full _)),.v (.one (.raw (.slice none 0 0)))=>true
 |_,_=>false)
def UG (op:BinOp) (t:TypeId) (x y:AV) (hp:HP) (k:Rec->Prop):Prop:=match x,y with
 | .v (.one (.full n)),.v (.one (.raw (.slice none 0 0)))=>match hp n,aF ctx.tt t with
  |some (.row _ l _),some i=>match i.desc,op with
   | .slice _,.eql=> ∀b:Bool,(0<l.length->b=false)->k {val:=cw b,az:= [n]}
   | .slice _,.neq=> ∀b:Bool,(0<l.length->b=false)->k {val:=cw (!b),az:= [n]}
   |_,_=>False
  |_,_=>False
 |_,_=>False
def Jw (o:Op) (ev:Operand->AV) (hp:HP) (nm:Nat) (k:Rec->Prop):Prop:=
 match o with
 | .move x=>k {val:=ev x}
 | .assign x=>k {val:=ev x}
 | .pick c a b=>match ev c with
  | .v (.one (.raw (.bool t)))=>cB t (k {val:=ev a}) (k {val:=ev b})
  |_=>False
 | .alloc t=>match aF ctx.tt t with
  |some i=>k {val:= .v (.one (.ptr nm 0)),fresh:= [.cells (iz i.zero) t]}
  |none=>False
 | .box t x=>match (ev x).cells with
  |some xs=>k {val:= .v (.one (.ptr nm 0)),fresh:= [.cells xs t]}
  |none=>False
 | .build t parts=>match aF ctx.tt t with
  |some i=>It ctx i parts.toList ev k
  |none=>False
 | .buildSlice t len parts=>match aF ctx.tt t with
  |some i=>if Nat.beq len 0&&parts.toList.isEmpty then kI ctx i (.v (.one (.raw (.int .i64 0)))) (.v (.one (.raw (.int .i64 0)))) nm k else qV ctx i len parts.toList ev nm k
  |none=>False
 | .load t x=>match aF ctx.tt t with
  |some i=>if S9 hp (ev x) then EO i (ev x) hp nm k else tI i (ev x) hp nm k
  |none=>False
 | .store t x y=>match aF ctx.tt t with
  |some i=>if S9 hp (ev x) then AE i (ev x) (ev y) hp nm k else oO i (ev x) (ev y) hp k
  |none=>False
 | .nilCheck x=>match ev x with
  | .v (.one (.ptr n off))=>j5 hp n (k {val:= .v (.one (.ptr n off)),az:= [n]})
  | .v (.one (.jE n off))=>j5 hp n (k {val:= .v (.one (.jE n off)),az:= [n]})
  | .v (.one (.cx n j q))=>(match OZ hp n with
   |true=>k {val:= .v (.one (.cx n j q)),az:= [n]}
   |false=>j6 hp n j fun _=>k {val:= .v (.one (.cx n j q)),az:= [n]})
  | .v (.one (.fq n j q))=>j6 hp n j fun _=>k {val:= .v (.one (.fq n j q)),az:= [n]}
  | .v (.one (.kq (.func f) first cap))=>k {val:= .v (.one (.kq (.func f) first cap))}
  | .v (.one (.mv f agg rs))=>k {val:= .v (.one (.mv f agg rs))}
  | .v (.one (.raw (.pointer (some a))))=>k {val:= .v (.one (.raw (.pointer (some a))))}
  | .v (.one (.raw (.func (.func f) first cap)))=>k {val:= .v (.one (.raw (.func (.func f) first cap)))}
  |_=>False
 | .binOp op t x y _=>if XP ctx (ev x) (ev y) then UG ctx op t (ev x) (ev y) hp k else Tz ctx op t (ev x) (ev y) k
 | .unOp u _ x=>match u,ev x with
  | .neg,.v (.one (.raw (.int kk a)))=>k {val:=fG kk (kk.wrap (0- a))}
  | .not,.v (.one (.raw (.bool b)))=>k {val:=cw (!b)}
  |_,_=>False
 | .convert s d x=>match aF ctx.tt s,aF ctx.tt d with
  |some _,some i=>match i.desc,ev x with
   | .int kk,.v (.one (.raw (.int _ a)))=>k {val:=fG kk (kk.wrap a)}
   |_,_=>False
  |_,_=>False
 | .makeFunc fn first cap=>match Cq (qd ev first.toList),Cr (qd ev cap.toList) with
  |some f,some c=>k {val:= .v (.one (.kq fn f c))}
  |_,_=>match fn,qd ev first.toList,cap.toList with
   | .func g,[r],[]=>match JL r with
    |some (agg,rs)=>k {val:= .v (.one (.mv g agg rs))}
    |none=>False
   |_,_,_=>False
 | .makeMap t none=>match aF ctx.tt t with
  |some i=>if Xk ctx i then GR ctx i nm k else GQ ctx i nm k
  |none=>False
 | .lookup t x ix ok=>match aF ctx.tt t with
  |some i=>if Ta hp (ev x) then KD ctx i (ev x) (ev ix) ok hp nm k else KC ctx i (ev x) (ev ix) ok hp k
  |none=>False
 | .mapUpdate t m ix x=>match aF ctx.tt t with
  |some i=>if Ta hp (ev m) then Bl ctx i (ev m) (ev ix) (ev x) hp nm k else ux ctx i (ev m) (ev ix) (ev x) hp k
  |none=>False
 | .insert t m ix x=>match aF ctx.tt t with
  |some i=>ux ctx i (ev m) (ev ix) (ev x) hp k
  |none=>False
 | .slice t x lo hi mx=>match aF ctx.tt t with
  |some i=>JP ctx i (ev x) (lo.map ev) (hi.map ev) (mx.map ev) hp nm k
  |none=>False
 | .makeSlice t x y=>match aF ctx.tt t with
  |some i=>kI ctx i (ev x) (ev y) nm k
  |none=>False
 | .fieldAddr t x f=>match aF ctx.tt t with
  |some i=>um ctx i (ev x) f hp k
  |none=>False
 | .field t x f=>match aF ctx.tt t with
  |some i=>II ctx i (ev x) f k
  |none=>False
 | .indexAddr t x ix=>match aF ctx.tt t with
  |some i=>if WT hp (ev x) then Fl ctx i (ev x) (ev ix) hp k else ur ctx i (ev x) (ev ix) (Gz ix) hp k
  |none=>False
 | .index t x ix=>match aF ctx.tt t with
  |some i=>Jc ctx i (ev x) (ev ix) (Gz ix) k
  |none=>False
 | .extract x i=>match ev x with
  | .oP l=>match l[i]? with|some a=>k {val:= .v a} |none=>False
  |_=>False
 | .call c=>C2 ctx c ev hp nm k
 | .range t x=>if ctx.dc.isEmpty then False else JI ctx t (ev x) hp nm k
 | .next x false=>if ctx.dc.isEmpty then False else Pn (ev x) hp nm k
 | .entry x=>if ctx.dc.isEmpty then False else IG (ev x) hp k
 |_=>False
def iU (tmps:List AV):Option Nat->AV->List AV
 |some d,v=>tmps.set d v
 |none,_=>tmps
def AS.app (st:AS) (dst:Option Nat) (r:Rec):AS:=
 {tmps:=iU st.tmps dst r.val,heap:=r.writes.foldl (fun h p=>h.set p.1 p.2) st.heap++r.fresh}
structure lT where
 nm:Nat
 cnt:Nat
 az:List Nat
 wr:List Nat
def Du (nm:Nat) (r:Rec):lT:= {nm:=nm,cnt:=r.fresh.length,az:=r.az,wr:=r.writes.map (·.1)}
def lu (nm:Nat):lT:= {nm:=nm,cnt:=0,az:= [],wr:= []}
def yn (ops:Array Oper) (j:Nat):Option Nat:=match ops[j]? with
 |some o=>o.dst
 |none=>none
def UH (o:Op) (ev:Operand->AV):Bool:=o.operands.toList.all fun x=> !(ev x).OV
def pK (o:Op) (st:AS) (k:Rec->Prop):Prop:=if UH o (mg st.tmps) then Jw ctx o (mg st.tmps) (aj st.heap) st.heap.length k else False
def mZ (all:Array Oper):List Oper->List Nat->AS->List lT->(AS->List lT->Prop)->Prop
  | [],_,st,lg,K=>K st lg
  | o::rest,dec,st,lg,K=>match o.guard with
    |none=>pK ctx o.op st fun r=>mZ all rest dec (st.app o.dst r) (lg++ [Du st.heap.length r]) K
    | some (j,want)=>match yn all j with
      | some d=>match dK st.tmps d with
        | .v (.one (.raw (.bool x)))=>
          if dec.contains d then
            (if x=want then pK ctx o.op st fun r=>mZ all rest dec (st.app o.dst r) (lg++ [Du st.heap.length r]) K
             else mZ all rest dec {st with tmps:=iU st.tmps o.dst aW} (lg++ [lu st.heap.length]) K)
          else
            (match want with
             |true=>cB x (pK ctx o.op {st with tmps:=st.tmps.set d (cw true)} fun r=>mZ all rest (d::dec) ({st with tmps:=st.tmps.set d (cw true)}.app o.dst r) (lg++ [Du st.heap.length r]) K)
                (mZ all rest (d::dec) {st with tmps:=iU (st.tmps.set d (cw false)) o.dst aW} (lg++ [lu st.heap.length]) K)
             |false=>cB x (mZ all rest (d::dec) {st with tmps:=iU (st.tmps.set d (cw true)) o.dst aW} (lg++ [lu st.heap.length]) K)
                (pK ctx o.op {st with tmps:=st.tmps.set d (cw false)} fun r=>mZ all rest (d::dec) ({st with tmps:=st.tmps.set d (cw false)}.app o.dst r) (lg++ [Du st.heap.length r]) K))
        | .oP []=>mZ all rest dec {st with tmps:=iU st.tmps o.dst aW} (lg++ [lu st.heap.length]) K
        |_=>False
      |none=>False
def direct (o:Oper):List Nat:=(o.after.toList.filter (Region.binds .any)).map (·.on)
def nX:List Oper->List Nat->List Nat
 | [],acc=>acc
 |o::r,acc=>nX r (acc++ [(direct o).foldl (fun s j=>s|||(2^j|||acc.getD j 0)) 0])
def C9 (a b:List Nat):Bool:=a.all fun x=> !b.contains x
def vQ (lg:List lT) (m:Nat):Option Nat:=lg.findIdx? fun l=>l.nm<=m&&m<l.nm+l.cnt
def jO (ops:Array Oper) (o:Oper):List Nat:=
 (o.op.operands.toList.filterMap fun| .tmp t=>some t|_=>none)++(match o.guard with|some (g,_)=>(yn ops g).toList|none=> [])
def Jy (ops:Array Oper) (ms:List Nat) (lg:List lT) (i:Nat):Bool:=
  match ops[i]?,lg[i]? with
  | some o,some l=>
    (direct o).all (· <i)&&(l.wr.all fun m=>l.az.contains m)&&
    (l.az.all fun m=>match vQ lg m with|some j=>j==i||(ms.getD i 0).testBit j|none=>true)&&
    (List.range i).all fun j=>(ms.getD i 0).testBit j||
      (match ops[j]?,lg[j]? with
       |some p,some q=>C9 l.wr q.az&&C9 q.wr l.az&&C9 l.wr q.wr&&
          (match p.dst with|some d=>o.dst !=some d&& !(jO ops o).contains d|none=>true)&&
          (match o.dst with|some d=> !(jO ops p).contains d|none=>true)
       |_,_=>false)
  |_,_=>false
def KP (ops:Array Oper) (lg:List lT):Bool:=
 lg.length==ops.size&&(List.range ops.size).all (Jy ops (nX ops.toList []) lg)
def zA (x:Nat):List Nat->Bool
 | []=>false
 |y::r=>Nat.beq x y||zA x r
def SH:List Nat->List Nat->Bool
 | [],_=>true
 |x::r,l=>zA x l&&SH r l
def AB:List Nat->List Nat->Bool
 | [],_=>true
 |x::r,l=> !zA x l&&AB r l
def Fg:List Oper->Nat->List Nat->List Nat
 | [],_,acc=>acc
 |o::r,k,acc=>Fg r (k+1) ((direct o).foldl (fun s j=>s|||(2^j|||(bif Nat.blt j k then acc.getD (k- 1- j) 0 else 0))) 0::acc)
def XO (ops:Array Oper):List Nat:=(Fg ops.toList 0 []).reverse
structure OI where
 d:Option Nat
 lk:List Nat
 m:Nat
def XQ (all:Array Oper):List Oper->List Nat->List OI
 |o::r,m::ms=>⟨o.dst,jO all o,m⟩::XQ all r ms
 |_,_=> []
def Lk (o p:OI):Bool:=
 (match p.d with
  |some d=>(match o.d with|some e=> !Nat.beq e d|none=>true)&& !zA d o.lk
  |none=>true)&&
 (match o.d with
  |some d=> !zA d p.lk
  |none=>true)
def xe (o:OI):List OI->Nat->Nat->Bool
 |p::r,j,k+1=>(o.m.testBit j||Lk o p)&&xe o r (j+1) k
 |_,_,_=>true
def z9 (all:List OI):List OI->Nat->Bool
 | [],_=>true
 |o::r,i=>xe o all 0 i&&z9 all r (i+1)
def EN:List Oper->Nat->Bool
 | [],_=>true
 |o::r,i=>((direct o).all fun j=>Nat.blt j i)&&EN r (i+1)
def Qt (ops:Array Oper):Bool:=EN ops.toList 0&&z9 (XQ ops ops.toList (XO ops)) (XQ ops ops.toList (XO ops)) 0
structure DI where
 i:Nat
 m:Nat
 t:List Nat
 w:List Nat
def LY:List lT->List Nat->Nat->List DI
 |l::r,m::ms,i=>(match l.az,l.wr with
  | [],[]=>LY r ms (i+1)
  |t,w=>⟨i,m,t,w⟩::LY r ms (i+1))
 |_,_,_=> []
def W2:List lT->Nat->List (Nat×Nat×Nat)
 | [],_=> []
 |l::r,i=>match l.cnt with
  |0=>W2 r (i+1)
  |c=>(i,l.nm,c)::W2 r (i+1)
def Ff (x:Nat):List (Nat×Nat×Nat)->Option Nat
 | []=>none
 |p::r=>bif Nat.ble p.2.1 x&&Nat.blt x (p.2.1+p.2.2) then some p.1 else Ff x r
def IE (mk:List (Nat×Nat×Nat)) (o:DI):Bool:=
 SH o.w o.t&&o.t.all fun x=>match Ff x mk with|some j=>Nat.beq j o.i||o.m.testBit j|none=>true
def sA (o p:DI):Bool:=Nat.ble o.i p.i||o.m.testBit p.i||(AB o.w p.t&&AB p.w o.t&&AB o.w p.w)
def VD:List DI->List DI
 | []=> []
 |o::r=>match o.w with
  | []=>VD r
  |_=>o::VD r
def N4 (D:List DI) (mk:List (Nat×Nat×Nat)):Bool:=(D.all fun o=>IE mk o)&&(VD D).all fun p=>D.all fun o=>sA o p&&sA p o
def force {α:Type} (n:Nat) (k:Nat->α):α:=match n with
 |0=>k 0
 |m+1=>k (m+1)
def AN {α:Type} :List Nat->(List Nat->α)->α
 | [],k=>k []
 |x::r,k=>force x fun v=>AN r fun l=>k (v::l)
def zP {α:Type} :List lT->(List lT->α)->α
 | [],k=>k []
 |e::r,k=>force e.nm fun a=>force e.cnt fun b=>AN e.az fun t=>AN e.wr fun w=>zP r fun l=>k (⟨a,b,t,w⟩::l)
def zZ (ops:Array Oper) (lg:List lT):Bool:=zP lg fun lg=>
 Nat.beq lg.length ops.size&&Qt ops&&N4 (LY lg (XO ops) 0) (W2 lg 0)
def K2 (ops:Array Oper) (draw:Bool) (st:AS) (K:AS->Prop):Prop:=
 if draw then mZ {ctx with ys:= [],dc:= []} ops ops.toList [] st [] fun st' lg=>if zZ ops lg then K st' else False
 else mZ ctx ops ops.toList [] st [] fun st' _=>K st'
inductive Src
 |same (m:Nat)
 |nil
 |cells (m len:Nat)
 |mt (m off:Nat)
 |any (m:Nat)
def ik (π:List Src) (n:Nat):Option Nat:=match π[n]? with
 |some (.same m)=>some m
 |_=>none
def nj (π:List Src):Ref->Option Ref
 | .ext v=>some (.ext v)
 | .loc n o=>match ik π n with|some m=>some (.loc m o)|none=>none
 | .elem n j=>match ik π n with|some m=>some (.elem m j)|none=>none
 | .full n=>match ik π n with|some m=>some (.full m)|none=>none
 | .mp n=>match ik π n with|some m=>some (.mp m)|none=>none
def jg (π:List Src):List Ref->Option (List Ref)
 | []=>some []
 |r::l=>match nj π r,jg π l with|some q,some m=>some (q::m)|_,_=>none
def iZ (π:List Src):Cell->Option Cell
 | .raw v=>some (.raw v)
 | .ptr n o=>match ik π n with|some m=>some (.ptr m o)|none=>none
 | .jE n o=>match ik π n with|some m=>some (.jE m o)|none=>none
 | .sl n o l c=>match ik π n with|some m=>some (.sl m o l c)|none=>none
 | .cx n j k=>match ik π n with|some m=>some (.cx m j k)|none=>none
 | .fq n j k=>match ik π n with|some m=>some (.fq m j k)|none=>none
 | .full n=>match π[n]? with
  |some (.same m)=>some (.full m)
  |some .nil=>some (.raw (.slice none 0 0))
  |some (.cells m len)=>some (.sl m 0 len len)
  |some (.mt m off)=>some (.sl m off 0 0)
  |some (.any m)=>some (.full m)
  |none=>none
 | .kq f a cap=>match jg π cap with|some c=>some (.kq f a c)|none=>none
 | .zJ n=>match ik π n with|some m=>some (.zJ m)|none=>none
 | .mp n=>match ik π n with|some m=>some (.mp m)|none=>none
 | .mv f a rs=>match jg π rs with|some c=>some (.mv f a c)|none=>none
def gM (π:List Src):List Cell->Option (List Cell)
 | []=>some []
 |c::l=>match iZ π c,gM π l with|some q,some m=>some (q::m)|_,_=>none
def CS (π:List Src):A0->Option A0
 | .one c=>match iZ π c with|some q=>some (.one q)|none=>none
 | .agg cs=>match gM π cs with|some q=>some (.agg q)|none=>none
def fZ (π:List Src):List A0->Option (List A0)
 | []=>some []
 |c::l=>match CS π c,fZ π l with|some q,some m=>some (q::m)|_,_=>none
def qn (π:List Src):AV->Option AV
 | .v a=>match CS π a with|some q=>some (.v q)|none=>none
 | .oP l=>match fZ π l with|some q=>some (.oP q)|none=>none
 | .dead=>none
def xI (π:List Src):Nat->Bool
 |0=>true
 |n+1=>(match π[n]? with|some (.same m)=>m==n|_=>false)&&xI π n
def fA (π:List Src):aG->Option aG
 | .cells cs e=>match gM π cs with|some q=>some (.cells q e)|none=>none
 | .row t l rk=>some (.row t l rk)
 | .alias n s q=>match ik π n with|some m=>some (.alias m s q)|none=>none
 | .gone=>none
 | .loop r s j=>some (.loop r s j)
 | .de ρ n=>if xI π n then some (.de ρ n) else none
 | .eZ S=>some (.eZ S)
 | .map ka va k v l=>some (.map ka va k v l)
 | .mh ka k u l c q=>match ik π c with|some m=>some (.mh ka k u l m q)|none=>none
 | .set n=>match ik π n with|some m=>some (.set m)|none=>none
 | .gv n c k u x l=>match ik π n,ik π c with|some m,some d=>some (.gv m d k u x l)|_,_=>none
 | .rc cs=>match gM π cs with|some q=>some (.rc q)|none=>none
 | .hmap es dI=>some (.hmap es dI)
 | .dp t l c st kn=>match ik π c with|some d=>some (.dp t l d st kn)|none=>none
 | .nv n c j q u=>match ik π n,ik π c with|some m,some d=>some (.nv m d j q u)|_,_=>none
 | .sK n c es dI ka k u l cur=>match ik π n,ik π c,cur with
  |some m,some d,none=>some (.sK m d es dI ka k u l none)
  |some m,some d,some (a,q)=>match ik π q with|some q'=>some (.sK m d es dI ka k u l (some (a,q')))|none=>none
  |_,_,_=>none
def x6:Src->Option Nat
 | .same m=>some m
 | .nil=>none
 | .cells m _=>some m
 | .mt _ _=>none
 | .any m=>some m
def zD (π:List Src) (h:List aG) (s:Src) (o:aG):Prop:=match s with
 | .same m=> ∃p,aj h m=some p/\ fA π o=some p
 | .nil=> ∃t rk,o= .row t [] rk/\ rk≠0
 | .mt m _=> ∃t cs e,o= .row t [] 3/\ aj h m=some (.cells cs e)
 | .any m=> ∃t l rk,o= .row t l 3/\ aj h m=some (.row t l rk)/\ rk≠0
 | .cells m len=> ∃t l cs e rk,o= .row t l rk/\ (rk=2\/ rk=3)/\ aj h m=some (.cells cs e)/\ t.flat=true/\ ta (b8 (fun _=>none) t) len cs=some (l,[])/\ cs.length=len*t.size/\ Nat.ble len 1099511627776=true
def qH (π:List Src) (h:List aG):List Src->List aG->Prop
 |_::r,.gone::l=>qH π h r l
 |s::r,o::l=>zD π h s o/\ qH π h r l
 | [],[]=>True
 |_,_=>False
def sj:List Src->List aG->List Nat
 |_::r,.gone::l=>sj r l
 |s::r,_::l=>(match x6 s with|some m=>m::sj r l|none=>sj r l)
 |_,_=> []
def Cp (π:List Src):List AV->List AV->Prop
 |_::r,.dead::s=>Cp π r s
 |x::r,y::s=>qn π y=some x/\ Cp π r s
 | [],[]=>True
 |_,_=>False
structure XV (π:List Src) (st st':AS):Prop where
 tmps:Cp π st.tmps st'.tmps
 heap:qH π st.heap π st'.heap
 inj:iT (sj π st'.heap)=true
def s8 (st st':AS):Prop:= ∃π,XV π st st'
def mq (id:Nat) (K:Exit->AS->Prop) (e:Exit) (st':AS):Prop:=match e with
 | .exit id'=>if id'=id then K .normal st' else K (.exit id') st'
 |e=>K e st'
def kJ:Code->Bool
 | .seq a b=>kJ a&&kJ b
 | .cond _ a b=>kJ a&&kJ b
 | .loop c=>kJ c
 | .block _ c=>kJ c
 | .rangeFunc _ _ _ _=>false
 | .scope c=>kJ c
 |_=>true
def wF:List AV->List Nat->List AV->List AV
 |l,t::ts,v::vs=>wF (l.set t v) ts vs
 |l,_,_=>l
def SV (hp:HP) (nm:Nat) (h:List aG) (b:Bool):Rec:=vh hp nm h (cw b)
def Kw (o:Option aG) (r:Loop) (K:Prop):Prop:=match o with
 |some (.loop r' .ready none)=>r'=r/\ K
 |_=>False
def Jk (o:Option aG) (r:Loop) (K:Prop):Prop:=match o with
 |some (.loop r' .busy none)=>r'=r/\ K
 |_=>False
def E8 (r:Loop):Option Code->aG
 |none=> .loop r .ready none
 |some c=> .loop r .done (some c)
def rW (hp:HP) (nm n:Nat) (r:Loop) (aY:Env) (h:List aG) (jump:Option Code) (k:Rec->Prop):Prop:=
 Jk (aj h n) r (vJ (aj h nm) aY nm (k (SV hp nm (h.set n (E8 r jump)) jump.isNone)))
def KE (n:Nat) (dH:Env) (tmps:List AV) (h:List aG) (K:Exit->AS->Prop):Prop:=
 vJ (aj h (n+1)) dH (n+1) (match aj h n with
  |some (.loop _ .ready none)=>K .normal ⟨tmps,(h.set n .gone).set (n+1) .gone⟩
  |some (.loop _ .done (some .ret))=>K .ret ⟨tmps,(h.set n .gone).set (n+1) .gone⟩
  |some (.loop _ .done (some (.exit id)))=>K (.exit id) ⟨tmps,(h.set n .gone).set (n+1) .gone⟩
  |_=>False)
def SL   (X0:Addr->Value->Prop) (n:Nat) (tmps:List AV) (r:Loop) (dH:Env) (ps:Array Tmp) (A B:AS->(Exit->AS->Prop)->Prop):Spec:=fun X args hp nm k=>X=X0/\ (if ps.size=args.length then
          vJ (hp (n+1)) dH (n+1) (Kw (hp n) r (∀aY:Env,
            A ⟨wF tmps ps.toList args,jJ hp nm++ [.de aY nm]⟩ fun e pO=>match e with
              | .normal=>vJ (aj pO.heap nm) aY nm (Kw (aj pO.heap n) r (B ⟨pO.tmps,pO.heap.set n (.loop r .busy none)⟩ fun e xn=>match e with
                | .normal=>rW hp nm n r aY xn.heap none k
                | .ret=>rW hp nm n r aY xn.heap (some .ret) k
                | .exit id=>rW hp nm n r aY xn.heap (some (.exit id)) k
                |_=>False))
              |_=>False)) else False)
def dY:Code->AS->(Exit->AS->Prop)->Prop
 | .skip,st,K=>K .normal st
 | .region _ ops draw,st,K=>K2 ctx ops draw st (K .normal)
 | .seq a b,st,K=>dY a st fun e st'=>match e with
  | .normal=>dY b st' K
  |e=>K e st'
 | .cond c x y,st,K=>match mg st.tmps c with
  | .v (.one (.raw (.bool t)))=>cB t (dY x st K) (dY y st K)
  |_=>False
 | .block id c,st,K=>match aF ctx.lp id with
  |some sp=>sp st K
  |none=>dY c st (mq id K)
 | .loop c,st,K=> ∃(I:Nat->AS->Prop),(∃m st',s8 st st'/\ I m st')/\ ∀m pO,I m pO->dY c pO fun e xn=>match e with
  | .normal=> ∃m' st',m'<m/\ s8 xn st'/\ I m' st'
  |e=>K e xn
 | .rangeFunc g ps assign body,st,K=>if kJ assign&&kJ body then match mg st.tmps g with
  | .v (.one (.kq (.func f) [] cap))=>match aF ctx.dc f with
   | some Jm=> ∀(r:Loop) (dH:Env),Jm [(st.heap.length,SL ctx.X st.heap.length st.tmps r dH ps (dY assign) (dY body))]
     (.v (.one (.zJ st.heap.length))::cap.map vW) (st.heap++ [.loop r .ready none,.de dH (st.heap.length+1)]) fun _ xn=>KE st.heap.length dH st.tmps xn.heap K
   |none=>False
  |_=>False else False
 | .exit id,st,K=>K (.exit id) st
 | .ret,st,K=>K .ret st
 |_,_,_=>False
def x7 (c:Code):Nat->cy
 |0,_,_=>False
 |n+1,st,K=>dY ctx c st fun e xn=>match e with
  | .normal=>x7 c n xn K
  |e=>K e xn
def Fx (st:AS):ResultVar->Option A0
 | .tmp t=>match dK st.tmps t with| .v a=>some a|_=>none
 | .cell t ty=>match dK st.tmps t,aF ctx.tt ty with
  | .v (.one (.ptr n off)),some i=>match aj st.heap n with
   |some (.cells cs _)=>if aE i.desc then (if off+i.size<=cs.length then some (.agg ((cs.drop off).take i.size)) else none)
    else (match cs[off]? with|some c=>some (.one c)|none=>none)
   |_=>none
  |_,_=>none
def xX (st:AS):List ResultVar->Option (List A0)
 | []=>some []
 |r::l=>match Fx ctx st r,xX st l with
  |some a,some b=>some (a::b)
  |_,_=>none
def MX (fn:Func) (st:AS) (R:AV->AS->Prop):Prop:=
 match xX ctx st fn.results.toList with
 |some [a]=>R (.v a) st
 |some l=>R (.oP l) st
 |none=>False
def ET (fn:Func) (args:List AV) (heap:List aG) (R:AV->AS->Prop):Prop:=
 match fn.body with
 |some c=>dY ctx c ⟨args++List.replicate (fn.ntmps- args.length) aW,heap⟩ fun e st=>match e with
  | .ret=>MX ctx fn st R
  | .normal=>MX ctx fn st R
  |_=>False
 |none=>False
end
end Go.Ev
