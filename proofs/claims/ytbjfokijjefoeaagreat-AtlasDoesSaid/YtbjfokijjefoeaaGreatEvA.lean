/- The abstract evaluator: values whose addresses are names, a small heap of named objects, and 'codeE', the condition under which a piece of code does what is asked. -/
import Derived.Below
import Derived.KernelRfl
noncomputable section
set_option linter.unusedSectionVars false
set_option linter.unusedVariables false
set_option linter.unusedSimpArgs false
namespace Go.Ev
inductive Ty
 |int (k:IntKind)
 |bool
 |str
 |prod (a b:Ty)
 |sl (t:Ty)
 deriving DecidableEq
@[reducible] def Ty.T:Ty->Type
 | .int _=>Int
 | .bool=>Bool
 | .str=>ByteArray
 | .prod a b=>a.T×b.T
 | .sl t=>List t.T
def Ty.d:(t:Ty)->t.T
 | .int _=>(0:Int)
 | .bool=>false
 | .str=>ByteArray.empty
 | .prod a b=>(a.d,b.d)
 | .sl t=>([]:List t.T)
def Ty.size:Ty->Nat
 | .prod a b=>a.size+b.size
 |_=>1
def Ty.flat:Ty->Bool
 | .prod a b=>a.flat&&b.flat
 | .sl _=>false
 |_=>true
def Ty.shallow:Ty->Bool
 | .prod a b=>a.shallow&&b.shallow
 | .sl t=>t.flat
 |_=>true
inductive ck
 |flat (v:Value)
 |sl (u:Ty) (l:List u.T)
def Ty.aJ:(t:Ty)->t.T->List ck
 | .int k,n=> [.flat (.int k n)]
 | .bool,b=> [.flat (.bool b)]
 | .str,s=> [.flat (.string s)]
 | .prod a b,x=>a.aJ x.1++b.aJ x.2
 | .sl u,l=> [.sl u l]
def aL:ck->Value
 | .flat v=>v
 | .sl _ _=> .slice none 0 0
def p8:(t:Ty)->t.T->t.T->Bool
 | .int _,x,y=>(x:Int)==y
 | .bool,x,y=>(x:Bool)==y
 | .str,x,y=>(x:ByteArray)==y
 | .prod a b,x,y=>p8 a x.1 y.1&&p8 b x.2 y.2
 | .sl _,_,_=>false
def cJ (a:Bool) (t:Ty) (x:t.T):Value:=match a with
 |true=> .agg ((t.aJ x).map aL).toArray
 |false=>match (t.aJ x).map aL with
  | [v]=>v
  |_=> .tuple #[]
def nW {k:Ty} {β:Type} :List (k.T×β)->k.T->Option β
 | [],_=>none
 |p::r,x=>match p8 k x p.1 with
  |true=>some p.2
  |false=>nW r x
def Yw {k:Ty} {β:Type} (l:List (k.T×β)) (x:k.T):Bool:=(nW l x).isSome
def fQ {k:Ty} {β:Type} (l:List (k.T×β)) (x:k.T) (z:β):β:=(nW l x).getD z
def kV {k:Ty} {β:Type} :List (k.T×β)->k.T->β->List (k.T×β)
 | [],x,y=> [(x,y)]
 |p::r,x,y=>match p8 k x p.1 with
  |true=>(x,y)::r
  |false=>p::kV r x y
def gd (t:Ty) (l:List t.T) (j:Nat):t.T:=l.getD j t.d
def kG (t u:Ty) (l:List t.T):Option (List u.T):=if h:t=u then some (h▸l) else none
inductive Ref
 |ext (v:Value)
 |loc (n off:Nat)
 |elem (n j:Nat)
 |full (n:Nat)
 |mp (n:Nat)
inductive Cell
 |raw (v:Value)
 |ptr (n off:Nat)
 |nS (n off:Nat)
 |sl (n off len cap:Nat)
 |full (n:Nat)
 |bD (n j k:Nat)
 |fK (n j k:Nat)
 |mB (f:Fn) (first:List Value) (cap:List Ref)
 |Cz (n:Nat)
 |mp (n:Nat)
 |mv (f:FuncId) (agg:Bool) (rs:List Ref)
inductive A0
 |one (c:Cell)
 |agg (cs:List Cell)
inductive AV
 |v (a:A0)
 |r7 (l:List A0)
 |dead
structure sZ where
 key:Sigma Ty.T
 bq:Option Nat
 base:Option Addr
 len:Nat
 cap:Nat
 es:Nat
 vals:List Value
structure Loc where
 bq:Option Nat:=none
 base:Option Addr:=none
 len:Nat:=0
 cap:Nat:=0
 es:Nat:=1
 bW:List sZ:= []
abbrev Env:=Nat->Loc
inductive aI
 |cells (cs:List Cell) (e:TypeId)
 |row (t:Ty) (l:List t.T) (rk:Nat)
 |alias (n s:Nat) (q:Option Nat)
 |gone
 |loop (r:Loop) (s:LoopState) (j:Option Code)
 |gU (ρ:Env) (n:Nat)
 |cK (S:Nat->Prop)
 |map (ka va:Bool) (k v:Ty) (l:List (k.T×v.T))
 |oQ (ka:Bool) (k u:Ty) (l:List (k.T×List u.T)) (c:Nat) (q:Option k.T)
 |set (n:Nat)
 |gv (n c:Nat) (k u:Ty) (x:k.T) (l:List u.T)
 |rc (cs:List Cell)
 |hmap (es:Array MapEntry) (dI:Nat)
 |xq (n c:Nat) (es:Array MapEntry) (dI:Nat) (ka:Bool) (k u:Ty) (l:List (k.T×List u.T)) (cur:Option (k.T×Nat))
 |dp (t:Ty) (l:List t.T) (c:Nat) (st kn:Bool)
 |nv (n c j q:Nat) (u:Ty)
def addrOf (ρ:Env) (n off:Nat):Option Addr:=(ρ n).bq.map fun b=> {block:=b,off:=off,spot:=none}
def Ref.af (ρ:Env):Ref->Value
 | .ext v=>v
 | .loc n off=> .pointer (addrOf ρ n off)
 | .elem n j=> .pointer ((ρ n).base.map (·.add (j*(ρ n).es+0)))
 | .full n=> .slice (ρ n).base (ρ n).len (ρ n).cap
 | .mp n=> .map (ρ n).bq
def Uu (agg:Bool) (vs:List Value):Value:=match agg with
 |true=> .agg vs.toArray
 |false=>match vs with
  | [v]=>v
  |_=> .tuple #[]
def Cell.af (ρ:Env):Cell->Value
 | .raw v=>v
 | .ptr n off=> .pointer (addrOf ρ n off)
 | .nS n off=> .pointer (addrOf ρ n off)
 | .sl n off len cap=> .slice (addrOf ρ n off) len cap
 | .full n=> .slice (ρ n).base (ρ n).len (ρ n).cap
 | .bD n j k=> .pointer ((ρ n).base.map (·.add (j*(ρ n).es+k)))
 | .fK n j k=> .pointer ((ρ n).base.map (·.add (j*(ρ n).es+k)))
 | .mB f first cap=> .func f first.toArray (cap.map (Ref.af ρ)).toArray
 | .Cz n=>match (ρ n).bq with
  |some l=> .func (.yield l) #[] #[]
  |none=> .nilFunc
 | .mp n=> .map (ρ n).bq
 | .mv f agg rs=> .func (.func f) #[Uu agg (rs.map (Ref.af ρ))] #[]
def A0.af (ρ:Env):A0->Value
 | .one c=>c.af ρ
 | .agg cs=> .agg (cs.map (Cell.af ρ)).toArray
def AV.af (ρ:Env):AV->Value
 | .v a=>a.af ρ
 | .r7 l=> .tuple (l.map (A0.af ρ)).toArray
 | .dead=> .tuple #[]
def Ref.ok (Kn:Nat->Prop):Ref->Prop
 | .ext _=>True
 | .loc n _=>Kn n
 | .elem n _=>Kn n
 | .full n=>Kn n
 | .mp n=>Kn n
def Cell.ok (Kn:Nat->Prop):Cell->Prop
 | .raw _=>True
 | .ptr n _=>Kn n
 | .nS n _=>Kn n
 | .sl n _ _ _=>Kn n
 | .full n=>Kn n
 | .bD n _ _=>Kn n
 | .fK n _ _=>Kn n
 | .mB _ _ cap=> ∀r∈cap,r.ok Kn
 | .Cz n=>Kn n
 | .mp n=>Kn n
 | .mv _ _ rs=> ∀r∈rs,r.ok Kn
def A0.ok (Kn:Nat->Prop):A0->Prop
 | .one c=>c.ok Kn
 | .agg cs=> ∀c∈cs,c.ok Kn
def AV.ok (Kn:Nat->Prop):AV->Prop
 | .v a=>a.ok Kn
 | .r7 l=> ∀a∈l,a.ok Kn
 | .dead=>True
def aI.ok (Kn:Nat->Prop):aI->Prop
 | .cells cs _=> ∀c∈cs,c.ok Kn
 | .row _ _ _=>True
 | .alias n _ _=>Kn n
 | .gone=>True
 | .loop _ _ _=>True
 | .gU _ n=> ∀m,m<n->Kn m
 | .cK _=>True
 | .map _ _ _ _ _=>True
 | .oQ _ _ _ _ c _=>Kn c
 | .set n=>Kn n
 | .gv n c _ _ _ _=>Kn n/\ Kn c
 | .rc cs=> ∀c∈cs,c.ok Kn
 | .hmap _ _=>True
 | .xq n c _ _ _ _ _ _ cur=>Kn n/\ Kn c/\ ∀p,cur=some p->Kn p.2
 | .dp _ _ c _ _=>Kn c
 | .nv n c _ _ _=>Kn n/\ Kn c
def aX:AV:= .r7 []
def Zp:Value->A0
 | .agg cs=> .agg (cs.toList.map .raw)
 |v=> .one (.raw v)
def ofV (v:Value):AV:= .v (Zp v)
def wh:Value->Bool
 | .agg _=>false
 | .tuple _=>false
 |_=>true
def Cell.one:Cell->Bool
 | .raw v=>wh v
 |_=>true
def A0.cells:A0->Option (List Cell)
 | .one c=>if c.one then some [c] else none
 | .agg cs=>some cs
def AV.cells:AV->Option (List Cell)
 | .v a=>a.cells
 | .r7 _=>none
 | .dead=>none
def AV.YW:AV->Bool
 | .dead=>true
 |_=>false
def pV:List Cell->Bool
 | []=>true
 |c::r=>if c.one then pV r else false
structure Rec where
 val:AV
 fresh:List aI:= []
 writes:List (Nat×aI):= []
 aC:List Nat:= []
structure TI where
 desc:TypeDesc
 size:Nat
 bytes:Nat
 zero:Value
 ty:Option Ty
def cB (b:Bool) (p q:Prop):Prop:=match b with|true=>p|false=>q
def ob (b:Bool) (p:Prop):Prop:=match b with|true=>p|false=>False
def aG {α:Type _} :List (Nat×α)->Nat->Option α
 | [],_=>none
 |(k,a)::r,n=>if k=n then some a else aG r n
def aF:TypeDesc->Bool
 | .struct _=>true
 | .array _ _=>true
 |_=>false
def dM:List AV->Nat->AV
 | [],_=>aX
 |a::_,0=>a
 |_::r,n+1=>dM r n
abbrev HP:=Nat->Option aI
abbrev Spec:=(Addr->Value->Prop)->List AV->HP->Nat->(Rec->Prop)->Prop
structure AS where
 tmps:List AV
 heap:List aI
abbrev jM:=List (Nat×Spec)->List AV->List aI->(AV->AS->Prop)->Prop
abbrev bR:=AS->(Exit->AS->Prop)->Prop
structure Ctx where
 tt:List (Nat×TI)
 specs:List (Nat×Spec)
 X:Addr->Value->Prop
 lp:List (Nat×bR):= []
 ys:List (Nat×Spec):= []
 dL:List (Nat×jM):= []
def oP (tmps:List AV):Operand->AV
 | .tmp t=>dM tmps t
 | .const v=>ofV v
 | .global g=> .v (.one (.raw (.pointer (some {block:=g,off:=0,spot:=none}))))
 | .func f=> .v (.one (.mB (.func f) [] []))
def setCells {α:Type} :List α->Nat->List α->List α
 |cs,_,[]=>cs
 |cs,off,c::r=>setCells (cs.set off c) (off+1) r
def yq (place:Nat->Option (Nat×Nat)) (ev:Operand->AV):List Cell->List (Nat×Operand)->Option (List Cell)
 |cs,[]=>some cs
 |cs,(i,x)::r=>match place i,(ev x).cells with
  |some (off,size),some xs=>if xs.length=size then (if off+size<=cs.length then yq place ev (setCells cs off xs) r else none) else none
  |_,_=>none
def qO (d:TypeDesc) (cs:List Cell):Option AV:=
 if aF d then some (.v (.agg cs)) else match cs with
  | [c]=>some (.v (.one c))
  |_=>none
def gA (k:IntKind) (n:Int):AV:= .v (.one (.raw (.int k n)))
def cl (b:Bool):AV:= .v (.one (.raw (.bool b)))
def OP:Operand->Bool
 | .const _=>true
 |_=>false
def RM (op:BinOp) (kk:IntKind) (a b:Int) (k:Rec->Prop):Prop:=
 match op with
 | .add=>k {val:=gA kk (kk.wrap (a+b))}
 | .sub=>k {val:=gA kk (kk.wrap (a- b))}
 | .mul=>k {val:=gA kk (kk.wrap (a*b))}
 | .quo=>ob (decide (b≠0)) (k {val:=gA kk (kk.wrap (a.tdiv b))})
 | .rem=>ob (decide (b≠0)) (k {val:=gA kk (a.tmod b)})
 | .eql=>k {val:=cl (a==b)}
 | .neq=>k {val:=cl (a !=b)}
 | .lss=>k {val:=cl (decide (a<b))}
 | .leq=>k {val:=cl (decide (a<=b))}
 | .gtr=>k {val:=cl (decide (a>b))}
 | .geq=>k {val:=cl (decide (a>=b))}
 | .and=>k {val:=gA kk (kk.wrap ((BitVec.ofInt kk.bits a&&&BitVec.ofInt kk.bits b).toNat))}
 | .or=>k {val:=gA kk (kk.wrap ((BitVec.ofInt kk.bits a|||BitVec.ofInt kk.bits b).toNat))}
 | .xor=>k {val:=gA kk (kk.wrap ((BitVec.ofInt kk.bits a^^^BitVec.ofInt kk.bits b).toNat))}
 | .andNot=>k {val:=gA kk (kk.wrap ((BitVec.ofInt kk.bits a&&& ~~~ BitVec.ofInt kk.bits b).toNat))}
 |_=>False
def eqFields (tt:List (Nat×TI)) (eq:TypeId->List Cell->List Cell->Option Bool):List Field->List Cell->List Cell->Option Bool
 | [],_,_=>some true
 |f::r,xs,ys=>match aG tt f.type with
  |none=>none
  |some fi=>if f.name= "_" then none else
   match eq f.type ((xs.drop f.offset).take fi.size) ((ys.drop f.offset).take fi.size),eqFields tt eq r xs ys with
   |some a,some b=>some (a&&b)
   |_,_=>none
def Aq (eq:TypeId->List Cell->List Cell->Option Bool) (e s:Nat):Nat->Nat->List Cell->List Cell->Option Bool
 |0,_,_,_=>some true
 |n+1,i,xs,ys=>match eq e ((xs.drop (i*s)).take s) ((ys.drop (i*s)).take s),Aq eq e s n (i+1) xs ys with
  |some a,some b=>some (a&&b)
  |_,_=>none
def Vz (tt:List (Nat×TI)):Nat->TypeId->List Cell->List Cell->Option Bool
 |0,_,_,_=>none
 |d+1,t,xs,ys=>match aG tt t with
  |none=>none
  |some i=>match i.desc with
   | .int _=>match xs,ys with
    | [.raw (.int k a)],[.raw (.int k' b)]=>if k=k' then some (a==b) else none
    |_,_=>none
   | .bool=>match xs,ys with
    | [.raw (.bool a)],[.raw (.bool b)]=>some (a==b)
    |_,_=>none
   | .string=>match xs,ys with
    | [.raw (.string a)],[.raw (.string b)]=>some (a==b)
    |_,_=>none
   | .struct fs=>eqFields tt (Vz tt d) fs.toList xs ys
   | .array n e=>match aG tt e with
    |some ei=>Aq (Vz tt d) e ei.size n 0 xs ys
    |none=>none
   |_=>none
def fg (nm:Nat):List ck->List Cell×List aI
 | []=>([],[])
 | .flat v::r=>match fg nm r with|(cs,os)=>(.raw v::cs,os)
 | .sl u l::r=>match fg (nm+1) r with|(cs,os)=>(.full nm::cs,.row u l 0::os)
def bI (t:Ty) (l:List t.T) (j k size:Nat):List ck:=((t.aJ (gd t l j)).drop k).take size
def jx:(t:Ty)->List ck->Option (t.T×List ck)
 | .int k,cs=>match cs with
  | .flat (.int k' n)::r=>if k=k' then some (n,r) else none
  |_=>none
 | .bool,cs=>match cs with
  | .flat (.bool b)::r=>some (b,r)
  |_=>none
 | .str,cs=>match cs with
  | .flat (.string s)::r=>some (s,r)
  |_=>none
 | .prod a b,cs=>match jx a cs with
  |some (x,r)=>match jx b r with
   |some (y,r')=>some ((x,y),r')
   |none=>none
  |none=>none
 | .sl u,cs=>match cs with
  | .sl u' l::r=>match kG u' u l with
   |some l'=>some (l',r)
   |none=>none
  |_=>none
def fO:List Cell->Option (List ck)
 | []=>some []
 | .raw v::r=>match v with
  | .int _ _=>(fO r).map (.flat v:: ·)
  | .bool _=>(fO r).map (.flat v:: ·)
  | .string _=>(fO r).map (.flat v:: ·)
  |_=>none
 |_=>none
def fF (n s:Nat):Option Nat->Nat
 |some m=>min m (n- s)
 |none=>n- s
def n5 {α:Type} (l:List α) (s:Nat):Option Nat->List α
 |none=>l.drop s
 |some m=>(l.drop s).take m
def ahx (dec:List Cell->Option (List ck×List Nat×List Nat)) (size:Nat) (u:Ty):Nat->List Cell->Option (List u.T×List Nat×List Nat)
 |0,_=>some ([],[],[])
 |n+1,cs=>match dec (cs.take size) with
  |some (ps,tc,ab)=>match jx u ps with
   |some (x,[])=>match ahx dec size u n (cs.drop size) with
    |some (l,zZ,ab')=>some (x::l,tc++zZ,ab++ab')
    |none=>none
   |_=>none
  |none=>none
def yd {α:Type} (dec:List Cell->Option (α×List Cell×List Nat)):Nat->List Cell->Option (List α×List Nat)
 |0,_=>some ([],[])
 |n+1,cs=>match dec cs with
  |some (x,r,tc)=>match yd dec n r with
   |some (l,zZ)=>some (x::l,tc++zZ)
   |none=>none
  |none=>none
def b7 (hp:HP):(t:Ty)->List Cell->Option (t.T×List Cell×List Nat)
 | .int k,cs=>match cs with
  | .raw (.int k' n)::r=>if k=k' then some (n,r,[]) else none
  |_=>none
 | .bool,cs=>match cs with
  | .raw (.bool b)::r=>some (b,r,[])
  |_=>none
 | .str,cs=>match cs with
  | .raw (.string s)::r=>some (s,r,[])
  |_=>none
 | .prod a b,cs=>match b7 hp a cs with
  |some (x,r,tc)=>match b7 hp b r with
   |some (y,r',zZ)=>some ((x,y),r',tc++zZ)
   |none=>none
  |none=>none
 | .sl u,cs=>match cs with
  | .raw (.slice none 0 _)::r=>some (([]:List u.T),r,[])
  | .full n::r=>match hp n with
   |some (.row t l _)=>match kG t u l with
    |some l'=>some (l',r,[n])
    |none=>none
   |some (.alias m s q)=>match hp m with
    |some (.row t l _)=>match kG t u l with
     |some l'=>some (n5 l' s q,r,[n,m])
     |none=>none
    |_=>none
   |some (.dp t l c _ kn)=>match kn,hp c with
    |true,some (.set _)=>match kG t u l with
     |some l'=>some (l',r,[n,c])
     |none=>none
    |_,_=>none
   |_=>none
  | .sl n off len cap::r=>if u.shallow&&decide (len<=cap) then (match hp n with
   |some (.cells cs _)=>match yd (b7 hp u) len (cs.drop off) with
    |some (l,tc)=>some (l,r,n::tc)
    |none=>none
   |_=>none) else none
  |_=>none
def zH (hp:HP):Ty->List Cell->Option (List Nat×Bool×List Cell)
 | .prod a b,cs=>match zH hp a cs with
  |some (ns,f,r)=>match zH hp b r with
   |some (ns',f',r')=>some (ns++ns',f&&f',r')
   |none=>none
  |none=>none
 | .sl u,cs=>if u.flat then (match cs with
  | .raw (.slice none 0 _)::r=>some ([],true,r)
  | .full n::r=>match hp n with
   |some (.row _ _ rk)=>if rk=0 then some ([],false,r) else some ([n],true,r)
   |some (.alias m _ _)=>match hp m with
    |some (.row _ _ rk)=>if rk=0 then some ([],false,r) else none
    |_=>none
   |_=>none
  | .sl n _ _ _::r=>match hp n with
   |some (.cells _ _)=>some ([n],true,r)
   |_=>none
  |_=>none) else none
 |_,cs=>match cs with
  |_::r=>some ([],true,r)
  | []=>none
def Sb (hp:HP) (u:Ty):Nat->List Cell->Option (List Nat×Bool)
 |0,_=>some ([],true)
 |n+1,cs=>match zH hp u cs with
  |some (ns,f,r)=>match Sb hp u n r with
   |some (ns',f')=>some (ns++ns',f&&f')
   |none=>none
  |none=>none
def ja:List Cell->Option (List Int)
 | []=>some []
 | .raw (.int .i64 n)::r=>match ja r with
  |some l=>some (n::l)
  |none=>none
 |_=>none
def sv:List ck->Option (List Int)
 | []=>some []
 | .flat (.int .i64 n)::r=>match sv r with
  |some l=>some (n::l)
  |none=>none
 |_=>none
def RQ:Ty->Bool
 | .int .i64=>true
 | .prod a b=>RQ a&&RQ b
 |_=>false
def acp (hp:Nat->Option aI) (n:Nat):Bool:=match hp n with
 |some (.row t _ _)=>RQ t
 |_=>false
def zM (off:Nat) (y:Int):Nat->List Int->List Int
 |_,[]=> []
 |q,n::r=>(bif Nat.beq off q then y else n)::zM off y (q+1) r
def tM (off:Nat):List Int->List Int->List Int
 | [],ns=>ns
 |y::r,ns=>tM (off+1) r (zM off y 0 ns)
def ry (ns:List Int) (off:Nat):Nat->List Cell
 |0=> []
 |m+1=> .raw (.int .i64 (ns.getD off 0))::ry ns (off+1) m
def aq (h:List aI) (n:Nat):Option aI:=match h[n]? with
 |some .gone=>none
 |o=>o
def lA (hp:HP):Nat->List aI
 |0=> []
 |n+1=>lA hp n++ [match hp n with|some o=>o|none=> .gone]
def MQ (hp:HP) (h:List aI):Nat->List (Nat×aI)
 |0=> []
 |n+1=>match hp n with
  |some _=>MQ hp h n++ [(n,match h[n]? with|some o=>o|none=> .gone)]
  |none=>MQ hp h n
def An (hp:HP) (nm:Nat) (h:List aI) (v:AV):Rec:= {val:=v,fresh:=(h.set nm .gone).drop nm,writes:=MQ hp h nm,aC:=List.range nm}
def DW (o:Option aI) (ρ:Env) (n:Nat) (K:Prop):Prop:=match o with
 |some (.gU ρ' n')=>ρ'=ρ/\ n'=n/\ K
 |_=>False
section
variable (ctx:Ctx)
def OV (i:TI) (cs:List Cell) (n off:Nat) (k:Rec->Prop):Prop:=
 if aF i.desc then (if off+i.size<=cs.length then k {val:= .v (.agg ((cs.drop off).take i.size)),aC:= [n]} else False)
 else match cs[off]? with
  |some c=>k {val:= .v (.one c),aC:= [n]}
  |none=>False
def yA (i:TI) (x:AV) (hp:HP) (nm:Nat) (k:Rec->Prop):Prop:=
 match x with
 | .v (.one (.ptr n off))=>match hp n with
  |some (.cells cs _)=>OV i cs n off k
  |_=>False
 | .v (.one (.nS n off))=>match hp n with
  |some (.cells cs _)=>match ja cs with
   |some ns=>ob (decide (off+i.size<=cs.length)) (match qO i.desc (ry ns off i.size) with
    |some v=>k {val:=v,aC:= [n]}
    |none=>False)
   |none=>False
  |_=>False
 | .v (.one (.bD n j q))=>match hp n with
  |some (.row t l _)=>if q+i.size<=t.size then ob (decide (j<l.length)) (match fg nm (bI t l j q i.size) with
   |(cs,os)=>match qO i.desc cs with
    |some v=>k {val:=v,fresh:=os,aC:= [n]}
    |none=>False) else False
  |some (.gv _ c _ t _ l)=>match hp c with
   |some (.set _)=>if q+i.size<=t.size then ob (decide (j<l.length)) (match fg nm (bI t l j q i.size) with
    |(cs,_)=>match qO i.desc cs with
     |some v=>k {val:=v,aC:= [n,c]}
     |none=>False) else False
   |_=>False
  |some (.rc cs)=>if j=0 then OV i cs n q k else False
  |_=>False
 | .v (.one (.fK n j q))=>match hp n with
  |some (.row t l _)=>match sv (t.aJ (gd t l j)) with
   |some ns=>ob (decide (q+i.size<=t.size)) (ob (decide (j<l.length)) (match qO i.desc (ry ns q i.size) with
    |some v=>k {val:=v,aC:= [n]}
    |none=>False))
   |none=>False
  |_=>False
 |_=>False
def Tp (t:Ty) (l:List t.T) (rk n j q:Nat) (ys:List Cell) (hp:HP) (k:Rec->Prop):Prop:=match ys with
 | [.full m]=>match hp m with
  |some (.row u lm rm)=>if rm=0\/ rk=3\/ m=n\/ u.flat=false\/ t.size<q+1 then False else (match jx t (setCells (t.aJ (gd t l j)) q [.sl u lm]) with
   |some (x',[])=>ob (decide (j<l.length)) (True/\ ∀l',l'=l.set j x'->k {val:=aX,writes:= [(n,.row t l' rk),(m,.gone)],aC:= [n,m]})
   |_=>False)
  |_=>False
 |_=>False
def rW (i:TI) (x y:AV) (hp:HP) (k:Rec->Prop):Prop:=
 match x,y.cells with
 | .v (.one (.ptr n off)),some ys=>if ys.length=i.size then (if pV ys then
   match hp n with
   |some (.cells cs e)=>if off+ys.length<=cs.length then k {val:=aX,writes:= [(n,.cells (setCells cs off ys) e)],aC:= [n]} else False
   |_=>False
   else False) else False
 | .v (.one (.nS n off)),some ys=>if ys.length=i.size then (match hp n with
   |some (.cells cs e)=>match ja cs,ja ys with
    |some ns,some ms=>ob (decide (off+ys.length<=cs.length)) (k {val:=aX,writes:= [(n,.cells ((tM off ms ns).map fun q=> .raw (.int .i64 q)) e)],aC:= [n]})
    |_,_=>False
   |_=>False) else False
 | .v (.one (.bD n j q)),some ys=>if ys.length=i.size then (match hp n with
   |some (.row t l rk)=>if rk=0\/ rk=3 then False else match fO ys with
    |some ps=>if q+ps.length<=t.size then (match jx t (setCells (t.aJ (gd t l j)) q ps) with
     |some (x',[])=>ob (decide (j<l.length)) (True/\ ∀l',l'=l.set j x'->k {val:=aX,writes:= [(n,.row t l' rk)],aC:= [n]})
     |_=>False) else False
    |none=>Tp t l rk n j q ys hp k
   |_=>False) else False
 | .v (.one (.fK n j q)),some ys=>if ys.length=i.size then (match hp n with
   |some (.row t l rk)=>if rk=0\/ rk=3 then False else match ja ys,sv (t.aJ (gd t l j)) with
    |some ms,some ns=>(match jx t ((tM q ms ns).map fun m=> .flat (.int .i64 m)) with
     |some (x',[])=>ob (decide (q+ys.length<=t.size)) (ob (decide (j<l.length)) (True/\ ∀l',l'=l.set j x'->k {val:=aX,writes:= [(n,.row t l' rk)],aC:= [n]}))
     |_=>False)
    |_,_=>False
   |_=>False) else False
 |_,_=>False
def jt (v:Value):List Cell:=v.cells.toList.map .raw
def Sh (fs:Array Field) (j:Nat):Option (Nat×Nat):=match fs[j]? with
 |some f=>(match aG ctx.tt f.type with|some fi=>some (f.offset,fi.size)|none=>none)
 |none=>none
def Q0 (i:TI) (parts:List (Nat×Operand)) (ev:Operand->AV) (k:Rec->Prop):Prop:=
 match i.desc with
 | .struct fs=>if fs.toList.all (fun f=>(aG ctx.tt f.type).isSome) then
   match yq (Sh ctx fs) ev (jt i.zero) parts with
   |some cs=>k {val:= .v (.agg cs)}
   |none=>False
   else False
 | .array _ e=>match aG ctx.tt e with
  |some ei=>match yq (fun j=>some (j*ei.size,ei.size)) ev (jt i.zero) parts with
   |some cs=>k {val:= .v (.agg cs)}
   |none=>False
  |none=>False
 |_=>False
def vv (i:TI) (len:Nat) (parts:List (Nat×Operand)) (ev:Operand->AV) (nm:Nat) (k:Rec->Prop):Prop:=
 match i.desc with
 | .slice e=>match aG ctx.tt e with
  |some ei=>if len*ei.size>2^24 then False else if len*ei.size=0 then False else
   match yq (fun j=>some (j*ei.size,ei.size)) ev ((List.range (len*ei.size)).map fun j=> .raw (ei.zero.cells[j % ei.zero.cells.size]!)) parts with
   |some cs=>k {val:= .v (.one (.sl nm 0 len len)),fresh:= [.cells cs e]}
   |none=>False
  |none=>False
 |_=>False
def mw (hp:HP) (n:Nat) (k:Prop):Prop:=match hp n with
 |some (.cells _ _)=>k
 |_=>False
def my (hp:HP) (n j:Nat) (k:Ty->Prop):Prop:=match hp n with
 |some (.row t l _)=>ob (decide (j<l.length)) (k t)
 |some (.gv _ _ _ t _ l)=>ob (decide (j<l.length)) (k t)
 |some (.dp t l _ _ _)=>ob (decide (j<l.length)) (k t)
 |_=>False
def Y1 (hp:HP) (n:Nat):Bool:=match hp n with
 |some (.rc (_::_))=>true
 |_=>false
def Dv (hp:HP) (p:Nat) (k:(n:Nat)->Option Nat->Option Nat->Nat->List Nat->Prop):Prop:=match hp p with
 |some (.row _ l _)=>k p none none l.length [p]
 |some (.gv _ _ _ _ _ l)=>k p none none l.length [p]
 |some (.dp _ l _ _ _)=>k p none none l.length [p]
 |some (.alias n s q)=>match hp n with
  |some (.row _ l _)=>k n (some s) q (fF l.length s q) [p,n]
  |_=>False
 |_=>False
def gZ:Option Nat->Nat->Nat
 |none,j=>j
 |some s,j=>s+j
def zm (i:TI) (x:AV) (f:Nat) (hp:HP) (k:Rec->Prop):Prop:=
 match i.desc with
 | .struct fs=>match fs[f]? with
  |some fd=>match aG ctx.tt fd.type with
   |some fi=>if fi.size=0 then False else match x with
    | .v (.one (.ptr n off))=>mw hp n (k {val:= .v (.one (.ptr n (off+fd.offset))),aC:= [n]})
    | .v (.one (.nS n off))=>mw hp n (k {val:= .v (.one (.nS n (off+fd.offset))),aC:= [n]})
    | .v (.one (.bD n j q))=>(match Y1 hp n with
     |true=>k {val:= .v (.one (.bD n j (q+fd.offset))),aC:= [n]}
     |false=>my hp n j fun _=>k {val:= .v (.one (.bD n j (q+fd.offset))),aC:= [n]})
    | .v (.one (.fK n j q))=>my hp n j fun _=>k {val:= .v (.one (.fK n j (q+fd.offset))),aC:= [n]}
    |_=>False
   |none=>False
  |none=>False
 |_=>False
def K2 (i:TI) (cs:List Cell) (off:Nat) (k:Rec->Prop):Prop:=
 if aF i.desc then (if off+i.size<=cs.length then k {val:= .v (.agg ((cs.drop off).take i.size))} else False)
 else match cs[off]? with
  |some c=>k {val:= .v (.one c)}
  |none=>False
def Rh (i:TI) (x:AV) (f:Nat) (k:Rec->Prop):Prop:=
 match i.desc,x with
 | .struct fs,.v (.agg cs)=>match fs[f]? with
  |some fd=>match aG ctx.tt fd.type with
   |some fi=>K2 fi cs fd.offset k
   |none=>False
  |none=>False
 |_,_=>False
def YY (hp:HP) (n:Nat):Bool:=match hp n with
 |some (.cells cs _)=>(ja cs).isSome
 |_=>false
def XE (j:Int) (n:Nat):Bool:=decide (0<=j)&&decide (j<(n:Int))
def zv (i:TI) (x ix:AV) (lit:Bool) (hp:HP) (k:Rec->Prop):Prop:=
 match ix with
 | .v (.one (.raw (.int _ j)))=>match i.desc with
  | .array n e=>match aG ctx.tt e with
   |some ei=>match x with
    | .v (.one (.ptr m off))=>ob (XE j n) (mw hp m (if !lit&&YY hp m then k {val:= .v (.one (.nS m (off+j.toNat*ei.size))),aC:= [m]} else k {val:= .v (.one (.ptr m (off+j.toNat*ei.size))),aC:= [m]}))
    | .v (.one (.nS m off))=>ob (XE j n) (mw hp m (k {val:= .v (.one (.nS m (off+j.toNat*ei.size))),aC:= [m]}))
    | .v (.one (.bD m jj q))=>ob (XE j n) (my hp m jj fun _=>if !lit&&acp hp m then k {val:= .v (.one (.fK m jj (q+j.toNat*ei.size))),aC:= [m]} else k {val:= .v (.one (.bD m jj (q+j.toNat*ei.size))),aC:= [m]})
    | .v (.one (.fK m jj q))=>ob (XE j n) (my hp m jj fun _=>k {val:= .v (.one (.fK m jj (q+j.toNat*ei.size))),aC:= [m]})
    |_=>False
   |none=>False
  | .slice e=>match aG ctx.tt e with
   |some ei=>match x with
    | .v (.one (.sl m off len _))=>ob (XE j len) (mw hp m (if Nat.beq len 1 then k {val:= .v (.one (.ptr m off)),aC:= [m]} else if !lit&&YY hp m then k {val:= .v (.one (.nS m (off+j.toNat*ei.size))),aC:= [m]} else k {val:= .v (.one (.ptr m (off+j.toNat*ei.size))),aC:= [m]}))
    | .v (.one (.full p))=>Dv hp p fun m s _ len tc=>ob (XE j len) (my hp m (gZ s j.toNat) fun t=>if ei.size=t.size then k {val:= .v (.one (.bD m (gZ s j.toNat) 0)),aC:=tc} else False)
    | .v (.one (.raw (.slice none 0 _)))=>ob (XE j 0) False
    |_=>False
   |none=>False
  |_=>False
 |_=>False
def RH (i:TI) (x ix:AV) (lit:Bool) (k:Rec->Prop):Prop:=
 match ix with
 | .v (.one (.raw (.int _ j)))=>match i.desc,x with
  | .array n e,.v (.agg cs)=>match aG ctx.tt e with
   |some ei=>ob (XE j n) (if lit then K2 ei cs (j.toNat*ei.size) k else match ja cs with
    |some ns=>if cs.length=n*ei.size then (match qO ei.desc (ry ns (j.toNat*ei.size) ei.size) with
     |some v=>k {val:=v}
     |none=>False) else False
    |none=>K2 ei cs (j.toNat*ei.size) k)
   |none=>False
  | .string,.v (.one (.raw (.string s)))=>ob (XE j s.size) (k {val:=gA .u8 (s.get! j.toNat).toNat})
  |_,_=>False
 |_=>False
def vg (b:Option AV) (top dflt:Nat) (k:Nat->Prop):Prop:=
 match b with
 |none=>k dflt
 |some (.v (.one (.raw (.int _ j))))=>ob (decide (0<=j)&&decide (j<=(top:Int))) (k j.toNat)
 |_=>False
def TB (hp:HP) (n es:Nat) (k:Prop):Prop:=match hp n with
 |some (.row t _ _)=>if es=t.size then k else False
 |_=>False
def NQ (hp:HP) (p:Nat):Option (List Int):=match hp p with
 |some (.row (.int .i64) l 3)=>some l
 |_=>none
def S9 (i:TI) (x:AV) (lo hi mx:Option AV) (hp:HP) (nm:Nat) (k:Rec->Prop):Prop:=
 match i.desc with
 | .array n e=>match aG ctx.tt e,x,mx with
  | some ei,.v (.one (.ptr m off)),none=>vg hi n n fun h=>vg lo h 0 fun l=>
    mw hp m (k {val:= .v (.one (.sl m (if n=l then off else off+l*ei.size) (h- l) (n- l))),aC:= [m]})
  |_,_,_=>False
 | .slice e=>match aG ctx.tt e,x with
  | some ei,.v (.one (.sl m off len cap))=>vg mx cap cap fun c=>vg hi (if mx.isSome then c else cap) len fun h=>vg lo h 0 fun l=>
    if mx.isSome&&hi.isNone then False else k {val:= .v (.one (.sl m (if c=l then off else off+l*ei.size) (h- l) (c- l)))}
  |some ei,.v (.one (.full p))=>Dv hp p fun m s q len tc=>TB hp m ei.size (match mx with
   |none=>match hi with
    |none=>match NQ hp p with
     |some l0=>vg lo l0.length 0 fun j=>k {val:= .v (.one (.full nm)),fresh:= [.row (.int .i64) (l0.drop j) 3],writes:= [(p,.gone)],aC:= [p]}
     |none=>vg lo len 0 fun l=>k {val:= .v (.one (.full nm)),fresh:= [.alias m (gZ s l) (q.map fun _=>len- l)],aC:=tc}
    |some _=>vg hi len len fun h=>vg lo h 0 fun l=>k {val:= .v (.one (.full nm)),fresh:= [.alias m (gZ s l) (some (h- l))],aC:=tc}
   |some _=>vg mx len len fun c=>vg hi c 0 fun h=>vg lo h 0 fun l=>if hi.isNone then False else k {val:= .v (.one (.full nm)),fresh:= [.alias m (gZ s l) (some (h- l))],aC:=tc})
  |some _,.v (.one (.raw (.slice none 0 c)))=>match mx with
   |none=>vg hi 0 0 fun h=>vg lo h 0 fun l=>if h=0/\ l=0/\ c=0 then k {val:= .v (.one (.raw (.slice none 0 0)))} else False
   |some _=>False
  |_,_=>False
 | .string=>match x,mx with
  | .v (.one (.raw (.string s))),none=>vg hi s.size s.size fun h=>vg lo h 0 fun l=>k {val:= .v (.one (.raw (.string (s.extract l h))))}
  |_,_=>False
 |_=>False
def z6:A0->Option Value
 | .one (.raw v)=>some v
 | .one _=>none
 | .agg cs=>(Ij cs).map fun l=> .agg l.toArray
where Ij:List Cell->Option (List Value)
 | []=>some []
 | .raw v::r=>(Ij r).map (v:: ·)
 |_::_=>none
def aaH:AV->Option Value
 | .v a=>z6 a
 |_=>none
def Jb:List AV->Option (List Value)
 | []=>some []
 |x::r=>match aaH x,Jb r with
  |some v,some l=>some (v::l)
  |_,_=>none
def aaI:AV->Option Ref
 | .v (.one (.ptr n off))=>some (.loc n off)
 | .v (.one (.bD n j 0))=>some (.elem n j)
 | .v (.one (.raw v))=>some (.ext v)
 | .v (.one (.full n))=>some (.full n)
 | .v (.one (.mp n))=>some (.mp n)
 |_=>none
def Jc:List AV->Option (List Ref)
 | []=>some []
 |x::r=>match aaI x,Jc r with
  |some v,some l=>some (v::l)
  |_,_=>none
def A6:Ref->AV
 | .ext v=>ofV v
 | .loc n off=> .v (.one (.ptr n off))
 | .elem n j=> .v (.one (.bD n j 0))
 | .full n=> .v (.one (.full n))
 | .mp n=> .v (.one (.mp n))
def Fo:Cell->Option Ref
 | .ptr n off=>some (.loc n off)
 | .bD n j 0=>some (.elem n j)
 | .raw v=>if wh v then some (.ext v) else none
 | .full n=>some (.full n)
 | .mp n=>some (.mp n)
 |_=>none
def vx:List Cell->Option (List Ref)
 | []=>some []
 |c::r=>match Fo c,vx r with
  |some x,some l=>some (x::l)
  |_,_=>none
def S3:AV->Option (Bool×List Ref)
 | .v (.agg cs)=>match vx cs with
  |some l=>some (true,l)
  |none=>none
 | .v (.one c)=>match Fo c with
  |some r=>some (false,[r])
  |none=>none
 |_=>none
def BD:Ref->Cell
 | .ext v=> .raw v
 | .loc n off=> .ptr n off
 | .elem n j=> .bD n j 0
 | .full n=> .full n
 | .mp n=> .mp n
def P3 (agg:Bool) (rs:List Ref):AV:=match agg with
 |true=> .v (.agg (rs.map BD))
 |false=>match rs with
  | [r]=> .v (.one (BD r))
  |_=> .r7 []
def tG (ev:Operand->AV):List Operand->List AV
 | []=> []
 |x::r=>ev x::tG ev r
def bG (x y:Int):Int:=if y<x then y else x
def bp (x y:Int):Int:=if y>x then y else x
def xm (f:Int->Int->Int):Int->List AV->Option Int
 |a,[]=>some a
 |a,.v (.one (.raw (.int _ b)))::r=>xm f (f a b) r
 |_,_=>none
def Fl (i:Option Ty) (x:AV) (hp:HP) (k:(t:Ty)->List t.T->Nat->List Nat->Prop):Prop:=
 match x with
 | .v (.one (.raw (.slice none 0 0)))=>match i with
  |some t=>k t [] 2 []
  |none=>False
 | .v (.one (.full n))=>match hp n with
  |some (.row t l rk)=>if rk=0 then False else k t l rk [n]
  |_=>False
 | .v (.one (.sl n _ 0 0))=>match i with
  |some t=>match hp n with
   |some (.cells _ _)=>k t [] 3 []
   |_=>False
  |none=>False
 |_=>False
def pX (rk:Nat) (f:Bool):Nat:=match f with
 |true=>rk
 |false=>match rk with
  |3=>3
  |_=>1
def kB:List Nat->Bool
 | []=>true
 |x::r=> !r.contains x&&kB r
def za (hp:HP) (t:Ty) (y:AV):Option (List Nat×Bool):=if t.flat then some ([],true) else
 match y with
 | .v (.one (.sl n off len _))=>match hp n with
  |some (.cells cs _)=>Sb hp t len (cs.drop off)
  |_=>none
 | .v (.one (.full n))=>match hp n with
  |some (.row _ _ rk)=>if rk=2 then some ([],true) else some ([],false)
  |some (.alias _ _ _)=>some ([],false)
  |_=>none
 | .v (.one (.raw (.slice none 0 _)))=>some ([],true)
 |_=>none
def Ag (x y:AV) (ei:TI) (hp:HP) (nm:Nat) (k:Rec->Prop):Prop:=
 Fl ei.ty x hp fun t l rk gone=>if ei.size=t.size/\ ei.bytes<=128/\ (jt ei.zero).length=ei.size then
  match y with
  | .v (.one yc)=>match b7 hp (.sl t) [yc] with
   |some (ys,[],tc)=>match za hp t y with
    |some (ab,f)=>if kB (gone++ab) then ob (decide (l.length+ys.length<1099511627776)) (k {val:= .v (.one (.full nm)),fresh:= [.row t (l++ys) (pX rk f)],writes:=(gone++ab).map fun n=>(n,.gone),aC:=gone++ab++tc}) else False
    |none=>False
   |_=>False
  |_=>False
 else False
def qF (a b:Nat):Nat:=Nat.min b a
def jE {α:Type} (l:List α) (s d:Nat) (ys:List α):List α:=l.take s++ys.take (qF d ys.length)++l.drop (s+qF d ys.length)
def X6 (x y:AV) (ei:TI) (hp:HP) (k:Rec->Prop):Prop:=match x,y with
 | .v (.one (.full p)),.v (.one yc)=>Dv hp p fun n s _ len tc=>match hp n with
  |some (.row t l rk)=>if (rk≠0/\ rk≠3)/\ t.flat=true/\ ei.size=t.size then (match b7 hp (.sl t) [yc] with
   |some (ys,[],zZ)=>True/\ ∀l',l'=jE l (gZ s 0) len ys->k {val:=gA .i64 (qF len ys.length:Nat),writes:= [(n,.row t l' rk)],aC:=n::(tc++zZ)}
   |_=>False) else False
  |_=>False
 |_,_=>False
def agF:Value->Bool
 | .slice none 0 0=>true
 |_=>false
def gTy (i:TI) (kk:TypeId->TI->Ty->Ty->Prop):Prop:=match i.desc with
 | .map kt et=>match aG ctx.tt kt,aG ctx.tt et with
  |some ki,some ei=>match ki.ty,ei.ty with
   |some kT,some (.sl uT)=>if kT.flat&&uT.flat&&agF ei.zero&& !aF ei.desc then kk kt ki kT uT else False
   |_,_=>False
  |_,_=>False
 |_=>False
def adb (hp:HP):AV->Bool
 | .v (.one (.mp n))=>match hp n with
  |some (.oQ _ _ _ _ _ _)=>true
  |_=>false
 |_=>false
def aiE (hp:HP):AV->Bool
 | .v (.one (.full n))=>match hp n with
  |some (.gv _ _ _ _ _ _)=>true
  |_=>false
 |_=>false
def agT (i:TI):Bool:=match i.desc with
 | .map _ et=>match aG ctx.tt et with
  |some ei=>match ei.ty with
   |some (.sl _)=>true
   |_=>false
  |none=>false
 |_=>false
def tC:Option aI->Bool
 |some (.set _)=>true
 |_=>false
def ade (hp:HP) (n:Nat):Bool:=match hp n with
 |some (.nv _ _ _ _ _)=>true
 |_=>false
def agy (hp:HP) (n:Nat):Bool:=match hp n with
 |some (.nv _ _ _ _ _)=>true
 |some (.dp _ _ _ _ _)=>true
 |_=>false
def agA (hp:HP):AV->Bool
 | .v (.one (.full n))=>ade hp n
 |_=>false
def ada (hp:HP):AV->Bool
 | .v (.one (.bD n _ _))=>agy hp n
 |_=>false
def Ud:ck->List Value
 | .flat _=> []
 | .sl u l=>l.flatMap fun x=>(u.aJ x).map aL
def Zl (t:Ty) (l:List t.T):List Value:=l.flatMap fun x=>(t.aJ x).flatMap Ud
def setInt:(u:Ty)->List u.T->Nat->Int->Option (List u.T)
 | .int .i64,x,k,y=>some (List.set (show List Int from x) k y)
 |_,_,_,_=>none
def Du (hp:HP) (m:Nat) (k:(n c j q:Nat)->(t:Ty)->List t.T->(st kn:Bool)->(u:Ty)->List u.T->Prop):Prop:=match hp m with
 |some (.nv n c j q u)=>match hp n with
  |some (.dp t l c' st kn)=>if c'=c/\ tC (hp c)=true then ob (decide (j<l.length)) (match (t.aJ (gd t l j))[q]? with
   |some (.sl u' x)=>if u'=u then k n c j q t l st kn u' x else False
   |_=>False) else False
  |_=>False
 |_=>False
def aes (hp:HP) (m:Nat) (k:Rec->Prop):Prop:=Du hp m fun n c _ _ _ _ _ _ _ x=>k {val:=gA .i64 x.length,aC:= [m,n,c]}
def Nb (i:TI) (x ix:AV) (hp:HP) (k:Rec->Prop):Prop:=match ix,x with
 | .v (.one (.raw (.int _ j0))),.v (.one (.full m))=>match i.desc with
  | .slice e=>match aG ctx.tt e with
   |some ei=>Du hp m fun n c _ _ _ _ _ _ u y=>ob (XE j0 y.length) (if ei.size=u.size then k {val:= .v (.one (.bD m j0.toNat 0)),aC:= [m,n,c]} else False)
   |none=>False
  |_=>False
 |_,_=>False
def MF (i:TI) (x:AV) (hp:HP) (nm:Nat) (k:Rec->Prop):Prop:=match x with
 | .v (.one (.bD n j q))=>match hp n with
  |some (.dp t l c _ _)=>if tC (hp c)=true/\ aF i.desc=false then ob (decide (j<l.length)) (match (t.aJ (gd t l j))[q]? with
   |some (.sl u _)=>k {val:= .v (.one (.full nm)),fresh:= [.nv n c j q u],aC:= [n,c]}
   |_=>False) else False
  |some (.nv _ _ _ _ _)=>Du hp n fun n' c _ _ _ _ _ kn u y=>if q+i.size<=u.size then ob kn (ob (decide (j<y.length)) (match fg 0 (bI u y j q i.size) with
   |(cs,_)=>match qO i.desc cs with
    |some v=>k {val:=v,aC:= [n,n',c]}
    |none=>False)) else False
  |_=>False
 |_=>False
def Gl (i:TI) (x y:AV) (hp:HP) (nm:Nat) (k:Rec->Prop):Prop:=match x,y.cells with
 | .v (.one (.bD m k0 r)),some ys=>Du hp m fun n c j q t l st kn u z=>match ja ys with
  |some [y0]=>if r=0/\ i.size=1 then (match setInt u z k0 y0 with
   |some z'=>ob (decide (k0<z.length)) (match st with
    |false=>k {val:=aX,fresh:= [.set n],writes:= [(n,.dp t l nm false false),(c,.gone),(m,.gone)],aC:= [m,n,c]}
    |true=>match jx t (setCells (t.aJ (gd t l j)) q [.sl u z']) with
     |some (x',[])=>ob kn ((Zl t l).Nodup/\ ∀l',l'=l.set j x'->k {val:=aX,fresh:= [.set n],writes:= [(n,.dp t l' nm true true),(c,.gone),(m,.gone)],aC:= [m,n,c]})
     |_=>False)
   |none=>False) else False
  |_=>False
 |_,_=>False
def Mt (x y:AV) (ei:TI) (hp:HP) (nm:Nat) (k:Rec->Prop):Prop:=match x with
 | .v (.one (.full m))=>match hp m with
  |some (.gv n c kT uT a l0)=>match hp n with
   |some (.oQ ka j7 NU l c' none)=>if c'=c/\ tC (hp c)=true/\ ei.size=uT.size/\ ei.bytes<=128/\ (jt ei.zero).length=ei.size then (if h:kT=j7/\ uT=NU then match y with
    | .v (.one (.sl p off len cap))=>match hp p with
     |some (.cells cs _)=>match yd (b7 (fun _=>none) uT) len (cs.drop off) with
      |some (ys,_)=>ob (decide (len<=cap)&&decide (l0.length+ys.length<1099511627776)) (k {val:= .v (.one (.full (nm+2))),fresh:= [.set n,.gone,.row uT (l0++ys) 1],writes:= [(n,.oQ ka j7 NU l nm (some (h.1▸a))),(c,.gone)],aC:= [m,n,c,p]})
      |none=>False
     |_=>False
    |_=>False else False) else False
   |_=>False
  |_=>False
 |_=>False
def Gc (b:Builtin) (tys:List TypeId) (args:List AV) (hp:HP) (nm:Nat) (k:Rec->Prop):Prop:=
 match b,args with
 | .len,[x]=>match tys with
  |t::_=>match aG ctx.tt t with
   |some i=>match i.desc,x with
    | .slice _,.v (.one (.sl _ _ len _))=>k {val:=gA .i64 len}
    | .slice _,.v (.one (.full p))=>if ade hp p then aes hp p k else Dv hp p fun _ _ _ len tc=>k {val:=gA .i64 len,aC:=tc}
    | .slice _,.v (.one (.raw (.slice _ len _)))=>k {val:=gA .i64 len}
    | .string,.v (.one (.raw (.string s)))=>k {val:=gA .i64 s.size}
    | .map _ _,.v (.one (.mp n))=>match hp n with
     |some (.map _ _ _ _ l)=>k {val:=gA .i64 l.length,aC:= [n]}
     |_=>False
    |_,_=>False
   |none=>False
  | []=>False
 | .min,.v (.one (.raw (.int kk a)))::r=>match xm bG a r with
  |some n=>k {val:=gA kk n}
  |none=>False
 | .max,.v (.one (.raw (.int kk a)))::r=>match xm bp a r with
  |some n=>k {val:=gA kk n}
  |none=>False
 | .append,[x,y]=>match tys with
  | [t,t']=>match aG ctx.tt t,aG ctx.tt t' with
   |some i,some i'=>match i.desc,i'.desc with
    | .slice e,.slice _=>match aG ctx.tt e with
     |some ei=>if aiE hp x then Mt x y ei hp nm k else Ag x y ei hp nm k
     |none=>False
    |_,_=>False
   |_,_=>False
  |_=>False
 | .copy,[x,y]=>match tys with
  | [t,_]=>match aG ctx.tt t with
   |some i=>match i.desc with
    | .slice e=>match aG ctx.tt e with
     |some ei=>X6 x y ei hp k
     |none=>False
    |_=>False
   |none=>False
  |_=>False
 |_,_=>False
def mM (i:TI) (x y:AV) (nm:Nat) (k:Rec->Prop):Prop:=
 match i.desc,x,y with
 | .slice e,.v (.one (.raw (.int .i64 n))),.v (.one (.raw (.int .i64 c)))=>match aG ctx.tt e with
  |some ei=>match ei.ty with
   |some t=>if t.flat/\ ei.size=t.size/\ ei.bytes<=128/\ (jt ei.zero).length=ei.size then (match b7 (fun _=>none) t (jt ei.zero) with
    |some (z,[],_)=>ob (decide (0<=n)&&decide (n<=c)&&decide (c.toNat<1099511627776)) (k {val:= .v (.one (.full nm)),fresh:= [.row t (List.replicate n.toNat z) 2]})
    |_=>False) else False
   |none=>False
  |none=>False
 |_,_,_=>False
def mR (t:Ty) (x:t.T):List Cell:=(t.aJ x).map fun c=> .raw (aL c)
def Cx (a:Bool) (t:Ty) (x:t.T):A0:=match a with
 |true=> .agg (mR t x)
 |false=>match mR t x with
  | [c]=> .one c
  |_=> .one (.raw (.tuple #[]))
def Ad (tt:List (Nat×TI)) (t:TypeId) (k:Ty):Prop:= ∀x y:k.T,Vz tt 20 t (mR k x) (mR k y)=some (p8 k x y)
def RS (a:Bool) (t:Ty):AV->Option t.T
 | .v (.agg cs)=>if a then (match b7 (fun _=>none) t cs with
  |some (x,[],_)=>some x
  |_=>none) else none
 | .v (.one c)=>if a then none else (match b7 (fun _=>none) t [c] with
  |some (x,[],_)=>some x
  |_=>none)
 |_=>none
def GX:Value->Bool
 | .agg _=>true
 |_=>false
def O0 (i:TI) (kk:TypeId->TI->TI->Ty->Ty->Prop):Prop:=match i.desc with
 | .map kt et=>match aG ctx.tt kt,aG ctx.tt et with
  |some ki,some ei=>match ki.ty,ei.ty with
   |some kT,some vT=>if kT.flat&&vT.flat&&(GX ei.zero==aF ei.desc) then kk kt ki ei kT vT else False
   |_,_=>False
  |_,_=>False
 |_=>False
def T4 (i:TI) (x ix:AV) (ok:Bool) (hp:HP) (k:Rec->Prop):Prop:=
 O0 ctx i fun kt ki ei kT vT=>match x with
  | .v (.one (.mp n))=>match hp n with
   |some (.map ka va j7 Fi l)=>if ka=aF ki.desc/\ va=aF ei.desc then (if h:j7=kT/\ Fi=vT then match RS ka j7 ix,b7 (fun _=>none) Fi (jt ei.zero) with
    |some a,some (z,[],_)=>Ad ctx.tt kt j7/\ True/\ ∀y,y=fQ l a z->k {val:=if ok then .r7 [Cx va Fi y,.one (.raw (.bool (Yw l a)))] else .v (Cx va Fi y),aC:= [n]}
    |_,_=>False else False) else False
   |_=>False
  |_=>False
def zB (i:TI) (x ix v:AV) (hp:HP) (k:Rec->Prop):Prop:=
 O0 ctx i fun kt ki ei kT vT=>match x with
  | .v (.one (.mp n))=>match hp n with
   |some (.map ka va j7 Fi l)=>if ka=aF ki.desc/\ va=aF ei.desc then (if h:j7=kT/\ Fi=vT then match RS ka j7 ix,RS va Fi v with
    |some a,some b=>Ad ctx.tt kt j7/\ True/\ ∀l',l'=kV l a b->k {val:=aX,writes:= [(n,.map ka va j7 Fi l')],aC:= [n]}
    |_,_=>False else False) else False
   |_=>False
  |_=>False
def OY (i:TI) (nm:Nat) (k:Rec->Prop):Prop:=
 O0 ctx i fun _ ki ei kT vT=>k {val:= .v (.one (.mp nm)),fresh:= [.map (aF ki.desc) (aF ei.desc) kT vT []]}
def T5 (i:TI) (x ix:AV) (ok:Bool) (hp:HP) (nm:Nat) (k:Rec->Prop):Prop:=
 gTy ctx i fun kt ki kT uT=>match x with
  | .v (.one (.mp n))=>match hp n with
   |some (.oQ ka j7 NU l c none)=>if ka=aF ki.desc/\ ok=false/\ tC (hp c)=true then (if h:j7=kT/\ NU=uT then match RS ka j7 ix with
    |some a=>Ad ctx.tt kt j7/\ True/\ ∀y,y=fQ l a []->k {val:= .v (.one (.full nm)),fresh:= [.gv n c j7 NU a y],aC:= [n,c]}
    |none=>False else False) else False
   |_=>False
  |_=>False
def G8 (i:TI) (x ix v:AV) (hp:HP) (nm:Nat) (k:Rec->Prop):Prop:=
 gTy ctx i fun kt ki kT uT=>match x,v with
  | .v (.one (.mp n)),.v (.one (.full m))=>match hp n,hp m with
   |some (.oQ ka j7 NU l c (some a0)),some (.row t l2 rk)=>if ka=aF ki.desc/\ tC (hp c)=true/\ rk≠0/\ rk≠3 then (if h:j7=kT/\ NU=uT then match RS ka j7 ix,kG t NU l2 with
    |some a,some z=>Ad ctx.tt kt j7/\ a=a0/\ True/\ ∀l',l'=kV l a z->k {val:=aX,fresh:= [.set n],writes:= [(n,.oQ ka j7 NU l' nm none),(c,.gone),(m,.gone)],aC:= [n,c,m]}
    |_,_=>False else False) else False
   |_,_=>False
  |_,_=>False
def OZ (i:TI) (nm:Nat) (k:Rec->Prop):Prop:=
 gTy ctx i fun _ ki kT uT=>k {val:= .v (.one (.mp nm)),fresh:= [.oQ (aF ki.desc) kT uT [] (nm+1) none,.set nm]}
def SY (t:TypeId) (x:AV) (hp:HP) (nm:Nat) (k:Rec->Prop):Prop:=match aG ctx.tt t with
 |some i=>match i.desc,x with
  | .map _ _,.v (.one (.mp n))=>match hp n with
   |some (.oQ ka kT uT l c none)=>ob (tC (hp c)) (∀es dI,k {val:= .v (.one (.ptr nm 0)),fresh:= [.xq n c es dI ka kT uT l none],writes:= [(n,.hmap es dI)],aC:= [n,c]})
   |_=>False
  |_,_=>False
 |none=>False
def OT {k u:Ty} (l:List (k.T×List u.T)) (i:Nat):k.T×List u.T:=l.getD i (k.d,[])
def Zn (x:AV) (hp:HP) (nm:Nat) (k:Rec->Prop):Prop:=match x with
 | .v (.one (.ptr r 0))=>match hp r with
  |some (.xq n c es dI ka kT uT l _)=>match hp n with
   | some (.hmap es' mH)=>ob (tC (hp c)) (es'=es/\ mH=dI/\ (l= []->k {val:= .r7 [.one (.raw (.bool false))],aC:= [r,n,c]})/\
     ∀i,i<l.length->k {val:= .r7 [.one (.raw (.bool true)),Cx ka kT (OT l i).1,.one (.full (nm+1))],fresh:= [.set n,.row uT (OT l i).2 1],writes:= [(r,.xq n nm es dI ka kT uT (l.eraseIdx i) (some ((OT l i).1,nm+1))),(c,.gone)],aC:= [r,n,c]})
   |_=>False
  |_=>False
 |_=>False
def Rf (x:AV) (hp:HP) (k:Rec->Prop):Prop:=match x with
 | .v (.one (.ptr r 0))=>match hp r with
  |some (.xq n _ es dI ka kT _ _ (some (a,m)))=>match hp n,hp m with
   |some (.hmap es' mH),some (.row _ _ _)=>es'=es/\ mH=dI/\ k {val:= .r7 [Cx ka kT a,.one (.full m)],aC:= [r,n,m]}
   |_,_=>False
  |_=>False
 |_=>False
def aa8:Cell->Option (FuncId×List AV×List AV)
 | .mB (.func g) first cap=>some (g,first.map ofV,cap.map A6)
 | .mv g agg rs=>some (g,[P3 agg rs],[])
 |_=>none
def J6 (c:Call) (ev:Operand->AV) (hp:HP) (nm:Nat) (k:Rec->Prop):Prop:=
 match c.callee with
 | .builtin b=>Gc ctx b c.argTypes.toList (tG ev c.args.toList) hp nm k
 | .value f=>match ev f with
  | .v (.one q)=>match aa8 q with
   |some (g,fs,cs)=>match aG ctx.specs g with
    |some s=>s ctx.X (fs++tG ev c.args.toList++cs) hp nm k
    |none=>match aG ctx.dL g with
     |some RR=> ∀bu:Env,RR [] (fs++tG ev c.args.toList++cs) (lA hp nm++ [.gU bu nm]) fun v st=>DW (aq st.heap nm) bu nm (k (An hp nm st.heap v))
     |none=>False
   |none=>match q with
    | .raw (.func (.func g) first cap)=>match aG ctx.specs g with
     |some s=>s ctx.X (first.toList.map ofV++tG ev c.args.toList++cap.toList.map ofV) hp nm k
     |none=>False
    | .Cz n=>match aG ctx.ys n with
     |some s=>s ctx.X (tG ev c.args.toList) hp nm k
     |none=>False
    |_=>False
  |_=>False
 |_=>False
def aa1 (tt:List (Nat×TI)) (t:TypeId):Bool:=match aG tt t with|some i=>aF i.desc|none=>false
def adA (op:BinOp) (t:TypeId) (x y:AV) (k:Rec->Prop):Prop:=
 match x,y with
 | .v (.one (.raw (.int kk a))),.v (.one (.raw (.int k' b)))=>match op with
  | .shl=>ob (decide (0<=b)) (k {val:=gA kk (kk.wrap (a*2^(min b.toNat kk.bits)))})
  | .shr=>ob (decide (0<=b)) (k {val:=gA kk (a.fdiv (2^(min b.toNat kk.bits)))})
  |op=>if kk=k' then RM op kk a b k else False
 | .v (.one (.raw (.bool a))),.v (.one (.raw (.bool b)))=>match op with
  | .eql=>match aG ctx.tt t with|some i=>(match i.desc with| .bool=>k {val:=cl (a==b)} |_=>False)|none=>False
  | .neq=>match aG ctx.tt t with|some i=>(match i.desc with| .bool=>k {val:=cl (!(a==b))} |_=>False)|none=>False
  |_=>False
 | .v (.one (.raw (.string a))),.v (.one (.raw (.string b)))=>match op with
  | .eql=>k {val:=cl (a==b)}
  | .neq=>k {val:=cl (a !=b)}
  | .add=>ob (decide (a.size+b.size<4611686018427387904)) (k {val:= .v (.one (.raw (.string (a++b))))})
  |_=>False
 | .v (.agg xs),.v (.agg ys)=>match op with
  | .eql=>match aa1 ctx.tt t,Vz ctx.tt 20 t xs ys with|true,some b=>k {val:=cl b} |_,_=>False
  | .neq=>match aa1 ctx.tt t,Vz ctx.tt 20 t xs ys with|true,some b=>k {val:=cl (!b)} |_,_=>False
  |_=>False
 | .v (.one (.raw (.slice a _ _))),.v (.one (.raw (.slice none _ _)))=>match aG ctx.tt t with
  |some i=>match i.desc,op with
   | .slice _,.eql=>k {val:=cl a.isNone}
   | .slice _,.neq=>k {val:=cl (!a.isNone)}
   |_,_=>False
  |none=>False
 |_,_=>False
def ndB (x y:AV):Bool:= !ctx.dL.isEmpty&&(match x,y with
 | .v (.one (.full _)),.v (.one (.raw (.slice none 0 0)))=>true
 |_,_=>false)
def aep (op:BinOp) (t:TypeId) (x y:AV) (hp:HP) (k:Rec->Prop):Prop:=match x,y with
 | .v (.one (.full n)),.v (.one (.raw (.slice none 0 0)))=>match hp n,aG ctx.tt t with
  |some (.row _ l _),some i=>match i.desc,op with
   | .slice _,.eql=> ∀b:Bool,(0<l.length->b=false)->k {val:=cl b,aC:= [n]}
   | .slice _,.neq=> ∀b:Bool,(0<l.length->b=false)->k {val:=cl (!b),aC:= [n]}
   |_,_=>False
  |_,_=>False
 |_,_=>False
def R7 (o:Op) (ev:Operand->AV) (hp:HP) (nm:Nat) (k:Rec->Prop):Prop:=
 match o with
 | .move x=>k {val:=ev x}
 | .assign x=>k {val:=ev x}
 | .pick c a b=>match ev c with
  | .v (.one (.raw (.bool t)))=>cB t (k {val:=ev a}) (k {val:=ev b})
  |_=>False
 | .alloc t=>match aG ctx.tt t with
  |some i=>k {val:= .v (.one (.ptr nm 0)),fresh:= [.cells (jt i.zero) t]}
  |none=>False
 | .box t x=>match (ev x).cells with
  |some xs=>k {val:= .v (.one (.ptr nm 0)),fresh:= [.cells xs t]}
  |none=>False
 | .build t parts=>match aG ctx.tt t with
  |some i=>Q0 ctx i parts.toList ev k
  |none=>False
 | .buildSlice t len parts=>match aG ctx.tt t with
  |some i=>if Nat.beq len 0&&parts.toList.isEmpty then mM ctx i (.v (.one (.raw (.int .i64 0)))) (.v (.one (.raw (.int .i64 0)))) nm k else vv ctx i len parts.toList ev nm k
  |none=>False
 | .load t x=>match aG ctx.tt t with
  |some i=>if ada hp (ev x) then MF i (ev x) hp nm k else yA i (ev x) hp nm k
  |none=>False
 | .store t x y=>match aG ctx.tt t with
  |some i=>if ada hp (ev x) then Gl i (ev x) (ev y) hp nm k else rW i (ev x) (ev y) hp k
  |none=>False
 | .nilCheck x=>match ev x with
  | .v (.one (.ptr n off))=>mw hp n (k {val:= .v (.one (.ptr n off)),aC:= [n]})
  | .v (.one (.nS n off))=>mw hp n (k {val:= .v (.one (.nS n off)),aC:= [n]})
  | .v (.one (.bD n j q))=>(match Y1 hp n with
   |true=>k {val:= .v (.one (.bD n j q)),aC:= [n]}
   |false=>my hp n j fun _=>k {val:= .v (.one (.bD n j q)),aC:= [n]})
  | .v (.one (.fK n j q))=>my hp n j fun _=>k {val:= .v (.one (.fK n j q)),aC:= [n]}
  | .v (.one (.mB (.func f) first cap))=>k {val:= .v (.one (.mB (.func f) first cap))}
  | .v (.one (.mv f agg rs))=>k {val:= .v (.one (.mv f agg rs))}
  | .v (.one (.raw (.pointer (some a))))=>k {val:= .v (.one (.raw (.pointer (some a))))}
  | .v (.one (.raw (.func (.func f) first cap)))=>k {val:= .v (.one (.raw (.func (.func f) first cap)))}
  |_=>False
 | .binOp op t x y _=>if ndB ctx (ev x) (ev y) then aep ctx op t (ev x) (ev y) hp k else adA ctx op t (ev x) (ev y) k
 | .unOp u _ x=>match u,ev x with
  | .neg,.v (.one (.raw (.int kk a)))=>k {val:=gA kk (kk.wrap (0- a))}
  | .not,.v (.one (.raw (.bool b)))=>k {val:=cl (!b)}
  |_,_=>False
 | .convert s d x=>match aG ctx.tt s,aG ctx.tt d with
  |some _,some i=>match i.desc,ev x with
   | .int kk,.v (.one (.raw (.int _ a)))=>k {val:=gA kk (kk.wrap a)}
   |_,_=>False
  |_,_=>False
 | .makeFunc fn first cap=>match Jb (tG ev first.toList),Jc (tG ev cap.toList) with
  |some f,some c=>k {val:= .v (.one (.mB fn f c))}
  |_,_=>match fn,tG ev first.toList,cap.toList with
   | .func g,[r],[]=>match S3 r with
    |some (agg,rs)=>k {val:= .v (.one (.mv g agg rs))}
    |none=>False
   |_,_,_=>False
 | .makeMap t none=>match aG ctx.tt t with
  |some i=>if agT ctx i then OZ ctx i nm k else OY ctx i nm k
  |none=>False
 | .lookup t x ix ok=>match aG ctx.tt t with
  |some i=>if adb hp (ev x) then T5 ctx i (ev x) (ev ix) ok hp nm k else T4 ctx i (ev x) (ev ix) ok hp k
  |none=>False
 | .mapUpdate t m ix x=>match aG ctx.tt t with
  |some i=>if adb hp (ev m) then G8 ctx i (ev m) (ev ix) (ev x) hp nm k else zB ctx i (ev m) (ev ix) (ev x) hp k
  |none=>False
 | .insert t m ix x=>match aG ctx.tt t with
  |some i=>zB ctx i (ev m) (ev ix) (ev x) hp k
  |none=>False
 | .slice t x lo hi mx=>match aG ctx.tt t with
  |some i=>S9 ctx i (ev x) (lo.map ev) (hi.map ev) (mx.map ev) hp nm k
  |none=>False
 | .makeSlice t x y=>match aG ctx.tt t with
  |some i=>mM ctx i (ev x) (ev y) nm k
  |none=>False
 | .fieldAddr t x f=>match aG ctx.tt t with
  |some i=>zm ctx i (ev x) f hp k
  |none=>False
 | .field t x f=>match aG ctx.tt t with
  |some i=>Rh ctx i (ev x) f k
  |none=>False
 | .indexAddr t x ix=>match aG ctx.tt t with
  |some i=>if agA hp (ev x) then Nb ctx i (ev x) (ev ix) hp k else zv ctx i (ev x) (ev ix) (OP ix) hp k
  |none=>False
 | .index t x ix=>match aG ctx.tt t with
  |some i=>RH ctx i (ev x) (ev ix) (OP ix) k
  |none=>False
 | .extract x i=>match ev x with
  | .r7 l=>match l[i]? with|some a=>k {val:= .v a} |none=>False
  |_=>False
 | .call c=>J6 ctx c ev hp nm k
 | .range t x=>if ctx.dL.isEmpty then False else SY ctx t (ev x) hp nm k
 | .next x false=>if ctx.dL.isEmpty then False else Zn (ev x) hp nm k
 | .entry x=>if ctx.dL.isEmpty then False else Rf (ev x) hp k
 |_=>False
def jK (tmps:List AV):Option Nat->AV->List AV
 |some d,v=>tmps.set d v
 |none,_=>tmps
def AS.app (st:AS) (dst:Option Nat) (r:Rec):AS:=
 {tmps:=jK st.tmps dst r.val,heap:=r.writes.foldl (fun h p=>h.set p.1 p.2) st.heap++r.fresh}
structure ow where
 nm:Nat
 cnt:Nat
 aC:List Nat
 wr:List Nat
def KE (nm:Nat) (r:Rec):ow:= {nm:=nm,cnt:=r.fresh.length,aC:=r.aC,wr:=r.writes.map (·.1)}
def nx (nm:Nat):ow:= {nm:=nm,cnt:=0,aC:= [],wr:= []}
def DG (ops:Array Oper) (j:Nat):Option Nat:=match ops[j]? with
 |some o=>o.dst
 |none=>none
def aeq (o:Op) (ev:Operand->AV):Bool:=o.operands.toList.all fun x=> !(ev x).YW
def sW (o:Op) (st:AS) (k:Rec->Prop):Prop:=if aeq o (oP st.tmps) then R7 ctx o (oP st.tmps) (aq st.heap) st.heap.length k else False
def qd (all:Array Oper):List Oper->List Nat->AS->List ow->(AS->List ow->Prop)->Prop
  | [],_,st,lg,K=>K st lg
  | o::rest,dec,st,lg,K=>match o.guard with
    |none=>sW ctx o.op st fun r=>qd all rest dec (st.app o.dst r) (lg++ [KE st.heap.length r]) K
    | some (j,want)=>match DG all j with
      | some d=>match dM st.tmps d with
        | .v (.one (.raw (.bool x)))=>
          if dec.contains d then
            (if x=want then sW ctx o.op st fun r=>qd all rest dec (st.app o.dst r) (lg++ [KE st.heap.length r]) K
             else qd all rest dec {st with tmps:=jK st.tmps o.dst aX} (lg++ [nx st.heap.length]) K)
          else
            (match want with
             |true=>cB x (sW ctx o.op {st with tmps:=st.tmps.set d (cl true)} fun r=>qd all rest (d::dec) ({st with tmps:=st.tmps.set d (cl true)}.app o.dst r) (lg++ [KE st.heap.length r]) K)
                (qd all rest (d::dec) {st with tmps:=jK (st.tmps.set d (cl false)) o.dst aX} (lg++ [nx st.heap.length]) K)
             |false=>cB x (qd all rest (d::dec) {st with tmps:=jK (st.tmps.set d (cl true)) o.dst aX} (lg++ [nx st.heap.length]) K)
                (sW ctx o.op {st with tmps:=st.tmps.set d (cl false)} fun r=>qd all rest (d::dec) ({st with tmps:=st.tmps.set d (cl false)}.app o.dst r) (lg++ [KE st.heap.length r]) K))
        | .r7 []=>qd all rest dec {st with tmps:=jK st.tmps o.dst aX} (lg++ [nx st.heap.length]) K
        |_=>False
      |none=>False
def direct (o:Oper):List Nat:=(o.after.toList.filter (Region.binds .any)).map (·.on)
def qM:List Oper->List Nat->List Nat
 | [],acc=>acc
 |o::r,acc=>qM r (acc++ [(direct o).foldl (fun s j=>s|||(2^j|||acc.getD j 0)) 0])
def Kg (a b:List Nat):Bool:=a.all fun x=> !b.contains x
def AX (lg:List ow) (m:Nat):Option Nat:=lg.findIdx? fun l=>l.nm<=m&&m<l.nm+l.cnt
def lD (ops:Array Oper) (o:Oper):List Nat:=
 (o.op.operands.toList.filterMap fun| .tmp t=>some t|_=>none)++(match o.guard with|some (g,_)=>(DG ops g).toList|none=> [])
def R9 (ops:Array Oper) (ms:List Nat) (lg:List ow) (i:Nat):Bool:=
  match ops[i]?,lg[i]? with
  | some o,some l=>
    (direct o).all (· <i)&&(l.wr.all fun m=>l.aC.contains m)&&
    (l.aC.all fun m=>match AX lg m with|some j=>j==i||(ms.getD i 0).testBit j|none=>true)&&
    (List.range i).all fun j=>(ms.getD i 0).testBit j||
      (match ops[j]?,lg[j]? with
       |some p,some q=>Kg l.wr q.aC&&Kg q.wr l.aC&&Kg l.wr q.wr&&
          (match p.dst with|some d=>o.dst !=some d&& !(lD ops o).contains d|none=>true)&&
          (match o.dst with|some d=> !(lD ops p).contains d|none=>true)
       |_,_=>false)
  |_,_=>false
def Uk (ops:Array Oper) (lg:List ow):Bool:=
 lg.length==ops.size&&(List.range ops.size).all (R9 ops (qM ops.toList []) lg)
def Ff (x:Nat):List Nat->Bool
 | []=>false
 |y::r=>Nat.beq x y||Ff x r
def acD:List Nat->List Nat->Bool
 | [],_=>true
 |x::r,l=>Ff x l&&acD r l
def Jr:List Nat->List Nat->Bool
 | [],_=>true
 |x::r,l=> !Ff x l&&Jr r l
def M3:List Oper->Nat->List Nat->List Nat
 | [],_,acc=>acc
 |o::r,k,acc=>M3 r (k+1) ((direct o).foldl (fun s j=>s|||(2^j|||(bif Nat.blt j k then acc.getD (k- 1- j) 0 else 0))) 0::acc)
def msF (ops:Array Oper):List Nat:=(M3 ops.toList 0 []).reverse
structure OI where
 d:Option Nat
 lk:List Nat
 m:Nat
def oiL (all:Array Oper):List Oper->List Nat->List OI
 |o::r,m::ms=>⟨o.dst,lD all o,m⟩::oiL all r ms
 |_,_=> []
def UT (o p:OI):Bool:=
 (match p.d with
  |some d=>(match o.d with|some e=> !Nat.beq e d|none=>true)&& !Ff d o.lk
  |none=>true)&&
 (match o.d with
  |some d=> !Ff d p.lk
  |none=>true)
def Cr (o:OI):List OI->Nat->Nat->Bool
 |p::r,j,k+1=>(o.m.testBit j||UT o p)&&Cr o r (j+1) k
 |_,_,_=>true
def FR (all:List OI):List OI->Nat->Bool
 | [],_=>true
 |o::r,i=>Cr o all 0 i&&FR all r (i+1)
def ME:List Oper->Nat->Bool
 | [],_=>true
 |o::r,i=>((direct o).all fun j=>Nat.blt j i)&&ME r (i+1)
def aaD (ops:Array Oper):Bool:=ME ops.toList 0&&FR (oiL ops ops.toList (msF ops)) (oiL ops ops.toList (msF ops)) 0
structure DI where
 i:Nat
 m:Nat
 t:List Nat
 w:List Nat
def Vx:List ow->List Nat->Nat->List DI
 |l::r,m::ms,i=>(match l.aC,l.wr with
  | [],[]=>Vx r ms (i+1)
  |t,w=>⟨i,m,t,w⟩::Vx r ms (i+1))
 |_,_,_=> []
def mkL:List ow->Nat->List (Nat×Nat×Nat)
 | [],_=> []
 |l::r,i=>match l.cnt with
  |0=>mkL r (i+1)
  |c=>(i,l.nm,c)::mkL r (i+1)
def M1 (x:Nat):List (Nat×Nat×Nat)->Option Nat
 | []=>none
 |p::r=>bif Nat.ble p.2.1 x&&Nat.blt x (p.2.1+p.2.2) then some p.1 else M1 x r
def Rd (mk:List (Nat×Nat×Nat)) (o:DI):Bool:=
 acD o.w o.t&&o.t.all fun x=>match M1 x mk with|some j=>Nat.beq j o.i||o.m.testBit j|none=>true
def xe (o p:DI):Bool:=Nat.ble o.i p.i||o.m.testBit p.i||(Jr o.w p.t&&Jr p.w o.t&&Jr o.w p.w)
def wsL:List DI->List DI
 | []=> []
 |o::r=>match o.w with
  | []=>wsL r
  |_=>o::wsL r
def Ye (D:List DI) (mk:List (Nat×Nat×Nat)):Bool:=(D.all fun o=>Rd mk o)&&(wsL D).all fun p=>D.all fun o=>xe o p&&xe p o
def force {α:Type} (n:Nat) (k:Nat->α):α:=match n with
 |0=>k 0
 |m+1=>k (m+1)
def Gz {α:Type} :List Nat->(List Nat->α)->α
 | [],k=>k []
 |x::r,k=>force x fun v=>Gz r fun l=>k (v::l)
def Fs {α:Type} :List ow->(List ow->α)->α
 | [],k=>k []
 |e::r,k=>force e.nm fun a=>force e.cnt fun b=>Gz e.aC fun t=>Gz e.wr fun w=>Fs r fun l=>k (⟨a,b,t,w⟩::l)
def FD (ops:Array Oper) (lg:List ow):Bool:=Fs lg fun lg=>
 Nat.beq lg.length ops.size&&aaD ops&&Ye (Vx lg (msF ops) 0) (mkL lg 0)
def Uv (ops:Array Oper) (draw:Bool) (st:AS) (K:AS->Prop):Prop:=
 if draw then qd {ctx with ys:= [],dL:= []} ops ops.toList [] st [] fun st' lg=>if FD ops lg then K st' else False
 else qd ctx ops ops.toList [] st [] fun st' _=>K st'
inductive Src
 |same (m:Nat)
 |nil
 |cells (m len:Nat)
 |mt (m off:Nat)
 |any (m:Nat)
def jq (π:List Src) (n:Nat):Option Nat:=match π[n]? with
 |some (.same m)=>some m
 |_=>none
def qk (π:List Src):Ref->Option Ref
 | .ext v=>some (.ext v)
 | .loc n o=>match jq π n with|some m=>some (.loc m o)|none=>none
 | .elem n j=>match jq π n with|some m=>some (.elem m j)|none=>none
 | .full n=>match jq π n with|some m=>some (.full m)|none=>none
 | .mp n=>match jq π n with|some m=>some (.mp m)|none=>none
def kq (π:List Src):List Ref->Option (List Ref)
 | []=>some []
 |r::l=>match qk π r,kq π l with|some q,some m=>some (q::m)|_,_=>none
def jU (π:List Src):Cell->Option Cell
 | .raw v=>some (.raw v)
 | .ptr n o=>match jq π n with|some m=>some (.ptr m o)|none=>none
 | .nS n o=>match jq π n with|some m=>some (.nS m o)|none=>none
 | .sl n o l c=>match jq π n with|some m=>some (.sl m o l c)|none=>none
 | .bD n j k=>match jq π n with|some m=>some (.bD m j k)|none=>none
 | .fK n j k=>match jq π n with|some m=>some (.fK m j k)|none=>none
 | .full n=>match π[n]? with
  |some (.same m)=>some (.full m)
  |some .nil=>some (.raw (.slice none 0 0))
  |some (.cells m len)=>some (.sl m 0 len len)
  |some (.mt m off)=>some (.sl m off 0 0)
  |some (.any m)=>some (.full m)
  |none=>none
 | .mB f a cap=>match kq π cap with|some c=>some (.mB f a c)|none=>none
 | .Cz n=>match jq π n with|some m=>some (.Cz m)|none=>none
 | .mp n=>match jq π n with|some m=>some (.mp m)|none=>none
 | .mv f a rs=>match kq π rs with|some c=>some (.mv f a c)|none=>none
def iO (π:List Src):List Cell->Option (List Cell)
 | []=>some []
 |c::l=>match jU π c,iO π l with|some q,some m=>some (q::m)|_,_=>none
def JP (π:List Src):A0->Option A0
 | .one c=>match jU π c with|some q=>some (.one q)|none=>none
 | .agg cs=>match iO π cs with|some q=>some (.agg q)|none=>none
def iq (π:List Src):List A0->Option (List A0)
 | []=>some []
 |c::l=>match JP π c,iq π l with|some q,some m=>some (q::m)|_,_=>none
def uy (π:List Src):AV->Option AV
 | .v a=>match JP π a with|some q=>some (.v q)|none=>none
 | .r7 l=>match iq π l with|some q=>some (.r7 q)|none=>none
 | .dead=>none
def CV (π:List Src):Nat->Bool
 |0=>true
 |n+1=>(match π[n]? with|some (.same m)=>m==n|_=>false)&&CV π n
def gg (π:List Src):aI->Option aI
 | .cells cs e=>match iO π cs with|some q=>some (.cells q e)|none=>none
 | .row t l rk=>some (.row t l rk)
 | .alias n s q=>match jq π n with|some m=>some (.alias m s q)|none=>none
 | .gone=>none
 | .loop r s j=>some (.loop r s j)
 | .gU ρ n=>if CV π n then some (.gU ρ n) else none
 | .cK S=>some (.cK S)
 | .map ka va k v l=>some (.map ka va k v l)
 | .oQ ka k u l c q=>match jq π c with|some m=>some (.oQ ka k u l m q)|none=>none
 | .set n=>match jq π n with|some m=>some (.set m)|none=>none
 | .gv n c k u x l=>match jq π n,jq π c with|some m,some d=>some (.gv m d k u x l)|_,_=>none
 | .rc cs=>match iO π cs with|some q=>some (.rc q)|none=>none
 | .hmap es dI=>some (.hmap es dI)
 | .dp t l c st kn=>match jq π c with|some d=>some (.dp t l d st kn)|none=>none
 | .nv n c j q u=>match jq π n,jq π c with|some m,some d=>some (.nv m d j q u)|_,_=>none
 | .xq n c es dI ka k u l cur=>match jq π n,jq π c,cur with
  |some m,some d,none=>some (.xq m d es dI ka k u l none)
  |some m,some d,some (a,q)=>match jq π q with|some q'=>some (.xq m d es dI ka k u l (some (a,q')))|none=>none
  |_,_,_=>none
def Dq:Src->Option Nat
 | .same m=>some m
 | .nil=>none
 | .cells m _=>some m
 | .mt _ _=>none
 | .any m=>some m
def C7 (π:List Src) (h:List aI) (s:Src) (o:aI):Prop:=match s with
 | .same m=> ∃p,aq h m=some p/\ gg π o=some p
 | .nil=> ∃t rk,o= .row t [] rk/\ rk≠0
 | .mt m _=> ∃t cs e,o= .row t [] 3/\ aq h m=some (.cells cs e)
 | .any m=> ∃t l rk,o= .row t l 3/\ aq h m=some (.row t l rk)/\ rk≠0
 | .cells m len=> ∃t l cs e rk,o= .row t l rk/\ (rk=2\/ rk=3)/\ aq h m=some (.cells cs e)/\ t.flat=true/\ yd (b7 (fun _=>none) t) len cs=some (l,[])/\ cs.length=len*t.size/\ Nat.ble len 1099511627776=true
def uW (π:List Src) (h:List aI):List Src->List aI->Prop
 |_::r,.gone::l=>uW π h r l
 |s::r,o::l=>C7 π h s o/\ uW π h r l
 | [],[]=>True
 |_,_=>False
def wW:List Src->List aI->List Nat
 |_::r,.gone::l=>wW r l
 |s::r,_::l=>(match Dq s with|some m=>m::wW r l|none=>wW r l)
 |_,_=> []
def Ja (π:List Src):List AV->List AV->Prop
 |_::r,.dead::s=>Ja π r s
 |x::r,y::s=>uy π y=some x/\ Ja π r s
 | [],[]=>True
 |_,_=>False
structure Ren (π:List Src) (st st':AS):Prop where
 tmps:Ja π st.tmps st'.tmps
 heap:uW π st.heap π st'.heap
 inj:kB (wW π st'.heap)=true
def vn (st st':AS):Prop:= ∃π,Ren π st st'
def mA (id:Nat) (K:Exit->AS->Prop) (e:Exit) (st':AS):Prop:=match e with
 | .exit id'=>if id'=id then K .normal st' else K (.exit id') st'
 |e=>K e st'
def mN:Code->Bool
 | .seq a b=>mN a&&mN b
 | .cond _ a b=>mN a&&mN b
 | .loop c=>mN c
 | .block _ c=>mN c
 | .rangeFunc _ _ _ _=>false
 | .scope c=>mN c
 |_=>true
def BL:List AV->List Nat->List AV->List AV
 |l,t::ts,v::vs=>BL (l.set t v) ts vs
 |l,_,_=>l
def acT (hp:HP) (nm:Nat) (h:List aI) (b:Bool):Rec:=An hp nm h (cl b)
def TY (o:Option aI) (r:Loop) (K:Prop):Prop:=match o with
 |some (.loop r' .ready none)=>r'=r/\ K
 |_=>False
def RP (o:Option aI) (r:Loop) (K:Prop):Prop:=match o with
 |some (.loop r' .busy none)=>r'=r/\ K
 |_=>False
def MV (r:Loop):Option Code->aI
 |none=> .loop r .ready none
 |some c=> .loop r .done (some c)
def wK (hp:HP) (nm n:Nat) (r:Loop) (bu:Env) (h:List aI) (jump:Option Code) (k:Rec->Prop):Prop:=
 RP (aq h n) r (DW (aq h nm) bu nm (k (acT hp nm (h.set n (MV r jump)) jump.isNone)))
def T6 (n:Nat) (jD:Env) (tmps:List AV) (h:List aI) (K:Exit->AS->Prop):Prop:=
 DW (aq h (n+1)) jD (n+1) (match aq h n with
  |some (.loop _ .ready none)=>K .normal ⟨tmps,(h.set n .gone).set (n+1) .gone⟩
  |some (.loop _ .done (some .ret))=>K .ret ⟨tmps,(h.set n .gone).set (n+1) .gone⟩
  |some (.loop _ .done (some (.exit id)))=>K (.exit id) ⟨tmps,(h.set n .gone).set (n+1) .gone⟩
  |_=>False)
def acG  (X0:Addr->Value->Prop) (n:Nat) (tmps:List AV) (r:Loop) (jD:Env) (ps:Array Tmp) (A B:AS->(Exit->AS->Prop)->Prop):Spec:=fun X args hp nm k=>X=X0/\ (if ps.size=args.length then
          DW (hp (n+1)) jD (n+1) (TY (hp n) r (∀bu:Env,
            A ⟨BL tmps ps.toList args,lA hp nm++ [.gU bu nm]⟩ fun e rZ=>match e with
              | .normal=>DW (aq rZ.heap nm) bu nm (TY (aq rZ.heap n) r (B ⟨rZ.tmps,rZ.heap.set n (.loop r .busy none)⟩ fun e zY=>match e with
                | .normal=>wK hp nm n r bu zY.heap none k
                | .ret=>wK hp nm n r bu zY.heap (some .ret) k
                | .exit id=>wK hp nm n r bu zY.heap (some (.exit id)) k
                |_=>False))
              |_=>False)) else False)
def dx:Code->AS->(Exit->AS->Prop)->Prop
 | .skip,st,K=>K .normal st
 | .region _ ops draw,st,K=>Uv ctx ops draw st (K .normal)
 | .seq a b,st,K=>dx a st fun e st'=>match e with
  | .normal=>dx b st' K
  |e=>K e st'
 | .cond c x y,st,K=>match oP st.tmps c with
  | .v (.one (.raw (.bool t)))=>cB t (dx x st K) (dx y st K)
  |_=>False
 | .block id c,st,K=>match aG ctx.lp id with
  |some sp=>sp st K
  |none=>dx c st (mA id K)
 | .loop c,st,K=> ∃(I:Nat->AS->Prop),(∃m st',vn st st'/\ I m st')/\ ∀m rZ,I m rZ->dx c rZ fun e zY=>match e with
  | .normal=> ∃m' st',m'<m/\ vn zY st'/\ I m' st'
  |e=>K e zY
 | .rangeFunc g ps assign body,st,K=>if mN assign&&mN body then match oP st.tmps g with
  | .v (.one (.mB (.func f) [] cap))=>match aG ctx.dL f with
   | some RR=> ∀(r:Loop) (jD:Env),RR [(st.heap.length,acG ctx.X st.heap.length st.tmps r jD ps (dx assign) (dx body))]
     (.v (.one (.Cz st.heap.length))::cap.map A6) (st.heap++ [.loop r .ready none,.gU jD (st.heap.length+1)]) fun _ zY=>T6 st.heap.length jD st.tmps zY.heap K
   |none=>False
  |_=>False else False
 | .exit id,st,K=>K (.exit id) st
 | .ret,st,K=>K .ret st
 |_,_,_=>False
def z7 (c:Code):Nat->bR
 |0,_,_=>False
 |n+1,st,K=>dx ctx c st fun e zY=>match e with
  | .normal=>z7 c n zY K
  |e=>K e zY
def NK (st:AS):ResultVar->Option A0
 | .tmp t=>match dM st.tmps t with| .v a=>some a|_=>none
 | .cell t ty=>match dM st.tmps t,aG ctx.tt ty with
  | .v (.one (.ptr n off)),some i=>match aq st.heap n with
   |some (.cells cs _)=>if aF i.desc then (if off+i.size<=cs.length then some (.agg ((cs.drop off).take i.size)) else none)
    else (match cs[off]? with|some c=>some (.one c)|none=>none)
   |_=>none
  |_,_=>none
def Dk (st:AS):List ResultVar->Option (List A0)
 | []=>some []
 |r::l=>match NK ctx st r,Dk st l with
  |some a,some b=>some (a::b)
  |_,_=>none
def Xe (fn:Func) (st:AS) (R:AV->AS->Prop):Prop:=
 match Dk ctx st fn.results.toList with
 |some [a]=>R (.v a) st
 |some l=>R (.r7 l) st
 |none=>False
def ML (fn:Func) (args:List AV) (heap:List aI) (R:AV->AS->Prop):Prop:=
 match fn.body with
 |some c=>dx ctx c ⟨args++List.replicate (fn.ntmps- args.length) aX,heap⟩ fun e st=>match e with
  | .ret=>Xe ctx fn st R
  | .normal=>Xe ctx fn st R
  |_=>False
 |none=>False
end
end Go.Ev
