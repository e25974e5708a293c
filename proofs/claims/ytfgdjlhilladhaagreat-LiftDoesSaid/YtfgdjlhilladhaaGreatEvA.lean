/- The abstract evaluator: values whose addresses are names, a small heap of named objects, and 'codeE', the condition under which a piece of code does what is asked. -/
import Derived.Below
import Derived.KernelRfl
noncomputable section
set_option linter.unusedSectionVars false
set_option linter.unusedVariables false
set_option linter.unusedSimpArgs false
namespace Go.Ev
inductive Ty
 |int (k:IntKind)
 |bool
 |str
 |prod (a b:Ty)
 |sl (t:Ty)
 deriving DecidableEq
@[reducible] def Ty.T:Ty->Type
 | .int _=>Int
 | .bool=>Bool
 | .str=>ByteArray
 | .prod a b=>a.T×b.T
 | .sl t=>List t.T
def Ty.d:(t:Ty)->t.T
 | .int _=>(0:Int)
 | .bool=>false
 | .str=>ByteArray.empty
 | .prod a b=>(a.d,b.d)
 | .sl t=>([]:List t.T)
def Ty.size:Ty->Nat
 | .prod a b=>a.size+b.size
 |_=>1
def Ty.flat:Ty->Bool
 | .prod a b=>a.flat&&b.flat
 | .sl _=>false
 |_=>true
def Ty.shallow:Ty->Bool
 | .prod a b=>a.shallow&&b.shallow
 | .sl t=>t.flat
 |_=>true
inductive cD
 |flat (v:Value)
 |sl (u:Ty) (l:List u.T)
def Ty.aM:(t:Ty)->t.T->List cD
 | .int k,n=> [.flat (.int k n)]
 | .bool,b=> [.flat (.bool b)]
 | .str,s=> [.flat (.string s)]
 | .prod a b,x=>a.aM x.1++b.aM x.2
 | .sl u,l=> [.sl u l]
def aT:cD->Value
 | .flat v=>v
 | .sl _ _=> .slice none 0 0
def BS:(t:Ty)->t.T->t.T->Bool
 | .int _,x,y=>(x:Int)==y
 | .bool,x,y=>(x:Bool)==y
 | .str,x,y=>(x:ByteArray)==y
 | .prod a b,x,y=>BS a x.1 y.1&&BS b x.2 y.2
 | .sl _,_,_=>false
def dN (a:Bool) (t:Ty) (x:t.T):Value:=match a with
 |true=> .agg ((t.aM x).map aT).toArray
 |false=>match (t.aM x).map aT with
  | [v]=>v
  |_=> .tuple #[]
def rT {k:Ty} {β:Type} :List (k.T×β)->k.T->Option β
 | [],_=>none
 |p::r,x=>match BS k x p.1 with
  |true=>some p.2
  |false=>rT r x
def adJ {k:Ty} {β:Type} (l:List (k.T×β)) (x:k.T):Bool:=(rT l x).isSome
def mX {k:Ty} {β:Type} (l:List (k.T×β)) (x:k.T) (z:β):β:=(rT l x).getD z
def AF {k:Ty} {β:Type} :List (k.T×β)->k.T->β->List (k.T×β)
 | [],x,y=> [(x,y)]
 |p::r,x,y=>match BS k x p.1 with
  |true=>(x,y)::r
  |false=>p::AF r x y
def gd (t:Ty) (l:List t.T) (j:Nat):t.T:=l.getD j t.d
def qw (t u:Ty) (l:List t.T):Option (List u.T):=if h:t=u then some (h▸l) else none
inductive Ref
 |ext (v:Value)
 |loc (n off:Nat)
 |elem (n j:Nat)
 |full (n:Nat)
 |mp (n:Nat)
inductive Cell
 |raw (v:Value)
 |ptr (n off:Nat)
 |oB (n off:Nat)
 |sl (n off len cap:Nat)
 |full (n:Nat)
 |br (n j k:Nat)
 |gJ (n j k:Nat)
 |ik (f:Fn) (first:List Value) (cap:List Ref)
 |sJ (n:Nat)
 |mp (n:Nat)
 |mv (f:FuncId) (agg:Bool) (rs:List Ref)
inductive A0
 |one (c:Cell)
 |agg (cs:List Cell)
inductive AV
 |v (a:A0)
 |AH (l:List A0)
 |dead
structure Ent where
 key:Sigma Ty.T
 bR:Option Nat
 base:Option Addr
 len:Nat
 cap:Nat
 es:Nat
 vals:List Value
structure Loc where
 bR:Option Nat:=none
 base:Option Addr:=none
 len:Nat:=0
 cap:Nat:=0
 es:Nat:=1
 BR:List Ent:= []
abbrev Env:=Nat->Loc
inductive aX
 |cells (cs:List Cell) (e:TypeId)
 |row (t:Ty) (l:List t.T) (rk:Nat)
 |alias (n s:Nat) (q:Option Nat)
 |gone
 |loop (r:Loop) (s:LoopState) (j:Option Code)
 |ji (ρ:Env) (n:Nat)
 |bX (S:Nat->Prop)
 |map (ka va:Bool) (k v:Ty) (l:List (k.T×v.T))
 |Om (ka:Bool) (k u:Ty) (l:List (k.T×List u.T)) (c:Nat) (q:Option k.T)
 |set (n:Nat)
 |gv (n c:Nat) (k u:Ty) (x:k.T) (l:List u.T)
 |rc (cs:List Cell)
def addrOf (ρ:Env) (n off:Nat):Option Addr:=(ρ n).bR.map fun b=> {block:=b,off:=off,spot:=none}
def Ref.af (ρ:Env):Ref->Value
 | .ext v=>v
 | .loc n off=> .pointer (addrOf ρ n off)
 | .elem n j=> .pointer ((ρ n).base.map (·.add (j*(ρ n).es+0)))
 | .full n=> .slice (ρ n).base (ρ n).len (ρ n).cap
 | .mp n=> .map (ρ n).bR
def Zs (agg:Bool) (vs:List Value):Value:=match agg with
 |true=> .agg vs.toArray
 |false=>match vs with
  | [v]=>v
  |_=> .tuple #[]
def Cell.af (ρ:Env):Cell->Value
 | .raw v=>v
 | .ptr n off=> .pointer (addrOf ρ n off)
 | .oB n off=> .pointer (addrOf ρ n off)
 | .sl n off len cap=> .slice (addrOf ρ n off) len cap
 | .full n=> .slice (ρ n).base (ρ n).len (ρ n).cap
 | .br n j k=> .pointer ((ρ n).base.map (·.add (j*(ρ n).es+k)))
 | .gJ n j k=> .pointer ((ρ n).base.map (·.add (j*(ρ n).es+k)))
 | .ik f first cap=> .func f first.toArray (cap.map (Ref.af ρ)).toArray
 | .sJ n=>match (ρ n).bR with
  |some l=> .func (.yield l) #[] #[]
  |none=> .nilFunc
 | .mp n=> .map (ρ n).bR
 | .mv f agg rs=> .func (.func f) #[Zs agg (rs.map (Ref.af ρ))] #[]
def A0.af (ρ:Env):A0->Value
 | .one c=>c.af ρ
 | .agg cs=> .agg (cs.map (Cell.af ρ)).toArray
def AV.af (ρ:Env):AV->Value
 | .v a=>a.af ρ
 | .AH l=> .tuple (l.map (A0.af ρ)).toArray
 | .dead=> .tuple #[]
def Ref.ok (Kn:Nat->Prop):Ref->Prop
 | .ext _=>True
 | .loc n _=>Kn n
 | .elem n _=>Kn n
 | .full n=>Kn n
 | .mp n=>Kn n
def Cell.ok (Kn:Nat->Prop):Cell->Prop
 | .raw _=>True
 | .ptr n _=>Kn n
 | .oB n _=>Kn n
 | .sl n _ _ _=>Kn n
 | .full n=>Kn n
 | .br n _ _=>Kn n
 | .gJ n _ _=>Kn n
 | .ik _ _ cap=> ∀r∈cap,r.ok Kn
 | .sJ n=>Kn n
 | .mp n=>Kn n
 | .mv _ _ rs=> ∀r∈rs,r.ok Kn
def A0.ok (Kn:Nat->Prop):A0->Prop
 | .one c=>c.ok Kn
 | .agg cs=> ∀c∈cs,c.ok Kn
def AV.ok (Kn:Nat->Prop):AV->Prop
 | .v a=>a.ok Kn
 | .AH l=> ∀a∈l,a.ok Kn
 | .dead=>True
def aX.ok (Kn:Nat->Prop):aX->Prop
 | .cells cs _=> ∀c∈cs,c.ok Kn
 | .row _ _ _=>True
 | .alias n _ _=>Kn n
 | .gone=>True
 | .loop _ _ _=>True
 | .ji _ n=> ∀m,m<n->Kn m
 | .bX _=>True
 | .map _ _ _ _ _=>True
 | .Om _ _ _ _ c _=>Kn c
 | .set n=>Kn n
 | .gv n c _ _ _ _=>Kn n/\ Kn c
 | .rc cs=> ∀c∈cs,c.ok Kn
def aH:AV:= .AH []
def aeI:Value->A0
 | .agg cs=> .agg (cs.toList.map .raw)
 |v=> .one (.raw v)
def ofV (v:Value):AV:= .v (aeI v)
def ya:Value->Bool
 | .agg _=>false
 | .tuple _=>false
 |_=>true
def Cell.one:Cell->Bool
 | .raw v=>ya v
 |_=>true
def A0.cells:A0->Option (List Cell)
 | .one c=>if c.one then some [c] else none
 | .agg cs=>some cs
def AV.cells:AV->Option (List Cell)
 | .v a=>a.cells
 | .AH _=>none
 | .dead=>none
def AV.ad8:AV->Bool
 | .dead=>true
 |_=>false
def qv:List Cell->Bool
 | []=>true
 |c::r=>if c.one then qv r else false
structure Rec where
 val:AV
 fresh:List aX:= []
 writes:List (Nat×aX):= []
 aO:List Nat:= []
structure TI where
 desc:TypeDesc
 size:Nat
 bytes:Nat
 zero:Value
 ty:Option Ty
def cB (b:Bool) (p q:Prop):Prop:=match b with|true=>p|false=>q
def ob (b:Bool) (p:Prop):Prop:=match b with|true=>p|false=>False
def aJ {α:Type _} :List (Nat×α)->Nat->Option α
 | [],_=>none
 |(k,a)::r,n=>if k=n then some a else aJ r n
def aR:TypeDesc->Bool
 | .struct _=>true
 | .array _ _=>true
 |_=>false
def dG:List AV->Nat->AV
 | [],_=>aH
 |a::_,0=>a
 |_::r,n+1=>dG r n
abbrev HP:=Nat->Option aX
abbrev Spec:=(Addr->Value->Prop)->List AV->HP->Nat->(Rec->Prop)->Prop
structure AS where
 tmps:List AV
 heap:List aX
abbrev k9:=List (Nat×Spec)->List AV->List aX->(AV->AS->Prop)->Prop
abbrev bC:=AS->(Exit->AS->Prop)->Prop
structure Ctx where
 tt:List (Nat×TI)
 specs:List (Nat×Spec)
 X:Addr->Value->Prop
 lp:List (Nat×bC):= []
 ys:List (Nat×Spec):= []
 its:List (Nat×k9):= []
def pK (tmps:List AV):Operand->AV
 | .tmp t=>dG tmps t
 | .const v=>ofV v
 | .global g=> .v (.one (.raw (.pointer (some {block:=g,off:=0,spot:=none}))))
 | .func f=> .v (.one (.ik (.func f) [] []))
def setCells {α:Type} :List α->Nat->List α->List α
 |cs,_,[]=>cs
 |cs,off,c::r=>setCells (cs.set off c) (off+1) r
def AO (place:Nat->Option (Nat×Nat)) (ev:Operand->AV):List Cell->List (Nat×Operand)->Option (List Cell)
 |cs,[]=>some cs
 |cs,(i,x)::r=>match place i,(ev x).cells with
  |some (off,size),some xs=>if xs.length=size then (if off+size<=cs.length then AO place ev (setCells cs off xs) r else none) else none
  |_,_=>none
def xQ (d:TypeDesc) (cs:List Cell):Option AV:=
 if aR d then some (.v (.agg cs)) else match cs with
  | [c]=>some (.v (.one c))
  |_=>none
def iI (k:IntKind) (n:Int):AV:= .v (.one (.raw (.int k n)))
def cf (b:Bool):AV:= .v (.one (.raw (.bool b)))
def TC:Operand->Bool
 | .const _=>true
 |_=>false
def WH (op:BinOp) (kk:IntKind) (a b:Int) (k:Rec->Prop):Prop:=
 match op with
 | .add=>k {val:=iI kk (kk.wrap (a+b))}
 | .sub=>k {val:=iI kk (kk.wrap (a- b))}
 | .mul=>k {val:=iI kk (kk.wrap (a*b))}
 | .quo=>ob (decide (b≠0)) (k {val:=iI kk (kk.wrap (a.tdiv b))})
 | .rem=>ob (decide (b≠0)) (k {val:=iI kk (a.tmod b)})
 | .eql=>k {val:=cf (a==b)}
 | .neq=>k {val:=cf (a !=b)}
 | .lss=>k {val:=cf (decide (a<b))}
 | .leq=>k {val:=cf (decide (a<=b))}
 | .gtr=>k {val:=cf (decide (a>b))}
 | .geq=>k {val:=cf (decide (a>=b))}
 | .and=>k {val:=iI kk (kk.wrap ((BitVec.ofInt kk.bits a&&&BitVec.ofInt kk.bits b).toNat))}
 | .or=>k {val:=iI kk (kk.wrap ((BitVec.ofInt kk.bits a|||BitVec.ofInt kk.bits b).toNat))}
 | .xor=>k {val:=iI kk (kk.wrap ((BitVec.ofInt kk.bits a^^^BitVec.ofInt kk.bits b).toNat))}
 | .andNot=>k {val:=iI kk (kk.wrap ((BitVec.ofInt kk.bits a&&& ~~~ BitVec.ofInt kk.bits b).toNat))}
 |_=>False
def eqFields (tt:List (Nat×TI)) (eq:TypeId->List Cell->List Cell->Option Bool):List Field->List Cell->List Cell->Option Bool
 | [],_,_=>some true
 |f::r,xs,ys=>match aJ tt f.type with
  |none=>none
  |some fi=>if f.name= "_" then none else
   match eq f.type ((xs.drop f.offset).take fi.size) ((ys.drop f.offset).take fi.size),eqFields tt eq r xs ys with
   |some a,some b=>some (a&&b)
   |_,_=>none
def CQ (eq:TypeId->List Cell->List Cell->Option Bool) (e s:Nat):Nat->Nat->List Cell->List Cell->Option Bool
 |0,_,_,_=>some true
 |n+1,i,xs,ys=>match eq e ((xs.drop (i*s)).take s) ((ys.drop (i*s)).take s),CQ eq e s n (i+1) xs ys with
  |some a,some b=>some (a&&b)
  |_,_=>none
def eqE (tt:List (Nat×TI)):Nat->TypeId->List Cell->List Cell->Option Bool
 |0,_,_,_=>none
 |d+1,t,xs,ys=>match aJ tt t with
  |none=>none
  |some i=>match i.desc with
   | .int _=>match xs,ys with
    | [.raw (.int k a)],[.raw (.int k' b)]=>if k=k' then some (a==b) else none
    |_,_=>none
   | .bool=>match xs,ys with
    | [.raw (.bool a)],[.raw (.bool b)]=>some (a==b)
    |_,_=>none
   | .string=>match xs,ys with
    | [.raw (.string a)],[.raw (.string b)]=>some (a==b)
    |_,_=>none
   | .struct fs=>eqFields tt (eqE tt d) fs.toList xs ys
   | .array n e=>match aJ tt e with
    |some ei=>CQ (eqE tt d) e ei.size n 0 xs ys
    |none=>none
   |_=>none
def ig (nm:Nat):List cD->List Cell×List aX
 | []=>([],[])
 | .flat v::r=>match ig nm r with|(cs,os)=>(.raw v::cs,os)
 | .sl u l::r=>match ig (nm+1) r with|(cs,os)=>(.full nm::cs,.row u l 0::os)
def cX (t:Ty) (l:List t.T) (j k size:Nat):List cD:=((t.aM (gd t l j)).drop k).take size
def kK:(t:Ty)->List cD->Option (t.T×List cD)
 | .int k,cs=>match cs with
  | .flat (.int k' n)::r=>if k=k' then some (n,r) else none
  |_=>none
 | .bool,cs=>match cs with
  | .flat (.bool b)::r=>some (b,r)
  |_=>none
 | .str,cs=>match cs with
  | .flat (.string s)::r=>some (s,r)
  |_=>none
 | .prod a b,cs=>match kK a cs with
  |some (x,r)=>match kK b r with
   |some (y,r')=>some ((x,y),r')
   |none=>none
  |none=>none
 | .sl u,cs=>match cs with
  | .sl u' l::r=>match qw u' u l with
   |some l'=>some (l',r)
   |none=>none
  |_=>none
def gN:List Cell->Option (List cD)
 | []=>some []
 | .raw v::r=>match v with
  | .int _ _=>(gN r).map (.flat v:: ·)
  | .bool _=>(gN r).map (.flat v:: ·)
  | .string _=>(gN r).map (.flat v:: ·)
  |_=>none
 |_=>none
def gy (n s:Nat):Option Nat->Nat
 |some m=>min m (n- s)
 |none=>n- s
def oM {α:Type} (l:List α) (s:Nat):Option Nat->List α
 |none=>l.drop s
 |some m=>(l.drop s).take m
def amK (dec:List Cell->Option (List cD×List Nat×List Nat)) (size:Nat) (u:Ty):Nat->List Cell->Option (List u.T×List Nat×List Nat)
 |0,_=>some ([],[],[])
 |n+1,cs=>match dec (cs.take size) with
  |some (ps,tc,ab)=>match kK u ps with
   |some (x,[])=>match amK dec size u n (cs.drop size) with
    |some (l,GM,ab')=>some (x::l,tc++GM,ab++ab')
    |none=>none
   |_=>none
  |none=>none
def BM {α:Type} (dec:List Cell->Option (α×List Cell×List Nat)):Nat->List Cell->Option (List α×List Nat)
 |0,_=>some ([],[])
 |n+1,cs=>match dec cs with
  |some (x,r,tc)=>match BM dec n r with
   |some (l,GM)=>some (x::l,tc++GM)
   |none=>none
  |none=>none
def cN (hp:HP):(t:Ty)->List Cell->Option (t.T×List Cell×List Nat)
 | .int k,cs=>match cs with
  | .raw (.int k' n)::r=>if k=k' then some (n,r,[]) else none
  |_=>none
 | .bool,cs=>match cs with
  | .raw (.bool b)::r=>some (b,r,[])
  |_=>none
 | .str,cs=>match cs with
  | .raw (.string s)::r=>some (s,r,[])
  |_=>none
 | .prod a b,cs=>match cN hp a cs with
  |some (x,r,tc)=>match cN hp b r with
   |some (y,r',GM)=>some ((x,y),r',tc++GM)
   |none=>none
  |none=>none
 | .sl u,cs=>match cs with
  | .raw (.slice none 0 _)::r=>some (([]:List u.T),r,[])
  | .full n::r=>match hp n with
   |some (.row t l _)=>match qw t u l with
    |some l'=>some (l',r,[n])
    |none=>none
   |some (.alias m s q)=>match hp m with
    |some (.row t l _)=>match qw t u l with
     |some l'=>some (oM l' s q,r,[n,m])
     |none=>none
    |_=>none
   |_=>none
  | .sl n off len cap::r=>if u.shallow&&decide (len<=cap) then (match hp n with
   |some (.cells cs _)=>match BM (cN hp u) len (cs.drop off) with
    |some (l,tc)=>some (l,r,n::tc)
    |none=>none
   |_=>none) else none
  |_=>none
def B6 (hp:HP):Ty->List Cell->Option (List Nat×Bool×List Cell)
 | .prod a b,cs=>match B6 hp a cs with
  |some (ns,f,r)=>match B6 hp b r with
   |some (ns',f',r')=>some (ns++ns',f&&f',r')
   |none=>none
  |none=>none
 | .sl u,cs=>if u.flat then (match cs with
  | .raw (.slice none 0 _)::r=>some ([],true,r)
  | .full n::r=>match hp n with
   |some (.row _ _ rk)=>if rk=0 then some ([],false,r) else some ([n],true,r)
   |some (.alias m _ _)=>match hp m with
    |some (.row _ _ rk)=>if rk=0 then some ([],false,r) else none
    |_=>none
   |_=>none
  | .sl n _ _ _::r=>match hp n with
   |some (.cells _ _)=>some ([n],true,r)
   |_=>none
  |_=>none) else none
 |_,cs=>match cs with
  |_::r=>some ([],true,r)
  | []=>none
def W7 (hp:HP) (u:Ty):Nat->List Cell->Option (List Nat×Bool)
 |0,_=>some ([],true)
 |n+1,cs=>match B6 hp u cs with
  |some (ns,f,r)=>match W7 hp u n r with
   |some (ns',f')=>some (ns++ns',f&&f')
   |none=>none
  |none=>none
def kp:List Cell->Option (List Int)
 | []=>some []
 | .raw (.int .i64 n)::r=>match kp r with
  |some l=>some (n::l)
  |none=>none
 |_=>none
def tO:List cD->Option (List Int)
 | []=>some []
 | .flat (.int .i64 n)::r=>match tO r with
  |some l=>some (n::l)
  |none=>none
 |_=>none
def WK:Ty->Bool
 | .int .i64=>true
 | .prod a b=>WK a&&WK b
 |_=>false
def ah3 (hp:Nat->Option aX) (n:Nat):Bool:=match hp n with
 |some (.row t _ _)=>WK t
 |_=>false
def B9 (off:Nat) (y:Int):Nat->List Int->List Int
 |_,[]=> []
 |q,n::r=>(bif Nat.beq off q then y else n)::B9 off y (q+1) r
def vp (off:Nat):List Int->List Int->List Int
 | [],ns=>ns
 |y::r,ns=>vp (off+1) r (B9 off y 0 ns)
def sM (ns:List Int) (off:Nat):Nat->List Cell
 |0=> []
 |m+1=> .raw (.int .i64 (ns.getD off 0))::sM ns (off+1) m
def aA (h:List aX) (n:Nat):Option aX:=match h[n]? with
 |some .gone=>none
 |o=>o
def lY (hp:HP):Nat->List aX
 |0=> []
 |n+1=>lY hp n++ [match hp n with|some o=>o|none=> .gone]
def Rk (hp:HP) (h:List aX):Nat->List (Nat×aX)
 |0=> []
 |n+1=>match hp n with
  |some _=>Rk hp h n++ [(n,match h[n]? with|some o=>o|none=> .gone)]
  |none=>Rk hp h n
def CN (hp:HP) (nm:Nat) (h:List aX) (v:AV):Rec:= {val:=v,fresh:=(h.set nm .gone).drop nm,writes:=Rk hp h nm,aO:=List.range nm}
def KC (o:Option aX) (ρ:Env) (n:Nat) (K:Prop):Prop:=match o with
 |some (.ji ρ' n')=>ρ'=ρ/\ n'=n/\ K
 |_=>False
section
variable (ctx:Ctx)
def TL (i:TI) (cs:List Cell) (n off:Nat) (k:Rec->Prop):Prop:=
 if aR i.desc then (if off+i.size<=cs.length then k {val:= .v (.agg ((cs.drop off).take i.size)),aO:= [n]} else False)
 else match cs[off]? with
  |some c=>k {val:= .v (.one c),aO:= [n]}
  |none=>False
def AR (i:TI) (x:AV) (hp:HP) (nm:Nat) (k:Rec->Prop):Prop:=
 match x with
 | .v (.one (.ptr n off))=>match hp n with
  |some (.cells cs _)=>TL i cs n off k
  |_=>False
 | .v (.one (.oB n off))=>match hp n with
  |some (.cells cs _)=>match kp cs with
   |some ns=>ob (decide (off+i.size<=cs.length)) (match xQ i.desc (sM ns off i.size) with
    |some v=>k {val:=v,aO:= [n]}
    |none=>False)
   |none=>False
  |_=>False
 | .v (.one (.br n j q))=>match hp n with
  |some (.row t l _)=>if q+i.size<=t.size then ob (decide (j<l.length)) (match ig nm (cX t l j q i.size) with
   |(cs,os)=>match xQ i.desc cs with
    |some v=>k {val:=v,fresh:=os,aO:= [n]}
    |none=>False) else False
  |some (.gv _ c _ t _ l)=>match hp c with
   |some (.set _)=>if q+i.size<=t.size then ob (decide (j<l.length)) (match ig nm (cX t l j q i.size) with
    |(cs,_)=>match xQ i.desc cs with
     |some v=>k {val:=v,aO:= [n,c]}
     |none=>False) else False
   |_=>False
  |some (.rc cs)=>if j=0 then TL i cs n q k else False
  |_=>False
 | .v (.one (.gJ n j q))=>match hp n with
  |some (.row t l _)=>match tO (t.aM (gd t l j)) with
   |some ns=>ob (decide (q+i.size<=t.size)) (ob (decide (j<l.length)) (match xQ i.desc (sM ns q i.size) with
    |some v=>k {val:=v,aO:= [n]}
    |none=>False))
   |none=>False
  |_=>False
 |_=>False
def Ym (t:Ty) (l:List t.T) (rk n j q:Nat) (ys:List Cell) (hp:HP) (k:Rec->Prop):Prop:=match ys with
 | [.full m]=>match hp m with
  |some (.row u lm rm)=>if rm=0\/ m=n\/ u.flat=false\/ t.size<q+1 then False else (match kK t (setCells (t.aM (gd t l j)) q [.sl u lm]) with
   |some (x',[])=>ob (decide (j<l.length)) (True/\ ∀l',l'=l.set j x'->k {val:=aH,writes:= [(n,.row t l' rk),(m,.gone)],aO:= [n,m]})
   |_=>False)
  |_=>False
 |_=>False
def tD (i:TI) (x y:AV) (hp:HP) (k:Rec->Prop):Prop:=
 match x,y.cells with
 | .v (.one (.ptr n off)),some ys=>if ys.length=i.size then (if qv ys then
   match hp n with
   |some (.cells cs e)=>if off+ys.length<=cs.length then k {val:=aH,writes:= [(n,.cells (setCells cs off ys) e)],aO:= [n]} else False
   |_=>False
   else False) else False
 | .v (.one (.oB n off)),some ys=>if ys.length=i.size then (match hp n with
   |some (.cells cs e)=>match kp cs,kp ys with
    |some ns,some ms=>ob (decide (off+ys.length<=cs.length)) (k {val:=aH,writes:= [(n,.cells ((vp off ms ns).map fun q=> .raw (.int .i64 q)) e)],aO:= [n]})
    |_,_=>False
   |_=>False) else False
 | .v (.one (.br n j q)),some ys=>if ys.length=i.size then (match hp n with
   |some (.row t l rk)=>if rk=0 then False else match gN ys with
    |some ps=>if q+ps.length<=t.size then (match kK t (setCells (t.aM (gd t l j)) q ps) with
     |some (x',[])=>ob (decide (j<l.length)) (True/\ ∀l',l'=l.set j x'->k {val:=aH,writes:= [(n,.row t l' rk)],aO:= [n]})
     |_=>False) else False
    |none=>Ym t l rk n j q ys hp k
   |_=>False) else False
 | .v (.one (.gJ n j q)),some ys=>if ys.length=i.size then (match hp n with
   |some (.row t l rk)=>if rk=0 then False else match kp ys,tO (t.aM (gd t l j)) with
    |some ms,some ns=>(match kK t ((vp q ms ns).map fun m=> .flat (.int .i64 m)) with
     |some (x',[])=>ob (decide (q+ys.length<=t.size)) (ob (decide (j<l.length)) (True/\ ∀l',l'=l.set j x'->k {val:=aH,writes:= [(n,.row t l' rk)],aO:= [n]}))
     |_=>False)
    |_,_=>False
   |_=>False) else False
 |_,_=>False
def kj (v:Value):List Cell:=v.cells.toList.map .raw
def Xb (fs:Array Field) (j:Nat):Option (Nat×Nat):=match fs[j]? with
 |some f=>(match aJ ctx.tt f.type with|some fi=>some (f.offset,fi.size)|none=>none)
 |none=>none
def VY (i:TI) (parts:List (Nat×Operand)) (ev:Operand->AV) (k:Rec->Prop):Prop:=
 match i.desc with
 | .struct fs=>if fs.toList.all (fun f=>(aJ ctx.tt f.type).isSome) then
   match AO (Xb ctx fs) ev (kj i.zero) parts with
   |some cs=>k {val:= .v (.agg cs)}
   |none=>False
   else False
 | .array _ e=>match aJ ctx.tt e with
  |some ei=>match AO (fun j=>some (j*ei.size,ei.size)) ev (kj i.zero) parts with
   |some cs=>k {val:= .v (.agg cs)}
   |none=>False
  |none=>False
 |_=>False
def xk (i:TI) (len:Nat) (parts:List (Nat×Operand)) (ev:Operand->AV) (nm:Nat) (k:Rec->Prop):Prop:=
 match i.desc with
 | .slice e=>match aJ ctx.tt e with
  |some ei=>if len*ei.size>2^24 then False else if len*ei.size=0 then False else
   match AO (fun j=>some (j*ei.size,ei.size)) ev ((List.range (len*ei.size)).map fun j=> .raw (ei.zero.cells[j % ei.zero.cells.size]!)) parts with
   |some cs=>k {val:= .v (.one (.sl nm 0 len len)),fresh:= [.cells cs e]}
   |none=>False
  |none=>False
 |_=>False
def mS (hp:HP) (n:Nat) (k:Prop):Prop:=match hp n with
 |some (.cells _ _)=>k
 |_=>False
def mT (hp:HP) (n j:Nat) (k:Ty->Prop):Prop:=match hp n with
 |some (.row t l _)=>ob (decide (j<l.length)) (k t)
 |some (.gv _ _ _ t _ l)=>ob (decide (j<l.length)) (k t)
 |_=>False
def aec (hp:HP) (n:Nat):Bool:=match hp n with
 |some (.rc (_::_))=>true
 |_=>false
def GO (hp:HP) (p:Nat) (k:(n:Nat)->Option Nat->Option Nat->Nat->List Nat->Prop):Prop:=match hp p with
 |some (.row _ l _)=>k p none none l.length [p]
 |some (.gv _ _ _ _ _ l)=>k p none none l.length [p]
 |some (.alias n s q)=>match hp n with
  |some (.row _ l _)=>k n (some s) q (gy l.length s q) [p,n]
  |_=>False
 |_=>False
def iL:Option Nat->Nat->Nat
 |none,j=>j
 |some s,j=>s+j
def BU (i:TI) (x:AV) (f:Nat) (hp:HP) (k:Rec->Prop):Prop:=
 match i.desc with
 | .struct fs=>match fs[f]? with
  |some fd=>match aJ ctx.tt fd.type with
   |some fi=>if fi.size=0 then False else match x with
    | .v (.one (.ptr n off))=>mS hp n (k {val:= .v (.one (.ptr n (off+fd.offset))),aO:= [n]})
    | .v (.one (.oB n off))=>mS hp n (k {val:= .v (.one (.oB n (off+fd.offset))),aO:= [n]})
    | .v (.one (.br n j q))=>(match aec hp n with
     |true=>k {val:= .v (.one (.br n j (q+fd.offset))),aO:= [n]}
     |false=>mT hp n j fun _=>k {val:= .v (.one (.br n j (q+fd.offset))),aO:= [n]})
    | .v (.one (.gJ n j q))=>mT hp n j fun _=>k {val:= .v (.one (.gJ n j (q+fd.offset))),aO:= [n]}
    |_=>False
   |none=>False
  |none=>False
 |_=>False
def OW (i:TI) (cs:List Cell) (off:Nat) (k:Rec->Prop):Prop:=
 if aR i.desc then (if off+i.size<=cs.length then k {val:= .v (.agg ((cs.drop off).take i.size))} else False)
 else match cs[off]? with
  |some c=>k {val:= .v (.one c)}
  |none=>False
def Wf (i:TI) (x:AV) (f:Nat) (k:Rec->Prop):Prop:=
 match i.desc,x with
 | .struct fs,.v (.agg cs)=>match fs[f]? with
  |some fd=>match aJ ctx.tt fd.type with
   |some fi=>OW fi cs fd.offset k
   |none=>False
  |none=>False
 |_,_=>False
def aea (hp:HP) (n:Nat):Bool:=match hp n with
 |some (.cells cs _)=>(kp cs).isSome
 |_=>false
def inR (j:Int) (n:Nat):Bool:=decide (0<=j)&&decide (j<(n:Int))
def BY (i:TI) (x ix:AV) (lit:Bool) (hp:HP) (k:Rec->Prop):Prop:=
 match ix with
 | .v (.one (.raw (.int _ j)))=>match i.desc with
  | .array n e=>match aJ ctx.tt e with
   |some ei=>match x with
    | .v (.one (.ptr m off))=>ob (inR j n) (mS hp m (if !lit&&aea hp m then k {val:= .v (.one (.oB m (off+j.toNat*ei.size))),aO:= [m]} else k {val:= .v (.one (.ptr m (off+j.toNat*ei.size))),aO:= [m]}))
    | .v (.one (.oB m off))=>ob (inR j n) (mS hp m (k {val:= .v (.one (.oB m (off+j.toNat*ei.size))),aO:= [m]}))
    | .v (.one (.br m jj q))=>ob (inR j n) (mT hp m jj fun _=>if !lit&&ah3 hp m then k {val:= .v (.one (.gJ m jj (q+j.toNat*ei.size))),aO:= [m]} else k {val:= .v (.one (.br m jj (q+j.toNat*ei.size))),aO:= [m]})
    | .v (.one (.gJ m jj q))=>ob (inR j n) (mT hp m jj fun _=>k {val:= .v (.one (.gJ m jj (q+j.toNat*ei.size))),aO:= [m]})
    |_=>False
   |none=>False
  | .slice e=>match aJ ctx.tt e with
   |some ei=>match x with
    | .v (.one (.sl m off len _))=>ob (inR j len) (mS hp m (if !lit&&aea hp m then k {val:= .v (.one (.oB m (off+j.toNat*ei.size))),aO:= [m]} else k {val:= .v (.one (.ptr m (off+j.toNat*ei.size))),aO:= [m]}))
    | .v (.one (.full p))=>GO hp p fun m s _ len tc=>ob (inR j len) (mT hp m (iL s j.toNat) fun t=>if ei.size=t.size then k {val:= .v (.one (.br m (iL s j.toNat) 0)),aO:=tc} else False)
    | .v (.one (.raw (.slice none 0 _)))=>ob (inR j 0) False
    |_=>False
   |none=>False
  |_=>False
 |_=>False
def Wx (i:TI) (x ix:AV) (lit:Bool) (k:Rec->Prop):Prop:=
 match ix with
 | .v (.one (.raw (.int _ j)))=>match i.desc,x with
  | .array n e,.v (.agg cs)=>match aJ ctx.tt e with
   |some ei=>ob (inR j n) (if lit then OW ei cs (j.toNat*ei.size) k else match kp cs with
    |some ns=>if cs.length=n*ei.size then (match xQ ei.desc (sM ns (j.toNat*ei.size) ei.size) with
     |some v=>k {val:=v}
     |none=>False) else False
    |none=>OW ei cs (j.toNat*ei.size) k)
   |none=>False
  | .string,.v (.one (.raw (.string s)))=>ob (inR j s.size) (k {val:=iI .u8 (s.get! j.toNat).toNat})
  |_,_=>False
 |_=>False
def xj (b:Option AV) (top dflt:Nat) (k:Nat->Prop):Prop:=
 match b with
 |none=>k dflt
 |some (.v (.one (.raw (.int _ j))))=>ob (decide (0<=j)&&decide (j<=(top:Int))) (k j.toNat)
 |_=>False
def Yv (hp:HP) (n es:Nat) (k:Prop):Prop:=match hp n with
 |some (.row t _ _)=>if es=t.size then k else False
 |_=>False
def Yc (i:TI) (x:AV) (lo hi mx:Option AV) (hp:HP) (nm:Nat) (k:Rec->Prop):Prop:=
 match i.desc with
 | .array n e=>match aJ ctx.tt e,x,mx with
  | some ei,.v (.one (.ptr m off)),none=>xj hi n n fun h=>xj lo h 0 fun l=>
    mS hp m (k {val:= .v (.one (.sl m (if n=l then off else off+l*ei.size) (h- l) (n- l))),aO:= [m]})
  |_,_,_=>False
 | .slice e=>match aJ ctx.tt e,x with
  | some ei,.v (.one (.sl m off len cap))=>xj mx cap cap fun c=>xj hi (if mx.isSome then c else cap) len fun h=>xj lo h 0 fun l=>
    if mx.isSome&&hi.isNone then False else k {val:= .v (.one (.sl m (if c=l then off else off+l*ei.size) (h- l) (c- l)))}
  |some ei,.v (.one (.full p))=>GO hp p fun m s q len tc=>Yv hp m ei.size (match mx with
   |none=>match hi with
    |none=>xj lo len 0 fun l=>k {val:= .v (.one (.full nm)),fresh:= [.alias m (iL s l) (q.map fun _=>len- l)],aO:=tc}
    |some _=>xj hi len len fun h=>xj lo h 0 fun l=>k {val:= .v (.one (.full nm)),fresh:= [.alias m (iL s l) (some (h- l))],aO:=tc}
   |some _=>xj mx len len fun c=>xj hi c 0 fun h=>xj lo h 0 fun l=>if hi.isNone then False else k {val:= .v (.one (.full nm)),fresh:= [.alias m (iL s l) (some (h- l))],aO:=tc})
  |some _,.v (.one (.raw (.slice none 0 c)))=>match mx with
   |none=>xj hi 0 0 fun h=>xj lo h 0 fun l=>if h=0/\ l=0/\ c=0 then k {val:= .v (.one (.raw (.slice none 0 0)))} else False
   |some _=>False
  |_,_=>False
 | .string=>match x,mx with
  | .v (.one (.raw (.string s))),none=>xj hi s.size s.size fun h=>xj lo h 0 fun l=>k {val:= .v (.one (.raw (.string (s.extract l h))))}
  |_,_=>False
 |_=>False
def Ct:A0->Option Value
 | .one (.raw v)=>some v
 | .one _=>none
 | .agg cs=>(LB cs).map fun l=> .agg l.toArray
where LB:List Cell->Option (List Value)
 | []=>some []
 | .raw v::r=>(LB r).map (v:: ·)
 |_::_=>none
def af8:AV->Option Value
 | .v a=>Ct a
 |_=>none
def MJ:List AV->Option (List Value)
 | []=>some []
 |x::r=>match af8 x,MJ r with
  |some v,some l=>some (v::l)
  |_,_=>none
def af9:AV->Option Ref
 | .v (.one (.ptr n off))=>some (.loc n off)
 | .v (.one (.br n j 0))=>some (.elem n j)
 | .v (.one (.raw v))=>some (.ext v)
 | .v (.one (.full n))=>some (.full n)
 | .v (.one (.mp n))=>some (.mp n)
 |_=>none
def MK:List AV->Option (List Ref)
 | []=>some []
 |x::r=>match af9 x,MK r with
  |some v,some l=>some (v::l)
  |_,_=>none
def Dy:Ref->AV
 | .ext v=>ofV v
 | .loc n off=> .v (.one (.ptr n off))
 | .elem n j=> .v (.one (.br n j 0))
 | .full n=> .v (.one (.full n))
 | .mp n=> .v (.one (.mp n))
def I4:Cell->Option Ref
 | .ptr n off=>some (.loc n off)
 | .br n j 0=>some (.elem n j)
 | .raw v=>if ya v then some (.ext v) else none
 | .full n=>some (.full n)
 | .mp n=>some (.mp n)
 |_=>none
def xl:List Cell->Option (List Ref)
 | []=>some []
 |c::r=>match I4 c,xl r with
  |some x,some l=>some (x::l)
  |_,_=>none
def X2:AV->Option (Bool×List Ref)
 | .v (.agg cs)=>match xl cs with
  |some l=>some (true,l)
  |none=>none
 | .v (.one c)=>match I4 c with
  |some r=>some (false,[r])
  |none=>none
 |_=>none
def Em:Ref->Cell
 | .ext v=> .raw v
 | .loc n off=> .ptr n off
 | .elem n j=> .br n j 0
 | .full n=> .full n
 | .mp n=> .mp n
def UU (agg:Bool) (rs:List Ref):AV:=match agg with
 |true=> .v (.agg (rs.map Em))
 |false=>match rs with
  | [r]=> .v (.one (Em r))
  |_=> .AH []
def vf (ev:Operand->AV):List Operand->List AV
 | []=> []
 |x::r=>ev x::vf ev r
def aG (x y:Int):Int:=if y<x then y else x
def aI (x y:Int):Int:=if y>x then y else x
def zz (f:Int->Int->Int):Int->List AV->Option Int
 |a,[]=>some a
 |a,.v (.one (.raw (.int _ b)))::r=>zz f (f a b) r
 |_,_=>none
def QK (i:Option Ty) (x:AV) (hp:HP) (k:(t:Ty)->List t.T->Nat->List Nat->Prop):Prop:=
 match x with
 | .v (.one (.raw (.slice none 0 0)))=>match i with
  |some t=>k t [] 2 []
  |none=>False
 | .v (.one (.full n))=>match hp n with
  |some (.row t l rk)=>if rk=0 then False else k t l rk [n]
  |_=>False
 |_=>False
def xV:List Nat->Bool
 | []=>true
 |x::r=> !r.contains x&&xV r
def FN (hp:HP) (t:Ty) (y:AV):Option (List Nat×Bool):=if t.flat then some ([],true) else
 match y with
 | .v (.one (.sl n off len _))=>match hp n with
  |some (.cells cs _)=>W7 hp t len (cs.drop off)
  |_=>none
 | .v (.one (.full n))=>match hp n with
  |some (.row _ _ rk)=>if rk=2 then some ([],true) else some ([],false)
  |some (.alias _ _ _)=>some ([],false)
  |_=>none
 | .v (.one (.raw (.slice none 0 _)))=>some ([],true)
 |_=>none
def QM (x y:AV) (ei:TI) (hp:HP) (nm:Nat) (k:Rec->Prop):Prop:=
 QK ei.ty x hp fun t l rk gone=>if ei.size=t.size/\ ei.bytes<=128/\ (kj ei.zero).length=ei.size then
  match y with
  | .v (.one yc)=>match cN hp (.sl t) [yc] with
   |some (ys,[],tc)=>match FN hp t y with
    |some (ab,f)=>if xV (gone++ab) then ob (decide (l.length+ys.length<1099511627776)) (k {val:= .v (.one (.full nm)),fresh:= [.row t (l++ys) (if f then rk else 1)],writes:=(gone++ab).map fun n=>(n,.gone),aO:=gone++ab++tc}) else False
    |none=>False
   |_=>False
  |_=>False
 else False
def rH (a b:Nat):Nat:=Nat.min b a
def j8 {α:Type} (l:List α) (s d:Nat) (ys:List α):List α:=l.take s++ys.take (rH d ys.length)++l.drop (s+rH d ys.length)
def ada (x y:AV) (ei:TI) (hp:HP) (k:Rec->Prop):Prop:=match x,y with
 | .v (.one (.full p)),.v (.one yc)=>GO hp p fun n s _ len tc=>match hp n with
  |some (.row t l rk)=>if rk≠0/\ t.flat=true/\ ei.size=t.size then (match cN hp (.sl t) [yc] with
   |some (ys,[],GM)=>True/\ ∀l',l'=j8 l (iL s 0) len ys->k {val:=iI .i64 (rH len ys.length:Nat),writes:= [(n,.row t l' rk)],aO:=n::(tc++GM)}
   |_=>False) else False
  |_=>False
 |_,_=>False
def aoK (hp:HP):AV->Bool
 | .v (.one (.mp n))=>match hp n with
  |some (.Om _ _ _ _ _ _)=>true
  |_=>false
 |_=>false
def JR (b:Builtin) (tys:List TypeId) (args:List AV) (hp:HP) (nm:Nat) (k:Rec->Prop):Prop:=
 match b,args with
 | .len,[x]=>match tys with
  |t::_=>match aJ ctx.tt t with
   |some i=>match i.desc,x with
    | .slice _,.v (.one (.sl _ _ len _))=>k {val:=iI .i64 len}
    | .slice _,.v (.one (.full p))=>GO hp p fun _ _ _ len tc=>k {val:=iI .i64 len,aO:=tc}
    | .slice _,.v (.one (.raw (.slice _ len _)))=>k {val:=iI .i64 len}
    | .string,.v (.one (.raw (.string s)))=>k {val:=iI .i64 s.size}
    | .map _ _,.v (.one (.mp n))=>match hp n with
     |some (.map _ _ _ _ l)=>k {val:=iI .i64 l.length,aO:= [n]}
     |_=>False
    |_,_=>False
   |none=>False
  | []=>False
 | .min,.v (.one (.raw (.int kk a)))::r=>match zz aG a r with
  |some n=>k {val:=iI kk n}
  |none=>False
 | .max,.v (.one (.raw (.int kk a)))::r=>match zz aI a r with
  |some n=>k {val:=iI kk n}
  |none=>False
 | .append,[x,y]=>match tys with
  | [t,t']=>match aJ ctx.tt t,aJ ctx.tt t' with
   |some i,some i'=>match i.desc,i'.desc with
    | .slice e,.slice _=>match aJ ctx.tt e with
     |some ei=>QM x y ei hp nm k
     |none=>False
    |_,_=>False
   |_,_=>False
  |_=>False
 | .copy,[x,y]=>match tys with
  | [t,_]=>match aJ ctx.tt t with
   |some i=>match i.desc with
    | .slice e=>match aJ ctx.tt e with
     |some ei=>ada x y ei hp k
     |none=>False
    |_=>False
   |none=>False
  |_=>False
 |_,_=>False
def m9 (i:TI) (x y:AV) (nm:Nat) (k:Rec->Prop):Prop:=
 match i.desc,x,y with
 | .slice e,.v (.one (.raw (.int .i64 n))),.v (.one (.raw (.int .i64 c)))=>match aJ ctx.tt e with
  |some ei=>match ei.ty with
   |some t=>if t.flat/\ ei.size=t.size/\ ei.bytes<=128/\ (kj ei.zero).length=ei.size then (match cN (fun _=>none) t (kj ei.zero) with
    |some (z,[],_)=>ob (decide (0<=n)&&decide (n<=c)&&decide (c.toNat<1099511627776)) (k {val:= .v (.one (.full nm)),fresh:= [.row t (List.replicate n.toNat z) 2]})
    |_=>False) else False
   |none=>False
  |none=>False
 |_,_,_=>False
def vP (t:Ty) (x:t.T):List Cell:=(t.aM x).map fun c=> .raw (aT c)
def acD (a:Bool) (t:Ty) (x:t.T):A0:=match a with
 |true=> .agg (vP t x)
 |false=>match vP t x with
  | [c]=> .one c
  |_=> .one (.raw (.tuple #[]))
def IJ (tt:List (Nat×TI)) (t:TypeId) (k:Ty):Prop:= ∀x y:k.T,eqE tt 20 t (vP k x) (vP k y)=some (BS k x y)
def aef (a:Bool) (t:Ty):AV->Option t.T
 | .v (.agg cs)=>if a then (match cN (fun _=>none) t cs with
  |some (x,[],_)=>some x
  |_=>none) else none
 | .v (.one c)=>if a then none else (match cN (fun _=>none) t [c] with
  |some (x,[],_)=>some x
  |_=>none)
 |_=>none
def KA:Value->Bool
 | .agg _=>true
 |_=>false
def TU (i:TI) (kk:TypeId->TI->TI->Ty->Ty->Prop):Prop:=match i.desc with
 | .map kt et=>match aJ ctx.tt kt,aJ ctx.tt et with
  |some ki,some ei=>match ki.ty,ei.ty with
   |some kT,some vT=>if kT.flat&&vT.flat&&(KA ei.zero==aR ei.desc) then kk kt ki ei kT vT else False
   |_,_=>False
  |_,_=>False
 |_=>False
def Y2 (i:TI) (x ix:AV) (ok:Bool) (hp:HP) (k:Rec->Prop):Prop:=
 TU ctx i fun kt ki ei kT vT=>match x with
  | .v (.one (.mp n))=>match hp n with
   |some (.map ka va IV I0 l)=>if ka=aR ki.desc/\ va=aR ei.desc then (if h:IV=kT/\ I0=vT then match aef ka IV ix,cN (fun _=>none) I0 (kj ei.zero) with
    |some a,some (z,[],_)=>IJ ctx.tt kt IV/\ True/\ ∀y,y=mX l a z->k {val:=if ok then .AH [acD va I0 y,.one (.raw (.bool (adJ l a)))] else .v (acD va I0 y),aO:= [n]}
    |_,_=>False else False) else False
   |_=>False
  |_=>False
def B2 (i:TI) (x ix v:AV) (hp:HP) (k:Rec->Prop):Prop:=
 TU ctx i fun kt ki ei kT vT=>match x with
  | .v (.one (.mp n))=>match hp n with
   |some (.map ka va IV I0 l)=>if ka=aR ki.desc/\ va=aR ei.desc then (if h:IV=kT/\ I0=vT then match aef ka IV ix,aef va I0 v with
    |some a,some b=>IJ ctx.tt kt IV/\ True/\ ∀l',l'=AF l a b->k {val:=aH,writes:= [(n,.map ka va IV I0 l')],aO:= [n]}
    |_,_=>False else False) else False
   |_=>False
  |_=>False
def TS (i:TI) (nm:Nat) (k:Rec->Prop):Prop:=
 TU ctx i fun _ ki ei kT vT=>k {val:= .v (.one (.mp nm)),fresh:= [.map (aR ki.desc) (aR ei.desc) kT vT []]}
def agO:Cell->Option (FuncId×List AV×List AV)
 | .ik (.func g) first cap=>some (g,first.map ofV,cap.map Dy)
 | .mv g agg rs=>some (g,[UU agg rs],[])
 |_=>none
def N3 (c:Call) (ev:Operand->AV) (hp:HP) (nm:Nat) (k:Rec->Prop):Prop:=
 match c.callee with
 | .builtin b=>JR ctx b c.argTypes.toList (vf ev c.args.toList) hp nm k
 | .value f=>match ev f with
  | .v (.one q)=>match agO q with
   |some (g,fs,cs)=>match aJ ctx.specs g with
    |some s=>s ctx.X (fs++vf ev c.args.toList++cs) hp nm k
    |none=>match aJ ctx.its g with
     |some WL=> ∀cn:Env,WL [] (fs++vf ev c.args.toList++cs) (lY hp nm++ [.ji cn nm]) fun v st=>KC (aA st.heap nm) cn nm (k (CN hp nm st.heap v))
     |none=>False
   |none=>match q with
    | .raw (.func (.func g) first cap)=>match aJ ctx.specs g with
     |some s=>s ctx.X (first.toList.map ofV++vf ev c.args.toList++cap.toList.map ofV) hp nm k
     |none=>False
    | .sJ n=>match aJ ctx.ys n with
     |some s=>s ctx.X (vf ev c.args.toList) hp nm k
     |none=>False
    |_=>False
  |_=>False
 |_=>False
def agE (tt:List (Nat×TI)) (t:TypeId):Bool:=match aJ tt t with|some i=>aR i.desc|none=>false
def ai4 (op:BinOp) (t:TypeId) (x y:AV) (k:Rec->Prop):Prop:=
 match x,y with
 | .v (.one (.raw (.int kk a))),.v (.one (.raw (.int k' b)))=>match op with
  | .shl=>ob (decide (0<=b)) (k {val:=iI kk (kk.wrap (a*2^(min b.toNat kk.bits)))})
  | .shr=>ob (decide (0<=b)) (k {val:=iI kk (a.fdiv (2^(min b.toNat kk.bits)))})
  |op=>if kk=k' then WH op kk a b k else False
 | .v (.one (.raw (.bool a))),.v (.one (.raw (.bool b)))=>match op with
  | .eql=>match aJ ctx.tt t with|some i=>(match i.desc with| .bool=>k {val:=cf (a==b)} |_=>False)|none=>False
  | .neq=>match aJ ctx.tt t with|some i=>(match i.desc with| .bool=>k {val:=cf (!(a==b))} |_=>False)|none=>False
  |_=>False
 | .v (.one (.raw (.string a))),.v (.one (.raw (.string b)))=>match op with
  | .eql=>k {val:=cf (a==b)}
  | .neq=>k {val:=cf (a !=b)}
  | .add=>ob (decide (a.size+b.size<4611686018427387904)) (k {val:= .v (.one (.raw (.string (a++b))))})
  |_=>False
 | .v (.agg xs),.v (.agg ys)=>match op with
  | .eql=>match agE ctx.tt t,eqE ctx.tt 20 t xs ys with|true,some b=>k {val:=cf b} |_,_=>False
  | .neq=>match agE ctx.tt t,eqE ctx.tt 20 t xs ys with|true,some b=>k {val:=cf (!b)} |_,_=>False
  |_=>False
 | .v (.one (.raw (.slice a _ _))),.v (.one (.raw (.slice none _ _)))=>match aJ ctx.tt t with
  |some i=>match i.desc,op with
   | .slice _,.eql=>k {val:=cf a.isNone}
   | .slice _,.neq=>k {val:=cf (!a.isNone)}
   |_,_=>False
  |none=>False
 |_,_=>False
def ndB (x y:AV):Bool:= !ctx.its.isEmpty&&(match x,y with
 | .v (.one (.full _)),.v (.one (.raw (.slice none 0 0)))=>true
 |_,_=>false)
def ajS (op:BinOp) (t:TypeId) (x y:AV) (hp:HP) (k:Rec->Prop):Prop:=match x,y with
 | .v (.one (.full n)),.v (.one (.raw (.slice none 0 0)))=>match hp n,aJ ctx.tt t with
  |some (.row _ l _),some i=>match i.desc,op with
   | .slice _,.eql=> ∀b:Bool,(0<l.length->b=false)->k {val:=cf b,aO:= [n]}
   | .slice _,.neq=> ∀b:Bool,(0<l.length->b=false)->k {val:=cf (!b),aO:= [n]}
   |_,_=>False
  |_,_=>False
 |_,_=>False
def opE (o:Op) (ev:Operand->AV) (hp:HP) (nm:Nat) (k:Rec->Prop):Prop:=
 match o with
 | .move x=>k {val:=ev x}
 | .assign x=>k {val:=ev x}
 | .pick c a b=>match ev c with
  | .v (.one (.raw (.bool t)))=>cB t (k {val:=ev a}) (k {val:=ev b})
  |_=>False
 | .alloc t=>match aJ ctx.tt t with
  |some i=>k {val:= .v (.one (.ptr nm 0)),fresh:= [.cells (kj i.zero) t]}
  |none=>False
 | .box t x=>match (ev x).cells with
  |some xs=>k {val:= .v (.one (.ptr nm 0)),fresh:= [.cells xs t]}
  |none=>False
 | .build t parts=>match aJ ctx.tt t with
  |some i=>VY ctx i parts.toList ev k
  |none=>False
 | .buildSlice t len parts=>match aJ ctx.tt t with
  |some i=>if Nat.beq len 0&&parts.toList.isEmpty then m9 ctx i (.v (.one (.raw (.int .i64 0)))) (.v (.one (.raw (.int .i64 0)))) nm k else xk ctx i len parts.toList ev nm k
  |none=>False
 | .load t x=>match aJ ctx.tt t with
  |some i=>AR i (ev x) hp nm k
  |none=>False
 | .store t x y=>match aJ ctx.tt t with
  |some i=>tD i (ev x) (ev y) hp k
  |none=>False
 | .nilCheck x=>match ev x with
  | .v (.one (.ptr n off))=>mS hp n (k {val:= .v (.one (.ptr n off)),aO:= [n]})
  | .v (.one (.oB n off))=>mS hp n (k {val:= .v (.one (.oB n off)),aO:= [n]})
  | .v (.one (.br n j q))=>(match aec hp n with
   |true=>k {val:= .v (.one (.br n j q)),aO:= [n]}
   |false=>mT hp n j fun _=>k {val:= .v (.one (.br n j q)),aO:= [n]})
  | .v (.one (.gJ n j q))=>mT hp n j fun _=>k {val:= .v (.one (.gJ n j q)),aO:= [n]}
  | .v (.one (.ik (.func f) first cap))=>k {val:= .v (.one (.ik (.func f) first cap))}
  | .v (.one (.mv f agg rs))=>k {val:= .v (.one (.mv f agg rs))}
  | .v (.one (.raw (.pointer (some a))))=>k {val:= .v (.one (.raw (.pointer (some a))))}
  | .v (.one (.raw (.func (.func f) first cap)))=>k {val:= .v (.one (.raw (.func (.func f) first cap)))}
  |_=>False
 | .binOp op t x y _=>if ndB ctx (ev x) (ev y) then ajS ctx op t (ev x) (ev y) hp k else ai4 ctx op t (ev x) (ev y) k
 | .unOp u _ x=>match u,ev x with
  | .neg,.v (.one (.raw (.int kk a)))=>k {val:=iI kk (kk.wrap (0- a))}
  | .not,.v (.one (.raw (.bool b)))=>k {val:=cf (!b)}
  |_,_=>False
 | .convert s d x=>match aJ ctx.tt s,aJ ctx.tt d with
  |some _,some i=>match i.desc,ev x with
   | .int kk,.v (.one (.raw (.int _ a)))=>k {val:=iI kk (kk.wrap a)}
   |_,_=>False
  |_,_=>False
 | .makeFunc fn first cap=>match MJ (vf ev first.toList),MK (vf ev cap.toList) with
  |some f,some c=>k {val:= .v (.one (.ik fn f c))}
  |_,_=>match fn,vf ev first.toList,cap.toList with
   | .func g,[r],[]=>match X2 r with
    |some (agg,rs)=>k {val:= .v (.one (.mv g agg rs))}
    |none=>False
   |_,_,_=>False
 | .makeMap t none=>match aJ ctx.tt t with
  |some i=>TS ctx i nm k
  |none=>False
 | .lookup t x ix ok=>match aJ ctx.tt t with
  |some i=>Y2 ctx i (ev x) (ev ix) ok hp k
  |none=>False
 | .mapUpdate t m ix x=>match aJ ctx.tt t with
  |some i=>B2 ctx i (ev m) (ev ix) (ev x) hp k
  |none=>False
 | .insert t m ix x=>match aJ ctx.tt t with
  |some i=>B2 ctx i (ev m) (ev ix) (ev x) hp k
  |none=>False
 | .slice t x lo hi mx=>match aJ ctx.tt t with
  |some i=>Yc ctx i (ev x) (lo.map ev) (hi.map ev) (mx.map ev) hp nm k
  |none=>False
 | .makeSlice t x y=>match aJ ctx.tt t with
  |some i=>m9 ctx i (ev x) (ev y) nm k
  |none=>False
 | .fieldAddr t x f=>match aJ ctx.tt t with
  |some i=>BU ctx i (ev x) f hp k
  |none=>False
 | .field t x f=>match aJ ctx.tt t with
  |some i=>Wf ctx i (ev x) f k
  |none=>False
 | .indexAddr t x ix=>match aJ ctx.tt t with
  |some i=>BY ctx i (ev x) (ev ix) (TC ix) hp k
  |none=>False
 | .index t x ix=>match aJ ctx.tt t with
  |some i=>Wx ctx i (ev x) (ev ix) (TC ix) k
  |none=>False
 | .extract x i=>match ev x with
  | .AH l=>match l[i]? with|some a=>k {val:= .v a} |none=>False
  |_=>False
 | .call c=>N3 ctx c ev hp nm k
 |_=>False
def kg (tmps:List AV):Option Nat->AV->List AV
 |some d,v=>tmps.set d v
 |none,_=>tmps
def AS.app (st:AS) (dst:Option Nat) (r:Rec):AS:=
 {tmps:=kg st.tmps dst r.val,heap:=r.writes.foldl (fun h p=>h.set p.1 p.2) st.heap++r.fresh}
structure pe where
 nm:Nat
 cnt:Nat
 aO:List Nat
 wr:List Nat
def OC (nm:Nat) (r:Rec):pe:= {nm:=nm,cnt:=r.fresh.length,aO:=r.aO,wr:=r.writes.map (·.1)}
def nN (nm:Nat):pe:= {nm:=nm,cnt:=0,aO:= [],wr:= []}
def GZ (ops:Array Oper) (j:Nat):Option Nat:=match ops[j]? with
 |some o=>o.dst
 |none=>none
def ajT (o:Op) (ev:Operand->AV):Bool:=o.operands.toList.all fun x=> !(ev x).ad8
def uF (o:Op) (st:AS) (k:Rec->Prop):Prop:=if ajT o (pK st.tmps) then opE ctx o (pK st.tmps) (aA st.heap) st.heap.length k else False
def qH (all:Array Oper):List Oper->List Nat->AS->List pe->(AS->List pe->Prop)->Prop
  | [],_,st,lg,K=>K st lg
  | o::rest,dec,st,lg,K=>match o.guard with
    |none=>uF ctx o.op st fun r=>qH all rest dec (st.app o.dst r) (lg++ [OC st.heap.length r]) K
    | some (j,want)=>match GZ all j with
      | some d=>match dG st.tmps d with
        | .v (.one (.raw (.bool x)))=>
          if dec.contains d then
            (if x=want then uF ctx o.op st fun r=>qH all rest dec (st.app o.dst r) (lg++ [OC st.heap.length r]) K
             else qH all rest dec {st with tmps:=kg st.tmps o.dst aH} (lg++ [nN st.heap.length]) K)
          else
            (match want with
             |true=>cB x (uF ctx o.op {st with tmps:=st.tmps.set d (cf true)} fun r=>qH all rest (d::dec) ({st with tmps:=st.tmps.set d (cf true)}.app o.dst r) (lg++ [OC st.heap.length r]) K)
                (qH all rest (d::dec) {st with tmps:=kg (st.tmps.set d (cf false)) o.dst aH} (lg++ [nN st.heap.length]) K)
             |false=>cB x (qH all rest (d::dec) {st with tmps:=kg (st.tmps.set d (cf true)) o.dst aH} (lg++ [nN st.heap.length]) K)
                (uF ctx o.op {st with tmps:=st.tmps.set d (cf false)} fun r=>qH all rest (d::dec) ({st with tmps:=st.tmps.set d (cf false)}.app o.dst r) (lg++ [OC st.heap.length r]) K))
        | .AH []=>qH all rest dec {st with tmps:=kg st.tmps o.dst aH} (lg++ [nN st.heap.length]) K
        |_=>False
      |none=>False
def direct (o:Oper):List Nat:=(o.after.toList.filter (Region.binds .any)).map (·.on)
def rX:List Oper->List Nat->List Nat
 | [],acc=>acc
 |o::r,acc=>rX r (acc++ [(direct o).foldl (fun s j=>s|||(2^j|||acc.getD j 0)) 0])
def Ob (a b:List Nat):Bool:=a.all fun x=> !b.contains x
def Dl (lg:List pe) (m:Nat):Option Nat:=lg.findIdx? fun l=>l.nm<=m&&m<l.nm+l.cnt
def lZ (ops:Array Oper) (o:Oper):List Nat:=
 (o.op.operands.toList.filterMap fun| .tmp t=>some t|_=>none)++(match o.guard with|some (g,_)=>(GZ ops g).toList|none=> [])
def W6 (ops:Array Oper) (ms:List Nat) (lg:List pe) (i:Nat):Bool:=
  match ops[i]?,lg[i]? with
  | some o,some l=>
    (direct o).all (· <i)&&(l.wr.all fun m=>l.aO.contains m)&&
    (l.aO.all fun m=>match Dl lg m with|some j=>j==i||(ms.getD i 0).testBit j|none=>true)&&
    (List.range i).all fun j=>(ms.getD i 0).testBit j||
      (match ops[j]?,lg[j]? with
       |some p,some q=>Ob l.wr q.aO&&Ob q.wr l.aO&&Ob l.wr q.wr&&
          (match p.dst with|some d=>o.dst !=some d&& !(lZ ops o).contains d|none=>true)&&
          (match o.dst with|some d=> !(lZ ops p).contains d|none=>true)
       |_,_=>false)
  |_,_=>false
def Zg (ops:Array Oper) (lg:List pe):Bool:=
 lg.length==ops.size&&(List.range ops.size).all (W6 ops (rX ops.toList []) lg)
def IW (x:Nat):List Nat->Bool
 | []=>false
 |y::r=>Nat.beq x y||IW x r
def aic:List Nat->List Nat->Bool
 | [],_=>true
 |x::r,l=>IW x l&&aic r l
def Wa:List Nat->List Nat->Bool
 | [],_=>true
 |x::r,l=> !IW x l&&Wa r l
def Ry:List Oper->Nat->List Nat->List Nat
 | [],_,acc=>acc
 |o::r,k,acc=>Ry r (k+1) ((direct o).foldl (fun s j=>s|||(2^j|||(bif Nat.blt j k then acc.getD (k- 1- j) 0 else 0))) 0::acc)
def msF (ops:Array Oper):List Nat:=(Ry ops.toList 0 []).reverse
structure OI where
 d:Option Nat
 lk:List Nat
 m:Nat
def oiL (all:Array Oper):List Oper->List Nat->List OI
 |o::r,m::ms=>⟨o.dst,lZ all o,m⟩::oiL all r ms
 |_,_=> []
def ZW (o p:OI):Bool:=
 (match p.d with
  |some d=>(match o.d with|some e=> !Nat.beq e d|none=>true)&& !IW d o.lk
  |none=>true)&&
 (match o.d with
  |some d=> !IW d p.lk
  |none=>true)
def Fp (o:OI):List OI->Nat->Nat->Bool
 |p::r,j,k+1=>(o.m.testBit j||ZW o p)&&Fp o r (j+1) k
 |_,_,_=>true
def JE (all:List OI):List OI->Nat->Bool
 | [],_=>true
 |o::r,i=>Fp o all 0 i&&JE all r (i+1)
def Q0:List Oper->Nat->Bool
 | [],_=>true
 |o::r,i=>((direct o).all fun j=>Nat.blt j i)&&Q0 r (i+1)
def af5 (ops:Array Oper):Bool:=Q0 ops.toList 0&&JE (oiL ops ops.toList (msF ops)) (oiL ops ops.toList (msF ops)) 0
structure DI where
 i:Nat
 m:Nat
 t:List Nat
 w:List Nat
def aaq:List pe->List Nat->Nat->List DI
 |l::r,m::ms,i=>(match l.aO,l.wr with
  | [],[]=>aaq r ms (i+1)
  |t,w=>⟨i,m,t,w⟩::aaq r ms (i+1))
 |_,_,_=> []
def mkL:List pe->Nat->List (Nat×Nat×Nat)
 | [],_=> []
 |l::r,i=>match l.cnt with
  |0=>mkL r (i+1)
  |c=>(i,l.nm,c)::mkL r (i+1)
def Rx (x:Nat):List (Nat×Nat×Nat)->Option Nat
 | []=>none
 |p::r=>bif Nat.ble p.2.1 x&&Nat.blt x (p.2.1+p.2.2) then some p.1 else Rx x r
def Wb (mk:List (Nat×Nat×Nat)) (o:DI):Bool:=
 aic o.w o.t&&o.t.all fun x=>match Rx x mk with|some j=>Nat.beq j o.i||o.m.testBit j|none=>true
def zu (o p:DI):Bool:=Nat.ble o.i p.i||o.m.testBit p.i||(Wa o.w p.t&&Wa p.w o.t&&Wa o.w p.w)
def wsL:List DI->List DI
 | []=> []
 |o::r=>match o.w with
  | []=>wsL r
  |_=>o::wsL r
def adj (D:List DI) (mk:List (Nat×Nat×Nat)):Bool:=(D.all fun o=>Wb mk o)&&(wsL D).all fun p=>D.all fun o=>zu o p&&zu p o
def force {α:Type} (n:Nat) (k:Nat->α):α:=match n with
 |0=>k 0
 |m+1=>k (m+1)
def Kf {α:Type} :List Nat->(List Nat->α)->α
 | [],k=>k []
 |x::r,k=>force x fun v=>Kf r fun l=>k (v::l)
def Je {α:Type} :List pe->(List pe->α)->α
 | [],k=>k []
 |e::r,k=>force e.nm fun a=>force e.cnt fun b=>Kf e.aO fun t=>Kf e.wr fun w=>Je r fun l=>k (⟨a,b,t,w⟩::l)
def Jp (ops:Array Oper) (lg:List pe):Bool:=Je lg fun lg=>
 Nat.beq lg.length ops.size&&af5 ops&&adj (aaq lg (msF ops) 0) (mkL lg 0)
def Zt (ops:Array Oper) (draw:Bool) (st:AS) (K:AS->Prop):Prop:=
 if draw then qH {ctx with ys:= [],its:= []} ops ops.toList [] st [] fun st' lg=>if Jp ops lg then K st' else False
 else qH ctx ops ops.toList [] st [] fun st' _=>K st'
inductive Src
 |same (m:Nat)
 |nil
 |cells (m len:Nat)
def uu (π:List Src) (n:Nat):Option Nat:=match π[n]? with
 |some (.same m)=>some m
 |_=>none
def qU (π:List Src):Ref->Option Ref
 | .ext v=>some (.ext v)
 | .loc n o=>match uu π n with|some m=>some (.loc m o)|none=>none
 | .elem n j=>match uu π n with|some m=>some (.elem m j)|none=>none
 | .full n=>match uu π n with|some m=>some (.full m)|none=>none
 | .mp n=>match uu π n with|some m=>some (.mp m)|none=>none
def kQ (π:List Src):List Ref->Option (List Ref)
 | []=>some []
 |r::l=>match qU π r,kQ π l with|some q,some m=>some (q::m)|_,_=>none
def lP (π:List Src):Cell->Option Cell
 | .raw v=>some (.raw v)
 | .ptr n o=>match uu π n with|some m=>some (.ptr m o)|none=>none
 | .oB n o=>match uu π n with|some m=>some (.oB m o)|none=>none
 | .sl n o l c=>match uu π n with|some m=>some (.sl m o l c)|none=>none
 | .br n j k=>match uu π n with|some m=>some (.br m j k)|none=>none
 | .gJ n j k=>match uu π n with|some m=>some (.gJ m j k)|none=>none
 | .full n=>match π[n]? with
  |some (.same m)=>some (.full m)
  |some .nil=>some (.raw (.slice none 0 0))
  |some (.cells m len)=>some (.sl m 0 len len)
  |none=>none
 | .ik f a cap=>match kQ π cap with|some c=>some (.ik f a c)|none=>none
 | .sJ n=>match uu π n with|some m=>some (.sJ m)|none=>none
 | .mp n=>match uu π n with|some m=>some (.mp m)|none=>none
 | .mv f a rs=>match kQ π rs with|some c=>some (.mv f a c)|none=>none
def ke (π:List Src):List Cell->Option (List Cell)
 | []=>some []
 |c::l=>match lP π c,ke π l with|some q,some m=>some (q::m)|_,_=>none
def NL (π:List Src):A0->Option A0
 | .one c=>match lP π c with|some q=>some (.one q)|none=>none
 | .agg cs=>match ke π cs with|some q=>some (.agg q)|none=>none
def lK (π:List Src):List A0->Option (List A0)
 | []=>some []
 |c::l=>match NL π c,lK π l with|some q,some m=>some (q::m)|_,_=>none
def Gu (π:List Src):AV->Option AV
 | .v a=>match NL π a with|some q=>some (.v q)|none=>none
 | .AH l=>match lK π l with|some q=>some (.AH q)|none=>none
 | .dead=>none
def F1 (π:List Src):Nat->Bool
 |0=>true
 |n+1=>(match π[n]? with|some (.same m)=>m==n|_=>false)&&F1 π n
def lQ (π:List Src):aX->Option aX
 | .cells cs e=>match ke π cs with|some q=>some (.cells q e)|none=>none
 | .row t l rk=>some (.row t l rk)
 | .alias n s q=>match uu π n with|some m=>some (.alias m s q)|none=>none
 | .gone=>none
 | .loop r s j=>some (.loop r s j)
 | .ji ρ n=>if F1 π n then some (.ji ρ n) else none
 | .bX S=>some (.bX S)
 | .map ka va k v l=>some (.map ka va k v l)
 | .Om ka k u l c q=>match uu π c with|some m=>some (.Om ka k u l m q)|none=>none
 | .set n=>match uu π n with|some m=>some (.set m)|none=>none
 | .gv n c k u x l=>match uu π n,uu π c with|some m,some d=>some (.gv m d k u x l)|_,_=>none
 | .rc cs=>match ke π cs with|some q=>some (.rc q)|none=>none
def NT:Src->Option Nat
 | .same m=>some m
 | .nil=>none
 | .cells m _=>some m
def IX (π:List Src) (h:List aX) (s:Src) (o:aX):Prop:=match s with
 | .same m=> ∃p,aA h m=some p/\ lQ π o=some p
 | .nil=> ∃t rk,o= .row t [] rk/\ rk≠0
 | .cells m len=> ∃t l cs e,o= .row t l 2/\ aA h m=some (.cells cs e)/\ t.flat=true/\ BM (cN (fun _=>none) t) len cs=some (l,[])/\ cs.length=len*t.size/\ Nat.ble len 1099511627776=true
def wL (π:List Src) (h:List aX):List Src->List aX->Prop
 |_::r,.gone::l=>wL π h r l
 |s::r,o::l=>IX π h s o/\ wL π h r l
 | [],[]=>True
 |_,_=>False
def AG:List Src->List aX->List Nat
 |_::r,.gone::l=>AG r l
 |s::r,_::l=>(match NT s with|some m=>m::AG r l|none=>AG r l)
 |_,_=> []
def QC (π:List Src):List AV->List AV->Prop
 |_::r,.dead::s=>QC π r s
 |x::r,y::s=>Gu π y=some x/\ QC π r s
 | [],[]=>True
 |_,_=>False
structure Ren (π:List Src) (st st':AS):Prop where
 tmps:QC π st.tmps st'.tmps
 heap:wL π st.heap π st'.heap
 inj:xV (AG π st'.heap)=true
def pN (st st':AS):Prop:= ∃π,Ren π st st'
def jm (id:Nat) (K:Exit->AS->Prop) (e:Exit) (st':AS):Prop:=match e with
 | .exit id'=>if id'=id then K .normal st' else K (.exit id') st'
 |e=>K e st'
def nc:Code->Bool
 | .seq a b=>nc a&&nc b
 | .cond _ a b=>nc a&&nc b
 | .loop c=>nc c
 | .block _ c=>nc c
 | .rangeFunc _ _ _ _=>false
 | .scope c=>nc c
 |_=>true
def Et:List AV->List Nat->List AV->List AV
 |l,t::ts,v::vs=>Et (l.set t v) ts vs
 |l,_,_=>l
def aix (hp:HP) (nm:Nat) (h:List aX) (b:Bool):Rec:=CN hp nm h (cf b)
def YW (o:Option aX) (r:Loop) (K:Prop):Prop:=match o with
 |some (.loop r' .ready none)=>r'=r/\ K
 |_=>False
def WJ (o:Option aX) (r:Loop) (K:Prop):Prop:=match o with
 |some (.loop r' .busy none)=>r'=r/\ K
 |_=>False
def Rn (r:Loop):Option Code->aX
 |none=> .loop r .ready none
 |some c=> .loop r .done (some c)
def yC (hp:HP) (nm n:Nat) (r:Loop) (cn:Env) (h:List aX) (jump:Option Code) (k:Rec->Prop):Prop:=
 WJ (aA h n) r (KC (aA h nm) cn nm (k (aix hp nm (h.set n (Rn r jump)) jump.isNone)))
def Y3 (n:Nat) (tG:Env) (tmps:List AV) (h:List aX) (K:Exit->AS->Prop):Prop:=
 KC (aA h (n+1)) tG (n+1) (match aA h n with
  |some (.loop _ .ready none)=>K .normal ⟨tmps,(h.set n .gone).set (n+1) .gone⟩
  |some (.loop _ .done (some .ret))=>K .ret ⟨tmps,(h.set n .gone).set (n+1) .gone⟩
  |some (.loop _ .done (some (.exit id)))=>K (.exit id) ⟨tmps,(h.set n .gone).set (n+1) .gone⟩
  |_=>False)
def aiq  (X0:Addr->Value->Prop) (n:Nat) (tmps:List AV) (r:Loop) (tG:Env) (ps:Array Tmp) (A B:AS->(Exit->AS->Prop)->Prop):Spec:=fun X args hp nm k=>X=X0/\ (if ps.size=args.length then
          KC (hp (n+1)) tG (n+1) (YW (hp n) r (∀cn:Env,
            A ⟨Et tmps ps.toList args,lY hp nm++ [.ji cn nm]⟩ fun e Cs=>match e with
              | .normal=>KC (aA Cs.heap nm) cn nm (YW (aA Cs.heap n) r (B ⟨Cs.tmps,Cs.heap.set n (.loop r .busy none)⟩ fun e IA=>match e with
                | .normal=>yC hp nm n r cn IA.heap none k
                | .ret=>yC hp nm n r cn IA.heap (some .ret) k
                | .exit id=>yC hp nm n r cn IA.heap (some (.exit id)) k
                |_=>False))
              |_=>False)) else False)
def cy:Code->AS->(Exit->AS->Prop)->Prop
 | .skip,st,K=>K .normal st
 | .region _ ops draw,st,K=>Zt ctx ops draw st (K .normal)
 | .seq a b,st,K=>cy a st fun e st'=>match e with
  | .normal=>cy b st' K
  |e=>K e st'
 | .cond c x y,st,K=>match pK st.tmps c with
  | .v (.one (.raw (.bool t)))=>cB t (cy x st K) (cy y st K)
  |_=>False
 | .block id c,st,K=>match aJ ctx.lp id with
  |some sp=>sp st K
  |none=>cy c st (jm id K)
 | .loop c,st,K=> ∃(I:Nat->AS->Prop),(∃m st',pN st st'/\ I m st')/\ ∀m Cs,I m Cs->cy c Cs fun e IA=>match e with
  | .normal=> ∃m' st',m'<m/\ pN IA st'/\ I m' st'
  |e=>K e IA
 | .rangeFunc g ps assign body,st,K=>if nc assign&&nc body then match pK st.tmps g with
  | .v (.one (.ik (.func f) [] cap))=>match aJ ctx.its f with
   | some WL=> ∀(r:Loop) (tG:Env),WL [(st.heap.length,aiq ctx.X st.heap.length st.tmps r tG ps (cy assign) (cy body))]
     (.v (.one (.sJ st.heap.length))::cap.map Dy) (st.heap++ [.loop r .ready none,.ji tG (st.heap.length+1)]) fun _ IA=>Y3 st.heap.length tG st.tmps IA.heap K
   |none=>False
  |_=>False else False
 | .exit id,st,K=>K (.exit id) st
 | .ret,st,K=>K .ret st
 |_,_,_=>False
def Cu (c:Code):Nat->bC
 |0,_,_=>False
 |n+1,st,K=>cy ctx c st fun e IA=>match e with
  | .normal=>Cu c n IA K
  |e=>K e IA
def Sr (st:AS):ResultVar->Option A0
 | .tmp t=>match dG st.tmps t with| .v a=>some a|_=>none
 | .cell t ty=>match dG st.tmps t,aJ ctx.tt ty with
  | .v (.one (.ptr n off)),some i=>match aA st.heap n with
   |some (.cells cs _)=>if aR i.desc then (if off+i.size<=cs.length then some (.agg ((cs.drop off).take i.size)) else none)
    else (match cs[off]? with|some c=>some (.one c)|none=>none)
   |_=>none
  |_,_=>none
def Gv (st:AS):List ResultVar->Option (List A0)
 | []=>some []
 |r::l=>match Sr ctx st r,Gv st l with
  |some a,some b=>some (a::b)
  |_,_=>none
def acg (fn:Func) (st:AS) (R:AV->AS->Prop):Prop:=
 match Gv ctx st fn.results.toList with
 |some [a]=>R (.v a) st
 |some l=>R (.AH l) st
 |none=>False
def Na (fn:Func) (args:List AV) (heap:List aX) (R:AV->AS->Prop):Prop:=
 match fn.body with
 |some c=>cy ctx c ⟨args++List.replicate (fn.ntmps- args.length) aH,heap⟩ fun e st=>match e with
  | .ret=>acg ctx fn st R
  | .normal=>acg ctx fn st R
  |_=>False
 |none=>False
end
end Go.Ev
