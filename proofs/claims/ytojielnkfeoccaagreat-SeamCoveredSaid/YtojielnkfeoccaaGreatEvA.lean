/- The abstract evaluator: values whose addresses are names, a small heap of named objects, and 'codeE', the condition under which a piece of code does what is asked. -/
import Derived.Below
import Derived.KernelRfl
noncomputable section
set_option linter.unusedSectionVars false
set_option linter.unusedVariables false
set_option linter.unusedSimpArgs false
namespace Go.Ev
inductive Ty
 |int (k:IntKind)
 |bool
 |str
 |prod (a b:Ty)
 |sl (t:Ty)
 deriving DecidableEq
@[reducible] def Ty.T:Ty->Type
 | .int _=>Int
 | .bool=>Bool
 | .str=>ByteArray
 | .prod a b=>a.T×b.T
 | .sl t=>List t.T
def Ty.d:(t:Ty)->t.T
 | .int _=>(0:Int)
 | .bool=>false
 | .str=>ByteArray.empty
 | .prod a b=>(a.d,b.d)
 | .sl t=>([]:List t.T)
def Ty.size:Ty->Nat
 | .prod a b=>a.size+b.size
 |_=>1
def Ty.flat:Ty->Bool
 | .prod a b=>a.flat&&b.flat
 | .sl _=>false
 |_=>true
def Ty.shallow:Ty->Bool
 | .prod a b=>a.shallow&&b.shallow
 | .sl t=>t.flat
 |_=>true
inductive cD
 |flat (v:Value)
 |sl (u:Ty) (l:List u.T)
def Ty.aL:(t:Ty)->t.T->List cD
 | .int k,n=> [.flat (.int k n)]
 | .bool,b=> [.flat (.bool b)]
 | .str,s=> [.flat (.string s)]
 | .prod a b,x=>a.aL x.1++b.aL x.2
 | .sl u,l=> [.sl u l]
def aR:cD->Value
 | .flat v=>v
 | .sl _ _=> .slice none 0 0
def iQ:(t:Ty)->t.T->t.T->Bool
 | .int _,x,y=>(x:Int)==y
 | .bool,x,y=>(x:Bool)==y
 | .str,x,y=>(x:ByteArray)==y
 | .prod a b,x,y=>iQ a x.1 y.1&&iQ b x.2 y.2
 | .sl _,_,_=>false
def bQ (a:Bool) (t:Ty) (x:t.T):Value:=match a with
 |true=> .agg ((t.aL x).map aR).toArray
 |false=>match (t.aL x).map aR with
  | [v]=>v
  |_=> .tuple #[]
def eI {k:Ty} {β:Type} :List (k.T×β)->k.T->Option β
 | [],_=>none
 |p::r,x=>match iQ k x p.1 with
  |true=>some p.2
  |false=>eI r x
def nj {k:Ty} {β:Type} (l:List (k.T×β)) (x:k.T):Bool:=(eI l x).isSome
def aU {k:Ty} {β:Type} (l:List (k.T×β)) (x:k.T) (z:β):β:=(eI l x).getD z
def bU {k:Ty} {β:Type} :List (k.T×β)->k.T->β->List (k.T×β)
 | [],x,y=> [(x,y)]
 |p::r,x,y=>match iQ k x p.1 with
  |true=>(x,y)::r
  |false=>p::bU r x y
def gd (t:Ty) (l:List t.T) (j:Nat):t.T:=l.getD j t.d
def jU (t u:Ty) (l:List t.T):Option (List u.T):=if h:t=u then some (h▸l) else none
inductive Ref
 |ext (v:Value)
 |loc (n off:Nat)
 |elem (n j:Nat)
 |full (n:Nat)
 |mp (n:Nat)
inductive Cell
 |raw (v:Value)
 |ptr (n off:Nat)
 |kC (n off:Nat)
 |sl (n off len cap:Nat)
 |full (n:Nat)
 |bA (n j k:Nat)
 |fq (n j k:Nat)
 |eN (f:Fn) (first:List Value) (cap:List Ref)
 |nU (n:Nat)
 |mp (n:Nat)
 |mv (f:FuncId) (agg:Bool) (rs:List Ref)
 |GR (n:Nat)
inductive A0
 |one (c:Cell)
 |agg (cs:List Cell)
inductive AV
 |v (a:A0)
 |lZ (l:List A0)
 |dead
structure qa where
 key:Sigma Ty.T
 blk:Option Nat
 base:Option Addr
 len:Nat
 cap:Nat
 es:Nat
 vals:List Value
structure Loc where
 blk:Option Nat:=none
 base:Option Addr:=none
 len:Nat:=0
 cap:Nat:=0
 es:Nat:=1
 cG:List qa:= []
abbrev Env:=Nat->Loc
inductive aQ
 |cells (cs:List Cell) (e:TypeId)
 |row (t:Ty) (l:List t.T) (rk:Nat)
 |alias (n s:Nat) (q:Option Nat)
 |gone
 |loop (r:Loop) (s:LoopState) (j:Option Code)
 |eJ (ρ:Env) (n:Nat)
 |ga (S:Nat->Prop)
 |map (ka va:Bool) (k v:Ty) (l:List (k.T×v.T))
 |jO (ka:Bool) (k u:Ty) (l:List (k.T×List u.T)) (c:Nat) (q:Option k.T)
 |set (n:Nat)
 |gv (n c:Nat) (k u:Ty) (x:k.T) (l:List u.T)
 |rc (cs:List Cell)
 |hmap (es:Array MapEntry) (ck:Nat)
 |rj (n c:Nat) (es:Array MapEntry) (ck:Nat) (ka:Bool) (k u:Ty) (l:List (k.T×List u.T)) (cur:Option (k.T×Nat))
 |dp (t:Ty) (l:List t.T) (c:Nat) (st kn:Bool)
 |nv (n c j q:Nat) (u:Ty)
 |IV (ka va:Bool) (k v:Ty) (l:List (k.T×v.T)) (y:v.T) (a:k.T) (m:Nat)
def addrOf (ρ:Env) (n off:Nat):Option Addr:=(ρ n).blk.map fun b=> {block:=b,off:=off,spot:=none}
def Ref.ae (ρ:Env):Ref->Value
 | .ext v=>v
 | .loc n off=> .pointer (addrOf ρ n off)
 | .elem n j=> .pointer ((ρ n).base.map (·.add (j*(ρ n).es+0)))
 | .full n=> .slice (ρ n).base (ρ n).len (ρ n).cap
 | .mp n=> .map (ρ n).blk
def OH (agg:Bool) (vs:List Value):Value:=match agg with
 |true=> .agg vs.toArray
 |false=>match vs with
  | [v]=>v
  |_=> .tuple #[]
def Cell.ae (ρ:Env):Cell->Value
 | .raw v=>v
 | .ptr n off=> .pointer (addrOf ρ n off)
 | .kC n off=> .pointer (addrOf ρ n off)
 | .sl n off len cap=> .slice (addrOf ρ n off) len cap
 | .full n=> .slice (ρ n).base (ρ n).len (ρ n).cap
 | .bA n j k=> .pointer ((ρ n).base.map (·.add (j*(ρ n).es+k)))
 | .fq n j k=> .pointer ((ρ n).base.map (·.add (j*(ρ n).es+k)))
 | .eN f first cap=> .func f first.toArray (cap.map (Ref.ae ρ)).toArray
 | .nU n=>match (ρ n).blk with
  |some l=> .func (.yield l) #[] #[]
  |none=> .nilFunc
 | .mp n=> .map (ρ n).blk
 | .mv f agg rs=> .func (.func f) #[OH agg (rs.map (Ref.ae ρ))] #[]
 | .GR n=> .int .i64 ((ρ n).len:Int)
def A0.ae (ρ:Env):A0->Value
 | .one c=>c.ae ρ
 | .agg cs=> .agg (cs.map (Cell.ae ρ)).toArray
def AV.ae (ρ:Env):AV->Value
 | .v a=>a.ae ρ
 | .lZ l=> .tuple (l.map (A0.ae ρ)).toArray
 | .dead=> .tuple #[]
def Ref.ok (Kn:Nat->Prop):Ref->Prop
 | .ext _=>True
 | .loc n _=>Kn n
 | .elem n _=>Kn n
 | .full n=>Kn n
 | .mp n=>Kn n
def Cell.ok (Kn:Nat->Prop):Cell->Prop
 | .raw _=>True
 | .ptr n _=>Kn n
 | .kC n _=>Kn n
 | .sl n _ _ _=>Kn n
 | .full n=>Kn n
 | .bA n _ _=>Kn n
 | .fq n _ _=>Kn n
 | .eN _ _ cap=> ∀r∈cap,r.ok Kn
 | .nU n=>Kn n
 | .mp n=>Kn n
 | .mv _ _ rs=> ∀r∈rs,r.ok Kn
 | .GR n=>Kn n
def A0.ok (Kn:Nat->Prop):A0->Prop
 | .one c=>c.ok Kn
 | .agg cs=> ∀c∈cs,c.ok Kn
def AV.ok (Kn:Nat->Prop):AV->Prop
 | .v a=>a.ok Kn
 | .lZ l=> ∀a∈l,a.ok Kn
 | .dead=>True
def aQ.ok (Kn:Nat->Prop):aQ->Prop
 | .cells cs _=> ∀c∈cs,c.ok Kn
 | .row _ _ _=>True
 | .alias n _ _=>Kn n
 | .gone=>True
 | .loop _ _ _=>True
 | .eJ _ n=> ∀m,m<n->Kn m
 | .ga _=>True
 | .map _ _ _ _ _=>True
 | .jO _ _ _ _ c _=>Kn c
 | .set n=>Kn n
 | .gv n c _ _ _ _=>Kn n/\ Kn c
 | .rc cs=> ∀c∈cs,c.ok Kn
 | .hmap _ _=>True
 | .rj n c _ _ _ _ _ _ cur=>Kn n/\ Kn c/\ ∀p,cur=some p->Kn p.2
 | .dp _ _ c _ _=>Kn c
 | .nv n c _ _ _=>Kn n/\ Kn c
 | .IV _ _ _ _ _ _ _ m=>Kn m
def aT:AV:= .lZ []
def T1:Value->A0
 | .agg cs=> .agg (cs.toList.map .raw)
 |v=> .one (.raw v)
def Ws (v:Value):AV:= .v (T1 v)
def sJ:Value->Bool
 | .agg _=>false
 | .tuple _=>false
 |_=>true
def Cell.one:Cell->Bool
 | .raw v=>sJ v
 |_=>true
def A0.cells:A0->Option (List Cell)
 | .one c=>if c.one then some [c] else none
 | .agg cs=>some cs
def AV.cells:AV->Option (List Cell)
 | .v a=>a.cells
 | .lZ _=>none
 | .dead=>none
def AV.Ta:AV->Bool
 | .dead=>true
 |_=>false
def mT:List Cell->Bool
 | []=>true
 |c::r=>if c.one then mT r else false
structure Rec where
 val:AV
 fresh:List aQ:= []
 writes:List (Nat×aQ):= []
 aB:List Nat:= []
structure TI where
 desc:TypeDesc
 size:Nat
 bytes:Nat
 zero:Value
 ty:Option Ty
def cB (b:Bool) (p q:Prop):Prop:=match b with|true=>p|false=>q
def ob (b:Bool) (p:Prop):Prop:=match b with|true=>p|false=>False
def aG {α:Type _} :List (Nat×α)->Nat->Option α
 | [],_=>none
 |(k,a)::r,n=>if k=n then some a else aG r n
def az:TypeDesc->Bool
 | .struct _=>true
 | .array _ _=>true
 |_=>false
def dP:List AV->Nat->AV
 | [],_=>aT
 |a::_,0=>a
 |_::r,n+1=>dP r n
abbrev HP:=Nat->Option aQ
abbrev Spec:=(Addr->Value->Prop)->List AV->HP->Nat->(Rec->Prop)->Prop
structure AS where
 tmps:List AV
 heap:List aQ
abbrev iu:=List (Nat×Spec)->List AV->List aQ->(AV->AS->Prop)->Prop
abbrev bE:=AS->(Exit->AS->Prop)->Prop
structure Ctx where
 tt:List (Nat×TI)
 specs:List (Nat×Spec)
 X:Addr->Value->Prop
 lp:List (Nat×bE):= []
 ys:List (Nat×Spec):= []
 its:List (Nat×iu):= []
def fM (tmps:List AV):Operand->AV
 | .tmp t=>dP tmps t
 | .const v=>Ws v
 | .global g=> .v (.one (.raw (.pointer (some {block:=g,off:=0,spot:=none}))))
 | .func f=> .v (.one (.eN (.func f) [] []))
def setCells {α:Type} :List α->Nat->List α->List α
 |cs,_,[]=>cs
 |cs,off,c::r=>setCells (cs.set off c) (off+1) r
def uk (place:Nat->Option (Nat×Nat)) (ev:Operand->AV):List Cell->List (Nat×Operand)->Option (List Cell)
 |cs,[]=>some cs
 |cs,(i,x)::r=>match place i,(ev x).cells with
  |some (off,size),some xs=>if xs.length=size then (if off+size<=cs.length then uk place ev (setCells cs off xs) r else none) else none
  |_,_=>none
def oI (d:TypeDesc) (cs:List Cell):Option AV:=
 if az d then some (.v (.agg cs)) else match cs with
  | [c]=>some (.v (.one c))
  |_=>none
def eu (k:IntKind) (n:Int):AV:= .v (.one (.raw (.int k n)))
def bH (b:Bool):AV:= .v (.one (.raw (.bool b)))
def JV:Operand->Bool
 | .const _=>true
 |_=>false
def Mx (op:BinOp) (kk:IntKind) (a b:Int) (k:Rec->Prop):Prop:=
 match op with
 | .add=>k {val:=eu kk (kk.wrap (a+b))}
 | .sub=>k {val:=eu kk (kk.wrap (a- b))}
 | .mul=>k {val:=eu kk (kk.wrap (a*b))}
 | .quo=>ob (decide (b≠0)) (k {val:=eu kk (kk.wrap (a.tdiv b))})
 | .rem=>ob (decide (b≠0)) (k {val:=eu kk (a.tmod b)})
 | .eql=>k {val:=bH (a==b)}
 | .neq=>k {val:=bH (a !=b)}
 | .lss=>k {val:=bH (decide (a<b))}
 | .leq=>k {val:=bH (decide (a<=b))}
 | .gtr=>k {val:=bH (decide (a>b))}
 | .geq=>k {val:=bH (decide (a>=b))}
 | .and=>k {val:=eu kk (kk.wrap ((BitVec.ofInt kk.bits a&&&BitVec.ofInt kk.bits b).toNat))}
 | .or=>k {val:=eu kk (kk.wrap ((BitVec.ofInt kk.bits a|||BitVec.ofInt kk.bits b).toNat))}
 | .xor=>k {val:=eu kk (kk.wrap ((BitVec.ofInt kk.bits a^^^BitVec.ofInt kk.bits b).toNat))}
 | .andNot=>k {val:=eu kk (kk.wrap ((BitVec.ofInt kk.bits a&&& ~~~ BitVec.ofInt kk.bits b).toNat))}
 |_=>False
def eqFields (tt:List (Nat×TI)) (eq:TypeId->List Cell->List Cell->Option Bool):List Field->List Cell->List Cell->Option Bool
 | [],_,_=>some true
 |f::r,xs,ys=>match aG tt f.type with
  |none=>none
  |some fi=>if f.name= "_" then none else
   match eq f.type ((xs.drop f.offset).take fi.size) ((ys.drop f.offset).take fi.size),eqFields tt eq r xs ys with
   |some a,some b=>some (a&&b)
   |_,_=>none
def wI (eq:TypeId->List Cell->List Cell->Option Bool) (e s:Nat):Nat->Nat->List Cell->List Cell->Option Bool
 |0,_,_,_=>some true
 |n+1,i,xs,ys=>match eq e ((xs.drop (i*s)).take s) ((ys.drop (i*s)).take s),wI eq e s n (i+1) xs ys with
  |some a,some b=>some (a&&b)
  |_,_=>none
def P5 (tt:List (Nat×TI)):Nat->TypeId->List Cell->List Cell->Option Bool
 |0,_,_,_=>none
 |d+1,t,xs,ys=>match aG tt t with
  |none=>none
  |some i=>match i.desc with
   | .int _=>match xs,ys with
    | [.raw (.int k a)],[.raw (.int k' b)]=>if k=k' then some (a==b) else none
    |_,_=>none
   | .bool=>match xs,ys with
    | [.raw (.bool a)],[.raw (.bool b)]=>some (a==b)
    |_,_=>none
   | .string=>match xs,ys with
    | [.raw (.string a)],[.raw (.string b)]=>some (a==b)
    |_,_=>none
   | .struct fs=>eqFields tt (P5 tt d) fs.toList xs ys
   | .array n e=>match aG tt e with
    |some ei=>wI (P5 tt d) e ei.size n 0 xs ys
    |none=>none
   |_=>none
def fC (nm:Nat):List cD->List Cell×List aQ
 | []=>([],[])
 | .flat v::r=>match fC nm r with|(cs,os)=>(.raw v::cs,os)
 | .sl u l::r=>match fC (nm+1) r with|(cs,os)=>(.full nm::cs,.row u l 0::os)
def bB (t:Ty) (l:List t.T) (j k size:Nat):List cD:=((t.aL (gd t l j)).drop k).take size
def ig:(t:Ty)->List cD->Option (t.T×List cD)
 | .int k,cs=>match cs with
  | .flat (.int k' n)::r=>if k=k' then some (n,r) else none
  |_=>none
 | .bool,cs=>match cs with
  | .flat (.bool b)::r=>some (b,r)
  |_=>none
 | .str,cs=>match cs with
  | .flat (.string s)::r=>some (s,r)
  |_=>none
 | .prod a b,cs=>match ig a cs with
  |some (x,r)=>match ig b r with
   |some (y,r')=>some ((x,y),r')
   |none=>none
  |none=>none
 | .sl u,cs=>match cs with
  | .sl u' l::r=>match jU u' u l with
   |some l'=>some (l',r)
   |none=>none
  |_=>none
def sH (u:Ty):Nat->List cD->Option (List u.T)
 |0,[]=>some []
 |0,_::_=>none
 |n+1,cs=>match ig u cs with
  |some (x,r)=>match sH u n r with
   |some l=>some (x::l)
   |none=>none
  |none=>none
def fU:List Cell->Option (List cD)
 | []=>some []
 | .raw v::r=>match v with
  | .int _ _=>(fU r).map (.flat v:: ·)
  | .bool _=>(fU r).map (.flat v:: ·)
  | .string _=>(fU r).map (.flat v:: ·)
  |_=>none
 |_=>none
def fO (n s:Nat):Option Nat->Nat
 |some m=>min m (n- s)
 |none=>n- s
def nF {α:Type} (l:List α) (s:Nat):Option Nat->List α
 |none=>l.drop s
 |some m=>(l.drop s).take m
def acF (dec:List Cell->Option (List cD×List Nat×List Nat)) (size:Nat) (u:Ty):Nat->List Cell->Option (List u.T×List Nat×List Nat)
 |0,_=>some ([],[],[])
 |n+1,cs=>match dec (cs.take size) with
  |some (ps,tc,ab)=>match ig u ps with
   |some (x,[])=>match acF dec size u n (cs.drop size) with
    |some (l,Ee,ab')=>some (x::l,tc++Ee,ab++ab')
    |none=>none
   |_=>none
  |none=>none
def tW {α:Type} (dec:List Cell->Option (α×List Cell×List Nat)):Nat->List Cell->Option (List α×List Nat)
 |0,_=>some ([],[])
 |n+1,cs=>match dec cs with
  |some (x,r,tc)=>match tW dec n r with
   |some (l,Ee)=>some (x::l,tc++Ee)
   |none=>none
  |none=>none
def cL (hp:HP):(t:Ty)->List Cell->Option (t.T×List Cell×List Nat)
 | .int k,cs=>match cs with
  | .raw (.int k' n)::r=>if k=k' then some (n,r,[]) else none
  |_=>none
 | .bool,cs=>match cs with
  | .raw (.bool b)::r=>some (b,r,[])
  |_=>none
 | .str,cs=>match cs with
  | .raw (.string s)::r=>some (s,r,[])
  |_=>none
 | .prod a b,cs=>match cL hp a cs with
  |some (x,r,tc)=>match cL hp b r with
   |some (y,r',Ee)=>some ((x,y),r',tc++Ee)
   |none=>none
  |none=>none
 | .sl u,cs=>match cs with
  | .raw (.slice none 0 _)::r=>some (([]:List u.T),r,[])
  | .full n::r=>match hp n with
   |some (.row t l _)=>match jU t u l with
    |some l'=>some (l',r,[n])
    |none=>none
   |some (.alias m s q)=>match hp m with
    |some (.row t l _)=>match jU t u l with
     |some l'=>some (nF l' s q,r,[n,m])
     |none=>none
    |_=>none
   |some (.dp t l c _ kn)=>match kn,hp c with
    |true,some (.set _)=>match jU t u l with
     |some l'=>some (l',r,[n,c])
     |none=>none
    |_,_=>none
   |_=>none
  | .sl n off len cap::r=>if u.shallow&&decide (len<=cap) then (match hp n with
   |some (.cells cs _)=>match tW (cL hp u) len (cs.drop off) with
    |some (l,tc)=>some (l,r,n::tc)
    |none=>none
   |_=>none) else none
  |_=>none
def vv (hp:HP):Ty->List Cell->Option (List Nat×Bool×List Cell)
 | .prod a b,cs=>match vv hp a cs with
  |some (ns,f,r)=>match vv hp b r with
   |some (ns',f',r')=>some (ns++ns',f&&f',r')
   |none=>none
  |none=>none
 | .sl u,cs=>if u.flat then (match cs with
  | .raw (.slice none 0 _)::r=>some ([],true,r)
  | .full n::r=>match hp n with
   |some (.row _ _ rk)=>if rk=0 then some ([],false,r) else some ([n],true,r)
   |some (.alias m _ _)=>match hp m with
    |some (.row _ _ rk)=>if rk=0 then some ([],false,r) else none
    |_=>none
   |_=>none
  | .sl n _ _ _::r=>match hp n with
   |some (.cells _ _)=>some ([n],true,r)
   |_=>none
  |_=>none) else none
 |_,cs=>match cs with
  |_::r=>some ([],true,r)
  | []=>none
def MW (hp:HP) (u:Ty):Nat->List Cell->Option (List Nat×Bool)
 |0,_=>some ([],true)
 |n+1,cs=>match vv hp u cs with
  |some (ns,f,r)=>match MW hp u n r with
   |some (ns',f')=>some (ns++ns',f&&f')
   |none=>none
  |none=>none
def iI:List Cell->Option (List Int)
 | []=>some []
 | .raw (.int .i64 n)::r=>match iI r with
  |some l=>some (n::l)
  |none=>none
 |_=>none
def pM:List cD->Option (List Int)
 | []=>some []
 | .flat (.int .i64 n)::r=>match pM r with
  |some l=>some (n::l)
  |none=>none
 |_=>none
def MB:Ty->Bool
 | .int .i64=>true
 | .prod a b=>MB a&&MB b
 |_=>false
def WR (hp:Nat->Option aQ) (n:Nat):Bool:=match hp n with
 |some (.row t _ _)=>MB t
 |_=>false
def vz (off:Nat) (y:Int):Nat->List Int->List Int
 |_,[]=> []
 |q,n::r=>(bif Nat.beq off q then y else n)::vz off y (q+1) r
def qF (off:Nat):List Int->List Int->List Int
 | [],ns=>ns
 |y::r,ns=>qF (off+1) r (vz off y 0 ns)
def oS (ns:List Int) (off:Nat):Nat->List Cell
 |0=> []
 |m+1=> .raw (.int .i64 (ns.getD off 0))::oS ns (off+1) m
def av (h:List aQ) (n:Nat):Option aQ:=match h[n]? with
 |some .gone=>none
 |o=>o
def dM (hp:HP):Nat->List aQ
 |0=> []
 |n+1=>dM hp n++ [match hp n with|some o=>o|none=> .gone]
def HF (hp:HP) (h:List aQ):Nat->List (Nat×aQ)
 |0=> []
 |n+1=>match hp n with
  |some _=>HF hp h n++ [(n,match h[n]? with|some o=>o|none=> .gone)]
  |none=>HF hp h n
def wC (hp:HP) (nm:Nat) (h:List aQ) (v:AV):Rec:= {val:=v,fresh:=(h.set nm .gone).drop nm,writes:=HF hp h nm,aB:=List.range nm}
def Da (o:Option aQ) (ρ:Env) (n:Nat) (K:Prop):Prop:=match o with
 |some (.eJ ρ' n')=>ρ'=ρ/\ n'=n/\ K
 |_=>False
section
variable (ctx:Ctx)
def xn (i:TI) (cs:List Cell) (n off:Nat) (k:Rec->Prop):Prop:=
 if az i.desc then (if off+i.size<=cs.length then k {val:= .v (.agg ((cs.drop off).take i.size)),aB:= [n]} else False)
 else match cs[off]? with
  |some c=>k {val:= .v (.one c),aB:= [n]}
  |none=>False
def oF (i:TI) (x:AV) (hp:HP) (nm:Nat) (k:Rec->Prop):Prop:=
 match x with
 | .v (.one (.ptr n off))=>match hp n with
  |some (.cells cs _)=>xn i cs n off k
  |_=>False
 | .v (.one (.kC n off))=>match hp n with
  |some (.cells cs _)=>match iI cs with
   |some ns=>ob (decide (off+i.size<=cs.length)) (match oI i.desc (oS ns off i.size) with
    |some v=>k {val:=v,aB:= [n]}
    |none=>False)
   |none=>False
  |_=>False
 | .v (.one (.bA n j q))=>match hp n with
  |some (.row t l _)=>if q+i.size<=t.size then ob (decide (j<l.length)) (match fC nm (bB t l j q i.size) with
   |(cs,os)=>match oI i.desc cs with
    |some v=>k {val:=v,fresh:=os,aB:= [n]}
    |none=>False) else False
  |some (.gv _ c _ t _ l)=>match hp c with
   |some (.set _)=>if q+i.size<=t.size then ob (decide (j<l.length)) (match fC nm (bB t l j q i.size) with
    |(cs,_)=>match oI i.desc cs with
     |some v=>k {val:=v,aB:= [n,c]}
     |none=>False) else False
   |_=>False
  |some (.rc cs)=>if j=0 then xn i cs n q k else False
  |_=>False
 | .v (.one (.fq n j q))=>match hp n with
  |some (.row t l _)=>match pM (t.aL (gd t l j)) with
   |some ns=>ob (decide (q+i.size<=t.size)) (ob (decide (j<l.length)) (match oI i.desc (oS ns q i.size) with
    |some v=>k {val:=v,aB:= [n]}
    |none=>False))
   |none=>False
  |_=>False
 |_=>False
def Nx (t:Ty) (l:List t.T) (rk n j q:Nat) (ys:List Cell) (hp:HP) (k:Rec->Prop):Prop:=match ys with
 | [.full m]=>match hp m with
  |some (.row u lm rm)=>if rm=0\/ rk=3\/ m=n\/ u.flat=false\/ t.size<q+1 then False else (match ig t (setCells (t.aL (gd t l j)) q [.sl u lm]) with
   |some (x',[])=>ob (decide (j<l.length)) (True/\ ∀l',l'=l.set j x'->k {val:=aT,writes:= [(n,.row t l' rk),(m,.gone)],aB:= [n,m]})
   |_=>False)
  |_=>False
 |_=>False
def pE (i:TI) (x y:AV) (hp:HP) (k:Rec->Prop):Prop:=
 match x,y.cells with
 | .v (.one (.ptr n off)),some ys=>if ys.length=i.size then (if mT ys then
   match hp n with
   |some (.cells cs e)=>if off+ys.length<=cs.length then k {val:=aT,writes:= [(n,.cells (setCells cs off ys) e)],aB:= [n]} else False
   |_=>False
   else False) else False
 | .v (.one (.kC n off)),some ys=>if ys.length=i.size then (match hp n with
   |some (.cells cs e)=>match iI cs,iI ys with
    |some ns,some ms=>ob (decide (off+ys.length<=cs.length)) (k {val:=aT,writes:= [(n,.cells ((qF off ms ns).map fun q=> .raw (.int .i64 q)) e)],aB:= [n]})
    |_,_=>False
   |_=>False) else False
 | .v (.one (.bA n j q)),some ys=>if ys.length=i.size then (match hp n with
   |some (.row t l rk)=>if rk=0\/ rk=3 then False else match fU ys with
    |some ps=>if q+ps.length<=t.size then (match ig t (setCells (t.aL (gd t l j)) q ps) with
     |some (x',[])=>ob (decide (j<l.length)) (True/\ ∀l',l'=l.set j x'->k {val:=aT,writes:= [(n,.row t l' rk)],aB:= [n]})
     |_=>False) else False
    |none=>Nx t l rk n j q ys hp k
   |_=>False) else False
 | .v (.one (.fq n j q)),some ys=>if ys.length=i.size then (match hp n with
   |some (.row t l rk)=>if rk=0\/ rk=3 then False else match iI ys,pM (t.aL (gd t l j)) with
    |some ms,some ns=>(match ig t ((qF q ms ns).map fun m=> .flat (.int .i64 m)) with
     |some (x',[])=>ob (decide (q+ys.length<=t.size)) (ob (decide (j<l.length)) (True/\ ∀l',l'=l.set j x'->k {val:=aT,writes:= [(n,.row t l' rk)],aB:= [n]}))
     |_=>False)
    |_,_=>False
   |_=>False) else False
 |_,_=>False
def gX (v:Value):List Cell:=v.cells.toList.map .raw
def MZ (fs:Array Field) (j:Nat):Option (Nat×Nat):=match fs[j]? with
 |some f=>(match aG ctx.tt f.type with|some fi=>some (f.offset,fi.size)|none=>none)
 |none=>none
def Lz (i:TI) (parts:List (Nat×Operand)) (ev:Operand->AV) (k:Rec->Prop):Prop:=
 match i.desc with
 | .struct fs=>if fs.toList.all (fun f=>(aG ctx.tt f.type).isSome) then
   match uk (MZ ctx fs) ev (gX i.zero) parts with
   |some cs=>k {val:= .v (.agg cs)}
   |none=>False
   else False
 | .array _ e=>match aG ctx.tt e with
  |some ei=>match uk (fun j=>some (j*ei.size,ei.size)) ev (gX i.zero) parts with
   |some cs=>k {val:= .v (.agg cs)}
   |none=>False
  |none=>False
 |_=>False
def rM (i:TI) (len:Nat) (parts:List (Nat×Operand)) (ev:Operand->AV) (nm:Nat) (k:Rec->Prop):Prop:=
 match i.desc with
 | .slice e=>match aG ctx.tt e with
  |some ei=>if len*ei.size>2^24 then False else if len*ei.size=0 then False else
   match uk (fun j=>some (j*ei.size,ei.size)) ev ((List.range (len*ei.size)).map fun j=> .raw (ei.zero.cells[j % ei.zero.cells.size]!)) parts with
   |some cs=>k {val:= .v (.one (.sl nm 0 len len)),fresh:= [.cells cs e]}
   |none=>False
  |none=>False
 |_=>False
def eC (hp:HP) (n:Nat) (k:Prop):Prop:=match hp n with
 |some (.cells _ _)=>k
 |_=>False
def kz (hp:HP) (n j:Nat) (k:Ty->Prop):Prop:=match hp n with
 |some (.row t l _)=>ob (decide (j<l.length)) (k t)
 |some (.gv _ _ _ t _ l)=>ob (decide (j<l.length)) (k t)
 |some (.dp t l _ _ _)=>ob (decide (j<l.length)) (k t)
 |_=>False
def Tf (hp:HP) (n:Nat):Bool:=match hp n with
 |some (.rc (_::_))=>true
 |_=>false
def z8 (hp:HP) (p:Nat) (k:(n:Nat)->Option Nat->Option Nat->Nat->List Nat->Prop):Prop:=match hp p with
 |some (.row _ l _)=>k p none none l.length [p]
 |some (.gv _ _ _ _ _ l)=>k p none none l.length [p]
 |some (.dp _ l _ _ _)=>k p none none l.length [p]
 |some (.alias n s q)=>match hp n with
  |some (.row _ l _)=>k n (some s) q (fO l.length s q) [p,n]
  |_=>False
 |_=>False
def gH:Option Nat->Nat->Nat
 |none,j=>j
 |some s,j=>s+j
def kG (i:TI) (x:AV) (f:Nat) (hp:HP) (k:Rec->Prop):Prop:=
 match i.desc with
 | .struct fs=>match fs[f]? with
  |some fd=>match aG ctx.tt fd.type with
   |some fi=>if fi.size=0 then False else match x with
    | .v (.one (.ptr n off))=>eC hp n (k {val:= .v (.one (.ptr n (off+fd.offset))),aB:= [n]})
    | .v (.one (.kC n off))=>eC hp n (k {val:= .v (.one (.kC n (off+fd.offset))),aB:= [n]})
    | .v (.one (.bA n j q))=>(match Tf hp n with
     |true=>k {val:= .v (.one (.bA n j (q+fd.offset))),aB:= [n]}
     |false=>kz hp n j fun _=>k {val:= .v (.one (.bA n j (q+fd.offset))),aB:= [n]})
    | .v (.one (.fq n j q))=>kz hp n j fun _=>k {val:= .v (.one (.fq n j (q+fd.offset))),aB:= [n]}
    |_=>False
   |none=>False
  |none=>False
 |_=>False
def FZ (i:TI) (cs:List Cell) (off:Nat) (k:Rec->Prop):Prop:=
 if az i.desc then (if off+i.size<=cs.length then k {val:= .v (.agg ((cs.drop off).take i.size))} else False)
 else match cs[off]? with
  |some c=>k {val:= .v (.one c)}
  |none=>False
def L0 (i:TI) (x:AV) (f:Nat) (k:Rec->Prop):Prop:=
 match i.desc,x with
 | .struct fs,.v (.agg cs)=>match fs[f]? with
  |some fd=>match aG ctx.tt fd.type with
   |some fi=>FZ fi cs fd.offset k
   |none=>False
  |none=>False
 |_,_=>False
def Td (hp:HP) (n:Nat):Bool:=match hp n with
 |some (.cells cs _)=>(iI cs).isSome
 |_=>false
def Rs (j:Int) (n:Nat):Bool:=decide (0<=j)&&decide (j<(n:Int))
def vj (i:TI) (x ix:AV) (lit:Bool) (hp:HP) (k:Rec->Prop):Prop:=
 match ix with
 | .v (.one (.raw (.int _ j)))=>match i.desc with
  | .array n e=>match aG ctx.tt e with
   |some ei=>match x with
    | .v (.one (.ptr m off))=>ob (Rs j n) (eC hp m (if !lit&&Td hp m then k {val:= .v (.one (.kC m (off+j.toNat*ei.size))),aB:= [m]} else k {val:= .v (.one (.ptr m (off+j.toNat*ei.size))),aB:= [m]}))
    | .v (.one (.kC m off))=>ob (Rs j n) (eC hp m (k {val:= .v (.one (.kC m (off+j.toNat*ei.size))),aB:= [m]}))
    | .v (.one (.bA m jj q))=>ob (Rs j n) (kz hp m jj fun _=>if !lit&&WR hp m then k {val:= .v (.one (.fq m jj (q+j.toNat*ei.size))),aB:= [m]} else k {val:= .v (.one (.bA m jj (q+j.toNat*ei.size))),aB:= [m]})
    | .v (.one (.fq m jj q))=>ob (Rs j n) (kz hp m jj fun _=>k {val:= .v (.one (.fq m jj (q+j.toNat*ei.size))),aB:= [m]})
    |_=>False
   |none=>False
  | .slice e=>match aG ctx.tt e with
   |some ei=>match x with
    | .v (.one (.sl m off len _))=>ob (Rs j len) (eC hp m (if Nat.beq len 1 then k {val:= .v (.one (.ptr m off)),aB:= [m]} else if !lit&&Td hp m then k {val:= .v (.one (.kC m (off+j.toNat*ei.size))),aB:= [m]} else k {val:= .v (.one (.ptr m (off+j.toNat*ei.size))),aB:= [m]}))
    | .v (.one (.full p))=>z8 hp p fun m s _ len tc=>ob (Rs j len) (kz hp m (gH s j.toNat) fun t=>if ei.size=t.size then k {val:= .v (.one (.bA m (gH s j.toNat) 0)),aB:=tc} else False)
    | .v (.one (.raw (.slice none 0 _)))=>ob (Rs j 0) False
    |_=>False
   |none=>False
  |_=>False
 |_=>False
def Mm (i:TI) (x ix:AV) (lit:Bool) (k:Rec->Prop):Prop:=
 match ix with
 | .v (.one (.raw (.int _ j)))=>match i.desc,x with
  | .array n e,.v (.agg cs)=>match aG ctx.tt e with
   |some ei=>ob (Rs j n) (if lit then FZ ei cs (j.toNat*ei.size) k else match iI cs with
    |some ns=>if cs.length=n*ei.size then (match oI ei.desc (oS ns (j.toNat*ei.size) ei.size) with
     |some v=>k {val:=v}
     |none=>False) else False
    |none=>FZ ei cs (j.toNat*ei.size) k)
   |none=>False
  | .string,.v (.one (.raw (.string s)))=>ob (Rs j s.size) (k {val:=eu .u8 (s.get! j.toNat).toNat})
  |_,_=>False
 |_=>False
def qe (b:Option AV) (top dflt:Nat) (k:Nat->Prop):Prop:=
 match b with
 |none=>k dflt
 |some (.v (.one (.raw (.int _ j))))=>ob (decide (0<=j)&&decide (j<=(top:Int))) (k j.toNat)
 |_=>False
def ND (hp:HP) (n es:Nat) (k:Prop):Prop:=match hp n with
 |some (.row t _ _)=>if es=t.size then k else False
 |_=>False
def Ca (hp:HP) (p:Nat):Option (List Int):=match hp p with
 |some (.row (.int .i64) l 3)=>some l
 |_=>none
def Nk (i:TI) (x:AV) (lo hi mx:Option AV) (hp:HP) (nm:Nat) (k:Rec->Prop):Prop:=
 match i.desc with
 | .array n e=>match aG ctx.tt e,x,mx with
  | some ei,.v (.one (.ptr m off)),none=>qe hi n n fun h=>qe lo h 0 fun l=>
    eC hp m (k {val:= .v (.one (.sl m (if n=l then off else off+l*ei.size) (h- l) (n- l))),aB:= [m]})
  |some ei,.v (.one (.bA m j q)),none=>match lo,hi,hp m,ei.ty with
   |none,none,some (.row t l 0),some u=>if n≠0/\ u.flat=true/\ ei.size=u.size/\ q+n*u.size<=t.size then (match sH u n (bB t l j q (n*u.size)) with
    |some xs=>ob (decide (j<l.length)) (k {val:= .v (.one (.full nm)),fresh:= [.row u xs 0],aB:= [m]})
    |none=>False) else False
   |_,_,_,_=>False
  |_,_,_=>False
 | .slice e=>match aG ctx.tt e,x with
  | some ei,.v (.one (.sl m off len cap))=>qe mx cap cap fun c=>qe hi (if mx.isSome then c else cap) len fun h=>qe lo h 0 fun l=>
    if mx.isSome&&hi.isNone then False else k {val:= .v (.one (.sl m (if c=l then off else off+l*ei.size) (h- l) (c- l)))}
  |some ei,.v (.one (.full p))=>z8 hp p fun m s q len tc=>ND hp m ei.size (match mx with
   |none=>match hi with
    |none=>match Ca hp p with
     |some l0=>qe lo l0.length 0 fun j=>k {val:= .v (.one (.full nm)),fresh:= [.row (.int .i64) (l0.drop j) 3],writes:= [(p,.gone)],aB:= [p]}
     |none=>qe lo len 0 fun l=>k {val:= .v (.one (.full nm)),fresh:= [.alias m (gH s l) (q.map fun _=>len- l)],aB:=tc}
    |some _=>match Ca hp p,lo with
     |some l0,none=>qe hi l0.length l0.length fun h=>k {val:= .v (.one (.full nm)),fresh:= [.row (.int .i64) (l0.take h) 3],writes:= [(p,.gone)],aB:= [p]}
     |_,_=>qe hi len len fun h=>qe lo h 0 fun l=>k {val:= .v (.one (.full nm)),fresh:= [.alias m (gH s l) (some (h- l))],aB:=tc}
   |some _=>qe mx len len fun c=>qe hi c 0 fun h=>qe lo h 0 fun l=>if hi.isNone then False else k {val:= .v (.one (.full nm)),fresh:= [.alias m (gH s l) (some (h- l))],aB:=tc})
  |some _,.v (.one (.raw (.slice none 0 c)))=>match mx with
   |none=>qe hi 0 0 fun h=>qe lo h 0 fun l=>if h=0/\ l=0/\ c=0 then k {val:= .v (.one (.raw (.slice none 0 0)))} else False
   |some _=>False
  |_,_=>False
 | .string=>match x,mx with
  | .v (.one (.raw (.string s))),none=>qe hi s.size s.size fun h=>qe lo h 0 fun l=>k {val:= .v (.one (.raw (.string (s.extract l h))))}
  |_,_=>False
 |_=>False
def vP:A0->Option Value
 | .one (.raw v)=>some v
 | .one _=>none
 | .agg cs=>(DB cs).map fun l=> .agg l.toArray
where DB:List Cell->Option (List Value)
 | []=>some []
 | .raw v::r=>(DB r).map (v:: ·)
 |_::_=>none
def UU:AV->Option Value
 | .v a=>vP a
 |_=>none
def Ef:List AV->Option (List Value)
 | []=>some []
 |x::r=>match UU x,Ef r with
  |some v,some l=>some (v::l)
  |_,_=>none
def UW:AV->Option Ref
 | .v (.one (.ptr n off))=>some (.loc n off)
 | .v (.one (.bA n j 0))=>some (.elem n j)
 | .v (.one (.raw v))=>some (.ext v)
 | .v (.one (.full n))=>some (.full n)
 | .v (.one (.mp n))=>some (.mp n)
 |_=>none
def Eg:List AV->Option (List Ref)
 | []=>some []
 |x::r=>match UW x,Eg r with
  |some v,some l=>some (v::l)
  |_,_=>none
def xE:Ref->AV
 | .ext v=>Ws v
 | .loc n off=> .v (.one (.ptr n off))
 | .elem n j=> .v (.one (.bA n j 0))
 | .full n=> .v (.one (.full n))
 | .mp n=> .v (.one (.mp n))
def BL:Cell->Option Ref
 | .ptr n off=>some (.loc n off)
 | .bA n j 0=>some (.elem n j)
 | .raw v=>if sJ v then some (.ext v) else none
 | .full n=>some (.full n)
 | .mp n=>some (.mp n)
 |_=>none
def rN:List Cell->Option (List Ref)
 | []=>some []
 |c::r=>match BL c,rN r with
  |some x,some l=>some (x::l)
  |_,_=>none
def M6:AV->Option (Bool×List Ref)
 | .v (.agg cs)=>match rN cs with
  |some l=>some (true,l)
  |none=>none
 | .v (.one c)=>match BL c with
  |some r=>some (false,[r])
  |none=>none
 |_=>none
def xL:Ref->Cell
 | .ext v=> .raw v
 | .loc n off=> .ptr n off
 | .elem n j=> .bA n j 0
 | .full n=> .full n
 | .mp n=> .mp n
def Ks (agg:Bool) (rs:List Ref):AV:=match agg with
 |true=> .v (.agg (rs.map xL))
 |false=>match rs with
  | [r]=> .v (.one (xL r))
  |_=> .lZ []
def qz (ev:Operand->AV):List Operand->List AV
 | []=> []
 |x::r=>ev x::qz ev r
def aO (x y:Int):Int:=if y<x then y else x
def aS (x y:Int):Int:=if y>x then y else x
def tx (f:Int->Int->Int):Int->List AV->Option Int
 |a,[]=>some a
 |a,.v (.one (.raw (.int _ b)))::r=>tx f (f a b) r
 |_,_=>none
def BH (i:Option Ty) (x:AV) (hp:HP) (k:(t:Ty)->List t.T->Nat->List Nat->Nat->List Nat->Prop):Prop:=
 match x with
 | .v (.one (.raw (.slice none 0 0)))=>match i with
  |some t=>k t [] 2 [] 0 []
  |none=>False
 | .v (.one (.full n))=>match hp n with
  |some (.row t l rk)=>if rk=0 then False else k t l rk [n] 0 []
  |_=>False
 | .v (.one (.sl n _ 0 c))=>match i with
  |some t=>match hp n with
   |some (.cells _ _)=>k t [] 3 [] c [n]
   |_=>False
  |none=>False
 |_=>False
def mV (rk:Nat) (f:Bool):Nat:=match f with
 |true=>rk
 |false=>match rk with
  |3=>3
  |_=>1
def qD:List Nat->Bool
 | []=>true
 |x::r=> !r.contains x&&qD r
def uR (hp:HP) (t:Ty) (y:AV):Option (List Nat×Bool):=if t.flat then some ([],true) else
 match y with
 | .v (.one (.sl n off len _))=>match hp n with
  |some (.cells cs _)=>MW hp t len (cs.drop off)
  |_=>none
 | .v (.one (.full n))=>match hp n with
  |some (.row _ _ rk)=>if rk=2 then some ([],true) else some ([],false)
  |some (.alias _ _ _)=>some ([],false)
  |_=>none
 | .v (.one (.raw (.slice none 0 _)))=>some ([],true)
 |_=>none
def wh (x y:AV) (ei:TI) (hp:HP) (nm:Nat) (k:Rec->Prop):Prop:=
 BH ei.ty x hp fun t l rk gone c tb=>if ei.size=t.size/\ ei.bytes<=128/\ (gX ei.zero).length=ei.size then
  match y with
  | .v (.one yc)=>match cL hp (.sl t) [yc] with
   |some (ys,[],tc)=>match uR hp t y with
    |some (ab,f)=>if qD (gone++ab)&&(Nat.ble c 0||Nat.blt c ys.length) then ob (decide (l.length+ys.length<1099511627776)) (k {val:= .v (.one (.full nm)),fresh:= [.row t (l++ys) (mV rk f)],writes:=(gone++ab).map fun n=>(n,.gone),aB:=gone++ab++tc++tb}) else False
    |none=>False
   |_=>False
  |_=>False
 else False
def ov (a b:Nat):Nat:=Nat.min b a
def iV {α:Type} (l:List α) (s d:Nat) (ys:List α):List α:=l.take s++ys.take (ov d ys.length)++l.drop (s+ov d ys.length)
def RU (x y:AV) (ei:TI) (hp:HP) (k:Rec->Prop):Prop:=match x,y with
 | .v (.one (.full p)),.v (.one yc)=>z8 hp p fun n s _ len tc=>match hp n with
  |some (.row t l rk)=>if (rk≠0/\ rk≠3)/\ t.flat=true/\ ei.size=t.size then (match cL hp (.sl t) [yc] with
   |some (ys,[],Ee)=>True/\ ∀l',l'=iV l (gH s 0) len ys->k {val:=eu .i64 (ov len ys.length:Nat),writes:= [(n,.row t l' rk)],aB:=n::(tc++Ee)}
   |_=>False) else False
  |_=>False
 |_,_=>False
def abv:Value->Bool
 | .slice none 0 0=>true
 |_=>false
def gTy (i:TI) (kk:TypeId->TI->Ty->Ty->Prop):Prop:=match i.desc with
 | .map kt et=>match aG ctx.tt kt,aG ctx.tt et with
  |some ki,some ei=>match ki.ty,ei.ty with
   |some kT,some (.sl uT)=>if kT.flat&&uT.flat&&abv ei.zero&& !az ei.desc then kk kt ki kT uT else False
   |_,_=>False
  |_,_=>False
 |_=>False
def Xy (hp:HP):AV->Bool
 | .v (.one (.mp n))=>match hp n with
  |some (.jO _ _ _ _ _ _)=>true
  |_=>false
 |_=>false
def adQ (hp:HP):AV->Bool
 | .v (.one (.full n))=>match hp n with
  |some (.gv _ _ _ _ _ _)=>true
  |_=>false
 |_=>false
def abQ (i:TI):Bool:=match i.desc with
 | .map _ et=>match aG ctx.tt et with
  |some ei=>match ei.ty with
   |some (.sl _)=>true
   |_=>false
  |none=>false
 |_=>false
def qw:Option aQ->Bool
 |some (.set _)=>true
 |_=>false
def Xz (hp:HP) (n:Nat):Bool:=match hp n with
 |some (.nv _ _ _ _ _)=>true
 |_=>false
def abf (hp:HP) (n:Nat):Bool:=match hp n with
 |some (.nv _ _ _ _ _)=>true
 |some (.dp _ _ _ _ _)=>true
 |_=>false
def abh (hp:HP):AV->Bool
 | .v (.one (.full n))=>Xz hp n
 |_=>false
def Tb (hp:HP):AV->Bool
 | .v (.one (.bA n _ _))=>abf hp n
 |_=>false
def On:cD->List Value
 | .flat _=> []
 | .sl u l=>l.flatMap fun x=>(u.aL x).map aR
def TQ (t:Ty) (l:List t.T):List Value:=l.flatMap fun x=>(t.aL x).flatMap On
def setInt:(u:Ty)->List u.T->Nat->Int->Option (List u.T)
 | .int .i64,x,k,y=>some (List.set (show List Int from x) k y)
 |_,_,_,_=>none
def zZ (hp:HP) (m:Nat) (k:(n c j q:Nat)->(t:Ty)->List t.T->(st kn:Bool)->(u:Ty)->List u.T->Prop):Prop:=match hp m with
 |some (.nv n c j q u)=>match hp n with
  |some (.dp t l c' st kn)=>if c'=c/\ qw (hp c)=true then ob (decide (j<l.length)) (match (t.aL (gd t l j))[q]? with
   |some (.sl u' x)=>if u'=u then k n c j q t l st kn u' x else False
   |_=>False) else False
  |_=>False
 |_=>False
def Y6 (hp:HP) (m:Nat) (k:Rec->Prop):Prop:=zZ hp m fun n c _ _ _ _ _ _ _ x=>k {val:=eu .i64 x.length,aB:= [m,n,c]}
def Ie (i:TI) (x ix:AV) (hp:HP) (k:Rec->Prop):Prop:=match ix,x with
 | .v (.one (.raw (.int _ j0))),.v (.one (.full m))=>match i.desc with
  | .slice e=>match aG ctx.tt e with
   |some ei=>zZ hp m fun n c _ _ _ _ _ _ u y=>ob (Rs j0 y.length) (if ei.size=u.size then k {val:= .v (.one (.bA m j0.toNat 0)),aB:= [m,n,c]} else False)
   |none=>False
  |_=>False
 |_,_=>False
def Hu (i:TI) (x:AV) (hp:HP) (nm:Nat) (k:Rec->Prop):Prop:=match x with
 | .v (.one (.bA n j q))=>match hp n with
  |some (.dp t l c _ _)=>if qw (hp c)=true/\ az i.desc=false then ob (decide (j<l.length)) (match (t.aL (gd t l j))[q]? with
   |some (.sl u _)=>k {val:= .v (.one (.full nm)),fresh:= [.nv n c j q u],aB:= [n,c]}
   |_=>False) else False
  |some (.nv _ _ _ _ _)=>zZ hp n fun n' c _ _ _ _ _ kn u y=>if q+i.size<=u.size then ob kn (ob (decide (j<y.length)) (match fC 0 (bB u y j q i.size) with
   |(cs,_)=>match oI i.desc cs with
    |some v=>k {val:=v,aB:= [n,n',c]}
    |none=>False)) else False
  |_=>False
 |_=>False
def CG (i:TI) (x y:AV) (hp:HP) (nm:Nat) (k:Rec->Prop):Prop:=match x,y.cells with
 | .v (.one (.bA m k0 r)),some ys=>zZ hp m fun n c j q t l st kn u z=>match iI ys with
  |some [y0]=>if r=0/\ i.size=1 then (match setInt u z k0 y0 with
   |some z'=>ob (decide (k0<z.length)) (match st with
    |false=>k {val:=aT,fresh:= [.set n],writes:= [(n,.dp t l nm false false),(c,.gone),(m,.gone)],aB:= [m,n,c]}
    |true=>match ig t (setCells (t.aL (gd t l j)) q [.sl u z']) with
     |some (x',[])=>ob kn ((TQ t l).Nodup/\ ∀l',l'=l.set j x'->k {val:=aT,fresh:= [.set n],writes:= [(n,.dp t l' nm true true),(c,.gone),(m,.gone)],aB:= [m,n,c]})
     |_=>False)
   |none=>False) else False
  |_=>False
 |_,_=>False
def G9 (x y:AV) (ei:TI) (hp:HP) (nm:Nat) (k:Rec->Prop):Prop:=match x with
 | .v (.one (.full m))=>match hp m with
  |some (.gv n c kT uT a l0)=>match hp n with
   |some (.jO ka fu II l c' none)=>if c'=c/\ qw (hp c)=true/\ ei.size=uT.size/\ ei.bytes<=128/\ (gX ei.zero).length=ei.size then (if h:kT=fu/\ uT=II then match y with
    | .v (.one (.sl p off len cap))=>match hp p with
     |some (.cells cs _)=>match tW (cL (fun _=>none) uT) len (cs.drop off) with
      |some (ys,_)=>ob (decide (len<=cap)&&decide (l0.length+ys.length<1099511627776)) (k {val:= .v (.one (.full (nm+2))),fresh:= [.set n,.gone,.row uT (l0++ys) 1],writes:= [(n,.jO ka fu II l nm (some (h.1▸a))),(c,.gone)],aB:= [m,n,c,p]})
      |none=>False
     |_=>False
    |_=>False else False) else False
   |_=>False
  |_=>False
 |_=>False
def Ct (b:Builtin) (W5:List TypeId) (args:List AV) (hp:HP) (nm:Nat) (k:Rec->Prop):Prop:=
 match b,args with
 | .len,[x]=>match W5 with
  |t::_=>match aG ctx.tt t with
   |some i=>match i.desc,x with
    | .slice _,.v (.one (.sl _ _ len _))=>k {val:=eu .i64 len}
    | .slice _,.v (.one (.full p))=>if Xz hp p then Y6 hp p k else z8 hp p fun _ _ _ len tc=>k {val:=eu .i64 len,aB:=tc}
    | .slice _,.v (.one (.raw (.slice _ len _)))=>k {val:=eu .i64 len}
    | .string,.v (.one (.raw (.string s)))=>k {val:=eu .i64 s.size}
    | .map _ _,.v (.one (.mp n))=>match hp n with
     |some (.map _ _ _ _ l)=>k {val:=eu .i64 l.length,aB:= [n]}
     |_=>False
    |_,_=>False
   |none=>False
  | []=>False
 | .min,.v (.one (.raw (.int kk a)))::r=>match tx aO a r with
  |some n=>k {val:=eu kk n}
  |none=>False
 | .max,.v (.one (.raw (.int kk a)))::r=>match tx aS a r with
  |some n=>k {val:=eu kk n}
  |none=>False
 | .append,[x,y]=>match W5 with
  | [t,t']=>match aG ctx.tt t,aG ctx.tt t' with
   |some i,some i'=>match i.desc,i'.desc with
    | .slice e,.slice _=>match aG ctx.tt e with
     |some ei=>if adQ hp x then G9 x y ei hp nm k else wh x y ei hp nm k
     |none=>False
    |_,_=>False
   |_,_=>False
  |_=>False
 | .copy,[x,y]=>match W5 with
  | [t,_]=>match aG ctx.tt t with
   |some i=>match i.desc with
    | .slice e=>match aG ctx.tt e with
     |some ei=>RU x y ei hp k
     |none=>False
    |_=>False
   |none=>False
  |_=>False
 |_,_=>False
def kJ (i:TI) (x y:AV) (nm:Nat) (k:Rec->Prop):Prop:=
 match i.desc,x,y with
 | .slice e,.v (.one (.raw (.int .i64 n))),.v (.one (.raw (.int .i64 c)))=>match aG ctx.tt e with
  |some ei=>match ei.ty with
   |some t=>if t.flat/\ ei.size=t.size/\ ei.bytes<=128/\ (gX ei.zero).length=ei.size then (match cL (fun _=>none) t (gX ei.zero) with
    |some (z,[],_)=>ob (decide (0<=n)&&decide (n<=c)&&decide (c.toNat<1099511627776)) (k {val:= .v (.one (.full nm)),fresh:= [.row t (List.replicate n.toNat z) 2]})
    |_=>False) else False
   |none=>False
  |none=>False
 |_,_,_=>False
def qG (t:Ty) (x:t.T):List Cell:=(t.aL x).map fun c=> .raw (aR c)
def nR (a:Bool) (t:Ty) (x:t.T):A0:=match a with
 |true=> .agg (qG t x)
 |false=>match qG t x with
  | [c]=> .one c
  |_=> .one (.raw (.tuple #[]))
def jL (tt:List (Nat×TI)) (t:TypeId) (k:Ty):Prop:= ∀x y:k.T,P5 tt 20 t (qG k x) (qG k y)=some (iQ k x y)
def HM (a:Bool) (t:Ty):AV->Option t.T
 | .v (.agg cs)=>if a then (match cL (fun _=>none) t cs with
  |some (x,[],_)=>some x
  |_=>none) else none
 | .v (.one c)=>if a then none else (match cL (fun _=>none) t [c] with
  |some (x,[],_)=>some x
  |_=>none)
 |_=>none
def C9:Value->Bool
 | .agg _=>true
 |_=>false
def FJ (i:TI) (kk:TypeId->TI->TI->Ty->Ty->Prop):Prop:=match i.desc with
 | .map kt et=>match aG ctx.tt kt,aG ctx.tt et with
  |some ki,some ei=>match ki.ty,ei.ty with
   |some kT,some vT=>if kT.flat&&vT.flat&&(C9 ei.zero==az ei.desc) then kk kt ki ei kT vT else False
   |_,_=>False
  |_,_=>False
 |_=>False
def Oe (i:TI) (x ix:AV) (ok:Bool) (hp:HP) (k:Rec->Prop):Prop:=
 FJ ctx i fun kt ki ei kT vT=>match x with
  | .v (.one (.mp n))=>match hp n with
   |some (.map ka va fu lF l)=>if ka=az ki.desc/\ va=az ei.desc then (if h:fu=kT/\ lF=vT then match HM ka fu ix,cL (fun _=>none) lF (gX ei.zero) with
    |some a,some (z,[],_)=>jL ctx.tt kt fu/\ True/\ ∀y,y=aU l a z->k {val:=if ok then .lZ [nR va lF y,.one (.raw (.bool (nj l a)))] else .v (nR va lF y),aB:= [n]}
    |_,_=>False else False) else False
   |_=>False
  |_=>False
def vn (i:TI) (x ix v:AV) (hp:HP) (k:Rec->Prop):Prop:=
 FJ ctx i fun kt ki ei kT vT=>match x with
  | .v (.one (.mp n))=>match hp n with
   |some (.map ka va fu lF l)=>if ka=az ki.desc/\ va=az ei.desc then (if h:fu=kT/\ lF=vT then match HM ka fu ix,HM va lF v with
    |some a,some b=>jL ctx.tt kt fu/\ True/\ ∀l',l'=bU l a b->k {val:=aT,writes:= [(n,.map ka va fu lF l')],aB:= [n]}
    |_,_=>False else False) else False
   |_=>False
  |_=>False
def FI (i:TI) (x ix:AV) (hp:HP) (nm:Nat) (k:Rec->Prop):Prop:=
 FJ ctx i fun kt ki ei kT vT=>match x with
  | .v (.one (.mp n))=>match hp n with
   |some (.map ka va fu lF l)=>if ka=az ki.desc/\ va=az ei.desc then (if h:fu=kT/\ lF=vT then match HM ka fu ix,cL (fun _=>none) lF (gX ei.zero) with
    |some a,some (z,[],_)=>jL ctx.tt kt fu/\ k {val:= .lZ [nR va lF (aU l a z),.one (.GR nm)],fresh:= [.gone],writes:= [(n,.IV ka va fu lF l (aU l a z) a nm)],aB:= [n]}
    |_,_=>False else False) else False
   |_=>False
  |_=>False
def rV (x s v:AV) (hp:HP) (k:Rec->Prop):Prop:=match x,s with
 | .v (.one (.mp n)),.v (.one (.GR m))=>match hp n with
  |some (.IV ka va kT vT l _ a m')=>if m'=m then (match HM va vT v with
   |some b=>True/\ ∀l',l'=bU l a b->k {val:=aT,writes:= [(n,.map ka va kT vT l')],aB:= [n]}
   |none=>False) else False
  |_=>False
 |_,_=>False
def J6 (i:TI) (nm:Nat) (k:Rec->Prop):Prop:=
 FJ ctx i fun _ ki ei kT vT=>k {val:= .v (.one (.mp nm)),fresh:= [.map (az ki.desc) (az ei.desc) kT vT []]}
def Og (i:TI) (x ix:AV) (ok:Bool) (hp:HP) (nm:Nat) (k:Rec->Prop):Prop:=
 gTy ctx i fun kt ki kT uT=>match x with
  | .v (.one (.mp n))=>match hp n with
   |some (.jO ka fu II l c none)=>if ka=az ki.desc/\ ok=false/\ qw (hp c)=true then (if h:fu=kT/\ II=uT then match HM ka fu ix with
    |some a=>jL ctx.tt kt fu/\ True/\ ∀y,y=aU l a []->k {val:= .v (.one (.full nm)),fresh:= [.gv n c fu II a y],aB:= [n,c]}
    |none=>False else False) else False
   |_=>False
  |_=>False
def Dj (i:TI) (x ix v:AV) (hp:HP) (nm:Nat) (k:Rec->Prop):Prop:=
 gTy ctx i fun kt ki kT uT=>match x,v with
  | .v (.one (.mp n)),.v (.one (.full m))=>match hp n,hp m with
   |some (.jO ka fu II l c (some a0)),some (.row t l2 rk)=>if ka=az ki.desc/\ qw (hp c)=true/\ rk≠0/\ rk≠3 then (if h:fu=kT/\ II=uT then match HM ka fu ix,jU t II l2 with
    |some a,some z=>jL ctx.tt kt fu/\ a=a0/\ True/\ ∀l',l'=bU l a z->k {val:=aT,fresh:= [.set n],writes:= [(n,.jO ka fu II l' nm none),(c,.gone),(m,.gone)],aB:= [n,c,m]}
    |_,_=>False else False) else False
   |_,_=>False
  |_,_=>False
def J7 (i:TI) (nm:Nat) (k:Rec->Prop):Prop:=
 gTy ctx i fun _ ki kT uT=>k {val:= .v (.one (.mp nm)),fresh:= [.jO (az ki.desc) kT uT [] (nm+1) none,.set nm]}
def M0 (t:TypeId) (x:AV) (hp:HP) (nm:Nat) (k:Rec->Prop):Prop:=match aG ctx.tt t with
 |some i=>match i.desc,x with
  | .map _ _,.v (.one (.mp n))=>match hp n with
   |some (.jO ka kT uT l c none)=>ob (qw (hp c)) (∀es ck,k {val:= .v (.one (.ptr nm 0)),fresh:= [.rj n c es ck ka kT uT l none],writes:= [(n,.hmap es ck)],aB:= [n,c]})
   |_=>False
  |_,_=>False
 |none=>False
def lQ {k u:Ty} (l:List (k.T×List u.T)) (i:Nat):k.T×List u.T:=l.getD i (k.d,[])
def TU (x:AV) (hp:HP) (nm:Nat) (k:Rec->Prop):Prop:=match x with
 | .v (.one (.ptr r 0))=>match hp r with
  |some (.rj n c es ck ka kT uT l _)=>match hp n with
   | some (.hmap es' iy)=>ob (qw (hp c)) (es'=es/\ iy=ck/\ (l= []->k {val:= .lZ [.one (.raw (.bool false))],aB:= [r,n,c]})/\
     ∀i,i<l.length->k {val:= .lZ [.one (.raw (.bool true)),nR ka kT (lQ l i).1,.one (.full (nm+1))],fresh:= [.set n,.row uT (lQ l i).2 1],writes:= [(r,.rj n nm es ck ka kT uT (l.eraseIdx i) (some ((lQ l i).1,nm+1))),(c,.gone)],aB:= [r,n,c]})
   |_=>False
  |_=>False
 |_=>False
def LV (x:AV) (hp:HP) (k:Rec->Prop):Prop:=match x with
 | .v (.one (.ptr r 0))=>match hp r with
  |some (.rj n _ es ck ka kT _ _ (some (a,m)))=>match hp n,hp m with
   |some (.hmap es' iy),some (.row _ _ _)=>es'=es/\ iy=ck/\ k {val:= .lZ [nR ka kT a,.one (.full m)],aB:= [r,n,m]}
   |_,_=>False
  |_=>False
 |_=>False
def VG:Cell->Option (FuncId×List AV×List AV)
 | .eN (.func g) first cap=>some (g,first.map Ws,cap.map xE)
 | .mv g agg rs=>some (g,[Ks agg rs],[])
 |_=>none
def E5 (c:Call) (ev:Operand->AV) (hp:HP) (nm:Nat) (k:Rec->Prop):Prop:=
 match c.callee with
 | .builtin b=>Ct ctx b c.argTypes.toList (qz ev c.args.toList) hp nm k
 | .value f=>match ev f with
  | .v (.one q)=>match VG q with
   |some (g,fs,cs)=>match aG ctx.specs g with
    |some s=>s ctx.X (fs++qz ev c.args.toList++cs) hp nm k
    |none=>match aG ctx.its g with
     |some MC=> ∀cJ:Env,MC [] (fs++qz ev c.args.toList++cs) (dM hp nm++ [.eJ cJ nm]) fun v st=>Da (av st.heap nm) cJ nm (k (wC hp nm st.heap v))
     |none=>False
   |none=>match q with
    | .raw (.func (.func g) first cap)=>match aG ctx.specs g with
     |some s=>s ctx.X (first.toList.map Ws++qz ev c.args.toList++cap.toList.map Ws) hp nm k
     |none=>False
    | .nU n=>match aG ctx.ys n with
     |some s=>s ctx.X (qz ev c.args.toList) hp nm k
     |none=>False
    |_=>False
  |_=>False
 |_=>False
def Vt (tt:List (Nat×TI)) (t:TypeId):Bool:=match aG tt t with|some i=>az i.desc|none=>false
def X2 (op:BinOp) (t:TypeId) (x y:AV) (k:Rec->Prop):Prop:=
 match x,y with
 | .v (.one (.raw (.int kk a))),.v (.one (.raw (.int k' b)))=>match op with
  | .shl=>ob (decide (0<=b)) (k {val:=eu kk (kk.wrap (a*2^(min b.toNat kk.bits)))})
  | .shr=>ob (decide (0<=b)) (k {val:=eu kk (a.fdiv (2^(min b.toNat kk.bits)))})
  |op=>if kk=k' then Mx op kk a b k else False
 | .v (.one (.raw (.bool a))),.v (.one (.raw (.bool b)))=>match op with
  | .eql=>match aG ctx.tt t with|some i=>(match i.desc with| .bool=>k {val:=bH (a==b)} |_=>False)|none=>False
  | .neq=>match aG ctx.tt t with|some i=>(match i.desc with| .bool=>k {val:=bH (!(a==b))} |_=>False)|none=>False
  |_=>False
 | .v (.one (.raw (.string a))),.v (.one (.raw (.string b)))=>match op with
  | .eql=>k {val:=bH (a==b)}
  | .neq=>k {val:=bH (a !=b)}
  | .add=>ob (decide (a.size+b.size<4611686018427387904)) (k {val:= .v (.one (.raw (.string (a++b))))})
  |_=>False
 | .v (.agg xs),.v (.agg ys)=>match op with
  | .eql=>match Vt ctx.tt t,P5 ctx.tt 20 t xs ys with|true,some b=>k {val:=bH b} |_,_=>False
  | .neq=>match Vt ctx.tt t,P5 ctx.tt 20 t xs ys with|true,some b=>k {val:=bH (!b)} |_,_=>False
  |_=>False
 | .v (.one (.raw (.slice a _ _))),.v (.one (.raw (.slice none _ _)))=>match aG ctx.tt t with
  |some i=>match i.desc,op with
   | .slice _,.eql=>k {val:=bH a.isNone}
   | .slice _,.neq=>k {val:=bH (!a.isNone)}
   |_,_=>False
  |none=>False
 |_,_=>False
def YO:AV->Bool
 | .v (.one (.ptr _ _))=>true
 | .v (.one (.raw (.pointer _)))=>true
 |_=>false
def Zc (op:BinOp) (t:TypeId) (x y:AV) (hp:HP) (k:Rec->Prop):Prop:=match x,y with
 | .v (.one (.ptr n _)),.v (.one (.raw (.pointer none)))=>match aG ctx.tt t with
  |some i=>match i.desc,op with
   | .pointer _,.eql=>eC hp n (k {val:=bH false,aB:= [n]})
   | .pointer _,.neq=>eC hp n (k {val:=bH true,aB:= [n]})
   |_,_=>False
  |none=>False
 | .v (.one (.raw (.pointer a))),.v (.one (.raw (.pointer none)))=>match aG ctx.tt t with
  |some i=>match i.desc,op with
   | .pointer _,.eql=>k {val:=bH a.isNone}
   | .pointer _,.neq=>k {val:=bH (!a.isNone)}
   |_,_=>False
  |none=>False
 |_,_=>False
def ndB (x y:AV):Bool:= !ctx.its.isEmpty&&(match x,y with
 | .v (.one (.full _)),.v (.one (.raw (.slice none 0 0)))=>true
 |_,_=>false)
def Y3 (op:BinOp) (t:TypeId) (x y:AV) (hp:HP) (k:Rec->Prop):Prop:=match x,y with
 | .v (.one (.full n)),.v (.one (.raw (.slice none 0 0)))=>match hp n,aG ctx.tt t with
  |some (.row _ l _),some i=>match i.desc,op with
   | .slice _,.eql=> ∀b:Bool,(0<l.length->b=false)->k {val:=bH b,aB:= [n]}
   | .slice _,.neq=> ∀b:Bool,(0<l.length->b=false)->k {val:=bH (!b),aB:= [n]}
   |_,_=>False
  |_,_=>False
 |_,_=>False
def zz (o:Op) (ev:Operand->AV) (hp:HP) (nm:Nat) (k:Rec->Prop):Prop:=
 match o with
 | .move x=>k {val:=ev x}
 | .assign x=>k {val:=ev x}
 | .pick c a b=>match ev c with
  | .v (.one (.raw (.bool t)))=>cB t (k {val:=ev a}) (k {val:=ev b})
  |_=>False
 | .alloc t=>match aG ctx.tt t with
  |some i=>k {val:= .v (.one (.ptr nm 0)),fresh:= [.cells (gX i.zero) t]}
  |none=>False
 | .box t x=>match (ev x).cells with
  |some xs=>k {val:= .v (.one (.ptr nm 0)),fresh:= [.cells xs t]}
  |none=>False
 | .build t parts=>match aG ctx.tt t with
  |some i=>Lz ctx i parts.toList ev k
  |none=>False
 | .buildSlice t len parts=>match aG ctx.tt t with
  |some i=>if Nat.beq len 0&&parts.toList.isEmpty then kJ ctx i (.v (.one (.raw (.int .i64 0)))) (.v (.one (.raw (.int .i64 0)))) nm k else rM ctx i len parts.toList ev nm k
  |none=>False
 | .load t x=>match aG ctx.tt t with
  |some i=>if Tb hp (ev x) then Hu i (ev x) hp nm k else oF i (ev x) hp nm k
  |none=>False
 | .store t x y=>match aG ctx.tt t with
  |some i=>if Tb hp (ev x) then CG i (ev x) (ev y) hp nm k else pE i (ev x) (ev y) hp k
  |none=>False
 | .nilCheck x=>match ev x with
  | .v (.one (.ptr n off))=>eC hp n (k {val:= .v (.one (.ptr n off)),aB:= [n]})
  | .v (.one (.kC n off))=>eC hp n (k {val:= .v (.one (.kC n off)),aB:= [n]})
  | .v (.one (.bA n j q))=>(match Tf hp n with
   |true=>k {val:= .v (.one (.bA n j q)),aB:= [n]}
   |false=>kz hp n j fun _=>k {val:= .v (.one (.bA n j q)),aB:= [n]})
  | .v (.one (.fq n j q))=>kz hp n j fun _=>k {val:= .v (.one (.fq n j q)),aB:= [n]}
  | .v (.one (.eN (.func f) first cap))=>k {val:= .v (.one (.eN (.func f) first cap))}
  | .v (.one (.mv f agg rs))=>k {val:= .v (.one (.mv f agg rs))}
  | .v (.one (.raw (.pointer (some a))))=>k {val:= .v (.one (.raw (.pointer (some a))))}
  | .v (.one (.raw (.func (.func f) first cap)))=>k {val:= .v (.one (.raw (.func (.func f) first cap)))}
  |_=>False
 | .binOp op t x y _=>if ndB ctx (ev x) (ev y) then Y3 ctx op t (ev x) (ev y) hp k else if YO (ev x) then Zc ctx op t (ev x) (ev y) hp k else X2 ctx op t (ev x) (ev y) k
 | .unOp u _ x=>match u,ev x with
  | .neg,.v (.one (.raw (.int kk a)))=>k {val:=eu kk (kk.wrap (0- a))}
  | .not,.v (.one (.raw (.bool b)))=>k {val:=bH (!b)}
  |_,_=>False
 | .convert s d x=>match aG ctx.tt s,aG ctx.tt d with
  |some _,some i=>match i.desc,ev x with
   | .int kk,.v (.one (.raw (.int _ a)))=>k {val:=eu kk (kk.wrap a)}
   |_,_=>False
  |_,_=>False
 | .makeFunc fn first cap=>match Ef (qz ev first.toList),Eg (qz ev cap.toList) with
  |some f,some c=>k {val:= .v (.one (.eN fn f c))}
  |_,_=>match fn,qz ev first.toList,cap.toList with
   | .func g,[r],[]=>match M6 r with
    |some (agg,rs)=>k {val:= .v (.one (.mv g agg rs))}
    |none=>False
   |_,_,_=>False
 | .makeMap t none=>match aG ctx.tt t with
  |some i=>if abQ ctx i then J7 ctx i nm k else J6 ctx i nm k
  |none=>False
 | .lookup t x ix ok=>match aG ctx.tt t with
  |some i=>if Xy hp (ev x) then Og ctx i (ev x) (ev ix) ok hp nm k else Oe ctx i (ev x) (ev ix) ok hp k
  |none=>False
 | .mapUpdate t m ix x=>match aG ctx.tt t with
  |some i=>if Xy hp (ev m) then Dj ctx i (ev m) (ev ix) (ev x) hp nm k else vn ctx i (ev m) (ev ix) (ev x) hp k
  |none=>False
 | .mapEntry t m ix=>match aG ctx.tt t with
  |some i=>FI ctx i (ev m) (ev ix) hp nm k
  |none=>False
 | .entryStore t m s x=>rV (ev m) (ev s) (ev x) hp k
 | .insert t m ix x=>match aG ctx.tt t with
  |some i=>vn ctx i (ev m) (ev ix) (ev x) hp k
  |none=>False
 | .slice t x lo hi mx=>match aG ctx.tt t with
  |some i=>Nk ctx i (ev x) (lo.map ev) (hi.map ev) (mx.map ev) hp nm k
  |none=>False
 | .makeSlice t x y=>match aG ctx.tt t with
  |some i=>kJ ctx i (ev x) (ev y) nm k
  |none=>False
 | .fieldAddr t x f=>match aG ctx.tt t with
  |some i=>kG ctx i (ev x) f hp k
  |none=>False
 | .field t x f=>match aG ctx.tt t with
  |some i=>L0 ctx i (ev x) f k
  |none=>False
 | .indexAddr t x ix=>match aG ctx.tt t with
  |some i=>if abh hp (ev x) then Ie ctx i (ev x) (ev ix) hp k else vj ctx i (ev x) (ev ix) (JV ix) hp k
  |none=>False
 | .index t x ix=>match aG ctx.tt t with
  |some i=>Mm ctx i (ev x) (ev ix) (JV ix) k
  |none=>False
 | .extract x i=>match ev x with
  | .lZ l=>match l[i]? with|some a=>k {val:= .v a} |none=>False
  |_=>False
 | .call c=>E5 ctx c ev hp nm k
 | .range t x=>if ctx.its.isEmpty then False else M0 ctx t (ev x) hp nm k
 | .next x false=>if ctx.its.isEmpty then False else TU (ev x) hp nm k
 | .entry x=>if ctx.its.isEmpty then False else LV (ev x) hp k
 |_=>False
def jb (tmps:List AV):Option Nat->AV->List AV
 |some d,v=>tmps.set d v
 |none,_=>tmps
def AS.app (st:AS) (dst:Option Nat) (r:Rec):AS:=
 {tmps:=jb st.tmps dst r.val,heap:=r.writes.foldl (fun h p=>h.set p.1 p.2) st.heap++r.fresh}
inductive Cf
 |blk
 |full (off m:Nat)
def Cf.hit:Cf->Option aQ->Bool
 | .blk,some (.cells _ _)=>true
 | .full off m,some (.cells cs _)=>match cs[off]? with
  |some (.full m')=>Nat.beq m' m
  |_=>false
 |_,_=>false
def eV (o:Op) (ev:Operand->AV) (v:AV):Option (Nat×Cf):=match o with
 | .load _ x=>match ev x,v with
  | .v (.one (.ptr n off)),.v (.one (.full m))=>some (n,.full off m)
  |_,_=>none
 | .fieldAddr _ x _=>match ev x with
  | .v (.one (.ptr n _))=>some (n,.blk)
  |_=>none
 | .nilCheck x=>match ev x with
  | .v (.one (.ptr n _))=>some (n,.blk)
  |_=>none
 |_=>none
structure gC where
 nm:Nat
 cnt:Nat
 aB:List Nat
 wr:List Nat
 look:Option (Nat×Cf):=none
 ws:List (Nat×aQ):= []
def FF (o:Op) (ev:Operand->AV) (nm:Nat) (r:Rec):gC:= {nm:=nm,cnt:=r.fresh.length,aB:=r.aB,wr:=r.writes.map (·.1),look:=eV o ev r.val,ws:=r.writes}
def lz (nm:Nat):gC:= {nm:=nm,cnt:=0,aB:= [],wr:= []}
def Ai (ops:Array Oper) (j:Nat):Option Nat:=match ops[j]? with
 |some o=>o.dst
 |none=>none
def Y4 (o:Op) (ev:Operand->AV):Bool:=o.operands.toList.all fun x=> !(ev x).Ta
def p8 (o:Op) (st:AS) (k:Rec->Prop):Prop:=if Y4 o (fM st.tmps) then zz ctx o (fM st.tmps) (av st.heap) st.heap.length k else False
def nE (all:Array Oper):List Oper->List Nat->AS->List gC->(AS->List gC->Prop)->Prop
  | [],_,st,lg,K=>K st lg
  | o::rest,dec,st,lg,K=>match o.guard with
    |none=>p8 ctx o.op st fun r=>nE all rest dec (st.app o.dst r) (lg++ [FF o.op (fM st.tmps) st.heap.length r]) K
    | some (j,want)=>match Ai all j with
      | some d=>match dP st.tmps d with
        | .v (.one (.raw (.bool x)))=>
          if dec.contains d then
            (if x=want then p8 ctx o.op st fun r=>nE all rest dec (st.app o.dst r) (lg++ [FF o.op (fM st.tmps) st.heap.length r]) K
             else nE all rest dec {st with tmps:=jb st.tmps o.dst aT} (lg++ [lz st.heap.length]) K)
          else
            (match want with
             |true=>cB x (p8 ctx o.op {st with tmps:=st.tmps.set d (bH true)} fun r=>nE all rest (d::dec) ({st with tmps:=st.tmps.set d (bH true)}.app o.dst r) (lg++ [FF o.op (fM (st.tmps.set d (bH true))) st.heap.length r]) K)
                (nE all rest (d::dec) {st with tmps:=jb (st.tmps.set d (bH false)) o.dst aT} (lg++ [lz st.heap.length]) K)
             |false=>cB x (nE all rest (d::dec) {st with tmps:=jb (st.tmps.set d (bH true)) o.dst aT} (lg++ [lz st.heap.length]) K)
                (p8 ctx o.op {st with tmps:=st.tmps.set d (bH false)} fun r=>nE all rest (d::dec) ({st with tmps:=st.tmps.set d (bH false)}.app o.dst r) (lg++ [FF o.op (fM (st.tmps.set d (bH false))) st.heap.length r]) K))
        | .lZ []=>nE all rest dec {st with tmps:=jb st.tmps o.dst aT} (lg++ [lz st.heap.length]) K
        |_=>False
      |none=>False
def direct (o:Oper):List Nat:=(o.after.toList.filter (Region.binds .any)).map (·.on)
def oH:List Oper->List Nat->List Nat
 | [],acc=>acc
 |o::r,acc=>oH r (acc++ [(direct o).foldl (fun s j=>s|||(2^j|||acc.getD j 0)) 0])
def Fc (a b:List Nat):Bool:=a.all fun x=> !b.contains x
def xo (lg:List gC) (m:Nat):Option Nat:=lg.findIdx? fun l=>l.nm<=m&&m<l.nm+l.cnt
def j5 (ops:Array Oper) (o:Oper):List Nat:=
 (o.op.operands.toList.filterMap fun| .tmp t=>some t|_=>none)++(match o.guard with|some (g,_)=>(Ai ops g).toList|none=> [])
def MV (ops:Array Oper) (ms:List Nat) (lg:List gC) (i:Nat):Bool:=
  match ops[i]?,lg[i]? with
  | some o,some l=>
    (direct o).all (· <i)&&(l.wr.all fun m=>l.aB.contains m)&&
    (l.aB.all fun m=>match xo lg m with|some j=>j==i||(ms.getD i 0).testBit j|none=>true)&&
    (List.range i).all fun j=>(ms.getD i 0).testBit j||
      (match ops[j]?,lg[j]? with
       |some p,some q=>Fc l.wr q.aB&&Fc q.wr l.aB&&Fc l.wr q.wr&&
          (match p.dst with|some d=>o.dst !=some d&& !(j5 ops o).contains d|none=>true)&&
          (match o.dst with|some d=> !(j5 ops p).contains d|none=>true)
       |_,_=>false)
  |_,_=>false
def Oz (ops:Array Oper) (lg:List gC):Bool:=
 lg.length==ops.size&&(List.range ops.size).all (MV ops (oH ops.toList []) lg)
def Bm (x:Nat):List Nat->Bool
 | []=>false
 |y::r=>Nat.beq x y||Bm x r
def WZ:List Nat->List Nat->Bool
 | [],_=>true
 |x::r,l=>Bm x l&&WZ r l
def LM:List Nat->List Nat->Bool
 | [],_=>true
 |x::r,l=> !Bm x l&&LM r l
def HZ:List Oper->Nat->List Nat->List Nat
 | [],_,acc=>acc
 |o::r,k,acc=>HZ r (k+1) ((direct o).foldl (fun s j=>s|||(2^j|||(bif Nat.blt j k then acc.getD (k- 1- j) 0 else 0))) 0::acc)
def msF (ops:Array Oper):List Nat:=(HZ ops.toList 0 []).reverse
structure OI where
 d:Option Nat
 lk:List Nat
 m:Nat
def oiL (all:Array Oper):List Oper->List Nat->List OI
 |o::r,m::ms=>⟨o.dst,j5 all o,m⟩::oiL all r ms
 |_,_=> []
def O8 (o p:OI):Bool:=
 (match p.d with
  |some d=>(match o.d with|some e=> !Nat.beq e d|none=>true)&& !Bm d o.lk
  |none=>true)&&
 (match o.d with
  |some d=> !Bm d p.lk
  |none=>true)
def yG (o:OI):List OI->Nat->Nat->Bool
 |p::r,j,k+1=>(o.m.testBit j||O8 o p)&&yG o r (j+1) k
 |_,_,_=>true
def B9 (all:List OI):List OI->Nat->Bool
 | [],_=>true
 |o::r,i=>yG o all 0 i&&B9 all r (i+1)
def Ht:List Oper->Nat->Bool
 | [],_=>true
 |o::r,i=>((direct o).all fun j=>Nat.blt j i)&&Ht r (i+1)
def UO (ops:Array Oper):Bool:=Ht ops.toList 0&&B9 (oiL ops ops.toList (msF ops)) (oiL ops ops.toList (msF ops)) 0
structure DI where
 i:Nat
 m:Nat
 t:List Nat
 w:List Nat
def PY:List gC->List Nat->Nat->List DI
 |l::r,m::ms,i=>(match l.aB,l.wr with
  | [],[]=>PY r ms (i+1)
  |t,w=>⟨i,m,t,w⟩::PY r ms (i+1))
 |_,_,_=> []
def mkL:List gC->Nat->List (Nat×Nat×Nat)
 | [],_=> []
 |l::r,i=>match l.cnt with
  |0=>mkL r (i+1)
  |c=>(i,l.nm,c)::mkL r (i+1)
def HX (x:Nat):List (Nat×Nat×Nat)->Option Nat
 | []=>none
 |p::r=>bif Nat.ble p.2.1 x&&Nat.blt x (p.2.1+p.2.2) then some p.1 else HX x r
def LN (mk:List (Nat×Nat×Nat)) (o:DI):Bool:=
 WZ o.w o.t&&o.t.all fun x=>match HX x mk with|some j=>Nat.beq j o.i||o.m.testBit j|none=>true
def tg (o p:DI):Bool:=Nat.ble o.i p.i||o.m.testBit p.i||(LM o.w p.t&&LM p.w o.t&&LM o.w p.w)
def ZN:List DI->List DI
 | []=> []
 |o::r=>match o.w with
  | []=>ZN r
  |_=>o::ZN r
def R8 (D:List DI) (mk:List (Nat×Nat×Nat)):Bool:=(D.all fun o=>LN mk o)&&(ZN D).all fun p=>D.all fun o=>tg o p&&tg p o
def force {α:Type} (n:Nat) (k:Nat->α):α:=match n with
 |0=>k 0
 |m+1=>k (m+1)
def CT {α:Type} :List Nat->(List Nat->α)->α
 | [],k=>k []
 |x::r,k=>force x fun v=>CT r fun l=>k (v::l)
def BQ {α:Type} :List gC->(List gC->α)->α
 | [],k=>k []
 |e::r,k=>force e.nm fun a=>force e.cnt fun b=>CT e.aB fun t=>CT e.wr fun w=>BQ r fun l=>k ({nm:=a,cnt:=b,aB:=t,wr:=w,look:=e.look,ws:=e.ws} ::l)
def tP (ops:Array Oper) (lg:List gC):Bool:=BQ lg fun lg=>
 Nat.beq lg.length ops.size&&UO ops&&R8 (PY lg (msF ops) 0) (mkL lg 0)
def U1 (n:Nat) (q:Cf):List (Nat×aQ)->Bool
 | []=>true
 |p::r=>(!Nat.beq p.1 n||q.hit (some p.2))&&U1 n q r
def A8 (n:Nat) (q:Cf):List gC->Bool
 | []=>true
 |l::r=>U1 n q l.ws&&A8 n q r
def Ju (h0:List aQ) (all:List gC) (l:gC):gC:=match l.look,l.aB,l.wr with
 |some (n,q),[m],[]=>bif Nat.beq m n&&Nat.blt n h0.length&&q.hit (av h0 n)&&A8 n q all then {nm:=l.nm,cnt:=l.cnt,aB:= [],wr:= []} else l
 |_,_,_=>l
def VN (h0:List aQ) (lg:List gC):List gC:=lg.map (Ju h0 lg)
def OL (ops:Array Oper) (draw:Bool) (st:AS) (K:AS->Prop):Prop:=
 if draw then nE {ctx with ys:= [],its:= []} ops ops.toList [] st [] fun st' lg=>if tP ops lg then K st' else if tP ops (VN st.heap lg) then K st' else False
 else nE ctx ops ops.toList [] st [] fun st' _=>K st'
inductive Src
 |same (m:Nat)
 |nil
 |cells (m len:Nat)
 |mt (m off:Nat)
 |any (m:Nat)
def iN (π:List Src) (n:Nat):Option Nat:=match π[n]? with
 |some (.same m)=>some m
 |_=>none
def nI (π:List Src):Ref->Option Ref
 | .ext v=>some (.ext v)
 | .loc n o=>match iN π n with|some m=>some (.loc m o)|none=>none
 | .elem n j=>match iN π n with|some m=>some (.elem m j)|none=>none
 | .full n=>match iN π n with|some m=>some (.full m)|none=>none
 | .mp n=>match iN π n with|some m=>some (.mp m)|none=>none
def jl (π:List Src):List Ref->Option (List Ref)
 | []=>some []
 |r::l=>match nI π r,jl π l with|some q,some m=>some (q::m)|_,_=>none
def jt (π:List Src):Cell->Option Cell
 | .raw v=>some (.raw v)
 | .ptr n o=>match iN π n with|some m=>some (.ptr m o)|none=>none
 | .kC n o=>match iN π n with|some m=>some (.kC m o)|none=>none
 | .sl n o l c=>match iN π n with|some m=>some (.sl m o l c)|none=>none
 | .bA n j k=>match iN π n with|some m=>some (.bA m j k)|none=>none
 | .fq n j k=>match iN π n with|some m=>some (.fq m j k)|none=>none
 | .full n=>match π[n]? with
  |some (.same m)=>some (.full m)
  |some .nil=>some (.raw (.slice none 0 0))
  |some (.cells m len)=>some (.sl m 0 len len)
  |some (.mt m off)=>some (.sl m off 0 0)
  |some (.any m)=>some (.full m)
  |none=>none
 | .eN f a cap=>match jl π cap with|some c=>some (.eN f a c)|none=>none
 | .nU n=>match iN π n with|some m=>some (.nU m)|none=>none
 | .mp n=>match iN π n with|some m=>some (.mp m)|none=>none
 | .mv f a rs=>match jl π rs with|some c=>some (.mv f a c)|none=>none
 | .GR _=>none
def iY (π:List Src):List Cell->Option (List Cell)
 | []=>some []
 |c::l=>match jt π c,iY π l with|some q,some m=>some (q::m)|_,_=>none
def EL (π:List Src):A0->Option A0
 | .one c=>match jt π c with|some q=>some (.one q)|none=>none
 | .agg cs=>match iY π cs with|some q=>some (.agg q)|none=>none
def jG (π:List Src):List A0->Option (List A0)
 | []=>some []
 |c::l=>match EL π c,jG π l with|some q,some m=>some (q::m)|_,_=>none
def zG (π:List Src):AV->Option AV
 | .v a=>match EL π a with|some q=>some (.v q)|none=>none
 | .lZ l=>match jG π l with|some q=>some (.lZ q)|none=>none
 | .dead=>none
def zk (π:List Src):Nat->Bool
 |0=>true
 |n+1=>(match π[n]? with|some (.same m)=>m==n|_=>false)&&zk π n
def gg (π:List Src):aQ->Option aQ
 | .cells cs e=>match iY π cs with|some q=>some (.cells q e)|none=>none
 | .row t l rk=>some (.row t l rk)
 | .alias n s q=>match iN π n with|some m=>some (.alias m s q)|none=>none
 | .gone=>none
 | .loop r s j=>some (.loop r s j)
 | .eJ ρ n=>if zk π n then some (.eJ ρ n) else none
 | .ga S=>some (.ga S)
 | .map ka va k v l=>some (.map ka va k v l)
 | .jO ka k u l c q=>match iN π c with|some m=>some (.jO ka k u l m q)|none=>none
 | .set n=>match iN π n with|some m=>some (.set m)|none=>none
 | .gv n c k u x l=>match iN π n,iN π c with|some m,some d=>some (.gv m d k u x l)|_,_=>none
 | .rc cs=>match iY π cs with|some q=>some (.rc q)|none=>none
 | .hmap es ck=>some (.hmap es ck)
 | .dp t l c st kn=>match iN π c with|some d=>some (.dp t l d st kn)|none=>none
 | .nv n c j q u=>match iN π n,iN π c with|some m,some d=>some (.nv m d j q u)|_,_=>none
 | .IV _ _ _ _ _ _ _ _=>none
 | .rj n c es ck ka k u l cur=>match iN π n,iN π c,cur with
  |some m,some d,none=>some (.rj m d es ck ka k u l none)
  |some m,some d,some (a,q)=>match iN π q with|some q'=>some (.rj m d es ck ka k u l (some (a,q')))|none=>none
  |_,_,_=>none
def EV:Src->Option Nat
 | .same m=>some m
 | .nil=>none
 | .cells m _=>some m
 | .mt _ _=>none
 | .any m=>some m
def Bn (π:List Src) (h:List aQ) (s:Src) (o:aQ):Prop:=match s with
 | .same m=> ∃p,av h m=some p/\ gg π o=some p
 | .nil=> ∃t rk,o= .row t [] rk/\ rk≠0
 | .mt m _=> ∃t cs e,o= .row t [] 3/\ av h m=some (.cells cs e)
 | .any m=> ∃t l rk,o= .row t l 3/\ av h m=some (.row t l rk)/\ rk≠0
 | .cells m len=> ∃t l cs e rk,o= .row t l rk/\ (rk=2\/ rk=3)/\ av h m=some (.cells cs e)/\ t.flat=true/\ tW (cL (fun _=>none) t) len cs=some (l,[])/\ cs.length=len*t.size/\ Nat.ble len 1099511627776=true
def qW (π:List Src) (h:List aQ):List Src->List aQ->Prop
 |_::r,.gone::l=>qW π h r l
 |s::r,o::l=>Bn π h s o/\ qW π h r l
 | [],[]=>True
 |_,_=>False
def ua:List Src->List aQ->List Nat
 |_::r,.gone::l=>ua r l
 |s::r,_::l=>(match EV s with|some m=>m::ua r l|none=>ua r l)
 |_,_=> []
def GV (π:List Src):List AV->List AV->Prop
 |_::r,.dead::s=>GV π r s
 |x::r,y::s=>zG π y=some x/\ GV π r s
 | [],[]=>True
 |_,_=>False
structure Ren (π:List Src) (st st':AS):Prop where
 tmps:GV π st.tmps st'.tmps
 heap:qW π st.heap π st'.heap
 inj:qD (ua π st'.heap)=true
def mS (st st':AS):Prop:= ∃π,Ren π st st'
def jK (id:Nat) (K:Exit->AS->Prop) (e:Exit) (st':AS):Prop:=match e with
 | .exit id'=>if id'=id then K .normal st' else K (.exit id') st'
 |e=>K e st'
def kM:Code->Bool
 | .seq a b=>kM a&&kM b
 | .cond _ a b=>kM a&&kM b
 | .loop c=>kM c
 | .block _ c=>kM c
 | .rangeFunc _ _ _ _=>false
 | .scope c=>kM c
 |_=>true
def xV:List AV->List Nat->List AV->List AV
 |l,t::ts,v::vs=>xV (l.set t v) ts vs
 |l,_,_=>l
def Xk (hp:HP) (nm:Nat) (h:List aQ) (b:Bool):Rec:=wC hp nm h (bH b)
def N8 (o:Option aQ) (r:Loop) (K:Prop):Prop:=match o with
 |some (.loop r' .ready none)=>r'=r/\ K
 |_=>False
def Mz (o:Option aQ) (r:Loop) (K:Prop):Prop:=match o with
 |some (.loop r' .busy none)=>r'=r/\ K
 |_=>False
def HL (r:Loop):Option Code->aQ
 |none=> .loop r .ready none
 |some c=> .loop r .done (some c)
def sM (hp:HP) (nm n:Nat) (r:Loop) (cJ:Env) (h:List aQ) (jump:Option Code) (k:Rec->Prop):Prop:=
 Mz (av h n) r (Da (av h nm) cJ nm (k (Xk hp nm (h.set n (HL r jump)) jump.isNone)))
def Oh (n:Nat) (mI:Env) (tmps:List AV) (h:List aQ) (K:Exit->AS->Prop):Prop:=
 Da (av h (n+1)) mI (n+1) (match av h n with
  |some (.loop _ .ready none)=>K .normal ⟨tmps,(h.set n .gone).set (n+1) .gone⟩
  |some (.loop _ .done (some .ret))=>K .ret ⟨tmps,(h.set n .gone).set (n+1) .gone⟩
  |some (.loop _ .done (some (.exit id)))=>K (.exit id) ⟨tmps,(h.set n .gone).set (n+1) .gone⟩
  |_=>False)
def W9   (X0:Addr->Value->Prop) (n:Nat) (tmps:List AV) (r:Loop) (mI:Env) (ps:Array Tmp) (A B:AS->(Exit->AS->Prop)->Prop):Spec:=fun X args hp nm k=>X=X0/\ (if ps.size=args.length then
          Da (hp (n+1)) mI (n+1) (N8 (hp n) r (∀cJ:Env,
            A ⟨xV tmps ps.toList args,dM hp nm++ [.eJ cJ nm]⟩ fun e st1=>match e with
              | .normal=>Da (av st1.heap nm) cJ nm (N8 (av st1.heap n) r (B ⟨st1.tmps,st1.heap.set n (.loop r .busy none)⟩ fun e st2=>match e with
                | .normal=>sM hp nm n r cJ st2.heap none k
                | .ret=>sM hp nm n r cJ st2.heap (some .ret) k
                | .exit id=>sM hp nm n r cJ st2.heap (some (.exit id)) k
                |_=>False))
              |_=>False)) else False)
def cK:Code->AS->(Exit->AS->Prop)->Prop
 | .skip,st,K=>K .normal st
 | .region _ ops draw,st,K=>OL ctx ops draw st (K .normal)
 | .seq a b,st,K=>cK a st fun e st'=>match e with
  | .normal=>cK b st' K
  |e=>K e st'
 | .cond c x y,st,K=>match fM st.tmps c with
  | .v (.one (.raw (.bool t)))=>cB t (cK x st K) (cK y st K)
  |_=>False
 | .block id c,st,K=>match aG ctx.lp id with
  |some sp=>sp st K
  |none=>cK c st (jK id K)
 | .loop c,st,K=> ∃(I:Nat->AS->Prop),(∃m st',mS st st'/\ I m st')/\ ∀m st1,I m st1->cK c st1 fun e st2=>match e with
  | .normal=> ∃m' st',m'<m/\ mS st2 st'/\ I m' st'
  |e=>K e st2
 | .rangeFunc g ps assign body,st,K=>if kM assign&&kM body then match fM st.tmps g with
  | .v (.one (.eN (.func f) [] cap))=>match aG ctx.its f with
   | some MC=> ∀(r:Loop) (mI:Env),MC [(st.heap.length,W9 ctx.X st.heap.length st.tmps r mI ps (cK assign) (cK body))]
     (.v (.one (.nU st.heap.length))::cap.map xE) (st.heap++ [.loop r .ready none,.eJ mI (st.heap.length+1)]) fun _ st2=>Oh st.heap.length mI st.tmps st2.heap K
   |none=>False
  |_=>False else False
 | .exit id,st,K=>K (.exit id) st
 | .ret,st,K=>K .ret st
 |_,_,_=>False
def vS (c:Code):Nat->bE
 |0,_,_=>False
 |n+1,st,K=>cK ctx c st fun e st2=>match e with
  | .normal=>vS c n st2 K
  |e=>K e st2
def Is (st:AS):ResultVar->Option A0
 | .tmp t=>match dP st.tmps t with| .v a=>some a|_=>none
 | .cell t ty=>match dP st.tmps t,aG ctx.tt ty with
  | .v (.one (.ptr n off)),some i=>match av st.heap n with
   |some (.cells cs _)=>if az i.desc then (if off+i.size<=cs.length then some (.agg ((cs.drop off).take i.size)) else none)
    else (match cs[off]? with|some c=>some (.one c)|none=>none)
   |_=>none
  |_,_=>none
def zH (st:AS):List ResultVar->Option (List A0)
 | []=>some []
 |r::l=>match Is ctx st r,zH st l with
  |some a,some b=>some (a::b)
  |_,_=>none
def EM (fn:Func) (st:AS) (R:AV->AS->Prop):Prop:=
 match zH ctx st fn.results.toList with
 |some [a]=>R (.v a) st
 |some l=>R (.lZ l) st
 |none=>False
def N1 (fn:Func) (args:List AV) (heap:List aQ) (R:AV->AS->Prop):Prop:=
 match fn.body with
 |some c=>cK ctx c ⟨args++List.replicate (fn.ntmps- args.length) aT,heap⟩ fun e st=>match e with
  | .ret=>EM ctx fn st R
  | .normal=>EM ctx fn st R
  |_=>False
 |none=>False
end
end Go.Ev
