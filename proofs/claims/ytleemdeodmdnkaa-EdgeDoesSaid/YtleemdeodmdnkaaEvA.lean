/- The abstract evaluator: values whose addresses are names, a small heap of named objects, and 'codeE', the condition under which a piece of code does what is asked. -/
import Derived.Below
import Derived.KernelRfl
noncomputable section
set_option linter.unusedSectionVars false
set_option linter.unusedVariables false
set_option linter.unusedSimpArgs false
namespace Go.Ev

inductive Ty
 | int (k : IntKind)
 | bool
 | str
 | prod (a b : Ty)
 | sl (t : Ty)
 deriving DecidableEq
@[reducible] def Ty.T : Ty → Type
 | .int _ => Int
 | .bool => Bool
 | .str => ByteArray
 | .prod a b => a.T × b.T
 | .sl t => List t.T
def Ty.d : (t : Ty) → t.T
 | .int _ => (0:Int)
 | .bool => false
 | .str => ByteArray.empty
 | .prod a b => (a.d,b.d)
 | .sl t => ([] : List t.T)
def Ty.size : Ty → Nat
 | .prod a b => a.size + b.size
 | _ => 1
def Ty.flat : Ty → Bool
 | .prod a b => a.flat && b.flat
 | .sl _ => false
 | _ => true
def Ty.shallow : Ty → Bool
 | .prod a b => a.shallow && b.shallow
 | .sl t => t.flat
 | _ => true
inductive Comp
 | flat (v : Value)
 | sl (u : Ty) (l : List u.T)
def Ty.comps : (t : Ty) → t.T → List Comp
 | .int k,n => [.flat (.int k n)]
 | .bool,b => [.flat (.bool b)]
 | .str,s => [.flat (.string s)]
 | .prod a b,x => a.comps x.1 ++ b.comps x.2
 | .sl u,l => [.sl u l]
def compFlat : Comp → Value
 | .flat v => v
 | .sl _ _ => .slice none 0 0
def eqT : (t : Ty) → t.T → t.T → Bool
 | .int _,x,y => (x:Int) == y
 | .bool,x,y => (x : Bool) == y
 | .str,x,y => (x : ByteArray) == y
 | .prod a b,x,y => eqT a x.1 y.1 && eqT b x.2 y.2
 | .sl _,_,_ => false
def valV (a : Bool) (t : Ty) (x : t.T) : Value := match a with
 | true => .agg ((t.comps x).map compFlat).toArray
 | false => match (t.comps x).map compFlat with
  | [v] => v
  | _ => .tuple #[]
def lookM {k : Ty} {β : Type} : List (k.T × β) → k.T → Option β
 | [],_ => none
 | p :: r,x => match eqT k x p.1 with
  | true => some p.2
  | false => lookM r x
def hasM {k : Ty} {β : Type} (l : List (k.T × β)) (x : k.T) : Bool := (lookM l x).isSome
def lookD {k : Ty} {β : Type} (l : List (k.T × β)) (x : k.T) (z : β) : β := (lookM l x).getD z
def putM {k : Ty} {β : Type} : List (k.T × β) → k.T → β → List (k.T × β)
 | [],x,y => [(x,y)]
 | p :: r,x,y => match eqT k x p.1 with
  | true => (x,y) :: r
  | false => p :: putM r x y
def gd (t : Ty) (l : List t.T) (j:Nat) : t.T := l.getD j t.d
def castL (t u : Ty) (l : List t.T) : Option (List u.T) := if h : t = u then some (h ▸ l) else none

inductive Ref
 | ext (v : Value)
 | loc (n off:Nat)
 | elem (n j:Nat)
 | full (n:Nat)
 | mp (n:Nat)

inductive Cell
 | raw (v : Value)
 | ptr (n off:Nat)
 | aptr (n off:Nat)
 | sl (n off len cap:Nat)
 | full (n:Nat)
 | eptr (n j k:Nat)
 | eaptr (n j k:Nat)
 | clo (f : Fn) (first : List Value) (cap : List Ref)
 | yld (n:Nat)
 | mp (n:Nat)
 | mv (f : FuncId) (agg : Bool) (rs : List Ref)

inductive A0
 | one (c : Cell)
 | agg (cs : List Cell)

inductive AV
 | v (a : A0)
 | tup (l : List A0)
 | dead

structure Ent where
 key : Sigma Ty.T
 blk : Option Nat
 base : Option Addr
 len : Nat
 cap : Nat
 es : Nat
 vals : List Value
structure Loc where
 blk : Option Nat := none
 base : Option Addr := none
 len : Nat := 0
 cap : Nat := 0
 es : Nat := 1
 ents : List Ent := []
abbrev Env := Nat → Loc

inductive AObj
 | cells (cs : List Cell) (e : TypeId)
 | row (t : Ty) (l : List t.T) (rk:Nat)
 | alias (n s:Nat) (q : Option Nat)
 | gone
 | loop (r : Loop) (s : LoopState) (j : Option Code)
 | pin (ρ : Env) (n:Nat)
 | hide (S : Nat → Prop)
 | map (ka va : Bool) (k v : Ty) (l : List (k.T × v.T))
 | grp (ka : Bool) (k u : Ty) (l : List (k.T × List u.T)) (c:Nat) (q : Option k.T)
 | set (n:Nat)
 | gv (n c:Nat) (k u : Ty) (x : k.T) (l : List u.T)
 | rc (cs : List Cell)
 | hmap (es : Array MapEntry) (clk:Nat)
 | itr (n c:Nat) (es : Array MapEntry) (clk:Nat) (ka : Bool) (k u : Ty) (l : List (k.T × List u.T)) (cur : Option (k.T × Nat))
 | dp (t : Ty) (l : List t.T) (c:Nat) (st kn : Bool)
 | nv (n c j q:Nat) (u : Ty)

def addrOf (ρ : Env) (n off:Nat) : Option Addr := (ρ n).blk.map fun b => { block := b,off := off,spot := none }

def Ref.conc (ρ : Env) : Ref → Value
 | .ext v => v
 | .loc n off => .pointer (addrOf ρ n off)
 | .elem n j => .pointer ((ρ n).base.map (·.add (j * (ρ n).es + 0)))
 | .full n => .slice (ρ n).base (ρ n).len (ρ n).cap
 | .mp n => .map (ρ n).blk
def recvV (agg : Bool) (vs : List Value) : Value := match agg with
 | true => .agg vs.toArray
 | false => match vs with
  | [v] => v
  | _ => .tuple #[]

def Cell.conc (ρ : Env) : Cell → Value
 | .raw v => v
 | .ptr n off => .pointer (addrOf ρ n off)
 | .aptr n off => .pointer (addrOf ρ n off)
 | .sl n off len cap => .slice (addrOf ρ n off) len cap
 | .full n => .slice (ρ n).base (ρ n).len (ρ n).cap
 | .eptr n j k => .pointer ((ρ n).base.map (·.add (j * (ρ n).es + k)))
 | .eaptr n j k => .pointer ((ρ n).base.map (·.add (j * (ρ n).es + k)))
 | .clo f first cap => .func f first.toArray (cap.map (Ref.conc ρ)).toArray
 | .yld n => match (ρ n).blk with
  | some l => .func (.yield l) #[] #[]
  | none => .nilFunc
 | .mp n => .map (ρ n).blk
 | .mv f agg rs => .func (.func f) #[recvV agg (rs.map (Ref.conc ρ))] #[]

def A0.conc (ρ : Env) : A0 → Value
 | .one c => c.conc ρ
 | .agg cs => .agg (cs.map (Cell.conc ρ)).toArray

def AV.conc (ρ : Env) : AV → Value
 | .v a => a.conc ρ
 | .tup l => .tuple (l.map (A0.conc ρ)).toArray
 | .dead => .tuple #[]

def Ref.ok (Kn : Nat → Prop) : Ref → Prop
 | .ext _ => True
 | .loc n _ => Kn n
 | .elem n _ => Kn n
 | .full n => Kn n
 | .mp n => Kn n

def Cell.ok (Kn : Nat → Prop) : Cell → Prop
 | .raw _ => True
 | .ptr n _ => Kn n
 | .aptr n _ => Kn n
 | .sl n _ _ _ => Kn n
 | .full n => Kn n
 | .eptr n _ _ => Kn n
 | .eaptr n _ _ => Kn n
 | .clo _ _ cap => ∀ r ∈ cap,r.ok Kn
 | .yld n => Kn n
 | .mp n => Kn n
 | .mv _ _ rs => ∀ r ∈ rs,r.ok Kn

def A0.ok (Kn : Nat → Prop) : A0 → Prop
 | .one c => c.ok Kn
 | .agg cs => ∀ c ∈ cs,c.ok Kn

def AV.ok (Kn : Nat → Prop) : AV → Prop
 | .v a => a.ok Kn
 | .tup l => ∀ a ∈ l,a.ok Kn
 | .dead => True

def AObj.ok (Kn : Nat → Prop) : AObj → Prop
 | .cells cs _ => ∀ c ∈ cs,c.ok Kn
 | .row _ _ _ => True
 | .alias n _ _ => Kn n
 | .gone => True
 | .loop _ _ _ => True
 | .pin _ n => ∀ m,m < n → Kn m
 | .hide _ => True
 | .map _ _ _ _ _ => True
 | .grp _ _ _ _ c _ => Kn c
 | .set n => Kn n
 | .gv n c _ _ _ _ => Kn n ∧ Kn c
 | .rc cs => ∀ c ∈ cs,c.ok Kn
 | .hmap _ _ => True
 | .itr n c _ _ _ _ _ _ cur => Kn n ∧ Kn c ∧ ∀ p,cur = some p → Kn p.2
 | .dp _ _ c _ _ => Kn c
 | .nv n c _ _ _ => Kn n ∧ Kn c

def und : AV := .tup []

def ofV0 : Value → A0
 | .agg cs => .agg (cs.toList.map .raw)
 | v => .one (.raw v)
def ofV (v : Value) : AV := .v (ofV0 v)

def oneCellV : Value → Bool
 | .agg _ => false
 | .tuple _ => false
 | _ => true

def Cell.one : Cell → Bool
 | .raw v => oneCellV v
 | _ => true

def A0.cells : A0 → Option (List Cell)
 | .one c => if c.one then some [c] else none
 | .agg cs => some cs
def AV.cells : AV → Option (List Cell)
 | .v a => a.cells
 | .tup _ => none
 | .dead => none
def AV.isDead : AV → Bool
 | .dead => true
 | _ => false

def allOne : List Cell → Bool
 | [] => true
 | c :: r => if c.one then allOne r else false

structure Rec where
 val : AV
 fresh : List AObj := []
 writes : List (Nat × AObj) := []
 touch : List Nat := []

structure TI where
 desc : TypeDesc
 size : Nat
 bytes : Nat
 zero : Value
 ty : Option Ty

def cB (b : Bool) (p q : Prop) : Prop := match b with | true => p | false => q
def ob (b : Bool) (p : Prop) : Prop := match b with | true => p | false => False

def lookN {α : Type _} : List (Nat × α) → Nat → Option α
 | [],_ => none
 | (k,a) :: r,n => if k = n then some a else lookN r n

def isAggD : TypeDesc → Bool
 | .struct _ => true
 | .array _ _ => true
 | _ => false

def nthD : List AV → Nat → AV
 | [],_ => und
 | a :: _,0 => a
 | _ :: r,n + 1 => nthD r n

abbrev HP := Nat → Option AObj
abbrev Spec := (Addr → Value → Prop) → List AV → HP → Nat → (Rec → Prop) → Prop

structure AS where
 tmps : List AV
 heap : List AObj

abbrev ISpec := List (Nat × Spec) → List AV → List AObj → (AV → AS → Prop) → Prop

abbrev LSpec := AS → (Exit → AS → Prop) → Prop

structure Ctx where
 tt : List (Nat × TI)
 specs : List (Nat × Spec)
 X : Addr → Value → Prop
 lp : List (Nat × LSpec) := []
 ys : List (Nat × Spec) := []
 its : List (Nat × ISpec) := []

def evalE (tmps : List AV) : Operand → AV
 | .tmp t => nthD tmps t
 | .const v => ofV v
 | .global g => .v (.one (.raw (.pointer (some { block := g,off := 0,spot := none }))))
 | .func f => .v (.one (.clo (.func f) [] []))

def setCells {α : Type} : List α → Nat → List α → List α
 | cs,_,[] => cs
 | cs,off,c :: r => setCells (cs.set off c) (off + 1) r

def fillE (place : Nat → Option (Nat × Nat)) (ev : Operand → AV) : List Cell → List (Nat × Operand) → Option (List Cell)
 | cs,[] => some cs
 | cs,(i,x) :: r => match place i,(ev x).cells with
  | some (off,size),some xs => if xs.length = size then (if off + size ≤ cs.length then fillE place ev (setCells cs off xs) r else none) else none
  | _,_ => none

def mkVal (d : TypeDesc) (cs : List Cell) : Option AV :=
 if isAggD d then some (.v (.agg cs)) else match cs with
  | [c] => some (.v (.one c))
  | _ => none

def intV (k : IntKind) (n:Int) : AV := .v (.one (.raw (.int k n)))
def boolV (b : Bool) : AV := .v (.one (.raw (.bool b)))

def isConstO : Operand → Bool
 | .const _ => true
 | _ => false

def intBin (op : BinOp) (kk : IntKind) (a b:Int) (k : Rec → Prop) : Prop :=
 match op with
 | .add => k { val := intV kk (kk.wrap (a + b)) }
 | .sub => k { val := intV kk (kk.wrap (a - b)) }
 | .mul => k { val := intV kk (kk.wrap (a * b)) }
 | .quo => ob (decide (b ≠ 0)) (k { val := intV kk (kk.wrap (a.tdiv b)) })
 | .rem => ob (decide (b ≠ 0)) (k { val := intV kk (a.tmod b) })
 | .eql => k { val := boolV (a == b) }
 | .neq => k { val := boolV (a != b) }
 | .lss => k { val := boolV (decide (a < b)) }
 | .leq => k { val := boolV (decide (a ≤ b)) }
 | .gtr => k { val := boolV (decide (a > b)) }
 | .geq => k { val := boolV (decide (a ≥ b)) }
 | .and => k { val := intV kk (kk.wrap ((BitVec.ofInt kk.bits a &&& BitVec.ofInt kk.bits b).toNat)) }
 | .or => k { val := intV kk (kk.wrap ((BitVec.ofInt kk.bits a ||| BitVec.ofInt kk.bits b).toNat)) }
 | .xor => k { val := intV kk (kk.wrap ((BitVec.ofInt kk.bits a ^^^ BitVec.ofInt kk.bits b).toNat)) }
 | .andNot => k { val := intV kk (kk.wrap ((BitVec.ofInt kk.bits a &&& ~~~ BitVec.ofInt kk.bits b).toNat)) }
 | _ => False

def eqFields (tt : List (Nat × TI)) (eq : TypeId → List Cell → List Cell → Option Bool) : List Field → List Cell → List Cell → Option Bool
 | [],_,_ => some true
 | f :: r,xs,ys => match lookN tt f.type with
  | none => none
  | some fi => if f.name = "_" then none else
   match eq f.type ((xs.drop f.offset).take fi.size) ((ys.drop f.offset).take fi.size),eqFields tt eq r xs ys with
   | some a,some b => some (a && b)
   | _,_ => none
def eqElems (eq : TypeId → List Cell → List Cell → Option Bool) (e s:Nat) : Nat → Nat → List Cell → List Cell → Option Bool
 | 0,_,_,_ => some true
 | n + 1,i,xs,ys => match eq e ((xs.drop (i * s)).take s) ((ys.drop (i * s)).take s),eqElems eq e s n (i + 1) xs ys with
  | some a,some b => some (a && b)
  | _,_ => none
def eqE (tt : List (Nat × TI)) : Nat → TypeId → List Cell → List Cell → Option Bool
 | 0,_,_,_ => none
 | d + 1,t,xs,ys => match lookN tt t with
  | none => none
  | some i => match i.desc with
   | .int _ => match xs,ys with
    | [.raw (.int k a)],[.raw (.int k' b)] => if k = k' then some (a == b) else none
    | _,_ => none
   | .bool => match xs,ys with
    | [.raw (.bool a)],[.raw (.bool b)] => some (a == b)
    | _,_ => none
   | .string => match xs,ys with
    | [.raw (.string a)],[.raw (.string b)] => some (a == b)
    | _,_ => none
   | .struct fs => eqFields tt (eqE tt d) fs.toList xs ys
   | .array n e => match lookN tt e with
    | some ei => eqElems (eqE tt d) e ei.size n 0 xs ys
    | none => none
   | _ => none

def viewE (nm:Nat) : List Comp → List Cell × List AObj
 | [] => ([],[])
 | .flat v :: r => match viewE nm r with | (cs,os) => (.raw v :: cs,os)
 | .sl u l :: r => match viewE (nm + 1) r with | (cs,os) => (.full nm :: cs,.row u l 0 :: os)
def compsAt (t : Ty) (l : List t.T) (j k size:Nat) : List Comp := ((t.comps (gd t l j)).drop k).take size
def ofComps : (t : Ty) → List Comp → Option (t.T × List Comp)
 | .int k,cs => match cs with
  | .flat (.int k' n) :: r => if k = k' then some (n,r) else none
  | _ => none
 | .bool,cs => match cs with
  | .flat (.bool b) :: r => some (b,r)
  | _ => none
 | .str,cs => match cs with
  | .flat (.string s) :: r => some (s,r)
  | _ => none
 | .prod a b,cs => match ofComps a cs with
  | some (x,r) => match ofComps b r with
   | some (y,r') => some ((x,y),r')
   | none => none
  | none => none
 | .sl u,cs => match cs with
  | .sl u' l :: r => match castL u' u l with
   | some l' => some (l',r)
   | none => none
  | _ => none
def flatComps : List Cell → Option (List Comp)
 | [] => some []
 | .raw v :: r => match v with
  | .int _ _ => (flatComps r).map (.flat v :: ·)
  | .bool _ => (flatComps r).map (.flat v :: ·)
  | .string _ => (flatComps r).map (.flat v :: ·)
  | _ => none
 | _ => none
def lenPart (n s:Nat) : Option Nat → Nat
 | some m => min m (n - s)
 | none => n - s
def partL {α : Type} (l : List α) (s:Nat) : Option Nat → List α
 | none => l.drop s
 | some m => (l.drop s).take m
def decs (dec : List Cell → Option (List Comp × List Nat × List Nat)) (size:Nat) (u : Ty) : Nat → List Cell → Option (List u.T × List Nat × List Nat)
 | 0,_ => some ([],[],[])
 | n + 1,cs => match dec (cs.take size) with
  | some (ps,tc,ab) => match ofComps u ps with
   | some (x,[]) => match decs dec size u n (cs.drop size) with
    | some (l,tc',ab') => some (x :: l,tc ++ tc',ab ++ ab')
    | none => none
   | _ => none
  | none => none
def decN {α : Type} (dec : List Cell → Option (α × List Cell × List Nat)) : Nat → List Cell → Option (List α × List Nat)
 | 0,_ => some ([],[])
 | n + 1,cs => match dec cs with
  | some (x,r,tc) => match decN dec n r with
   | some (l,tc') => some (x :: l,tc ++ tc')
   | none => none
  | none => none
def decT (hp : HP) : (t : Ty) → List Cell → Option (t.T × List Cell × List Nat)
 | .int k,cs => match cs with
  | .raw (.int k' n) :: r => if k = k' then some (n,r,[]) else none
  | _ => none
 | .bool,cs => match cs with
  | .raw (.bool b) :: r => some (b,r,[])
  | _ => none
 | .str,cs => match cs with
  | .raw (.string s) :: r => some (s,r,[])
  | _ => none
 | .prod a b,cs => match decT hp a cs with
  | some (x,r,tc) => match decT hp b r with
   | some (y,r',tc') => some ((x,y),r',tc ++ tc')
   | none => none
  | none => none
 | .sl u,cs => match cs with
  | .raw (.slice none 0 _) :: r => some (([] : List u.T),r,[])
  | .full n :: r => match hp n with
   | some (.row t l _) => match castL t u l with
    | some l' => some (l',r,[n])
    | none => none
   | some (.alias m s q) => match hp m with
    | some (.row t l _) => match castL t u l with
     | some l' => some (partL l' s q,r,[n,m])
     | none => none
    | _ => none
   | some (.dp t l c _ kn) => match kn,hp c with
    | true,some (.set _) => match castL t u l with
     | some l' => some (l',r,[n,c])
     | none => none
    | _,_ => none
   | _ => none
  | .sl n off len cap :: r => if u.shallow && decide (len ≤ cap) then (match hp n with
   | some (.cells cs _) => match decN (decT hp u) len (cs.drop off) with
    | some (l,tc) => some (l,r,n :: tc)
    | none => none
   | _ => none) else none
  | _ => none
def ownT (hp : HP) : Ty → List Cell → Option (List Nat × Bool × List Cell)
 | .prod a b,cs => match ownT hp a cs with
  | some (ns,f,r) => match ownT hp b r with
   | some (ns',f',r') => some (ns ++ ns',f && f',r')
   | none => none
  | none => none
 | .sl u,cs => if u.flat then (match cs with
  | .raw (.slice none 0 _) :: r => some ([],true,r)
  | .full n :: r => match hp n with
   | some (.row _ _ rk) => if rk = 0 then some ([],false,r) else some ([n],true,r)
   | some (.alias m _ _) => match hp m with
    | some (.row _ _ rk) => if rk = 0 then some ([],false,r) else none
    | _ => none
   | _ => none
  | .sl n _ _ _ :: r => match hp n with
   | some (.cells _ _) => some ([n],true,r)
   | _ => none
  | _ => none) else none
 | _,cs => match cs with
  | _ :: r => some ([],true,r)
  | [] => none
def ownN (hp : HP) (u : Ty) : Nat → List Cell → Option (List Nat × Bool)
 | 0,_ => some ([],true)
 | n + 1,cs => match ownT hp u cs with
  | some (ns,f,r) => match ownN hp u n r with
   | some (ns',f') => some (ns ++ ns',f && f')
   | none => none
  | none => none
def intCells : List Cell → Option (List Int)
 | [] => some []
 | .raw (.int .i64 n) :: r => match intCells r with
  | some l => some (n :: l)
  | none => none
 | _ => none
def intComps : List Comp → Option (List Int)
 | [] => some []
 | .flat (.int .i64 n) :: r => match intComps r with
  | some l => some (n :: l)
  | none => none
 | _ => none
def isIntT : Ty → Bool
 | .int .i64 => true
 | .prod a b => isIntT a && isIntT b
 | _ => false
def rowInts (hp : Nat → Option AObj) (n:Nat) : Bool := match hp n with
 | some (.row t _ _) => isIntT t
 | _ => false
def putOne (off:Nat) (y:Int) : Nat → List Int → List Int
 | _,[] => []
 | q,n :: r => (bif Nat.beq off q then y else n) :: putOne off y (q + 1) r
def putInts (off:Nat) : List Int → List Int → List Int
 | [],ns => ns
 | y :: r,ns => putInts (off + 1) r (putOne off y 0 ns)
def atInts (ns : List Int) (off:Nat) : Nat → List Cell
 | 0 => []
 | m + 1 => .raw (.int .i64 (ns.getD off 0)) :: atInts ns (off + 1) m

def liveAt (h : List AObj) (n:Nat) : Option AObj := match h[n]? with
 | some .gone => none
 | o => o
def heapOf (hp : HP) : Nat → List AObj
 | 0 => []
 | n + 1 => heapOf hp n ++ [match hp n with | some o => o | none => .gone]
def hpWr (hp : HP) (h : List AObj) : Nat → List (Nat × AObj)
 | 0 => []
 | n + 1 => match hp n with
  | some _ => hpWr hp h n ++ [(n,match h[n]? with | some o => o | none => .gone)]
  | none => hpWr hp h n
def diffV (hp : HP) (nm:Nat) (h : List AObj) (v : AV) : Rec := { val := v,fresh := (h.set nm .gone).drop nm,writes := hpWr hp h nm,touch := List.range nm }
def isPin (o : Option AObj) (ρ : Env) (n:Nat) (K : Prop) : Prop := match o with
 | some (.pin ρ' n') => ρ' = ρ ∧ n' = n ∧ K
 | _ => False
section
variable (ctx : Ctx)

def loadC (i : TI) (cs : List Cell) (n off:Nat) (k : Rec → Prop) : Prop :=
 if isAggD i.desc then (if off + i.size ≤ cs.length then k { val := .v (.agg ((cs.drop off).take i.size)),touch := [n] } else False)
 else match cs[off]? with
  | some c => k { val := .v (.one c),touch := [n] }
  | none => False

def loadE (i : TI) (x : AV) (hp : HP) (nm:Nat) (k : Rec → Prop) : Prop :=
 match x with
 | .v (.one (.ptr n off)) => match hp n with
  | some (.cells cs _) => loadC i cs n off k
  | _ => False
 | .v (.one (.aptr n off)) => match hp n with
  | some (.cells cs _) => match intCells cs with
   | some ns => ob (decide (off + i.size ≤ cs.length)) (match mkVal i.desc (atInts ns off i.size) with
    | some v => k { val := v,touch := [n] }
    | none => False)
   | none => False
  | _ => False
 | .v (.one (.eptr n j q)) => match hp n with
  | some (.row t l _) => if q + i.size ≤ t.size then ob (decide (j < l.length)) (match viewE nm (compsAt t l j q i.size) with
   | (cs,os) => match mkVal i.desc cs with
    | some v => k { val := v,fresh := os,touch := [n] }
    | none => False) else False
  | some (.gv _ c _ t _ l) => match hp c with
   | some (.set _) => if q + i.size ≤ t.size then ob (decide (j < l.length)) (match viewE nm (compsAt t l j q i.size) with
    | (cs,_) => match mkVal i.desc cs with
     | some v => k { val := v,touch := [n,c] }
     | none => False) else False
   | _ => False
  | some (.rc cs) => if j = 0 then loadC i cs n q k else False
  | _ => False
 | .v (.one (.eaptr n j q)) => match hp n with
  | some (.row t l _) => match intComps (t.comps (gd t l j)) with
   | some ns => ob (decide (q + i.size ≤ t.size)) (ob (decide (j < l.length)) (match mkVal i.desc (atInts ns q i.size) with
    | some v => k { val := v,touch := [n] }
    | none => False))
   | none => False
  | _ => False
 | _ => False

def storeN (t : Ty) (l : List t.T) (rk n j q:Nat) (ys : List Cell) (hp : HP) (k : Rec → Prop) : Prop := match ys with
 | [.full m] => match hp m with
  | some (.row u lm rm) => if rm = 0 ∨ rk = 3 ∨ m = n ∨ u.flat = false ∨ t.size < q + 1 then False else (match ofComps t (setCells (t.comps (gd t l j)) q [.sl u lm]) with
   | some (x',[]) => ob (decide (j < l.length)) (True ∧ ∀ l',l' = l.set j x' → k { val := und,writes := [(n,.row t l' rk),(m,.gone)],touch := [n,m] })
   | _ => False)
  | _ => False
 | _ => False
def storeE (i : TI) (x y : AV) (hp : HP) (k : Rec → Prop) : Prop :=
 match x,y.cells with
 | .v (.one (.ptr n off)),some ys => if ys.length = i.size then (if allOne ys then
   match hp n with
   | some (.cells cs e) => if off + ys.length ≤ cs.length then k { val := und,writes := [(n,.cells (setCells cs off ys) e)],touch := [n] } else False
   | _ => False
   else False) else False
 | .v (.one (.aptr n off)),some ys => if ys.length = i.size then (match hp n with
   | some (.cells cs e) => match intCells cs,intCells ys with
    | some ns,some ms => ob (decide (off + ys.length ≤ cs.length)) (k { val := und,writes := [(n,.cells ((putInts off ms ns).map fun q => .raw (.int .i64 q)) e)],touch := [n] })
    | _,_ => False
   | _ => False) else False
 | .v (.one (.eptr n j q)),some ys => if ys.length = i.size then (match hp n with
   | some (.row t l rk) => if rk = 0 ∨ rk = 3 then False else match flatComps ys with
    | some ps => if q + ps.length ≤ t.size then (match ofComps t (setCells (t.comps (gd t l j)) q ps) with
     | some (x',[]) => ob (decide (j < l.length)) (True ∧ ∀ l',l' = l.set j x' → k { val := und,writes := [(n,.row t l' rk)],touch := [n] })
     | _ => False) else False
    | none => storeN t l rk n j q ys hp k
   | _ => False) else False
 | .v (.one (.eaptr n j q)),some ys => if ys.length = i.size then (match hp n with
   | some (.row t l rk) => if rk = 0 ∨ rk = 3 then False else match intCells ys,intComps (t.comps (gd t l j)) with
    | some ms,some ns => (match ofComps t ((putInts q ms ns).map fun m => .flat (.int .i64 m)) with
     | some (x',[]) => ob (decide (q + ys.length ≤ t.size)) (ob (decide (j < l.length)) (True ∧ ∀ l',l' = l.set j x' → k { val := und,writes := [(n,.row t l' rk)],touch := [n] }))
     | _ => False)
    | _,_ => False
   | _ => False) else False
 | _,_ => False

def zcells (v : Value) : List Cell := v.cells.toList.map .raw

def placeE (fs : Array Field) (j:Nat) : Option (Nat × Nat) := match fs[j]? with
 | some f => (match lookN ctx.tt f.type with | some fi => some (f.offset,fi.size) | none => none)
 | none => none

def buildE (i : TI) (parts : List (Nat × Operand)) (ev : Operand → AV) (k : Rec → Prop) : Prop :=
 match i.desc with
 | .struct fs => if fs.toList.all (fun f => (lookN ctx.tt f.type).isSome) then
   match fillE (placeE ctx fs) ev (zcells i.zero) parts with
   | some cs => k { val := .v (.agg cs) }
   | none => False
   else False
 | .array _ e => match lookN ctx.tt e with
  | some ei => match fillE (fun j => some (j * ei.size,ei.size)) ev (zcells i.zero) parts with
   | some cs => k { val := .v (.agg cs) }
   | none => False
  | none => False
 | _ => False

def buildSliceE (i : TI) (len:Nat) (parts : List (Nat × Operand)) (ev : Operand → AV) (nm:Nat) (k : Rec → Prop) : Prop :=
 match i.desc with
 | .slice e => match lookN ctx.tt e with
  | some ei => if len * ei.size > 2 ^ 24 then False else if len * ei.size = 0 then False else
   match fillE (fun j => some (j * ei.size,ei.size)) ev ((List.range (len * ei.size)).map fun j => .raw (ei.zero.cells[j % ei.zero.cells.size]!)) parts with
   | some cs => k { val := .v (.one (.sl nm 0 len len)),fresh := [.cells cs e] }
   | none => False
  | none => False
 | _ => False

def withBlk (hp : HP) (n:Nat) (k : Prop) : Prop := match hp n with
 | some (.cells _ _) => k
 | _ => False
def withRow (hp : HP) (n j:Nat) (k : Ty → Prop) : Prop := match hp n with
 | some (.row t l _) => ob (decide (j < l.length)) (k t)
 | some (.gv _ _ _ t _ l) => ob (decide (j < l.length)) (k t)
 | some (.dp t l _ _ _) => ob (decide (j < l.length)) (k t)
 | _ => False
def isRc (hp : HP) (n:Nat) : Bool := match hp n with
 | some (.rc (_ :: _)) => true
 | _ => false
def withSl (hp : HP) (p:Nat) (k : (n:Nat) → Option Nat → Option Nat → Nat → List Nat → Prop) : Prop := match hp p with
 | some (.row _ l _) => k p none none l.length [p]
 | some (.gv _ _ _ _ _ l) => k p none none l.length [p]
 | some (.dp _ l _ _ _) => k p none none l.length [p]
 | some (.alias n s q) => match hp n with
  | some (.row _ l _) => k n (some s) q (lenPart l.length s q) [p,n]
  | _ => False
 | _ => False
def offS : Option Nat → Nat → Nat
 | none,j => j
 | some s,j => s + j

def fieldAddrE (i : TI) (x : AV) (f:Nat) (hp : HP) (k : Rec → Prop) : Prop :=
 match i.desc with
 | .struct fs => match fs[f]? with
  | some fd => match lookN ctx.tt fd.type with
   | some fi => if fi.size = 0 then False else match x with
    | .v (.one (.ptr n off)) => withBlk hp n (k { val := .v (.one (.ptr n (off + fd.offset))),touch := [n] })
    | .v (.one (.aptr n off)) => withBlk hp n (k { val := .v (.one (.aptr n (off + fd.offset))),touch := [n] })
    | .v (.one (.eptr n j q)) => (match isRc hp n with
     | true => k { val := .v (.one (.eptr n j (q + fd.offset))),touch := [n] }
     | false => withRow hp n j fun _ => k { val := .v (.one (.eptr n j (q + fd.offset))),touch := [n] })
    | .v (.one (.eaptr n j q)) => withRow hp n j fun _ => k { val := .v (.one (.eaptr n j (q + fd.offset))),touch := [n] }
    | _ => False
   | none => False
  | none => False
 | _ => False

def partE (i : TI) (cs : List Cell) (off:Nat) (k : Rec → Prop) : Prop :=
 if isAggD i.desc then (if off + i.size ≤ cs.length then k { val := .v (.agg ((cs.drop off).take i.size)) } else False)
 else match cs[off]? with
  | some c => k { val := .v (.one c) }
  | none => False

def fieldE (i : TI) (x : AV) (f:Nat) (k : Rec → Prop) : Prop :=
 match i.desc,x with
 | .struct fs,.v (.agg cs) => match fs[f]? with
  | some fd => match lookN ctx.tt fd.type with
   | some fi => partE fi cs fd.offset k
   | none => False
  | none => False
 | _,_ => False

def isInts (hp : HP) (n:Nat) : Bool := match hp n with
 | some (.cells cs _) => (intCells cs).isSome
 | _ => false
def inR (j:Int) (n:Nat) : Bool := decide (0 ≤ j) && decide (j < (n:Int))

def indexAddrE (i : TI) (x ix : AV) (lit : Bool) (hp : HP) (k : Rec → Prop) : Prop :=
 match ix with
 | .v (.one (.raw (.int _ j))) => match i.desc with
  | .array n e => match lookN ctx.tt e with
   | some ei => match x with
    | .v (.one (.ptr m off)) => ob (inR j n) (withBlk hp m (if !lit && isInts hp m then k { val := .v (.one (.aptr m (off + j.toNat * ei.size))),touch := [m] } else k { val := .v (.one (.ptr m (off + j.toNat * ei.size))),touch := [m] }))
    | .v (.one (.aptr m off)) => ob (inR j n) (withBlk hp m (k { val := .v (.one (.aptr m (off + j.toNat * ei.size))),touch := [m] }))
    | .v (.one (.eptr m jj q)) => ob (inR j n) (withRow hp m jj fun _ => if !lit && rowInts hp m then k { val := .v (.one (.eaptr m jj (q + j.toNat * ei.size))),touch := [m] } else k { val := .v (.one (.eptr m jj (q + j.toNat * ei.size))),touch := [m] })
    | .v (.one (.eaptr m jj q)) => ob (inR j n) (withRow hp m jj fun _ => k { val := .v (.one (.eaptr m jj (q + j.toNat * ei.size))),touch := [m] })
    | _ => False
   | none => False
  | .slice e => match lookN ctx.tt e with
   | some ei => match x with
    | .v (.one (.sl m off len _)) => ob (inR j len) (withBlk hp m (if Nat.beq len 1 then k { val := .v (.one (.ptr m off)),touch := [m] } else if !lit && isInts hp m then k { val := .v (.one (.aptr m (off + j.toNat * ei.size))),touch := [m] } else k { val := .v (.one (.ptr m (off + j.toNat * ei.size))),touch := [m] }))
    | .v (.one (.full p)) => withSl hp p fun m s _ len tc => ob (inR j len) (withRow hp m (offS s j.toNat) fun t => if ei.size = t.size then k { val := .v (.one (.eptr m (offS s j.toNat) 0)),touch := tc } else False)
    | .v (.one (.raw (.slice none 0 _))) => ob (inR j 0) False
    | _ => False
   | none => False
  | _ => False
 | _ => False

def indexE (i : TI) (x ix : AV) (lit : Bool) (k : Rec → Prop) : Prop :=
 match ix with
 | .v (.one (.raw (.int _ j))) => match i.desc,x with
  | .array n e,.v (.agg cs) => match lookN ctx.tt e with
   | some ei => ob (inR j n) (if lit then partE ei cs (j.toNat * ei.size) k else match intCells cs with
    | some ns => if cs.length = n * ei.size then (match mkVal ei.desc (atInts ns (j.toNat * ei.size) ei.size) with
     | some v => k { val := v }
     | none => False) else False
    | none => partE ei cs (j.toNat * ei.size) k)
   | none => False
  | .string,.v (.one (.raw (.string s))) => ob (inR j s.size) (k { val := intV .u8 (s.get! j.toNat).toNat })
  | _,_ => False
 | _ => False

def bndE (b : Option AV) (top dflt:Nat) (k : Nat → Prop) : Prop :=
 match b with
 | none => k dflt
 | some (.v (.one (.raw (.int _ j)))) => ob (decide (0 ≤ j) && decide (j ≤ (top:Int))) (k j.toNat)
 | _ => False
def withEs (hp : HP) (n es:Nat) (k : Prop) : Prop := match hp n with
 | some (.row t _ _) => if es = t.size then k else False
 | _ => False
def tailRow (hp : HP) (p:Nat) : Option (List Int) := match hp p with
 | some (.row (.int .i64) l 3) => some l
 | _ => none
def sliceE (i : TI) (x : AV) (lo hi mx : Option AV) (hp : HP) (nm:Nat) (k : Rec → Prop) : Prop :=
 match i.desc with
 | .array n e => match lookN ctx.tt e,x,mx with
  | some ei,.v (.one (.ptr m off)),none => bndE hi n n fun h => bndE lo h 0 fun l =>
    withBlk hp m (k { val := .v (.one (.sl m (if n = l then off else off + l * ei.size) (h - l) (n - l))),touch := [m] })
  | _,_,_ => False
 | .slice e => match lookN ctx.tt e,x with
  | some ei,.v (.one (.sl m off len cap)) => bndE mx cap cap fun c => bndE hi (if mx.isSome then c else cap) len fun h => bndE lo h 0 fun l =>
    if mx.isSome && hi.isNone then False else k { val := .v (.one (.sl m (if c = l then off else off + l * ei.size) (h - l) (c - l))) }
  | some ei,.v (.one (.full p)) => withSl hp p fun m s q len tc => withEs hp m ei.size (match mx with
   | none => match hi with
    | none => match tailRow hp p with
     | some l0 => bndE lo l0.length 0 fun j => k { val := .v (.one (.full nm)),fresh := [.row (.int .i64) (l0.drop j) 3],writes := [(p,.gone)],touch := [p] }
     | none => bndE lo len 0 fun l => k { val := .v (.one (.full nm)),fresh := [.alias m (offS s l) (q.map fun _ => len - l)],touch := tc }
    | some _ => bndE hi len len fun h => bndE lo h 0 fun l => k { val := .v (.one (.full nm)),fresh := [.alias m (offS s l) (some (h - l))],touch := tc }
   | some _ => bndE mx len len fun c => bndE hi c 0 fun h => bndE lo h 0 fun l => if hi.isNone then False else k { val := .v (.one (.full nm)),fresh := [.alias m (offS s l) (some (h - l))],touch := tc })
  | some _,.v (.one (.raw (.slice none 0 c))) => match mx with
   | none => bndE hi 0 0 fun h => bndE lo h 0 fun l => if h = 0 ∧ l = 0 ∧ c = 0 then k { val := .v (.one (.raw (.slice none 0 0))) } else False
   | some _ => False
  | _,_ => False
 | .string => match x,mx with
  | .v (.one (.raw (.string s))),none => bndE hi s.size s.size fun h => bndE lo h 0 fun l => k { val := .v (.one (.raw (.string (s.extract l h)))) }
  | _,_ => False
 | _ => False

def toRaw0 : A0 → Option Value
 | .one (.raw v) => some v
 | .one _ => none
 | .agg cs => (rawAll cs).map fun l => .agg l.toArray
where rawAll : List Cell → Option (List Value)
 | [] => some []
 | .raw v :: r => (rawAll r).map (v :: ·)
 | _ :: _ => none
def toRaw : AV → Option Value
 | .v a => toRaw0 a
 | _ => none
def toRawL : List AV → Option (List Value)
 | [] => some []
 | x :: r => match toRaw x,toRawL r with
  | some v,some l => some (v :: l)
  | _,_ => none
def toRef : AV → Option Ref
 | .v (.one (.ptr n off)) => some (.loc n off)
 | .v (.one (.eptr n j 0)) => some (.elem n j)
 | .v (.one (.raw v)) => some (.ext v)
 | .v (.one (.full n)) => some (.full n)
 | .v (.one (.mp n)) => some (.mp n)
 | _ => none
def toRefL : List AV → Option (List Ref)
 | [] => some []
 | x :: r => match toRef x,toRefL r with
  | some v,some l => some (v :: l)
  | _,_ => none
def ofRef : Ref → AV
 | .ext v => ofV v
 | .loc n off => .v (.one (.ptr n off))
 | .elem n j => .v (.one (.eptr n j 0))
 | .full n => .v (.one (.full n))
 | .mp n => .v (.one (.mp n))
def cellRef : Cell → Option Ref
 | .ptr n off => some (.loc n off)
 | .eptr n j 0 => some (.elem n j)
 | .raw v => if oneCellV v then some (.ext v) else none
 | .full n => some (.full n)
 | .mp n => some (.mp n)
 | _ => none
def cellRefs : List Cell → Option (List Ref)
 | [] => some []
 | c :: r => match cellRef c,cellRefs r with
  | some x,some l => some (x :: l)
  | _,_ => none
def recvOf : AV → Option (Bool × List Ref)
 | .v (.agg cs) => match cellRefs cs with
  | some l => some (true,l)
  | none => none
 | .v (.one c) => match cellRef c with
  | some r => some (false,[r])
  | none => none
 | _ => none
def refCell : Ref → Cell
 | .ext v => .raw v
 | .loc n off => .ptr n off
 | .elem n j => .eptr n j 0
 | .full n => .full n
 | .mp n => .mp n
def recvA (agg : Bool) (rs : List Ref) : AV := match agg with
 | true => .v (.agg (rs.map refCell))
 | false => match rs with
  | [r] => .v (.one (refCell r))
  | _ => .tup []

def mapE (ev : Operand → AV) : List Operand → List AV
 | [] => []
 | x :: r => ev x :: mapE ev r

def minI (x y:Int) : Int := if y < x then y else x
def maxI (x y:Int) : Int := if y > x then y else x
def foldInt (f : Int → Int → Int) : Int → List AV → Option Int
 | a,[] => some a
 | a,.v (.one (.raw (.int _ b))) :: r => foldInt f (f a b) r
 | _,_ => none

def appBase (i : Option Ty) (x : AV) (hp : HP) (k : (t : Ty) → List t.T → Nat → List Nat → Prop) : Prop :=
 match x with
 | .v (.one (.raw (.slice none 0 0))) => match i with
  | some t => k t [] 2 []
  | none => False
 | .v (.one (.full n)) => match hp n with
  | some (.row t l rk) => if rk = 0 then False else k t l rk [n]
  | _ => False
 | .v (.one (.sl n _ 0 0)) => match i with
  | some t => match hp n with
   | some (.cells _ _) => k t [] 3 []
   | _ => False
  | none => False
 | _ => False
def appRk (rk:Nat) (f : Bool) : Nat := match f with
 | true => rk
 | false => match rk with
  | 3 => 3
  | _ => 1
def nodupL : List Nat → Bool
 | [] => true
 | x :: r => !r.contains x && nodupL r
def appOwn (hp : HP) (t : Ty) (y : AV) : Option (List Nat × Bool) := if t.flat then some ([],true) else
 match y with
 | .v (.one (.sl n off len _)) => match hp n with
  | some (.cells cs _) => ownN hp t len (cs.drop off)
  | _ => none
 | .v (.one (.full n)) => match hp n with
  | some (.row _ _ rk) => if rk = 2 then some ([],true) else some ([],false)
  | some (.alias _ _ _) => some ([],false)
  | _ => none
 | .v (.one (.raw (.slice none 0 _))) => some ([],true)
 | _ => none
def appendE (x y : AV) (ei : TI) (hp : HP) (nm:Nat) (k : Rec → Prop) : Prop :=
 appBase ei.ty x hp fun t l rk gone => if ei.size = t.size ∧ ei.bytes ≤ 128 ∧ (zcells ei.zero).length = ei.size then
  match y with
  | .v (.one yc) => match decT hp (.sl t) [yc] with
   | some (ys,[],tc) => match appOwn hp t y with
    | some (ab,f) => if nodupL (gone ++ ab) then ob (decide (l.length + ys.length < 1099511627776)) (k { val := .v (.one (.full nm)),fresh := [.row t (l ++ ys) (appRk rk f)],writes := (gone ++ ab).map fun n => (n,.gone),touch := gone ++ ab ++ tc }) else False
    | none => False
   | _ => False
  | _ => False
 else False

def copyN (a b:Nat) : Nat := Nat.min b a
def copyL {α : Type} (l : List α) (s d:Nat) (ys : List α) : List α := l.take s ++ ys.take (copyN d ys.length) ++ l.drop (s + copyN d ys.length)
def copyE (x y : AV) (ei : TI) (hp : HP) (k : Rec → Prop) : Prop := match x,y with
 | .v (.one (.full p)),.v (.one yc) => withSl hp p fun n s _ len tc => match hp n with
  | some (.row t l rk) => if (rk ≠ 0 ∧ rk ≠ 3) ∧ t.flat = true ∧ ei.size = t.size then (match decT hp (.sl t) [yc] with
   | some (ys,[],tc') => True ∧ ∀ l',l' = copyL l (offS s 0) len ys → k { val := intV .i64 (copyN len ys.length:Nat),writes := [(n,.row t l' rk)],touch := n :: (tc ++ tc') }
   | _ => False) else False
  | _ => False
 | _,_ => False

def nilV : Value → Bool
 | .slice none 0 0 => true
 | _ => false
def gTy (i : TI) (kk : TypeId → TI → Ty → Ty → Prop) : Prop := match i.desc with
 | .map kt et => match lookN ctx.tt kt,lookN ctx.tt et with
  | some ki,some ei => match ki.ty,ei.ty with
   | some kT,some (.sl uT) => if kT.flat && uT.flat && nilV ei.zero && !isAggD ei.desc then kk kt ki kT uT else False
   | _,_ => False
  | _,_ => False
 | _ => False
def isGrp (hp : HP) : AV → Bool
 | .v (.one (.mp n)) => match hp n with
  | some (.grp _ _ _ _ _ _) => true
  | _ => false
 | _ => false
def isGv (hp : HP) : AV → Bool
 | .v (.one (.full n)) => match hp n with
  | some (.gv _ _ _ _ _ _) => true
  | _ => false
 | _ => false
def slMap (i : TI) : Bool := match i.desc with
 | .map _ et => match lookN ctx.tt et with
  | some ei => match ei.ty with
   | some (.sl _) => true
   | _ => false
  | none => false
 | _ => false
def isSetO : Option AObj → Bool
 | some (.set _) => true
 | _ => false
def isNvN (hp : HP) (n:Nat) : Bool := match hp n with
 | some (.nv _ _ _ _ _) => true
 | _ => false
def isDpN (hp : HP) (n:Nat) : Bool := match hp n with
 | some (.nv _ _ _ _ _) => true
 | some (.dp _ _ _ _ _) => true
 | _ => false
def isNvS (hp : HP) : AV → Bool
 | .v (.one (.full n)) => isNvN hp n
 | _ => false
def isDpP (hp : HP) : AV → Bool
 | .v (.one (.eptr n _ _)) => isDpN hp n
 | _ => false
def nestC : Comp → List Value
 | .flat _ => []
 | .sl u l => l.flatMap fun x => (u.comps x).map compFlat
def nestV (t : Ty) (l : List t.T) : List Value := l.flatMap fun x => (t.comps x).flatMap nestC
def setInt : (u : Ty) → List u.T → Nat → Int → Option (List u.T)
 | .int .i64,x,k,y => some (List.set (show List Int from x) k y)
 | _,_,_,_ => none
def withNv (hp : HP) (m:Nat) (k : (n c j q:Nat) → (t : Ty) → List t.T → (st kn : Bool) → (u : Ty) → List u.T → Prop) : Prop := match hp m with
 | some (.nv n c j q u) => match hp n with
  | some (.dp t l c' st kn) => if c' = c ∧ isSetO (hp c) = true then ob (decide (j < l.length)) (match (t.comps (gd t l j))[q]? with
   | some (.sl u' x) => if u' = u then k n c j q t l st kn u' x else False
   | _ => False) else False
  | _ => False
 | _ => False
def nvLenE (hp : HP) (m:Nat) (k : Rec → Prop) : Prop := withNv hp m fun n c _ _ _ _ _ _ _ x => k { val := intV .i64 x.length,touch := [m,n,c] }
def nvAddrE (i : TI) (x ix : AV) (hp : HP) (k : Rec → Prop) : Prop := match ix,x with
 | .v (.one (.raw (.int _ j0))),.v (.one (.full m)) => match i.desc with
  | .slice e => match lookN ctx.tt e with
   | some ei => withNv hp m fun n c _ _ _ _ _ _ u y => ob (inR j0 y.length) (if ei.size = u.size then k { val := .v (.one (.eptr m j0.toNat 0)),touch := [m,n,c] } else False)
   | none => False
  | _ => False
 | _,_ => False
def dpLoadE (i : TI) (x : AV) (hp : HP) (nm:Nat) (k : Rec → Prop) : Prop := match x with
 | .v (.one (.eptr n j q)) => match hp n with
  | some (.dp t l c _ _) => if isSetO (hp c) = true ∧ isAggD i.desc = false then ob (decide (j < l.length)) (match (t.comps (gd t l j))[q]? with
   | some (.sl u _) => k { val := .v (.one (.full nm)),fresh := [.nv n c j q u],touch := [n,c] }
   | _ => False) else False
  | some (.nv _ _ _ _ _) => withNv hp n fun n' c _ _ _ _ _ kn u y => if q + i.size ≤ u.size then ob kn (ob (decide (j < y.length)) (match viewE 0 (compsAt u y j q i.size) with
   | (cs,_) => match mkVal i.desc cs with
    | some v => k { val := v,touch := [n,n',c] }
    | none => False)) else False
  | _ => False
 | _ => False
def dpStoreE (i : TI) (x y : AV) (hp : HP) (nm:Nat) (k : Rec → Prop) : Prop := match x,y.cells with
 | .v (.one (.eptr m k0 r)),some ys => withNv hp m fun n c j q t l st kn u z => match intCells ys with
  | some [y0] => if r = 0 ∧ i.size = 1 then (match setInt u z k0 y0 with
   | some z' => ob (decide (k0 < z.length)) (match st with
    | false => k { val := und,fresh := [.set n],writes := [(n,.dp t l nm false false),(c,.gone),(m,.gone)],touch := [m,n,c] }
    | true => match ofComps t (setCells (t.comps (gd t l j)) q [.sl u z']) with
     | some (x',[]) => ob kn ((nestV t l).Nodup ∧ ∀ l',l' = l.set j x' → k { val := und,fresh := [.set n],writes := [(n,.dp t l' nm true true),(c,.gone),(m,.gone)],touch := [m,n,c] })
     | _ => False)
   | none => False) else False
  | _ => False
 | _,_ => False
def appendG (x y : AV) (ei : TI) (hp : HP) (nm:Nat) (k : Rec → Prop) : Prop := match x with
 | .v (.one (.full m)) => match hp m with
  | some (.gv n c kT uT a l0) => match hp n with
   | some (.grp ka kT' uT' l c' none) => if c' = c ∧ isSetO (hp c) = true ∧ ei.size = uT.size ∧ ei.bytes ≤ 128 ∧ (zcells ei.zero).length = ei.size then (if h : kT = kT' ∧ uT = uT' then match y with
    | .v (.one (.sl p off len cap)) => match hp p with
     | some (.cells cs _) => match decN (decT (fun _ => none) uT) len (cs.drop off) with
      | some (ys,_) => ob (decide (len ≤ cap) && decide (l0.length + ys.length < 1099511627776)) (k { val := .v (.one (.full (nm + 2))),fresh := [.set n,.gone,.row uT (l0 ++ ys) 1],writes := [(n,.grp ka kT' uT' l nm (some (h.1 ▸ a))),(c,.gone)],touch := [m,n,c,p] })
      | none => False
     | _ => False
    | _ => False else False) else False
   | _ => False
  | _ => False
 | _ => False

def builtinE (b : Builtin) (tys : List TypeId) (args : List AV) (hp : HP) (nm:Nat) (k : Rec → Prop) : Prop :=
 match b,args with
 | .len,[x] => match tys with
  | t :: _ => match lookN ctx.tt t with
   | some i => match i.desc,x with
    | .slice _,.v (.one (.sl _ _ len _)) => k { val := intV .i64 len }
    | .slice _,.v (.one (.full p)) => if isNvN hp p then nvLenE hp p k else withSl hp p fun _ _ _ len tc => k { val := intV .i64 len,touch := tc }
    | .slice _,.v (.one (.raw (.slice _ len _))) => k { val := intV .i64 len }
    | .string,.v (.one (.raw (.string s))) => k { val := intV .i64 s.size }
    | .map _ _,.v (.one (.mp n)) => match hp n with
     | some (.map _ _ _ _ l) => k { val := intV .i64 l.length,touch := [n] }
     | _ => False
    | _,_ => False
   | none => False
  | [] => False
 | .min,.v (.one (.raw (.int kk a))) :: r => match foldInt minI a r with
  | some n => k { val := intV kk n }
  | none => False
 | .max,.v (.one (.raw (.int kk a))) :: r => match foldInt maxI a r with
  | some n => k { val := intV kk n }
  | none => False
 | .append,[x,y] => match tys with
  | [t,t'] => match lookN ctx.tt t,lookN ctx.tt t' with
   | some i,some i' => match i.desc,i'.desc with
    | .slice e,.slice _ => match lookN ctx.tt e with
     | some ei => if isGv hp x then appendG x y ei hp nm k else appendE x y ei hp nm k
     | none => False
    | _,_ => False
   | _,_ => False
  | _ => False
 | .copy,[x,y] => match tys with
  | [t,_] => match lookN ctx.tt t with
   | some i => match i.desc with
    | .slice e => match lookN ctx.tt e with
     | some ei => copyE x y ei hp k
     | none => False
    | _ => False
   | none => False
  | _ => False
 | _,_ => False

def makeSliceE (i : TI) (x y : AV) (nm:Nat) (k : Rec → Prop) : Prop :=
 match i.desc,x,y with
 | .slice e,.v (.one (.raw (.int .i64 n))),.v (.one (.raw (.int .i64 c))) => match lookN ctx.tt e with
  | some ei => match ei.ty with
   | some t => if t.flat ∧ ei.size = t.size ∧ ei.bytes ≤ 128 ∧ (zcells ei.zero).length = ei.size then (match decT (fun _ => none) t (zcells ei.zero) with
    | some (z,[],_) => ob (decide (0 ≤ n) && decide (n ≤ c) && decide (c.toNat < 1099511627776)) (k { val := .v (.one (.full nm)),fresh := [.row t (List.replicate n.toNat z) 2] })
    | _ => False) else False
   | none => False
  | none => False
 | _,_,_ => False

def rawC (t : Ty) (x : t.T) : List Cell := (t.comps x).map fun c => .raw (compFlat c)
def valA (a : Bool) (t : Ty) (x : t.T) : A0 := match a with
 | true => .agg (rawC t x)
 | false => match rawC t x with
  | [c] => .one c
  | _ => .one (.raw (.tuple #[]))
def KeyE (tt : List (Nat × TI)) (t : TypeId) (k : Ty) : Prop := ∀ x y : k.T,eqE tt 20 t (rawC k x) (rawC k y) = some (eqT k x y)
def keyE (a : Bool) (t : Ty) : AV → Option t.T
 | .v (.agg cs) => if a then (match decT (fun _ => none) t cs with
  | some (x,[],_) => some x
  | _ => none) else none
 | .v (.one c) => if a then none else (match decT (fun _ => none) t [c] with
  | some (x,[],_) => some x
  | _ => none)
 | _ => none
def isAggV : Value → Bool
 | .agg _ => true
 | _ => false
def mapTy (i : TI) (kk : TypeId → TI → TI → Ty → Ty → Prop) : Prop := match i.desc with
 | .map kt et => match lookN ctx.tt kt,lookN ctx.tt et with
  | some ki,some ei => match ki.ty,ei.ty with
   | some kT,some vT => if kT.flat && vT.flat && (isAggV ei.zero == isAggD ei.desc) then kk kt ki ei kT vT else False
   | _,_ => False
  | _,_ => False
 | _ => False
def lookupE (i : TI) (x ix : AV) (ok : Bool) (hp : HP) (k : Rec → Prop) : Prop :=
 mapTy ctx i fun kt ki ei kT vT => match x with
  | .v (.one (.mp n)) => match hp n with
   | some (.map ka va kT' vT' l) => if ka = isAggD ki.desc ∧ va = isAggD ei.desc then (if h : kT' = kT ∧ vT' = vT then match keyE ka kT' ix,decT (fun _ => none) vT' (zcells ei.zero) with
    | some a,some (z,[],_) => KeyE ctx.tt kt kT' ∧ True ∧ ∀ y,y = lookD l a z → k { val := if ok then .tup [valA va vT' y,.one (.raw (.bool (hasM l a)))] else .v (valA va vT' y),touch := [n] }
    | _,_ => False else False) else False
   | _ => False
  | _ => False
def mapUpdateE (i : TI) (x ix v : AV) (hp : HP) (k : Rec → Prop) : Prop :=
 mapTy ctx i fun kt ki ei kT vT => match x with
  | .v (.one (.mp n)) => match hp n with
   | some (.map ka va kT' vT' l) => if ka = isAggD ki.desc ∧ va = isAggD ei.desc then (if h : kT' = kT ∧ vT' = vT then match keyE ka kT' ix,keyE va vT' v with
    | some a,some b => KeyE ctx.tt kt kT' ∧ True ∧ ∀ l',l' = putM l a b → k { val := und,writes := [(n,.map ka va kT' vT' l')],touch := [n] }
    | _,_ => False else False) else False
   | _ => False
  | _ => False
def makeMapE (i : TI) (nm:Nat) (k : Rec → Prop) : Prop :=
 mapTy ctx i fun _ ki ei kT vT => k { val := .v (.one (.mp nm)),fresh := [.map (isAggD ki.desc) (isAggD ei.desc) kT vT []] }

def lookupG (i : TI) (x ix : AV) (ok : Bool) (hp : HP) (nm:Nat) (k : Rec → Prop) : Prop :=
 gTy ctx i fun kt ki kT uT => match x with
  | .v (.one (.mp n)) => match hp n with
   | some (.grp ka kT' uT' l c none) => if ka = isAggD ki.desc ∧ ok = false ∧ isSetO (hp c) = true then (if h : kT' = kT ∧ uT' = uT then match keyE ka kT' ix with
    | some a => KeyE ctx.tt kt kT' ∧ True ∧ ∀ y,y = lookD l a [] → k { val := .v (.one (.full nm)),fresh := [.gv n c kT' uT' a y],touch := [n,c] }
    | none => False else False) else False
   | _ => False
  | _ => False
def mapUpdateG (i : TI) (x ix v : AV) (hp : HP) (nm:Nat) (k : Rec → Prop) : Prop :=
 gTy ctx i fun kt ki kT uT => match x,v with
  | .v (.one (.mp n)),.v (.one (.full m)) => match hp n,hp m with
   | some (.grp ka kT' uT' l c (some a0)),some (.row t l2 rk) => if ka = isAggD ki.desc ∧ isSetO (hp c) = true ∧ rk ≠ 0 ∧ rk ≠ 3 then (if h : kT' = kT ∧ uT' = uT then match keyE ka kT' ix,castL t uT' l2 with
    | some a,some z => KeyE ctx.tt kt kT' ∧ a = a0 ∧ True ∧ ∀ l',l' = putM l a z → k { val := und,fresh := [.set n],writes := [(n,.grp ka kT' uT' l' nm none),(c,.gone),(m,.gone)],touch := [n,c,m] }
    | _,_ => False else False) else False
   | _,_ => False
  | _,_ => False
def makeMapG (i : TI) (nm:Nat) (k : Rec → Prop) : Prop :=
 gTy ctx i fun _ ki kT uT => k { val := .v (.one (.mp nm)),fresh := [.grp (isAggD ki.desc) kT uT [] (nm + 1) none,.set nm] }

def rangeE (t : TypeId) (x : AV) (hp : HP) (nm:Nat) (k : Rec → Prop) : Prop := match lookN ctx.tt t with
 | some i => match i.desc,x with
  | .map _ _,.v (.one (.mp n)) => match hp n with
   | some (.grp ka kT uT l c none) => ob (isSetO (hp c)) (∀ es clk,k { val := .v (.one (.ptr nm 0)),fresh := [.itr n c es clk ka kT uT l none],writes := [(n,.hmap es clk)],touch := [n,c] })
   | _ => False
  | _,_ => False
 | none => False
def keyAt {k u : Ty} (l : List (k.T × List u.T)) (i:Nat) : k.T × List u.T := l.getD i (k.d,[])
def nextE (x : AV) (hp : HP) (nm:Nat) (k : Rec → Prop) : Prop := match x with
 | .v (.one (.ptr r 0)) => match hp r with
  | some (.itr n c es clk ka kT uT l _) => match hp n with
   | some (.hmap es' clk') => ob (isSetO (hp c)) (es' = es ∧ clk' = clk ∧ (l = [] → k { val := .tup [.one (.raw (.bool false))],touch := [r,n,c] }) ∧
     ∀ i,i < l.length → k { val := .tup [.one (.raw (.bool true)),valA ka kT (keyAt l i).1,.one (.full (nm + 1))],fresh := [.set n,.row uT (keyAt l i).2 1],writes := [(r,.itr n nm es clk ka kT uT (l.eraseIdx i) (some ((keyAt l i).1,nm + 1))),(c,.gone)],touch := [r,n,c] })
   | _ => False
  | _ => False
 | _ => False
def entryE (x : AV) (hp : HP) (k : Rec → Prop) : Prop := match x with
 | .v (.one (.ptr r 0)) => match hp r with
  | some (.itr n _ es clk ka kT _ _ (some (a,m))) => match hp n,hp m with
   | some (.hmap es' clk'),some (.row _ _ _) => es' = es ∧ clk' = clk ∧ k { val := .tup [valA ka kT a,.one (.full m)],touch := [r,n,m] }
   | _,_ => False
  | _ => False
 | _ => False

def cloE : Cell → Option (FuncId × List AV × List AV)
 | .clo (.func g) first cap => some (g,first.map ofV,cap.map ofRef)
 | .mv g agg rs => some (g,[recvA agg rs],[])
 | _ => none
def callE (c : Call) (ev : Operand → AV) (hp : HP) (nm:Nat) (k : Rec → Prop) : Prop :=
 match c.callee with
 | .builtin b => builtinE ctx b c.argTypes.toList (mapE ev c.args.toList) hp nm k
 | .value f => match ev f with
  | .v (.one q) => match cloE q with
   | some (g,fs,cs) => match lookN ctx.specs g with
    | some s => s ctx.X (fs ++ mapE ev c.args.toList ++ cs) hp nm k
    | none => match lookN ctx.its g with
     | some isp => ∀ ρ1 : Env,isp [] (fs ++ mapE ev c.args.toList ++ cs) (heapOf hp nm ++ [.pin ρ1 nm]) fun v st => isPin (liveAt st.heap nm) ρ1 nm (k (diffV hp nm st.heap v))
     | none => False
   | none => match q with
    | .raw (.func (.func g) first cap) => match lookN ctx.specs g with
     | some s => s ctx.X (first.toList.map ofV ++ mapE ev c.args.toList ++ cap.toList.map ofV) hp nm k
     | none => False
    | .yld n => match lookN ctx.ys n with
     | some s => s ctx.X (mapE ev c.args.toList) hp nm k
     | none => False
    | _ => False
  | _ => False
 | _ => False

def aggT (tt : List (Nat × TI)) (t : TypeId) : Bool := match lookN tt t with | some i => isAggD i.desc | none => false

def binE (op : BinOp) (t : TypeId) (x y : AV) (k : Rec → Prop) : Prop :=
 match x,y with
 | .v (.one (.raw (.int kk a))),.v (.one (.raw (.int k' b))) => match op with
  | .shl => ob (decide (0 ≤ b)) (k { val := intV kk (kk.wrap (a * 2 ^ (min b.toNat kk.bits))) })
  | .shr => ob (decide (0 ≤ b)) (k { val := intV kk (a.fdiv (2 ^ (min b.toNat kk.bits))) })
  | op => if kk = k' then intBin op kk a b k else False
 | .v (.one (.raw (.bool a))),.v (.one (.raw (.bool b))) => match op with
  | .eql => match lookN ctx.tt t with | some i => (match i.desc with | .bool => k { val := boolV (a == b) } | _ => False) | none => False
  | .neq => match lookN ctx.tt t with | some i => (match i.desc with | .bool => k { val := boolV (!(a == b)) } | _ => False) | none => False
  | _ => False
 | .v (.one (.raw (.string a))),.v (.one (.raw (.string b))) => match op with
  | .eql => k { val := boolV (a == b) }
  | .neq => k { val := boolV (a != b) }
  | .add => ob (decide (a.size + b.size < 4611686018427387904)) (k { val := .v (.one (.raw (.string (a ++ b)))) })
  | _ => False
 | .v (.agg xs),.v (.agg ys) => match op with
  | .eql => match aggT ctx.tt t,eqE ctx.tt 20 t xs ys with | true,some b => k { val := boolV b } | _,_ => False
  | .neq => match aggT ctx.tt t,eqE ctx.tt 20 t xs ys with | true,some b => k { val := boolV (!b) } | _,_ => False
  | _ => False
 | .v (.one (.raw (.slice a _ _))),.v (.one (.raw (.slice none _ _))) => match lookN ctx.tt t with
  | some i => match i.desc,op with
   | .slice _,.eql => k { val := boolV a.isNone }
   | .slice _,.neq => k { val := boolV (!a.isNone) }
   | _,_ => False
  | none => False
 | _,_ => False

def ndB (x y : AV) : Bool := !ctx.its.isEmpty && (match x,y with
 | .v (.one (.full _)),.v (.one (.raw (.slice none 0 0))) => true
 | _,_ => false)
def nilE (op : BinOp) (t : TypeId) (x y : AV) (hp : HP) (k : Rec → Prop) : Prop := match x,y with
 | .v (.one (.full n)),.v (.one (.raw (.slice none 0 0))) => match hp n,lookN ctx.tt t with
  | some (.row _ l _),some i => match i.desc,op with
   | .slice _,.eql => ∀ b : Bool,(0 < l.length → b = false) → k { val := boolV b,touch := [n] }
   | .slice _,.neq => ∀ b : Bool,(0 < l.length → b = false) → k { val := boolV (!b),touch := [n] }
   | _,_ => False
  | _,_ => False
 | _,_ => False
def opE (o : Op) (ev : Operand → AV) (hp : HP) (nm:Nat) (k : Rec → Prop) : Prop :=
 match o with
 | .move x => k { val := ev x }
 | .assign x => k { val := ev x }
 | .pick c a b => match ev c with
  | .v (.one (.raw (.bool t))) => cB t (k { val := ev a }) (k { val := ev b })
  | _ => False
 | .alloc t => match lookN ctx.tt t with
  | some i => k { val := .v (.one (.ptr nm 0)),fresh := [.cells (zcells i.zero) t] }
  | none => False
 | .box t x => match (ev x).cells with
  | some xs => k { val := .v (.one (.ptr nm 0)),fresh := [.cells xs t] }
  | none => False
 | .build t parts => match lookN ctx.tt t with
  | some i => buildE ctx i parts.toList ev k
  | none => False
 | .buildSlice t len parts => match lookN ctx.tt t with
  | some i => if Nat.beq len 0 && parts.toList.isEmpty then makeSliceE ctx i (.v (.one (.raw (.int .i64 0)))) (.v (.one (.raw (.int .i64 0)))) nm k else buildSliceE ctx i len parts.toList ev nm k
  | none => False
 | .load t x => match lookN ctx.tt t with
  | some i => if isDpP hp (ev x) then dpLoadE i (ev x) hp nm k else loadE i (ev x) hp nm k
  | none => False
 | .store t x y => match lookN ctx.tt t with
  | some i => if isDpP hp (ev x) then dpStoreE i (ev x) (ev y) hp nm k else storeE i (ev x) (ev y) hp k
  | none => False
 | .nilCheck x => match ev x with
  | .v (.one (.ptr n off)) => withBlk hp n (k { val := .v (.one (.ptr n off)),touch := [n] })
  | .v (.one (.aptr n off)) => withBlk hp n (k { val := .v (.one (.aptr n off)),touch := [n] })
  | .v (.one (.eptr n j q)) => (match isRc hp n with
   | true => k { val := .v (.one (.eptr n j q)),touch := [n] }
   | false => withRow hp n j fun _ => k { val := .v (.one (.eptr n j q)),touch := [n] })
  | .v (.one (.eaptr n j q)) => withRow hp n j fun _ => k { val := .v (.one (.eaptr n j q)),touch := [n] }
  | .v (.one (.clo (.func f) first cap)) => k { val := .v (.one (.clo (.func f) first cap)) }
  | .v (.one (.mv f agg rs)) => k { val := .v (.one (.mv f agg rs)) }
  | .v (.one (.raw (.pointer (some a)))) => k { val := .v (.one (.raw (.pointer (some a)))) }
  | .v (.one (.raw (.func (.func f) first cap))) => k { val := .v (.one (.raw (.func (.func f) first cap))) }
  | _ => False
 | .binOp op t x y _ => if ndB ctx (ev x) (ev y) then nilE ctx op t (ev x) (ev y) hp k else binE ctx op t (ev x) (ev y) k
 | .unOp u _ x => match u,ev x with
  | .neg,.v (.one (.raw (.int kk a))) => k { val := intV kk (kk.wrap (0 - a)) }
  | .not,.v (.one (.raw (.bool b))) => k { val := boolV (!b) }
  | _,_ => False
 | .convert s d x => match lookN ctx.tt s,lookN ctx.tt d with
  | some _,some i => match i.desc,ev x with
   | .int kk,.v (.one (.raw (.int _ a))) => k { val := intV kk (kk.wrap a) }
   | _,_ => False
  | _,_ => False
 | .makeFunc fn first cap => match toRawL (mapE ev first.toList),toRefL (mapE ev cap.toList) with
  | some f,some c => k { val := .v (.one (.clo fn f c)) }
  | _,_ => match fn,mapE ev first.toList,cap.toList with
   | .func g,[r],[] => match recvOf r with
    | some (agg,rs) => k { val := .v (.one (.mv g agg rs)) }
    | none => False
   | _,_,_ => False
 | .makeMap t none => match lookN ctx.tt t with
  | some i => if slMap ctx i then makeMapG ctx i nm k else makeMapE ctx i nm k
  | none => False
 | .lookup t x ix ok => match lookN ctx.tt t with
  | some i => if isGrp hp (ev x) then lookupG ctx i (ev x) (ev ix) ok hp nm k else lookupE ctx i (ev x) (ev ix) ok hp k
  | none => False
 | .mapUpdate t m ix x => match lookN ctx.tt t with
  | some i => if isGrp hp (ev m) then mapUpdateG ctx i (ev m) (ev ix) (ev x) hp nm k else mapUpdateE ctx i (ev m) (ev ix) (ev x) hp k
  | none => False
 | .insert t m ix x => match lookN ctx.tt t with
  | some i => mapUpdateE ctx i (ev m) (ev ix) (ev x) hp k
  | none => False
 | .slice t x lo hi mx => match lookN ctx.tt t with
  | some i => sliceE ctx i (ev x) (lo.map ev) (hi.map ev) (mx.map ev) hp nm k
  | none => False
 | .makeSlice t x y => match lookN ctx.tt t with
  | some i => makeSliceE ctx i (ev x) (ev y) nm k
  | none => False
 | .fieldAddr t x f => match lookN ctx.tt t with
  | some i => fieldAddrE ctx i (ev x) f hp k
  | none => False
 | .field t x f => match lookN ctx.tt t with
  | some i => fieldE ctx i (ev x) f k
  | none => False
 | .indexAddr t x ix => match lookN ctx.tt t with
  | some i => if isNvS hp (ev x) then nvAddrE ctx i (ev x) (ev ix) hp k else indexAddrE ctx i (ev x) (ev ix) (isConstO ix) hp k
  | none => False
 | .index t x ix => match lookN ctx.tt t with
  | some i => indexE ctx i (ev x) (ev ix) (isConstO ix) k
  | none => False
 | .extract x i => match ev x with
  | .tup l => match l[i]? with | some a => k { val := .v a } | none => False
  | _ => False
 | .call c => callE ctx c ev hp nm k
 | .range t x => if ctx.its.isEmpty then False else rangeE ctx t (ev x) hp nm k
 | .next x false => if ctx.its.isEmpty then False else nextE (ev x) hp nm k
 | .entry x => if ctx.its.isEmpty then False else entryE (ev x) hp k
 | _ => False

def setTmp (tmps : List AV) : Option Nat → AV → List AV
 | some d,v => tmps.set d v
 | none,_ => tmps

def AS.app (st : AS) (dst : Option Nat) (r : Rec) : AS :=
 { tmps := setTmp st.tmps dst r.val,heap := r.writes.foldl (fun h p => h.set p.1 p.2) st.heap ++ r.fresh }

structure LogE where
 nm : Nat
 cnt : Nat
 touch : List Nat
 wr : List Nat

def logOf (nm:Nat) (r : Rec) : LogE := { nm := nm,cnt := r.fresh.length,touch := r.touch,wr := r.writes.map (·.1) }
def logSkip (nm:Nat) : LogE := { nm := nm,cnt := 0,touch := [],wr := [] }

def dstOf (ops : Array Oper) (j:Nat) : Option Nat := match ops[j]? with
 | some o => o.dst
 | none => none

def noDead (o : Op) (ev : Operand → AV) : Bool := o.operands.toList.all fun x => !(ev x).isDead

def stepE (o : Op) (st : AS) (k : Rec → Prop) : Prop := if noDead o (evalE st.tmps) then opE ctx o (evalE st.tmps) (liveAt st.heap) st.heap.length k else False

def opsE (all : Array Oper) : List Oper → List Nat → AS → List LogE → (AS → List LogE → Prop) → Prop
  | [], _, st, lg, K => K st lg
  | o :: rest, dec, st, lg, K => match o.guard with
    | none => stepE ctx o.op st fun r => opsE all rest dec (st.app o.dst r) (lg ++ [logOf st.heap.length r]) K
    | some (j, want) => match dstOf all j with
      | some d => match nthD st.tmps d with
        | .v (.one (.raw (.bool x))) =>
          if dec.contains d then
            (if x = want then stepE ctx o.op st fun r => opsE all rest dec (st.app o.dst r) (lg ++ [logOf st.heap.length r]) K
             else opsE all rest dec { st with tmps := setTmp st.tmps o.dst und } (lg ++ [logSkip st.heap.length]) K)
          else
            (match want with
             | true => cB x (stepE ctx o.op { st with tmps := st.tmps.set d (boolV true) } fun r => opsE all rest (d :: dec) ({ st with tmps := st.tmps.set d (boolV true) }.app o.dst r) (lg ++ [logOf st.heap.length r]) K)
                (opsE all rest (d :: dec) { st with tmps := setTmp (st.tmps.set d (boolV false)) o.dst und } (lg ++ [logSkip st.heap.length]) K)
             | false => cB x (opsE all rest (d :: dec) { st with tmps := setTmp (st.tmps.set d (boolV true)) o.dst und } (lg ++ [logSkip st.heap.length]) K)
                (stepE ctx o.op { st with tmps := st.tmps.set d (boolV false) } fun r => opsE all rest (d :: dec) ({ st with tmps := st.tmps.set d (boolV false) }.app o.dst r) (lg ++ [logOf st.heap.length r]) K))
        | .tup [] => opsE all rest dec { st with tmps := setTmp st.tmps o.dst und } (lg ++ [logSkip st.heap.length]) K
        | _ => False
      | none => False

def direct (o : Oper) : List Nat := (o.after.toList.filter (Region.binds .any)).map (·.on)
def masks : List Oper → List Nat → List Nat
 | [],acc => acc
 | o :: r,acc => masks r (acc ++ [(direct o).foldl (fun s j => s ||| (2 ^ j ||| acc.getD j 0)) 0])

def disjN (a b : List Nat) : Bool := a.all fun x => !b.contains x

def maker (lg : List LogE) (m:Nat) : Option Nat := lg.findIdx? fun l => l.nm ≤ m && m < l.nm + l.cnt

def looksL (ops : Array Oper) (o : Oper) : List Nat :=
 (o.op.operands.toList.filterMap fun | .tmp t => some t | _ => none) ++ (match o.guard with | some (g,_) => (dstOf ops g).toList | none => [])

def ordOne (ops : Array Oper) (ms : List Nat) (lg : List LogE) (i : Nat) : Bool :=
  match ops[i]?, lg[i]? with
  | some o, some l =>
    (direct o).all (· < i) && (l.wr.all fun m => l.touch.contains m) &&
    (l.touch.all fun m => match maker lg m with | some j => j == i || (ms.getD i 0).testBit j | none => true) &&
    (List.range i).all fun j => (ms.getD i 0).testBit j ||
      (match ops[j]?, lg[j]? with
       | some p, some q => disjN l.wr q.touch && disjN q.wr l.touch && disjN l.wr q.wr &&
          (match p.dst with | some d => o.dst != some d && !(looksL ops o).contains d | none => true) &&
          (match o.dst with | some d => !(looksL ops p).contains d | none => true)
       | _, _ => false)
  | _, _ => false

def ordOk (ops : Array Oper) (lg : List LogE) : Bool :=
 lg.length == ops.size && (List.range ops.size).all (ordOne ops (masks ops.toList []) lg)

def memN (x:Nat) : List Nat → Bool
 | [] => false
 | y :: r => Nat.beq x y || memN x r
def subN : List Nat → List Nat → Bool
 | [],_ => true
 | x :: r,l => memN x l && subN r l
def disN : List Nat → List Nat → Bool
 | [],_ => true
 | x :: r,l => !memN x l && disN r l
def masksR : List Oper → Nat → List Nat → List Nat
 | [],_,acc => acc
 | o :: r,k,acc => masksR r (k + 1) ((direct o).foldl (fun s j => s ||| (2 ^ j ||| (bif Nat.blt j k then acc.getD (k - 1 - j) 0 else 0))) 0 :: acc)
def msF (ops : Array Oper) : List Nat := (masksR ops.toList 0 []).reverse
structure OI where
 d : Option Nat
 lk : List Nat
 m : Nat
def oiL (all : Array Oper) : List Oper → List Nat → List OI
 | o :: r,m :: ms => ⟨o.dst,looksL all o,m⟩ :: oiL all r ms
 | _,_ => []
def statP (o p : OI) : Bool :=
 (match p.d with
  | some d => (match o.d with | some e => !Nat.beq e d | none => true) && !memN d o.lk
  | none => true) &&
 (match o.d with
  | some d => !memN d p.lk
  | none => true)
def statRow (o : OI) : List OI → Nat → Nat → Bool
 | p :: r,j,k + 1 => (o.m.testBit j || statP o p) && statRow o r (j + 1) k
 | _,_,_ => true
def statAll (all : List OI) : List OI → Nat → Bool
 | [],_ => true
 | o :: r,i => statRow o all 0 i && statAll all r (i + 1)
def dirAll : List Oper → Nat → Bool
 | [],_ => true
 | o :: r,i => ((direct o).all fun j => Nat.blt j i) && dirAll r (i + 1)
def statOk (ops : Array Oper) : Bool := dirAll ops.toList 0 && statAll (oiL ops ops.toList (msF ops)) (oiL ops ops.toList (msF ops)) 0
structure DI where
 i : Nat
 m : Nat
 t : List Nat
 w : List Nat
def dynL : List LogE → List Nat → Nat → List DI
 | l :: r,m :: ms,i => (match l.touch,l.wr with
  | [],[] => dynL r ms (i + 1)
  | t,w => ⟨i,m,t,w⟩ :: dynL r ms (i + 1))
 | _,_,_ => []
def mkL : List LogE → Nat → List (Nat × Nat × Nat)
 | [],_ => []
 | l :: r,i => match l.cnt with
  | 0 => mkL r (i + 1)
  | c => (i,l.nm,c) :: mkL r (i + 1)
def makerF (x:Nat) : List (Nat × Nat × Nat) → Option Nat
 | [] => none
 | p :: r => bif Nat.ble p.2.1 x && Nat.blt x (p.2.1 + p.2.2) then some p.1 else makerF x r
def dynOne (mk : List (Nat × Nat × Nat)) (o : DI) : Bool :=
 subN o.w o.t && o.t.all fun x => match makerF x mk with | some j => Nat.beq j o.i || o.m.testBit j | none => true
def dynPair (o p : DI) : Bool := Nat.ble o.i p.i || o.m.testBit p.i || (disN o.w p.t && disN p.w o.t && disN o.w p.w)
def wsL : List DI → List DI
 | [] => []
 | o :: r => match o.w with
  | [] => wsL r
  | _ => o :: wsL r
def dynOk (D : List DI) (mk : List (Nat × Nat × Nat)) : Bool := (D.all fun o => dynOne mk o) && (wsL D).all fun p => D.all fun o => dynPair o p && dynPair p o
def force {α : Type} (n:Nat) (k : Nat → α) : α := match n with
 | 0 => k 0
 | m + 1 => k (m + 1)
def forceN {α : Type} : List Nat → (List Nat → α) → α
 | [],k => k []
 | x :: r,k => force x fun v => forceN r fun l => k (v :: l)
def forceLg {α : Type} : List LogE → (List LogE → α) → α
 | [],k => k []
 | e :: r,k => force e.nm fun a => force e.cnt fun b => forceN e.touch fun t => forceN e.wr fun w => forceLg r fun l => k (⟨a,b,t,w⟩ :: l)
def ordFast (ops : Array Oper) (lg : List LogE) : Bool := forceLg lg fun lg =>
 Nat.beq lg.length ops.size && statOk ops && dynOk (dynL lg (msF ops) 0) (mkL lg 0)

def regionE (ops : Array Oper) (draw : Bool) (st : AS) (K : AS → Prop) : Prop :=
 if draw then opsE { ctx with ys := [],its := [] } ops ops.toList [] st [] fun st' lg => if ordFast ops lg then K st' else False
 else opsE ctx ops ops.toList [] st [] fun st' _ => K st'

inductive Src
 | same (m:Nat)
 | nil
 | cells (m len:Nat)
 | mt (m off:Nat)
 | any (m:Nat)
def renN (π : List Src) (n:Nat) : Option Nat := match π[n]? with
 | some (.same m) => some m
 | _ => none
def renRef (π : List Src) : Ref → Option Ref
 | .ext v => some (.ext v)
 | .loc n o => match renN π n with | some m => some (.loc m o) | none => none
 | .elem n j => match renN π n with | some m => some (.elem m j) | none => none
 | .full n => match renN π n with | some m => some (.full m) | none => none
 | .mp n => match renN π n with | some m => some (.mp m) | none => none
def renRefs (π : List Src) : List Ref → Option (List Ref)
 | [] => some []
 | r :: l => match renRef π r,renRefs π l with | some q,some m => some (q :: m) | _,_ => none
def renC (π : List Src) : Cell → Option Cell
 | .raw v => some (.raw v)
 | .ptr n o => match renN π n with | some m => some (.ptr m o) | none => none
 | .aptr n o => match renN π n with | some m => some (.aptr m o) | none => none
 | .sl n o l c => match renN π n with | some m => some (.sl m o l c) | none => none
 | .eptr n j k => match renN π n with | some m => some (.eptr m j k) | none => none
 | .eaptr n j k => match renN π n with | some m => some (.eaptr m j k) | none => none
 | .full n => match π[n]? with
  | some (.same m) => some (.full m)
  | some .nil => some (.raw (.slice none 0 0))
  | some (.cells m len) => some (.sl m 0 len len)
  | some (.mt m off) => some (.sl m off 0 0)
  | some (.any m) => some (.full m)
  | none => none
 | .clo f a cap => match renRefs π cap with | some c => some (.clo f a c) | none => none
 | .yld n => match renN π n with | some m => some (.yld m) | none => none
 | .mp n => match renN π n with | some m => some (.mp m) | none => none
 | .mv f a rs => match renRefs π rs with | some c => some (.mv f a c) | none => none
def renCs (π : List Src) : List Cell → Option (List Cell)
 | [] => some []
 | c :: l => match renC π c,renCs π l with | some q,some m => some (q :: m) | _,_ => none
def renA (π : List Src) : A0 → Option A0
 | .one c => match renC π c with | some q => some (.one q) | none => none
 | .agg cs => match renCs π cs with | some q => some (.agg q) | none => none
def renAs (π : List Src) : List A0 → Option (List A0)
 | [] => some []
 | c :: l => match renA π c,renAs π l with | some q,some m => some (q :: m) | _,_ => none
def renV (π : List Src) : AV → Option AV
 | .v a => match renA π a with | some q => some (.v q) | none => none
 | .tup l => match renAs π l with | some q => some (.tup q) | none => none
 | .dead => none
def fixedB (π : List Src) : Nat → Bool
 | 0 => true
 | n + 1 => (match π[n]? with | some (.same m) => m == n | _ => false) && fixedB π n
def renO (π : List Src) : AObj → Option AObj
 | .cells cs e => match renCs π cs with | some q => some (.cells q e) | none => none
 | .row t l rk => some (.row t l rk)
 | .alias n s q => match renN π n with | some m => some (.alias m s q) | none => none
 | .gone => none
 | .loop r s j => some (.loop r s j)
 | .pin ρ n => if fixedB π n then some (.pin ρ n) else none
 | .hide S => some (.hide S)
 | .map ka va k v l => some (.map ka va k v l)
 | .grp ka k u l c q => match renN π c with | some m => some (.grp ka k u l m q) | none => none
 | .set n => match renN π n with | some m => some (.set m) | none => none
 | .gv n c k u x l => match renN π n,renN π c with | some m,some d => some (.gv m d k u x l) | _,_ => none
 | .rc cs => match renCs π cs with | some q => some (.rc q) | none => none
 | .hmap es clk => some (.hmap es clk)
 | .dp t l c st kn => match renN π c with | some d => some (.dp t l d st kn) | none => none
 | .nv n c j q u => match renN π n,renN π c with | some m,some d => some (.nv m d j q u) | _,_ => none
 | .itr n c es clk ka k u l cur => match renN π n,renN π c,cur with
  | some m,some d,none => some (.itr m d es clk ka k u l none)
  | some m,some d,some (a,q) => match renN π q with | some q' => some (.itr m d es clk ka k u l (some (a,q'))) | none => none
  | _,_,_ => none
def srcB : Src → Option Nat
 | .same m => some m
 | .nil => none
 | .cells m _ => some m
 | .mt _ _ => none
 | .any m => some m
def objR (π : List Src) (h : List AObj) (s : Src) (o : AObj) : Prop := match s with
 | .same m => ∃ p,liveAt h m = some p ∧ renO π o = some p
 | .nil => ∃ t rk,o = .row t [] rk ∧ rk ≠ 0
 | .mt m _ => ∃ t cs e,o = .row t [] 3 ∧ liveAt h m = some (.cells cs e)
 | .any m => ∃ t l rk,o = .row t l 3 ∧ liveAt h m = some (.row t l rk) ∧ rk ≠ 0
 | .cells m len => ∃ t l cs e rk,o = .row t l rk ∧ (rk = 2 ∨ rk = 3) ∧ liveAt h m = some (.cells cs e) ∧ t.flat = true ∧ decN (decT (fun _ => none) t) len cs = some (l,[]) ∧ cs.length = len * t.size ∧ Nat.ble len 1099511627776 = true
def heapR (π : List Src) (h : List AObj) : List Src → List AObj → Prop
 | _ :: r,.gone :: l => heapR π h r l
 | s :: r,o :: l => objR π h s o ∧ heapR π h r l
 | [],[] => True
 | _,_ => False
def srcs : List Src → List AObj → List Nat
 | _ :: r,.gone :: l => srcs r l
 | s :: r,_ :: l => (match srcB s with | some m => m :: srcs r l | none => srcs r l)
 | _,_ => []
def tmpsR (π : List Src) : List AV → List AV → Prop
 | _ :: r,.dead :: s => tmpsR π r s
 | x :: r,y :: s => renV π y = some x ∧ tmpsR π r s
 | [],[] => True
 | _,_ => False
structure Ren (π : List Src) (st st' : AS) : Prop where
 tmps : tmpsR π st.tmps st'.tmps
 heap : heapR π st.heap π st'.heap
 inj : nodupL (srcs π st'.heap) = true
def Weak (st st' : AS) : Prop := ∃ π,Ren π st st'

def wrapB (id:Nat) (K : Exit → AS → Prop) (e : Exit) (st' : AS) : Prop := match e with
 | .exit id' => if id' = id then K .normal st' else K (.exit id') st'
 | e => K e st'

def noRF : Code → Bool
 | .seq a b => noRF a && noRF b
 | .cond _ a b => noRF a && noRF b
 | .loop c => noRF c
 | .block _ c => noRF c
 | .rangeFunc _ _ _ _ => false
 | .scope c => noRF c
 | _ => true
def setPs : List AV → List Nat → List AV → List AV
 | l,t :: ts,v :: vs => setPs (l.set t v) ts vs
 | l,_,_ => l
def diffR (hp : HP) (nm:Nat) (h : List AObj) (b : Bool) : Rec := diffV hp nm h (boolV b)
def isRdy (o : Option AObj) (r : Loop) (K : Prop) : Prop := match o with
 | some (.loop r' .ready none) => r' = r ∧ K
 | _ => False
def isBusy (o : Option AObj) (r : Loop) (K : Prop) : Prop := match o with
 | some (.loop r' .busy none) => r' = r ∧ K
 | _ => False
def jumpObj (r : Loop) : Option Code → AObj
 | none => .loop r .ready none
 | some c => .loop r .done (some c)
def roundEnd (hp : HP) (nm n:Nat) (r : Loop) (ρ1 : Env) (h : List AObj) (jump : Option Code) (k : Rec → Prop) : Prop :=
 isBusy (liveAt h n) r (isPin (liveAt h nm) ρ1 nm (k (diffR hp nm (h.set n (jumpObj r jump)) jump.isNone)))
def loopEnd (n:Nat) (ρ0 : Env) (tmps : List AV) (h : List AObj) (K : Exit → AS → Prop) : Prop :=
 isPin (liveAt h (n + 1)) ρ0 (n + 1) (match liveAt h n with
  | some (.loop _ .ready none) => K .normal ⟨tmps,(h.set n .gone).set (n + 1) .gone⟩
  | some (.loop _ .done (some .ret)) => K .ret ⟨tmps,(h.set n .gone).set (n + 1) .gone⟩
  | some (.loop _ .done (some (.exit id))) => K (.exit id) ⟨tmps,(h.set n .gone).set (n + 1) .gone⟩
  | _ => False)

def yldG (X0 : Addr → Value → Prop) (n : Nat) (tmps : List AV) (r : Loop) (ρ0 : Env) (ps : Array Tmp) (A B : AS → (Exit → AS → Prop) → Prop) : Spec := fun X args hp nm k => X = X0 ∧ (if ps.size = args.length then
          isPin (hp (n + 1)) ρ0 (n + 1) (isRdy (hp n) r (∀ ρ1 : Env,
            A ⟨setPs tmps ps.toList args, heapOf hp nm ++ [.pin ρ1 nm]⟩ fun e st1 => match e with
              | .normal => isPin (liveAt st1.heap nm) ρ1 nm (isRdy (liveAt st1.heap n) r (B ⟨st1.tmps, st1.heap.set n (.loop r .busy none)⟩ fun e st2 => match e with
                | .normal => roundEnd hp nm n r ρ1 st2.heap none k
                | .ret => roundEnd hp nm n r ρ1 st2.heap (some .ret) k
                | .exit id => roundEnd hp nm n r ρ1 st2.heap (some (.exit id)) k
                | _ => False))
              | _ => False)) else False)

def codeE : Code → AS → (Exit → AS → Prop) → Prop
 | .skip,st,K => K .normal st
 | .region _ ops draw,st,K => regionE ctx ops draw st (K .normal)
 | .seq a b,st,K => codeE a st fun e st' => match e with
  | .normal => codeE b st' K
  | e => K e st'
 | .cond c x y,st,K => match evalE st.tmps c with
  | .v (.one (.raw (.bool t))) => cB t (codeE x st K) (codeE y st K)
  | _ => False
 | .block id c,st,K => match lookN ctx.lp id with
  | some sp => sp st K
  | none => codeE c st (wrapB id K)
 | .loop c,st,K => ∃ (I : Nat → AS → Prop),(∃ m st',Weak st st' ∧ I m st') ∧ ∀ m st1,I m st1 → codeE c st1 fun e st2 => match e with
  | .normal => ∃ m' st',m' < m ∧ Weak st2 st' ∧ I m' st'
  | e => K e st2
 | .rangeFunc g ps assign body,st,K => if noRF assign && noRF body then match evalE st.tmps g with
  | .v (.one (.clo (.func f) [] cap)) => match lookN ctx.its f with
   | some isp => ∀ (r : Loop) (ρ0 : Env),isp [(st.heap.length,yldG ctx.X st.heap.length st.tmps r ρ0 ps (codeE assign) (codeE body))]
     (.v (.one (.yld st.heap.length)) :: cap.map ofRef) (st.heap ++ [.loop r .ready none,.pin ρ0 (st.heap.length + 1)]) fun _ st2 => loopEnd st.heap.length ρ0 st.tmps st2.heap K
   | none => False
  | _ => False else False
 | .exit id,st,K => K (.exit id) st
 | .ret,st,K => K .ret st
 | _,_,_ => False

def unroll (c : Code) : Nat → LSpec
 | 0,_,_ => False
 | n + 1,st,K => codeE ctx c st fun e st2 => match e with
  | .normal => unroll c n st2 K
  | e => K e st2

def resOne (st : AS) : ResultVar → Option A0
 | .tmp t => match nthD st.tmps t with | .v a => some a | _ => none
 | .cell t ty => match nthD st.tmps t,lookN ctx.tt ty with
  | .v (.one (.ptr n off)),some i => match liveAt st.heap n with
   | some (.cells cs _) => if isAggD i.desc then (if off + i.size ≤ cs.length then some (.agg ((cs.drop off).take i.size)) else none)
    else (match cs[off]? with | some c => some (.one c) | none => none)
   | _ => none
  | _,_ => none
def resAll (st : AS) : List ResultVar → Option (List A0)
 | [] => some []
 | r :: l => match resOne ctx st r,resAll st l with
  | some a,some b => some (a :: b)
  | _,_ => none
def resE (fn : Func) (st : AS) (R : AV → AS → Prop) : Prop :=
 match resAll ctx st fn.results.toList with
 | some [a] => R (.v a) st
 | some l => R (.tup l) st
 | none => False

def fnE (fn : Func) (args : List AV) (heap : List AObj) (R : AV → AS → Prop) : Prop :=
 match fn.body with
 | some c => codeE ctx c ⟨args ++ List.replicate (fn.ntmps - args.length) und,heap⟩ fun e st => match e with
  | .ret => resE ctx fn st R
  | .normal => resE ctx fn st R
  | _ => False
 | none => False
end
end Go.Ev
