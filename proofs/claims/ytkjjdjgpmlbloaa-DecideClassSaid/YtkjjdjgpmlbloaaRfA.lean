/- An evaluator of the model's code, and the proof that it is sound. Own work; no program in it. -/
import Derived.Calls
import Derived.Orders
import Derived.Scope
import Derived.Laws.Sem
import Derived.Laws.World
import Derived.Laws.Cells
import Derived.Laws.StructEq
import Derived.Deep.MidRow
import Derived.Laws.IdiomCopy
import Derived.Laws.Entries
import Derived.Laws.Slices
import Derived.Great.FillDense
import Derived.Great.BuildSlice
import Derived.Laws.Append
namespace Go.Rf
set_option linter.unusedVariables false

inductive Tok where
  | none | full | own (t : Nat)

/-- A cell's content, as the evaluator sees it. -/
inductive S (C : Type) (D : C → Type) where
  | val (v : Value)
  | ptr (s i off : Nat)
  | isl (t : Tok) (u : C) (xs : List (D u))
  | iptr (u : C) (x : D u) (off : Nat)
  | optr (u : C) (x : Option (D u))    -- no pointer, or one to what nobody writes
  | sl (s i n : Nat)
  | arr (s : Nat)
  | hole

structure Univ where
  C : Type
  D : C → Type
  dft : (u : C) → D u
  size : C → Nat
  enc : (u : C) → D u → List (S C D)
  dec : (u : C) → List (S C D) → Option (D u)
  ofType : TypeId → Option C
  eq? : (u v : C) → Option (PLift (u = v))
  toBytes : (u : C) → List (D u) → Option (List UInt8)
  u8 : C
  ofBytes : List UInt8 → List (D u8)

abbrev Univ.S (U : Univ) := Rf.S U.C U.D

/-- A value: one cell (g false), or the cells of a struct or an array. -/
structure V (U : Univ) where
  g : Bool
  l : List U.S

inductive A (U : Univ) where
  | v (x : V U)
  | t (xs : List (V U))

inductive Ent (U : Univ) where
  | obj (cells : List U.S)
  | fam (contig : Bool) (u : U.C) (n : Nat) (f : Nat → U.D u)
  | tok
  | dead

abbrev Env (U : Univ) := List (Nat × A U)
abbrev Heap (U : Univ) := List (Nat × Ent U)

def get {α : Type} : List (Nat × α) → Nat → Option α
  | [], _ => .none
  | (k, v) :: r, t => bif Nat.beq k t then some v else get r t

structure St (U : Univ) where
  n : Nat          -- how many temporaries there are
  env : Env U
  h : Heap U
  nx : Nat

structure Out (U : Univ) where
  v : A U
  rd : List Nat := []                -- entries that were read
  w : List (Nat × Ent U) := []       -- entries that are written, new ones too
  nw : Nat := 0                      -- how many of them are new: nx, nx + 1, ..

inductive OpR (U : Univ) : Type 1 where
  | fail
  | ok (o : Out U)
  | chk (b : Bool) (o : Out U)
  | opt (α : Type) (x : Option α) (k : α → Out U)

def OpR.outs {U : Univ} : OpR U → Option (Out U)
  | .fail => .none
  | .ok o => some o
  | .chk b o => bif b then some o else .none
  | .opt _ x k => x.map k

inductive Res (U : Univ) where
  | fail
  | done (v : A U) (h : Heap U)

def Res.Sat {U : Univ} (Q : A U → Heap U → Prop) : Res U → Prop
  | .fail => False
  | .done v h => Q v h

abbrev Native (U : Univ) := List (A U) → Heap U → Nat → OpR U

section
variable {U : Univ}

def sc (x : U.S) : A U := .v ⟨false, [x]⟩
def scv (v : Value) : A U := .v ⟨false, [.val v]⟩
def one (x : U.S) : OpR U := .ok { v := sc x }

/-! types -/
def fieldOff (P : Program) (t f : Nat) : Option Nat :=
  match P.underlying t with
  | some (.struct fs) =>
    match fs[f]? with
    | some fl => match P.info? fl.type with
      | some i => bif Nat.beq i.size 0 then .none else some fl.offset
      | .none => .none
    | .none => .none
  | _ => .none

def fieldAt (P : Program) (t f : Nat) : Option (Nat × TypeId) :=
  match P.underlying t with
  | some (.struct fs) => (fs[f]?).map fun fl => (fl.offset, fl.type)
  | _ => .none

def agg? (P : Program) (t : Nat) : Option Bool :=
  match P.underlying t with
  | some (.struct _) => some true
  | some (.array _ _) => some true
  | some _ => some false
  | .none => .none

def size? (P : Program) (t : Nat) : Option Nat := (P.info? t).map (·.size)

/-- an operation of the model that touches no memory -/
def pureRun {α : Type} (P : Program) : Sem α → Option α
  | .pure a => some a
  | .program k => pureRun P (k P)
  | .mark _ k => pureRun P k
  | _ => .none

/-- one cell; a byte is one -/
def okV : Value → Bool
  | .int .u8 n => decide (0 ≤ n) && decide (n < 256)
  | v => v.oneCell'

/-- the same, of what no byte is -/
def okR : Value → Bool
  | .int .u8 _ => false
  | v => v.oneCell'

/-! operands -/
def ofValue (v : Value) : Option (A U) :=
  match v with
  | .agg cs => bif cs.toList.all okV then some (.v ⟨true, cs.toList.map .val⟩) else .none
  | .tuple cs => bif Nat.beq cs.size 0 then some (.t []) else .none
  | v => bif okV v then some (scv v) else .none

def opd (env : Env U) : Operand → Option (A U)
  | .tmp t => get env t
  | .const v => ofValue v
  | .func f => some (scv (.func (.func f) #[] #[]))
  | .global _ => .none

def vals : List U.S → Option (List Value)
  | [] => some []
  | .val v :: r => match vals r with
    | some l => some (v :: l)
    | .none => .none
  | _ => .none

def asVal : A U → Option Value
  | .v ⟨false, [.val v]⟩ => some v
  | _ => .none

/-! memory -/
def dropT {α : Type} (off n : Nat) (l : List α) : List α := (l.drop off).take n

def isCell : U.S → Bool
  | .arr _ => false
  | .hole => false
  | _ => true

def fset {α : Type} (f : Nat → α) (i : Nat) (x : α) : Nat → α := fun j => if j = i then x else f j

/-- cells [off, off + n) of an entry -/
def ld (h : Heap U) (s i off n : Nat) : Option (List U.S) :=
  match get h s with
  | some (.obj cells) =>
    let l := dropT off n cells
    bif Nat.beq l.length n && l.all isCell then some l else .none
  | some (.fam _ u _ f) =>
    let l := dropT off n (U.enc u (f i))
    bif Nat.beq l.length n && l.all isCell then some l else .none
  | _ => .none

def splice {α : Type} (off : Nat) (new l : List α) : List α := l.take off ++ new ++ l.drop (off + new.length)

def stE (h : Heap U) (s i off : Nat) (new : List U.S) : Option (Ent U) :=
  match get h s with
  | some (.obj cells) =>
    bif Nat.ble (off + new.length) cells.length && (dropT off new.length cells).all isCell && new.all isCell then some (.obj (splice off new cells)) else .none
  | some (.fam ct u n f) =>
    let old := U.enc u (f i)
    bif Nat.ble (off + new.length) old.length && new.all isCell then
      match U.dec u (splice off new old) with
      | some x => some (.fam ct u n (fset f i x))
      | .none => .none
    else .none
  | _ => .none

def asV (a : Bool) (l : List U.S) : Option (A U) :=
  match a with
  | true => some (.v ⟨true, l⟩)
  | false => match l with
    | [x] => some (.v ⟨false, [x]⟩)
    | _ => .none

def opLoad (P : Program) (t : TypeId) (a : A U) (h : Heap U) : OpR U :=
  match agg? P t, size? P t, a with
  | some g, some n, .v ⟨false, [.ptr s i off]⟩ =>
    match ld h s i off n with
    | some l => match asV g l with
      | some v => .ok { v := v, rd := [s] }
      | .none => .fail
    | .none => .fail
  | some g, some n, .v ⟨false, [.iptr u x off]⟩ =>
    let l := dropT off n (U.enc u x)
    bif Nat.beq l.length n then
      match asV g l with
      | some v => .ok { v := v }
      | .none => .fail
    else .fail
  | some true, some n, .v ⟨false, [.optr u x]⟩ => bif Nat.beq n (U.size u) then .opt (U.D u) x (fun y => { v := .v ⟨true, U.enc u y⟩ }) else .fail
  | _, _, _ => .fail

def opStore (P : Program) (t : TypeId) (a v : A U) (h : Heap U) : OpR U :=
  match size? P t, a, v with
  | some n, .v ⟨false, [.ptr s i off]⟩, .v x =>
    bif Nat.beq x.l.length n then
      match stE h s i off x.l with
      | some e => .ok { v := .t [], w := [(s, e)] }
      | .none => .fail
    else .fail
  | _, _, _ => .fail

def opFieldAddr (P : Program) (t : TypeId) (a : A U) (f : Nat) : OpR U :=
  match fieldOff P t f, a with
  | some o, .v ⟨false, [.ptr s i off]⟩ => one (.ptr s i (off + o))
  | some o, .v ⟨false, [.iptr u x off]⟩ => one (.iptr u x (off + o))
  | some o, .v ⟨false, [.optr u x]⟩ => .opt (U.D u) x (fun y => { v := sc (.iptr u y o) })
  | _, _ => .fail

def opField (P : Program) (t : TypeId) (a : A U) (f : Nat) : OpR U :=
  match fieldAt P t f, a with
  | some (o, ft), .v ⟨true, l⟩ =>
    match agg? P ft, size? P ft with
    | some g, some n =>
      let c := dropT o (bif g then n else 1) l
      bif g && !Nat.beq c.length n then .fail else
      match asV g c with
      | some v => .ok { v := v }
      | .none => .fail
    | _, _ => .fail
  | _, _ => .fail

/-- the types of the cells that a type's value has (a guess that only helps: nothing hangs on it) -/
def cellTypes (P : Program) : Nat → TypeId → List TypeId
  | 0, t => [t]
  | d + 1, t =>
    match P.underlying t with
    | some (.struct fs) => cellTypesF P d fs.toList
    | some (.array n e) => (List.replicate n (cellTypes P d e)).flatten
    | _ => [t]
  where
  cellTypesF (P : Program) (d : Nat) : List Field → List TypeId
    | [] => []
    | f :: r => cellTypes P d f.type ++ cellTypesF P d r

/-- a nil slice, of the right elements -/
def nilOf (P : Program) (t : TypeId) (v : Value) : U.S :=
  match v with
  | .slice .none 0 0 =>
    match P.underlying t with
    | some (.slice e) => match U.ofType e with
      | some u => .isl .full u []
      | .none => .val v
    | _ => .val v
  | v => .val v

def zeroCells (P : Program) (t : TypeId) : Option (List U.S) :=
  match P.info? t with
  | some i => match i.zero with
    | some z => if z.cells.toList.all okV then some (z.cells.toList.zipIdx.map fun (v, k) => nilOf P ((cellTypes P 20 t).getD k 0) v) else .none
    | .none => .none
  | .none => .none

def opAlloc (P : Program) (nx : Nat) (t : TypeId) : OpR U :=
  match zeroCells P t with
  | some l => .ok { v := sc (.ptr nx 0 0), w := [(nx, .obj l)], nw := 1 }
  | .none => .fail

def opBox (nx : Nat) (a : A U) : OpR U :=
  match a with
  | .v x => bif x.l.all isCell then .ok { v := sc (.ptr nx 0 0), w := [(nx, .obj x.l)], nw := 1 } else .fail
  | _ => .fail

def fillS (place : Nat → Option (Nat × Nat)) (cells : List U.S) : List (Nat × List U.S) → Option (List U.S)
  | [] => some cells
  | (i, l) :: rest =>
    match place i with
    | .none => .none
    | some (off, size) =>
      bif Nat.beq l.length size && Nat.ble (off + size) cells.length then fillS place (splice off l cells) rest else .none

def partsOf : List (Nat × Option (A U)) → Option (List (Nat × List U.S))
  | [] => some []
  | (i, some (.v x)) :: r => match partsOf r with
    | some l => some ((i, x.l) :: l)
    | .none => .none
  | _ => .none

def places (P : Program) (fs : List Field) : Option (List (Nat × Nat)) :=
  match fs with
  | [] => some []
  | f :: r => match P.info? f.type, places P r with
    | some i, some l => some ((f.offset, i.size) :: l)
    | _, _ => .none

def opBuild (P : Program) (t : TypeId) (parts : List (Nat × Option (A U))) : OpR U :=
  match zeroCells P t, partsOf parts with
  | some z, some ps =>
    match P.underlying t with
    | some (.struct fs) =>
      match places P fs.toList with
      | some pl => match fillS (fun i => pl[i]?) z ps with
        | some l => .ok { v := .v ⟨true, l⟩ }
        | .none => .fail
      | .none => .fail
    | some (.array _ e) =>
      match size? P e with
      | some n => match fillS (fun i => some (i * n, n)) z ps with
        | some l => .ok { v := .v ⟨true, l⟩ }
        | .none => .fail
      | .none => .fail
    | _ => .fail
  | _, _ => .fail

/-! numbers -/
def iadd (k : IntKind) (a b : Int) : Int := k.wrap (a + b)
def isub (k : IntKind) (a b : Int) : Int := k.wrap (a - b)
def imul (k : IntKind) (a b : Int) : Int := k.wrap (a * b)
def iquo (k : IntKind) (a b : Int) : Int := k.wrap (a.tdiv b)
def irem (a b : Int) : Int := a.tmod b
def iand (k : IntKind) (a b : Int) : Int := k.wrap ((BitVec.ofInt k.bits a &&& BitVec.ofInt k.bits b).toNat : Nat)
def ior (k : IntKind) (a b : Int) : Int := k.wrap ((BitVec.ofInt k.bits a ||| BitVec.ofInt k.bits b).toNat : Nat)
def ixor (k : IntKind) (a b : Int) : Int := k.wrap ((BitVec.ofInt k.bits a ^^^ BitVec.ofInt k.bits b).toNat : Nat)
def iandNot (k : IntKind) (a b : Int) : Int := k.wrap ((BitVec.ofInt k.bits a &&& ~~~BitVec.ofInt k.bits b).toNat : Nat)
def ishl (k : IntKind) (a b : Int) : Int := k.wrap (a * 2 ^ (min b.toNat k.bits))
def ishr (k : IntKind) (a b : Int) : Int := a.fdiv (2 ^ (min b.toNat k.bits))
def ieq (a b : Int) : Bool := a == b
def ine (a b : Int) : Bool := a != b
def ilt (a b : Int) : Bool := decide (a < b)
def ile (a b : Int) : Bool := decide (a ≤ b)
def imax (a b : Int) : Int := if b > a then b else a
def imin (a b : Int) : Int := if b < a then b else a
def inR (n : Int) (len : Nat) : Bool := decide (0 ≤ n) && decide (n < (len : Int))

def opInt (op : BinOp) (k : IntKind) (a b : Int) : OpR U :=
  match op with
  | .add => .ok { v := scv (.int k (iadd k a b)) }
  | .sub => .ok { v := scv (.int k (isub k a b)) }
  | .mul => .ok { v := scv (.int k (imul k a b)) }
  | .quo => .chk (ine b 0) { v := scv (.int k (iquo k a b)) }
  | .rem => .chk (ine b 0) { v := scv (.int k (irem a b)) }
  | .and => .ok { v := scv (.int k (iand k a b)) }
  | .or => .ok { v := scv (.int k (ior k a b)) }
  | .xor => .ok { v := scv (.int k (ixor k a b)) }
  | .andNot => .ok { v := scv (.int k (iandNot k a b)) }
  | .eql => .ok { v := scv (.bool (ieq a b)) }
  | .neq => .ok { v := scv (.bool (ine a b)) }
  | .lss => .ok { v := scv (.bool (ilt a b)) }
  | .leq => .ok { v := scv (.bool (ile a b)) }
  | .gtr => .ok { v := scv (.bool (ilt b a)) }
  | .geq => .ok { v := scv (.bool (ile b a)) }
  | _ => .fail

def opShift (op : BinOp) (k : IntKind) (a b : Int) : OpR U :=
  match op with
  | .shl => .chk (ile 0 b) { v := scv (.int k (ishl k a b)) }
  | .shr => .chk (ile 0 b) { v := scv (.int k (ishr k a b)) }
  | _ => .fail

def strEq (a b : ByteArray) : Bool := a.data.toList == b.data.toList

def eqF (P : Program) (eq : TypeId → List U.S → List U.S → Option Bool) : List Field → List U.S → List U.S → Option Bool
  | [], _, _ => some true
  | f :: r, xs, ys =>
    bif f.name == "_" then .none else
    match agg? P f.type, P.info? f.type with
    | some g, some i =>
      let n := bif g then i.size else 1
      match eq f.type (dropT f.offset n xs) (dropT f.offset n ys), eqF P eq r xs ys with
      | some a, some b => some (bif a then b else false)
      | _, _ => .none
    | _, _ => .none

/-- equality by the type -/
def eqS (P : Program) : Nat → TypeId → List U.S → List U.S → Option Bool
  | 0, _, _, _ => .none
  | d + 1, t, xs, ys =>
    match P.underlying t with
    | some (.struct fs) => bif P.stoodInHeld t then .none else eqF P (eqS P d) fs.toList xs ys
    | some (.int _) => match xs, ys with
      | [.val (.int j a)], [.val (.int k b)] => bif decide (j = k) then some (ieq a b) else .none
      | _, _ => .none
    | some .bool => match xs, ys with
      | [.val (.bool a)], [.val (.bool b)] => some (a == b)
      | _, _ => .none
    | some .string => match xs, ys with
      | [.val (.string a)], [.val (.string b)] => some (strEq a b)
      | _, _ => .none
    | _ => .none

def plainV (v : Value) : Bool :=
  match v with
  | .nilIface => false
  | .agg _ => false
  | _ => true

def notNil (P : Program) (op : BinOp) (t : TypeId) : OpR U :=
  match P.underlying t, op with
  | some (.pointer _), .eql => one (.val (.bool false))
  | some (.pointer _), .neq => one (.val (.bool true))
  | _, _ => .fail

def nilIs (P : Program) (op : BinOp) (t : TypeId) (b : Bool) : OpR U :=
  match P.underlying t, op with
  | some (.pointer _), .eql => one (.val (.bool (!b)))
  | some (.pointer _), .neq => one (.val (.bool b))
  | _, _ => .fail

def opBin (P : Program) (op : BinOp) (t : TypeId) (x y : A U) : OpR U :=
  match x, y with
  | .v ⟨false, [.val (.int k a)]⟩, .v ⟨false, [.val (.int k' b)]⟩ =>
    match op with
    | .shl => opShift op k a b
    | .shr => opShift op k a b
    | _ => bif decide (k = k') then opInt op k a b else .fail
  | .v ⟨false, [.ptr _ _ _]⟩, .v ⟨false, [.val (.pointer .none)]⟩ => notNil P op t
  | .v ⟨false, [.iptr _ _ _]⟩, .v ⟨false, [.val (.pointer .none)]⟩ => notNil P op t
  | .v ⟨false, [.optr _ x]⟩, .v ⟨false, [.val (.pointer .none)]⟩ => nilIs P op t x.isSome
  | .v ⟨true, l⟩, .v ⟨true, r⟩ =>
    bif P.eqGuardType P.depth t then .fail else
    match agg? P t, eqS P 20 t l r with
    | some true, some b => match op with | .eql => one (.val (.bool b)) | .neq => one (.val (.bool (!b))) | _ => .fail
    | _, _ => .fail
  | .v ⟨false, [.val a]⟩, .v ⟨false, [.val b]⟩ =>
    bif plainV a && plainV b then
      match pureRun P (Go.binOp op t a b) with
      | some v => bif okR v then one (.val v) else .fail
      | .none => .fail
    else .fail
  | _, _ => .fail

def opUn (P : Program) (op : UnOp) (x : A U) : OpR U :=
  match asVal x with
  | some a => match pureRun P (Go.Op.unary op a) with
    | some v => bif okR v then one (.val v) else .fail
    | .none => .fail
  | .none => .fail

def opConvert (P : Program) (src dst : TypeId) (x : A U) (h : Heap U) : OpR U :=
  match x with
  | .v ⟨false, [.val (.string s)]⟩ =>
    match P.underlying src, P.underlying dst with
    | some .string, some .string => .ok { v := scv (.string s) }
    | some .string, some (.slice e) => match P.underlying e with
      | some (.int .u8) => .ok { v := sc (.isl .none U.u8 (U.ofBytes s.data.toList)) }
      | _ => .fail
    | _, _ => .fail
  | .v ⟨false, [.isl _ u xs]⟩ =>
    match P.underlying src, P.underlying dst with
    | some (.slice e), some .string => match P.underlying e, U.toBytes u xs with
      | some (.int .u8), some bs => .ok { v := scv (.string ⟨bs.toArray⟩) }
      | _, _ => .fail
    | _, _ => .fail
  | .v ⟨false, [.val (.int _ n)]⟩ =>
    match P.underlying src, P.underlying dst with
    | some _, some (.int k) => .ok { v := scv (.int k (k.wrap n)) }
    | _, _ => .fail
  | .v ⟨false, [.val a]⟩ => match pureRun P (Go.convert src dst a) with
    | some v => bif okR v then one (.val v) else .fail
    | .none => .fail
  | _ => .fail

def opNil (x : A U) : OpR U :=
  match x with
  | .v ⟨false, [.ptr s i off]⟩ => one (.ptr s i off)
  | .v ⟨false, [.iptr u y off]⟩ => one (.iptr u y off)
  | .v ⟨false, [.optr u x]⟩ => .opt (U.D u) x (fun y => { v := sc (.iptr u y 0) })
  | _ => .fail

/-- elements of a slice of code u, off a cell that may be a nil slice -/
def asList (u : U.C) (x : U.S) : Option (Tok × List (U.D u)) :=
  match x with
  | .isl t v xs => match U.eq? v u with
    | some ⟨e⟩ => some (t, e ▸ xs)
    | .none => .none
  | .val (.slice .none 0 0) => some (.full, [])
  | _ => .none

def opIndexAddr (P : Program) (t : TypeId) (x i : A U) (h : Heap U) : OpR U :=
  match P.underlying t, x, i with
  | some (.slice e), .v ⟨false, [.isl _ u xs]⟩, .v ⟨false, [.val (.int _ n)]⟩ =>
    match size? P e with
    | some m => bif Nat.beq m (U.size u) then .chk (inR n xs.length) { v := sc (.iptr u (xs.getD n.toNat (U.dft u)) 0) } else .fail
    | .none => .fail
  | some (.slice e), .v ⟨false, [.sl s b len]⟩, .v ⟨false, [.val (.int _ n)]⟩ =>
    match size? P e, get h s with
    | some m, some (.fam true u _ _) => bif Nat.beq m (U.size u) then .chk (inR n len) { v := sc (.ptr s (b + n.toNat) 0), rd := [s] } else .fail
    | _, _ => .fail
  | some (.array len e), .v ⟨false, [.ptr s i off]⟩, .v ⟨false, [.val (.int _ n)]⟩ =>
    match size? P e, get h s with
    | some m, some (.obj cells) =>
      match cells[off]? with
      | some (.arr s') => match get h s' with
        | some (.fam true u len' _) => bif Nat.beq m (U.size u) && Nat.beq len len' && Nat.ble 2 len then .chk (inR n len) { v := sc (.ptr s' n.toNat 0), rd := [s, s'] } else .fail
        | _ => .fail
      | _ => bif Nat.beq i 0 && Nat.ble 2 len then .chk (inR n len) { v := sc (.ptr s i (off + n.toNat * m)), rd := [s] } else .fail
    | _, _ => .fail
  | _, _, _ => .fail

/-- elements of code u, off cells that stand one behind the other -/
def decAll (u : U.C) : Nat → List U.S → Option (List (U.D u))
  | 0, l => match l with | [] => some [] | _ => .none
  | n + 1, l => match U.dec u (l.take (U.size u)), decAll u n (l.drop (U.size u)) with
    | some x, some r => some (x :: r)
    | _, _ => .none

/-- the place in 'Γ' that tells whether arrays of such elements are opened (no function stands there) -/
def arrKey (t : TypeId) : Nat := 1000000007 + t

/-- an array in an object, indexed by what is not known: its elements stand as a row of their own from now on -/
def openAddr (P : Program) (t : TypeId) (x i : A U) (h : Heap U) (nx : Nat) : Option (OpR U) :=
  match P.underlying t, x, i with
  | some (.array len e), .v ⟨false, [.ptr s 0 off]⟩, .v ⟨false, [.val (.int _ n)]⟩ =>
    match size? P e, U.ofType e, get h s with
    | some m, some u, some (.obj cells) =>
      bif Nat.beq m (U.size u) && Nat.ble 1 m && Nat.ble 2 len && Nat.beq (dropT off (len * m) cells).length (len * m) && (dropT off (len * m) cells).all isCell then
        match decAll u len (dropT off (len * m) cells) with
        | some xs => some (.chk (inR n len) { v := sc (.ptr nx n.toNat 0), rd := [s], w := [(nx, .fam true u len fun j => xs.getD j (U.dft u)), (s, .obj (splice off (.arr nx :: List.replicate (len * m - 1) .hole) cells))], nw := 1 })
        | .none => .none
      else .none
    | _, _, _ => .none
  | _, _, _ => .none

def opIndexAddrO (P : Program) (o : Bool) (t : TypeId) (x i : A U) (h : Heap U) (nx : Nat) : OpR U :=
  bif o then (match openAddr P t x i h nx with
    | some r => r
    | .none => opIndexAddr P t x i h) else opIndexAddr P t x i h

/-- column k of rows of n cells, all whole numbers of one kind (or truths, texts) -/
def colInts (j : IntKind) : List U.S → Option (List Int)
  | [] => some []
  | .val (.int k n) :: r => match colInts j r with
    | some l => bif decide (k = j) then some (n :: l) else .none
    | .none => .none
  | _ => .none

def colStrs : List U.S → Option (List ByteArray)
  | [] => some []
  | .val (.string n) :: r => match colStrs r with
    | some l => some (n :: l)
    | .none => .none
  | _ => .none

def colBools : List U.S → Option (List Bool)
  | [] => some []
  | .val (.bool n) :: r => match colBools r with
    | some l => some (n :: l)
    | .none => .none
  | _ => .none

def every {α : Type} (m : Nat) : Nat → List α → List α
  | 0, _ => []
  | f + 1, l => match l with
    | [] => []
    | x :: _ => x :: every m f (l.drop m)

/-- the cell at place i among these -/
def pickCell (i : Nat) (l : List U.S) : Option U.S :=
  match l with
  | .val (.int j _) :: _ => match colInts j l with
    | some ns => some (.val (.int j (ns.getD i 0)))
    | .none => .none
  | .val (.string _) :: _ => match colStrs l with
    | some ns => some (.val (.string (ns.getD i .empty)))
    | .none => .none
  | .val (.bool _) :: _ => match colBools l with
    | some ns => some (.val (.bool (ns.getD i false)))
    | .none => .none
  | _ => .none

def pickCells (i m : Nat) (l : List U.S) : Nat → Option (List U.S)
  | 0 => some []
  | k + 1 => match pickCells i m l k, pickCell i (every m l.length (l.drop k)) with
    | some r, some c => some (r ++ [c])
    | _, _ => .none

def opIndex (P : Program) (t : TypeId) (x i : A U) : OpR U :=
  match P.underlying t, x, i with
  | some (.array len e), .v ⟨true, l⟩, .v ⟨false, [.val (.int _ n)]⟩ =>
    match size? P e, agg? P e with
    | some m, some g =>
      bif Nat.beq l.length (len * m) && Nat.ble 1 m then
        match pickCells n.toNat m l m with
        | some c => match asV g c with
          | some v => .chk (inR n len) { v := v }
          | .none => .fail
        | .none => .fail
      else .fail
    | _, _ => .fail
  | some .string, .v ⟨false, [.val (.string s)]⟩, .v ⟨false, [.val (.int _ n)]⟩ =>
    .chk (inR n s.size) { v := scv (.int .u8 ((s.data.toList.getD n.toNat 0).toNat : Int)) }
  | _, _, _ => .fail

/-! slices -/
/-- a bound: an operand, or what stands for none -/
def sliceOp (y : Option (Option (A U))) (d : Nat) : Option Int :=
  match y with
  | .none => some (d : Int)
  | some (some (.v ⟨false, [.val (.int _ n)]⟩)) => some n
  | _ => .none

def le3 (a b : Int) (c : Nat) : Bool := bif ile 0 a then bif ile a b then ile b (c : Int) else false else false

def opSlice (P : Program) (t : TypeId) (x : A U) (lo hi mx : Option (Option (A U))) (h : Heap U) : OpR U :=
  match P.underlying t, x with
  | some .string, .v ⟨false, [.val (.string s)]⟩ =>
    match mx, sliceOp lo 0, sliceOp hi s.size with
    | .none, some l, some m => .chk (le3 l m s.size) { v := scv (.string (s.extract l.toNat m.toNat)) }
    | _, _, _ => .fail
  | some (.slice e), .v ⟨false, [.isl _ u xs]⟩ =>
    match size? P e, sliceOp lo 0, sliceOp hi xs.length with
    | some m, some l, some r =>
      bif Nat.beq m (U.size u) then
        match mx with
        | .none => .chk (le3 l r xs.length) { v := sc (.isl .none u ((xs.take r.toNat).drop l.toNat)) }
        | some (some (.v ⟨false, [.val (.int _ c)]⟩)) => bif hi.isSome then .chk (bif le3 l r xs.length then ieq r c else false) { v := sc (.isl .full u ((xs.take r.toNat).drop l.toNat)) } else .fail
        | _ => .fail
      else .fail
    | _, _, _ => .fail
  | some (.slice e), .v ⟨false, [.sl s b n]⟩ =>
    match size? P e, sliceOp lo 0, sliceOp hi n, mx, get h s with
    | some m, some l, some r, .none, some (.fam true u _ _) =>
      bif Nat.beq m (U.size u) then .chk (le3 l r n) { v := sc (.sl s (b + l.toNat) (r.toNat - l.toNat)), rd := [s] } else .fail
    | _, _, _, _, _ => .fail
  | some (.array len e), .v ⟨false, [.ptr s i off]⟩ =>
    match size? P e, sliceOp lo 0, sliceOp hi len, mx, get h s with
    | some m, some l, some r, .none, some (.obj cells) =>
      match cells[off]? with
      | some (.arr s') => match get h s' with
        | some (.fam true u len' _) => bif Nat.beq m (U.size u) && Nat.beq len len' && Nat.beq i 0 then .chk (le3 l r len) { v := sc (.sl s' l.toNat (r.toNat - l.toNat)), rd := [s, s'] } else .fail
        | _ => .fail
      | _ => .fail
    | _, _, _, _, _ => .fail
  | _, _ => .fail

def opBuildSlice (P : Program) (t : TypeId) (n : Nat) (parts : List (Nat × Option (A U))) : OpR U :=
  match P.underlying t with
  | some (.slice e) =>
    match U.ofType e, zeroCells (U := U) P e, partsOf parts with
    | some u, some z, some ps =>
      match size? P e with
      | some m =>
        bif Nat.beq m (U.size u) && Nat.ble 1 m && Nat.beq z.length m && Nat.ble (n * m) 16777216 then
          match fillS (fun i => some (i * m, m)) (List.replicate n z).flatten ps with
          | some l => match decAll u n l with
            | some xs => .ok { v := sc (.isl .full u xs) }
            | .none => .fail
          | .none => .fail
        else .fail
      | .none => .fail
    | _, _, _ => .fail
  | _ => .fail

/-- a pointer to an object that is never written again: what it points to -/
def freezeV (P : Program) (t : TypeId) (a : A U) (h : Heap U) : Option (A U × Nat) :=
  match P.underlying t with
  | some (.slice e) => match P.underlying e with
    | some (.pointer se) => match U.ofType se, a with
      | some v, .v ⟨false, [.ptr s 0 0]⟩ => match get h s with
        | some (.obj cells) => bif cells.all isCell then (match U.dec v cells with
          | some x => some (sc (.optr v (some x)), s)
          | .none => .none) else .none
        | _ => .none
      | _, _ => .none
    | _ => .none
  | _ => .none

def OpR.frz (s : Nat) : OpR U → OpR U
  | .ok o => .ok { v := o.v, rd := [s], w := [(s, .dead)] }
  | _ => .fail

/-- a slice of one pointer freezes what it points to -/
def opBuildSliceZ (P : Program) (t : TypeId) (n : Nat) (parts : List (Nat × Option (A U))) (h : Heap U) : OpR U :=
  match parts with
  | [(i, some a)] => match freezeV P t a h with
    | some (a', s) => (opBuildSlice P t n [(i, some a')]).frz s
    | .none => opBuildSlice P t n parts
  | _ => opBuildSlice P t n parts

/-- what is read off a slice or a text: its elements -/
def elems (u : U.C) (x : A U) (h : Heap U) : Option (List (U.D u) × List Nat) :=
  match x with
  | .v ⟨false, [.isl _ v xs]⟩ => match U.eq? v u with
    | some ⟨e⟩ => some (e ▸ xs, [])
    | .none => .none
  | .v ⟨false, [.val (.slice .none 0 0)]⟩ => some ([], [])
  | .v ⟨false, [.val (.string s)]⟩ => match U.eq? U.u8 u with
    | some ⟨e⟩ => some (e ▸ U.ofBytes s.data.toList, [])
    | .none => .none
  | .v ⟨false, [.sl s b n]⟩ => match get h s with
    | some (.fam true v _ f) => match U.eq? v u with
      | some ⟨e⟩ => some ((List.range n).map fun j => e ▸ f (b + j), [s])
      | .none => .none
    | _ => .none
  | _ => .none

def room (n bytes : Nat) : Bool := Nat.ble (n * bytes) 140737488355328    -- 2^47

def opAppend (P : Program) (t t2 : TypeId) (x y : A U) (h : Heap U) (nx : Nat) : OpR U :=
  match P.underlying t, (match P.underlying t2 with | some (.slice _) => true | some .string => true | _ => false) with
  | some (.slice e), true =>
    match U.ofType e, P.info? e, x, elems? y with
    | some u, some i, .v ⟨false, [c]⟩, true =>
      bif Nat.beq i.size (U.size u) && Nat.ble 1 i.size && Nat.ble 1 i.bytes && i.zero.any (fun z => Nat.beq z.cells.size i.size) then
        match asList u c, elems u y h with
        | some (.full, xs), some (ys, rd) =>
          .chk (room (xs.length + ys.length) i.bytes) { v := sc (.isl (.own nx) u (xs ++ ys)), rd := rd, w := [(nx, .tok)], nw := 1 }
        | some (.own k, xs), some (ys, rd) =>
          match get h k with
          | some .tok => .chk (room (xs.length + ys.length) i.bytes) { v := sc (.isl (.own nx) u (xs ++ ys)), rd := rd, w := [(nx, .tok), (k, .dead)], nw := 1 }
          | _ => .fail
        | _, _ => .fail
      else .fail
    | _, _, _, _ => .fail
  | _, _ => .fail
  where
  elems? : A U → Bool
    | .v ⟨false, [_]⟩ => true
    | _ => false

/-- 'make' of as many zero elements, never written -/
def opMake (P : Program) (t : TypeId) (eq : Bool) (x y : A U) : OpR U :=
  match P.underlying t, x, y with
  | some (.slice e), .v ⟨false, [.val (.int _ n)]⟩, .v ⟨false, [.val (.int _ m)]⟩ =>
    match U.ofType e, P.info? e, zeroCells (U := U) P e with
    | some u, some i, some z =>
      bif eq && Nat.beq i.size (U.size u) && Nat.ble 1 i.size && i.zero.any (fun v => Nat.beq v.cells.size i.size) then
        match U.dec u z with
        | some d => .chk (bif ile 0 n then (bif ile n 9223372036854775807 then room n.toNat i.bytes else false) else false) { v := sc (.isl .full u (List.replicate n.toNat d)) }
        | .none => .fail
      else .fail
    | _, _, _ => .fail
  | _, _, _ => .fail

def sameTmp (x y : Operand) : Bool :=
  match x, y with
  | .tmp a, .tmp b => Nat.beq a b
  | _, _ => false

def opExtract (x : A U) (i : Nat) : OpR U :=
  match x with
  | .t xs => match xs[i]? with
    | some v => .ok { v := .v v }
    | .none => .fail
  | _ => .fail

def opLen (x : A U) : OpR U :=
  match x with
  | .v ⟨false, [.isl _ _ xs]⟩ => one (.val (.int .i64 (xs.length : Int)))
  | .v ⟨false, [.val (.slice .none 0 0)]⟩ => one (.val (.int .i64 0))
  | .v ⟨false, [.val (.string s)]⟩ => one (.val (.int .i64 (s.size : Int)))
  | .v ⟨false, [.sl _ _ n]⟩ => one (.val (.int .i64 (n : Int)))
  | _ => .fail

/-- 'len' at the type that stands there -/
def lenT (P : Program) (t : TypeId) (a : A U) : Bool :=
  match P.underlying t, a with
  | some (.slice _), .v ⟨false, [.isl _ _ _]⟩ => true
  | some (.slice _), .v ⟨false, [.val (.slice .none 0 0)]⟩ => true
  | some (.slice _), .v ⟨false, [.sl _ _ _]⟩ => true
  | some .string, .v ⟨false, [.val (.string _)]⟩ => true
  | _, _ => false

def opMinMax (mx : Bool) (a b : Int) : Int := bif mx then imax a b else imin a b

def foldMM (mx : Bool) : Int → List (Option (A U)) → Option Int
  | a, [] => some a
  | a, some (.v ⟨false, [.val (.int .i64 b)]⟩) :: r => foldMM mx (opMinMax mx a b) r
  | _, _ => .none

def allSome {α : Type} : List (Option α) → Option (List α)
  | [] => some []
  | some a :: r => match allSome r with
    | some l => some (a :: l)
    | .none => .none
  | .none :: _ => .none

/-- a function's value that holds nothing -/
def fnOf : Option (A U) → Option Nat
  | some (.v ⟨false, [.val (.func (.func f) a b)]⟩) => bif Nat.beq a.size 0 && Nat.beq b.size 0 then some f else .none
  | _ => .none

def opCall (P : Program) (Γ : Nat → Option (Native U)) (c : Call) (fv : Operand → Option (A U)) (as : List (Option (A U))) (h : Heap U) (nx : Nat) : OpR U :=
  match c.callee with
  | .value (.func f) =>
    match Γ f, allSome as with
    | some N, some l => N l h nx
    | _, _ => .fail
  | .value (.tmp t) =>
    match fnOf (fv (.tmp t)) with
    | some f => match Γ f, allSome as with
      | some N, some l => N l h nx
      | _, _ => .fail
    | .none => .fail
  | .builtin .len => match as, c.argTypes.toList with
    | [some x], [t] => bif lenT P t x then opLen x else .fail
    | _, _ => .fail
  | .builtin .append => match as, c.argTypes.toList with
    | [some x, some y], [t, t2] => opAppend P t t2 x y h nx
    | _, _ => .fail
  | .builtin .min => match as with
    | some (.v ⟨false, [.val (.int .i64 a)]⟩) :: r => match foldMM false a r with
      | some n => one (.val (.int .i64 n))
      | .none => .fail
    | _ => .fail
  | .builtin .max => match as with
    | some (.v ⟨false, [.val (.int .i64 a)]⟩) :: r => match foldMM true a r with
      | some n => one (.val (.int .i64 n))
      | .none => .fail
    | _ => .fail
  | _ => .fail

def optOk (x : Option (A U)) : OpR U :=
  match x with
  | some v => .ok { v := v }
  | .none => .fail

def opPick (c a b : Option (A U)) : OpR U :=
  match c, a, b with
  | some (.v ⟨false, [.val (.bool c)]⟩), some a, some b => .ok { v := bif c then a else b }
  | _, _, _ => .fail

def step (P : Program) (Γ : Nat → Option (Native U)) (nx : Nat) (ρ : Operand → Option (A U)) (h : Heap U) (o : Oper) : OpR U :=
  match o.op with
  | .move x => optOk (ρ x)
  | .assign x => optOk (ρ x)
  | .pick c a b => opPick (ρ c) (ρ a) (ρ b)
  | .alloc t => opAlloc P nx t
  | .box _ x => match ρ x with | some a => opBox nx a | .none => .fail
  | .build t ps => opBuild P t (ps.toList.map fun p => (p.1, ρ p.2))
  | .load t a => match ρ a with | some a => opLoad P t a h | .none => .fail
  | .store t a v => match ρ a, ρ v with | some a, some v => opStore P t a v h | _, _ => .fail
  | .nilCheck x => match ρ x with | some a => opNil a | .none => .fail
  | .binOp op t x y _ => match ρ x, ρ y with | some x, some y => opBin P op t x y | _, _ => .fail
  | .unOp op _ x => match ρ x with | some x => opUn P op x | .none => .fail
  | .convert s d x => match ρ x with | some x => opConvert P s d x h | .none => .fail
  | .fieldAddr t x f => match ρ x with | some x => opFieldAddr P t x f | .none => .fail
  | .field t x f => match ρ x with | some x => opField P t x f | .none => .fail
  | .indexAddr t x i => match ρ x, ρ i with | some x, some i => opIndexAddrO P (Γ (arrKey t)).isSome t x i h nx | _, _ => .fail
  | .index t x i => match ρ x, ρ i with | some x, some i => opIndex P t x i | _, _ => .fail
  | .slice t x lo hi mx => match ρ x with | some x => opSlice P t x (lo.map ρ) (hi.map ρ) (mx.map ρ) h | .none => .fail
  | .buildSlice t n ps => opBuildSliceZ P t n (ps.toList.map fun p => (p.1, ρ p.2)) h
  | .extract x i => match ρ x with | some x => opExtract x i | .none => .fail
  | .makeSlice t x y => match ρ x, ρ y with | some a, some b => opMake P t (sameTmp x y) a b | _, _ => .fail
  | .call c => opCall P Γ c ρ (c.args.toList.map ρ) h nx
  | _ => .fail

/-! regions -/
def St.apply (st : St U) (dst : Option Tmp) (o : Out U) : St U :=
  { n := st.n
    env := match dst with | some d => (d, o.v) :: st.env | .none => st.env
    h := o.w ++ st.h
    nx := st.nx + o.nw }

inductive Want where | yes | no | bad

def want (ops : List Oper) (env : Env U) (o : Oper) : Want :=
  match o.guard with
  | .none => .yes
  | some (j, w) =>
    match (ops[j]?).bind (·.dst) with
    | some t => match get env t with
      | some (.v ⟨false, [.val (.bool b)]⟩) => bif b == w then .yes else .no
      | some (.t []) => .no
      | _ => .bad
    | .none => .no

def dstOk (n : Nat) (dst : Option Tmp) : Bool := match dst with | some d => Nat.blt d n | .none => true

def isGuard (ops : List Oper) (j : Nat) : Bool := ops.any fun o => match o.guard with | some (i, _) => Nat.beq i j | .none => false

def oelim {α ρ : Type} (x : Option α) (fail : ρ) (k : α → ρ) : ρ :=
  match x with
  | some y => k y
  | .none => fail

def OpR.elim {ρ : Type} (r : OpR U) (fail : ρ) (K : Out U → ρ) : ρ :=
  match r with
  | .fail => fail
  | .ok o => K o
  | .chk b o => bif b then K o else fail
  | .opt _ x k => oelim x fail fun y => K (k y)

/-- what an operation looks at and writes -/
structure Info where
  looks : List Nat
  dst : Option Nat
  rd : List Nat
  wr : List Nat

def looksAt (ops : List Oper) (o : Oper) : List Nat :=
  (o.op.operands.toList.filterMap fun | .tmp t => some t | _ => .none) ++
    (match o.guard with
    | some (g, _) => ((ops[g]?).bind (·.dst)).toList
    | .none => [])

def mem (t : Nat) (l : List Nat) : Bool := l.any (Nat.beq t)

def memO (t : Option Nat) (l : List Nat) : Bool := match t with | some t => mem t l | .none => false

def meets (a b : List Nat) : Bool := a.any fun t => mem t b

def clash (x y : Info) : Bool :=
  memO x.dst y.looks || memO y.dst x.looks || memO x.dst y.dst.toList || meets x.wr y.rd || meets x.wr y.wr || meets x.rd y.wr

/-- which operations stand ahead of each (a number's bits) -/
def mask (ms : List Nat) (o : Oper) : Nat :=
  o.after.toList.foldl (fun m e => bif Region.binds .any e then m ||| 2 ^ e.on ||| ms.getD e.on 0 else m) 0

def masks : List Oper → List Nat → List Nat
  | [], ms => ms
  | o :: r, ms => masks r (ms ++ [mask ms o])

def edgesOk (j : Nat) (o : Oper) : Bool := o.after.toList.all fun e => !Region.binds .any e || Nat.blt e.on j

/-- operation j, of what it tells, next to those ahead of it in the text -/
def orderOk (dr : Bool) (ms : List Nat) (j : Nat) (o : Oper) (i : Info) (acc : List (Nat × Info)) : Bool :=
  !dr || (edgesOk j o && acc.all fun p => !clash p.2 i || (ms.getD j 0).testBit p.1)

def info (ops : List Oper) (o : Oper) (out : Out U) : Info := { looks := looksAt ops o, dst := o.dst, rd := out.rd, wr := out.w.map (·.1) }

/-- a guard's source: the two ways, each with its truth written out -/
def split {ρ : Type} (J : Bool → ρ → ρ → ρ) (g : Bool) (dst : Option Tmp) (o : Out U) (K : Out U → ρ) : ρ :=
  match g, dst, o with
  | true, some _, { v := .v ⟨false, [.val (.bool b)]⟩, rd, w, nw } =>
    J b (K { v := scv (.bool true), rd, w, nw }) (K { v := scv (.bool false), rd, w, nw })
  | _, _, o => K o

def wrOk (ro : Nat) (w : List (Nat × Ent U)) : Bool := w.all fun p => Nat.ble ro p.1

def runOps {ρ : Type} (P : Program) (Γ : Nat → Option (Native U)) (ro : Nat) (dr : Bool) (ops : List Oper) (ms : List Nat) (J : Bool → ρ → ρ → ρ) (fail : ρ) :
    List Oper → Nat → List (Nat × Info) → St U → (St U → ρ) → ρ
  | [], _, _, st, K => K st
  | o :: rest, j, acc, st, K =>
    bif !dstOk st.n o.dst then fail else
    match want ops st.env o with
    | .bad => fail
    | .no =>
      let out : Out U := { v := .t [] }
      bif orderOk dr ms j o (info ops o out) acc then runOps P Γ ro dr ops ms J fail rest (j + 1) ((j, info ops o out) :: acc) (st.apply o.dst out) K else fail
    | .yes =>
      (step P Γ st.nx (opd st.env) st.h o).elim fail fun out =>
        bif orderOk dr ms j o (info ops o out) acc && wrOk ro out.w then
          split J (isGuard ops j) o.dst out fun out => runOps P Γ ro dr ops ms J fail rest (j + 1) ((j, info ops o out) :: acc) (st.apply o.dst out) K
        else fail

/-! two ways that meet again -/
def mergeS (b : Bool) (x y : U.S) : Option U.S :=
  match x, y with
  | .val (.bool a), .val (.bool c) => some (.val (.bool (bif b then a else c)))
  | .val (.int j a), .val (.int k c) => bif decide (j = k) then some (.val (.int j (bif b then a else c))) else .none
  | .val (.string a), .val (.string c) => some (.val (.string (bif b then a else c)))
  | .isl _ u xs, .isl _ v ys => match U.eq? u v with
    | some ⟨e⟩ => some (.isl .none v (bif b then e ▸ xs else ys))
    | .none => .none
  | .ptr s i off, .ptr s' i' off' => bif Nat.beq s s' && Nat.beq off off' then some (.ptr s' (bif b then i else i') off') else .none
  | .hole, .hole => some .hole
  | .arr s, .arr s' => bif Nat.beq s s' then some (.arr s') else .none
  | _, _ => .none

def mergeL (b : Bool) : List U.S → List U.S → Option (List U.S)
  | [], [] => some []
  | x :: l, y :: r => match mergeS b x y, mergeL b l r with
    | some z, some m => some (z :: m)
    | _, _ => .none
  | _, _ => .none

def mergeV (b : Bool) (x y : V U) : Option (V U) :=
  match mergeL b x.l y.l with
  | some l => bif x.g == y.g then some ⟨y.g, l⟩ else .none
  | .none => .none

def mergeE (b : Bool) (x y : Ent U) : Option (Ent U) :=
  match x, y with
  | .obj l, .obj r => (mergeL b l r).map .obj
  | .fam c u n f, .fam d v m g => match U.eq? u v with
    | some ⟨e⟩ => bif c == d && Nat.beq n m then some (.fam d v m (bif b then e ▸ f else g)) else .none
    | .none => .none
  | .tok, .tok => some .tok
  | _, _ => .none

def mergeEnv (b : Bool) (x y : Env U) : List Nat → Env U
  | [] => []
  | t :: r => match get x t, get y t with
    | some (.v a), some (.v c) => match mergeV b a c with
      | some v => (t, .v v) :: mergeEnv b x y r
      | .none => mergeEnv b x y r
    | _, _ => mergeEnv b x y r

def mergeHeap (b : Bool) (x y : Heap U) : List Nat → Heap U
  | [] => []
  | s :: r => match get x s, get y s with
    | some a, some c => match mergeE b a c with
      | some v => (s, v) :: mergeHeap b x y r
      | .none => mergeHeap b x y r
    | _, _ => mergeHeap b x y r

structure Live where
  env : List Nat
  heap : List Nat

def mergeSt (b : Bool) (l : Live) (x y : St U) : Option (St U) :=
  bif Nat.beq x.n y.n then some { n := y.n, env := mergeEnv b x.env y.env l.env, h := mergeHeap b x.h y.h l.heap, nx := bif Nat.ble x.nx y.nx then y.nx else x.nx } else .none

/-- only what lives on -/
def pickEnv (x : Env U) : List Nat → Env U
  | [] => []
  | t :: r => match get x t with
    | some a => (t, a) :: pickEnv x r
    | .none => pickEnv x r

def pickHeap (x : Heap U) : List Nat → Heap U
  | [] => []
  | t :: r => match get x t with
    | some a => (t, a) :: pickHeap x r
    | .none => pickHeap x r

def St.only (st : St U) (l : Live) : St U := { n := st.n, env := pickEnv st.env l.env, h := pickHeap st.h l.heap, nx := st.nx }


/-! ### typed values, typed states -/
inductive Sh (C : Type) where
  | int (k : IntKind)
  | bool
  | str
  | isl (u : C)
  | data (u : C)
  | ptr
  | iptr (u : C)
  | optr (u : C)

abbrev Sh.T (U : Univ) : Sh U.C → Type
  | .int _ => Int
  | .bool => Bool
  | .str => ByteArray
  | .isl u => List (U.D u)
  | .data u => U.D u
  | .ptr => Unit
  | .iptr u => U.D u
  | .optr u => Option (U.D u)

/-- the value that stands for a typed one; p is the next name for a pointer -/
def encV : (s : Sh U.C) → s.T U → Nat → V U
  | .int k, n, _ => ⟨false, [.val (.int k n)]⟩
  | .bool, b, _ => ⟨false, [.val (.bool b)]⟩
  | .str, s, _ => ⟨false, [.val (.string s)]⟩
  | .isl u, xs, _ => ⟨false, [.isl .none u xs]⟩
  | .data u, x, _ => ⟨true, U.enc u x⟩
  | .ptr, _, p => ⟨false, [.ptr p 0 0]⟩
  | .iptr u, x, _ => ⟨false, [.iptr u x 0]⟩
  | .optr u, x, _ => ⟨false, [.optr u x]⟩

def asOptr (u : U.C) (x : U.S) : Option (Option (U.D u)) :=
  match x with
  | .optr v y => match U.eq? v u with
    | some ⟨e⟩ => some (e ▸ y)
    | none => none
  | .iptr v y off => match U.eq? v u with
    | some ⟨e⟩ => bif Nat.beq off 0 then some (some (e ▸ y)) else none
    | none => none
  | .val (.pointer none) => some none
  | _ => none

def decV : (s : Sh U.C) → V U → Option (s.T U)
  | .int k, ⟨false, [.val (.int j n)]⟩ => bif decide (j = k) then some n else none
  | .bool, ⟨false, [.val (.bool b)]⟩ => some b
  | .str, ⟨false, [.val (.string s)]⟩ => some s
  | .isl u, ⟨false, [x]⟩ => match asList u x with
    | some (_, xs) => some xs
    | none => none
  | .data u, ⟨true, l⟩ => U.dec u l
  | .ptr, ⟨false, [.ptr _ _ _]⟩ => some ()
  | .iptr u, ⟨false, [.iptr v x off]⟩ => match U.eq? v u with
    | some ⟨e⟩ => bif Nat.beq off 0 then some (e ▸ x) else none
    | none => none
  | .optr u, ⟨false, [x]⟩ => asOptr u x
  | _, _ => none

def Sh.isPtr {C : Type} : Sh C → Bool
  | .ptr => true
  | _ => false

/-- how a live variable is held: typed; always this pointer; always no pointer; a slice that is its own row's (the row's name) -/
inductive JV (C : Type) where
  | val (s : Sh C)
  | ptr (s i off : Nat)
  | nilp
  | own (u : C) (k : Nat)
  | full (u : C)

/-- how a live object is held: typed; as many typed ones, one behind the other; free room behind a slice -/
inductive JH (C : Type) where
  | obj (u : C)
  | fam (ct : Bool) (u : C) (n : Nat)
  | famN (ct : Bool) (u : C)
  | tok

abbrev JVs (U : Univ) : List (Nat × JV U.C) → Type
  | [] => Unit
  | (_, .val s) :: r => s.T U × JVs U r
  | (_, .ptr _ _ _) :: r => JVs U r
  | (_, .nilp) :: r => JVs U r
  | (_, .own u _) :: r => List (U.D u) × JVs U r
  | (_, .full u) :: r => List (U.D u) × JVs U r

abbrev JHs (U : Univ) : List (Nat × JH U.C) → Type
  | [] => Unit
  | (_, .obj u) :: r => U.D u × JHs U r
  | (_, .fam _ u _) :: r => (Nat → U.D u) × JHs U r
  | (_, .famN _ u) :: r => (Nat × (Nat → U.D u)) × JHs U r
  | (_, .tok) :: r => JHs U r

structure Shape (U : Univ) where
  n : Nat
  nx : Nat
  env : List (Nat × JV U.C)
  heap : List (Nat × JH U.C)

abbrev Shape.T (p : Shape U) : Type := JVs U p.env × JHs U p.heap

def encEnv : (l : List (Nat × JV U.C)) → JVs U l → Env U
  | [], _ => []
  | (t, .val s) :: r, x => (t, .v (encV s x.1 0)) :: encEnv r x.2
  | (t, .ptr a i off) :: r, x => (t, sc (.ptr a i off)) :: encEnv r x
  | (t, .nilp) :: r, x => (t, scv (.pointer none)) :: encEnv r x
  | (t, .own u k) :: r, x => (t, sc (.isl (.own k) u x.1)) :: encEnv r x.2
  | (t, .full u) :: r, x => (t, sc (.isl .full u x.1)) :: encEnv r x.2

/-- which names of the shape stand for which of the state -/
def refsOf : List (Nat × JV U.C) → Env U → Option (List (Nat × Nat))
  | [], _ => some []
  | (_, .val _) :: r, env => refsOf r env
  | (t, .ptr s i off) :: r, env => match get env t, refsOf r env with
    | some (.v ⟨false, [.ptr s' i' off']⟩), some l => bif Nat.beq i i' && Nat.beq off off' then some ((s, s') :: l) else none
    | _, _ => none
  | (_, .nilp) :: r, env => refsOf r env
  | (t, .own _ k) :: r, env => match get env t, refsOf r env with
    | some (.v ⟨false, [.isl (.own k') _ _]⟩), some l => some ((k, k') :: l)
    | _, _ => none
  | (_, .full _) :: r, env => refsOf r env

def ren (l : List (Nat × Nat)) (base s : Nat) : Option Nat := bif Nat.blt s base then some s else get l s

def sameB (a b : Bool) : Bool := bif a then b else !b

def renOk (base nx : Nat) (l : List (Nat × Nat)) : Bool :=
  l.all fun p => Nat.blt p.1 nx && sameB (Nat.blt p.1 base) (Nat.blt p.2 base) && (bif Nat.blt p.1 base then Nat.beq p.1 p.2 else true) && l.all fun q => sameB (Nat.beq p.1 q.1) (Nat.beq p.2 q.2)

def decEnv : (l : List (Nat × JV U.C)) → Env U → Option (JVs U l)
  | [], _ => some ()
  | (t, .val s) :: r, env => match get env t, decEnv r env with
    | some (.v x), some ys => bif s.isPtr then none else match decV s x with
      | some y => some (y, ys)
      | none => none
    | _, _ => none
  | (_, .ptr _ _ _) :: r, env => decEnv r env
  | (t, .nilp) :: r, env => match get env t with
    | some (.v ⟨false, [.val (.pointer none)]⟩) => decEnv r env
    | _ => none
  | (t, .own u k) :: r, env => match get env t, decEnv r env with
    | some (.v ⟨false, [.isl (.own k') v xs]⟩), some ys => match U.eq? v u with
      | some ⟨e⟩ => some (e ▸ xs, ys)
      | none => none
    | _, _ => none
  | (t, .full u) :: r, env => match get env t, decEnv r env with
    | some (.v ⟨false, [x]⟩), some ys => match asList u x with
      | some (.full, xs) => some (xs, ys)
      | _ => none
    | _, _ => none

def encHeap : (l : List (Nat × JH U.C)) → JHs U l → Heap U
  | [], _ => []
  | (s, .obj u) :: r, x => (s, .obj (U.enc u x.1)) :: encHeap r x.2
  | (s, .fam ct u n) :: r, x => (s, .fam ct u n x.1) :: encHeap r x.2
  | (s, .famN ct u) :: r, x => (s, .fam ct u x.1.1 x.1.2) :: encHeap r x.2
  | (s, .tok) :: r, x => (s, .tok) :: encHeap r x

def decHeap (base : Nat) (m : List (Nat × Nat)) : (l : List (Nat × JH U.C)) → Heap U → Option (JHs U l)
  | [], _ => some ()
  | (s, .obj u) :: r, h => match (ren m base s).bind (get h), decHeap base m r h with
    | some (.obj cells), some ys => bif cells.all isCell then match U.dec u cells with
      | some y => some (y, ys)
      | none => none
      else none
    | some (.fam _ v n f), some ys => bif Nat.beq n 1 then match U.eq? v u with
      | some ⟨e⟩ => some (e ▸ f 0, ys)
      | none => none
      else none
    | _, _ => none
  | (s, .fam ct u n) :: r, h => match (ren m base s).bind (get h), decHeap base m r h with
    | some (.fam ct' v n' f), some ys => bif (ct == ct') && Nat.beq n n' then match U.eq? v u with
      | some ⟨e⟩ => some (e ▸ f, ys)
      | none => none
      else none
    | _, _ => none
  | (s, .famN ct u) :: r, h => match (ren m base s).bind (get h), decHeap base m r h with
    | some (.fam ct' v n' f), some ys => bif (ct == ct') then match U.eq? v u with
      | some ⟨e⟩ => some ((n', e ▸ f), ys)
      | none => none
      else none
    | _, _ => none
  | (s, .tok) :: r, h => match (ren m base s).bind (get h) with
    | some .tok => decHeap base m r h
    | _ => none

def Shape.enc (p : Shape U) (x : p.T) : St U := { n := p.n, env := encEnv p.env x.1, h := encHeap p.heap x.2, nx := p.nx }

/-- a slice that has no room behind it has a row of its own, too: an empty one -/
def own1 (t : Nat) (u : U.C) (st : St U) : St U :=
  match get st.env t with
  | some (.v ⟨false, [x]⟩) => match asList u x with
    | some (.full, xs) => { n := st.n, env := (t, sc (.isl (.own st.nx) u xs)) :: st.env, h := (st.nx, .tok) :: st.h, nx := st.nx + 1 }
    | _ => st
  | _ => st

def ownAll : List (Nat × JV U.C) → St U → St U
  | [], st => st
  | (t, .own u _) :: r, st => ownAll r (own1 t u st)
  | _ :: r, st => ownAll r st

def Shape.dec0 (base : Nat) (p : Shape U) (st : St U) : Option p.T :=
  match refsOf p.env st.env with
  | some m =>
    bif Nat.beq st.n p.n && Nat.ble base p.nx && renOk base p.nx m && p.heap.all (fun q => Nat.blt q.1 p.nx) then
      match decEnv p.env st.env, decHeap base m p.heap st.h with
      | some x, some y => some (x, y)
      | _, _ => none
    else none
  | none => none

def Shape.dec (base : Nat) (p : Shape U) (st : St U) : Option p.T := p.dec0 base (ownAll p.env st)

/-! ### ends, each with its typed state -/
abbrev Exits (U : Univ) := List (Exit × Shape U)

abbrev ExT {U : Univ} : Exits U → Type
  | [] => Empty
  | [(_, p)] => p.T
  | (_, p) :: q :: r => p.T ⊕ ExT (q :: r)

def exEq : Exit → Exit → Bool
  | .normal, .normal => true
  | .exit a, .exit b => Nat.beq a b
  | .goto a, .goto b => Nat.beq a b
  | .ret, .ret => true
  | _, _ => false

def selim {α β ρ : Type} (x : α ⊕ β) (f : α → ρ) (g : β → ρ) : ρ :=
  match x with
  | .inl a => f a
  | .inr b => g b

def exDec (base : Nat) : (l : Exits U) → Exit → St U → Option (ExT l)
  | [], _, _ => none
  | [(e, p)], e', st => bif exEq e e' then p.dec base st else none
  | (e, p) :: q :: r, e', st => bif exEq e e' then (match p.dec base st with | some x => some (.inl x) | none => none) else (match exDec base (q :: r) e' st with | some x => some (.inr x) | none => none)

def exGo {ρ : Type} : (l : Exits U) → ExT l → (Exit → St U → ρ) → ρ
  | [], x, _ => nomatch x
  | [(e, p)], x, K => K e (p.enc x)
  | (e, p) :: q :: r, x, K => selim x (fun y => K e (p.enc y)) (fun z => exGo (q :: r) z K)

/-- a piece of code whose ends meet in typed states -/
def joinN (base : Nat) (l : Exits U) (ρ : Type) (f : (ρ' : Type) → ρ' → (Exit → St U → ρ') → ρ') (fail : ρ) (K : Exit → St U → ρ) : ρ :=
  oelim (f (Option (ExT l)) none (exDec base l)) fail fun x => exGo l x K

def loopFix {α β : Type} : Nat → (α → Option (α ⊕ β)) → α → Option β
  | 0, _, _ => none
  | n + 1, s, a => match s a with
    | some (.inl a') => loopFix n s a'
    | some (.inr b) => some b
    | none => none

abbrev LoopN (U : Univ) := (ρ : Type) → St U → ρ → (Exit → St U → ρ) → ρ

structure Hints (U : Univ) where
  Γ : Nat → Option (Native U) := fun _ => .none
  loop : Nat → Option (LoopN U) := fun _ => .none
  meet : Nat → Option Live := fun _ => .none
  meetC : Nat → Option Live := fun _ => .none
  joinR : Nat → Option (Exits U) := fun _ => .none    -- a region's end
  joinQ : Nat → Option (List (Nat × JV U.C)) := fun _ => .none    -- a region's that turns no memory
  joinC : Nat → Option (Exits U) := fun _ => .none    -- a conditional's
  joinP : Nat → Option (List (Nat × JV U.C)) := fun _ => .none    -- a plain conditional's
  joinB : Nat → Option (Exits U) := fun _ => .none    -- a block's
  ro : Nat := 0      -- entries of names below are never written
  base : Nat := 0    -- names below are the caller's
  label : Nat → Option (LoopN U) := fun _ => .none
  gotos : Nat := 1   -- how many gotos a scope takes, one behind the other

def firstRegion : Code → Nat
  | .region id _ _ => id
  | .seq a b => match firstRegion a with
    | 0 => firstRegion b
    | n => n
  | .cond _ a b => match firstRegion a with
    | 0 => firstRegion b
    | n => n
  | .block _ b => firstRegion b
  | .loop b => firstRegion b
  | .scope b => firstRegion b
  | _ => 0

def joinSt (l : Live) (b : Bool) (x y : Option (St U)) : Option (St U) :=
  match x, y with
  | some x, some y => mergeSt b l x y
  | _, _ => .none

def JV.isVal {C : Type} : JV C → Bool
  | .val _ => true
  | _ => false

def quietQ (l : List (Nat × JV U.C)) (st st' : St U) : Option (JVs U l) :=
  bif l.all (fun p => p.2.isVal) && Nat.beq st'.n st.n && Nat.beq st'.nx st.nx && Nat.beq st'.h.length st.h.length then decEnv l st'.env else none

/-- a region that turns no memory: its ways meet in what it tells; all else stays -/
def joinQ (l : List (Nat × JV U.C)) (ops : List Oper) (ρ : Type) (f : (ρ' : Type) → ρ' → (St U → ρ') → ρ') (st : St U) (fail : ρ) (K : Exit → St U → ρ) : ρ :=
  oelim (f (Option (JVs U l)) none (quietQ l st)) fail fun x =>
    K .normal { n := st.n, env := encEnv l x ++ st.env.filter (fun p => !mem p.1 (ops.filterMap (·.dst))), h := st.h, nx := st.nx }

/-- what the two ways of a plain conditional are: nothing, or one region -/
def opsOf : Code → List Oper
  | .region _ ops _ => ops.toList
  | _ => []

/-- a loop's typed summary: a round, as a function of the typed state at its start -/
def loopN (base : Nat) (p : Shape U) (l : Exits U) (F : p.T → Option (ExT l)) : LoopN U := fun _ st fail K =>
  match p.dec base st with
  | some a => oelim (F a) fail fun x => exGo l x K
  | none => fail

def loopK (base : Nat) (p : Shape U) (l : Exits U) (e : Exit) (st : St U) : Option (p.T ⊕ ExT l) :=
  match e with
  | .normal => match p.dec base st with
    | some x => some (.inl x)
    | none => none
  | e => match exDec base l e st with
    | some x => some (.inr x)
    | none => none

/-- the same, for a label that is gone back to -/
def labelK (base : Nat) (lb : Nat) (p : Shape U) (l : Exits U) (e : Exit) (st : St U) : Option (p.T ⊕ ExT l) :=
  match e with
  | .goto i => bif Nat.beq i lb then (match p.dec base st with
    | some x => some (.inl x)
    | none => none) else none
  | e => match exDec base l e st with
    | some x => some (.inr x)
    | none => none

/-- on from a label, and again at each goto -/
def scopeGo (again : (ρ : Type) → ρ → Code → St U → (Exit → St U → ρ) → ρ) (b : Code) (ρ : Type) (fail : ρ) (K : Exit → St U → ρ) : Nat → Nat → St U → ρ
  | 0, l, st => match findLabel b l with
    | some _ => fail
    | none => K (.goto l) st
  | k + 1, l, st => match findLabel b l with
    | some rest => again ρ fail rest st fun e st => match e with
      | .goto l => scopeGo again b ρ fail K k l st
      | e => K e st
    | none => K (.goto l) st

def runB (P : Program) (Γ : Nat → Option (Native U)) (ro : Nat) (st : St U) : Code → (ρ : Type) → ρ → (St U → ρ) → ρ
  | .skip, _, _, K => K st
  | .region _ ops dr, _, fail, K => runOps P Γ ro dr ops.toList (bif dr then masks ops.toList [] else []) (fun b x y => bif b then x else y) fail ops.toList 0 [] st K
  | _, _, fail, _ => fail

def runC (P : Program) (Hn : Hints U) (again : (ρ : Type) → ρ → Code → St U → (Exit → St U → ρ) → ρ) : (ρ : Type) → ρ → Code → St U → (Exit → St U → ρ) → ρ
  | _, _, .skip, st, K => K .normal st
  | ρ, fail, .region id ops dr, st, K =>
    let ms := bif dr then masks ops.toList [] else []
    match Hn.meet id with
    | some l => match runOps P Hn.Γ Hn.ro dr ops.toList ms (joinSt l) .none ops.toList 0 [] st (fun st => some (st.only l)) with
      | some st => K .normal st
      | .none => fail
    | .none => match Hn.joinR id with
      | some l => joinN Hn.base l ρ (fun _ fail K => runOps P Hn.Γ Hn.ro dr ops.toList ms (fun b x y => bif b then x else y) fail ops.toList 0 [] st (fun st => K .normal st)) fail K
      | .none => match Hn.joinQ id with
        | some l => joinQ l ops.toList ρ (fun _ fail K => runOps P Hn.Γ Hn.ro dr ops.toList ms (fun b x y => bif b then x else y) fail ops.toList 0 [] st K) st fail K
        | .none => runOps P Hn.Γ Hn.ro dr ops.toList ms (fun b x y => bif b then x else y) fail ops.toList 0 [] st (fun st => K .normal st)
  | ρ, fail, .seq a b, st, K => runC P Hn again ρ fail a st fun e st => match e with
    | .normal => runC P Hn again ρ fail b st K
    | e => K e st
  | ρ, fail, .cond c a b, st, K =>
    match opd st.env c with
    | some (.v ⟨false, [.val (.bool x)]⟩) =>
      match Hn.meetC (firstRegion (.cond c a b)) with
      | some l =>
        match runC P Hn again (Option (Exit × St U)) .none a st (fun e st => some (e, st)), runC P Hn again (Option (Exit × St U)) .none b st (fun e st => some (e, st)) with
        | some (.normal, st1), some (.normal, st2) => match mergeSt x l st1 st2 with
          | some st => K .normal st
          | .none => fail
        | _, _ => fail
      | .none => match Hn.joinC (firstRegion (.cond c a b)) with
        | some l => joinN Hn.base l ρ (fun ρ fail K => bif x then runC P Hn again ρ fail a st K else runC P Hn again ρ fail b st K) fail K
        | .none => match Hn.joinP (firstRegion (.cond c a b)) with
          | some l => joinQ l (opsOf a ++ opsOf b) ρ (fun ρ fail K => bif x then runB P Hn.Γ Hn.ro st a ρ fail K else runB P Hn.Γ Hn.ro st b ρ fail K) st fail K
          | .none => bif x then runC P Hn again ρ fail a st K else runC P Hn again ρ fail b st K
    | _ => fail
  | ρ, fail, .block id b, st, K => match Hn.joinB id with
    | some l => joinN Hn.base l ρ (fun ρ fail K => runC P Hn again ρ fail b st fun e st => match e with
      | .exit i => bif Nat.beq i id then K .normal st else K (.exit i) st
      | e => K e st) fail K
    | .none => runC P Hn again ρ fail b st fun e st => match e with
      | .exit i => bif Nat.beq i id then K .normal st else K (.exit i) st
      | e => K e st
  | ρ, fail, .loop b, st, K => match Hn.loop (firstRegion b) with
    | some N => N ρ st fail K
    | .none => fail
  | _, _, .exit i, st, K => K (.exit i) st
  | ρ, fail, .scope b, st, K => runC P Hn again ρ fail b st fun e st => match e with
    | .goto l => match findLabel b l, Hn.label l with
      | some _, some N => N ρ st fail K
      | _, _ => scopeGo again b ρ fail K Hn.gotos l st
    | e => K e st
  | _, _, .label _, st, K => K .normal st
  | _, _, .goto l, st, K => K (.goto l) st
  | _, _, .ret, st, K => K .ret st
  | _, fail, .rangeFunc .., _, _ => fail
  | _, fail, .refuse _, _, _ => fail

def run (P : Program) (Hn : Hints U) : Nat → (ρ : Type) → ρ → Code → St U → (Exit → St U → ρ) → ρ
  | 0 => runC P Hn fun _ fail _ _ _ => fail
  | n + 1 => runC P Hn (run P Hn n)

def resultOf (P : Program) (env : Env U) (h : Heap U) : ResultVar → Option (V U)
  | .tmp t => match get env t with
    | some (.v x) => some x
    | _ => .none
  | .cell a t => match get env a, agg? P t, size? P t with
    | some (.v ⟨false, [.ptr s i off]⟩), some g, some n => match ld h s i off n with
      | some l => match asV g l with
        | some (.v x) => some x
        | _ => .none
      | .none => .none
    | _, _, _ => .none

def results (P : Program) (fn : Func) (env : Env U) (h : Heap U) : Option (A U) :=
  match allSome (fn.results.toList.map (resultOf P env h)) with
  | some [x] => some (.v x)
  | some l => some (.t l)
  | .none => .none

def argEnv : Nat → List (A U) → Env U
  | _, [] => []
  | i, a :: r => (i, a) :: argEnv (i + 1) r

/-- the whole call: what it hands back, and the heap -/
def runR {ρ : Type} (P : Program) (Hn : Hints U) (fn : Func) (gos : Nat) (fail : ρ) (fin : A U → Heap U → ρ) (args : List (A U)) (h : Heap U) (nx : Nat) : ρ :=
  match fn.body with
  | some c => run P Hn gos ρ fail c { n := fn.ntmps, env := argEnv 0 args, h := h, nx := nx } fun e st =>
    let out := match results P fn st.env st.h with
      | some v => fin v st.h
      | .none => fail
    match e with
    | .normal => out
    | .ret => out
    | _ => fail
  | .none => fail

def runF (P : Program) (Hn : Hints U) (fn : Func) (gos : Nat) (args : List (A U)) (h : Heap U) (nx : Nat) (names : List Nat) : Res U :=
  runR P Hn fn gos .fail (fun v h => .done v (pickHeap h names)) args h nx
end
end Go.Rf
namespace Go.Rf
set_option linter.unusedVariables false

/-! ## What abstract values mean -/
structure Cx where
  L : Nat → Nat → Option (Nat × Nat)
  I : Nat → Nat → Option Value

structure Cx.Le (c d : Cx) : Prop where
  L : ∀ s i x, c.L s i = some x → d.L s i = some x
  I : ∀ b o v, c.I b o = some v → d.I b o = some v

theorem Cx.Le.refl (c : Cx) : c.Le c := ⟨fun _ _ _ h => h, fun _ _ _ h => h⟩
theorem Cx.Le.trans {c d e : Cx} (h : c.Le d) (h' : d.Le e) : c.Le e := ⟨fun _ _ _ x => h'.L _ _ _ (h.L _ _ _ x), fun _ _ _ x => h'.I _ _ _ (h.I _ _ _ x)⟩

abbrev at_ (b o : Nat) : Addr := ⟨b, o, none⟩

/-- what a slice's mark says of its capacity -/
def TokOK (c : Cx) (t : Tok) (a : Option Addr) (b o n cap sz : Nat) : Prop :=
  match t with
  | .none => True
  | .full => cap = n
  | .own k => ∃ b' o' e, c.L k 0 = some (b', o') ∧ c.L k 1 = some (b', e) ∧ (0 < cap → a = some (at_ b o) ∧ b' = b ∧ o' = o + n * sz ∧ o + cap * sz ≤ e)

variable {U : Univ}

inductive R (U : Univ) (c : Cx) : U.S → Value → Prop
  | val {v : Value} (h : okV v = true) : R U c (.val v) v
  | ptr {s i off b o : Nat} (h : c.L s i = some (b, o)) : R U c (.ptr s i off) (.pointer (some (at_ b (o + off))))
  | isl {t : Tok} {u : U.C} {xs : List (U.D u)} {a : Option Addr} {cap b o : Nat} (g : Nat → Nat → Value) (hc : xs.length ≤ cap)
      (ht : TokOK c t a b o xs.length cap (U.size u)) (ha : 0 < xs.length → a = some (at_ b o))
      (hi : ∀ i k, i < xs.length → k < U.size u → c.I b (o + (i * U.size u + k)) = some (g i k))
      (hr : ∀ i k, i < xs.length → k < U.size u → R U c ((U.enc u (xs.getD i (U.dft u))).getD k .hole) (g i k)) :
      R U c (.isl t u xs) (.slice a xs.length cap)
  | iptr {u : U.C} {x : U.D u} {off b o : Nat} (g : Nat → Value) (hi : ∀ k, k < U.size u → c.I b (o + k) = some (g k))
      (hr : ∀ k, k < U.size u → R U c ((U.enc u x).getD k .hole) (g k)) : R U c (.iptr u x off) (.pointer (some (at_ b (o + off))))
  | onil {u : U.C} : R U c (.optr u none) (.pointer none)
  | osome {u : U.C} {x : U.D u} {b o : Nat} (g : Nat → Value) (hi : ∀ k, k < U.size u → c.I b (o + k) = some (g k))
      (hr : ∀ k, k < U.size u → R U c ((U.enc u x).getD k .hole) (g k)) : R U c (.optr u (some x)) (.pointer (some (at_ b o)))
  | sl {s i n cap b o : Nat} {a : Option Addr} (hc : n ≤ cap) (ha : 0 < n → c.L s i = some (b, o) ∧ a = some (at_ b o))
      (hl : ∀ j, j < n → ∃ x, c.L s (i + j) = some x) : R U c (.sl s i n) (.slice a n cap)

theorem TokOK.mono {c d : Cx} (h : c.Le d) {t : Tok} {a : Option Addr} {b o n cap sz : Nat} (ht : TokOK c t a b o n cap sz) : TokOK d t a b o n cap sz := by
  cases t with
  | none => trivial
  | full => exact ht
  | own k => obtain ⟨b', o', e, h1, h2, h3⟩ := ht; exact ⟨b', o', e, h.L _ _ _ h1, h.L _ _ _ h2, h3⟩

theorem R.mono {c d : Cx} (h : c.Le d) {x : U.S} {v : Value} (hx : R U c x v) : R U d x v := by
  induction hx with
  | val hv => exact .val hv
  | ptr h1 => exact .ptr (h.L _ _ _ h1)
  | isl g hc ht ha hi hr ih => exact .isl g hc (ht.mono h) ha (fun i k h1 h2 => h.I _ _ _ (hi i k h1 h2)) ih
  | iptr g hi hr ih => exact .iptr g (fun k h1 => h.I _ _ _ (hi k h1)) ih
  | onil => exact .onil
  | osome g hi hr ih => exact .osome g (fun k h1 => h.I _ _ _ (hi k h1)) ih
  | sl hc ha hl => exact .sl hc (fun hn => ⟨h.L _ _ _ (ha hn).1, (ha hn).2⟩) fun j hj => let ⟨x, hx⟩ := hl j hj; ⟨x, h.L _ _ _ hx⟩

theorem okV_one {v : Value} (h : okV v = true) : v.oneCell' = true := by
  cases v <;> first | exact h | rfl
theorem okR_ok {v : Value} (h : okR v = true) : okV v = true := by
  cases v <;> first | exact h | (rename_i k n; cases k <;> first | rfl | cases h)
theorem wrap_u8 (n : Int) : 0 ≤ IntKind.u8.wrap n ∧ IntKind.u8.wrap n < 256 := by
  simp [IntKind.wrap, IntKind.signed, IntKind.bits]
  omega
theorem okV_u8 {n : Int} (h : 0 ≤ n ∧ n < 256) : okV (.int .u8 n) = true := by simp [okV, h]
theorem u8_okV {n : Int} (h : okV (.int .u8 n) = true) : 0 ≤ n ∧ n < 256 := by simpa [okV] using h
theorem okV_wrap (k : IntKind) (n : Int) : okV (.int k (k.wrap n)) = true := by
  cases k <;> first | rfl | exact okV_u8 (wrap_u8 n)
theorem okV_int {k : IntKind} (hk : k ≠ .u8) (n : Int) : okV (.int k n) = true := by
  cases k <;> first | rfl | exact absurd rfl hk
theorem R.okV {c : Cx} {v u : Value} (hx : R U c (.val v) u) : Rf.okV v = true := by
  cases hx; assumption
theorem R.ok {c : Cx} {x : U.S} {v : Value} (hx : R U c x v) : Rf.okV v = true := by
  cases hx <;> first | assumption | rfl
theorem okV_byte (b : UInt8) : Rf.okV (.int .u8 (b.toNat : Int)) = true := okV_u8 ⟨by omega, by have := UInt8.toNat_lt b; omega⟩
theorem R.one {c : Cx} {x : U.S} {v : Value} (hx : R U c x v) : v.oneCell' = true := by
  cases hx <;> first | (rename_i h; exact okV_one h) | rfl

theorem R.cell {c : Cx} {x : U.S} {v : Value} (hx : R U c x v) : isCell x = true := by
  cases hx <;> rfl

theorem cells_of_one {v : Value} (h : v.oneCell' = true) : v.cells = #[v] := by
  cases v <;> first | rfl | simp [Value.oneCell'] at h

/-- cells, one by one -/
structure RL (U : Univ) (c : Cx) (l : List U.S) (vs : List Value) : Prop where
  len : vs.length = l.length
  at_ : ∀ (k : Nat) (x : U.S), l[k]? = some x → ∃ v, vs[k]? = some v ∧ R U c x v

theorem RL.nil {c : Cx} : RL U c [] [] := ⟨rfl, fun k x h => by simp at h⟩
theorem RL.cons {c : Cx} {x : U.S} {v : Value} {l : List U.S} {vs : List Value} (h : R U c x v) (hl : RL U c l vs) : RL U c (x :: l) (v :: vs) := by
  refine ⟨by simp [hl.len], fun k y hk => ?_⟩
  cases k with
  | zero => simp at hk; subst hk; exact ⟨v, rfl, h⟩
  | succ k => simp at hk; simpa using hl.at_ k y hk
theorem RL.uncons {c : Cx} {x : U.S} {l : List U.S} {vs : List Value} (h : RL U c (x :: l) vs) : ∃ v vs', vs = v :: vs' ∧ R U c x v ∧ RL U c l vs' := by
  cases vs with
  | nil => have := h.len; simp at this
  | cons v vs =>
    obtain ⟨v', h1, h2⟩ := h.at_ 0 x rfl
    simp at h1; subst h1
    refine ⟨v, vs, rfl, h2, by have := h.len; simpa using this, fun k y hk => ?_⟩
    have := h.at_ (k + 1) y (by simpa using hk)
    simpa using this
theorem RL.unnil {c : Cx} {vs : List Value} (h : RL U c [] vs) : vs = [] := by
  have := h.len; simpa using this
theorem RL.mono {c d : Cx} (h : c.Le d) {l : List U.S} {vs : List Value} (hl : RL U c l vs) : RL U d l vs :=
  ⟨hl.len, fun k x hk => let ⟨v, h1, h2⟩ := hl.at_ k x hk; ⟨v, h1, h2.mono h⟩⟩
theorem RL.append {c : Cx} {l m : List U.S} {vs ws : List Value} (h : RL U c l vs) (h' : RL U c m ws) : RL U c (l ++ m) (vs ++ ws) := by
  refine ⟨by simp [h.len, h'.len], fun k x hk => ?_⟩
  by_cases hl : k < l.length
  · rw [List.getElem?_append_left hl] at hk
    rw [List.getElem?_append_left (by rw [h.len]; exact hl)]
    exact h.at_ k x hk
  · rw [List.getElem?_append_right (by omega)] at hk
    rw [List.getElem?_append_right (by rw [h.len]; omega), h.len]
    exact h'.at_ _ x hk
theorem RL.drop {c : Cx} {l : List U.S} {vs : List Value} (n : Nat) (h : RL U c l vs) : RL U c (l.drop n) (vs.drop n) :=
  ⟨by simp [h.len], fun k x hk => by rw [List.getElem?_drop] at *; exact h.at_ _ x hk⟩
theorem RL.take {c : Cx} {l : List U.S} {vs : List Value} (n : Nat) (h : RL U c l vs) : RL U c (l.take n) (vs.take n) := by
  refine ⟨by simp [h.len], fun k x hk => ?_⟩
  rw [List.getElem?_take] at *
  split at hk
  · rename_i hkn; simp only [hkn, if_true]; exact h.at_ k x hk
  · simp at hk
theorem RL.cell {c : Cx} {l : List U.S} {vs : List Value} (h : RL U c l vs) : l.all isCell = true := by
  rw [List.all_eq_true]
  intro x hx
  obtain ⟨k, hk⟩ := List.getElem?_of_mem hx
  obtain ⟨v, _, h2⟩ := h.at_ k x hk
  exact h2.cell
theorem RL.one {c : Cx} {l : List U.S} {vs : List Value} (h : RL U c l vs) : ∀ v ∈ vs, v.oneCell' = true := by
  intro v hv
  obtain ⟨k, hk⟩ := List.getElem?_of_mem hv
  have hlt : k < l.length := by rw [← h.len]; exact (List.getElem?_eq_some_iff.1 hk).1
  obtain ⟨u, h1, h2⟩ := h.at_ k l[k] (List.getElem?_eq_getElem hlt)
  rw [hk] at h1; cases h1
  exact h2.one

def RV (U : Univ) (c : Cx) (x : V U) (v : Value) : Prop :=
  match x with
  | ⟨true, l⟩ => ∃ cs : Array Value, v = .agg cs ∧ RL U c l cs.toList
  | ⟨false, [y]⟩ => R U c y v
  | ⟨false, _⟩ => False

theorem RV.mono {c d : Cx} (h : c.Le d) {x : V U} {v : Value} (hx : RV U c x v) : RV U d x v := by
  obtain ⟨g, l⟩ := x
  cases g with
  | true => obtain ⟨cs, h1, h2⟩ := hx; exact ⟨cs, h1, h2.mono h⟩
  | false => match l, hx with
    | [y], hx => exact R.mono h hx

/-- a value's cells are related -/
theorem RV.cells {c : Cx} {x : V U} {v : Value} (hx : RV U c x v) : RL U c x.l v.cells.toList := by
  obtain ⟨g, l⟩ := x
  cases g with
  | true => obtain ⟨cs, h1, h2⟩ := hx; subst h1; exact h2
  | false => match l, hx with
    | [y], hx => rw [cells_of_one (R.one hx)]; exact .cons hx .nil

def RA (U : Univ) (c : Cx) (x : A U) (v : Value) : Prop :=
  match x with
  | .v x => RV U c x v
  | .t xs => ∃ vs : Array Value, v = .tuple vs ∧ vs.size = xs.length ∧ ∀ (k : Nat) (x : V U), xs[k]? = some x → ∃ u, vs[k]? = some u ∧ RV U c x u

theorem RA.mono {c d : Cx} (h : c.Le d) {x : A U} {v : Value} (hx : RA U c x v) : RA U d x v := by
  cases x with
  | v x => exact RV.mono h (show RV U c x v from hx)
  | t xs =>
    obtain ⟨vs, h1, h2, h3⟩ := hx
    exact ⟨vs, h1, h2, fun k x hk => let ⟨u, h4, h5⟩ := h3 k x hk; ⟨u, h4, h5.mono h⟩⟩

theorem RA.undef {c : Cx} : RA U c (.t []) undef := ⟨#[], rfl, rfl, fun k x h => by simp at h⟩

theorem RA.sc {c : Cx} {x : U.S} {v : Value} (h : R U c x v) : RA U c (Rf.sc x) v := h

/-! ## What the universe owes -/
structure Univ.Ok (U : Univ) : Prop where
  enc_len : ∀ u x, (U.enc u x).length = U.size u
  enc_cell : ∀ u x, (U.enc u x).all isCell = true
  dec_le : ∀ u l x, U.dec u l = some x → ∀ c vs, RL U c l vs → RL U c (U.enc u x) vs
  toBytes : ∀ u xs bs, U.toBytes u xs = some bs → U.size u = 1 ∧ bs.length = xs.length ∧ ∀ i, i < xs.length → U.enc u (xs.getD i (U.dft u)) = [.val (.int .u8 ((bs.getD i 0).toNat : Int))]
  u8 : U.size U.u8 = 1
  ofBytes : ∀ bs, (U.ofBytes bs).length = bs.length ∧ ∀ i, i < bs.length → U.enc U.u8 ((U.ofBytes bs).getD i (U.dft U.u8)) = [.val (.int .u8 ((bs.getD i 0).toNat : Int))]

/-! ## Memory -/
def EntOK (c : Cx) (w : World) (s : Nat) (F : Nat → Nat → Prop) : Ent U → Prop
  | .obj cells => ∃ b o, c.L s 0 = some (b, o) ∧ (∀ i x, c.L s i = some x → i = 0) ∧
      (∀ k x, cells[k]? = some x → isCell x = true → (∃ v, w.cell? (at_ b (o + k)) = some v ∧ R U c x v) ∧ w.frozen? (at_ b (o + k)) = false ∧ F b (o + k)) ∧
      (∀ k s', cells[k]? = some (.arr s') → c.L s' 0 = some (b, o + k)) ∧
      (∀ b' o', F b' o' → b' = b ∧ ∃ k x, o' = o + k ∧ cells[k]? = some x ∧ isCell x = true)
  | .fam ct u n f => ∃ A : Nat → Nat × Nat, (∀ i, i < n → c.L s i = some (A i)) ∧ (∀ i x, c.L s i = some x → i < n) ∧
      (∀ i k, i < n → k < U.size u → (∃ v, w.cell? (at_ (A i).1 ((A i).2 + k)) = some v ∧ R U c ((U.enc u (f i)).getD k .hole) v) ∧
        w.frozen? (at_ (A i).1 ((A i).2 + k)) = false ∧ F (A i).1 ((A i).2 + k)) ∧
      (∀ b o, F b o → ∃ i k, i < n ∧ k < U.size u ∧ b = (A i).1 ∧ o = (A i).2 + k) ∧
      (∀ i j k l, i < n → j < n → k < U.size u → l < U.size u → (A i).1 = (A j).1 → (A i).2 + k = (A j).2 + l → i = j ∧ k = l) ∧
      (ct = true → ∀ i, i < n → A i = ((A 0).1, (A 0).2 + i * U.size u))
  | .tok => ∃ b o e, c.L s 0 = some (b, o) ∧ c.L s 1 = some (b, e) ∧
      (∀ x, o ≤ x → x < e → (∃ v, w.cell? (at_ b x) = some v) ∧ w.frozen? (at_ b x) = false ∧ F b x) ∧ (∀ b' x, F b' x → b' = b ∧ o ≤ x ∧ x < e)
  | .dead => ∀ b o, ¬ F b o

structure G (U : Univ) (c : Cx) (Φ : Nat → Nat → Nat → Prop) (h : Heap U) (w : World) : Prop where
  ents : ∀ s e, get h s = some e → EntOK c w s (Φ s) e
  apart : ∀ s s' b o, s ≠ s' → (get h s).isSome → (get h s').isSome → Φ s b o → ¬ Φ s' b o
  imm : ∀ b o v, c.I b o = some v → w.cell? (at_ b o) = some v
  immApart : ∀ s b o, (get h s).isSome → Φ s b o → c.I b o = none

/-- 'outside of F all is as it was' -/
structure Fr (F : Nat → Nat → Prop) (w w' : World) : Prop where
  size : w.heap.size ≤ w'.heap.size
  cell : ∀ b o, b < w.heap.size → ¬ F b o → w'.cell? (at_ b o) = w.cell? (at_ b o)
  frozen : ∀ b o, b < w.heap.size → w'.frozen? (at_ b o) = w.frozen? (at_ b o)
  shape : ∀ b, b < w.heap.size → w'.shape? b = w.shape? b
  obj : ∀ b, b < w.heap.size → (∀ o, ¬ F b o) → w'.heap[b]? = w.heap[b]?
  rest : w'.os = w.os ∧ w'.tape = w.tape ∧ w'.output = w.output

theorem Fr.refl (F : Nat → Nat → Prop) (w : World) : Fr F w w := ⟨Nat.le_refl _, fun _ _ _ _ => rfl, fun _ _ _ => rfl, fun _ _ => rfl, fun _ _ _ => rfl, rfl, rfl, rfl⟩

theorem Fr.trans {F F' : Nat → Nat → Prop} {w w₁ w₂ : World} (h : Fr F w w₁) (h' : Fr F' w₁ w₂) (hF : ∀ b o, b < w.heap.size → F' b o → F b o) : Fr F w w₂ where
  size := Nat.le_trans h.size h'.size
  cell b o hb hn := (h'.cell b o (Nat.lt_of_lt_of_le hb h.size) (fun hf => hn (hF b o hb hf))).trans (h.cell b o hb hn)
  frozen b o hb := (h'.frozen b o (Nat.lt_of_lt_of_le hb h.size)).trans (h.frozen b o hb)
  shape b hb := (h'.shape b (Nat.lt_of_lt_of_le hb h.size)).trans (h.shape b hb)
  obj b hb hn := (h'.obj b (Nat.lt_of_lt_of_le hb h.size) (fun o hf => hn o (hF b o hb hf))).trans (h.obj b hb hn)
  rest := ⟨h'.rest.1.trans h.rest.1, h'.rest.2.1.trans h.rest.2.1, h'.rest.2.2.trans h.rest.2.2⟩

theorem Fr.mono {F F' : Nat → Nat → Prop} {w w' : World} (h : Fr F w w') (hF : ∀ b o, b < w.heap.size → F b o → F' b o) : Fr F' w w' :=
  (Fr.refl F' w).trans h hF

theorem Fr.drew (F : Nat → Nat → Prop) (w : World) : Fr F w { w with drawn := w.drawn + 1 } := ⟨Nat.le_refl _, fun _ _ _ _ => rfl, fun _ _ _ => rfl, fun _ _ => rfl, fun _ _ _ => rfl, rfl, rfl, rfl⟩

theorem block_lt {w : World} {b o : Nat} {v : Value} (h : w.cell? (at_ b o) = some v) : b < w.heap.size := World.block_lt_of_cell? w (at_ b o) h

/-- an entry's own memory lies in the heap -/
theorem EntOK.lt {c : Cx} {w : World} {s : Nat} {F : Nat → Nat → Prop} {e : Ent U} (h : EntOK c w s F e) {b o : Nat} (hf : F b o) : b < w.heap.size := by
  cases e with
  | obj cells =>
    obtain ⟨b', o', _, _, h1, _, h2⟩ := h
    obtain ⟨rfl, k, x, rfl, hk, hx⟩ := h2 b o hf
    obtain ⟨⟨v, hv, _⟩, _⟩ := h1 k x hk hx
    exact block_lt hv
  | fam ct u n f =>
    obtain ⟨A, _, _, h1, h2, _⟩ := h
    obtain ⟨i, k, hi, hk, rfl, rfl⟩ := h2 b o hf
    obtain ⟨⟨v, hv, _⟩, _⟩ := h1 i k hi hk
    exact block_lt hv
  | tok =>
    obtain ⟨b', o', e, _, _, h1, h2⟩ := h
    obtain ⟨rfl, hx, hx'⟩ := h2 b o hf
    obtain ⟨⟨v, hv⟩, _⟩ := h1 o hx hx'
    exact block_lt hv
  | dead => exact (h b o hf).elim

/-- an entry stands as long as its own cells are as they were -/
theorem EntOK.stays {c c' : Cx} {w w' : World} {s : Nat} {F : Nat → Nat → Prop} {e : Ent U} (h : EntOK c w s F e) (hc : c.Le c') (hL : ∀ i, c'.L s i = c.L s i)
    (hw : ∀ b o, F b o → w'.cell? (at_ b o) = w.cell? (at_ b o) ∧ w'.frozen? (at_ b o) = w.frozen? (at_ b o)) : EntOK c' w' s F e := by
  cases e with
  | obj cells =>
    obtain ⟨b, o, h0, h1, h2, h3, h4⟩ := h
    refine ⟨b, o, by rw [hL]; exact h0, fun i x hx => h1 i x (by rw [← hL]; exact hx), fun k x hk hx => ?_, fun k s' hk => hc.L _ _ _ (h3 k s' hk), h4⟩
    obtain ⟨⟨v, hv, hr⟩, hf, hF⟩ := h2 k x hk hx
    obtain ⟨e1, e2⟩ := hw _ _ hF
    exact ⟨⟨v, e1.trans hv, hr.mono hc⟩, e2.trans hf, hF⟩
  | fam ct u n f =>
    obtain ⟨A, h0, h1, h2, h3, h4, h5⟩ := h
    refine ⟨A, fun i hi => by rw [hL]; exact h0 i hi, fun i x hx => h1 i x (by rw [← hL]; exact hx), fun i k hi hk => ?_, h3, h4, h5⟩
    obtain ⟨⟨v, hv, hr⟩, hf, hF⟩ := h2 i k hi hk
    obtain ⟨e1, e2⟩ := hw _ _ hF
    exact ⟨⟨v, e1.trans hv, hr.mono hc⟩, e2.trans hf, hF⟩
  | tok =>
    obtain ⟨b, o, e, h0, h1, h2, h3⟩ := h
    refine ⟨b, o, e, by rw [hL]; exact h0, by rw [hL]; exact h1, fun x hx hx' => ?_, h3⟩
    obtain ⟨⟨v, hv⟩, hf, hF⟩ := h2 x hx hx'
    obtain ⟨e1, e2⟩ := hw _ _ hF
    exact ⟨⟨v, e1.trans hv⟩, e2.trans hf, hF⟩
  | dead => exact h

theorem get_append {α : Type} (l r : List (Nat × α)) (t : Nat) : get (l ++ r) t = match get l t with | some x => some x | none => get r t := by
  induction l with
  | nil => rfl
  | cons p l ih =>
    obtain ⟨k, v⟩ := p
    simp only [List.cons_append, get]
    cases Nat.beq k t with
    | true => rfl
    | false => simpa using ih

theorem get_cons {α : Type} (k : Nat) (v : α) (r : List (Nat × α)) (t : Nat) : get ((k, v) :: r) t = if k = t then some v else get r t := by
  simp only [get]
  by_cases h : k = t
  · subst h; simp
  · have : Nat.beq k t = false := by
      cases hb : Nat.beq k t with
      | false => rfl
      | true => exact absurd (Nat.eq_of_beq_eq_true hb) h
    simp [this, h]

theorem get_none_of_notMem {α : Type} {l : List (Nat × α)} {t : Nat} (h : t ∉ l.map (·.1)) : get l t = none := by
  induction l with
  | nil => rfl
  | cons p l ih =>
    obtain ⟨k, v⟩ := p
    simp at h
    rw [get_cons, if_neg (fun e => h.1 e.symm)]
    exact ih (by simpa using h.2)

theorem get_mem {α : Type} {l : List (Nat × α)} {t : Nat} {v : α} (h : get l t = some v) : t ∈ l.map (·.1) := by
  rcases Decidable.em (t ∈ l.map (·.1)) with h' | h'
  · exact h'
  · rw [get_none_of_notMem h'] at h; cases h

theorem get_isSome_of_mem {α : Type} {l : List (Nat × α)} {t : Nat} (h : t ∈ l.map (·.1)) : (get l t).isSome := by
  induction l with
  | nil => simp at h
  | cons p l ih =>
    obtain ⟨k, v⟩ := p
    rw [get_cons]
    by_cases e : k = t
    · simp [e]
    · simp [e]
      simp at h
      rcases h with h | h
      · exact absurd h.symm e
      · exact ih (by simpa using h)
end Go.Rf
namespace Go.Rf
set_option linter.unusedVariables false
set_option linter.unusedSimpArgs false
variable {U : Univ} {P : Program}

structure Step1 (U : Univ) (c : Cx) (Φ : Nat → Nat → Nat → Prop) (h : Heap U) (nx : Nat) (out : Out U) (w : World)
    (c' : Cx) (Φ' : Nat → Nat → Nat → Prop) (u : Value) (w' : World) : Prop where
  le : c.Le c'
  L : ∀ s i, ¬ (nx ≤ s ∧ s < nx + out.nw) → c'.L s i = c.L s i
  val : RA U c' out.v u
  g : G U c' Φ' (out.w ++ h) w'
  fr : Fr (fun b o => ∃ s, s ∈ out.w.map (·.1) ∧ (get h s).isSome ∧ Φ s b o) w w'
  foot : ∀ s, s ∉ out.w.map (·.1) → Φ' s = Φ s
  footw : ∀ s b o, s ∈ out.w.map (·.1) → Φ' s b o → w.heap.size ≤ b ∨ ∃ s', s' ∈ out.w.map (·.1) ∧ (get h s').isSome ∧ Φ s' b o
  names : ∀ s, s ∈ out.w.map (·.1) → (nx ≤ s ∧ s < nx + out.nw) ∨ (get h s).isSome
  inew : ∀ b o v, c'.I b o = some v → c.I b o = some v ∨ w.heap.size ≤ b ∨ ∃ s, s ∈ out.w.map (·.1) ∧ (get h s).isSome ∧ Φ s b o

/-- What is asked of an operation's run: what it yields, and the world behind it. -/
def Does (P : Program) (post : Value → World → Prop) : Result Next → Prop
  | .ok (.value u) w' => post u w'
  | .ok .skip w' => post undef w'
  | .ok (.enter f args) w' => Calls P f args w' fun e w'' => ∃ v, e = .returned v ∧ post v w''
  | _ => False

theorem Does.wp {o : Oper} {a : Act} {w : World} {post : Value → World → Prop} {K : Act → World → Prop} {Q : Exit → Act → World → Prop}
    (h : Does P post ((execOp a.eval o).run P w)) (hk : ∀ u w', post u w' → K (a.put o.dst u) w') : o.wp P a w K Q := by
  unfold Oper.wp
  generalize (execOp a.eval o).run P w = r at *
  cases r with
  | ok n w' =>
    cases n <;> simp only [Does] at h <;> simp only [Oper.upon] <;> first | exact h.elim | skip
    case value u => exact hk _ _ h
    case skip => exact hk _ _ h
    case enter f args =>
      refine h.mono fun e w'' he => ?_
      obtain ⟨v, rfl, hp⟩ := he
      exact hk _ _ hp
  | halt x w' => simp only [Does] at h

theorem Does.mono {post post' : Value → World → Prop} {r : Result Next} (h : Does P post r) (hp : ∀ u w', post u w' → post' u w') : Does P post' r := by
  cases r with
  | ok n w' =>
    cases n <;> simp only [Does] at h ⊢ <;> first | exact h.elim | skip
    case value u => exact hp _ _ h
    case skip => exact hp _ _ h
    case enter f args => exact h.mono fun e w'' ⟨v, h1, h2⟩ => ⟨v, h1, hp _ _ h2⟩
  | halt x w' => exact h.elim

/-- a computation of the model's own, one value -/
theorem Does.value {s : Sem Value} {w w' : World} {u : Value} {post : Value → World → Prop} (h : s.run P w = .ok u w') (hp : post u w') :
    Does P post ((do pure (Next.value (← s)) : Sem Next).run P w) := by
  simp only [Sem.run_bind, h, Result.andThen_ok, Sem.run_pure]
  exact hp

theorem Does.unit {s : Sem Unit} {w w' : World} {post : Value → World → Prop} (h : s.run P w = .ok () w') (hp : post undef w') :
    Does P post ((do s; pure Next.skip : Sem Next).run P w) := by
  simp only [Sem.run_bind, h, Result.andThen_ok, Sem.run_pure]
  exact hp

section
variable {c : Cx} {Φ : Nat → Nat → Nat → Prop} {h : Heap U} {nx : Nat} {w : World}

theorem Step1.pure {v : A U} {rd : List Nat} {u : Value} (hg : G U c Φ h w) (hv : RA U c v u) : Step1 U c Φ h nx { v := v, rd := rd } w c Φ u w where
  le := .refl c
  L _ _ _ := rfl
  val := hv
  g := hg
  fr := .refl _ _
  foot _ _ := rfl
  footw s b o hs := by simp at hs
  names s hs := by simp at hs
  inew _ _ _ h := .inl h

def fup (Φ : Nat → Nat → Nat → Prop) (s : Nat) (F : Nat → Nat → Prop) : Nat → Nat → Nat → Prop := fun t => if t = s then F else Φ t

/-- one entry anew -/
theorem G.put {c' : Cx} {w' : World} {F : Nat → Nat → Prop} {s : Nat} {e : Ent U} (hg : G U c Φ h w) (hc : c.Le c') (hL : ∀ t i, t ≠ s → c'.L t i = c.L t i)
    (he : EntOK c' w' s F e)
    (hw : ∀ t b o, t ≠ s → (get h t).isSome → Φ t b o → w'.cell? (at_ b o) = w.cell? (at_ b o) ∧ w'.frozen? (at_ b o) = w.frozen? (at_ b o))
    (hF : ∀ t b o, t ≠ s → (get h t).isSome → Φ t b o → ¬ F b o)
    (hi : ∀ b o v, c'.I b o = some v → w'.cell? (at_ b o) = some v)
    (hi1 : ∀ t b o, t ≠ s → (get h t).isSome → Φ t b o → c'.I b o = none)
    (hi2 : ∀ b o, F b o → c'.I b o = none) : G U c' (fup Φ s F) ((s, e) :: h) w' where
  ents t e' ht := by
    rw [get_cons] at ht
    by_cases hs : s = t
    · subst hs; simp at ht; subst ht; simpa [fup] using he
    · rw [if_neg hs] at ht
      have hne : t ≠ s := fun e => hs e.symm
      simp only [fup, if_neg hne]
      exact (hg.ents t e' ht).stays hc (fun i => hL t i hne) fun b o hf => hw t b o hne (by simp [ht]) hf
  apart t t' b o hne h1 h2 hf hf' := by
    rw [get_cons] at h1 h2
    by_cases hs : s = t
    · subst hs
      have ht' : t' ≠ s := fun e => hne e.symm
      rw [if_neg (fun e => ht' e.symm)] at h2
      simp [fup] at hf
      simp only [fup, if_neg ht'] at hf'
      exact hF t' b o ht' h2 hf' hf
    · have hts : t ≠ s := fun e => hs e.symm
      rw [if_neg hs] at h1
      simp only [fup, if_neg hts] at hf
      by_cases hs' : s = t'
      · subst hs'; simp [fup] at hf'; exact hF t b o hts h1 hf hf'
      · have hts' : t' ≠ s := fun e => hs' e.symm
        rw [if_neg hs'] at h2
        simp only [fup, if_neg hts'] at hf'
        exact hg.apart t t' b o hne h1 h2 hf hf'
  imm := hi
  immApart t b o h1 hf := by
    rw [get_cons] at h1
    by_cases hs : s = t
    · subst hs; simp [fup] at hf; exact hi2 b o hf
    · have hts : t ≠ s := fun e => hs e.symm
      rw [if_neg hs] at h1
      simp only [fup, if_neg hts] at hf
      exact hi1 t b o hts h1 hf

/-! ### a new block -/
theorem frozen_alloc_lt (w : World) (o : Obj) {b x : Nat} (hb : b < w.heap.size) : (w.alloc o).frozen? (at_ b x) = w.frozen? (at_ b x) :=
  World.frozen?_alloc_old w o (at_ b x) (Nat.ne_of_lt hb)
theorem cell_alloc_lt (w : World) (o : Obj) {b x : Nat} (hb : b < w.heap.size) : (w.alloc o).cell? (at_ b x) = w.cell? (at_ b x) :=
  World.cell?_alloc_lt w o (at_ b x) hb
theorem shape_alloc_lt (w : World) (o : Obj) {b : Nat} (hb : b < w.heap.size) : (w.alloc o).shape? b = w.shape? b := by
  unfold World.shape? World.alloc
  simp only [Array.getElem?_push, if_neg (Nat.ne_of_lt hb)]
theorem obj_alloc_lt (w : World) (o : Obj) {b : Nat} (hb : b < w.heap.size) : (w.alloc o).heap[b]? = w.heap[b]? := by
  unfold World.alloc
  simp only [Array.getElem?_push, if_neg (Nat.ne_of_lt hb)]

theorem Fr.alloc (F : Nat → Nat → Prop) (w : World) (o : Obj) : Fr F w (w.alloc o) where
  size := by simp
  cell b x hb _ := cell_alloc_lt w o hb
  frozen b x hb := frozen_alloc_lt w o hb
  shape b hb := shape_alloc_lt w o hb
  obj b hb _ := obj_alloc_lt w o hb
  rest := ⟨rfl, rfl, rfl⟩

def Cx.withL (c : Cx) (s : Nat) (l : Nat → Option (Nat × Nat)) : Cx := { c with L := fun t i => if t = s then l i else c.L t i }

theorem Cx.withL_le {s : Nat} {l : Nat → Option (Nat × Nat)} (hs : ∀ i, c.L s i = none) : c.Le (c.withL s l) where
  L t i x hx := by
    by_cases ht : t = s
    · subst ht; rw [hs] at hx; cases hx
    · simpa [Cx.withL, ht] using hx
  I _ _ _ hx := hx

/-- a new object: its cells, its address -/
theorem Step1.obj {l : List U.S} {vs : List Value} {t : TypeId} (hg : G U c Φ h w) (hl : RL U c l vs)
    (hs : ∀ i, c.L nx i = none) (hn : get h nx = none) :
    ∃ c' Φ', Step1 U c Φ h nx { v := Rf.sc (.ptr nx 0 0), w := [(nx, .obj l)], nw := 1 } w c' Φ' (.pointer (some (at_ w.heap.size 0))) (w.alloc (.cells vs.toArray t)) := by
  let c' := c.withL nx fun i => if i = 0 then some (w.heap.size, 0) else none
  have hc : c.Le c' := Cx.withL_le hs
  let F : Nat → Nat → Prop := fun b o => b = w.heap.size ∧ o < l.length
  have hlt : ∀ t b o, (get h t).isSome → Φ t b o → b < w.heap.size := fun t b o ht hf => by
    obtain ⟨e, he⟩ := Option.isSome_iff_exists.1 ht
    exact (hg.ents t e he).lt hf
  have hcell := hl.cell
  refine ⟨c', fup Φ nx F, ?_⟩
  have hx0 : c'.L nx 0 = some (w.heap.size, 0) := by simp [c', Cx.withL]
  refine { le := hc, L := fun s i hsi => ?_, val := ?_, g := ?_, fr := Fr.alloc _ _ _, foot := fun s hsn => ?_, footw := fun s b o hsn hf => ?_, names := fun s hsn => ?_, inew := fun _ _ _ h => .inl h }
  · have : s ≠ nx := fun e => hsi (by subst e; simp)
    simp [c', Cx.withL, this]
  · exact .ptr (o := 0) hx0
  · refine hg.put hc (fun t i ht => by simp [c', Cx.withL, ht]) ?_ (fun t b o _ h1 hf => ⟨cell_alloc_lt w _ (hlt t b o h1 hf), frozen_alloc_lt w _ (hlt t b o h1 hf)⟩)
      (fun t b o _ h1 hf hF => Nat.lt_irrefl _ (hF.1 ▸ hlt t b o h1 hf))
      (fun b o v hv => (cell_alloc_lt w _ (block_lt (hg.imm b o v hv))).trans (hg.imm b o v hv))
      (fun t b o _ h1 hf => hg.immApart t b o h1 hf)
      (fun b o hF => ?_)
    · refine ⟨w.heap.size, 0, hx0, fun i x hx => ?_, fun k x hk hx => ?_, fun k s' hk => ?_, fun b' o' hF => ?_⟩
      · simp only [c', Cx.withL, if_true] at hx
        by_cases hi : i = 0
        · exact hi
        · simp [hi] at hx
      · obtain ⟨v, hv, hr⟩ := hl.at_ k x hk
        refine ⟨⟨v, ?_, hr.mono hc⟩, by simp, rfl, ?_⟩
        · simpa using hv
        · have := (List.getElem?_eq_some_iff.1 hk).1; omega
      · rw [List.all_eq_true] at hcell
        have := hcell _ (List.mem_of_getElem? hk)
        cases this
      · obtain ⟨rfl, ho⟩ := hF
        refine ⟨rfl, o', l[o'], by simp, List.getElem?_eq_getElem ho, ?_⟩
        rw [List.all_eq_true] at hcell
        exact hcell _ (List.getElem_mem ho)
    · cases hI : c.I b o with
      | none => exact hI
      | some v =>
        have := block_lt (hg.imm b o v hI)
        rw [hF.1] at this
        exact absurd this (Nat.lt_irrefl _)
  · simp at hsn; simp [fup, hsn]
  · simp at hsn; subst hsn
    simp [fup] at hf
    exact .inl (by rw [hf.1]; exact Nat.le_refl _)
  · simp at hsn; subst hsn; exact .inl (by simp)
end
end Go.Rf
namespace Go.Rf
set_option linter.unusedVariables false
set_option linter.unusedSimpArgs false
variable {U : Univ} {P : Program} {c : Cx} {Φ : Nat → Nat → Nat → Prop} {h : Heap U} {nx : Nat} {w : World}

theorem run_isAgg {t : TypeId} {g : Bool} (hg : agg? P t = some g) (w : World) : (isAgg t).run P w = .ok g w := by
  unfold agg? at hg
  unfold isAgg
  cases hu : P.underlying t with
  | none => simp [hu] at hg
  | some d =>
    rw [Sem.run_bind, run_underlying hu w]
    cases d <;> simp_all

theorem run_sizeOf' {t : TypeId} {n : Nat} (hn : size? P t = some n) (w : World) : (sizeOf t).run P w = .ok n w := by
  unfold size? at hn
  cases hi : P.info? t with
  | none => simp [hi] at hn
  | some i => simp [hi] at hn; simp [sizeOf, typeInfo, hi, hn]

theorem at_add (b o n : Nat) : (at_ b o).add n = at_ b (o + n) := Addr.add_mid b o n

theorem dropT_get {α : Type} {off n k : Nat} {l : List α} {x : α} (hk : (dropT off n l)[k]? = some x) : k < n ∧ l[off + k]? = some x := by
  unfold dropT at hk
  rw [List.getElem?_take] at hk
  split at hk
  · rename_i hkn; rw [List.getElem?_drop] at hk; exact ⟨hkn, hk⟩
  · cases hk

theorem dropT_get' {α : Type} {off n k : Nat} {l : List α} (hk : k < n) : (dropT off n l)[k]? = l[off + k]? := by
  unfold dropT
  rw [List.getElem?_take, if_pos hk, List.getElem?_drop]

theorem getD_of_getElem? {α : Type} {l : List α} {k : Nat} {x d : α} (h : l[k]? = some x) : l.getD k d = x := by
  simp [List.getD, h]

theorem nbeq {a b : Nat} (h : Nat.beq a b = true) : a = b := Nat.eq_of_beq_eq_true h

/-- cells that may be read one by one are a list -/
theorem mkRL {l : List U.S} {f : Nat → Value → Prop} (h : ∀ (k : Nat) x, l[k]? = some x → ∃ v, f k v ∧ R U c x v) :
    ∃ vs, RL U c l vs ∧ ∀ (k : Nat) v, vs[k]? = some v → f k v := by
  induction l generalizing f with
  | nil => exact ⟨[], .nil, fun k v hk => by simp at hk⟩
  | cons x l ih =>
    obtain ⟨v, h1, h2⟩ := h 0 x rfl
    obtain ⟨vs, h3, h4⟩ := ih (f := fun k => f (k + 1)) fun k y hk => h (k + 1) y (by simpa using hk)
    refine ⟨v :: vs, .cons h2 h3, fun k u hk => ?_⟩
    cases k with
    | zero => simp at hk; subst hk; exact h1
    | succ k => simp at hk; exact h4 k u hk

theorem ld_ok (hU : U.Ok) {s i off n b o : Nat} {l : List U.S} (hl : ld h s i off n = some l) (hg : G U c Φ h w) (hL : c.L s i = some (b, o)) :
    ∃ vs, RL U c l vs ∧ l.length = n ∧ w.rangeAt b (o + off) vs := by
  unfold ld at hl
  cases he : get h s with
  | none => simp [he] at hl
  | some e =>
    have hE := hg.ents s e he
    simp only [he] at hl
    have fin : ∀ {m : List U.S}, (bif Nat.beq (dropT off n m).length n && (dropT off n m).all isCell then some (dropT off n m) else none) = some l →
        (∀ (k : Nat) x, m[k]? = some x → isCell x = true → ∃ v, w.cell? (at_ b (o + k)) = some v ∧ R U c x v) → ∃ vs, RL U c l vs ∧ l.length = n ∧ w.rangeAt b (o + off) vs := by
      intro m hm hc
      cases hb : Nat.beq (dropT off n m).length n && (dropT off n m).all isCell with
      | false => simp [hb] at hm
      | true =>
        simp [hb] at hm
        subst hm
        simp only [Bool.and_eq_true] at hb
        have hlen := nbeq hb.1
        obtain ⟨vs, h1, h2⟩ := mkRL (c := c) (l := dropT off n m) (f := fun k v => w.cell? (at_ b (o + off + k)) = some v) fun k x hk => by
          obtain ⟨hkn, hk'⟩ := dropT_get hk
          have := hc (off + k) x hk' (List.all_eq_true.1 hb.2 x (List.mem_of_getElem? hk))
          rwa [show o + (off + k) = o + off + k by omega] at this
        exact ⟨vs, h1, hlen, fun j v hj => h2 j v hj⟩
    cases e with
    | obj cells =>
      obtain ⟨b', o', h0, h1, h2, _, _⟩ := hE
      have hi := h1 i _ hL
      subst hi
      rw [hL] at h0; cases h0
      exact fin hl fun k x hk hx => (h2 k x hk hx).1
    | fam ct u m f =>
      obtain ⟨A, h0, h1, h2, _⟩ := hE
      have hi := h1 i _ hL
      have hA := h0 i hi
      rw [hL] at hA
      simp at hA
      refine fin hl fun k x hk hx => ?_
      have hku : k < U.size u := by
        have := (List.getElem?_eq_some_iff.1 hk).1
        rwa [hU.enc_len] at this
      obtain ⟨v, hv, hr⟩ := (h2 i k hi hku).1
      rw [← hA] at hv
      rw [getD_of_getElem? hk] at hr
      exact ⟨v, hv, hr⟩
    | tok => simp at hl
    | dead => simp at hl

theorem run_loadVar' {t : TypeId} {g : Bool} {n b o : Nat} {l : List U.S} {vs : List Value} {v : A U} (ha : agg? P t = some g) (hn : size? P t = some n)
    (hl : RL U c l vs) (hln : l.length = n) (hr : w.rangeAt b o vs) (hv : asV g l = some v) : ∃ u, (loadVar t (at_ b o)).run P w = .ok u w ∧ RA U c v u := by
  unfold asV at hv
  have hlen : vs.length = n := hl.len.trans hln
  cases g with
  | true =>
    simp at hv
    subst hv
    refine ⟨.agg vs.toArray, ?_, ⟨vs.toArray, rfl, by simpa using hl⟩⟩
    have hlc : (loadCells (at_ b o) n).run P w = .ok vs.toArray w := by
      rw [← hlen]
      exact run_loadCells_list (P := P) w (at_ b o) vs fun j v hj => by rw [at_add]; exact hr j v hj
    simp [loadVar, run_isAgg ha, run_sizeOf' hn, hlc]
  | false =>
    match l, hl, hv with
    | [x], hl, hv =>
      simp at hv
      subst hv
      obtain ⟨u, vs', rfl, h1, h2⟩ := hl.uncons
      refine ⟨u, ?_, h1⟩
      have h0 := hr 0 u rfl
      simp only [Nat.add_zero] at h0
      simp [loadVar, run_isAgg ha, h0]

/-- reading does not hang on the rest of the heap -/
theorem ld_congr {h' : Heap U} {s i off n : Nat} (hs : get h' s = get h s) : ld h' s i off n = ld h s i off n := by unfold ld; rw [hs]
theorem stE_congr {h' : Heap U} {s i off : Nat} {l : List U.S} (hs : get h' s = get h s) : stE h' s i off l = stE h s i off l := by unfold stE; rw [hs]

theorem load_ok (hU : U.Ok) {h' : Heap U} {t : TypeId} {a : A U} {out : Out U} {p : Value} (ho : (opLoad P t a h').outs = some out)
    (hag : ∀ s, s ∈ out.rd ∨ s ∈ out.w.map (·.1) → get h s = get h' s) (hg : G U c Φ h w) (ha : RA U c a p) :
    ∃ u, (Instr.loadAt t p).run P w = .ok u w ∧ RA U c out.v u ∧ out.w = [] ∧ out.nw = 0 := by
  unfold opLoad at ho
  split at ho
  · rename_i g n s i off h1 h2
    split at ho
    · rename_i l hl
      split at ho
      · rename_i v hv
        simp [OpR.outs] at ho
        subst ho
        have hl' : ld h s i off n = some l := by rw [ld_congr (hag s (.inl (by simp)))]; exact hl
        obtain ⟨b, o, hL, hp⟩ : ∃ b o, c.L s i = some (b, o) ∧ p = .pointer (some (at_ b (o + off))) := by
          cases ha with | ptr h0 => exact ⟨_, _, h0, rfl⟩
        subst hp
        obtain ⟨vs, hr, hlen, hrange⟩ := ld_ok hU hl' hg hL
        obtain ⟨u, hu, hru⟩ := run_loadVar' (P := P) h1 h2 hr hlen hrange hv
        exact ⟨u, by simp [Instr.loadAt, Instr.sureAddr, hu], hru, rfl, rfl⟩
      · simp [OpR.outs] at ho
    · simp [OpR.outs] at ho
  · rename_i g n u x off h1 h2
    dsimp only at ho
    cases hb : Nat.beq (dropT off n (U.enc u x)).length n with
    | false => simp [hb, OpR.outs] at ho
    | true =>
      simp only [hb, cond_true] at ho
      split at ho
      · rename_i v hv
        simp [OpR.outs] at ho
        subst ho
        cases ha with
        | @iptr _ _ _ b o g' hi hr =>
          obtain ⟨vs, hr', hrange⟩ := mkRL (c := c) (l := dropT off n (U.enc u x)) (f := fun k v => w.cell? (at_ b (o + off + k)) = some v) fun k y hk => by
            obtain ⟨hkn, hk'⟩ := dropT_get hk
            have hku : off + k < U.size u := by
              have := (List.getElem?_eq_some_iff.1 hk').1
              rwa [hU.enc_len] at this
            refine ⟨g' (off + k), ?_, ?_⟩
            · rw [show o + off + k = o + (off + k) by omega]; exact hg.imm _ _ _ (hi _ hku)
            · have := hr _ hku; rwa [getD_of_getElem? hk'] at this
          obtain ⟨u', hu, hru⟩ := run_loadVar' (P := P) h1 h2 hr' (nbeq hb) (fun j v hj => hrange j v hj) hv
          exact ⟨u', by simp [Instr.loadAt, Instr.sureAddr, hu], hru, rfl, rfl⟩
      · simp [OpR.outs] at ho
  · rename_i n u x h1 h2
    cases hb : Nat.beq n (U.size u) with
    | false => simp [hb, OpR.outs] at ho
    | true =>
      simp only [hb, cond_true] at ho
      cases x with
      | none => cases ho
      | some y =>
        cases ho
        cases ha with
        | @osome _ _ b o g' hi hr =>
          obtain ⟨vs, hr', hrange⟩ := mkRL (c := c) (l := U.enc u y) (f := fun k v => w.cell? (at_ b (o + k)) = some v) fun k z hk => by
            have hku : k < U.size u := by
              have := (List.getElem?_eq_some_iff.1 hk).1
              rwa [hU.enc_len] at this
            refine ⟨g' k, hg.imm _ _ _ (hi _ hku), ?_⟩
            have := hr _ hku; rwa [getD_of_getElem? hk] at this
          obtain ⟨u', hu, hru⟩ := run_loadVar' (P := P) h1 h2 hr' (by rw [hU.enc_len]; exact (nbeq hb).symm) (fun j v hj => hrange j v hj) rfl
          exact ⟨u', by simp [Instr.loadAt, Instr.sureAddr, hu], hru, rfl, rfl⟩
  · simp [OpR.outs] at ho

/-! ### stores -/
theorem splice_len {α : Type} {off : Nat} {new l : List α} (h : off + new.length ≤ l.length) : (splice off new l).length = l.length := by
  unfold splice; simp; omega

theorem splice_in {α : Type} {off k : Nat} {new l : List α} (h : off + new.length ≤ l.length) (hk : k < new.length) : (splice off new l)[off + k]? = new[k]? := by
  unfold splice
  rw [List.append_assoc, List.getElem?_append_right (by simp; omega), List.getElem?_append_left (by simp; omega)]
  congr 1
  simp; omega

theorem splice_out {α : Type} {off k : Nat} {new l : List α} (h : off + new.length ≤ l.length) (hk : k < off ∨ off + new.length ≤ k) : (splice off new l)[k]? = l[k]? := by
  unfold splice
  rcases hk with hk | hk
  · rw [List.append_assoc, List.getElem?_append_left (by simp; omega), List.getElem?_take, if_pos hk]
  · rw [List.getElem?_append_right (by simp; omega), List.getElem?_drop]
    congr 1
    simp; omega

theorem cell_setCells_in {b o : Nat} {vs : List Value} (h : ∀ j, j < vs.length → (w.cell? (at_ b (o + j))).isSome = true) {j : Nat} {v : Value} (hj : vs[j]? = some v) :
    (w.setCells b o vs).cell? (at_ b (o + j)) = some v := by
  obtain ⟨hlt, rfl⟩ := List.getElem?_eq_some_iff.1 hj
  exact World.cell?_setCells_in b vs o w h j hlt

theorem cell_setCells_out {b o b' x : Nat} {vs : List Value} (h : b' = b → x < o ∨ o + vs.length ≤ x) : (w.setCells b o vs).cell? (at_ b' x) = w.cell? (at_ b' x) :=
  World.cell?_setCells_out b vs o w (at_ b' x) fun h1 _ => h h1

theorem size_setCells (b : Nat) : ∀ (vs : List Value) (o : Nat) (w : World), (w.setCells b o vs).heap.size = w.heap.size
  | [], _, _ => rfl
  | v :: r, o, w => by rw [World.setCells, size_setCells b r, World.size_setCell]

theorem shape_setCell (w : World) (a : Addr) (v : Value) (b : Nat) : (w.setCell a v).shape? b = w.shape? b := by
  unfold World.shape? World.setCell
  simp only [Array.getElem?_modify]
  by_cases hb : a.block = b
  · rw [if_pos hb]
    cases w.heap[b]? with
    | none => rfl
    | some o => cases o <;> simp only [Option.map_some] <;> first | rfl | (split <;> simp)
  · rw [if_neg hb]

theorem shape_setCells (b : Nat) : ∀ (vs : List Value) (o : Nat) (w : World) (b' : Nat), (w.setCells b o vs).shape? b' = w.shape? b'
  | [], _, _, _ => rfl
  | v :: r, o, w, b' => by rw [World.setCells, shape_setCells b r, shape_setCell]

theorem obj_setCells (b : Nat) : ∀ (vs : List Value) (o : Nat) (w : World) (b' : Nat), b' ≠ b ∨ vs = [] → (w.setCells b o vs).heap[b']? = w.heap[b']?
  | [], _, _, _, _ => rfl
  | v :: r, o, w, b', hb => by
    have hb : b' ≠ b := by rcases hb with hb | hb; exact hb; cases hb
    rw [World.setCells, obj_setCells b r _ _ _ (.inl hb)]
    unfold World.setCell
    have hb' : ¬ b = b' := fun e => hb e.symm
    simp only [Array.getElem?_modify, if_neg hb']

theorem rest_setCells (b : Nat) : ∀ (vs : List Value) (o : Nat) (w : World), (w.setCells b o vs).os = w.os ∧ (w.setCells b o vs).tape = w.tape ∧ (w.setCells b o vs).output = w.output
  | [], _, _ => ⟨rfl, rfl, rfl⟩
  | v :: r, o, w => by rw [World.setCells]; exact rest_setCells b r _ _

theorem Fr.setCells {F : Nat → Nat → Prop} {b o : Nat} {vs : List Value} (hF : ∀ j, j < vs.length → F b (o + j)) : Fr F w (w.setCells b o vs) where
  size := by rw [size_setCells]; exact Nat.le_refl _
  rest := rest_setCells b vs o w
  cell b' x hb hn := cell_setCells_out fun e => by
    subst e
    by_cases h1 : x < o
    · exact .inl h1
    · by_cases h2 : o + vs.length ≤ x
      · exact .inr h2
      · exact absurd (by have := hF (x - o) (by omega); rwa [show o + (x - o) = x by omega] at this) hn
  frozen b' x hb := World.frozen?_setCells b vs o w _
  shape b' hb := shape_setCells b vs o w b'
  obj b' hb hn := obj_setCells b vs o w b' (by
    by_cases e : b' = b
    · subst e
      right
      cases vs with
      | nil => rfl
      | cons v r => exact absurd (hF 0 (by simp)) (hn _)
    · exact .inl e)

theorem stE_ok (hU : U.Ok) {s i off b o : Nat} {new : List U.S} {vs : List Value} {e : Ent U} (hs : stE h s i off new = some e) (hg : G U c Φ h w) (hL : c.L s i = some (b, o))
    (hr : RL U c new vs) : w.there b (o + off) vs.length ∧ EntOK c (w.setCells b (o + off) vs) s (Φ s) e ∧ (∀ j, j < vs.length → Φ s b (o + off + j)) ∧ (get h s).isSome := by
  unfold stE at hs
  cases he : get h s with
  | none => simp [he] at hs
  | some e0 =>
    have hE := hg.ents s e0 he
    simp only [he] at hs
    cases e0 with
    | obj cells =>
      obtain ⟨b', o', h0, h1, h2, h3, h4⟩ := hE
      have hi := h1 i _ hL
      subst hi
      rw [hL] at h0; cases h0
      dsimp only at hs
      cases hb : Nat.ble (off + new.length) cells.length && (dropT off new.length cells).all isCell && new.all isCell with
      | false => simp [hb] at hs
      | true =>
        simp [hb] at hs
        subst hs
        simp only [Bool.and_eq_true] at hb
        obtain ⟨⟨hb1, hb2⟩, hb3⟩ := hb
        have hlen : off + new.length ≤ cells.length := Nat.le_of_ble_eq_true hb1
        have hvl : vs.length = new.length := hr.len
        have old : ∀ j, j < new.length → ∃ x, cells[off + j]? = some x ∧ isCell x = true := fun j hj => by
          have hlt : off + j < cells.length := by omega
          refine ⟨cells[off + j], List.getElem?_eq_getElem hlt, ?_⟩
          have : (dropT off new.length cells)[j]? = some cells[off + j] := by rw [dropT_get' hj]; exact List.getElem?_eq_getElem hlt
          exact List.all_eq_true.1 hb2 _ (List.mem_of_getElem? this)
        have hth : w.there b (o + off) vs.length := fun j hj => by
          obtain ⟨x, hx, hxc⟩ := old j (by omega)
          obtain ⟨⟨v, hv, _⟩, hf, _⟩ := h2 _ x hx hxc
          rw [show o + (off + j) = o + off + j by omega] at hv hf
          exact ⟨by rw [hv]; rfl, hf⟩
        have hφ : ∀ j, j < vs.length → Φ s b (o + off + j) := fun j hj => by
          obtain ⟨x, hx, hxc⟩ := old j (by omega)
          have := (h2 _ x hx hxc).2.2
          rwa [show o + (off + j) = o + off + j by omega] at this
        refine ⟨hth, ⟨b, o, hL, h1, fun k x hk hx => ?_, fun k s' hk => ?_, fun b' o' hF => ?_⟩, hφ, by simp⟩
        · by_cases hin : off ≤ k ∧ k < off + new.length
          · obtain ⟨j, rfl⟩ : ∃ j, k = off + j := ⟨k - off, by omega⟩
            rw [splice_in hlen (by omega)] at hk
            obtain ⟨v, hv, hrv⟩ := hr.at_ j x hk
            have hj : j < vs.length := by rw [hvl]; omega
            rw [show o + (off + j) = o + off + j by omega]
            exact ⟨⟨v, cell_setCells_in (fun j hj => (hth j hj).1) hv, hrv⟩, (World.frozen?_setCells b vs (o + off) w _).trans (hth j hj).2, hφ j hj⟩
          · rw [splice_out hlen (by omega)] at hk
            obtain ⟨⟨v, hv, hrv⟩, hf, hF⟩ := h2 k x hk hx
            exact ⟨⟨v, (cell_setCells_out fun _ => by rw [hvl]; omega).trans hv, hrv⟩, (World.frozen?_setCells b vs (o + off) w _).trans hf, hF⟩
        · by_cases hin : off ≤ k ∧ k < off + new.length
          · obtain ⟨j, rfl⟩ : ∃ j, k = off + j := ⟨k - off, by omega⟩
            rw [splice_in hlen (by omega)] at hk
            have := List.all_eq_true.1 hb3 _ (List.mem_of_getElem? hk)
            cases this
          · rw [splice_out hlen (by omega)] at hk
            exact h3 k s' hk
        · obtain ⟨rfl, k, x, rfl, hk, hx⟩ := h4 b' o' hF
          refine ⟨rfl, k, ?_⟩
          by_cases hin : off ≤ k ∧ k < off + new.length
          · obtain ⟨j, rfl⟩ : ∃ j, k = off + j := ⟨k - off, by omega⟩
            have hlt : j < new.length := by omega
            refine ⟨new[j], rfl, by rw [splice_in hlen hlt]; exact List.getElem?_eq_getElem hlt, List.all_eq_true.1 hb3 _ (List.getElem_mem hlt)⟩
          · exact ⟨x, rfl, by rw [splice_out hlen (by omega)]; exact hk, hx⟩
    | fam ct u m f =>
      obtain ⟨A, h0, h1, h2, h3, h4, h5⟩ := hE
      have him := h1 i _ hL
      have hA := h0 i him
      rw [hL] at hA
      simp at hA
      dsimp only at hs
      cases hb : Nat.ble (off + new.length) (U.enc u (f i)).length && new.all isCell with
      | false => simp [hb] at hs
      | true =>
        simp only [hb, cond_true] at hs
        split at hs
        · rename_i x hx
          simp at hs
          subst hs
          simp only [Bool.and_eq_true] at hb
          have hlen : off + new.length ≤ (U.enc u (f i)).length := Nat.le_of_ble_eq_true hb.1
          have hlen' : off + new.length ≤ U.size u := by rw [hU.enc_len] at hlen; exact hlen
          have hvl : vs.length = new.length := hr.len
          have hA1 : (A i).1 = b := by rw [← hA]
          have hA2 : (A i).2 = o := by rw [← hA]
          have hth : w.there b (o + off) vs.length := fun j hj => by
            obtain ⟨⟨v, hv, _⟩, hf, _⟩ := h2 i (off + j) him (by omega)
            rw [hA1, hA2, show o + (off + j) = o + off + j by omega] at hv hf
            exact ⟨by rw [hv]; rfl, hf⟩
          have hφ : ∀ j, j < vs.length → Φ s b (o + off + j) := fun j hj => by
            have := (h2 i (off + j) him (by omega)).2.2
            rwa [hA1, hA2, show o + (off + j) = o + off + j by omega] at this
          have hcell : ∀ k, k < U.size u → ∃ v, (w.setCells b (o + off) vs).cell? (at_ b (o + k)) = some v ∧ ∀ y, (splice off new (U.enc u (f i)))[k]? = some y → R U c y v := fun k hk => by
            by_cases hin : off ≤ k ∧ k < off + new.length
            · obtain ⟨j, rfl⟩ : ∃ j, k = off + j := ⟨k - off, by omega⟩
              have hj : j < new.length := by omega
              obtain ⟨v, hv, hrv⟩ := hr.at_ j new[j] (List.getElem?_eq_getElem hj)
              rw [show o + (off + j) = o + off + j by omega]
              refine ⟨v, cell_setCells_in (fun j hj => (hth j hj).1) hv, fun y hy => ?_⟩
              rw [splice_in hlen hj, List.getElem?_eq_getElem hj] at hy
              cases hy; exact hrv
            · obtain ⟨⟨v, hv, hrv⟩, hf, hF⟩ := h2 i k him hk
              rw [hA1, hA2] at hv
              refine ⟨v, (cell_setCells_out fun _ => by rw [hvl]; omega).trans hv, fun y hy => ?_⟩
              rw [splice_out hlen (by omega)] at hy
              rwa [getD_of_getElem? hy] at hrv
          obtain ⟨vs', hr', hat⟩ := mkRL (c := c) (l := splice off new (U.enc u (f i))) (f := fun k v => (w.setCells b (o + off) vs).cell? (at_ b (o + k)) = some v) fun k y hk => by
            have hku : k < U.size u := by
              have := (List.getElem?_eq_some_iff.1 hk).1
              rwa [splice_len hlen, hU.enc_len] at this
            obtain ⟨v, hv, hry⟩ := hcell k hku
            exact ⟨v, hv, hry y hk⟩
          have hr'' := hU.dec_le u _ x hx c vs' hr'
          refine ⟨hth, ⟨A, h0, h1, fun j k hj hk => ?_, h3, h4, h5⟩, hφ, by simp⟩
          by_cases hji : j = i
          · subst hji
            rw [hA1, hA2]
            have hlt : k < (U.enc u x).length := by rw [hU.enc_len]; exact hk
            obtain ⟨v, hv, hrv⟩ := hr''.at_ k _ (List.getElem?_eq_getElem hlt)
            obtain ⟨_, hf, hF⟩ := h2 j k hj hk
            rw [hA1, hA2] at hf hF
            refine ⟨⟨v, hat k v hv, ?_⟩, (World.frozen?_setCells b vs (o + off) w _).trans hf, hF⟩
            simp only [fset, if_true]
            rw [getD_of_getElem? (List.getElem?_eq_getElem hlt)]
            exact hrv
          · obtain ⟨⟨v, hv, hrv⟩, hf, hF⟩ := h2 j k hj hk
            refine ⟨⟨v, ?_, by simp only [fset, if_neg hji]; exact hrv⟩, (World.frozen?_setCells b vs (o + off) w _).trans hf, hF⟩
            refine (cell_setCells_out fun e => ?_).trans hv
            by_cases h6 : (A j).2 + k < o + off
            · exact .inl h6
            · by_cases h7 : o + off + vs.length ≤ (A j).2 + k
              · exact .inr h7
              · have := h4 j i k ((A j).2 + k - o) hj him hk (by omega) (by rw [e, hA1]) (by rw [hA2]; omega)
                exact absurd this.1 hji
        · simp at hs
    | tok => simp at hs
    | dead => simp at hs

theorem run_storeVar' {t : TypeId} {n b o : Nat} {x : V U} {v : Value} (hn : size? P t = some n) (hv : RV U c x v) (hln : x.l.length = n) (ht : w.there b o n) :
    (storeVar t (at_ b o) v).run P w = .ok () (w.setCells b o v.cells.toList) := by
  have hr := hv.cells
  have hlen : v.cells.toList.length = n := hr.len.trans hln
  have hst := run_storeCells_cells (P := P) b o v.cells.toList 0 w (fun j hj => by simpa using (ht j (by omega)).1) (fun j hj => by simpa using (ht j (by omega)).2) hr.one
  simp only [Nat.add_zero] at hst
  have hsz : v.cells.size = n := by simpa using hlen
  simp [storeVar, run_sizeOf' hn, hsz, hst]

theorem store_ok (hU : U.Ok) {h' : Heap U} {t : TypeId} {a x : A U} {out : Out U} {p v : Value} (ho : (opStore P t a x h').outs = some out)
    (hag : ∀ s, s ∈ out.rd ∨ s ∈ out.w.map (·.1) → get h s = get h' s) (hg : G U c Φ h w) (ha : RA U c a p) (hx : RA U c x v) :
    ∃ w' c' Φ', (Instr.storeAt t p v).run P w = .ok () w' ∧ Step1 U c Φ h nx out w c' Φ' undef w' := by
  unfold opStore at ho
  split at ho
  · rename_i n s i off x hn
    cases hb : Nat.beq x.l.length n with
    | false => simp [hb, OpR.outs] at ho
    | true =>
      simp only [hb, cond_true] at ho
      split at ho
      · rename_i e he
        simp [OpR.outs] at ho
        subst ho
        have he' : stE h s i off x.l = some e := by rw [stE_congr (hag s (.inr (by simp)))]; exact he
        obtain ⟨b, o, hL, hp⟩ : ∃ b o, c.L s i = some (b, o) ∧ p = .pointer (some (at_ b (o + off))) := by
          cases ha with | ptr h0 => exact ⟨_, _, h0, rfl⟩
        subst hp
        obtain ⟨hth, hE, hφ, hsome⟩ := stE_ok hU he' hg hL (RV.cells hx)
        have hlen : v.cells.toList.length = n := (RV.cells hx).len.trans (nbeq hb)
        rw [hlen] at hth
        have hrun := run_storeVar' (P := P) hn hx (nbeq hb) hth
        refine ⟨_, c, fup Φ s (Φ s), by simp [Instr.storeAt, Instr.sureAddr]; exact hrun, ?_⟩
        have hout : ∀ t b' o', t ≠ s → (get h t).isSome → Φ t b' o' → b' = b → o' < o + off ∨ o + off + v.cells.toList.length ≤ o' := fun t b' o' hts h1 hf e => by
          subst e
          by_cases h2 : o' < o + off
          · exact .inl h2
          · by_cases h3 : o + off + v.cells.toList.length ≤ o'
            · exact .inr h3
            · have := hφ (o' - (o + off)) (by omega)
              rw [show o + off + (o' - (o + off)) = o' by omega] at this
              exact absurd this (hg.apart t s b' o' hts h1 hsome hf)
        refine { le := .refl c, L := fun _ _ _ => rfl, val := RA.undef, g := ?_, fr := ?_, foot := fun t ht => ?_, footw := fun t b' o' ht hf => ?_, names := fun t ht => ?_, inew := fun _ _ _ h => .inl h }
        · refine hg.put (.refl c) (fun _ _ _ => rfl) hE (fun t b' o' hts h1 hf => ⟨cell_setCells_out (hout t b' o' hts h1 hf), World.frozen?_setCells _ _ _ _ _⟩)
            (fun t b' o' hts h1 hf => hg.apart t s b' o' hts h1 hsome hf) (fun b' o' u hu => ?_) (fun t b' o' _ h1 hf => hg.immApart t b' o' h1 hf) (fun b' o' hf => hg.immApart s b' o' hsome hf)
          refine (cell_setCells_out fun e => ?_).trans (hg.imm b' o' u hu)
          subst e
          by_cases h2 : o' < o + off
          · exact .inl h2
          · by_cases h3 : o + off + v.cells.toList.length ≤ o'
            · exact .inr h3
            · have := hφ (o' - (o + off)) (by omega)
              rw [show o + off + (o' - (o + off)) = o' by omega] at this
              have := hg.immApart s b' o' hsome this
              rw [hu] at this; cases this
        · exact Fr.setCells fun j hj => ⟨s, by simp, hsome, hφ j hj⟩
        · simp at ht; simp [fup, ht]
        · simp at ht; subst ht
          simp [fup] at hf
          exact .inr ⟨t, by simp, hsome, hf⟩
        · simp at ht; subst ht; exact .inr hsome
      · simp [OpR.outs] at ho
  · simp [OpR.outs] at ho
end Go.Rf
namespace Go.Rf
set_option linter.unusedVariables false
set_option linter.unusedSimpArgs false
variable {U : Univ} {P : Program} {c : Cx} {Φ : Nat → Nat → Nat → Prop} {h : Heap U} {nx : Nat} {w : World}

/-- an operation that only reads yields this -/
def Quiet (U : Univ) (c : Cx) (w : World) (P : Program) (s : Sem Value) (out : Out U) : Prop :=
  ∃ u, s.run P w = .ok u w ∧ RA U c out.v u ∧ out.w = [] ∧ out.nw = 0

theorem outs_one {x : U.S} {out : Out U} (ho : (one x).outs = some out) : out = { v := Rf.sc x } := by
  simp [one, OpR.outs] at ho; exact ho.symm

theorem pureRun_ok {α : Type} {s : Sem α} {a : α} (hs : pureRun P s = some a) (w : World) : s.run P w = .ok a w := by
  induction s generalizing w with
  | pure b => simp [pureRun] at hs; subst hs; rfl
  | program k ih => simp only [pureRun] at hs; exact ih P hs w
  | mark m k ih => simp only [pureRun] at hs; exact ih hs w
  | _ => simp [pureRun] at hs

theorem fieldAddr_ok {t f : Nat} {a : A U} {out : Out U} {p : Value} (ho : (opFieldAddr P t a f).outs = some out) (ha : RA U c a p) :
    Quiet U c w P (Instr.fieldAt t p f) out := by
  unfold opFieldAddr at ho
  have key : ∀ o, fieldOff P t f = some o → ∀ b x, (Instr.fieldAt t (.pointer (some (at_ b x))) f).run P w = .ok (.pointer (some (at_ b (x + o)))) w := by
    intro o hf b x
    unfold fieldOff at hf
    split at hf
    · rename_i fs hfs
      split at hf
      · rename_i fl hfl
        split at hf
        · rename_i i hi
          cases hz : Nat.beq i.size 0 with
          | true => simp [hz] at hf
          | false =>
            simp [hz] at hf
            have hz' : i.size ≠ 0 := fun e => by rw [e] at hz; cases hz
            have hsz : (sizeOf fl.type).run P w = .ok i.size w := run_sizeOf' (by simp [size?, hi]) w
            simp [Instr.fieldAt, run_underlying hfs, hfl, Instr.sureAddr, fieldPlace, hsz, hz', at_add, hf]
        · cases hf
      · cases hf
    · cases hf
  split at ho
  · rename_i o s i off hf
    rw [outs_one ho]
    cases ha with
    | @ptr _ _ _ b x h0 =>
      refine ⟨_, key o hf _ _, ?_, rfl, rfl⟩
      rw [Nat.add_assoc]
      exact R.ptr h0
  · rename_i o u x off hf
    rw [outs_one ho]
    cases ha with
    | iptr g hi hr =>
      refine ⟨_, key o hf _ _, ?_, rfl, rfl⟩
      rw [Nat.add_assoc]
      exact R.iptr g hi hr
  · rename_i o u x hf
    cases x with
    | none => cases ho
    | some y =>
      cases ho
      cases ha with
      | osome g hi hr => exact ⟨_, key o hf _ _, R.iptr g hi hr, rfl, rfl⟩
  · simp [OpR.outs] at ho

theorem nil_ok {a : A U} {out : Out U} {p : Value} (ho : (opNil a).outs = some out) (ha : RA U c a p) :
    out.w = [] ∧ out.nw = 0 ∧ RA U c out.v p ∧ ∃ x, p = .pointer (some x) := by
  unfold opNil at ho
  split at ho
  · rw [outs_one ho]
    refine ⟨rfl, rfl, ha, ?_⟩
    cases ha with | ptr h0 => exact ⟨_, rfl⟩
  · rw [outs_one ho]
    refine ⟨rfl, rfl, ha, ?_⟩
    cases ha with | iptr g hi hr => exact ⟨_, rfl⟩
  · rename_i u x
    cases x with
    | none => cases ho
    | some y =>
      cases ho
      cases ha with
      | osome g hi hr => exact ⟨rfl, rfl, R.iptr (off := 0) g hi hr, _, rfl⟩
  · simp [OpR.outs] at ho

theorem asV_ok {g : Bool} {l : List U.S} {v : A U} {vs : List Value} (hv : asV g l = some v) (hl : RL U c l vs) :
    RA U c v (if g then .agg vs.toArray else vs.headD undef) := by
  unfold asV at hv
  cases g with
  | true => simp at hv; subst hv; exact ⟨vs.toArray, rfl, by simpa using hl⟩
  | false =>
    match l, hl, hv with
    | [x], hl, hv =>
      simp at hv; subst hv
      obtain ⟨u, vs', rfl, h1, h2⟩ := hl.uncons
      exact h1

theorem RL.dropT {l : List U.S} {vs : List Value} (hl : RL U c l vs) (off n : Nat) : RL U c (Rf.dropT off n l) (Rf.dropT off n vs) := (hl.drop off).take n

theorem run_part' {t : TypeId} {g : Bool} {off n : Nat} {l : List U.S} {vs : List Value} {v : A U} (ha : agg? P t = some g) (hn : size? P t = some n) (hl : RL U c l vs)
    (hlen : g = true → (dropT off n l).length = n) (hv : asV g (dropT off (bif g then n else 1) l) = some v) : ∃ u, (part t vs.toArray off).run P w = .ok u w ∧ RA U c v u := by
  have hr := asV_ok hv (hl.dropT off (bif g then n else 1))
  refine ⟨_, ?_, hr⟩
  cases g with
  | true =>
    simp only [if_true, cond_true]
    have : (vs.toArray.extract off (off + n)) = (dropT off n vs).toArray := by
      simp [dropT, List.extract_eq_take_drop]
    simp only [part, Sem.run_bind, run_isAgg ha, Result.andThen_ok, if_true, run_sizeOf' hn, Sem.run_pure, this]
  | false =>
    simp only [cond_false, Bool.false_eq_true, if_false]
    match hd : dropT off 1 l, hv with
    | [x], hv =>
      have h0 : (dropT off 1 l)[0]? = some x := by rw [hd]; rfl
      have h1 := (dropT_get h0).2
      obtain ⟨u, hu, _⟩ := hl.at_ off x (by simpa using h1)
      have h2 : dropT off 1 vs = [u] := by
        have hlt : off < vs.length := (List.getElem?_eq_some_iff.1 hu).1
        unfold dropT
        rw [List.drop_eq_getElem_cons hlt]
        have := (List.getElem?_eq_some_iff.1 hu).2
        simp [this]
      simp [part, run_isAgg ha, hu, h2]

theorem field_ok {t f : Nat} {a : A U} {out : Out U} {p : Value} (ho : (opField P t a f).outs = some out) (ha : RA U c a p) :
    Quiet U c w P (Instr.field t p f) out := by
  unfold opField at ho
  split at ho
  · rename_i o ft l hf
    split at ho
    · rename_i g n hg hn
      dsimp only at ho
      obtain ⟨cs, rfl, hl⟩ := ha
      cases hb : g && !Nat.beq (dropT o (bif g then n else 1) l).length n with
      | true => simp [hb, OpR.outs] at ho
      | false =>
        simp only [hb, cond_false] at ho
        split at ho
        · rename_i v hv
          simp [OpR.outs] at ho
          subst ho
          have hlen : g = true → (dropT o n l).length = n := fun e => by
            subst e
            simp at hb
            exact nbeq (by simpa using hb)
          obtain ⟨u, hu, hr⟩ := run_part' (P := P) (w := w) hg hn hl hlen hv
          refine ⟨u, ?_, hr, rfl, rfl⟩
          unfold fieldAt at hf
          split at hf
          · rename_i fs hfs
            cases hfl : fs[f]? with
            | none => simp [hfl] at hf
            | some fl =>
              simp [hfl] at hf
              obtain ⟨rfl, rfl⟩ := hf
              simp [Instr.field, run_underlying hfs, hfl, asAgg, hu]
          · cases hf
        · simp [OpR.outs] at ho
    · simp [OpR.outs] at ho
  · simp [OpR.outs] at ho

theorem extract_ok {a : A U} {i : Nat} {out : Out U} {p : Value} (ho : (opExtract a i).outs = some out) (ha : RA U c a p) :
    Quiet U c w P (Instr.extract p i) out := by
  unfold opExtract at ho
  split at ho
  · rename_i xs
    obtain ⟨vs, rfl, hlen, hat⟩ := ha
    split at ho
    · rename_i v hv
      simp [OpR.outs] at ho
      subst ho
      obtain ⟨u, hu, hr⟩ := hat i v hv
      exact ⟨u, by simp [Instr.extract, hu], hr, rfl, rfl⟩
    · simp [OpR.outs] at ho
  · simp [OpR.outs] at ho

/-! ### new objects -/
theorem nilOf_ok {t : TypeId} {v : Value} (hv : okV v = true) : R U c (nilOf (U := U) P t v) v := by
  unfold nilOf
  split
  · split
    · split
      · rename_i u _
        exact R.isl (xs := []) (b := 0) (o := 0) (fun _ _ => undef) (Nat.le_refl _) (by rfl) (fun hh => by simp at hh) (fun i k hi => by simp at hi) (fun i k hi => by simp at hi)
      · exact .val hv
    · exact .val hv
  · exact .val hv

theorem run_zeroValue' {t : TypeId} {i : TypeInfo} {z : Value} (hi : P.info? t = some i) (hz : i.zero = some z) (w : World) : (zeroValue t).run P w = .ok z w := by
  simp [zeroValue, typeInfo, hi, hz]

theorem zeroCells_ok {t : TypeId} {l : List U.S} (hz : zeroCells (U := U) P t = some l) :
    ∃ z, (∀ w, (zeroValue t).run P w = .ok z w) ∧ RL U c l z.cells.toList := by
  unfold zeroCells at hz
  split at hz
  · rename_i i hi
    split at hz
    · rename_i z hzz
      simp only [Option.ite_none_right_eq_some, Option.some.injEq] at hz
      obtain ⟨hall, rfl⟩ := hz
      refine ⟨z, run_zeroValue' hi hzz, by simp, fun k x hk => ?_⟩
      rw [List.getElem?_map] at hk
      cases hzk : z.cells.toList.zipIdx[k]? with
      | none => rw [hzk] at hk; simp at hk
      | some p =>
        rw [hzk] at hk
        obtain ⟨v, j⟩ := p
        simp at hk
        subst hk
        rw [List.getElem?_zipIdx] at hzk
        cases hv : z.cells.toList[k]? with
        | none => rw [hv] at hzk; simp at hzk
        | some v' =>
          rw [hv] at hzk
          simp at hzk
          obtain ⟨rfl, rfl⟩ := hzk
          exact ⟨v', rfl, nilOf_ok (List.all_eq_true.1 hall _ (List.mem_of_getElem? hv))⟩
    · cases hz
  · cases hz

theorem alloc_ok {t : TypeId} {out : Out U} (ho : (opAlloc (U := U) P nx t).outs = some out) (hg : G U c Φ h w) (hs : ∀ i, c.L nx i = none) (hn : get h nx = none) :
    ∃ u w' c' Φ', (Instr.alloc t true (.tuple #[])).run P w = .ok u w' ∧ Step1 U c Φ h nx out w c' Φ' u w' := by
  unfold opAlloc at ho
  split at ho
  · rename_i l hl
    simp [OpR.outs] at ho
    subst ho
    obtain ⟨z, hz, hr⟩ := zeroCells_ok (c := c) hl
    obtain ⟨c', Φ', hs1⟩ := Step1.obj (t := t) hg hr hs hn
    refine ⟨_, _, c', Φ', ?_, hs1⟩
    simp [Instr.alloc, hz, newVar, newRow, World.alloc_eq]
  · simp [OpR.outs] at ho

theorem box_ok {t : TypeId} {a : A U} {out : Out U} {v : Value} (ho : (opBox nx a).outs = some out) (ha : RA U c a v) (hg : G U c Φ h w) (hs : ∀ i, c.L nx i = none) (hn : get h nx = none) :
    ∃ u w' c' Φ', (Instr.box t v).run P w = .ok u w' ∧ Step1 U c Φ h nx out w c' Φ' u w' := by
  unfold opBox at ho
  split at ho
  · rename_i x
    cases hb : x.l.all isCell with
    | false => simp [hb, OpR.outs] at ho
    | true =>
      simp [hb, OpR.outs] at ho
      subst ho
      obtain ⟨c', Φ', hs1⟩ := Step1.obj (t := t) hg (RV.cells ha) hs hn
      refine ⟨_, _, c', Φ', ?_, hs1⟩
      simp [Instr.box, newVar, newRow, World.alloc_eq]
  · simp [OpR.outs] at ho
end Go.Rf
namespace Go.Rf
set_option linter.unusedVariables false
set_option linter.unusedSimpArgs false
variable {U : Univ} {P : Program} {c : Cx} {Φ : Nat → Nat → Nat → Prop} {h : Heap U} {nx : Nat} {w : World}

theorem outs_chk {b : Bool} {o out : Out U} (ho : (OpR.chk b o).outs = some out) : b = true ∧ out = o := by
  cases b <;> simp [OpR.outs] at ho
  exact ⟨rfl, ho.symm⟩
theorem outs_ok {o out : Out U} (ho : (OpR.ok o).outs = some out) : out = o := by
  simp [OpR.outs] at ho; exact ho.symm
theorem outs_fail {out : Out U} (ho : (OpR.fail : OpR U).outs = some out) : False := by simp [OpR.outs] at ho

theorem eqGuard_int {op : BinOp} {t : TypeId} {x y : Operand} {j k : IntKind} {a b : Int} : eqGuard op t x y (.int j a) (.int k b) = pure () := by
  cases op <;> rfl

theorem opInt_ok {op : BinOp} {t : TypeId} {k : IntKind} {a b : Int} (ha : okV (.int k a) = true) {out : Out U} (ho : (opInt (U := U) op k a b).outs = some out) :
    ∃ v, (Go.binOp op t (.int k a) (.int k b)).run P w = .ok v w ∧ okV v = true ∧ out = { v := scv v } := by
  cases op <;> simp only [opInt] at ho
  case quo =>
    obtain ⟨hb, rfl⟩ := outs_chk ho
    have hb' : b ≠ 0 := by simpa [ine] using hb
    exact ⟨_, by simp [Go.binOp, Op.intDiv, hb'] <;> rfl, okV_wrap _ _, rfl⟩
  case rem =>
    obtain ⟨hb, rfl⟩ := outs_chk ho
    have hb' : b ≠ 0 := by simpa [ine] using hb
    refine ⟨_, by simp [Go.binOp, Op.intDiv, hb']; rfl, ?_, rfl⟩
    by_cases hk : k = .u8
    · subst hk
      have h1 := u8_okV ha
      obtain ⟨n, rfl⟩ := Int.eq_ofNat_of_zero_le h1.1
      have h2 : ∃ m : Nat, irem (n : Int) b = (m : Int) ∧ m ≤ n := by
        cases b with
        | ofNat m => exact ⟨n % m, rfl, Nat.mod_le _ _⟩
        | negSucc m => exact ⟨n % (m + 1), rfl, Nat.mod_le _ _⟩
      obtain ⟨m, h3, h4⟩ := h2
      rw [h3]
      exact okV_u8 (by omega)
    · exact okV_int hk _
  case shl => exact (outs_fail ho).elim
  case shr => exact (outs_fail ho).elim
  all_goals
    have := outs_ok ho
    subst this
    refine ⟨_, ?_, ?_, rfl⟩
    · unfold Go.binOp; simp only [ne_eq, not_true_eq_false, if_false]; rfl
    · first | rfl | exact okV_wrap _ _

theorem opShift_ok {op : BinOp} {t : TypeId} {j k : IntKind} {a b : Int} (ha : okV (.int k a) = true) {out : Out U} (ho : (opShift (U := U) op k a b).outs = some out) :
    ∃ v, (Go.binOp op t (.int k a) (.int j b)).run P w = .ok v w ∧ okV v = true ∧ out = { v := scv v } := by
  unfold opShift at ho
  split at ho
  · obtain ⟨hb, rfl⟩ := outs_chk ho
    have hb' : ¬ b < 0 := by simpa [ile] using hb
    exact ⟨_, by simp [Go.binOp, Op.shift, hb'] <;> rfl, okV_wrap _ _, rfl⟩
  · obtain ⟨hb, rfl⟩ := outs_chk ho
    have hb' : ¬ b < 0 := by simpa [ile] using hb
    refine ⟨_, by simp [Go.binOp, Op.shift, hb']; rfl, ?_, rfl⟩
    by_cases hk : k = .u8
    · subst hk
      have h1 := u8_okV ha
      have hp : (0 : Int) < 2 ^ (min b.toNat IntKind.u8.bits) := Int.pow_pos (by decide)
      have e : ishr .u8 a b = a / 2 ^ (min b.toNat IntKind.u8.bits) := by unfold ishr; rw [Int.fdiv_eq_ediv_of_nonneg _ (by omega)]
      have h2 : 0 ≤ ishr .u8 a b := by rw [e]; exact Int.ediv_nonneg h1.1 (by omega)
      have h3 : ishr .u8 a b ≤ a := by rw [e]; exact Int.ediv_le_self _ h1.1
      exact okV_u8 ⟨h2, by omega⟩
    · exact okV_int hk _
  · exact (outs_fail ho).elim

theorem R.int {k : IntKind} {n : Int} {v : Value} (hr : R U c (.val (.int k n)) v) : v = .int k n := by cases hr; rfl
theorem R.valEq {x v : Value} (hr : R U c (.val x) v) : v = x := by cases hr; rfl

/-! equality by the type -/
def valOf (g : Bool) (vs : List Value) : Value := if g then .agg vs.toArray else vs.headD undef

theorem run_part_val {t : TypeId} {g : Bool} {off n : Nat} {vs : List Value} (ha : agg? P t = some g) (hn : size? P t = some n) (hlen : g = false → off < vs.length) :
    (part t vs.toArray off).run P w = .ok (valOf g (dropT off (bif g then n else 1) vs)) w := by
  cases g with
  | true =>
    have : (vs.toArray.extract off (off + n)) = (dropT off n vs).toArray := by simp [dropT, List.extract_eq_take_drop]
    simp only [part, Sem.run_bind, run_isAgg ha, Result.andThen_ok, if_true, run_sizeOf' hn, Sem.run_pure, this, valOf, cond_true]
  | false =>
    have hlt := hlen rfl
    have h2 : dropT off 1 vs = [vs[off]] := by
      unfold dropT
      rw [List.drop_eq_getElem_cons hlt]
      rfl
    simp [part, run_isAgg ha, hlt, h2, valOf]

theorem agg_struct {t : TypeId} {fs : Array Field} (h : P.underlying t = some (.struct fs)) : agg? P t = some true := by simp [agg?, h]

theorem eqS_ok : ∀ (d : Nat) (t : TypeId) (xs ys : List U.S) (b : Bool), eqS P d t xs ys = some b → ∀ (vs us : List Value) (g : Bool), agg? P t = some g → RL U c xs vs → RL U c ys us →
    ∀ d', d ≤ d' → (Op.equalIn d' t (valOf g vs) (valOf g us)).run P w = .ok b w
  | 0, t, xs, ys, b, hb => by simp [eqS] at hb
  | d + 1, t, xs, ys, b, hb => by
    intro vs us g hg hx hy d' hd
    obtain ⟨d', rfl⟩ : ∃ e, d' = e + 1 := ⟨d' - 1, by omega⟩
    have hF : ∀ (fs : List Field) (b : Bool), eqF P (eqS P d) fs xs ys = some b → (Op.eqFields d' vs.toArray us.toArray fs).run P w = .ok b w := by
      intro fs
      induction fs with
      | nil => intro b hb; simp [eqF] at hb; subst hb; rfl
      | cons f r ih =>
        intro b hb
        simp only [eqF] at hb
        cases hn : f.name == "_" with
        | true => simp [hn] at hb
        | false =>
          simp only [hn, cond_false] at hb
          split at hb
          · rename_i g' i hg' hi
            split at hb
            · rename_i a b' ha hb'
              simp at hb
              subst hb
              have hsz : size? P f.type = some i.size := by simp [size?, hi]
              have hxl : g' = false → f.offset < vs.length := fun e => by
                subst e
                rcases Nat.lt_or_ge f.offset xs.length with h' | h'
                · rw [hx.len]; exact h'
                · exfalso
                  have h0 : dropT f.offset (bif false then i.size else 1) xs = [] := by simp [dropT, List.drop_eq_nil_of_le h']
                  rw [h0] at ha
                  cases d <;> simp [eqS] at ha
                  split at ha <;> simp_all [agg?]
              have hyl : g' = false → f.offset < us.length := fun e => by
                subst e
                rcases Nat.lt_or_ge f.offset ys.length with h' | h'
                · rw [hy.len]; exact h'
                · exfalso
                  have h0 : dropT f.offset (bif false then i.size else 1) ys = [] := by simp [dropT, List.drop_eq_nil_of_le h']
                  rw [h0] at ha
                  cases d <;> simp [eqS] at ha
                  split at ha <;> simp_all [agg?]
              have h1 := run_part_val (P := P) (w := w) hg' hsz hxl
              have h2 := run_part_val (P := P) (w := w) hg' hsz hyl
              have h3 := eqS_ok d f.type _ _ a ha _ _ g' hg' (hx.dropT f.offset (bif g' then i.size else 1)) (hy.dropT f.offset (bif g' then i.size else 1)) d' (by omega)
              have hne : f.name ≠ "_" := by simpa using hn
              simp only [Op.eqFields, Sem.run_ite, if_pos hne, Sem.run_bind, h1, h2, Result.andThen_ok, h3]
              cases a
              · simp
              · simp [ih b' hb']
            · cases hb
          · cases hb
    unfold eqS at hb
    split at hb
    · rename_i fs hfs
      cases hst : P.stoodInHeld t with
      | true => simp [hst] at hb
      | false =>
        simp only [hst, cond_false] at hb
        have hga : g = true := by rw [agg_struct hfs] at hg; exact (Option.some.inj hg).symm
        subst hga
        have hfo : P.fieldsOf t = fs := by simp [Program.fieldsOf, hfs]
        rw [show valOf true vs = .agg vs.toArray from rfl, show valOf true us = .agg us.toArray from rfl]
        rw [run_equalIn_struct w d' t _ _ (by rw [hfo]; exact hfs) hst, hfo]
        exact hF fs.toList b hb
    · rename_i k hk
      split at hb
      · rename_i j a k' b'
        have hga : g = false := by simp [agg?, hk] at hg; exact hg
        subst hga
        obtain ⟨v, _, rfl, h1, h2⟩ := hx.uncons
        obtain ⟨u, _, rfl, h3, h4⟩ := hy.uncons
        cases R.int h1; cases R.int h3
        by_cases hjk : j = k'
        · simp [hjk] at hb; subst hb
          simp only [valOf, Bool.false_eq_true, if_false, List.headD_cons, hjk]
          exact run_equalIn_int w d' t k' k a b' hk
        · simp [hjk] at hb
      · cases hb
    · rename_i hk
      split at hb
      · rename_i a b'
        have hga : g = false := by simp [agg?, hk] at hg; exact hg
        subst hga
        obtain ⟨v, _, rfl, h1, h2⟩ := hx.uncons
        obtain ⟨u, _, rfl, h3, h4⟩ := hy.uncons
        cases R.valEq h1; cases R.valEq h3
        simp at hb; subst hb
        simp only [valOf, Bool.false_eq_true, if_false, List.headD_cons]
        exact run_equalIn_bool' w d' t a b' hk
      · cases hb
    · rename_i hk
      split at hb
      · rename_i a b'
        have hga : g = false := by simp [agg?, hk] at hg; exact hg
        subst hga
        obtain ⟨v, _, rfl, h1, h2⟩ := hx.uncons
        obtain ⟨u, _, rfl, h3, h4⟩ := hy.uncons
        cases R.valEq h1; cases R.valEq h3
        simp at hb; subst hb
        simp only [valOf, Bool.false_eq_true, if_false, List.headD_cons]
        rw [run_equalIn_string w d' t a b' hk, strEq, ByteArray.toList_eq, ByteArray.toList_eq]
      · cases hb
    · cases hb
end Go.Rf
namespace Go.Rf
set_option linter.unusedVariables false
set_option linter.unusedSimpArgs false
variable {U : Univ} {P : Program} {c : Cx} {Φ : Nat → Nat → Nat → Prop} {h : Heap U} {nx : Nat} {w : World}

theorem eqGuard_plain {op : BinOp} {t : TypeId} {x y : Operand} {a b : Value} (ha : plainV a = true) : eqGuard op t x y a b = pure () := by
  cases op <;> first | rfl | (cases a <;> first | (simp [plainV] at ha; done) | (cases b <;> rfl))

theorem run_equalIn_ptr_nil (d : Nat) {t e : TypeId} {a : Addr} (ht : P.underlying t = some (.pointer e)) : (Op.equalIn (d + 1) t (.pointer (some a)) (.pointer none)).run P w = .ok false w := by
  unfold Op.equalIn
  simp only [Sem.run_bind, run_underlying ht, Result.andThen_ok]
  rfl
theorem run_ptr_nil_eql {t e : TypeId} {a : Addr} (ht : P.underlying t = some (.pointer e)) : (Go.binOp .eql t (.pointer (some a)) (.pointer none)).run P w = .ok (.bool false) w := by
  have h := run_equalIn_ptr_nil (w := w) 9999 (a := a) ht
  show (do pure (Value.bool (← Op.equalIn (9999 + 1) t (.pointer (some a)) (.pointer none))) : Sem Value).run P w = _
  simp only [Sem.run_bind, h, Result.andThen_ok, Sem.run_pure]
theorem run_ptr_nil_neq {t e : TypeId} {a : Addr} (ht : P.underlying t = some (.pointer e)) : (Go.binOp .neq t (.pointer (some a)) (.pointer none)).run P w = .ok (.bool true) w := by
  have h := run_equalIn_ptr_nil (w := w) 9999 (a := a) ht
  show (do pure (Value.bool (!(← Op.equalIn (9999 + 1) t (.pointer (some a)) (.pointer none)))) : Sem Value).run P w = _
  simp only [Sem.run_bind, h, Result.andThen_ok, Sem.run_pure]
  rfl

theorem run_equalIn_nil_nil (d : Nat) {t e : TypeId} (ht : P.underlying t = some (.pointer e)) : (Op.equalIn (d + 1) t (.pointer none) (.pointer none)).run P w = .ok true w := by
  unfold Op.equalIn
  simp only [Sem.run_bind, run_underlying ht, Result.andThen_ok]
  rfl
theorem run_nil_nil_eql {t e : TypeId} (ht : P.underlying t = some (.pointer e)) : (Go.binOp .eql t (.pointer none) (.pointer none)).run P w = .ok (.bool true) w := by
  have h := run_equalIn_nil_nil (w := w) 9999 ht
  show (do pure (Value.bool (← Op.equalIn (9999 + 1) t (.pointer none) (.pointer none))) : Sem Value).run P w = _
  simp only [Sem.run_bind, h, Result.andThen_ok, Sem.run_pure]
theorem run_nil_nil_neq {t e : TypeId} (ht : P.underlying t = some (.pointer e)) : (Go.binOp .neq t (.pointer none) (.pointer none)).run P w = .ok (.bool false) w := by
  have h := run_equalIn_nil_nil (w := w) 9999 ht
  show (do pure (Value.bool (!(← Op.equalIn (9999 + 1) t (.pointer none) (.pointer none)))) : Sem Value).run P w = _
  simp only [Sem.run_bind, h, Result.andThen_ok, Sem.run_pure]
  rfl
theorem nilIs_some {op : BinOp} {t : TypeId} {out : Out U} (h : (nilIs (U := U) P op t true).outs = some out) : (notNil (U := U) P op t).outs = some out := h

/-- what the operation 'binOp' does, the look ahead of '==' with it -/
def binSem (op : BinOp) (t : TypeId) (x y : Operand) (a b : Value) : Sem Value := do eqGuard op t x y a b; Go.binOp op t a b

theorem bin_ok {op : BinOp} {t : TypeId} {x y : Operand} {a b : A U} {out : Out U} {p q : Value} (ho : (opBin P op t a b).outs = some out) (ha : RA U c a p) (hb : RA U c b q) :
    Quiet U c w P (binSem op t x y p q) out := by
  have ints : ∀ {k k' : IntKind} {m n : Int} {v : Value}, (Go.binOp op t (.int k m) (.int k' n)).run P w = .ok v w → okV v = true → out = { v := scv v } →
      Quiet U c w P (binSem op t x y (.int k m) (.int k' n)) out := by
    intro k k' m n v h1 h2 h3
    subst h3
    refine ⟨v, ?_, .val h2, rfl, rfl⟩
    simp only [binSem, eqGuard_int, Sem.run_bind, Sem.run_pure, Result.andThen_ok, h1]
  have nils : ∀ {a : Addr}, (notNil (U := U) P op t).outs = some out → Quiet U c w P (binSem op t x y (.pointer (some a)) (.pointer none)) out := by
    intro a h0
    unfold notNil at h0
    split at h0
    · rename_i hu
      rw [outs_one h0]
      exact ⟨_, by simp only [binSem, eqGuard_plain (a := .pointer (some a)) rfl, Sem.run_bind, Sem.run_pure, Result.andThen_ok, run_ptr_nil_eql hu], .val rfl, rfl, rfl⟩
    · rename_i hu
      rw [outs_one h0]
      exact ⟨_, by simp only [binSem, eqGuard_plain (a := .pointer (some a)) rfl, Sem.run_bind, Sem.run_pure, Result.andThen_ok, run_ptr_nil_neq hu], .val rfl, rfl, rfl⟩
    · exact (outs_fail h0).elim
  unfold opBin at ho
  split at ho
  · rename_i k m k' n
    cases R.valEq (show R U c _ p from ha); cases R.valEq (show R U c _ q from hb)
    split at ho
    · obtain ⟨v, h1, h2, h3⟩ := opShift_ok (P := P) (t := t) (w := w) (j := k') (R.okV (show R U c (.val _) _ from ha)) ho
      exact ints h1 h2 h3
    · obtain ⟨v, h1, h2, h3⟩ := opShift_ok (P := P) (t := t) (w := w) (j := k') (R.okV (show R U c (.val _) _ from ha)) ho
      exact ints h1 h2 h3
    · by_cases hk : k = k'
      · subst hk
        simp at ho
        obtain ⟨v, h1, h2, h3⟩ := opInt_ok (P := P) (t := t) (w := w) (R.okV (show R U c (.val _) _ from ha)) ho
        exact ints h1 h2 h3
      · simp [hk] at ho; exact (outs_fail ho).elim
  · cases R.valEq (show R U c _ q from hb)
    cases (show R U c _ p from ha) with
    | ptr h0 => exact nils ho
  · cases R.valEq (show R U c _ q from hb)
    cases (show R U c _ p from ha) with
    | iptr g hi hr => exact nils ho
  · rename_i u x
    cases R.valEq (show R U c _ q from hb)
    cases (show R U c _ p from ha) with
    | osome g hi hr => exact nils (nilIs_some ho)
    | onil =>
      unfold nilIs at ho
      split at ho
      · rename_i hu
        rw [outs_one ho]
        exact ⟨_, by simp only [binSem, eqGuard_plain (a := .pointer none) rfl, Sem.run_bind, Sem.run_pure, Result.andThen_ok, run_nil_nil_eql hu]; rfl, .val rfl, rfl, rfl⟩
      · rename_i hu
        rw [outs_one ho]
        exact ⟨_, by simp only [binSem, eqGuard_plain (a := .pointer none) rfl, Sem.run_bind, Sem.run_pure, Result.andThen_ok, run_nil_nil_neq hu]; rfl, .val rfl, rfl, rfl⟩
      · exact (outs_fail ho).elim
  · rename_i l r
    obtain ⟨cs, rfl, hl⟩ := ha
    obtain ⟨ds, rfl, hr⟩ := hb
    cases hgd : P.eqGuardType P.depth t with
    | true => simp [hgd] at ho; exact (outs_fail ho).elim
    | false =>
      simp only [hgd, cond_false] at ho
      split at ho
      · rename_i b hag hbb
        have h1 := eqS_ok (P := P) (w := w) 20 t l r b hbb _ _ true hag hl hr 10000 (by decide)
        rw [show valOf true cs.toList = .agg cs from rfl, show valOf true ds.toList = .agg ds from rfl] at h1
        split at ho
        · rw [outs_one ho]
          exact ⟨_, by simp only [binSem, run_eqGuard_agg w .eql t x y cs ds hgd, Sem.run_bind, Result.andThen_ok, run_eql_struct, h1], .val rfl, rfl, rfl⟩
        · rw [outs_one ho]
          exact ⟨_, by simp only [binSem, run_eqGuard_agg w .neq t x y cs ds hgd, Sem.run_bind, Result.andThen_ok, run_neq_struct, h1], .val rfl, rfl, rfl⟩
        · exact (outs_fail ho).elim
      · exact (outs_fail ho).elim
  · have e1 := R.valEq (show R U c _ p from ha)
    have e2 := R.valEq (show R U c _ q from hb)
    rw [← e1, ← e2] at ho
    cases hp : plainV p && plainV q with
    | false => simp [hp] at ho; exact (outs_fail ho).elim
    | true =>
      simp only [hp, cond_true] at ho
      split at ho
      · rename_i v hv
        cases h1 : okR v with
        | false => simp [h1] at ho; exact (outs_fail ho).elim
        | true =>
          simp only [h1, cond_true] at ho
          rw [outs_one ho]
          simp only [Bool.and_eq_true] at hp
          exact ⟨v, by simp only [binSem, eqGuard_plain hp.1, Sem.run_bind, Sem.run_pure, Result.andThen_ok, pureRun_ok hv w], .val (okR_ok h1), rfl, rfl⟩
      · exact (outs_fail ho).elim
  · exact (outs_fail ho).elim
end Go.Rf
namespace Go.Rf
set_option linter.unusedVariables false
set_option linter.unusedSimpArgs false
variable {U : Univ} {P : Program} {c : Cx} {Φ : Nat → Nat → Nat → Prop} {h : Heap U} {nx : Nat} {w : World}

theorem un_ok {op : UnOp} {a : A U} {out : Out U} {p : Value} (ho : (opUn P op a).outs = some out) (ha : RA U c a p) : Quiet U c w P (Op.unary op p) out := by
  unfold opUn at ho
  split at ho
  · rename_i x hx
    unfold asVal at hx
    split at hx
    · rename_i v
      cases hx
      have e := R.valEq (show R U c _ p from ha)
      subst e
      split at ho
      · rename_i v' hv
        cases h1 : okR v' with
        | false => simp [h1] at ho; exact (outs_fail ho).elim
        | true =>
          simp only [h1, cond_true] at ho
          rw [outs_one ho]
          exact ⟨v', pureRun_ok hv w, .val (okR_ok h1), rfl, rfl⟩
      · exact (outs_fail ho).elim
    · cases hx
  · exact (outs_fail ho).elim

theorem pick_ok {x a b : Option (A U)} {out : Out U} {p q r : Value} (ho : (opPick x a b).outs = some out) (hx : ∀ v, x = some v → RA U c v p) (ha : ∀ v, a = some v → RA U c v q)
    (hb : ∀ v, b = some v → RA U c v r) : ∃ t, p = .bool t ∧ RA U c out.v (if t then q else r) ∧ out.w = [] ∧ out.nw = 0 := by
  unfold opPick at ho
  split at ho
  · rename_i t a b
    have := outs_ok ho
    subst this
    have e := R.valEq (show R U c _ p from hx _ rfl)
    refine ⟨t, e, ?_, rfl, rfl⟩
    cases t
    · exact hb _ rfl
    · exact ha _ rfl
  · exact (outs_fail ho).elim

/-! ### length, least, greatest -/
theorem len_ok' {a : A U} {out : Out U} {p : Value} {t ty : TypeId} {ts : Array TypeId} (ho : (opLen a).outs = some out) (ha : RA U c a p)
    (ht : ts[0]? = some t) (hl : lenT P t a = true) : Quiet U c w P (Builtin.len_ ts ty #[p]) out := by
  unfold lenT at hl
  split at hl
  · rename_i e t' u xs hu
    simp [opLen, one, OpR.outs] at ho; subst ho
    cases (show R U c _ p from ha) with
    | isl g hc ht' ha' hi hr => exact ⟨.int .i64 xs.length, by simp [Builtin.len_, ht, run_underlying hu, goInt], .val rfl, rfl, rfl⟩
  · rename_i e hu
    simp [opLen, one, OpR.outs] at ho; subst ho
    cases R.valEq (show R U c _ p from ha)
    exact ⟨.int .i64 0, by simp [Builtin.len_, ht, run_underlying hu, goInt], .val rfl, rfl, rfl⟩
  · rename_i e s i n hu
    simp [opLen, one, OpR.outs] at ho; subst ho
    cases (show R U c _ p from ha) with
    | sl hc ha' hl' => exact ⟨.int .i64 n, by simp [Builtin.len_, ht, run_underlying hu, goInt], .val rfl, rfl, rfl⟩
  · rename_i s hu
    simp [opLen, one, OpR.outs] at ho; subst ho
    cases R.valEq (show R U c _ p from ha)
    exact ⟨.int .i64 s.size, by simp [Builtin.len_, ht, run_underlying hu, goInt], .val rfl, rfl, rfl⟩
  · cases hl

theorem foldMM_ok {mx : Bool} : ∀ (l : List (Option (A U))) (a n : Int) (vs : List Value), foldMM mx a l = some n → vs.length = l.length →
    (∀ (k : Nat) v u, l[k]? = some (some v) → vs[k]? = some u → RA U c v u) →
    (vs.foldlM (bif mx then Builtin.max2 else Builtin.min2) (.int .i64 a) : Sem Value) = pure (.int .i64 n)
  | [], a, n, vs, hf, hlen, _ => by
    simp at hlen; subst hlen; simp [foldMM] at hf; subst hf; rfl
  | x :: l, a, n, vs, hf, hlen, hr => by
    cases vs with
    | nil => simp at hlen
    | cons v vs =>
      have hx : ∃ b, x = some (.v ⟨false, [.val (.int .i64 b)]⟩) ∧ foldMM mx (opMinMax mx a b) l = some n := by
        unfold foldMM at hf
        split at hf
        · rename_i he; cases he
        · rename_i he; cases he; exact ⟨_, rfl, hf⟩
        · cases hf
      obtain ⟨b, rfl, hf⟩ := hx
      · have hv := hr 0 _ v rfl rfl
        cases R.int (show R U c _ v from hv)
        have ih := foldMM_ok l _ n vs hf (by simpa using hlen) fun k v u h1 h2 => hr (k + 1) v u (by simpa using h1) (by simpa using h2)
        rw [List.foldlM_cons]
        cases mx
        · simp only [cond_false] at ih ⊢
          show (Builtin.min2 (.int .i64 a) (.int .i64 b) >>= fun s' => vs.foldlM Builtin.min2 s') = _
          simp only [Builtin.min2]
          rw [show (pure (Value.int .i64 (if b < a then b else a)) >>= fun s' => vs.foldlM Builtin.min2 s' : Sem Value) = vs.foldlM Builtin.min2 (Value.int .i64 (if b < a then b else a)) from rfl]
          exact ih
        · simp only [cond_true] at ih ⊢
          show (Builtin.max2 (.int .i64 a) (.int .i64 b) >>= fun s' => vs.foldlM Builtin.max2 s') = _
          simp only [Builtin.max2]
          rw [show (pure (Value.int .i64 (if b > a then b else a)) >>= fun s' => vs.foldlM Builtin.max2 s' : Sem Value) = vs.foldlM Builtin.max2 (Value.int .i64 (if b > a then b else a)) from rfl]
          exact ih

/-! ### places in slices and arrays -/
theorem asInt_run {k : IntKind} {n : Int} (w : World) : (asIntOf (.int k n)).run P w = .ok (k, n) w := rfl

theorem inR_spec {n : Int} {len : Nat} (h : inR n len = true) : 0 ≤ n ∧ n < (len : Int) ∧ n.toNat < len := by
  simp [inR] at h
  omega

theorem indexAddr_ok (hU : U.Ok) {h' : Heap U} {t : TypeId} {a b : A U} {out : Out U} {p q : Value} (ho : (opIndexAddr P t a b h').outs = some out)
    (hag : ∀ s, s ∈ out.rd ∨ s ∈ out.w.map (·.1) → get h s = get h' s) (hg : G U c Φ h w) (ha : RA U c a p) (hb : RA U c b q) :
    Quiet U c w P (Instr.indexAt t p q) out := by
  unfold opIndexAddr at ho
  split at ho
  · rename_i e tk u xs k n hu
    split at ho
    · rename_i m hm
      cases hmu : Nat.beq m (U.size u) with
      | false => simp [hmu] at ho; exact (outs_fail ho).elim
      | true =>
        simp only [hmu, cond_true] at ho
        obtain ⟨hr, rfl⟩ := outs_chk ho
        obtain ⟨h0, h1, h2⟩ := inR_spec hr
        have hmu' := nbeq hmu
        subst hmu'
        cases R.int (show R U c _ q from hb)
        cases (show R U c _ p from ha) with
        | @isl _ _ _ a' cap b o g hc ht ha' hi hrr =>
          have hae := ha' (by omega)
          subst hae
          refine ⟨.pointer (some (at_ b (o + n.toNat * U.size u + 0))), ?_, ?_, rfl, rfl⟩
          · simp only [Instr.indexAt, Sem.run_bind, asInt_run, Result.andThen_ok, run_underlying hu]
            simp [h0, h1, run_sizeOf' hm, at_add]
          · exact R.iptr (b := b) (o := o + n.toNat * U.size u) (off := 0) (fun k => g n.toNat k) (fun k hk => by
              have := hi n.toNat k h2 hk; rwa [← Nat.add_assoc] at this) (fun k hk => hrr n.toNat k h2 hk)
    · exact (outs_fail ho).elim
  · rename_i e s i0 len k n hu
    split at ho
    · rename_i m u nn f hm he
      cases hmu : Nat.beq m (U.size u) with
      | false => simp [hmu] at ho; exact (outs_fail ho).elim
      | true =>
        simp only [hmu, cond_true] at ho
        obtain ⟨hr, rfl⟩ := outs_chk ho
        obtain ⟨h0, h1, h2⟩ := inR_spec hr
        have hmu' := nbeq hmu
        subst hmu'
        have he' : get h s = some (.fam true u nn f) := by rw [hag s (.inl (by simp))]; exact he
        obtain ⟨A, hA, hA1, _, _, _, hct⟩ := hg.ents s _ he'
        cases R.int (show R U c _ q from hb)
        cases (show R U c _ p from ha) with
        | @sl _ _ _ cap b o a' hc ha' hl' =>
          obtain ⟨hL, rfl⟩ := ha' (by omega)
          obtain ⟨x, hx⟩ := hl' n.toNat h2
          have hi0 := hA1 _ _ hL
          have hin := hA1 _ _ hx
          have e0 := hct rfl i0 hi0
          have e1 := hct rfl (i0 + n.toNat) hin
          have e2 := hA i0 hi0
          rw [hL] at e2
          simp only [Option.some.injEq] at e2
          have e3 : A (i0 + n.toNat) = (b, o + n.toNat * U.size u) := by
            rw [e1]
            rw [← e2] at e0
            simp only [Prod.mk.injEq] at e0 ⊢
            obtain ⟨e4, e5⟩ := e0
            refine ⟨e4.symm, ?_⟩
            rw [e5, Nat.add_mul, Nat.add_assoc]
          refine ⟨.pointer (some (at_ b (o + n.toNat * U.size u + 0))), ?_, ?_, rfl, rfl⟩
          · simp only [Instr.indexAt, Sem.run_bind, asInt_run, Result.andThen_ok, run_underlying hu]
            simp [h0, h1, run_sizeOf' hm, at_add]
          · exact R.ptr (by rw [hA _ hin, e3])
    · exact (outs_fail ho).elim
  · rename_i len e s i off k n hu
    have fin : ∀ {m b o : Nat} {y : U.S}, size? P e = some m → 2 ≤ len → inR n len = true → p = .pointer (some (at_ b (o + off))) → q = .int k n → out.v = sc y → out.w = [] → out.nw = 0 →
        R U c y (.pointer (some (at_ b (o + off + n.toNat * m)))) → Quiet U c w P (Instr.indexAt t p q) out := by
      intro m b o y hm h2l hr hp hq hv hw hnw hy
      subst hp; subst hq
      obtain ⟨h0, h1, h2⟩ := inR_spec hr
      refine ⟨.pointer (some (at_ b (o + off + n.toNat * m))), ?_, ?_, hw, hnw⟩
      · simp only [Instr.indexAt, Sem.run_bind, asInt_run, Result.andThen_ok, run_underlying hu]
        simp [h0, h1, run_sizeOf' hm, at_add, Instr.sureAddr]
      · rw [hv]; exact hy
    obtain ⟨b, o, hL, hp⟩ : ∃ b o, c.L s i = some (b, o) ∧ p = .pointer (some (at_ b (o + off))) := by
      cases (show R U c _ p from ha) with | ptr h0 => exact ⟨_, _, h0, rfl⟩
    have hq := R.int (show R U c _ q from hb)
    split at ho
    · rename_i m cells hm he
      split at ho
      · rename_i s' hs'
        split at ho
        · rename_i u len' f he2
          cases hc3 : Nat.beq m (U.size u) && Nat.beq len len' && Nat.ble 2 len with
          | false => simp [hc3] at ho; exact (outs_fail ho).elim
          | true =>
            simp only [hc3, cond_true] at ho
            obtain ⟨hr, rfl⟩ := outs_chk ho
            simp only [Bool.and_eq_true] at hc3
            obtain ⟨⟨e1, e2⟩, e3⟩ := hc3
            have e1 := nbeq e1
            have e2 := nbeq e2
            have e3 := Nat.le_of_ble_eq_true e3
            subst e1; subst e2
            have he' : get h s = some (.obj cells) := by rw [hag s (.inl (by simp))]; exact he
            have he2' : get h s' = some (.fam true u len f) := by rw [hag s' (.inl (by simp))]; exact he2
            obtain ⟨b', o', h0, h1, _, h3, _⟩ := hg.ents s _ he'
            have hi := h1 _ _ hL
            subst hi
            rw [hL] at h0; cases h0
            have hb0 := h3 off s' hs'
            obtain ⟨A, hA, hA1, _, _, _, hct⟩ := hg.ents s' _ he2'
            obtain ⟨_, _, h2⟩ := inR_spec hr
            have e4 := hA 0 (by omega)
            rw [hb0] at e4
            simp only [Option.some.injEq] at e4
            have e5 := hct rfl n.toNat h2
            rw [← e4] at e5
            refine fin hm e3 hr hp hq rfl rfl rfl ?_
            have := R.ptr (U := U) (c := c) (s := s') (i := n.toNat) (off := 0) (by rw [hA _ h2, e5])
            exact this
        · exact (outs_fail ho).elim
      · cases hc3 : Nat.beq i 0 && Nat.ble 2 len with
        | false => simp [hc3] at ho; exact (outs_fail ho).elim
        | true =>
          simp only [hc3, cond_true] at ho
          obtain ⟨hr, rfl⟩ := outs_chk ho
          simp only [Bool.and_eq_true] at hc3
          have e3 := Nat.le_of_ble_eq_true hc3.2
          refine fin hm e3 hr hp hq rfl rfl rfl ?_
          rw [Nat.add_assoc]
          exact R.ptr hL
    · exact (outs_fail ho).elim
  · exact (outs_fail ho).elim
end Go.Rf
namespace Go.Rf
set_option linter.unusedVariables false
set_option linter.unusedSimpArgs false
variable {U : Univ} {P : Program} {c : Cx} {Φ : Nat → Nat → Nat → Prop} {h : Heap U} {nx : Nat} {w : World}

/-! ### an element of a row that is a value -/
theorem colInts_ok {j : IntKind} : ∀ (l : List U.S) (ns : List Int) (vs : List Value), colInts j l = some ns → RL U c l vs → ns.length = l.length ∧ ∀ (i : Nat) (v : Value), vs[i]? = some v → v = .int j (ns.getD i 0)
  | [], ns, vs, h, hr => by simp [colInts] at h; subst h; cases hr.unnil; exact ⟨rfl, fun i v hv => by simp at hv⟩
  | x :: l, ns, vs, h, hr => by
    unfold colInts at h
    split at h
    · rename_i he; cases he
    · rename_i k n r he
      cases he
      split at h
      · rename_i l' hl'
        by_cases hk : k = j
        · subst hk
          simp at h; subst h
          obtain ⟨v, vs', rfl, h1, h2⟩ := hr.uncons
          obtain ⟨h3, h4⟩ := colInts_ok _ l' vs' hl' h2
          refine ⟨by simp [h3], fun i u hu => ?_⟩
          cases i with
          | zero => simp at hu; subst hu; exact R.int h1
          | succ i => simp at hu; simpa using h4 i u hu
        · simp [hk] at h
      · cases h
    · cases h

theorem colStrs_ok : ∀ (l : List U.S) (ns : List ByteArray) (vs : List Value), colStrs l = some ns → RL U c l vs → ns.length = l.length ∧ ∀ (i : Nat) (v : Value), vs[i]? = some v → v = .string (ns.getD i .empty)
  | [], ns, vs, h, hr => by simp [colStrs] at h; subst h; cases hr.unnil; exact ⟨rfl, fun i v hv => by simp at hv⟩
  | x :: l, ns, vs, h, hr => by
    unfold colStrs at h
    split at h
    · rename_i he; cases he
    · rename_i n r he
      cases he
      split at h
      · rename_i l' hl'
        simp at h; subst h
        obtain ⟨v, vs', rfl, h1, h2⟩ := hr.uncons
        obtain ⟨h3, h4⟩ := colStrs_ok _ l' vs' hl' h2
        refine ⟨by simp [h3], fun i u hu => ?_⟩
        cases i with
        | zero => simp at hu; subst hu; exact R.valEq h1
        | succ i => simp at hu; simpa using h4 i u hu
      · cases h
    · cases h

theorem colBools_ok : ∀ (l : List U.S) (ns : List Bool) (vs : List Value), colBools l = some ns → RL U c l vs → ns.length = l.length ∧ ∀ (i : Nat) (v : Value), vs[i]? = some v → v = .bool (ns.getD i false)
  | [], ns, vs, h, hr => by simp [colBools] at h; subst h; cases hr.unnil; exact ⟨rfl, fun i v hv => by simp at hv⟩
  | x :: l, ns, vs, h, hr => by
    unfold colBools at h
    split at h
    · rename_i he; cases he
    · rename_i n r he
      cases he
      split at h
      · rename_i l' hl'
        simp at h; subst h
        obtain ⟨v, vs', rfl, h1, h2⟩ := hr.uncons
        obtain ⟨h3, h4⟩ := colBools_ok _ l' vs' hl' h2
        refine ⟨by simp [h3], fun i u hu => ?_⟩
        cases i with
        | zero => simp at hu; subst hu; exact R.valEq h1
        | succ i => simp at hu; simpa using h4 i u hu
      · cases h
    · cases h

theorem pickCell_ok {i : Nat} {l : List U.S} {x : U.S} {vs : List Value} {v : Value} (h : pickCell i l = some x) (hr : RL U c l vs) (hv : vs[i]? = some v) : R U c x v := by
  unfold pickCell at h
  split at h
  · split at h
    · rename_i ns hns
      cases h
      obtain ⟨_, h2⟩ := colInts_ok _ ns vs hns hr
      rw [h2 i v hv]
      refine .val ?_
      rw [← h2 i v hv]
      have hlt := (List.getElem?_eq_some_iff.1 hv).1
      rw [hr.len] at hlt
      obtain ⟨u, h3, h4⟩ := hr.at_ i _ (List.getElem?_eq_getElem hlt)
      rw [hv] at h3; cases h3
      exact h4.ok
    · cases h
  · split at h
    · rename_i ns hns
      cases h
      obtain ⟨_, h2⟩ := colStrs_ok _ ns vs hns hr
      rw [h2 i v hv]; exact .val rfl
    · cases h
  · split at h
    · rename_i ns hns
      cases h
      obtain ⟨_, h2⟩ := colBools_ok _ ns vs hns hr
      rw [h2 i v hv]; exact .val rfl
    · cases h
  · cases h

theorem every_len {α β : Type} (m : Nat) : ∀ (f : Nat) (l : List α) (r : List β), l.length = r.length → (every m f l).length = (every m f r).length
  | 0, _, _, _ => rfl
  | f + 1, [], [], _ => rfl
  | f + 1, x :: l, y :: r, h => by simp only [every, List.length_cons]; rw [every_len m f (List.drop m (x :: l)) (List.drop m (y :: r)) (by rw [List.length_drop, List.length_drop, h])]
  | f + 1, [], y :: r, h => by simp at h
  | f + 1, x :: l, [], h => by simp at h

theorem every_get {α : Type} (m : Nat) : ∀ (f : Nat) (l : List α) (i : Nat), i < f → (every m f l)[i]? = l[i * m]?
  | 0, _, _, h => by omega
  | f + 1, [], i, _ => by simp [every]
  | f + 1, x :: l, 0, _ => by simp [every]
  | f + 1, x :: l, i + 1, h => by
    rcases Nat.eq_zero_or_pos m with rfl | hm
    · simp only [every, List.getElem?_cons_succ]
      rw [every_get 0 f _ i (by omega)]
      simp
    · simp only [every, List.getElem?_cons_succ]
      rw [every_get m f _ i (by omega), List.getElem?_drop]
      congr 1
      rw [Nat.succ_mul]; omega

theorem RL.every {l : List U.S} {vs : List Value} (m : Nat) (hr : RL U c l vs) (k : Nat) : RL U c (Rf.every m l.length (l.drop k)) (Rf.every m l.length (vs.drop k)) := by
  refine ⟨(every_len m _ _ _ (by simp [hr.len])), fun i x hx => ?_⟩
  have hi : i < l.length := by
    rcases Nat.lt_or_ge i l.length with h' | h'
    · exact h'
    · exfalso
      have hle : ∀ (f : Nat) (r : List U.S), (Rf.every m f r).length ≤ f := by
        intro f
        induction f with
        | zero => intro r; simp [Rf.every]
        | succ f ih => intro r; cases r with
          | nil => simp [Rf.every]
          | cons y r => simp only [Rf.every, List.length_cons]; have := ih (List.drop m (y :: r)); omega
      have := (List.getElem?_eq_some_iff.1 hx).1
      have := hle l.length (l.drop k)
      omega
  rw [every_get m _ _ i hi, List.getElem?_drop] at hx
  rw [every_get m _ _ i hi, List.getElem?_drop]
  exact hr.at_ _ x hx

theorem pickCells_ok {i m : Nat} {l : List U.S} {vs : List Value} (hr : RL U c l vs) : ∀ (k : Nat) (r : List U.S), pickCells i m l k = some r → k ≤ m → i * m + m ≤ vs.length → RL U c r (dropT (i * m) k vs)
  | 0, r, h, _, _ => by simp [pickCells] at h; subst h; simp [dropT]; exact .nil
  | k + 1, r, h, hk, hl => by
    unfold pickCells at h
    split at h
    · rename_i r' x hr' hx
      cases h
      have ih := pickCells_ok hr k r' hr' (by omega) hl
      have hlt : i * m + k < vs.length := by omega
      have h1 : dropT (i * m) (k + 1) vs = dropT (i * m) k vs ++ [vs[i * m + k]] := by
        unfold dropT
        rw [List.take_add_one, List.getElem?_drop, List.getElem?_eq_getElem hlt]
        rfl
      rw [h1]
      refine ih.append (.cons ?_ .nil)
      refine pickCell_ok hx (hr.every m k) ?_
      have hi : i < l.length := by
        rw [← hr.len]
        rcases Nat.eq_zero_or_pos m with rfl | hm
        · omega
        · have : i ≤ i * m := Nat.le_mul_of_pos_right i hm
          omega
      rw [every_get m _ _ i hi, List.getElem?_drop, Nat.add_comm k]
      exact List.getElem?_eq_getElem hlt
    · cases h

theorem bytes_getElem? (s : ByteArray) (i : Nat) : s[i]? = s.data.toList[i]? := by
  obtain ⟨⟨l⟩⟩ := s
  by_cases h : i < l.length
  · simp only [List.getElem?_eq_getElem h]
    rw [getElem?_pos (h := by simpa [ByteArray.size] using h)]
    rfl
  · rw [getElem?_neg (h := by simpa [ByteArray.size] using h)]
    simp [List.getElem?_eq_none (Nat.le_of_not_lt h)]

theorem index_ok {t : TypeId} {a b : A U} {out : Out U} {p q : Value} (ho : (opIndex P t a b).outs = some out) (ha : RA U c a p) (hb : RA U c b q) :
    Quiet U c w P (Instr.index t p q) out := by
  unfold opIndex at ho
  split at ho
  · rename_i len e l k n hu
    split at ho
    · rename_i m g hm hag
      cases hc1 : Nat.beq l.length (len * m) && Nat.ble 1 m with
      | false => simp [hc1] at ho; exact (outs_fail ho).elim
      | true =>
        simp only [hc1, cond_true] at ho
        simp only [Bool.and_eq_true] at hc1
        have e1 := nbeq hc1.1
        split at ho
        · rename_i cs hcs
          split at ho
          · rename_i v hv
            obtain ⟨hr, rfl⟩ := outs_chk ho
            obtain ⟨h0, h1, h2⟩ := inR_spec hr
            obtain ⟨vs, rfl, hl⟩ := ha
            cases R.int (show R U c _ q from hb)
            have hlen : vs.toList.length = len * m := hl.len.trans e1
            have hle : n.toNat * m + m ≤ vs.toList.length := by
              rw [hlen, ← Nat.succ_mul]
              exact Nat.mul_le_mul_right m (by omega)
            have hr2 := pickCells_ok hl m cs hcs (Nat.le_refl m) hle
            have hr3 := asV_ok hv hr2
            have hpart : (part e vs (n.toNat * m)).run P w = .ok (if g then .agg (dropT (n.toNat * m) m vs.toList).toArray else (dropT (n.toNat * m) m vs.toList).headD undef) w := by
              have := run_part_val (P := P) (w := w) (vs := vs.toList) (off := n.toNat * m) hag hm (fun _ => by have := Nat.le_of_ble_eq_true hc1.2; omega)
              rw [show vs.toList.toArray = vs by simp] at this
              rw [this]
              cases g with
              | true => rfl
              | false =>
                simp only [valOf, cond_false, Bool.false_eq_true, if_false]
                congr 1
                have hlt : n.toNat * m < vs.toList.length := by have := Nat.le_of_ble_eq_true hc1.2; omega
                unfold dropT
                rw [List.drop_eq_getElem_cons hlt]
                obtain ⟨m', rfl⟩ : ∃ m', m = m' + 1 := ⟨m - 1, by have := Nat.le_of_ble_eq_true hc1.2; omega⟩
                rfl
            refine ⟨_, ?_, hr3, rfl, rfl⟩
            simp only [Instr.index, Sem.run_bind, asInt_run, Result.andThen_ok, run_underlying hu]
            simp [h0, h1, run_sizeOf' hm, hpart]
          · exact (outs_fail ho).elim
        · exact (outs_fail ho).elim
    · exact (outs_fail ho).elim
  · rename_i s k n hu
    obtain ⟨hr, rfl⟩ := outs_chk ho
    obtain ⟨h0, h1, h2⟩ := inR_spec hr
    cases R.int (show R U c _ q from hb)
    cases R.valEq (show R U c _ p from ha)
    have hlt : n.toNat < s.data.toList.length := by rw [Array.length_toList]; exact h2
    refine ⟨.int .u8 ((s.data.toList.getD n.toNat 0).toNat : Int), ?_, .val (okV_byte _), rfl, rfl⟩
    simp only [Instr.index, Sem.run_bind, asInt_run, Result.andThen_ok, run_underlying hu]
    rw [if_pos h0, bytes_getElem?, List.getElem?_eq_getElem hlt]
    simp [List.getD, List.getElem?_eq_getElem hlt]
  · exact (outs_fail ho).elim
end Go.Rf
namespace Go.Rf
set_option linter.unusedVariables false
set_option linter.unusedSimpArgs false
variable {U : Univ} {P : Program} {c : Cx} {Φ : Nat → Nat → Nat → Prop} {h : Heap U} {nx : Nat} {w : World}

/-- operands and what they stand for -/
def OpdOK (U : Univ) (c : Cx) (x : Option (Option (A U))) (y : Option Value) : Prop :=
  match x, y with
  | .none, .none => True
  | some a, some v => ∀ b, a = some b → RA U c b v
  | _, _ => False

def Bd (y : Option Value) (d : Nat) (n : Int) : Prop := (y = none ∧ n = (d : Int)) ∨ ∃ k, y = some (.int k n)

theorem sliceOp_ok {x : Option (Option (A U))} {y : Option Value} {d : Nat} {n : Int} (h : sliceOp x d = some n) (hx : OpdOK U c x y) : Bd y d n := by
  unfold sliceOp at h
  split at h
  · cases h
    cases y with
    | none => exact .inl ⟨rfl, rfl⟩
    | some v => exact hx.elim
  · rename_i k n'
    cases h
    cases y with
    | none => exact hx.elim
    | some v => exact .inr ⟨k, by rw [R.int (show R U c _ v from hx _ rfl)]⟩
  · cases h

theorem le3_spec {a b : Int} {n : Nat} (h : le3 a b n = true) : 0 ≤ a ∧ a ≤ b ∧ b ≤ (n : Int) := by
  unfold le3 ile at h
  by_cases h1 : 0 ≤ a <;> by_cases h2 : a ≤ b <;> simp [h1, h2] at h
  exact ⟨h1, h2, h⟩

theorem bounds_run {isS : Bool} {len cap : Nat} {lo hi : Option Value} {l r : Int} (hl : Bd lo 0 l) (hr : Bd hi len r) (h0 : 0 ≤ l) (h1 : l ≤ r) (h2 : r ≤ (len : Int)) (hlc : len ≤ cap) :
    (Instr.sliceBounds isS len cap lo hi none).run P w = .ok (l.toNat, r.toNat, cap) w := by
  have hb : ∀ (k : IntKind) (i : Int) (y : Nat) (code : BoundsCode), 0 ≤ i → i ≤ (y : Int) → (Instr.sliceBound (.int k i) y code).run P w = .ok i.toNat w := fun k i y code a b => run_sliceBound w k i y code a b
  have er : (r.toNat : Int) = r := Int.toNat_of_nonneg (by omega)
  rcases hl with ⟨rfl, rfl⟩ | ⟨kl, rfl⟩ <;> rcases hr with ⟨rfl, rfl⟩ | ⟨kr, rfl⟩
  · simp [Instr.sliceBounds]
  · simp [Instr.sliceBounds, hb kr r cap _ (by omega) (by omega)]
  · simp [Instr.sliceBounds, hb kl l len _ h0 (by omega)]
  · simp [Instr.sliceBounds, hb kr r cap _ (by omega) (by omega), hb kl l r.toNat _ h0 (by omega)]

theorem bounds_run3 {len cap : Nat} {lo hi : Option Value} {km : IntKind} {l r m : Int} (hl : Bd lo 0 l) (hr : Bd hi len r) (hsome : hi.isSome) (h0 : 0 ≤ l) (h1 : l ≤ r) (h2 : r ≤ m) (h3 : m ≤ (cap : Int)) :
    (Instr.sliceBounds true len cap lo hi (some (.int km m))).run P w = .ok (l.toNat, r.toNat, m.toNat) w := by
  have hb : ∀ (k : IntKind) (i : Int) (y : Nat) (code : BoundsCode), 0 ≤ i → i ≤ (y : Int) → (Instr.sliceBound (.int k i) y code).run P w = .ok i.toNat w := fun k i y code a b => run_sliceBound w k i y code a b
  have er : (r.toNat : Int) = r := Int.toNat_of_nonneg (by omega)
  have em : (m.toNat : Int) = m := Int.toNat_of_nonneg (by omega)
  rcases hr with ⟨rfl, rfl⟩ | ⟨kr, rfl⟩
  · cases hsome
  · rcases hl with ⟨rfl, rfl⟩ | ⟨kl, rfl⟩
    · simp [Instr.sliceBounds, hb km m cap _ (by omega) h3, hb kr r m.toNat _ (by omega) (by omega)]
    · simp [Instr.sliceBounds, hb km m cap _ (by omega) h3, hb kr r m.toNat _ (by omega) (by omega), hb kl l r.toNat _ h0 (by omega)]

theorem drop_take_getD {α : Type} {l : List α} {a b i : Nat} {d : α} (hi : i < ((l.take b).drop a).length) : ((l.take b).drop a).getD i d = l.getD (a + i) d := by
  have h : ((l.take b).drop a)[i]? = l[a + i]? := by
    rw [List.getElem?_drop, List.getElem?_take]
    simp at hi
    rw [if_pos (by omega)]
  simp [List.getD, h]

theorem slice_ok (hU : U.Ok) {h' : Heap U} {t : TypeId} {a : A U} {xl xh xm : Option (Option (A U))} {yl yh ym : Option Value} {out : Out U} {p : Value}
    (ho : (opSlice P t a xl xh xm h').outs = some out) (hag : ∀ s, s ∈ out.rd ∨ s ∈ out.w.map (·.1) → get h s = get h' s) (hg : G U c Φ h w) (ha : RA U c a p)
    (hl : OpdOK U c xl yl) (hh : OpdOK U c xh yh) (hm : OpdOK U c xm ym) : Quiet U c w P (Instr.sliceAt t p yl yh ym) out := by
  unfold opSlice at ho
  split at ho
  · rename_i s hu
    split at ho
    · rename_i l r h1 h2
      obtain ⟨hr, rfl⟩ := outs_chk ho
      obtain ⟨e0, e1, e2⟩ := le3_spec hr
      cases ym with
      | some v => exact hm.elim
      | none =>
        cases R.valEq (show R U c _ p from ha)
        have hb := bounds_run (P := P) (w := w) (isS := false) (sliceOp_ok h1 hl) (sliceOp_ok h2 hh) e0 e1 e2 (Nat.le_refl _)
        refine ⟨.string (s.extract l.toNat r.toNat), ?_, .val rfl, rfl, rfl⟩
        simp [Instr.sliceAt, run_underlying hu, Instr.slice, hb]
    · exact (outs_fail ho).elim
  · rename_i e tk u xs hu
    split at ho
    · rename_i m l r hs h1 h2
      cases hmu : Nat.beq m (U.size u) with
      | false => simp [hmu] at ho; exact (outs_fail ho).elim
      | true =>
        simp only [hmu, cond_true] at ho
        have hmu' := nbeq hmu
        subst hmu'
        cases (show R U c _ p from ha) with
        | @isl _ _ _ a' cap b o g hc ht ha' hi hrr =>
          have mk : ∀ (tk' : Tok) (m' : Nat), 0 ≤ l → l ≤ r → r ≤ (xs.length : Int) → r.toNat ≤ m' → m' ≤ cap → (tk' = .full → m' = r.toNat) → (∀ k, tk' ≠ .own k) →
              R U c (.isl tk' u ((xs.take r.toNat).drop l.toNat)) (.slice (if m' = l.toNat then a' else a'.map (·.add (l.toNat * U.size u))) (r.toNat - l.toNat) (m' - l.toNat)) := by
            intro tk' m' e0 e1 e2 e3 e4 e5 e6
            have hlen : ((xs.take r.toNat).drop l.toNat).length = r.toNat - l.toNat := by simp; omega
            rw [← hlen]
            refine R.isl (b := b) (o := o + l.toNat * U.size u) (fun i k => g (l.toNat + i) k) (by omega) ?_ (fun hpos => ?_) (fun i k h3 h4 => ?_) (fun i k h3 h4 => ?_)
            · cases tk' with
              | none => trivial
              | full => simp only [TokOK]; rw [e5 rfl, hlen]
              | own k => exact absurd rfl (e6 k)
            · rw [hlen] at hpos
              have := ha' (by omega)
              subst this
              rw [if_neg (by omega)]
              simp [at_add]
            · rw [hlen] at h3
              have := hi (l.toNat + i) k (by omega) h4
              rwa [Nat.add_mul, show o + (l.toNat * U.size u + i * U.size u + k) = o + l.toNat * U.size u + (i * U.size u + k) by omega] at this
            · rw [drop_take_getD h3]
              rw [hlen] at h3
              exact hrr (l.toNat + i) k (by omega) h4
          split at ho
          · obtain ⟨hr, rfl⟩ := outs_chk ho
            obtain ⟨e0, e1, e2⟩ := le3_spec hr
            cases ym with
            | some v => exact hm.elim
            | none =>
              have hb := bounds_run (P := P) (w := w) (isS := true) (sliceOp_ok h1 hl) (sliceOp_ok h2 hh) e0 e1 e2 hc
              refine ⟨_, ?_, mk .none cap e0 e1 e2 (by omega) (Nat.le_refl _) (fun hh => by cases hh) (fun k hh => by cases hh), rfl, rfl⟩
              simp [Instr.sliceAt, run_underlying hu, Instr.slice, hb, run_sizeOf' hs]
          · rename_i k cc
            cases hsx : xh.isSome with
            | false => simp [hsx] at ho; exact (outs_fail ho).elim
            | true =>
            simp only [hsx, cond_true] at ho
            obtain ⟨hr, rfl⟩ := outs_chk ho
            have hr1 : le3 l r xs.length = true ∧ ieq r cc = true := by
              cases h3 : le3 l r xs.length <;> simp [h3] at hr
              exact ⟨rfl, hr⟩
            obtain ⟨e0, e1, e2⟩ := le3_spec hr1.1
            have e3 : r = cc := by simpa [ieq] using hr1.2
            subst e3
            cases ym with
            | none => exact hm.elim
            | some v =>
              cases R.int (show R U c _ v from hm _ rfl)
              · have hsome : yh.isSome := by
                  cases yh with
                  | none => cases xh with
                    | none => cases hsx
                    | some a => exact hh.elim
                  | some v => rfl
                have hb := bounds_run3 (P := P) (w := w) (km := k) (m := r) (cap := cap) (sliceOp_ok h1 hl) (sliceOp_ok h2 hh) hsome e0 e1 (Int.le_refl _) (by omega)
                refine ⟨_, ?_, mk .full r.toNat e0 e1 e2 (Nat.le_refl _) (by omega) (fun _ => rfl) (fun k hh => by cases hh), rfl, rfl⟩
                simp [Instr.sliceAt, run_underlying hu, Instr.slice, hb, run_sizeOf' hs]
          · exact (outs_fail ho).elim
    · exact (outs_fail ho).elim
  · rename_i e s i0 n hu
    split at ho
    · rename_i m l r u nn f hs h1 h2 he
      cases hmu : Nat.beq m (U.size u) with
      | false => simp [hmu] at ho; exact (outs_fail ho).elim
      | true =>
        simp only [hmu, cond_true] at ho
        have hmu' := nbeq hmu
        subst hmu'
        obtain ⟨hr, rfl⟩ := outs_chk ho
        obtain ⟨e0, e1, e2⟩ := le3_spec hr
        have he' : get h s = some (.fam true u nn f) := by rw [hag s (.inl (by simp))]; exact he
        obtain ⟨A, hA, hA1, _, _, _, hct⟩ := hg.ents s _ he'
        cases ym with
        | some v => exact hm.elim
        | none =>
          cases (show R U c _ p from ha) with
          | @sl _ _ _ cap b o a' hc ha' hl' =>
            have hb := bounds_run (P := P) (w := w) (isS := true) (sliceOp_ok h1 hl) (sliceOp_ok h2 hh) e0 e1 e2 hc
            refine ⟨.slice (if cap = l.toNat then a' else a'.map (·.add (l.toNat * U.size u))) (r.toNat - l.toNat) (cap - l.toNat), ?_, ?_, rfl, rfl⟩
            · simp [Instr.sliceAt, run_underlying hu, Instr.slice, hb, run_sizeOf' hs]
            · refine R.sl (b := b) (o := o + l.toNat * U.size u) (by omega) (fun hpos => ?_) (fun j hj => ?_)
              · obtain ⟨hL, rfl⟩ := ha' (by omega)
                obtain ⟨x, hx⟩ := hl' l.toNat (by omega)
                have hi0 := hA1 _ _ hL
                have hin := hA1 _ _ hx
                have e4 := hct rfl i0 hi0
                have e5 := hct rfl (i0 + l.toNat) hin
                have e6 := hA i0 hi0
                rw [hL] at e6
                simp only [Option.some.injEq] at e6
                refine ⟨?_, ?_⟩
                · rw [hA _ hin, e5]
                  rw [← e6] at e4
                  simp only [Prod.mk.injEq] at e4
                  rw [e4.1, e4.2, Nat.add_mul, Nat.add_assoc]
                · rw [if_neg (by omega)]
                  simp [at_add]
              · obtain ⟨x, hx⟩ := hl' (l.toNat + j) (by omega)
                exact ⟨x, by rw [Nat.add_assoc]; exact hx⟩
    · exact (outs_fail ho).elim
  · rename_i len e s i off hu
    split at ho
    · rename_i m l r cells hs h1 h2 he
      split at ho
      · rename_i s' hs'
        split at ho
        · rename_i u len' f he2
          cases hc3 : Nat.beq m (U.size u) && Nat.beq len len' && Nat.beq i 0 with
          | false => simp [hc3] at ho; exact (outs_fail ho).elim
          | true =>
            simp only [hc3, cond_true] at ho
            obtain ⟨hr, rfl⟩ := outs_chk ho
            simp only [Bool.and_eq_true] at hc3
            obtain ⟨⟨e3, e4⟩, _⟩ := hc3
            have e3 := nbeq e3
            have e4 := nbeq e4
            subst e3; subst e4
            obtain ⟨e0, e1, e2⟩ := le3_spec hr
            have he' : get h s = some (.obj cells) := by rw [hag s (.inl (by simp))]; exact he
            have he2' : get h s' = some (.fam true u len f) := by rw [hag s' (.inl (by simp))]; exact he2
            obtain ⟨b, o, hL, hp⟩ : ∃ b o, c.L s i = some (b, o) ∧ p = .pointer (some (at_ b (o + off))) := by
              cases (show R U c _ p from ha) with | ptr h0 => exact ⟨_, _, h0, rfl⟩
            subst hp
            obtain ⟨b', o', h0, h3, _, h4, _⟩ := hg.ents s _ he'
            have hi := h3 _ _ hL
            subst hi
            rw [hL] at h0; cases h0
            have hb0 := h4 off s' hs'
            obtain ⟨A, hA, hA1, _, _, _, hct⟩ := hg.ents s' _ he2'
            cases ym with
            | some v => exact hm.elim
            | none =>
              have hb := bounds_run (P := P) (w := w) (isS := false) (sliceOp_ok h1 hl) (sliceOp_ok h2 hh) e0 e1 e2 (Nat.le_refl _)
              refine ⟨.slice (some (if len = l.toNat then at_ b (o + off) else (at_ b (o + off)).add (l.toNat * U.size u))) (r.toNat - l.toNat) (len - l.toNat), ?_, ?_, rfl, rfl⟩
              · simp [Instr.sliceAt, run_underlying hu, Instr.sureAddr, hb, run_sizeOf' hs]
              · have hlpos : ∀ j, l.toNat + j < len → c.L s' (l.toNat + j) = some (b, o + off + (l.toNat + j) * U.size u) := fun j hj => by
                  have hz : 0 < len := by omega
                  have e7 := hA 0 hz
                  rw [hb0] at e7
                  simp only [Option.some.injEq] at e7
                  have e8 := hct rfl (l.toNat + j) hj
                  rw [← e7] at e8
                  rw [hA _ hj, e8]
                refine R.sl (b := b) (o := o + off + l.toNat * U.size u) (by omega) (fun hpos => ⟨?_, ?_⟩) (fun j hj => ⟨_, hlpos j (by omega)⟩)
                · have := hlpos 0 (by omega)
                  simpa using this
                · rw [if_neg (by omega), at_add]
        · exact (outs_fail ho).elim
      · exact (outs_fail ho).elim
    · exact (outs_fail ho).elim
  · exact (outs_fail ho).elim
end Go.Rf
namespace Go.Rf
set_option linter.unusedVariables false
set_option linter.unusedSimpArgs false
variable {U : Univ} {P : Program} {c : Cx} {Φ : Nat → Nat → Nat → Prop} {h : Heap U} {nx : Nat} {w : World}

/-! ### composite literals -/
structure PartsOK (U : Univ) (c : Cx) (ps : List (Nat × List U.S)) (qs : List (Nat × Value)) : Prop where
  len : qs.length = ps.length
  at_ : ∀ (k : Nat) i l, ps[k]? = some (i, l) → ∃ v, qs[k]? = some (i, v) ∧ RL U c l v.cells.toList

theorem RL.splice {l new : List U.S} {vs ns : List Value} {off : Nat} (hl : RL U c l vs) (hn : RL U c new ns) : RL U c (Rf.splice off new l) (Rf.splice off ns vs) := by
  unfold Rf.splice
  rw [hn.len]
  exact ((hl.take off).append hn).append (hl.drop _)

theorem foldl_splice (off : Nat) (v cs : Array Value) (h : off + v.size ≤ cs.size) :
    (v.zipIdx.foldl (fun cs (x : Value × Nat) => cs.setIfInBounds (off + x.2) x.1) cs).toList = splice off v.toList cs.toList := by
  rw [← Array.foldl_toList, Array.toList_zipIdx]
  obtain ⟨h1, h2⟩ := Great.foldl_set off v.toList 0 cs
  apply List.ext_getElem?
  intro k
  rw [Array.getElem?_toList, h2 k]
  by_cases hin : off ≤ k ∧ k < off + v.toList.length
  · obtain ⟨j, rfl⟩ : ∃ j, k = off + j := ⟨k - off, by omega⟩
    rw [if_pos (by simp at hin ⊢; omega), splice_in (by simpa using h) (by omega)]
    congr 1; omega
  · rw [if_neg (by omega), splice_out (by simpa using h) (by omega), Array.getElem?_toList]

theorem fill_ok {place : Nat → Option (Nat × Nat)} : ∀ (ps : List (Nat × List U.S)) (qs : List (Nat × Value)) (cells l : List U.S) (cs : Array Value),
    fillS place cells ps = some l → PartsOK U c ps qs → RL U c cells cs.toList → ∃ r : Array Value, Instr.fill place cs qs = some r ∧ RL U c l r.toList
  | [], qs, cells, l, cs, hf, hp, hc => by
    have : qs = [] := by have := hp.len; simpa using this
    subst this
    simp [fillS] at hf; subst hf
    exact ⟨cs, rfl, hc⟩
  | (i, x) :: ps, qs, cells, l, cs, hf, hp, hc => by
    cases qs with
    | nil => have := hp.len; simp at this
    | cons q qs =>
      obtain ⟨v, hv, hr⟩ := hp.at_ 0 i x rfl
      simp at hv; subst hv
      simp only [fillS] at hf
      cases hpl : place i with
      | none => simp [hpl] at hf
      | some os =>
        obtain ⟨off, size⟩ := os
        simp only [hpl] at hf
        cases hb : Nat.beq x.length size && Nat.ble (off + size) cells.length with
        | false => simp [hb] at hf
        | true =>
          simp only [hb, cond_true] at hf
          simp only [Bool.and_eq_true] at hb
          have e1 := nbeq hb.1
          have e2 := Nat.le_of_ble_eq_true hb.2
          have e3 : v.cells.size = size := by have := hr.len; simp at this; omega
          have e4 : cs.size = cells.length := by have := hc.len; simpa using this
          have hle : off + v.cells.size ≤ cs.size := by omega
          have hsp := foldl_splice off v.cells cs hle
          obtain ⟨r, hr1, hr2⟩ := fill_ok ps qs (splice off x cells) l (v.cells.zipIdx.foldl (fun cs (x : Value × Nat) => cs.setIfInBounds (off + x.2) x.1) cs) hf
            ⟨by have := hp.len; simpa using this, fun k i l hk => by have := hp.at_ (k + 1) i l (by simpa using hk); simpa using this⟩ (by rw [hsp]; exact hc.splice hr)
          refine ⟨r, ?_, hr2⟩
          simp only [Instr.fill, hpl]
          rw [if_neg (by simp [e3]; omega)]
          exact hr1

theorem partsOf_ok {ρ : Operand → Option (A U)} {ev : Operand → Value} : ∀ (ps : List (Nat × Operand)) (l : List (Nat × List U.S)) (hρ : ∀ p ∈ ps, ∀ v, ρ p.2 = some v → RA U c v (ev p.2)),
    partsOf (ps.map fun p => (p.1, ρ p.2)) = some l → PartsOK U c l (ps.map fun p => (p.1, ev p.2))
  | [], l, hρ, h => by simp [partsOf] at h; subst h; exact ⟨rfl, fun k i l hk => by simp at hk⟩
  | (i, x) :: ps, l, hρ, h => by
    simp only [List.map_cons] at h
    unfold partsOf at h
    split at h
    · rename_i he; cases he
    · rename_i i' y r he
      simp only [List.cons.injEq, Prod.mk.injEq] at he
      obtain ⟨⟨rfl, hx⟩, rfl⟩ := he
      split at h
      · rename_i l' hl'
        cases h
        have ih := partsOf_ok ps l' (fun p hp => hρ p (List.mem_cons_of_mem _ hp)) hl'
        refine ⟨by simp [ih.len], fun k j m hk => ?_⟩
        cases k with
        | zero => simp at hk; obtain ⟨rfl, rfl⟩ := hk; exact ⟨_, rfl, RV.cells (hρ (i, x) (List.mem_cons_self ..) _ hx)⟩
        | succ k => simp at hk; have := ih.at_ k j m hk; simpa using this
      · cases h
    · cases h

theorem places_ok : ∀ (fs : List Field) (pl : List (Nat × Nat)), places P fs = some pl → ∀ w, (fs.mapM (fun f => do pure (f.offset, ← sizeOf f.type)) : Sem (List (Nat × Nat))).run P w = .ok pl w
  | [], pl, h, w => by simp [places] at h; subst h; rfl
  | f :: fs, pl, h, w => by
    unfold places at h
    split at h
    · rename_i i l hi hl
      cases h
      have hsz : (sizeOf f.type).run P w = .ok i.size w := run_sizeOf' (by simp [size?, hi]) w
      rw [List.mapM_cons]
      simp only [Sem.run_bind, hsz, Result.andThen_ok, Sem.run_pure]
      rw [places_ok fs l hl w]
      rfl
    · cases h

theorem build_ok {ρ : Operand → Option (A U)} {ev : Operand → Value} {t : TypeId} {ps : Array (Nat × Operand)} {out : Out U} (ho : (opBuild P t (ps.toList.map fun p => (p.1, ρ p.2))).outs = some out)
    (hρ : ∀ p ∈ ps.toList, ∀ v, ρ p.2 = some v → RA U c v (ev p.2)) : Quiet U c w P (Instr.build t (ps.map fun p => (p.1, ev p.2))) out := by
  unfold opBuild at ho
  split at ho
  · rename_i z parts hz hp
    have hP := partsOf_ok ps.toList parts hρ hp
    obtain ⟨zv, hzr, hzl⟩ := zeroCells_ok (c := c) hz
    have hqs : (ps.map fun p => (p.1, ev p.2)).toList = ps.toList.map fun p => (p.1, ev p.2) := by simp
    split at ho
    · rename_i fs hfs
      split at ho
      · rename_i pl hpl
        split at ho
        · rename_i l hl
          have := outs_ok ho; subst this
          obtain ⟨r, hr1, hr2⟩ := fill_ok parts _ z l zv.cells hl hP hzl
          refine ⟨.agg r, ?_, ⟨r, rfl, hr2⟩, rfl, rfl⟩
          have hm : (fs.mapM (fun f => do pure (f.offset, ← sizeOf f.type)) : Sem (Array (Nat × Nat))).run P w = .ok pl.toArray w := by
            rw [Array.mapM_eq_mapM_toList]
            simp only [Sem.run_map, places_ok fs.toList pl hpl w, Result.andThen_ok]
          simp only [Instr.build, Sem.run_bind, hzr, Result.andThen_ok, run_underlying hfs, hm]
          rw [hqs, show (fun i => (pl.toArray)[i]?) = (fun i => pl[i]?) by funext i; simp, hr1]
          rfl
        · exact (outs_fail ho).elim
      · exact (outs_fail ho).elim
    · rename_i n e hu
      split at ho
      · rename_i m hm
        split at ho
        · rename_i l hl
          have := outs_ok ho; subst this
          obtain ⟨r, hr1, hr2⟩ := fill_ok parts _ z l zv.cells hl hP hzl
          refine ⟨.agg r, ?_, ⟨r, rfl, hr2⟩, rfl, rfl⟩
          simp only [Instr.build, Sem.run_bind, hzr, Result.andThen_ok, run_underlying hu, run_sizeOf' hm]
          rw [hqs, hr1]
          rfl
        · exact (outs_fail ho).elim
      · exact (outs_fail ho).elim
    · exact (outs_fail ho).elim
  · exact (outs_fail ho).elim

/-! ### new memory that is never written again -/
def Cx.withI (c : Cx) (N m : Nat) (g : Nat → Value) : Cx := { c with I := fun b o => if b = N ∧ o < m then some (g o) else c.I b o }

theorem Cx.withI_le {N m : Nat} {g : Nat → Value} (hN : ∀ o, c.I N o = none) : c.Le (c.withI N m g) where
  L _ _ _ hx := hx
  I b o v hx := by
    simp only [Cx.withI]
    by_cases hb : b = N ∧ o < m
    · obtain ⟨rfl, _⟩ := hb; rw [hN] at hx; cases hx
    · rw [if_neg hb]; exact hx

theorem G.lt (hg : G U c Φ h w) {t b o : Nat} (ht : (get h t).isSome) (hf : Φ t b o) : b < w.heap.size := by
  obtain ⟨e, he⟩ := Option.isSome_iff_exists.1 ht
  exact (hg.ents t e he).lt hf

theorem G.immLt (hg : G U c Φ h w) {b o : Nat} {v : Value} (hI : c.I b o = some v) : b < w.heap.size := block_lt (hg.imm b o v hI)

/-- new blocks alone, one of them never written again -/
theorem Step1.imm {w' : World} {m : Nat} {g : Nat → Value} {v : A U} {u : Value} {rd : List Nat} (hg : G U c Φ h w) (hfr : Fr (fun _ _ => False) w w')
    (hc : ∀ o, o < m → w'.cell? (at_ w.heap.size o) = some (g o)) (hv : RA U (c.withI w.heap.size m g) v u) :
    Step1 U c Φ h nx { v := v, rd := rd } w (c.withI w.heap.size m g) Φ u w' := by
  have hN : ∀ o, c.I w.heap.size o = none := fun o => by
    cases hI : c.I w.heap.size o with
    | none => rfl
    | some v => exact absurd (hg.immLt hI) (Nat.lt_irrefl _)
  have hle : c.Le (c.withI w.heap.size m g) := Cx.withI_le hN
  refine ⟨hle, fun _ _ _ => rfl, hv, ⟨fun s e he => ?_, fun s s' b o h1 h2 h3 h4 h5 => hg.apart s s' b o h1 (by simpa using h2) (by simpa using h3) h4 h5, fun b o v hI => ?_, fun s b o hs hf => ?_⟩,
    hfr.mono (fun _ _ _ hf => hf.elim), fun _ _ => rfl, fun s b o hs => by simp at hs, fun s hs => by simp at hs, fun b o v hI => by
      simp only [Cx.withI] at hI
      by_cases hb : b = w.heap.size ∧ o < m
      · exact .inr (.inl (by omega))
      · rw [if_neg hb] at hI; exact .inl hI⟩
  · refine (hg.ents s e (by simpa using he)).stays hle (fun _ => rfl) fun b o hf => ?_
    have hlt := hg.lt (t := s) (by simp at he; simp [he]) hf
    exact ⟨hfr.cell b o hlt (fun hf => hf), hfr.frozen b o hlt⟩
  · simp only [Cx.withI] at hI
    by_cases hb : b = w.heap.size ∧ o < m
    · rw [if_pos hb] at hI
      obtain ⟨rfl, ho⟩ := hb
      cases hI
      exact hc o ho
    · rw [if_neg hb] at hI
      exact (hfr.cell b o (hg.immLt hI) (fun hf => hf)).trans (hg.imm b o v hI)
  · have hlt := hg.lt (t := s) (by simpa using hs) hf
    simp only [Cx.withI]
    rw [if_neg (fun hb => by rw [hb.1] at hlt; exact Nat.lt_irrefl _ hlt)]
    exact hg.immApart s b o (by simpa using hs) hf

theorem decAll_ok (hU : U.Ok) {u : U.C} : ∀ (n : Nat) (l : List U.S) (xs : List (U.D u)) (vs : List Value), decAll u n l = some xs → RL U c l vs →
    xs.length = n ∧ vs.length = n * U.size u ∧ ∀ i k, i < n → k < U.size u → ∃ v, vs[i * U.size u + k]? = some v ∧ R U c ((U.enc u (xs.getD i (U.dft u))).getD k .hole) v
  | 0, l, xs, vs, hd, hl => by
    unfold decAll at hd
    cases l with
    | nil => simp at hd; subst hd; cases hl.unnil; exact ⟨rfl, by simp, fun i k hi => by omega⟩
    | cons x l => cases hd
  | n + 1, l, xs, vs, hd, hl => by
    unfold decAll at hd
    split at hd
    · rename_i x r hx hr
      cases hd
      have h1 := hU.dec_le u _ x hx c _ (hl.take (U.size u))
      obtain ⟨h2, h3, h4⟩ := decAll_ok hU n _ r _ hr (hl.drop (U.size u))
      have hlen1 : (vs.take (U.size u)).length = U.size u := by rw [h1.len, hU.enc_len]
      have hge : U.size u ≤ vs.length := by simp at hlen1; omega
      refine ⟨by simp [h2], ?_, fun i k hi hk => ?_⟩
      · simp at h3; rw [Nat.succ_mul]; omega
      · cases i with
        | zero =>
          have hlt : k < (U.enc u x).length := by rw [hU.enc_len]; exact hk
          obtain ⟨v, hv, hr⟩ := h1.at_ k _ (List.getElem?_eq_getElem hlt)
          rw [List.getElem?_take, if_pos hk] at hv
          refine ⟨v, by simpa using hv, ?_⟩
          simp only [List.getD_cons_zero]
          rw [getD_of_getElem? (List.getElem?_eq_getElem hlt)]
          exact hr
        | succ i =>
          obtain ⟨v, hv, hr⟩ := h4 i k (by omega) hk
          rw [List.getElem?_drop] at hv
          refine ⟨v, ?_, by simpa using hr⟩
          rw [Nat.succ_mul, show i * U.size u + U.size u + k = U.size u + (i * U.size u + k) by omega]
          exact hv
    · cases hd

theorem range_mod (z : Array Value) (n : Nat) (hz : 0 < z.size) : ((Array.range (n * z.size)).map (z[· % z.size]!)).toList = (List.replicate n z.toList).flatten := by
  rw [Array.toList_map, Array.toList_range]
  induction n with
  | zero => simp
  | succ n ih =>
    rw [Nat.succ_mul, List.range_add, List.map_append, ih, List.replicate_succ', List.flatten_append]
    congr 1
    simp only [List.map_map, List.flatten_cons, List.flatten_nil, List.append_nil]
    apply List.ext_getElem?
    intro k
    by_cases hk : k < z.size
    · rw [List.getElem?_map, List.getElem?_range hk]
      simp only [Option.map_some, Function.comp]
      rw [Nat.add_comm, Nat.add_mul_mod_self_right, Nat.mod_eq_of_lt hk]
      simp [hk]
    · rw [List.getElem?_eq_none (by simp; omega), List.getElem?_eq_none (by simp; omega)]

theorem RL.replicate {l : List U.S} {vs : List Value} (hl : RL U c l vs) (n : Nat) : RL U c (List.replicate n l).flatten (List.replicate n vs).flatten := by
  induction n with
  | zero => exact .nil
  | succ n ih => rw [List.replicate_succ, List.replicate_succ, List.flatten_cons, List.flatten_cons]; exact hl.append ih

theorem buildSlice_ok (hU : U.Ok) {ρ : Operand → Option (A U)} {ev : Operand → Value} {t : TypeId} {n : Nat} {ps : Array (Nat × Operand)} {out : Out U}
    (ho : (opBuildSlice P t n (ps.toList.map fun p => (p.1, ρ p.2))).outs = some out) (hg : G U c Φ h w) (hρ : ∀ p ∈ ps.toList, ∀ v, ρ p.2 = some v → RA U c v (ev p.2)) :
    ∃ u w' c' Φ', (Instr.buildSlice t n (ps.map fun p => (p.1, ev p.2))).run P w = .ok u w' ∧ Step1 U c Φ h nx out w c' Φ' u w' := by
  unfold opBuildSlice at ho
  split at ho
  · rename_i e hu
    split at ho
    · rename_i u z parts hue hz hp
      split at ho
      · rename_i m hm
        cases hb : Nat.beq m (U.size u) && Nat.ble 1 m && Nat.beq z.length m && Nat.ble (n * m) 16777216 with
        | false => simp [hb] at ho; exact (outs_fail ho).elim
        | true =>
          simp only [hb, cond_true] at ho
          simp only [Bool.and_eq_true] at hb
          obtain ⟨⟨⟨e1, e2⟩, e3⟩, e4⟩ := hb
          have e1 := nbeq e1
          have e2 := Nat.le_of_ble_eq_true e2
          have e3 := nbeq e3
          have e4 := Nat.le_of_ble_eq_true e4
          split at ho
          · rename_i l hl
            split at ho
            · rename_i xs hxs
              have := outs_ok ho; subst this
              have hP := partsOf_ok ps.toList parts hρ hp
              obtain ⟨zv, hzr, hzl⟩ := zeroCells_ok (c := c) hz
              have hzs : zv.cells.size = m := by have := hzl.len; simp at this; omega
              have hcells : RL U c (List.replicate n z).flatten ((Array.range (n * m)).map (zv.cells[· % zv.cells.size]!)).toList := by
                rw [show n * m = n * zv.cells.size by rw [hzs], range_mod zv.cells n (by omega)]
                exact hzl.replicate n
              obtain ⟨r, hr1, hr2⟩ := fill_ok parts _ _ l ((Array.range (n * m)).map (zv.cells[· % zv.cells.size]!)) hl hP hcells
              obtain ⟨hx1, hx2, hx3⟩ := decAll_ok hU n l xs r.toList hxs hr2
              have hqs : (ps.map fun p => (p.1, ev p.2)).toList = ps.toList.map fun p => (p.1, ev p.2) := by simp
              obtain ⟨ie, hie, hiz⟩ : ∃ ie, P.info? e = some ie ∧ ie.zero = some zv := by
                unfold zeroCells at hz
                split at hz
                · rename_i i hi
                  split at hz
                  · rename_i z' hz'
                    have := run_zeroValue' (P := P) hi hz' w
                    rw [hzr w] at this
                    cases this
                    exact ⟨i, hi, hz'⟩
                  · cases hz
                · cases hz
              have hies : ie.size = m := by unfold size? at hm; rw [hie] at hm; simpa using hm
              by_cases hn : n = 0
              · subst hn
                refine ⟨.slice (some (at_ w.heap.size 0)) 0 0, w.alloc (.cells r e), c.withI w.heap.size 0 (fun _ => undef), Φ, ?_, Step1.imm hg (Fr.alloc _ _ _) (fun o ho => by omega) ?_⟩
                · have hz0 : ∀ f : Nat → Value, (Array.range (0 * m)).map f = #[] := fun f => by rw [Nat.zero_mul]; apply Array.ext'; rw [Array.toList_map, Array.toList_range]; rfl
                  rw [hz0] at hr1
                  have hsz : (sizeOf e).run P w = .ok m w := run_sizeOf' hm w
                  unfold Instr.buildSlice
                  simp only [Sem.run_bind, run_underlying hu, Result.andThen_ok, hsz]
                  rw [if_neg (by omega), if_pos (by omega)]
                  simp only [Sem.run_pure, Result.andThen_ok, hz0, hqs, hr1]
                  rfl
                · have hx0 : xs = [] := by simpa using hx1
                  subst hx0
                  exact R.isl (b := w.heap.size) (o := 0) (fun _ _ => undef) (Nat.le_refl _) rfl (fun hh => by simp at hh) (fun i k hi => by simp at hi) (fun i k hi => by simp at hi)
              · have hpos : ¬ n * ie.size = 0 := by rw [hies]; intro hh; rcases Nat.mul_eq_zero.1 hh with h' | h' <;> omega
                have hrun := run_buildSlice (P := P) w t e n (ps.map fun p => (p.1, ev p.2)) r ie zv hu hie hiz (by rw [hies]; omega) hpos (by rw [hqs, hies]; exact hr1)
                let g : Nat → Value := fun o => r.toList.getD o undef
                have hcell : ∀ o, o < n * m → (w.alloc (.cells r e)).cell? (at_ w.heap.size o) = some (g o) := fun o ho => by
                  have hlt : o < r.toList.length := by rw [hx2, ← e1]; exact ho
                  rw [World.cell?_alloc_new]
                  simp only [g, List.getD, List.getElem?_eq_getElem hlt, Option.getD_some]
                  simp
                refine ⟨_, _, c.withI w.heap.size (n * m) g, Φ, hrun, Step1.imm hg (Fr.alloc _ _ _) hcell ?_⟩
                have hle : c.Le (c.withI w.heap.size (n * m) g) := Cx.withI_le fun o => by
                  cases hI : c.I w.heap.size o with
                  | none => rfl
                  | some v => exact absurd (hg.immLt hI) (Nat.lt_irrefl _)
                show R U _ (.isl .full u xs) (.slice (some (at_ w.heap.size 0)) n n)
                have hmain : R U (c.withI w.heap.size (n * m) g) (.isl .full u xs) (.slice (some (at_ w.heap.size 0)) xs.length n) := by
                  refine R.isl (b := w.heap.size) (o := 0) (fun i k => g (i * U.size u + k)) (by omega) hx1.symm (fun _ => rfl) (fun i k hi hk => ?_) (fun i k hi hk => ?_)
                  · rw [hx1] at hi
                    have hb : i * U.size u + k < n * m := by
                      rw [e1]
                      calc i * U.size u + k < i * U.size u + U.size u := by omega
                        _ = (i + 1) * U.size u := by rw [Nat.succ_mul]
                        _ ≤ n * U.size u := Nat.mul_le_mul_right _ (by omega)
                    simp only [Cx.withI, Nat.zero_add, true_and]
                    rw [if_pos hb]
                  · rw [hx1] at hi
                    obtain ⟨v, hv, hr⟩ := hx3 i k hi hk
                    have : g (i * U.size u + k) = v := by simp only [g]; rw [getD_of_getElem? hv]
                    rw [this]
                    exact hr.mono hle
                rwa [hx1] at hmain
            · exact (outs_fail ho).elim
          · exact (outs_fail ho).elim
      · exact (outs_fail ho).elim
    · exact (outs_fail ho).elim
  · exact (outs_fail ho).elim
end Go.Rf
namespace Go.Rf
set_option linter.unusedVariables false
set_option linter.unusedSimpArgs false
variable {U : Univ} {P : Program} {c : Cx} {Φ : Nat → Nat → Nat → Prop} {h : Heap U} {nx : Nat} {w : World}

/-- what stands in n cells is never written again -/
def Cx.freeze (c : Cx) (w : World) (b o n : Nat) : Cx := { L := c.L, I := fun b' o' => if b' = b ∧ o ≤ o' ∧ o' < o + n then w.cell? (at_ b o') else c.I b' o' }

theorem freeze_ok (hU : U.Ok) {s : Nat} {cells : List U.S} {v : U.C} {x : U.D v} {rd : List Nat} (hg : G U c Φ h w) (hk : get h s = some (.obj cells)) (hall : cells.all isCell = true) (hx : U.dec v cells = some x) {b o : Nat} (hL : c.L s 0 = some (b, o)) :
    ∃ c' Φ', Step1 U c Φ h nx { v := Rf.sc (.optr v (some x)), rd := rd, w := [(s, .dead)] } w c' Φ' (.pointer (some (at_ b o))) w ∧ c'.L = c.L := by
  obtain ⟨b1, o1, h1, h2, h3, h4, h5⟩ := hg.ents s _ hk
  rw [hL] at h1; cases h1
  rw [List.all_eq_true] at hall
  have hsome : (get h s).isSome := by rw [hk]; rfl
  have hcell : ∀ k, k < cells.length → ∃ u, w.cell? (at_ b (o + k)) = some u ∧ R U c (cells.getD k .hole) u ∧ Φ s b (o + k) := fun k hk' => by
    obtain ⟨⟨u, h6, h7⟩, _, h8⟩ := h3 k cells[k] (List.getElem?_eq_getElem hk') (hall _ (List.getElem_mem hk'))
    exact ⟨u, h6, by simpa [List.getD, hk'] using h7, h8⟩
  have hin : ∀ o', o ≤ o' → o' < o + cells.length → ∃ u, w.cell? (at_ b o') = some u ∧ Φ s b o' := fun o' ha hb => by
    obtain ⟨u, h6, _, h8⟩ := hcell (o' - o) (by omega)
    rw [show o + (o' - o) = o' by omega] at h6 h8
    exact ⟨u, h6, h8⟩
  have hle : c.Le (c.freeze w b o cells.length) := ⟨fun _ _ _ h => h, fun b' o' u hI => by
    show (if _ then _ else _) = _
    by_cases hc : b' = b ∧ o ≤ o' ∧ o' < o + cells.length
    · obtain ⟨rfl, ha, hb⟩ := hc
      obtain ⟨_, _, h8⟩ := hin o' ha hb
      have := hg.immApart s _ _ hsome h8
      rw [this] at hI; cases hI
    · rw [if_neg hc]; exact hI⟩
  obtain ⟨g, hgc⟩ : ∃ g : Nat → Value, ∀ k, k < cells.length → w.cell? (at_ b (o + k)) = some (g k) ∧ R U c (cells.getD k .hole) (g k) :=
    ⟨fun k => if hk : k < cells.length then (hcell k hk).choose else undef, fun k hk => by
      simp only [dif_pos hk]
      have h6 := (hcell k hk).choose_spec
      exact ⟨h6.1, h6.2.1⟩⟩
  have hRL : RL U c cells ((List.range cells.length).map g) := ⟨by simp, fun k y hk' => by
    have hlt := (List.getElem?_eq_some_iff.1 hk').1
    have h7 := (hgc k hlt).2
    rw [getD_of_getElem? hk'] at h7
    exact ⟨g k, by simp [hlt], h7⟩⟩
  have hRL' := hU.dec_le v cells x hx c _ hRL
  have hlen : U.size v = cells.length := by rw [← hU.enc_len v x, ← hRL'.len]; simp
  refine ⟨c.freeze w b o cells.length, fup Φ s (fun _ _ => False), ⟨hle, fun _ _ _ => rfl, ?_, ?_, .refl _ _, ?_, ?_, ?_, ?_⟩, rfl⟩
  · refine R.osome g (fun k hk' => ?_) fun k hk' => ?_
    · rw [hlen] at hk'
      show (if _ then _ else _) = _
      rw [if_pos ⟨rfl, by omega, by omega⟩, (hgc k hk').1]
    · have hk2 : k < (U.enc v x).length := by rw [hU.enc_len]; exact hk'
      obtain ⟨u, h6, h7⟩ := hRL'.at_ k _ (List.getElem?_eq_getElem hk2)
      rw [hlen] at hk'
      have : u = g k := by simpa [hk'] using h6.symm
      subst this
      rw [getD_of_getElem? (List.getElem?_eq_getElem hk2)]
      exact h7.mono hle
  · refine G.put hg hle (fun _ _ _ => rfl) (fun _ _ hf => hf) (fun _ _ _ _ _ _ => ⟨rfl, rfl⟩) (fun _ _ _ _ _ _ hf => hf) (fun b' o' u hI => ?_) (fun t b' o' ht h1 hf => ?_) (fun _ _ hf => hf.elim)
    · have hI : (if b' = b ∧ o ≤ o' ∧ o' < o + cells.length then w.cell? (at_ b o') else c.I b' o') = some u := hI
      split at hI
      · rename_i hc; rw [hc.1]; exact hI
      · exact hg.imm _ _ _ hI
    · show (if _ then _ else _) = _
      split
      · rename_i hc
        obtain ⟨rfl, ha, hb⟩ := hc
        obtain ⟨_, _, h8⟩ := hin o' ha hb
        exact absurd h8 (hg.apart t s _ _ ht h1 hsome hf)
      · exact hg.immApart t _ _ h1 hf
  · intro t ht
    have : t ≠ s := fun e => ht (by simp [e])
    simp [fup, this]
  · intro t b' o' ht hf
    have : t = s := by simpa using ht
    subst this
    simp [fup] at hf
  · intro t ht
    have : t = s := by simpa using ht
    subst this
    exact .inr hsome
  · intro b' o' u hI
    have hI : (if b' = b ∧ o ≤ o' ∧ o' < o + cells.length then w.cell? (at_ b o') else c.I b' o') = some u := hI
    split at hI
    · rename_i hc
      obtain ⟨rfl, ha, hb⟩ := hc
      obtain ⟨_, _, h8⟩ := hin o' ha hb
      exact .inr (.inr ⟨s, by simp, hsome, h8⟩)
    · exact .inl hI

theorem Step1.after {c1 c' : Cx} {Φ1 Φ' : Nat → Nat → Nat → Prop} {w' : World} {v v1 : A U} {rd rd1 rd2 : List Nat} {p u : Value} {s : Nat} {e : Ent U} (h1 : Step1 U c Φ h nx { v := v1, rd := rd1, w := [(s, e)] } w c1 Φ1 p w)
    (h2 : Step1 U c1 Φ1 ((s, e) :: h) nx { v := v, rd := rd2 } w c' Φ' u w') : Step1 U c Φ h nx { v := v, rd := rd, w := [(s, e)] } w c' Φ' u w' where
  le := h1.le.trans h2.le
  L t i ht := (h2.L t i (fun hh => by simp at hh; omega)).trans (h1.L t i (fun hh => by simp at hh; omega))
  val := h2.val
  g := h2.g
  fr := h2.fr.mono fun b o _ ⟨t, ht, _⟩ => by simp at ht
  foot t ht := (h2.foot t (by simp)).trans (h1.foot t ht)
  footw t b o ht hf := h1.footw t b o ht (by rw [← h2.foot t (by simp)]; exact hf)
  names := h1.names
  inew b o v hI := by
    rcases h2.inew b o v hI with h3 | h3 | ⟨t, ht, _⟩
    · exact h1.inew b o v h3
    · exact .inr (.inl h3)
    · simp at ht

theorem frz_ok {s : Nat} {r : OpR U} {out : Out U} (h : (r.frz s).outs = some out) : ∃ o, r.outs = some o ∧ out = { v := o.v, rd := [s], w := [(s, .dead)] } := by
  cases r with
  | ok o => cases h; exact ⟨o, rfl, rfl⟩
  | _ => cases h

theorem buildSlice_out {t : TypeId} {n : Nat} {parts : List (Nat × Option (A U))} {out : Out U} (h : (opBuildSlice P t n parts).outs = some out) : out = { v := out.v } := by
  unfold opBuildSlice at h
  split at h
  · split at h
    · split at h
      · simp only [Bool.cond_eq_ite] at h
        split at h
        · split at h
          · split at h
            · cases h; rfl
            · exact (outs_fail h).elim
          · exact (outs_fail h).elim
        · exact (outs_fail h).elim
      · exact (outs_fail h).elim
    · exact (outs_fail h).elim
  · exact (outs_fail h).elim

theorem buildSliceZ_ok (hU : U.Ok) {h' : Heap U} {ρ : Operand → Option (A U)} {ev : Operand → Value} {t : TypeId} {n : Nat} {ps : Array (Nat × Operand)} {out : Out U}
    (ho : (opBuildSliceZ P t n (ps.toList.map fun p => (p.1, ρ p.2)) h').outs = some out) (hag : ∀ s, s ∈ out.rd ∨ s ∈ out.w.map (·.1) → get h s = get h' s) (hg : G U c Φ h w) (hρ : ∀ p ∈ ps.toList, ∀ v, ρ p.2 = some v → RA U c v (ev p.2)) :
    ∃ u w' c' Φ', (Instr.buildSlice t n (ps.map fun p => (p.1, ev p.2))).run P w = .ok u w' ∧ Step1 U c Φ h nx out w c' Φ' u w' := by
  unfold opBuildSliceZ at ho
  split at ho
  · rename_i i a hps
    split at ho
    · rename_i a' s hfz
      obtain ⟨o, ho1, rfl⟩ := frz_ok ho
      have hout := buildSlice_out ho1
      obtain ⟨p, hp, hpi, hpa⟩ : ∃ p, ps = #[p] ∧ p.1 = i ∧ ρ p.2 = some a := by
        cases hl : ps.toList with
        | nil => rw [hl] at hps; cases hps
        | cons p r =>
          rw [hl] at hps
          cases r with
          | nil =>
            simp at hps
            exact ⟨p, by rw [← Array.toArray_toList (xs := ps), hl], hps.1, hps.2⟩
          | cons q r => simp at hps
      subst hp
      have hra := hρ p (by simp) a hpa
      unfold freezeV at hfz
      split at hfz
      · split at hfz
        · split at hfz
          · rename_i v s1 hv
            split at hfz
            · rename_i cells hk'
              cases hall : cells.all isCell with
              | false => simp [hall] at hfz
              | true =>
                simp only [hall, cond_true] at hfz
                split at hfz
                · rename_i x hx
                  simp only [Option.some.injEq, Prod.mk.injEq] at hfz
                  obtain ⟨rfl, rfl⟩ := hfz
                  have hk : get h s1 = some (.obj cells) := by rw [hag s1 (.inl (by simp))]; exact hk'
                  obtain ⟨b, o', hL, hpv⟩ : ∃ b o', c.L s1 0 = some (b, o') ∧ ev p.2 = .pointer (some (at_ b (o' + 0))) := by
                    have hra' : R U c (.ptr s1 0 0) (ev p.2) := hra
                    generalize hq : ev p.2 = pv at hra'
                    cases hra' with | ptr h0 => exact ⟨_, _, h0, rfl⟩
                  obtain ⟨c1, Φ1, hS, _⟩ := freeze_ok (nx := nx) (rd := []) hU hg hk hall hx hL
                  obtain ⟨u, w', c', Φ', hrun, hS2⟩ := buildSlice_ok (P := P) (nx := nx) (ρ := fun _ => some (Rf.sc (.optr v (some x)))) (ev := ev) (t := t) (n := n) (ps := #[p]) (out := o) hU (by rw [← hpi] at ho1; exact ho1) hS.g (fun q hq y hy => by
                    have : q = p := by simpa using hq
                    subst this
                    cases hy
                    show R U c1 (.optr v (some x)) (ev q.2)
                    rw [hpv]
                    exact hS.val)
                  rw [hout] at hS2
                  exact ⟨u, w', c', Φ', hrun, hS.after hS2⟩
                · cases hfz
            · cases hfz
          · cases hfz
        · cases hfz
      · cases hfz
    · exact buildSlice_ok hU ho hg hρ
  · exact buildSlice_ok hU ho hg hρ
end Go.Rf
namespace Go.Rf
set_option linter.unusedVariables false
set_option linter.unusedSimpArgs false
variable {U : Univ} {P : Program} {c : Cx} {Φ : Nat → Nat → Nat → Prop} {h : Heap U} {nx : Nat} {w : World}

/-- cells by rows of sz -/
theorem flatCells {f : Nat → Value → Prop} {g : Nat → Nat → Value → Prop} {n sz : Nat} (h : ∀ i k, i < n → k < sz → ∃ v, f (i * sz + k) v ∧ g i k v) :
    ∃ vs : List Value, vs.length = n * sz ∧ (∀ (j : Nat) v, vs[j]? = some v → f j v) ∧ ∀ i k, i < n → k < sz → ∃ v, vs[i * sz + k]? = some v ∧ g i k v := by
  rcases Nat.eq_zero_or_pos sz with rfl | hsz
  · exact ⟨[], by simp, fun j v hj => by simp at hj, fun i k _ hk => by omega⟩
  · have hsel : ∀ j, j < n * sz → ∃ v, f j v ∧ g (j / sz) (j % sz) v := fun j hj => by
      obtain ⟨v, h1, h2⟩ := h (j / sz) (j % sz) ((Nat.div_lt_iff_lt_mul hsz).2 hj) (Nat.mod_lt j hsz)
      rw [Nat.div_add_mod' j sz] at h1
      exact ⟨v, h1, h2⟩
    let pick : Nat → Value := fun j => if hj : j < n * sz then (hsel j hj).choose else undef
    have hpick : ∀ j, j < n * sz → f j (pick j) ∧ g (j / sz) (j % sz) (pick j) := fun j hj => by
      simp only [pick, dif_pos hj]; exact (hsel j hj).choose_spec
    refine ⟨(List.range (n * sz)).map pick, by simp, fun j v hj => ?_, fun i k hi hk => ?_⟩
    · rw [List.getElem?_map] at hj
      by_cases hlt : j < n * sz
      · rw [List.getElem?_range hlt] at hj
        simp at hj; subst hj
        exact (hpick j hlt).1
      · rw [List.getElem?_eq_none (by simp; omega)] at hj; simp at hj
    · have hlt : i * sz + k < n * sz := by
        calc i * sz + k < i * sz + sz := by omega
          _ = (i + 1) * sz := by rw [Nat.succ_mul]
          _ ≤ n * sz := Nat.mul_le_mul_right _ (by omega)
      refine ⟨pick (i * sz + k), by rw [List.getElem?_map, List.getElem?_range hlt]; rfl, ?_⟩
      have := (hpick _ hlt).2
      have e1 : (i * sz + k) / sz = i := by rw [Nat.add_comm, Nat.add_mul_div_right _ _ hsz, Nat.div_eq_of_lt hk]; omega
      have e2 : (i * sz + k) % sz = k := by rw [Nat.add_comm, Nat.add_mul_mod_self_right, Nat.mod_eq_of_lt hk]
      rwa [e1, e2] at this

/-- what is known of a slice's value -/
structure SlOK (U : Univ) (c : Cx) (t : Tok) (u : U.C) (xs : List (U.D u)) (p : Value) : Prop where
  ex : ∃ (a : Option Addr) (cap b o : Nat) (g : Nat → Nat → Value), p = .slice a xs.length cap ∧ xs.length ≤ cap ∧ TokOK c t a b o xs.length cap (U.size u) ∧ (0 < xs.length → a = some (at_ b o)) ∧
    (∀ i k, i < xs.length → k < U.size u → c.I b (o + (i * U.size u + k)) = some (g i k)) ∧
    (∀ i k, i < xs.length → k < U.size u → R U c ((U.enc u (xs.getD i (U.dft u))).getD k .hole) (g i k))

theorem isl_SlOK {t : Tok} {u : U.C} {xs : List (U.D u)} {p : Value} (h : R U c (.isl t u xs) p) : SlOK U c t u xs p := by
  cases h with
  | @isl _ _ _ a cap b o g hc ht ha hi hr => exact ⟨a, cap, b, o, g, rfl, hc, ht, ha, hi, hr⟩

theorem asList_ok {u : U.C} {x : U.S} {t : Tok} {xs : List (U.D u)} {p : Value} (h : asList u x = some (t, xs)) (hr : R U c x p) : SlOK U c t u xs p := by
  unfold asList at h
  split at h
  · split at h
    · rename_i e _
      subst e
      cases h
      exact isl_SlOK hr
    · cases h
  · cases h
    cases R.valEq hr
    exact ⟨none, 0, 0, 0, fun _ _ => undef, rfl, Nat.le_refl _, rfl, fun hh => by simp at hh, fun i k hi => by simp at hi, fun i k hi => by simp at hi⟩
  · cases h

/-- elements that are read: their cells -/
def SrcOK (U : Univ) (c : Cx) (w : World) (P : Program) (u : U.C) (ys : List (U.D u)) (q : Value) : Prop :=
  (Builtin.lenOf q).run P w = .ok ys.length w ∧ ∃ vs : List Value, vs.length = ys.length * U.size u ∧
    (Builtin.firstCells (U.size u) ys.length q).run P w = .ok vs.toArray w ∧ (∀ v ∈ vs, v.oneCell' = true) ∧
    ∀ i k, i < ys.length → k < U.size u → ∃ v, vs[i * U.size u + k]? = some v ∧ R U c ((U.enc u (ys.getD i (U.dft u))).getD k .hole) v

theorem one_of_rows {u : U.C} {ys : List (U.D u)} {vs : List Value} (h1 : vs.length = ys.length * U.size u)
    (h2 : ∀ i k, i < ys.length → k < U.size u → ∃ v, vs[i * U.size u + k]? = some v ∧ R U c ((U.enc u (ys.getD i (U.dft u))).getD k .hole) v) : ∀ v ∈ vs, v.oneCell' = true := by
  intro v hv
  obtain ⟨j, hj⟩ := List.getElem?_of_mem hv
  have hlt := (List.getElem?_eq_some_iff.1 hj).1
  rw [h1] at hlt
  have hsz : 0 < U.size u := by rcases Nat.eq_zero_or_pos (U.size u) with h | h; · rw [h] at hlt; simp at hlt
                                · exact h
  obtain ⟨v', h3, h4⟩ := h2 (j / U.size u) (j % U.size u) ((Nat.div_lt_iff_lt_mul hsz).2 hlt) (Nat.mod_lt j hsz)
  rw [Nat.div_add_mod', hj] at h3
  cases h3
  exact h4.one

theorem slice_src {u : U.C} {ys : List (U.D u)} {a : Option Addr} {cap b o : Nat} (ha : 0 < ys.length → a = some (at_ b o))
    (hc : ∀ i k, i < ys.length → k < U.size u → ∃ v, w.cell? (at_ b (o + (i * U.size u + k))) = some v ∧ R U c ((U.enc u (ys.getD i (U.dft u))).getD k .hole) v) :
    SrcOK U c w P u ys (.slice a ys.length cap) := by
  refine ⟨rfl, ?_⟩
  obtain ⟨vs, h1, h2, h3⟩ := flatCells (f := fun j v => w.cell? (at_ b (o + j)) = some v) hc
  refine ⟨vs, h1, ?_, one_of_rows h1 h3, h3⟩
  cases a with
  | none =>
    have hz : ys.length = 0 := by rcases Nat.eq_zero_or_pos ys.length with h | h; · exact h
                                  · have := ha h; cases this
    have : vs = [] := List.eq_nil_of_length_eq_zero (by rw [h1, hz]; simp)
    subst this
    rfl
  | some x =>
    have hl : (loadCells x (ys.length * U.size u)).run P w = .ok vs.toArray w := by
      rw [← h1]
      refine run_loadCells_list (P := P) w x vs fun j v hj => ?_
      have hlt := (List.getElem?_eq_some_iff.1 hj).1
      have hpos : 0 < ys.length := by rcases Nat.eq_zero_or_pos ys.length with h | h; · rw [h1, h] at hlt; simp at hlt
                                      · exact h
      have := ha hpos
      cases this
      rw [at_add]
      exact h2 j v hj
    simpa [Builtin.firstCells] using hl

theorem SlOK.src (hg : G U c Φ h w) {t : Tok} {u : U.C} {xs : List (U.D u)} {p : Value} (hs : SlOK U c t u xs p) : SrcOK U c w P u xs p := by
  obtain ⟨a, cap, b, o, g, rfl, hc, ht, ha, hi, hr⟩ := hs.ex
  exact slice_src ha fun i k h1 h2 => ⟨g i k, hg.imm _ _ _ (hi i k h1 h2), hr i k h1 h2⟩

theorem elems_ok (hU : U.Ok) {h' : Heap U} {u : U.C} {y : A U} {ys : List (U.D u)} {rd : List Nat} {q : Value} (he : elems u y h' = some (ys, rd)) (hag : ∀ s, s ∈ rd → get h s = get h' s)
    (hg : G U c Φ h w) (hy : RA U c y q) : SrcOK U c w P u ys q := by
  unfold elems at he
  split at he
  · split at he
    · rename_i e _
      subst e
      cases he
      exact (isl_SlOK (show R U c _ q from hy)).src hg
    · cases he
  · cases he
    cases R.valEq (show R U c _ q from hy)
    exact slice_src (ys := []) (a := none) (cap := 0) (b := 0) (o := 0) (fun hh => by simp at hh) fun i k hi => by simp at hi
  · rename_i s
    split at he
    · rename_i e _
      subst e
      cases he
      cases R.valEq (show R U c _ q from hy)
      obtain ⟨hlen, henc⟩ := hU.ofBytes s.data.toList
      have hs1 := hU.u8
      refine ⟨by rw [hlen]; rfl, s.data.toList.map fun b => .int .u8 b.toNat, by rw [hlen, hs1]; simp, ?_, fun v hv => ?_, fun i k hi hk => ?_⟩
      · rw [hlen]
        simp only [Builtin.firstCells, Sem.run_pure]
        congr 1
        have : s.extract 0 s.data.toList.length = s := by rw [Array.length_toList]; exact ByteArray.extract_zero_size
        rw [this]
        apply Array.ext'
        simp
      · simp at hv; obtain ⟨b, _, rfl⟩ := hv; rfl
      · rw [hs1] at hk ⊢
        have hk0 : k = 0 := by omega
        subst hk0
        rw [hlen] at hi
        rw [henc i hi]
        refine ⟨.int .u8 ((s.data.toList.getD i 0).toNat : Int), ?_, .val (okV_byte _)⟩
        simp only [Nat.mul_one, Nat.add_zero, List.getElem?_map, List.getElem?_eq_getElem hi, Option.map_some, List.getD, Option.getD_some]
    · cases he
  · rename_i s b n
    split at he
    · rename_i v nn f hgs
      split at he
      · rename_i e _
        subst e
        cases he
        have he' : get h s = some (.fam true v nn f) := by rw [hag s (by simp)]; exact hgs
        obtain ⟨A, hA, hA1, h2, _, _, hct⟩ := hg.ents s _ he'
        cases (show R U c _ q from hy) with
        | @sl _ _ _ cap b' o' a' hc ha' hl' =>
          have hlen : ((List.range n).map fun j => f (b + j)).length = n := by simp
          have := slice_src (P := P) (c := c) (w := w) (u := v) (ys := (List.range n).map fun j => f (b + j)) (a := a') (cap := cap) (b := b') (o := o') (fun hh => (ha' (by rwa [hlen] at hh)).2) (fun i k hi hk => by
            rw [hlen] at hi
            obtain ⟨x, hx⟩ := hl' i hi
            have hin := hA1 _ _ hx
            obtain ⟨hL, _⟩ := ha' (by omega)
            have hb0 := hA1 _ _ hL
            have e4 := hct rfl b hb0
            have e5 := hct rfl (b + i) hin
            have e6 := hA b hb0
            rw [hL] at e6
            simp only [Option.some.injEq] at e6
            obtain ⟨⟨v', hv', hr'⟩, _⟩ := h2 (b + i) k hin hk
            refine ⟨v', ?_, ?_⟩
            · rw [e5] at hv'
              rw [← e6] at e4
              simp only [Prod.mk.injEq] at e4
              rw [e4.1, e4.2]
              rw [Nat.add_mul] at hv'
              rwa [show (A 0).2 + b * U.size v + (i * U.size v + k) = (A 0).2 + (b * U.size v + i * U.size v) + k by omega]
            · have : ((List.range n).map fun j => f (b + j)).getD i (U.dft v) = f (b + i) := by
                simp [List.getD, List.getElem?_map, List.getElem?_range hi]
              rw [this]; exact hr')
          rwa [hlen] at this
      · cases he
    · cases he
  · cases he
end Go.Rf
namespace Go.Rf
set_option linter.unusedVariables false
set_option linter.unusedSimpArgs false
variable {U : Univ} {P : Program} {c : Cx} {Φ : Nat → Nat → Nat → Prop} {h : Heap U} {nx : Nat} {w : World}

theorem G.drew (hg : G U c Φ h w) : G U c Φ h w.drew where
  ents s e he := (hg.ents s e he).stays (.refl c) (fun _ => rfl) fun _ _ _ => ⟨rfl, rfl⟩
  apart := hg.apart
  imm := hg.imm
  immApart := hg.immApart

theorem EntOK.iff {c : Cx} {w : World} {s : Nat} {F F' : Nat → Nat → Prop} {e : Ent U} (h : EntOK c w s F e) (hf : ∀ b o, F b o ↔ F' b o) : EntOK c w s F' e := by
  have : F = F' := by funext b o; exact propext (hf b o)
  rwa [← this]

def sliceLike : TypeDesc → Bool
  | .slice _ => true
  | .string => true
  | _ => false

/-- the model's 'append' where there is room -/
theorem run_append_in {t t2 ty e : TypeId} {d2 : TypeDesc} {size n m cap : Nat} {base : Option Addr} {q : Value} {vs : List Value} {w' : World} (ht : P.underlying t = some (.slice e)) (ht2 : P.underlying t2 = some d2)
    (hd2 : sliceLike d2 = true) (hs : size? P e = some size) (hl : (Builtin.lenOf q).run P w = .ok m w) (hf : (Builtin.firstCells size m q).run P w = .ok vs.toArray w)
    (hroom : n + m ≤ cap) (hst : ∀ a, base = some a → (storeCells (a.add (n * size)) vs).run P w = .ok () w') (hn : base = none → w' = w) :
    (Builtin.append_ #[t, t2] ty #[.slice base n cap, q]).run P w = .ok (.slice base (n + m) cap) w' := by
  have hz : (do pure ((← underlying t2) matches .int _) : Sem Bool).run P w = .ok false w := by
    simp only [Sem.run_bind, run_underlying ht2, Result.andThen_ok, Sem.run_pure]
    cases d2 <;> first | rfl | (simp [sliceLike] at hd2; done)
  unfold Builtin.append_
  cases base with
  | none =>
    have := hn rfl
    subst this
    cases d2 <;> first | (simp [sliceLike] at hd2; done) | (simp [run_underlying ht, run_sizeOf' hs, run_underlying ht2, hl, hf, hroom]; done)
  | some a =>
    have hst' := hst a rfl
    cases d2 <;> first | (simp [sliceLike] at hd2; done) | (simp [run_underlying ht, run_sizeOf' hs, run_underlying ht2, hl, hf, hroom, hst']; done)

/-- and where there is none -/
theorem run_append_out {t t2 ty e : TypeId} {d2 : TypeDesc} {i : TypeInfo} {z : Value} {n m cap : Nat} {base : Option Addr} {q : Value} {vs olds : List Value} (ht : P.underlying t = some (.slice e)) (ht2 : P.underlying t2 = some d2)
    (hd2 : sliceLike d2 = true) (hi : P.info? e = some i) (hz : i.zero = some z) (hl : (Builtin.lenOf q).run P w = .ok m w) (hf : (Builtin.firstCells i.size m q).run P w.drew = .ok vs.toArray w.drew)
    (hfo : (Builtin.firstCells i.size n (.slice base n cap)).run P w.drew = .ok olds.toArray w.drew) (hg : cap < n + m) (hb : (n + m) * i.bytes ≤ 140737488355328) (h63 : n + m ≤ 9223372036854775807) :
    (Builtin.append_ #[t, t2] ty #[.slice base n cap, q]).run P w =
      .ok (.slice (some (at_ w.heap.size 0)) (n + m) (grownCap w (n + m) cap e))
        (w.drew.alloc (.cells (olds.toArray ++ vs.toArray ++ Builtin.zeroCells z.cells (grownCap w (n + m) cap e - (n + m))) e)) := by
  have hn : ¬ (n + m ≤ cap) := by omega
  have h48 := growslice_fits hg hb
  have h48' : ¬ (281474976710656 < Builtin.nextslicecap (n + m) cap * i.bytes) := by omega
  have h63' : ¬ (9223372036854775807 < ((n : Int) + (m : Int))) := by omega
  unfold Builtin.append_
  cases d2 <;> first
    | (simp [sliceLike] at hd2; done)
    | (simp [run_underlying ht, sizeOf, typeInfo, zeroValue, hi, hz, run_underlying ht2, hl, hn, h63', h48', Question.forced, hf, hfo, newRow, grownCap]; congr 2; apply Array.ext'; simp [List.append_assoc])

/-! ### what 'append' leaves -/
theorem Step1.tok0 {w' : World} (hg : G U c Φ h w) : True := trivial

theorem getD_append_left {α : Type} {l r : List α} {i : Nat} {d : α} (h : i < l.length) : (l ++ r).getD i d = l.getD i d := by
  simp [List.getD, List.getElem?_append_left h]
theorem getD_append_right {α : Type} {l r : List α} {i : Nat} {d : α} (h : l.length ≤ i) : (l ++ r).getD i d = r.getD (i - l.length) d := by
  simp [List.getD, List.getElem?_append_right h]

/-- two names for the mark: where the free cells begin, where they end -/
def tokL (b o e : Nat) : Nat → Option (Nat × Nat) := fun i => if i = 0 then some (b, o) else if i = 1 then some (b, e) else none

/-- the new mark, and what is never written again, laid: the last step of each way -/
theorem Step1.append {w' : World} {u : U.C} {xs ys : List (U.D u)} {v : Value} {rd : List Nat} {kk : List (Nat × Ent U)} {Φ0 : Nat → Nat → Nat → Prop} {I' : Nat → Nat → Option Value} {b o e : Nat}
    (hg : G U c Φ h w) (hg0 : G U c Φ0 (kk ++ h) w) (hs : ∀ i, c.L nx i = none) (hn : get (kk ++ h) nx = none)
    (hI : ∀ b o v, c.I b o = some v → I' b o = some v)
    (hw' : Fr (fun b o => ∃ s, s ∈ kk.map (·.1) ∧ (get h s).isSome ∧ Φ s b o) w w')
    (hkk : ∀ s, s ∈ kk.map (·.1) → (get h s).isSome)
    (hfoot : ∀ s, s ∉ kk.map (·.1) → Φ0 s = Φ s)
    (hfootk : ∀ s, s ∈ kk.map (·.1) → ∀ b o, ¬ Φ0 s b o)
    (hcells : ∀ x, o ≤ x → x < e → (∃ v, w'.cell? (at_ b x) = some v) ∧ w'.frozen? (at_ b x) = false)
    (howned : ∀ x, o ≤ x → x < e → w.heap.size ≤ b ∨ ∃ s, s ∈ kk.map (·.1) ∧ Φ s b x)
    (himm : ∀ b o v, I' b o = some v → w'.cell? (at_ b o) = some v)
    (hI1 : ∀ b' o' v, I' b' o' = some v → c.I b' o' = some v ∨ w.heap.size ≤ b' ∨ ∃ s, s ∈ kk.map (·.1) ∧ Φ s b' o')
    (hI2 : ∀ x, o ≤ x → x < e → I' b x = none)
    (hval : R U { L := (c.withL nx (tokL b o e)).L, I := I' } (.isl (.own nx) u (xs ++ ys)) v) :
    ∃ c' Φ', Step1 U c Φ h nx { v := Rf.sc (.isl (.own nx) u (xs ++ ys)), rd := rd, w := (nx, .tok) :: kk, nw := 1 } w c' Φ' v w' := by
  let c' : Cx := { L := (c.withL nx (tokL b o e)).L, I := I' }
  have hle : c.Le c' := ⟨(Cx.withL_le hs).L, hI⟩
  let F : Nat → Nat → Prop := fun b' x => b' = b ∧ o ≤ x ∧ x < e
  have hkh : ∀ t, (get (kk ++ h) t).isSome → t ∉ kk.map (·.1) → (get h t).isSome := fun t ht hk => by
    rw [get_append, get_none_of_notMem hk] at ht; exact ht
  have hold : ∀ t b' o', t ≠ nx → (get (kk ++ h) t).isSome → Φ0 t b' o' → t ∉ kk.map (·.1) ∧ (get h t).isSome ∧ Φ t b' o' ∧ b' < w.heap.size := fun t b' o' hts h1 hf => by
    have hk : t ∉ kk.map (·.1) := fun hk => hfootk t hk b' o' hf
    rw [hfoot t hk] at hf
    exact ⟨hk, hkh t h1 hk, hf, hg.lt (hkh t h1 hk) hf⟩
  have hapart : ∀ t b' o' s, t ∉ kk.map (·.1) → s ∈ kk.map (·.1) → (get h t).isSome → Φ t b' o' → Φ s b' o' → False := fun t b' o' s h1 h2 h3 h4 h5 =>
    hg.apart t s b' o' (fun e => h1 (e ▸ h2)) h3 (hkk s h2) h4 h5
  have hsame : ∀ t b' o', t ≠ nx → (get (kk ++ h) t).isSome → Φ0 t b' o' → w'.cell? (at_ b' o') = w.cell? (at_ b' o') ∧ w'.frozen? (at_ b' o') = w.frozen? (at_ b' o') := fun t b' o' hts h1 hf => by
    obtain ⟨h2, h3, h4, h5⟩ := hold t b' o' hts h1 hf
    exact ⟨hw'.cell b' o' h5 fun ⟨s, h6, _, h7⟩ => hapart t b' o' s h2 h6 h3 h4 h7, hw'.frozen b' o' h5⟩
  refine ⟨c', fup Φ0 nx F, hle, fun s i hsi => ?_, hval, ?_, hw'.mono ?_, fun s hsn => ?_, fun s b' o' hsn hf => ?_, fun s hsn => ?_, fun b' o' v hI' => ?_⟩
  · have : s ≠ nx := fun e => hsi (by subst e; simp)
    simp [c', Cx.withL, this]
  · have hx0 : c'.L nx 0 = some (b, o) := by simp [c', Cx.withL, tokL]
    have hx1 : c'.L nx 1 = some (b, e) := by simp [c', Cx.withL, tokL]
    refine hg0.put hle (fun t i ht => by simp [c', Cx.withL, ht]) ⟨b, o, e, hx0, hx1, fun x h1 h2 => ⟨(hcells x h1 h2).1, (hcells x h1 h2).2, rfl, h1, h2⟩, fun b' x hF => hF⟩ hsame
      (fun t b' o' hts h1 hf hF => ?_) himm (fun t b' o' hts h1 hf => ?_) (fun b' o' hF => ?_)
    · obtain ⟨h2, h3, h4, h5⟩ := hold t b' o' hts h1 hf
      obtain ⟨rfl, h6, h7⟩ := hF
      rcases howned o' h6 h7 with h8 | ⟨s, h8, h9⟩
      · exact absurd h5 (Nat.not_lt.2 h8)
      · exact hapart t b' o' s h2 h8 h3 h4 h9
    · obtain ⟨h2, h3, h4, h5⟩ := hold t b' o' hts h1 hf
      cases hI' : I' b' o' with
      | none => exact hI'
      | some v' =>
        exfalso
        rcases hI1 b' o' v' hI' with h6 | h6 | ⟨s, h6, h7⟩
        · rw [hg.immApart t b' o' h3 h4] at h6; cases h6
        · exact absurd h5 (Nat.not_lt.2 h6)
        · exact hapart t b' o' s h2 h6 h3 h4 h7
    · obtain ⟨rfl, h6, h7⟩ := hF
      exact hI2 o' h6 h7
  · rintro b' o' _ ⟨s, h1, h2, h3⟩
    exact ⟨s, by simp; exact .inr (by simpa using h1), h2, h3⟩
  · simp at hsn
    have h1 : s ≠ nx := hsn.1
    have h2 : s ∉ kk.map (·.1) := by simpa using hsn.2
    simp only [fup, if_neg h1]
    exact hfoot s h2
  · by_cases h1 : s = nx
    · subst h1
      simp only [fup, if_true] at hf
      obtain ⟨rfl, h2, h3⟩ := hf
      rcases howned o' h2 h3 with h4 | ⟨s', h4, h5⟩
      · exact .inl h4
      · exact .inr ⟨s', by simp; exact .inr (by simpa using h4), hkk s' h4, h5⟩
    · simp only [fup, if_neg h1] at hf
      have h2 : s ∈ kk.map (·.1) := by simp at hsn; rcases hsn with h2 | h2; exact absurd h2 h1; simpa using h2
      exact absurd hf (hfootk s h2 b' o')
  · simp at hsn
    rcases hsn with rfl | h1
    · exact .inl (by simp)
    · exact .inr (hkk s (by simpa using h1))
  · rcases hI1 b' o' v hI' with h1 | h1 | ⟨s, h1, h2⟩
    · exact .inl h1
    · exact .inr (.inl h1)
    · exact .inr (.inr ⟨s, by simp; exact .inr (by simpa using h1), hkk s h1, h2⟩)
end Go.Rf
