/- An evaluator of the model's code, and the proof that it is sound. Own work; no program in it. -/
import Derived.Calls
import Derived.Orders
import Derived.Scope
import Derived.Laws.ComplexArith
import Derived.Laws.Sem
import Derived.Laws.World
import Derived.Laws.Cells
import Derived.Laws.StructEq
import Derived.Deep.MidRow
import Derived.Laws.IdiomCopy
import Derived.Laws.Entries
import Derived.Laws.Slices
namespace Go.Rf
set_option linter.unusedVariables false
inductive Tok where
 |none|full|own (t:Nat)
inductive S (C:Type) (D:C->Type) where
 |val (v:Value)
 |ptr (s i off:Nat)
 |isl (t:Tok) (u:C) (xs:List (D u))
 |Q31 (u:C) (x:D u) (off:Nat)
 | Q37 (u : C) (x : Option (D u))
 |sl (s i n:Nat)
 | Q1q (s off m n i k : Nat)
 | asl (s off m n b l : Nat)
 |arr (s:Nat)
 |hole
 | box (u : C) (x : Option (D u))
 | row (u : C) (xs : List (D u))
 | Q2d (u : C) (xs : List (D u))
 | Q1n (u : C) (n : Nat) (f : Nat -> D u)
 | ref (f : Nat) (x : Option Nat)
 | Q3p (f : Nat) (x : Option Nat)
 | clo (f : Nat) (ps : List (Nat × Nat × Nat))
 | Q4Q (F m r i k : Nat)
 | rsl (own : Bool) (F m r b n : Nat)
structure QV where
 C:Type
 D:C->Type
 dft:(u:C)->D u
 size:C->Nat
 enc:(u:C)->D u->List (S C D)
 dec:(u:C)->List (S C D)->Option (D u)
 ofType:TypeId->Option C
 eq? :(u v:C)->Option (PLift (u=v))
 Q5k:(u:C)->List (D u)->Option (List UInt8)
 u8:C
 ofBytes:List UInt8->List (D u8)
 plain:C->Bool:=λ_=>true
 nf : Nat := 0
 famT:TypeId->Option (Nat×C):=λ_=>.none
 Q9Y:TypeId->Option Nat:=λ_=>.none
 Q6p : (v u : C) -> Nat -> Option (D v -> D u -> D v) := λ_ _ _ =>.none
 nn : Nat -> Bool := λ_ =>false
 rowT : TypeId -> Option (Nat × C) := λ_ =>.none
abbrev QV.S (U:QV):=Rf.S U.C U.D
structure V (U:QV) where
 g:Bool
 l:List U.S
inductive A (U:QV) where
 |v (x:V U)
 |t (xs:List (V U))
inductive Ent (U:QV) where
 |obj (cells:List U.S)
 |fam (contig:Bool) (u:U.C) (n:Nat) (f:Nat->U.D u)
 |tok
 |dead
 | iter (s : ByteArray) (pos : Nat)
 | Q30 (u : U.C) (n z : Nat) (f : Nat -> U.D u)
 | Q20 (gk gv : Bool) (ku vu : U.C) (n : Nat) (g : Nat -> List (U.D ku × U.D vu))
 | Q1a (u : U.C) (n : Nat) (g : Nat -> List (U.D u))
abbrev Env (U:QV):=List (Nat×A U)
abbrev Qr (U:QV):=List (Nat×Ent U)
def get {α:Type}:List (Nat×α)->Nat->Option α
 | [],_=>.none
 |(k,v)::r,t=>bif Nat.beq k t then some v else get r t
structure St (U:QV) where
 n : Nat
 env:Env U
 h:Qr U
 nx:Nat
structure Out (U:QV) where
 v:A U
 rd : List Nat := []
 w : List (Nat × Ent U) := []
 nw : Nat := 0
inductive OpR (U:QV):Type 1 where
 |fail
 |ok (o:Out U)
 |chk (b:Bool) (o:Out U)
 |opt (α:Type) (x:Option α) (k:α->Out U)
 |two (b:Bool) (x y:Out U)
def OpR.outs {U:QV}:OpR U->Option (Out U)
 | .fail=>.none
 | .ok o=>some o
 | .chk b o=>bif b then some o else .none
 | .opt _ x k=>x.map k
 | .two b x y=>bif b then some x else some y
abbrev Native (U:QV):=List (A U)->Qr U->Nat->OpR U
section
variable {U : QV}
def sc (x:U.S):A U:= .v ⟨false,[x]⟩
def scv (v:Value):A U:= .v ⟨false,[.val v]⟩
def one (x:U.S):OpR U:= .ok { v:=sc x}
def Z2m (P:Program) (t f:Nat):Option Nat:=
 match P.underlying t with
 |some (.struct fs)=>
  match fs[f]? with
  |some fl=>match P.info? fl.type with
   |some i=>bif Nat.beq i.size 0 then .none else some fl.offset
   | .none=>.none
  | .none=>.none
 |_=>.none
def fieldAt (P:Program) (t f:Nat):Option (Nat×TypeId):=
 match P.underlying t with
 |some (.struct fs)=>(fs[f]?).map λfl=>(fl.offset,fl.type)
 |_=>.none
def agg? (P:Program) (t:Nat):Option Bool:=
 match P.underlying t with
 |some (.struct _)=>some true
 |some (.array _ _)=>some true
 |some _=>some false
 | .none=>.none
def size? (P:Program) (t:Nat):Option Nat:=(P.info? t).map (·.size)
def Z1y {α:Type} (P:Program):Sem α->Option α
 | .pure a=>some a
 | .program k=>Z1y P (k P)
 | .mark _ k=>Z1y P k
 |_=>.none
def okV:Value->Bool
 | .int .u8 n=>decide (0<=n) && decide (n < 256)
 |v=>v.oneCell'
def okR:Value->Bool
 | .int .u8 _=>false
 |v=>v.oneCell'
def Z6g (v:Value):Option (A U):=
 match v with
 | .agg cs=>bif cs.toList.all okV then some (.v ⟨true,cs.toList.map .val⟩) else .none
 | .tuple cs=>bif Nat.beq cs.size 0 then some (.t []) else .none
 |v=>bif okV v then some (scv v) else .none
def opd (env:Env U):Operand->Option (A U)
 | .tmp t=>get env t
 | .const v=>Z6g v
 | .func f=>some (scv (.func (.func f) #[] #[]))
 | .global _=>.none
def Q9v:List U.S->Option (List Value)
 | []=>some []
 | .val v::r=>match Q9v r with
  |some l=>some (v::l)
  | .none=>.none
 |_=>.none
def Qa7:A U->Option Value
 | .v ⟨false,[.val v]⟩=>some v
 |_=>.none
def QM {α:Type} (off n:Nat) (l:List α):List α:=(l.drop off).take n
def Ze:U.S->Bool
 | .arr _=>false
 | .hole=>false
 | .box _ _=>false
 | .row _ _=>false
 | .Q2d _ _=>false
 | .Q1n _ _ _=>false
 |_=>true
def Z25:U.S->Bool
 | .arr _=>false
 | .hole=>false
 | .Q1n _ _ _=>false
 |_=>true
def QA {α:Type} (f:Nat->α) (i:Nat) (x:α):Nat->α:=λj=>if j=i then x else f j
def ld (h:Qr U) (s i off n:Nat):Option (List U.S):=
 match get h s with
 |some (.obj cells)=>
  let l:=QM off n cells
  bif Nat.beq l.length n && l.all Ze then some l else .none
 |some (.fam _ u _ f)=>
  let l:=QM off n (U.enc u (f i))
  bif Nat.beq l.length n && l.all Ze then some l else .none
 |some (.Q30 u _ _ f)=>
  let l:=QM off n (U.enc u (f i))
  bif Nat.beq l.length n && l.all Ze then some l else .none
 |_=>.none
def Q1v {α:Type} (off:Nat) (new l:List α):List α:=l.take off++new++l.drop (off+new.length)
def stE (h:Qr U) (s i off:Nat) (new:List U.S):Option (Ent U):=
 match get h s with
 |some (.obj cells)=>
  bif Nat.ble (off+new.length) cells.length && (QM off new.length cells).all Z25 && new.all Ze then some (.obj (Q1v off new cells)) else .none
 |some (.fam ct u n f)=>
  let old:=U.enc u (f i)
  bif Nat.ble (off+new.length) old.length && (QM off new.length old).all Z25 && new.all Ze then
   match U.dec u (Q1v off new old) with
   |some x=>some (.fam ct u n (QA f i x))
   | .none=>.none
  else .none
 |_=>.none
def stZ (h:Qr U) (s i off:Nat) (new:List U.S):Option (Nat×Ent U):=
 match get h s with
 |some (.Q30 u n z f)=>
  let old:=U.enc u (f i)
  bif Nat.ble (off+new.length) old.length && new.all Ze then
   match U.dec u (Q1v off new old) with
   |some x=>some (z,.Q30 u n z (QA f i x))
   | .none=>.none
  else .none
 |_=>.none
def Zn {α:Type} (k:Nat) (x:α) (l:List α):List α:=Q1v k [x] l
def ldA (h:Qr U) (s off m len i k n:Nat):Option (List U.S):=
 match get h s with
 |some (.obj cells)=>match cells[off]? with
  |some (.Q1n u len' f)=>
   let l:=QM k n (U.enc u (f i))
   bif Nat.beq m (U.size u) && Nat.beq len len' && Nat.beq l.length n && l.all Ze then some l else .none
  |_=>.none
 |_=>.none
def stA (h:Qr U) (s off m len i k:Nat) (new:List U.S):Option (Ent U):=
 match get h s with
 |some (.obj cells)=>match cells[off]? with
  |some (.Q1n u len' f)=>
   let old:=U.enc u (f i)
   bif Nat.beq m (U.size u) && Nat.beq len len' && Nat.ble (k+new.length) old.length && (QM k new.length old).all Z25 && new.all Ze then
    match U.dec u (Q1v k new old) with
    |some x=>some (.obj (Zn off (.Q1n u len' (QA f i x)) cells))
    | .none=>.none
   else .none
  |_=>.none
 |_=>.none
def asV (a:Bool) (l:List U.S):Option (A U):=
 match a with
 |true=>some (.v ⟨true,l⟩)
 |false=>match l with
  | [x]=>some (.v ⟨false,[x]⟩)
  |_=>.none
def Z4x (v:A U) (rd:List Nat):OpR U:=
 match v with
 | .v ⟨false,[.ref f x]⟩=>bif U.nn f then .opt Nat x (λi=>{ v:=sc (.ptr f i 0),rd:=rd}) else .ok { v:=sc (.ref f x),rd:=rd}
 |v=>.ok { v:=v,rd:=rd}
def Z7c (P:Program) (t:TypeId) (a:A U) (h:Qr U):OpR U:=
 match agg? P t,size? P t,a with
 |some g,some n,.v ⟨false,[.ptr s i off]⟩=>
  match ld h s i off n with
  |some l=>match asV g l with
   |some v=>Z4x v [s]
   | .none=>.fail
  | .none=>.fail
 |some g,some n,.v ⟨false,[.Q1q s off m len i k]⟩=>
  match ldA h s off m len i k n with
  |some l=>match asV g l with
   |some v=>Z4x v [s]
   | .none=>.fail
  | .none=>.fail
 |some g,some n,.v ⟨false,[.Q31 u x off]⟩=>
  let l:=QM off n (U.enc u x)
  bif Nat.beq l.length n then
   match asV g l with
   |some v=>.ok { v:=v}
   | .none=>.fail
  else .fail
 |some true,some n,.v ⟨false,[.Q37 u x]⟩=>bif Nat.beq n (U.size u) then .opt (U.D u) x (λy=>{ v:= .v ⟨true,U.enc u y⟩}) else .fail
 |_,_,_=>.fail
def Z6o (P:Program) (t:TypeId) (a v:A U) (h:Qr U):OpR U:=
 match size? P t,a,v with
 |some n,.v ⟨false,[.ptr s i off]⟩,.v x=>
  bif Nat.beq x.l.length n then
   match stE h s i off x.l with
   |some e=>.ok { v:= .t [],w:= [(s,e)]}
   | .none=>match stZ h s i off x.l with
    |some (z,e)=>.chk (Nat.ble z i) { v:= .t [],w:= [(s,e)]}
    | .none=>.fail
  else .fail
 |some n,.v ⟨false,[.Q1q s off m len i k]⟩,.v x=>
  bif Nat.beq x.l.length n then
   match stA h s off m len i k x.l with
   |some e=>.ok { v:= .t [],w:= [(s,e)]}
   | .none=>.fail
  else .fail
 |_,_,_=>.fail
def Z3l (P:Program) (t:TypeId) (a:A U) (f:Nat):OpR U:=
 match Z2m P t f,a with
 |some o,.v ⟨false,[.ptr s i off]⟩=>one (.ptr s i (off+o))
 |some o,.v ⟨false,[.Q1q s off m n i k]⟩=>one (.Q1q s off m n i (k+o))
 |some o,.v ⟨false,[.Q31 u x off]⟩=>one (.Q31 u x (off+o))
 |some o,.v ⟨false,[.Q37 u x]⟩=>.opt (U.D u) x (λy=>{ v:=sc (.Q31 u y o)})
 |some o,.v ⟨false,[.ref f x]⟩=>.opt Nat x (λi=>{ v:=sc (.ptr f i o)})
 |_,_=>.fail
def Z6k (P:Program) (t:TypeId) (a:A U) (f:Nat):OpR U:=
 match fieldAt P t f,a with
 |some (o,ft),.v ⟨true,l⟩=>
  match agg? P ft,size? P ft with
  |some g,some n=>
   let c:=QM o (bif g then n else 1) l
   bif g && !Nat.beq c.length n then .fail else
   match asV g c with
   |some v=>Z4x v []
   | .none=>.fail
  |_,_=>.fail
 |_,_=>.fail
def Z4C (P:Program):Nat->TypeId->List TypeId
 |0,t=>[t]
 |d+1,t=>
  match P.underlying t with
  |some (.struct fs)=>(fs.toList.map λf=>Z4C P d f.type).flatten
  |some (.array n e)=>(List.replicate n (Z4C P d e)).flatten
  |_=>[t]
def Q9e (P:Program) (t:TypeId) (v:Value):U.S:=
 match v with
 | .slice .none 0 0=>
  match P.underlying t with
  |some (.slice e)=>match U.ofType e with
   |some u=>.isl .full u []
   | .none=>.val v
  |_=>.val v
 |v=>.val v
def zeroCells (P:Program) (t:TypeId):Option (List U.S):=
 match P.info? t with
 |some i=>match i.zero with
  |some z=>if z.cells.toList.all okV then some (z.cells.toList.zipIdx.map λ(v,k)=>Q9e P ((Z4C P 20 t).getD k 0) v) else .none
  | .none=>.none
 | .none=>.none
def opBox (nx:Nat) (a:A U):OpR U:=
 match a with
 | .v x=>bif x.l.all Ze then .ok { v:=sc (.ptr nx 0 0),w:= [(nx,.obj x.l)],nw:=1} else .fail
 |_=>.fail
def Z3P (place:Nat->Option (Nat×Nat)) (cells:List U.S):List (Nat×List U.S)->Option (List U.S)
 | []=>some cells
 |(i,l)::rest=>
  match place i with
  | .none=>.none
  |some (off,size)=>
   bif Nat.beq l.length size && Nat.ble (off+size) cells.length then Z3P place (Q1v off l cells) rest else .none
def Z2N:List (Nat×Option (A U))->Option (List (Nat×List U.S))
 | []=>some []
 |(i,some (.v x))::r=>match Z2N r with
  |some l=>some ((i,x.l)::l)
  | .none=>.none
 |_=>.none
def Q6v (P:Program) (fs:List Field):Option (List (Nat×Nat)):=
 match fs with
 | []=>some []
 |f::r=>match P.info? f.type,Q6v P r with
  |some i,some l=>some ((f.offset,i.size)::l)
  |_,_=>.none
def Z6d (P:Program) (t:TypeId) (parts:List (Nat×Option (A U))):OpR U:=
 match zeroCells P t,Z2N parts with
 |some z,some ps=>
  match P.underlying t with
  |some (.struct fs)=>
   match Q6v P fs.toList with
   |some pl=>match Z3P (λi=>pl[i]?) z ps with
    |some l=>.ok { v:= .v ⟨true,l⟩}
    | .none=>.fail
   | .none=>.fail
  |some (.array _ e)=>
   match size? P e with
   |some n=>match Z3P (λi=>some (i*n,n)) z ps with
    |some l=>.ok { v:= .v ⟨true,l⟩}
    | .none=>.fail
   | .none=>.fail
  |_=>.fail
 |_,_=>.fail
def Q2 (k:IntKind) (a b:Int):Int:=k.wrap (a+b)
def Q1e (k:IntKind) (a b:Int):Int:=k.wrap (a - b)
def Q2A (k:IntKind) (a b:Int):Int:=k.wrap (a*b)
def Q4c (k:IntKind) (a b:Int):Int:=k.wrap (a.tdiv b)
def Q4K (a b:Int):Int:=a.tmod b
def Q50 (k:IntKind) (a b:Int):Int:=k.wrap ((BitVec.ofInt k.bits a &&& BitVec.ofInt k.bits b).toNat:Nat)
def ior (k:IntKind) (a b:Int):Int:=k.wrap ((BitVec.ofInt k.bits a|||BitVec.ofInt k.bits b).toNat:Nat)
def ixor (k:IntKind) (a b:Int):Int:=k.wrap ((BitVec.ofInt k.bits a^^^BitVec.ofInt k.bits b).toNat:Nat)
def Qab (k:IntKind) (a b:Int):Int:=k.wrap ((BitVec.ofInt k.bits a &&& ~~~BitVec.ofInt k.bits b).toNat:Nat)
def Q9d (k:IntKind) (a b:Int):Int:=k.wrap (a*2^(min b.toNat k.bits))
def Q5M (k:IntKind) (a b:Int):Int:=a.fdiv (2^(min b.toNat k.bits))
def ieq (a b:Int):Bool:=a==b
def ine (a b:Int):Bool:=a !=b
def ilt (a b:Int):Bool:=decide (a < b)
def ile (a b:Int):Bool:=decide (a<=b)
def imax (a b:Int):Int:=if b > a then b else a
def imin (a b:Int):Int:=if b < a then b else a
def inR (n:Int) (len:Nat):Bool:=decide (0<=n) && decide (n < (len:Int))
def Q93 (op:BinOp) (k:IntKind) (a b:Int):OpR U:=
 match op with
 | .add=>.ok { v:=scv (.int k (Q2 k a b))}
 | .sub=>.ok { v:=scv (.int k (Q1e k a b))}
 | .mul=>.ok { v:=scv (.int k (Q2A k a b))}
 | .quo=>.chk (ine b 0) { v:=scv (.int k (Q4c k a b))}
 | .rem=>.chk (ine b 0) { v:=scv (.int k (Q4K a b))}
 | .and=>.ok { v:=scv (.int k (Q50 k a b))}
 | .or=>.ok { v:=scv (.int k (ior k a b))}
 | .xor=>.ok { v:=scv (.int k (ixor k a b))}
 | .andNot=>.ok { v:=scv (.int k (Qab k a b))}
 | .eql=>.ok { v:=scv (.bool (ieq a b))}
 | .neq=>.ok { v:=scv (.bool (ine a b))}
 | .lss=>.ok { v:=scv (.bool (ilt a b))}
 | .leq=>.ok { v:=scv (.bool (ile a b))}
 | .gtr=>.ok { v:=scv (.bool (ilt b a))}
 | .geq=>.ok { v:=scv (.bool (ile b a))}
 |_=>.fail
def Z4T (op:BinOp) (k:IntKind) (a b:Int):OpR U:=
 match op with
 | .shl=>.chk (ile 0 b) { v:=scv (.int k (Q9d k a b))}
 | .shr=>.chk (ile 0 b) { v:=scv (.int k (Q5M k a b))}
 |_=>.fail
def Q8b (a b:ByteArray):Bool:=a.data.toList==b.data.toList
def eqF (P:Program) (eq:TypeId->List U.S->List U.S->Option Bool):List Field->List U.S->List U.S->Option Bool
 | [],_,_=>some true
 |f::r,xs,ys=>
  bif f.name== "_" then .none else
  match agg? P f.type,P.info? f.type with
  |some g,some i=>
   let n:=bif g then i.size else 1
   match eq f.type (QM f.offset n xs) (QM f.offset n ys),eqF P eq r xs ys with
   |some a,some b=>some (bif a then b else false)
   |_,_=>.none
  |_,_=>.none
def eqS (P:Program):Nat->TypeId->List U.S->List U.S->Option Bool
 |0,_,_,_=>.none
 |d+1,t,xs,ys=>
  match P.underlying t with
  |some (.struct fs)=>bif P.stoodInHeld t then .none else eqF P (eqS P d) fs.toList xs ys
  |some (.int _)=>match xs,ys with
   | [.val (.int j a)],[.val (.int k b)]=>bif decide (j=k) then some (ieq a b) else .none
   |_,_=>.none
  |some .bool=>match xs,ys with
   | [.val (.bool a)],[.val (.bool b)]=>some (a==b)
   |_,_=>.none
  |some .string=>match xs,ys with
   | [.val (.string a)],[.val (.string b)]=>some (Q8b a b)
   |_,_=>.none
  |_=>.none
def Z3r (v:Value):Bool:=
 match v with
 | .nilIface=>false
 | .agg _=>false
 |_=>true
def Z3s (P:Program) (op:BinOp) (t:TypeId):OpR U:=
 match P.underlying t,op with
 |some (.pointer _),.eql=>one (.val (.bool false))
 |some (.pointer _),.neq=>one (.val (.bool true))
 |_,_=>.fail
def Q7x (P:Program) (op:BinOp) (t:TypeId) (b:Bool):OpR U:=
 match P.underlying t,op with
 |some (.pointer _),.eql=>one (.val (.bool (!b)))
 |some (.pointer _),.neq=>one (.val (.bool b))
 |_,_=>.fail
def Z5R (P:Program) (op:BinOp) (t:TypeId) (a b:Value):OpR U:=
 bif Z3r a && Z3r b then
  match Z1y P (Go.binOp op t a b) with
  |some v=>bif okR v then one (.val v) else .fail
  | .none=>.fail
 else .fail
def fcmp (op:BinOp) (k:FloatKind) (x y:Nat):Option Bool:=
 match op with
 | .eql=>some (k.format.order x y==some .eq)
 | .neq=>some (k.format.order x y !=some .eq)
 | .lss=>some (k.format.order x y==some .lt)
 | .leq=>some (k.format.order x y==some .lt||k.format.order x y==some .eq)
 | .gtr=>some (k.format.order x y==some .gt)
 | .geq=>some (k.format.order x y==some .gt||k.format.order x y==some .eq)
 |_=>.none
def Qa2 (op:BinOp) (k:FloatKind) (a b:Nat):OpR U:=
 match fcmp op k a b with
 |some x=>.ok { v:=scv (.bool x)}
 | .none=>.opt Nat (floatBits op k a b) λr=>{ v:=scv (.float k r)}
def Qa4 (op:BinOp) (a b c d:Nat):OpR U:=
 match op with
 | .mul=>.opt (Nat×Nat) (cMulBits a b c d) λr=>{ v:=scv (.complex .f64 r.1 r.2)}
 |_=>.fail
def Q99 (P:Program) (op:BinOp) (t:TypeId) (x y:A U):OpR U:=
 match x,y with
 | .v ⟨false,[.val (.int k a)]⟩,.v ⟨false,[.val (.int k' b)]⟩=>
  match op with
  | .shl=>Z4T op k a b
  | .shr=>Z4T op k a b
  |_=>bif decide (k=k') then Q93 op k a b else .fail
 | .v ⟨false,[.ptr _ _ _]⟩,.v ⟨false,[.val (.pointer .none)]⟩=>Z3s P op t
 | .v ⟨false,[.Q31 _ _ _]⟩,.v ⟨false,[.val (.pointer .none)]⟩=>Z3s P op t
 | .v ⟨false,[.Q1q _ _ _ _ _ _]⟩,.v ⟨false,[.val (.pointer .none)]⟩=>Z3s P op t
 | .v ⟨false,[.Q37 _ x]⟩,.v ⟨false,[.val (.pointer .none)]⟩=>Q7x P op t x.isSome
 | .v ⟨false,[.ref _ x]⟩,.v ⟨false,[.val (.pointer .none)]⟩=>Q7x P op t x.isSome
 | .v ⟨true,l⟩,.v ⟨true,r⟩=>
  bif P.eqGuardType P.depth t then .fail else
  match agg? P t,eqS P 20 t l r with
  |some true,some b=>match op with| .eql=>one (.val (.bool b))| .neq=>one (.val (.bool (!b)))|_=>.fail
  |_,_=>.fail
 | .v ⟨false,[.val (.string a)]⟩,.v ⟨false,[.val (.string b)]⟩=>
  match op with
  | .add=>.chk (Nat.ble (a.size+b.size) 9223372036854775807) { v:=scv (.string (a++b))}
  |_=>Z5R P op t (.string a) (.string b)
 | .v ⟨false,[.val (.float j a)]⟩,.v ⟨false,[.val (.float k b)]⟩=>bif decide (j=k) then Qa2 op k a b else .fail
 | .v ⟨false,[.val (.complex .f64 a b)]⟩,.v ⟨false,[.val (.complex .f64 c d)]⟩=>Qa4 op a b c d
 | .v ⟨false,[.val a]⟩,.v ⟨false,[.val b]⟩=>Z5R P op t a b
 |_,_=>.fail
def opUn (P:Program) (op:UnOp) (x:A U):OpR U:=
 match Qa7 x with
 |some a=>match Z1y P (Go.Op.unary op a) with
  |some v=>bif okR v then one (.val v) else .fail
  | .none=>.fail
 | .none=>.fail
def Q9x (x:A U):OpR U:=
 match x with
 | .v ⟨false,[.ptr s i off]⟩=>one (.ptr s i off)
 | .v ⟨false,[.Q1q s off m n i k]⟩=>one (.Q1q s off m n i k)
 | .v ⟨false,[.Q31 u y off]⟩=>one (.Q31 u y off)
 | .v ⟨false,[.Q37 u x]⟩=>.opt (U.D u) x (λy=>{ v:=sc (.Q31 u y 0)})
 | .v ⟨false,[.ref f x]⟩=>.opt Nat x (λi=>{ v:=sc (.ptr f i 0)})
 |_=>.fail
def Z2V (u:U.C) (x:U.S):Option (Tok×List (U.D u)):=
 match x with
 | .isl t v xs=>match U.eq? v u with
  |some ⟨e⟩=>some (t,e▸xs)
  | .none=>.none
 | .val (.slice .none 0 0)=>some (.full,[])
 |_=>.none
def Z1O (P:Program) (t:TypeId) (x i:A U) (h:Qr U):OpR U:=
 match P.underlying t,x,i with
 |some (.slice e),.v ⟨false,[.isl _ u xs]⟩,.v ⟨false,[.val (.int _ n)]⟩=>
  match size? P e with
  |some m=>bif Nat.beq m (U.size u) then .chk (inR n xs.length) { v:=sc (.Q31 u (xs.getD n.toNat (U.dft u)) 0)} else .fail
  | .none=>.fail
 |some (.slice e),.v ⟨false,[.sl s b len]⟩,.v ⟨false,[.val (.int _ n)]⟩=>
  match size? P e,get h s with
  |some m,some (.fam true u _ _)=>bif Nat.beq m (U.size u) then .chk (inR n len) { v:=sc (.ptr s (b+n.toNat) 0),rd:= [s]} else .fail
  |some m,some (.Q30 u _ _ _)=>bif Nat.beq m (U.size u) then .chk (inR n len) { v:=sc (.ptr s (b+n.toNat) 0),rd:= [s]} else .fail
  |_,_=>.fail
 |some (.slice e),.v ⟨false,[.asl s off m' len b l]⟩,.v ⟨false,[.val (.int _ n)]⟩=>
  match size? P e with
  |some m=>bif Nat.beq m m' then .chk (inR n l) { v:=sc (.Q1q s off m' len (b+n.toNat) 0)} else .fail
  | .none=>.fail
 |some (.array len e),.v ⟨false,[.ptr s i off]⟩,.v ⟨false,[.val (.int _ n)]⟩=>
  match size? P e,get h s with
  |some m,some (.obj cells)=>
   match cells[off]? with
   |some (.Q1n u len' _)=>bif Nat.beq m (U.size u) && Nat.beq len len' && Nat.ble 2 len then .chk (inR n len) { v:=sc (.Q1q s off m len n.toNat 0),rd:= [s]} else .fail
   |some (.arr s')=>match get h s' with
    |some (.fam true u len' _)=>bif Nat.beq m (U.size u) && Nat.beq len len' && Nat.ble 2 len then .chk (inR n len) { v:=sc (.ptr s' n.toNat 0),rd:= [s,s']} else .fail
    |_=>.fail
   |_=>bif Nat.beq i 0 && Nat.ble 2 len then .chk (inR n len) { v:=sc (.ptr s i (off+n.toNat*m)),rd:= [s]} else .fail
  |_,_=>.fail
 |_,_,_=>.fail
def Z1E (u:U.C):Nat->List U.S->Option (List (U.D u))
 |0,l=>match l with| []=>some []|_=>.none
 |n+1,l=>match U.dec u (l.take (U.size u)),Z1E u n (l.drop (U.size u)) with
  |some x,some r=>some (x::r)
  |_,_=>.none
def Z4D (t:TypeId):Nat:=1000000007+t
def Z35 (P:Program) (len:Nat) (e:TypeId) (off:Nat) (cells:List U.S) (nx:Nat):Option (Ent U×List U.S×Nat):=
 match cells[off]? with
 |some (.Q1n u n f)=>bif Nat.beq n len then some (.fam true u n f,Q1v off [.arr nx] cells,U.size u) else .none
 |_=>match size? P e,U.ofType e with
  |some m,some u=>
   bif Nat.beq m (U.size u) && Nat.ble 1 m && Nat.beq (QM off (len*m) cells).length (len*m) && (QM off (len*m) cells).all Ze then
    match Z1E u len (QM off (len*m) cells) with
    |some xs=>some (.fam true u len λj=>xs.getD j (U.dft u),Q1v off (.arr nx::List.replicate (len*m - 1) .hole) cells,m)
    | .none=>.none
   else .none
  |_,_=>.none
def Z5g (P:Program) (t:TypeId) (x i:A U) (h:Qr U) (nx:Nat):Option (OpR U):=
 match P.underlying t,x,i with
 |some (.array len e),.v ⟨false,[.ptr s 0 off]⟩,.v ⟨false,[.val (.int _ n)]⟩=>
  match size? P e,get h s with
  |some m,some (.obj cells)=>
   bif Nat.ble 2 len then
    match Z35 P len e off cells nx with
    |some (en,cells',m')=>bif Nat.beq m m' then some (.chk (inR n len) { v:=sc (.ptr nx n.toNat 0),rd:= [s],w:= [(nx,en),(s,.obj cells')],nw:=1}) else .none
    | .none=>.none
   else .none
  |_,_=>.none
 |_,_,_=>.none
def Z3O (h:Qr U) (x:A U):Bool:=
 match x with
 | .v ⟨false,[.ptr s _ off]⟩=>match get h s with
  |some (.obj cells)=>match cells[off]? with
   |some (.Q1n _ _ _)=>true
   |_=>false
  |_=>false
 |_=>false
def Z4E (P:Program) (o:Bool) (t:TypeId) (x i:A U) (h:Qr U) (nx:Nat):OpR U:=
 bif Z3O h x then Z1O P t x i h else
 bif o then (match Z5g P t x i h nx with
  |some r=>r
  | .none=>Z1O P t x i h) else Z1O P t x i h
def OpR.Q8U (e:List (Nat×Ent U)) (rd:List Nat):OpR U->OpR U
 | .fail=>.fail
 | .ok o=>.ok { v:=o.v,rd:=rd++o.rd,w:=o.w++e,nw:=o.nw}
 | .chk b o=>.chk b { v:=o.v,rd:=rd++o.rd,w:=o.w++e,nw:=o.nw}
 | .opt α x k=>.opt α x λy=>{ v:=(k y).v,rd:=rd++(k y).rd,w:=(k y).w++e,nw:=(k y).nw}
 | .two b x y=>.two b { v:=x.v,rd:=rd++x.rd,w:=x.w++e,nw:=x.nw} { v:=y.v,rd:=rd++y.rd,w:=y.w++e,nw:=y.nw}
def flat (u:U.C) (n:Nat) (f:Nat->U.D u):List U.S:=((List.range n).map λi=>U.enc u (f i)).flatten
def Qa5:U.S->Bool
 | .arr _=>true
 | .Q1n _ _ _=>true
 |_=>false
def Z2f:List U.S->Nat->Option (Nat×U.S)
 | [],_=>.none
 |x::r,k=>bif Qa5 x then some (k,x) else Z2f r (k+1)
def Z4F:U.S->Bool
 | .hole=>true
 |_=>false
def Z1K:Nat->Nat->Nat->Nat->Qr U->List (Nat×Ent U)
 |0,_,_,_,_=>[]
 |fu+1,s,off,n,h=>
  match get h s with
  |some (.obj cells)=>
   match Z2f (QM off n cells) 0 with
   |some (k,.arr t)=>match get h t with
    |some (.fam true u m f)=>Z1K fu s off n ([(s,.obj (Zn (off+k) (.Q1n u m f) cells)),(t,.dead)]++h)++ [(s,.obj (Zn (off+k) (.Q1n u m f) cells)),(t,.dead)]
    |_=>[]
   |some (k,.Q1n u m f)=>
    bif Nat.beq (QM (off+k+1) (m*U.size u - 1) cells).length (m*U.size u - 1) && (QM (off+k+1) (m*U.size u - 1) cells).all Z4F && Nat.ble 1 (m*U.size u) then
     Z1K fu s off n ([(s,.obj (Q1v (off+k) (flat u m f) cells))]++h)++ [(s,.obj (Q1v (off+k) (flat u m f) cells))]
    else []
   |_=>[]
  |_=>[]
def Z2F:Nat->Nat->Nat->Nat->Qr U->List Nat
 |0,s,_,_,_=>[s]
 |fu+1,s,off,n,h=>
  match get h s with
  |some (.obj cells)=>
   match Z2f (QM off n cells) 0 with
   |some (k,.arr t)=>match get h t with
    |some (.fam true u m f)=>t::Z2F fu s off n ([(s,.obj (Zn (off+k) (.Q1n u m f) cells)),(t,.dead)]++h)
    |_=>[s,t]
   |some (k,.Q1n u m f)=>
    bif Nat.beq (QM (off+k+1) (m*U.size u - 1) cells).length (m*U.size u - 1) && (QM (off+k+1) (m*U.size u - 1) cells).all Z4F && Nat.ble 1 (m*U.size u) then
     Z2F fu s off n ([(s,.obj (Q1v (off+k) (flat u m f) cells))]++h)
    else [s]
   |_=>[s]
  |_=>[s]
def Z1W:List U.S->Nat->Option (Nat×Nat)
 | [],_=>.none
 | .arr t::_,k=>some (k,t)
 |_::r,k=>Z1W r (k+1)
def Z1c:Nat->Nat->Qr U->List (Nat×Ent U)
 |0,_,_=>[]
 |fu+1,s,h=>
  match get h s with
  |some (.obj cells)=>
   match Z1W cells 0 with
   |some (k,t)=>match get h t with
    |some (.fam true u m f)=>Z1c fu s ([(s,.obj (Zn k (.Q1n u m f) cells)),(t,.dead)]++h)++ [(s,.obj (Zn k (.Q1n u m f) cells)),(t,.dead)]
    |_=>[]
   | .none=>[]
  |_=>[]
def Z4b:Nat->Nat->Qr U->List Nat
 |0,s,_=>[s]
 |fu+1,s,h=>
  match get h s with
  |some (.obj cells)=>
   match Z1W cells 0 with
   |some (k,t)=>match get h t with
    |some (.fam true u m f)=>t::Z4b fu s ([(s,.obj (Zn k (.Q1n u m f) cells)),(t,.dead)]++h)
    |_=>[s,t]
   | .none=>[s]
  |_=>[s]
def Z4o (k:Nat) (v:U.C) (n:Nat) (cells:List U.S):Option (List U.S):=
 bif Nat.beq (QM k (n*U.size v) cells).length (n*U.size v) && (QM k (n*U.size v) cells).all Z25 && Nat.ble 1 (n*U.size v) then
  match Z1E v n (QM k (n*U.size v) cells) with
  |some xs=>some (Q1v k (.Q1n v n (λj=>xs.getD j (U.dft v))::List.replicate (n*U.size v - 1) .hole) cells)
  | .none=>.none
 else .none
def Q7B:List U.S->Nat->List U.S->List U.S
 | [],_,cells=>cells
 | .Q1n v n _::r,k,cells=>Q7B r (k+1) (match cells[k]? with
  |some (.Q1n _ _ _)=>cells
  |_=>match Z4o k v n cells with
   |some l=>l
   | .none=>cells)
 |_::r,k,cells=>Q7B r (k+1) cells
def Z2B:List U.S->Nat->List U.S->List U.S
 | [],_,cells=>cells
 | .Q1n v n _::r,k,cells=>Z2B r (k+1) (match Z4o k v n cells with
   |some l=>l
   | .none=>cells)
 | .Q2d u _::r,k,cells=>Z2B r (k+1) (match cells[k]? with
   |some (.isl .full v xs)=>(match U.eq? v u with
    |some ⟨e⟩=>Zn k (.Q2d u (e▸xs)) cells
    | .none=>cells)
   |some (.val (.slice .none 0 0))=>Zn k (.Q2d u []) cells
   |_=>cells)
 |_::r,k,cells=>Z2B r (k+1) cells
def Q8e (nx:Nat) (t:TypeId) (l:List U.S) (h:Qr U):OpR U:=
 match U.famT t with
 |some (F,u)=>match get h F with
  |some (.fam false v n f)=>match U.eq? v u with
   |some ⟨e⟩=>bif Nat.blt F U.nf then (match U.dec u (Z2B (U.enc u (U.dft u)) 0 l) with
    |some x=>.ok { v:=sc (.ptr F n 0),rd:= [F],w:= [(F,.fam false v (n+1) (QA f n (e▸x)))]}
    | .none=>.fail) else .fail
   | .none=>.fail
  |_=>.ok { v:=sc (.ptr nx 0 0),w:= [(nx,.obj l)],nw:=1}
 | .none=>.ok { v:=sc (.ptr nx 0 0),w:= [(nx,.obj l)],nw:=1}
def Z5m (P:Program) (nx:Nat) (t:TypeId) (h:Qr U):OpR U:=
 match zeroCells P t with
 |some l=>Q8e nx t l h
 | .none=>.fail
def Z76 (nx:Nat) (t:TypeId) (a:A U) (h:Qr U):OpR U:=
 match a with
 | .v x=>bif x.l.all Ze then Q8e nx t x.l h else .fail
 |_=>.fail
def Z27 (u:U.C) (s:Nat) (h:Qr U):List (Nat×Ent U):=
 match get h s with
 |some (.obj cells)=>[(s,.obj (Q7B (U.enc u (U.dft u)) 0 cells))]
 |_=>[]
def Q5v (s k:Nat) (u:U.C) (h:Qr U):List (Nat×Ent U):=
 match get h s with
 |some (.obj cells)=>match cells[k]? with
  |some (.isl (.own t) v xs)=>match U.eq? v u with
   |some ⟨e⟩=>match get h t with
    |some .tok=>bif Nat.beq s t then [] else [(s,.obj (Zn k (.Q2d u (e▸xs)) cells)),(t,.dead)]
    |_=>[]
   | .none=>[]
  |some (.isl .full v xs)=>match U.eq? v u with
   |some ⟨e⟩=>[(s,.obj (Zn k (.Q2d u (e▸xs)) cells))]
   | .none=>[]
  |some (.val (.slice .none 0 0))=>[(s,.obj (Zn k (.Q2d u []) cells))]
  |_=>[]
 |_=>[]
def Q96 (s k:Nat) (h:Qr U):List Nat:=
 match get h s with
 |some (.obj cells)=>match cells[k]? with
  |some (.isl (.own t) _ _)=>[s,t]
  |_=>[s]
 |_=>[s]
def olW (s:Nat):List U.S->Nat->Qr U->List (Nat×Ent U)
 | [],_,_=>[]
 | .Q2d u _::r,k,h=>olW s r (k+1) (Q5v s k u h++h)++Q5v s k u h
 |_::r,k,h=>olW s r (k+1) h
def olR (s:Nat):List U.S->Nat->Qr U->List Nat
 | [],_,_=>[s]
 | .Q2d u _::r,k,h=>Q96 s k h++olR s r (k+1) (Q5v s k u h++h)
 |_::r,k,h=>olR s r (k+1) h
def Q8a:List U.S->List U.S->Bool
 | .Q1n _ _ _::r,.Q1n _ _ _::l=>Q8a r l
 | .Q1n _ _ _::_,_=>true
 | .Q2d _ _::r,.Q2d _ _::l=>Q8a r l
 | .Q2d _ _::_,_=>true
 |_::r,_::l=>Q8a r l
 |_,_=>false
def Q4q (l:List (Nat×U.C)) (h:Qr U):List (Nat×U.C):=
 l.filter λp=>match get h p.1 with
  |some (.obj cells)=>Q8a (U.enc p.2 (U.dft p.2)) cells
  |_=>false
def ZC:List (Nat×U.C)->Qr U->List (Nat×Ent U)
 | [],_=>[]
 |(s,u)::r,h=>
  let e:=Z1c 20 s h
  let e:=Z27 u s (e++h)++e
  let e:=olW s (U.enc u (U.dft u)) 0 (e++h)++e
  ZC r (e++h)++e
def Z4p:List (Nat×U.C)->Qr U->List Nat
 | [],_=>[]
 |(s,u)::r,h=>
  let e:=Z1c 20 s h
  let e':=Z27 u s (e++h)++e
  let e2:=olW s (U.enc u (U.dft u)) 0 (e'++h)++e'
  s::Z4b 20 s h++(olR s (U.enc u (U.dft u)) 0 (e'++h)++Z4p r (e2++h))
def placeOf (P:Program) (t:TypeId) (a:A U):Option (Nat×Nat×Nat):=
 match size? P t,a with
 |some n,.v ⟨false,[.ptr s _ off]⟩=>some (s,off,n)
 |_,_=>.none
def Q75 (P:Program) (t:TypeId) (a:A U) (h:Qr U) (k:Qr U->OpR U):OpR U:=
 match placeOf P t a with
 |some (s,off,n)=>match Z1K 8 s off n h with
  | []=>k h
  |e=>(k (e++h)).Q8U e (Z2F 8 s off n h)
 | .none=>k h
def Z7f (a:A U) (h:Qr U) (nx:Nat):Option (Out U):=
 match a with
 | .v ⟨false,[.ptr s i off]⟩=>match get h s with
  |some (.obj cells)=>match cells[off]? with
   |some (.Q2d u xs)=>bif Nat.beq i 0 then some { v:=sc (.isl (.own nx) u xs),rd:= [s],w:= [(nx,.tok),(s,.obj (Zn off (.isl (.own nx) u xs) cells))],nw:=1} else .none
   |_=>.none
  |_=>.none
 |_=>.none
def Z80:Nat:=5000000021
def Z7o (a:A U) (h:Qr U):Option (Out U):=
 match a with
 | .v ⟨false,[.ptr s i off]⟩=>match get h s with
  |some (.obj cells)=>match cells[off]? with
   |some (.Q2d u xs)=>bif Nat.beq i 0 then some { v:=sc (.isl .none u xs),rd:= [s]} else .none
   |_=>.none
  |_=>.none
 |_=>.none
def Z8d (P:Program) (look:Bool) (t:TypeId) (a:A U) (h:Qr U) (nx:Nat):OpR U:=
 match (match agg? P t with|some false=>(bif look then Z7o a h else Z7f a h nx)|_=>.none) with
 |some o=>.ok o
 | .none=>Q75 P t a h λh=>Z7c P t a h
def Z71 (P:Program) (t:TypeId) (a v:A U) (h:Qr U):OpR U:=Q75 P t a h λh=>Z6o P t a v h
def Z3y (j:IntKind):List U.S->Option (List Int)
 | []=>some []
 | .val (.int k n)::r=>match Z3y j r with
  |some l=>bif decide (k=j) then some (n::l) else .none
  | .none=>.none
 |_=>.none
def Z3D:List U.S->Option (List ByteArray)
 | []=>some []
 | .val (.string n)::r=>match Z3D r with
  |some l=>some (n::l)
  | .none=>.none
 |_=>.none
def Z2Z:List U.S->Option (List Bool)
 | []=>some []
 | .val (.bool n)::r=>match Z2Z r with
  |some l=>some (n::l)
  | .none=>.none
 |_=>.none
def every {α:Type} (m:Nat):Nat->List α->List α
 |0,_=>[]
 |f+1,l=>match l with
  | []=>[]
  |x::_=>x::every m f (l.drop m)
def Z5t (i:Nat) (l:List U.S):Option U.S:=
 match l with
 | .val (.int j _)::_=>match Z3y j l with
  |some ns=>some (.val (.int j (ns.getD i 0)))
  | .none=>.none
 | .val (.string _)::_=>match Z3D l with
  |some ns=>some (.val (.string (ns.getD i .empty)))
  | .none=>.none
 | .val (.bool _)::_=>match Z2Z l with
  |some ns=>some (.val (.bool (ns.getD i false)))
  | .none=>.none
 | .ptr _ _ _ :: _ =>l[i]?
 | .Q1q _ _ _ _ _ _::_=>l[i]?
 |_=>.none
def Z2o (i m:Nat) (l:List U.S):Nat->Option (List U.S)
 |0=>some []
 |k+1=>match Z2o i m l k,Z5t i (every m l.length (l.drop k)) with
  |some r,some c=>some (r++ [c])
  |_,_=>.none
def Z64 (P:Program) (t:TypeId) (x i:A U):OpR U:=
 match P.underlying t,x,i with
 |some (.array len e),.v ⟨true,l⟩,.v ⟨false,[.val (.int _ n)]⟩=>
  match size? P e,agg? P e with
  |some m,some g=>
   bif Nat.beq l.length (len*m) && Nat.ble 1 m then
    match Z2o n.toNat m l m with
    |some c=>match asV g c with
     |some v=>.chk (inR n len) { v:=v}
     | .none=>.fail
    | .none=>.fail
   else .fail
  |_,_=>.fail
 |some .string,.v ⟨false,[.val (.string s)]⟩,.v ⟨false,[.val (.int _ n)]⟩=>
  .chk (inR n s.size) { v:=scv (.int .u8 ((s.data.toList.getD n.toNat 0).toNat:Int))}
 |_,_,_=>.fail
def ZD (y:Option (Option (A U))) (d:Nat):Option Int:=
 match y with
 | .none=>some (d:Int)
 |some (some (.v ⟨false,[.val (.int _ n)]⟩))=>some n
 |_=>.none
def le3 (a b:Int) (c:Nat):Bool:=bif ile 0 a then bif ile a b then ile b (c:Int) else false else false
def Z2J (P:Program) (t:TypeId) (x:A U) (lo hi mx:Option (Option (A U))) (h:Qr U):OpR U:=
 match P.underlying t,x with
 |some .string,.v ⟨false,[.val (.string s)]⟩=>
  match mx,ZD lo 0,ZD hi s.size with
  | .none,some l,some m=>.chk (le3 l m s.size) { v:=scv (.string (s.extract l.toNat m.toNat))}
  |_,_,_=>.fail
 |some (.slice e),.v ⟨false,[.isl _ u xs]⟩=>
  match size? P e,ZD lo 0,ZD hi xs.length with
  |some m,some l,some r=>
   bif Nat.beq m (U.size u) then
    match mx with
    | .none=>.chk (le3 l r xs.length) { v:=sc (.isl .none u ((xs.take r.toNat).drop l.toNat))}
    |some (some (.v ⟨false,[.val (.int _ c)]⟩))=>bif hi.isSome then .chk (bif le3 l r xs.length then ieq r c else false) { v:=sc (.isl .full u ((xs.take r.toNat).drop l.toNat))} else .fail
    |_=>.fail
   else .fail
  |_,_,_=>.fail
 |some (.slice e),.v ⟨false,[.sl s b n]⟩=>
  match size? P e,ZD lo 0,ZD hi n,mx,get h s with
  |some m,some l,some r,.none,some (.fam true u _ _)=>
   bif Nat.beq m (U.size u) then .chk (le3 l r n) { v:=sc (.sl s (b+l.toNat) (r.toNat - l.toNat)),rd:= [s]} else .fail
  |_,_,_,_,_=>.fail
 |some (.slice e),.v ⟨false,[.asl s off m' len b n]⟩=>
  match size? P e,ZD lo 0,ZD hi n,mx with
  |some m,some l,some r,.none=>
   bif Nat.beq m m' then .chk (le3 l r n) { v:=sc (.asl s off m' len (b+l.toNat) (r.toNat - l.toNat))} else .fail
  |_,_,_,_=>.fail
 |some (.array len e),.v ⟨false,[.ptr s i off]⟩=>
  match size? P e,ZD lo 0,ZD hi len,mx,get h s with
  |some m,some l,some r,.none,some (.obj cells)=>
   match cells[off]? with
   |some (.Q1n u len' _)=>bif Nat.beq m (U.size u) && Nat.beq len len' then .chk (le3 l r len) { v:=sc (.asl s off m len l.toNat (r.toNat - l.toNat)),rd:= [s]} else .fail
   |some (.arr s')=>match get h s' with
    |some (.fam true u len' _)=>bif Nat.beq m (U.size u) && Nat.beq len len' && Nat.beq i 0 then .chk (le3 l r len) { v:=sc (.sl s' l.toNat (r.toNat - l.toNat)),rd:= [s,s']} else .fail
    |_=>.fail
   |_=>.fail
  |_,_,_,_,_=>.fail
 |_,_=>.fail
def Z4k (P:Program) (t:TypeId) (x:A U) (lo hi mx:Option (Option (A U))) (h:Qr U) (nx:Nat):Option (OpR U):=
 match P.underlying t,x with
 |some (.array len e),.v ⟨false,[.ptr s 0 off]⟩=>
  match size? P e,ZD lo 0,ZD hi len,mx,get h s with
  |some m,some l,some r,.none,some (.obj cells)=>
   bif Nat.ble 1 len then
    match Z35 P len e off cells nx with
    |some (en,cells',m')=>bif Nat.beq m m' then some (.chk (le3 l r len) { v:=sc (.sl nx l.toNat (r.toNat - l.toNat)),rd:= [s],w:= [(nx,en),(s,.obj cells')],nw:=1}) else .none
    | .none=>.none
   else .none
  |_,_,_,_,_=>.none
 |_,_=>.none
def Z5u (P:Program) (o:Bool) (t:TypeId) (x:A U) (lo hi mx:Option (Option (A U))) (h:Qr U) (nx:Nat):OpR U:=
 bif Z3O h x then Z2J P t x lo hi mx h else
 bif o then (match Z4k P t x lo hi mx h nx with
  |some r=>r
  | .none=>Z2J P t x lo hi mx h) else Z2J P t x lo hi mx h
def ZX (P:Program) (t:TypeId) (n:Nat) (parts:List (Nat×Option (A U))):OpR U:=
 match P.underlying t with
 |some (.slice e)=>
  match U.ofType e,zeroCells (U:=U) P e,Z2N parts with
  |some u,some z,some ps=>
   match size? P e with
   |some m=>
    bif Nat.beq m (U.size u) && Nat.ble 1 m && Nat.beq z.length m && Nat.ble (n*m) 16777216 then
     match Z3P (λi=>some (i*m,m)) (List.replicate n z).flatten ps with
     |some l=>match Z1E u n l with
      |some xs=>.ok { v:=sc (.isl .full u xs)}
      | .none=>.fail
     | .none=>.fail
    else .fail
   | .none=>.fail
  |_,_,_=>.fail
 |_=>.fail
def Z82 (P:Program) (t:TypeId) (a:A U) (h:Qr U):Option (A U×Nat):=
 match P.underlying t with
 |some (.slice e)=>match P.underlying e with
  |some (.pointer se)=>match U.ofType se,a with
   |some v,.v ⟨false,[.ptr s 0 0]⟩=>match get h s with
    |some (.obj cells)=>bif cells.all Ze then (match U.dec v cells with
     |some x=>some (sc (.Q37 v (some x)),s)
     | .none=>.none) else .none
    |_=>.none
   |_,_=>.none
  |_=>.none
 |_=>.none
def OpR.frz (s:Nat):OpR U->OpR U
 | .ok o=>.ok { v:=o.v,rd:= [s],w:= [(s,.dead)]}
 |_=>.fail
def Z88 (P:Program) (t:TypeId) (a:A U) (h:Qr U):Option (A U×Nat×Bool×Ent U):=
 match P.underlying t with
 |some (.slice e)=>match P.underlying e with
  |some (.pointer se)=>match U.ofType se,a with
   |some v,.v ⟨false,[.ptr s i off]⟩=>match get h s with
    |some (.Q30 v' n z f)=>match U.eq? v' v with
     |some ⟨q⟩=>bif Nat.beq off 0 then some (sc (.Q37 v (some (q▸f i))),s,Nat.beq i z,.Q30 v' n (z+1) f) else .none
     | .none=>.none
    |_=>.none
   |_,_=>.none
  |_=>.none
 |_=>.none
def OpR.frzE (s:Nat) (b:Bool) (e:Ent U):OpR U->OpR U
 | .ok o=>.chk b { v:=o.v,rd:= [s],w:= [(s,e)]}
 |_=>.fail
def Z2z (P:Program) (t:TypeId) (n:Nat) (parts:List (Nat×Option (A U))) (h:Qr U):OpR U:=
 match parts with
 | [(i,some a)]=>match Z88 P t a h with
  |some (a',s,b,e)=>(ZX P t n [(i,some a')]).frzE s b e
  | .none=>match Z82 P t a h with
   |some (a',s)=>(ZX P t n [(i,some a')]).frz s
   | .none=>ZX P t n parts
 |_=>ZX P t n parts
def elems (u:U.C) (x:A U) (h:Qr U):Option (List (U.D u)×List Nat):=
 match x with
 | .v ⟨false,[.isl _ v xs]⟩=>match U.eq? v u with
  |some ⟨e⟩=>some (e▸xs,[])
  | .none=>.none
 | .v ⟨false,[.val (.slice .none 0 0)]⟩=>some ([],[])
 | .v ⟨false,[.val (.string s)]⟩=>match U.eq? U.u8 u with
  |some ⟨e⟩=>some (e▸U.ofBytes s.data.toList,[])
  | .none=>.none
 | .v ⟨false,[.sl s b n]⟩=>match get h s with
  |some (.fam true v _ f)=>bif U.plain v then (match U.eq? v u with
   |some ⟨e⟩=>some ((List.range n).map λj=>e▸f (b+j),[s])
   | .none=>.none) else .none
  |_=>.none
 | .v ⟨false,[.asl s off m len b n]⟩=>match get h s with
  |some (.obj cells)=>match cells[off]? with
   |some (.Q1n v len' f)=>bif U.plain v && Nat.beq m (U.size v) && Nat.beq len len' then (match U.eq? v u with
    |some ⟨e⟩=>some ((List.range n).map λj=>e▸f (b+j),[s])
    | .none=>.none) else .none
   |_=>.none
  |_=>.none
 |_=>.none
def room (n bytes : Nat) : Bool := Nat.ble (n * bytes) 140737488355328
def Z1u (P:Program) (t t2:TypeId) (x y:A U) (h:Qr U) (nx:Nat):OpR U:=
 match P.underlying t,(match P.underlying t2 with|some (.slice _)=>true|some .string=>true|_=>false) with
 |some (.slice e),true=>
  match U.ofType e,P.info? e,x,elems? y with
  |some u,some i,.v ⟨false,[c]⟩,true=>
   bif Nat.beq i.size (U.size u) && Nat.ble 1 i.size && Nat.ble 1 i.bytes && i.zero.any (λz=>Nat.beq z.cells.size i.size) then
    match Z2V u c,elems u y h with
    |some (.full,xs),some (ys,rd)=>
     .chk (room (xs.length+ys.length) i.bytes) { v:=sc (.isl (.own nx) u (xs++ys)),rd:=rd,w:= [(nx,.tok)],nw:=1}
    |some (.own k,xs),some (ys,rd)=>
     match get h k with
     |some .tok=>.chk (room (xs.length+ys.length) i.bytes) { v:=sc (.isl (.own nx) u (xs++ys)),rd:=rd,w:= [(nx,.tok),(k,.dead)],nw:=1}
     |_=>.fail
    |_,_=>.fail
   else .fail
  |_,_,_,_=>.fail
 |_,_=>.fail
 where
 elems? :A U->Bool
  | .v ⟨false,[_]⟩=>true
  |_=>false
def Z37 (P:Program) (src dst:TypeId) (x:A U) (h:Qr U):OpR U:=
 match x with
 | .v ⟨false,[.val (.string s)]⟩=>
  match P.underlying src,P.underlying dst with
  |some .string,some .string=>.ok { v:=scv (.string s)}
  |some .string,some (.slice e)=>match P.underlying e with
   |some (.int .u8)=>.ok { v:=sc (.isl .none U.u8 (U.ofBytes s.data.toList))}
   |_=>.fail
  |_,_=>.fail
 | .v ⟨false,[.isl _ u xs]⟩=>
  match P.underlying src,P.underlying dst with
  |some (.slice e),some .string=>match P.underlying e,U.Q5k u xs with
   |some (.int .u8),some bs=>.ok { v:=scv (.string ⟨bs.toArray⟩)}
   |_,_=>.fail
  |_,_=>.fail
 | .v ⟨false,[.sl s b n]⟩=>
  match P.underlying src,P.underlying dst with
  |some (.slice e),some .string=>match P.underlying e,elems U.u8 (.v ⟨false,[.sl s b n]⟩) h with
   |some (.int .u8),some (ys,rd)=>match U.Q5k U.u8 ys with
    |some bs=>.ok { v:=scv (.string ⟨bs.toArray⟩),rd:=rd}
    | .none=>.fail
   |_,_=>.fail
  |_,_=>.fail
 | .v ⟨false,[.val (.int _ n)]⟩=>
  match P.underlying src,P.underlying dst with
  |some _,some (.int k)=>.ok { v:=scv (.int k (k.wrap n))}
  |some _,some (.float k)=>.ok { v:=scv (.float k (floatOfInt k n))}
  |_,_=>.fail
 | .v ⟨false,[.val (.float s b)]⟩=>
  match P.underlying src,P.underlying dst with
  |some _,some (.int .i64)=>.opt Int (floatToIntVal s b .i64) λn=>{ v:=scv (.int .i64 n)}
  |_,_=>.fail
 | .v ⟨false,[.val a]⟩=>match Z1y P (Go.convert src dst a) with
  |some v=>bif okR v then one (.val v) else .fail
  | .none=>.fail
 |_=>.fail
def Z26 (P:Program) (src dst:TypeId) (x:A U) (nx:Nat):Option (OpR U):=
 match x with
 | .v ⟨false,[.val (.string s)]⟩=>
  match P.underlying src,P.underlying dst with
  |some .string,some (.slice e)=>match P.underlying e with
   |some (.int .u8)=>bif U.plain U.u8 then some (.ok { v:=sc (.sl nx 0 s.size),w:= [(nx,.fam true U.u8 s.size λj=>(U.ofBytes s.data.toList).getD j (U.dft U.u8))],nw:=1}) else .none
   |_=>.none
  |_,_=>.none
 |_=>.none
def Qaz (t:TypeId):Nat:=7000000007+t
def Z3Q (P:Program) (row:Bool) (src dst:TypeId) (x:A U) (h:Qr U) (nx:Nat):OpR U:=
 bif row then (match Z26 P src dst x nx with
  |some r=>r
  | .none=>Z37 P src dst x h) else Z37 P src dst x h
def Qb2 (t:TypeId):Nat:=2000000011+t
def Z1N (P:Program) (t t2:TypeId) (x y:A U) (h:Qr U) (nx:Nat):Option (OpR U):=
 match P.underlying t,P.underlying t2,x,y with
 |some (.slice e),some (.slice _),.v ⟨false,[cx]⟩,.v ⟨false,[.isl tk v zs]⟩=>
  match U.ofType e,P.info? e with
  |some u,some i=>
   bif Nat.beq i.size (U.size u) && Nat.ble 1 i.size && Nat.ble 1 i.bytes && i.zero.any (λz=>Nat.beq z.cells.size i.size) && U.plain u then
    match Z2V u cx,elems u (.v ⟨false,[.isl tk v zs]⟩) h with
    |some (.full,[]),some (ys,rd)=>some (.chk (room ys.length i.bytes) { v:=sc (.sl nx 0 ys.length),rd:=rd,w:= [(nx,.fam true u ys.length λj=>ys.getD j (U.dft u))],nw:=1})
    |_,_=>.none
   else .none
  |_,_=>.none
 |_,_,_,_=>.none
def Z4g (P:Program) (row:Bool) (t t2:TypeId) (x y:A U) (h:Qr U) (nx:Nat):OpR U:=
 bif row then (match Z1N P t t2 x y h nx with
  |some r=>r
  | .none=>Z1u P t t2 x y h nx) else Z1u P t t2 x y h nx
def Z5P (P:Program) (t:TypeId) (eq:Bool) (x y:A U):OpR U:=
 match P.underlying t,x,y with
 |some (.slice e),.v ⟨false,[.val (.int _ n)]⟩,.v ⟨false,[.val (.int _ m)]⟩=>
  match U.ofType e,P.info? e,zeroCells (U:=U) P e with
  |some u,some i,some z=>
   bif eq && Nat.beq i.size (U.size u) && Nat.ble 1 i.size && i.zero.any (λv=>Nat.beq v.cells.size i.size) then
    match U.dec u z with
    |some d=>.chk (bif ile 0 n then (bif ile n 9223372036854775807 then room n.toNat i.bytes else false) else false) { v:=sc (.isl .full u (List.replicate n.toNat d))}
    | .none=>.fail
   else .fail
  |_,_,_=>.fail
 |_,_,_=>.fail
def Z3e (P:Program) (t:TypeId) (eq:Bool) (x y:A U) (nx:Nat):Option (OpR U):=
 match P.underlying t,x,y with
 |some (.slice e),.v ⟨false,[.val (.int _ n)]⟩,.v ⟨false,[.val (.int _ m)]⟩=>
  match U.ofType e,P.info? e,zeroCells (U:=U) P e with
  |some u,some i,some z=>
   bif eq && Nat.beq i.size (U.size u) && Nat.ble 1 i.size && i.zero.any (λv=>Nat.beq v.cells.size i.size) && U.plain u then
    match U.dec u z with
    |some d=>some (.chk (bif ile 0 n then (bif ile n 9223372036854775807 then room n.toNat i.bytes else false) else false) { v:=sc (.sl nx 0 n.toNat),w:= [(nx,.fam true u n.toNat λ_=>d)],nw:=1})
    | .none=>.none
   else .none
  |_,_,_=>.none
 |_,_,_=>.none
def Qaj (t:TypeId):Nat:=8000000009+t
def Z6b (P:Program) (row:Bool) (t:TypeId) (eq:Bool) (x y:A U) (nx:Nat):OpR U:=
 bif row then (match Z3e P t eq x y nx with
  |some r=>r
  | .none=>Z5P P t eq x y) else Z5P P t eq x y
def Z19 (x y:Operand):Bool:=
 match x,y with
 | .tmp a,.tmp b=>Nat.beq a b
 |_,_=>false
def Z72 (P:Program) (t:TypeId) (x y:A U) (h:Qr U):OpR U:=
 match P.underlying t,x with
 |some (.slice e),.v ⟨false,[.asl s off m' len b n]⟩=>
  match U.ofType e,size? P e,get h s with
  |some u,some m,some (.obj cells)=>
   match cells[off]? with
   |some (.Q1n v len' f)=>
    match U.eq? v u with
    |some ⟨q⟩=>
     bif Nat.beq m (U.size v) && Nat.beq m m' && Nat.beq len len' && U.plain v && Nat.ble 1 m then
      match y with
      | .v ⟨false,[.asl s' off' mm llen b' n']⟩=>match get h s' with
       |some (.obj cells')=>match cells'[off']? with
        |some (.Q1n v' len'' f')=>match U.eq? v' v with
         |some ⟨q'⟩=>bif Nat.beq mm (U.size v') && Nat.beq llen len'' then .ok { v:=scv (.int .i64 ((Nat.min n' n:Nat):Int)),rd:= [s'],w:= [(s,.obj (Zn off (.Q1n v len' λi=>bif Nat.ble b i && Nat.blt i (b+Nat.min n' n) then q'▸f' (b'+(i - b)) else f i) cells))]} else .fail
         | .none=>.fail
        |_=>.fail
       |_=>.fail
      |_=>.fail
     else .fail
    | .none=>.fail
   |_=>.fail
  |_,_,_=>.fail
 |some (.slice e),.v ⟨false,[.sl s b n]⟩=>
  match U.ofType e,size? P e,get h s with
  |some u,some m,some (.fam true v nn f)=>
   match U.eq? v u with
   |some ⟨q⟩=>
    bif Nat.beq m (U.size v) && U.plain v && Nat.ble 1 m then
     match y with
     | .v ⟨false,[.sl s' b' n']⟩=>match get h s' with
      |some (.fam true v' nn' f')=>match U.eq? v' v with
       |some ⟨q'⟩=>.ok { v:=scv (.int .i64 ((Nat.min n' n:Nat):Int)),rd:= [s'],w:= [(s,.fam true v nn λi=>bif Nat.ble b i && Nat.blt i (b+Nat.min n' n) then q'▸f' (b'+(i - b)) else f i)]}
       | .none=>.fail
      |_=>.fail
     |_=>.fail
    else .fail
   | .none=>.fail
  |_,_,_=>.fail
 |_,_=>.fail
def Z4I (x:A U) (i:Nat):OpR U:=
 match x with
 | .t xs=>match xs[i]? with
  |some v=>.ok { v:= .v v}
  | .none=>.fail
 |_=>.fail
def Z43 (x:A U):OpR U:=
 match x with
 | .v ⟨false,[.isl _ _ xs]⟩=>one (.val (.int .i64 (xs.length:Int)))
 | .v ⟨false,[.val (.slice .none 0 0)]⟩=>one (.val (.int .i64 0))
 | .v ⟨false,[.val (.string s)]⟩=>one (.val (.int .i64 (s.size:Int)))
 | .v ⟨false,[.sl _ _ n]⟩=>one (.val (.int .i64 (n:Int)))
 | .v ⟨false,[.asl _ _ _ _ _ n]⟩=>one (.val (.int .i64 (n:Int)))
 |_=>.fail
def Q92 (P:Program) (t:TypeId) (a:A U):Bool:=
 match P.underlying t,a with
 |some (.slice _),.v ⟨false,[.isl _ _ _]⟩=>true
 |some (.slice _),.v ⟨false,[.val (.slice .none 0 0)]⟩=>true
 |some (.slice _),.v ⟨false,[.sl _ _ _]⟩=>true
 |some (.slice _),.v ⟨false,[.asl _ _ _ _ _ _]⟩=>true
 |some .string,.v ⟨false,[.val (.string _)]⟩=>true
 |_,_=>false
def Z7 (mx:Bool) (a b:Int):Int:=bif mx then imax a b else imin a b
def Z2s (mx:Bool):Int->List (Option (A U))->Option Int
 |a,[]=>some a
 |a,some (.v ⟨false,[.val (.int .i64 b)]⟩)::r=>Z2s mx (Z7 mx a b) r
 |_,_=>.none
def ZF {α:Type}:List (Option α)->Option (List α)
 | []=>some []
 |some a::r=>match ZF r with
  |some l=>some (a::l)
  | .none=>.none
 | .none::_=>.none
def Q9g:Option (A U)->Option Nat
 |some (.v ⟨false,[.val (.func (.func f) a b)]⟩)=>bif Nat.beq a.size 0 && Nat.beq b.size 0 then some f else .none
 |_=>.none
def Q85:Option (A U)->Option (Nat×List (Nat×Nat×Nat))
 |some (.v ⟨false,[.clo f ps]⟩)=>some (f,ps)
 |_=>.none
def Z3p (ps:List (Nat×Nat×Nat)):List (A U):=ps.map λp=>sc (.ptr p.1 p.2.1 p.2.2)
def Z5E:List (Option (A U))->Option (List (Nat×Nat×Nat))
 | []=>some []
 |some (.v ⟨false,[.ptr s i off]⟩)::r=>match Z5E r with
  |some l=>some ((s,i,off)::l)
  | .none=>.none
 |_=>.none
def Z3S (fn:Fn) (first captured:List (Option (A U))):OpR U:=
 match fn,first with
 | .func f,[]=>match Z5E captured with
  |some ps=>one (.clo f ps)
  | .none=>.fail
 |_,_=>.fail
def Z7H (P:Program) (Γ:Nat->Option (Native U)) (c:Call) (fv:Operand->Option (A U)) (as:List (Option (A U))) (h:Qr U) (nx:Nat):OpR U:=
 match c.callee with
 | .value (.func f)=>
  match Γ f,ZF as with
  |some N,some l=>N l h nx
  |_,_=>.fail
 | .value (.tmp t)=>
  match Q9g (fv (.tmp t)) with
  |some f=>match Γ f,ZF as with
   |some N,some l=>N l h nx
   |_,_=>.fail
  | .none=>match Q85 (fv (.tmp t)) with
   |some (f,ps)=>match Γ f,ZF as with
    |some N,some l=>N (l++Z3p ps) h nx
    |_,_=>.fail
   | .none=>.fail
 | .builtin .len=>match as,c.argTypes.toList with
  | [some x],[t]=>bif Q92 P t x then Z43 x else .fail
  |_,_=>.fail
 | .builtin .append=>match as,c.argTypes.toList with
  | [some x,some y],[t,t2]=>Z4g P (Γ (Qb2 t)).isSome t t2 x y h nx
  |_,_=>.fail
 | .builtin .copy=>match as,c.argTypes.toList with
  | [some x,some y],[t,_]=>Z72 P t x y h
  |_,_=>.fail
 | .builtin .complex=>match as with
  | [some (.v ⟨false,[.val (.float .f64 a)]⟩),some (.v ⟨false,[.val (.float .f64 b)]⟩)]=>one (.val (.complex .f64 a b))
  |_=>.fail
 | .builtin .real=>match as with
  | [some (.v ⟨false,[.val (.complex .f64 a _)]⟩)]=>one (.val (.float .f64 a))
  |_=>.fail
 | .builtin .imag=>match as with
  | [some (.v ⟨false,[.val (.complex .f64 _ b)]⟩)]=>one (.val (.float .f64 b))
  |_=>.fail
 | .builtin .min=>match as with
  |some (.v ⟨false,[.val (.int .i64 a)]⟩)::r=>match Z2s false a r with
   |some n=>one (.val (.int .i64 n))
   | .none=>.fail
  |_=>.fail
 | .builtin .max=>match as with
  |some (.v ⟨false,[.val (.int .i64 a)]⟩)::r=>match Z2s true a r with
   |some n=>one (.val (.int .i64 n))
   | .none=>.fail
  |_=>.fail
 |_=>.fail
def Z3G (P:Program) (t:TypeId) (x:A U) (nx:Nat):OpR U:=
 match P.underlying t,x with
 |some .string,.v ⟨false,[.val (.string s)]⟩=>.ok { v:=sc (.ptr nx 0 0),w:= [(nx,.iter s 0)],nw:=1}
 |_,_=>.fail
def Z7u (str:Bool) (x:A U) (h:Qr U):OpR U:=
 match str,x with
 |true,.v ⟨false,[.ptr s 0 0]⟩=>
  match get h s with
  |some (.iter t pos)=>.two (Nat.blt pos t.size)
    { v:= .t [⟨false,[.val (.bool true)]⟩,⟨false,[.val (.int .i64 (pos:Int))]⟩,⟨false,[.val (.int .i32 ((Utf8.decode t pos).1:Int))]⟩],rd:= [s],w:= [(s,.iter t (pos+(Utf8.decode t pos).2))]}
    { v:= .t [⟨false,[.val (.bool false)]⟩],rd:= [s]}
  |_=>.fail
 |_,_=>.fail
def Q87 (x:Option (A U)):OpR U:=
 match x with
 |some v=>.ok { v:=v}
 | .none=>.fail
def Z6T (c a b:Option (A U)):OpR U:=
 match c,a,b with
 |some (.v ⟨false,[.val (.bool c)]⟩),some a,some b=>.ok { v:=bif c then a else b}
 |_,_,_=>.fail
def Z31 (P:Program):List Field->Nat->Bool
 | [],_=>true
 |f::r,o=>Nat.beq f.offset o && !(f.name== "_") && (match P.underlying f.type with
  |some (.int _)=>true
  |some .bool=>true
  |some .string=>true
  |_=>false) && Z31 P r (o+1)
def Z1J (P:Program) (t:TypeId) (n:Nat):Bool:=
 match P.underlying t with
 |some (.struct fs)=>Z31 P fs.toList 0 && Nat.beq fs.size n
 |_=>false
def Z3n {U:QV} (P:Program) (kt:TypeId) {ku vu:U.C} (k:U.D ku):List (U.D ku×U.D vu)->Option (Option (U.D vu))
 | []=>some none
 |(a,v)::r=>match eqS P 20 kt (U.enc ku k) (U.enc ku a) with
  |some b=>bif b then some (some v) else Z3n P kt k r
  |none=>none
def Z3x {U:QV} (P:Program) (kt:TypeId) {ku vu:U.C} (k:U.D ku) (v:U.D vu):List (U.D ku×U.D vu)->Option (List (U.D ku×U.D vu))
 | []=>some [(k,v)]
 |(a,x)::r=>match eqS P 20 kt (U.enc ku k) (U.enc ku a) with
  |some b=>bif b then some ((k,v)::r) else (match Z3x P kt k v r with
   |some l=>some ((a,x)::l)
   |none=>none)
  |none=>none
def Z4u (P:Program) (Γ:Option Nat) (h:Qr U):OpR U:=
 match Γ with
 |some F=>match get h F with
  |some (.Q20 gk gv ku vu n g)=>bif Nat.blt F U.nf then .ok { v:=sc (.Q3p F (some n)),rd:= [F],w:= [(F,.Q20 gk gv ku vu (n+1) (QA g n []))]} else .fail
  |_=>.fail
 | .none=>.fail
def Z3t (g:Bool) (a:A U):Option (List U.S):=
 match a with
 | .v ⟨g',l⟩=>bif (bif g then g' else !g') then some l else .none
 |_=>.none
def Z4O (P:Program) (t:TypeId):Bool:=
 match agg? P t with
 |some true=>true
 |_=>false
def Z6e (P:Program) (t:TypeId):Bool:=
 match P.info? t with
 |some i=>(match i.zero with|some z=>z.oneCell'|none=>false)
 |none=>false
def Z5s (P:Program) (t:TypeId) (m k:A U) (ok:Bool) (h:Qr U):OpR U:=
 match P.underlying t,m with
 |some (.map kt et),.v ⟨false,[.Q3p F x]⟩=>
  match get h F with
  |some (.Q20 true false ku vu n g)=>
   match Z3t true k,zeroCells (U:=U) P et with
   |some kc,some z=>match U.dec ku kc,U.dec vu z with
    |some kk,some zz=>
     bif Z1J P kt (U.size ku) && Nat.beq (U.size vu) 1 && Z6e P et && Z4O P kt then
      .opt (Option (U.D vu)) (match x with|some i=>Z3n P kt kk (g i)| .none=>.none) λr=>
       bif ok then { v:= .t [⟨false,U.enc vu (r.getD zz)⟩,⟨false,[.val (.bool r.isSome)]⟩],rd:= [F]} else { v:= .v ⟨false,U.enc vu (r.getD zz)⟩,rd:= [F]}
     else .fail
    |_,_=>.fail
   |_,_=>.fail
  |_=>.fail
 |_,_=>.fail
def Z3h (P:Program) (t:TypeId) (m k v:A U) (h:Qr U):OpR U:=
 match P.underlying t,m with
 |some (.map kt et),.v ⟨false,[.Q3p F x]⟩=>
  match get h F with
  |some (.Q20 true false ku vu n g)=>
   match Z3t true k,Z3t false v with
   |some kc,some vc=>match U.dec ku kc,U.dec vu vc with
    |some kk,some vv=>
     bif Z1J P kt (U.size ku) && Z4O P kt then
      .opt (Nat×List (U.D ku×U.D vu)) (match x with
       |some i=>(match Z3x P kt kk vv (g i) with
        |some l=>some (i,l)
        | .none=>.none)
       | .none=>.none) λr=>{ v:= .t [],rd:= [F],w:= [(F,.Q20 true false ku vu n (QA g r.1 r.2))]}
     else .fail
    |_,_=>.fail
   |_,_=>.fail
  |_=>.fail
 |_,_=>.fail
def QaZ:Nat:=6000000029
def Z5I (o:Out U) (nx:Nat):Option (Out U):=
 match o with
 |{ v:= .v ⟨false,[.isl .full u xs]⟩,rd,w:= [],nw:=0}=>some { v:=sc (.isl (.own nx) u xs),rd:=rd,w:= [(nx,.tok)],nw:=1}
 |_=>.none
def Z5r (b:Bool) (r:OpR U) (nx:Nat):OpR U:=
 bif b then (match r with
  | .chk c o=>(match Z5I o nx with
   |some o'=>.chk c o'
   | .none=>r)
  |r=>r) else r
def QaM (t:TypeId):Nat:=3000000019+t
def Qai (t:TypeId):Nat:=4000000007+t
def Z5j (P:Program) (f z:Bool) (t:TypeId) (nx:Nat):Option (OpR U):=
 bif f||z then
  match P.underlying t with
  |some (.array len e)=>match U.ofType e,zeroCells P t with
   |some u,some l=>bif U.plain u && Nat.ble 1 len && Nat.beq l.length (len*U.size u) then (match Z1E u len l with
    |some xs=>some (.ok { v:=sc (.ptr nx 0 0),w:=(bif z then [(nx,.Q30 u len 0 λj=>xs.getD j (U.dft u))] else [])++ [(nx,.fam true u len λj=>xs.getD j (U.dft u))],nw:=1})
    | .none=>.none) else .none
   |_,_=>.none
  |_=>.none
 else .none
def Z4W (h:Qr U) (s:Nat):Option (U.C×Nat):=
 match get h s with
 |some (.fam true u n _)=>some (u,n)
 |some (.Q30 u n _ _)=>some (u,n)
 |_=>.none
def Z63 (P:Program) (t:TypeId) (x i:A U) (h:Qr U):Option (OpR U):=
 match x,i with
 | .v ⟨false,[.ptr s i0 off]⟩,.v ⟨false,[.val (.int _ n)]⟩=>
  match Z4W h s,P.underlying t with
  |some (u,nn),some (.array len e)=>match size? P e with
   |some m=>bif Nat.beq m (U.size u) && Nat.beq i0 0 && Nat.beq off 0 then some (.chk (bif inR n len then inR n nn else false) { v:=sc (.ptr s n.toNat 0),rd:= [s]}) else .none
   | .none=>.none
  |_,_=>.none
 |_,_=>.none
def Z5k (P:Program) (t:TypeId) (a v:A U) (h:Qr U):Option (OpR U):=
 match v with
 | .v ⟨false,[.ptr s i off]⟩=>
  match get h s,P.underlying t with
  |some (.Q30 u n z g),some (.pointer se)=>match U.ofType se with
   |some vv=>match U.dec vv (QM off (U.size vv) (U.enc u (g i))) with
    |some y=>some ((Z71 P t a (sc (.Q37 vv (some y))) ((s,.Q30 u n (Nat.max z (i+1)) g)::h)).Q8U [(s,.Q30 u n (Nat.max z (i+1)) g)] [s])
    | .none=>.none
   | .none=>.none
  |_,_=>.none
 |_=>.none
def Z5h (P:Program) (t:TypeId) (x:A U) (lo hi mx:Option (Option (A U))) (h:Qr U):Option (OpR U):=
 match x with
 | .v ⟨false,[.ptr s i off]⟩=>
  match get h s,P.underlying t,lo,mx with
  |some (.fam true u n g),some (.array len e),.none,.none=>match size? P e,ZD hi len with
   |some m,some r=>bif Nat.beq m (U.size u) && U.plain u && Nat.beq i 0 && Nat.beq off 0 then some (.chk (bif le3 0 r len then le3 0 r n else false) { v:=sc (.isl .none u ((List.range r.toNat).map g)),rd:= [s],w:= [(s,.Q30 u n n g)]}) else .none
   |_,_=>.none
  |_,_,_,_=>.none
 |_=>.none
def Z79 (P:Program) (t:TypeId) (x:A U) (lo hi mx:Option (Option (A U))) (h:Qr U):Option (OpR U):=
 match x with
 | .v ⟨false,[.ptr s i off]⟩=>
  match get h s,P.underlying t,mx with
  |some (.fam true u n g),some (.array len e),.none=>match size? P e,ZD lo 0,ZD hi len with
   |some m,some l,some r=>bif Nat.beq m (U.size u) && Nat.beq i 0 && Nat.beq off 0 then some (.chk (bif le3 l r len then le3 l r n else false) { v:=sc (.sl s l.toNat (r.toNat - l.toNat)),rd:= [s]}) else .none
   |_,_,_=>.none
  |_,_,_=>.none
 |_=>.none
def Q9p (P:Program) (Γ:Nat->Option (Native U)) (nx:Nat) (ρ:Operand->Option (A U)) (h:Qr U) (o:Oper):OpR U:=
 match o.op with
 | .move x=>Q87 (ρ x)
 | .assign x=>Q87 (ρ x)
 | .pick c a b=>Z6T (ρ c) (ρ a) (ρ b)
 | .alloc t=>match Z5j P (Γ (QaM t)).isSome (Γ (Qai t)).isSome t nx with
  |some r=>r
  | .none=>Z5m P nx t h
 | .box t x=>match ρ x with|some a=>Z76 nx t a h| .none=>.fail
 | .build t ps=>Z6d P t (ps.toList.map λp=>(p.1,ρ p.2))
 | .load t a=>match ρ a with|some a=>Z8d P (Γ Z80).isSome t a h nx| .none=>.fail
 | .store t a v=>match ρ a,ρ v with
  |some a,some v=>match Z5k P t a v h with
   |some r=>r
   | .none=>Z71 P t a v h
  |_,_=>.fail
 | .nilCheck x=>match ρ x with|some a=>Q9x a| .none=>.fail
 | .binOp op t x y _=>match ρ x,ρ y with|some x,some y=>Q99 P op t x y|_,_=>.fail
 | .unOp op _ x=>match ρ x with|some x=>opUn P op x| .none=>.fail
 | .convert s d x=>match ρ x with|some x=>Z3Q P (Γ (Qaz d)).isSome s d x h nx| .none=>.fail
 | .fieldAddr t x f=>match ρ x with|some x=>Z3l P t x f| .none=>.fail
 | .field t x f=>match ρ x with|some x=>Z6k P t x f| .none=>.fail
 | .indexAddr t x i=>match ρ x,ρ i with
  |some x,some i=>match Z63 P t x i h with
   |some r=>r
   | .none=>Z4E P (Γ (Z4D t)).isSome t x i h nx
  |_,_=>.fail
 | .index t x i=>match ρ x,ρ i with|some x,some i=>Z64 P t x i|_,_=>.fail
 | .slice t x lo hi mx=>match ρ x with
  |some x=>match Z5h P t x (lo.map ρ) (hi.map ρ) (mx.map ρ) h with
   |some r=>r
   | .none=>match Z79 P t x (lo.map ρ) (hi.map ρ) (mx.map ρ) h with
   |some r=>r
   | .none=>Z5r (Γ QaZ).isSome (Z5u P (Γ (Z4D t)).isSome t x (lo.map ρ) (hi.map ρ) (mx.map ρ) h nx) nx
  | .none=>.fail
 | .buildSlice t n ps=>Z2z P t n (ps.toList.map λp=>(p.1,ρ p.2)) h
 | .extract x i=>match ρ x with|some x=>Z4I x i| .none=>.fail
 | .range t x=>match ρ x with|some x=>Z3G P t x nx| .none=>.fail
 | .next x str=>match ρ x with|some x=>Z7u str x h| .none=>.fail
 | .makeSlice t x y=>match ρ x,ρ y with|some a,some b=>Z6b P (Γ (Qaj t)).isSome t (Z19 x y) a b nx|_,_=>.fail
 | .call c=>Z7H P Γ c ρ (c.args.toList.map ρ) h nx
 | .makeFunc fn first captured=>Z3S fn (first.toList.map ρ) (captured.toList.map ρ)
 | .makeMap t r=>match r with
  | .none=>Z4u P (U.Q9Y t) h
  |some _=>.fail
 | .lookup t x i k=>match ρ x,ρ i with|some x,some i=>Z5s P t x i k h|_,_=>.fail
 | .mapUpdate t m k v=>match ρ m,ρ k,ρ v with|some m,some k,some v=>Z3h P t m k v h|_,_,_=>.fail
 |_=>.fail
def ldR (h:Qr U) (F m r i k n:Nat):Option (Bool×List U.S):=
 match get h F with
 |some (.Q1a u _ g)=>
  let l:=QM k n (U.enc u ((g r).getD i (U.dft u)))
  bif Nat.beq m (U.size u) && Nat.beq l.length n && l.all Ze then some (Nat.blt i (g r).length,l) else .none
 |_=>.none
def stR (h:Qr U) (F m r i k:Nat) (new:List U.S):Option (Bool×Ent U):=
 match get h F with
 |some (.Q1a u n g)=>
  let old:=U.enc u ((g r).getD i (U.dft u))
  bif Nat.beq m (U.size u) && Nat.ble (k+new.length) old.length && new.all Ze then
   match U.dec u (Q1v k new old) with
   |some x=>some (Nat.blt i (g r).length,.Q1a u n (QA g r ((g r).set i x)))
   | .none=>.none
  else .none
 |_=>.none
def Z6a (b:Bool) (v:A U) (rd:List Nat):OpR U:=
 match v with
 | .v ⟨false,[.ref f x]⟩=>bif U.nn f then .opt Nat (bif b then x else .none) (λi=>{ v:=sc (.ptr f i 0),rd:=rd}) else .chk b { v:=sc (.ref f x),rd:=rd}
 |v=>.chk b { v:=v,rd:=rd}
def Q9r (P:Program) (t:TypeId) (a:A U) (h:Qr U):Option (OpR U):=
 match a with
 | .v ⟨false,[.Q4Q F m r i k]⟩=>
  match agg? P t,size? P t with
  |some g,some n=>match ldR h F m r i k n with
   |some (b,l)=>match asV g l with
    |some v=>some (Z6a b v [F])
    | .none=>.none
   | .none=>.none
  |_,_=>.none
 |_=>.none
def Z74 (P:Program) (t:TypeId) (a v:A U) (h:Qr U):Option (OpR U):=
 match a,v with
 | .v ⟨false,[.Q4Q F m r i k]⟩,.v x=>
  match size? P t with
  |some n=>bif Nat.beq x.l.length n then
    match stR h F m r i k x.l with
    |some (b,e)=>some (.chk b { v:= .t [],w:= [(F,e)]})
    | .none=>.none
   else .none
  | .none=>.none
 |_,_=>.none
def Z6V (P:Program) (t:TypeId) (a:A U) (f:Nat):Option (OpR U):=
 match a with
 | .v ⟨false,[.Q4Q F m r i k]⟩=>match Z2m P t f with
  |some o=>some (one (.Q4Q F m r i (k+o)))
  | .none=>.none
 |_=>.none
def nilR (a:A U):Option (OpR U):=
 match a with
 | .v ⟨false,[.Q4Q F m r i k]⟩=>some (one (.Q4Q F m r i k))
 |_=>.none
def Q8X (P:Program) (t:TypeId) (x i:A U):Option (OpR U):=
 match x,i with
 | .v ⟨false,[.rsl own F m' r b len]⟩,.v ⟨false,[.val (.int _ n)]⟩=>
  match P.underlying t with
  |some (.slice e)=>match size? P e with
   |some m=>bif Nat.beq m m' then some (.chk (inR n len) { v:=sc (.Q4Q F m' r (b+n.toNat) 0)}) else .none
   | .none=>.none
  |_=>.none
 |_,_=>.none
def Z7D (P:Program) (t:TypeId) (x:A U) (lo hi mx:Option (Option (A U))):Option (OpR U):=
 match x with
 | .v ⟨false,[.rsl own F m' r b n]⟩=>
  match P.underlying t with
  |some (.slice e)=>match size? P e,ZD lo 0,ZD hi n with
   |some m,some l,some q=>
    bif Nat.beq m m' then
     match mx with
     | .none=>some (.chk (le3 l q n) { v:=sc (.rsl false F m' r (b+l.toNat) (q.toNat - l.toNat))})
     |some (some (.v ⟨false,[.val (.int _ c)]⟩))=>bif hi.isSome then some (.chk (bif le3 l q n then ieq q c else false) { v:=sc (.rsl own F m' r (b+l.toNat) (q.toNat - l.toNat))}) else .none
     |_=>.none
    else .none
   |_,_,_=>.none
  |_=>.none
 |_=>.none
def Q8W (F m:Nat) (x:U.S):Option (Nat×Nat):=
 match x with
 | .rsl true F' m' r b n=>bif Nat.beq F' F && Nat.beq m' m && Nat.beq b 0 then some (r,n) else .none
 | .isl .full u xs=>match xs with
  | []=>some (0,0)
  |_=>.none
 | .val (.slice .none 0 0)=>some (0,0)
 |_=>.none
def Z69 (P:Program) (t t2:TypeId) (x y:A U) (h:Qr U):Option (OpR U):=
 match P.underlying t,(match P.underlying t2 with|some (.slice _)=>true|some .string=>true|_=>false),x with
 |some (.slice e),true,.v ⟨false,[c]⟩=>
  match U.rowT e,P.info? e with
  |some (F,u),some i=>
   match get h F with
   |some (.Q1a v N g)=>
    match U.eq? u v,Q8W F (U.size v) c,elems v y h with
    |some _,some (r,n),some (ys,rd)=>
     bif Nat.blt F U.nf && Z1u.elems? y && Nat.beq i.size (U.size v) && Nat.ble 1 i.size && Nat.ble 1 i.bytes && i.zero.any (λz=>Nat.beq z.cells.size i.size) && U.plain v then
      some (.chk (bif room (n+ys.length) i.bytes then (bif Nat.beq n 0 then true else Nat.beq n (g r).length) else false)
       { v:=sc (.rsl true F (U.size v) N 0 (n+ys.length)),rd:=F::rd,w:= [(F,.Q1a v (N+1) (QA (bif Nat.beq n 0 then g else QA g r []) N ((bif Nat.beq n 0 then [] else g r)++ys)))]})
     else .none
    |_,_,_=>.none
   |_=>.none
  |_,_=>.none
 |_,_,_=>.none
def Q9i (P:Program) (t:TypeId) (eq:Bool) (x y:A U) (h:Qr U):Option (OpR U):=
 match P.underlying t,x,y with
 |some (.slice e),.v ⟨false,[.val (.int _ n)]⟩,.v ⟨false,[.val (.int _ m)]⟩=>
  match U.rowT e,P.info? e,zeroCells (U:=U) P e with
  |some (F,u),some i,some z=>
   match get h F with
   |some (.Q1a v N g)=>
    match U.eq? u v,U.dec v z with
    |some _,some d=>
     bif eq && Nat.blt F U.nf && Nat.beq i.size (U.size v) && Nat.ble 1 i.size && i.zero.any (λv=>Nat.beq v.cells.size i.size) && U.plain v then
      some (.chk (bif ile 0 n then (bif ile n 9223372036854775807 then room n.toNat i.bytes else false) else false)
       { v:=sc (.rsl true F (U.size v) N 0 n.toNat),rd:= [F],w:= [(F,.Q1a v (N+1) (QA g N (List.replicate n.toNat d)))]})
     else .none
    |_,_=>.none
   |_=>.none
  |_,_,_=>.none
 |_,_,_=>.none
def Z1i {α:Type} (l:List α) (b:Nat) (ys:List α):List α:=l.take b++(ys++l.drop (b+ys.length))
def Q9w (P:Program) (t:TypeId) (x y:A U) (h:Qr U):Option (OpR U):=
 match P.underlying t,x,y with
 |some (.slice e),.v ⟨false,[.rsl _ F m r b n]⟩,.v ⟨false,[.rsl _ F' m' r' b' n']⟩=>
  match size? P e,get h F with
  |some sz,some (.Q1a v N g)=>
   bif Nat.beq F F' && Nat.beq m m' && Nat.beq sz m && Nat.beq m (U.size v) && Nat.ble 1 m && U.plain v then
    some (.chk (Nat.beq (((g r').drop b').take (Nat.min n' n)).length (Nat.min n' n) && Nat.ble (b+Nat.min n' n) (g r).length)
     { v:=scv (.int .i64 ((Nat.min n' n:Nat):Int)),rd:= [F],w:= [(F,.Q1a v N (QA g r (Z1i (g r) b (((g r').drop b').take (Nat.min n' n)))))]})
   else .none
  |_,_=>.none
 |_,_,_=>.none
def lenR (P:Program) (t:TypeId) (x:A U):Option (OpR U):=
 match x with
 | .v ⟨false,[.rsl _ _ _ _ _ n]⟩=>match P.underlying t with
  |some (.slice _)=>some (one (.val (.int .i64 (n:Int))))
  |_=>.none
 |_=>.none
def Q9b (P:Program) (ρ:Operand->Option (A U)) (h:Qr U) (o:Oper):Option (OpR U):=
 match o.op with
 | .load t a=>match ρ a with|some a=>Q9r P t a h| .none=>.none
 | .store t a v=>match ρ a,ρ v with|some a,some v=>Z74 P t a v h|_,_=>.none
 | .nilCheck x=>match ρ x with|some a=>nilR a| .none=>.none
 | .fieldAddr t x f=>match ρ x with|some x=>Z6V P t x f| .none=>.none
 | .indexAddr t x i=>match ρ x,ρ i with|some x,some i=>Q8X P t x i|_,_=>.none
 | .slice t x lo hi mx=>match ρ x with|some x=>Z7D P t x (lo.map ρ) (hi.map ρ) (mx.map ρ)| .none=>.none
 | .makeSlice t x y=>match ρ x,ρ y with|some a,some b=>Q9i P t (Z19 x y) a b h|_,_=>.none
 | .call c=>match c.callee,c.args.toList.map ρ,c.argTypes.toList with
  | .builtin .append,[some x,some y],[t,t2]=>Z69 P t t2 x y h
  | .builtin .copy,[some x,some y],[t,_]=>Q9w P t x y h
  | .builtin .len,[some x],[t]=>lenR P t x
  |_,_,_=>.none
 |_=>.none
def step (P:Program) (Γ:Nat->Option (Native U)) (nx:Nat) (ρ:Operand->Option (A U)) (h:Qr U) (o:Oper):OpR U:=
 match Q9b P ρ h o with
 |some r=>r
 | .none=>Q9p P Γ nx ρ h o
def St.apply (st:St U) (dst:Option Tmp) (o:Out U):St U:=
 {n:=st.n
  env:=match dst with|some d=>(d,o.v)::st.env| .none=>st.env
  h:=o.w++st.h
  nx:=st.nx+o.nw}
inductive Want where|yes|no|bad
def want (ops:List Oper) (env:Env U) (o:Oper):Want:=
 match o.guard with
 | .none=>.yes
 |some (j,w)=>
  match (ops[j]?).bind (·.dst) with
  |some t=>match get env t with
   |some (.v ⟨false,[.val (.bool b)]⟩)=>bif b==w then .yes else .no
   |some (.t [])=>.no
   |_=>.bad
  | .none=>.no
def Z3d (n:Nat) (dst:Option Tmp):Bool:=match dst with|some d=>Nat.blt d n| .none=>true
def Z86 (ops:List Oper) (j:Nat):Bool:=ops.any λo=>match o.guard with|some (i,_)=>Nat.beq i j| .none=>false
def Q0 {α ρ:Type} (x:Option α) (fail:ρ) (k:α->ρ):ρ:=
 match x with
 |some y=>k y
 | .none=>fail
def OpR.elim {ρ:Type} (r:OpR U) (fail:ρ) (K:Out U->ρ):ρ:=
 match r with
 | .fail=>fail
 | .ok o=>K o
 | .chk b o=>bif b then K o else fail
 | .opt _ x k=>Q0 x fail λy=>K (k y)
 | .two b x y=>bif b then K x else K y
structure Info where
 looks:List Nat
 dst:Option Nat
 rd:List Nat
 wr:List Nat
def Z1z (ops:List Oper) (o:Oper):List Nat:=
 (o.op.operands.toList.filterMap fun| .tmp t=>some t|_=>.none)++
  (match o.guard with
  |some (g,_)=>((ops[g]?).bind (·.dst)).toList
  | .none=>[])
def mem (t:Nat) (l:List Nat):Bool:=l.any (Nat.beq t)
def Q7h (t:Option Nat) (l:List Nat):Bool:=match t with|some t=>mem t l| .none=>false
def meets (a b:List Nat):Bool:=a.any λt=>mem t b
def Q4k (x y:Info):Bool:=
 Q7h x.dst y.looks||Q7h y.dst x.looks||Q7h x.dst y.dst.toList||meets x.wr y.rd||meets x.wr y.wr||meets x.rd y.wr
def mask (ms:List Nat) (o:Oper):Nat:=
 o.after.toList.foldl (λm e=>bif Region.binds .any e then m|||2^e.on|||ms.getD e.on 0 else m) 0
def Q3S:List Oper->List Nat->List Nat
 | [],ms=>ms
 |o::r,ms=>Q3S r (ms++ [mask ms o])
def Z2g (j:Nat) (o:Oper):Bool:=o.after.toList.all λe=>!Region.binds .any e||Nat.blt e.on j
def Z2M (dr:Bool) (ms:List Nat) (j:Nat) (o:Oper) (i:Info) (acc:List (Nat×Info)):Bool:=
 !dr||(Z2g j o && acc.all λp=>!Q4k p.2 i||(ms.getD j 0).testBit p.1)
def info (ops:List Oper) (o:Oper) (out:Out U):Info:={ looks:=Z1z ops o,dst:=o.dst,rd:=out.rd,wr:=out.w.map (·.1)}
def split {ρ:Type} (J:Bool->ρ->ρ->ρ) (g:Bool) (dst:Option Tmp) (o:Out U) (K:Out U->ρ):ρ:=
 match g,dst,o with
 |true,some _,{ v:= .v ⟨false,[.val (.bool b)]⟩,rd,w,nw}=>
  J b (K { v:=scv (.bool true),rd,w,nw}) (K { v:=scv (.bool false),rd,w,nw})
 |_,_,o=>K o
def Q4U (ro:Nat) (w:List (Nat×Ent U)):Bool:=w.all λp=>Nat.ble ro p.1
def Z12 {ρ:Type} (P:Program) (Γ:Nat->Option (Native U)) (ro:Nat) (dr:Bool) (ops:List Oper) (ms:List Nat) (J:Bool->ρ->ρ->ρ) (fail:ρ):
  List Oper->Nat->List (Nat×Info)->St U->(St U->ρ)->ρ
 | [],_,_,st,K=>K st
 |o::rest,j,acc,st,K=>
  bif !Z3d st.n o.dst then fail else
  match want ops st.env o with
  | .bad=>fail
  | .no=>
   let out:Out U:={ v:= .t []}
   bif Z2M dr ms j o (info ops o out) acc then Z12 P Γ ro dr ops ms J fail rest (j+1) ((j,info ops o out)::acc) (st.apply o.dst out) K else fail
  | .yes=>
   (step P Γ st.nx (opd st.env) st.h o).elim fail λout=>
    bif Z2M dr ms j o (info ops o out) acc && Q4U ro out.w then
     split J (Z86 ops j) o.dst out λout=>Z12 P Γ ro dr ops ms J fail rest (j+1) ((j,info ops o out)::acc) (st.apply o.dst out) K
    else fail
abbrev Q6m (U:QV):=(ρ:Type)->ρ->List (A U)->Qr U->Nat->(A U->Qr U->Nat->ρ)->ρ
def Q9a (I:Nat->Option (Q6m U)) (ρ:Operand->Option (A U)) (o:Oper):Option (Q6m U×List (A U)):=
 match o.op with
 | .call c=>
  match c.callee with
  | .value (.func f)=>
   match I f,ZF (c.args.toList.map ρ) with
   |some N,some l=>some (N,l)
   |_,_=>.none
  | .value (.tmp t)=>
   match Q9g (ρ (.tmp t)) with
   |some f=>match I f,ZF (c.args.toList.map ρ) with
    |some N,some l=>some (N,l)
    |_,_=>.none
   | .none=>match Q85 (ρ (.tmp t)) with
    |some (f,ps)=>match I f,ZF (c.args.toList.map ρ) with
     |some N,some l=>some (N,l++Z3p ps)
     |_,_=>.none
    | .none=>.none
  |_=>.none
 |_=>.none
def Q8Z (dst:Option Tmp) (v:A U) (env:Env U):Env U:=
 match dst with
 |some d=>(d,v)::env
 | .none=>env
def Z28 {ρ:Type} (P:Program) (Γ:Nat->Option (Native U)) (I:Nat->Option (Q6m U)) (ro:Nat) (ops:List Oper) (fail:ρ):
  List Oper->Nat->St U->(St U->ρ)->ρ
 | [],_,st,K=>K st
 |o::rest,j,st,K=>
  bif !Z3d st.n o.dst then fail else
  match want ops st.env o with
  | .bad=>fail
  | .no=>Z28 P Γ I ro ops fail rest (j+1) (st.apply o.dst { v:= .t []}) K
  | .yes=>
   match Q9a I (opd st.env) o with
   |some (N,as)=>N ρ fail as st.h st.nx λv h nx=>
    Z28 P Γ I ro ops fail rest (j+1) { n:=st.n,env:=Q8Z o.dst v st.env,h:=h,nx:=nx} K
   | .none=>
    (step P Γ st.nx (opd st.env) st.h o).elim fail λout=>
     bif Q4U ro out.w then
      split (λb x y=>bif b then x else y) (Z86 ops j) o.dst out λout=>Z28 P Γ I ro ops fail rest (j+1) (st.apply o.dst out) K
     else fail
def Z73 (b:Bool) (x y:U.S):Option U.S:=
 match x,y with
 | .val (.bool a),.val (.bool c)=>some (.val (.bool (bif b then a else c)))
 | .val (.int j a),.val (.int k c)=>bif decide (j=k) then some (.val (.int j (bif b then a else c))) else .none
 | .val (.string a),.val (.string c)=>some (.val (.string (bif b then a else c)))
 | .isl _ u xs,.isl _ v ys=>match U.eq? u v with
  |some ⟨e⟩=>some (.isl .none v (bif b then e▸xs else ys))
  | .none=>.none
 | .ptr s i off,.ptr s' i' off'=>bif Nat.beq s s' && Nat.beq off off' then some (.ptr s' (bif b then i else i') off') else .none
 | .Q1q s off m n i k,.Q1q s' off' m' n' i' k'=>bif Nat.beq s s' && Nat.beq off off' && Nat.beq m m' && Nat.beq n n' && Nat.beq k k' then some (.Q1q s' off' m' n' (bif b then i else i') k') else .none
 | .hole,.hole=>some .hole
 | .arr s,.arr s'=>bif Nat.beq s s' then some (.arr s') else .none
 | .ref f x,.ref f' x'=>bif Nat.beq f f' then some (.ref f' (bif b then x else x')) else .none
 |_,_=>.none
def Z2Q (b:Bool):List U.S->List U.S->Option (List U.S)
 | [],[]=>some []
 |x::l,y::r=>match Z73 b x y,Z2Q b l r with
  |some z,some m=>some (z::m)
  |_,_=>.none
 |_,_=>.none
def Z6Q (b:Bool) (x y:V U):Option (V U):=
 match Z2Q b x.l y.l with
 |some l=>bif x.g==y.g then some ⟨y.g,l⟩ else .none
 | .none=>.none
def Z7w (b:Bool) (x y:Ent U):Option (Ent U):=
 match x,y with
 | .obj l,.obj r=>(Z2Q b l r).map .obj
 | .fam c u n f,.fam d v m g=>match U.eq? u v with
  |some ⟨e⟩=>bif c==d && Nat.beq n m then some (.fam d v m (bif b then e▸f else g)) else .none
  | .none=>.none
 | .tok,.tok=>some .tok
 |_,_=>.none
def Z2j (b:Bool) (x y:Env U):List Nat->Env U
 | []=>[]
 |t::r=>match get x t,get y t with
  |some (.v a),some (.v c)=>match Z6Q b a c with
   |some v=>(t,.v v)::Z2j b x y r
   | .none=>Z2j b x y r
  |_,_=>Z2j b x y r
def Z20 (b:Bool) (x y:Qr U):List Nat->Qr U
 | []=>[]
 |s::r=>match get x s,get y s with
  |some a,some c=>match Z7w b a c with
   |some v=>(s,v)::Z20 b x y r
   | .none=>Z20 b x y r
  |_,_=>Z20 b x y r
structure Live where
 env:List Nat
 heap:List Nat
def Z4U (b:Bool) (l:Live) (x y:St U):Option (St U):=
 bif Nat.beq x.n y.n then some { n:=y.n,env:=Z2j b x.env y.env l.env,h:=Z20 b x.h y.h l.heap,nx:=bif Nat.ble x.nx y.nx then y.nx else x.nx} else .none
def Z3u (x:Env U):List Nat->Env U
 | []=>[]
 |t::r=>match get x t with
  |some a=>(t,a)::Z3u x r
  | .none=>Z3u x r
def Z2S (x:Qr U):List Nat->Qr U
 | []=>[]
 |t::r=>match get x t with
  |some a=>(t,a)::Z2S x r
  | .none=>Z2S x r
def St.only (st:St U) (l:Live):St U:={ n:=st.n,env:=Z3u st.env l.env,h:=Z2S st.h l.heap,nx:=st.nx}
inductive Sh (C:Type) where
 |int (k:IntKind)
 |bool
 |str
 |isl (u:C)
 |data (u:C)
 |ptr
 |Q31 (u:C)
 |Q37 (u:C)
 | row (u : C)
 | ref (f : Nat)
 |Q3p (f:Nat)
 | Q4H (j off m n : Nat)
 | own (u : C)
 |flt
 |cpx
abbrev Sh.T (U:QV):Sh U.C->Type
 | .int _=>Int
 | .bool=>Bool
 | .str=>ByteArray
 | .isl u=>List (U.D u)
 | .data u=>U.D u
 | .ptr=>Unit
 | .Q31 u=>U.D u
 | .Q37 u=>Option (U.D u)
 | .row _=>Nat
 | .ref _=>Option Nat
 | .Q3p _=>Option Nat
 | .Q4H _ _ _ _=>Nat
 | .own u=>List (U.D u)
 | .flt=>Nat
 | .cpx=>Nat×Nat
def Q64:(s:Sh U.C)->s.T U->Nat->V U
 | .int k,n,_=>⟨false,[.val (.int k n)]⟩
 | .bool,b,_=>⟨false,[.val (.bool b)]⟩
 | .str,s,_=>⟨false,[.val (.string s)]⟩
 | .isl u,xs,_=>⟨false,[.isl .none u xs]⟩
 | .data u,x,_=>⟨true,U.enc u x⟩
 | .ptr,_,p=>⟨false,[.ptr p 0 0]⟩
 | .Q31 u,x,_=>⟨false,[.Q31 u x 0]⟩
 | .Q37 u,x,_=>⟨false,[.Q37 u x]⟩
 | .row _,n,p=>⟨false,[.sl p 0 n]⟩
 | .ref f,x,_=>⟨false,[.ref f x]⟩
 | .Q3p f,x,_=>⟨false,[.Q3p f x]⟩
 | .Q4H j off m n,i,_=>⟨false,[.Q1q (U.nf+j) off m n i 0]⟩
 | .own u,xs,p=>⟨false,[.isl (.own p) u xs]⟩
 | .flt,b,_=>⟨false,[.val (.float .f64 b)]⟩
 | .cpx,x,_=>⟨false,[.val (.complex .f64 x.1 x.2)]⟩
def Q9l (f:Nat) (x:U.S):Option (Option Nat):=
 match x with
 | .ref g y=>bif Nat.beq g f then some y else none
 | .ptr g i off=>bif Nat.beq g f && Nat.beq off 0 && Nat.blt f U.nf then some (some i) else none
 | .val (.pointer none)=>some none
 |_=>none
def Z7j (f:Nat) (x:U.S):Option (Option Nat):=
 match x with
 | .Q3p g y=>bif Nat.beq g f then some y else none
 | .val (.map none)=>some none
 |_=>none
def Z7G (u:U.C) (x:U.S):Option (Option (U.D u)):=
 match x with
 | .Q37 v y=>match U.eq? v u with
  |some ⟨e⟩=>some (e▸y)
  |none=>none
 | .Q31 v y off=>match U.eq? v u with
  |some ⟨e⟩=>bif Nat.beq off 0 then some (some (e▸y)) else none
  |none=>none
 | .val (.pointer none)=>some none
 |_=>none
def Q6Y:(s:Sh U.C)->V U->Option (s.T U)
 | .int k,⟨false,[.val (.int j n)]⟩=>bif decide (j=k) then some n else none
 | .bool,⟨false,[.val (.bool b)]⟩=>some b
 | .str,⟨false,[.val (.string s)]⟩=>some s
 | .isl u,⟨false,[x]⟩=>match Z2V u x with
  |some (_,xs)=>some xs
  |none=>none
 | .data u,⟨true,l⟩=>U.dec u l
 | .ptr,⟨false,[.ptr _ _ _]⟩=>some ()
 | .ptr,⟨false,[.Q1q _ _ _ _ _ _]⟩=>some ()
 | .Q31 u,⟨false,[.Q31 v x off]⟩=>match U.eq? v u with
  |some ⟨e⟩=>bif Nat.beq off 0 then some (e▸x) else none
  |none=>none
 | .Q37 u,⟨false,[x]⟩=>Z7G u x
 | .row _,⟨false,[.sl _ b n]⟩=>bif Nat.beq b 0 then some n else none
 | .ref f,⟨false,[x]⟩=>Q9l f x
 | .Q3p f,⟨false,[x]⟩=>Z7j f x
 | .Q4H _ off m n,⟨false,[.Q1q _ off' m' n' i k]⟩=>bif Nat.beq off off' && Nat.beq m m' && Nat.beq n n' && Nat.beq k 0 then some i else none
 | .own u,⟨false,[.isl (.own _) v xs]⟩=>match U.eq? v u with
  |some ⟨e⟩=>some (e▸xs)
  |none=>none
 | .flt,⟨false,[.val (.float .f64 b)]⟩=>some b
 | .cpx,⟨false,[.val (.complex .f64 a b)]⟩=>some (a,b)
 |_,_=>none
def Sh.Q4S {C:Type}:Sh C->Bool
 | .ptr=>true
 | .row _=>true
 | .own _=>true
 |_=>false
def Sh.Q5w {C:Type}:Sh C->Bool
 | .Q4H _ _ _ _=>true
 |_=>false
inductive JV (C:Type) where
 |val (s:Sh C)
 |ptr (s i off:Nat)
 |Q6S
 |own (u:C) (k:Nat)
 |full (u:C)
 | Q1q (s off m n k : Nat)
 | asl (s off m n : Nat)
 | rsl (s : Nat)
 |clo (f:Nat) (ps:List (Nat×Nat×Nat))
inductive JH (C:Type) where
 |obj (u:C)
 |fam (ct:Bool) (u:C) (n:Nat)
 |Qf (ct:Bool) (u:C)
 |tok
 |iter
 | Q5O (u : C)
 |Q20 (gk gv:Bool) (ku vu:C)
 |Q1a (u:C)
abbrev JVs (U:QV):List (Nat×JV U.C)->Type
 | []=>Unit
 |(_,.val s)::r=>s.T U×JVs U r
 |(_,.ptr _ _ _)::r=>JVs U r
 |(_,.Q6S)::r=>JVs U r
 |(_,.own u _)::r=>List (U.D u)×JVs U r
 |(_,.full u)::r=>List (U.D u)×JVs U r
 |(_,.Q1q _ _ _ _ _)::r=>Nat×JVs U r
 |(_,.asl _ _ _ _)::r=>(Nat×Nat)×JVs U r
 |(_,.rsl _)::r=>(Nat×Nat)×JVs U r
 |(_,.clo _ _)::r=>JVs U r
abbrev JHs (U:QV):List (Nat×JH U.C)->Type
 | []=>Unit
 |(_,.obj u)::r=>U.D u×JHs U r
 |(_,.fam _ u _)::r=>(Nat->U.D u)×JHs U r
 |(_,.Qf _ u)::r=>(Nat×(Nat->U.D u))×JHs U r
 |(_,.tok)::r=>JHs U r
 |(_,.iter)::r=>(ByteArray×Nat)×JHs U r
 |(_,.Q5O u)::r=>(Nat×Nat×(Nat->U.D u))×JHs U r
 |(_,.Q20 _ _ ku vu)::r=>(Nat×(Nat->List (U.D ku×U.D vu)))×JHs U r
 |(_,.Q1a u)::r=>(Nat×(Nat->List (U.D u)))×JHs U r
structure Shape (U:QV) where
 n:Nat
 nx:Nat
 env:List (Nat×JV U.C)
 heap:List (Nat×JH U.C)
abbrev Shape.T (p:Shape U):Type:=JVs U p.env×JHs U p.heap
def Zv:(l:List (Nat×JV U.C))->JVs U l->Env U
 | [],_=>[]
 |(t,.val s)::r,x=>(t,.v (Q64 s x.1 0))::Zv r x.2
 |(t,.ptr a i off)::r,x=>(t,sc (.ptr a i off))::Zv r x
 |(t,.Q6S)::r,x=>(t,scv (.pointer none))::Zv r x
 |(t,.own u k)::r,x=>(t,sc (.isl (.own k) u x.1))::Zv r x.2
 |(t,.full u)::r,x=>(t,sc (.isl .full u x.1))::Zv r x.2
 |(t,.Q1q s off m n k)::r,x=>(t,sc (.Q1q s off m n x.1 k))::Zv r x.2
 |(t,.asl s off m n)::r,x=>(t,sc (.asl s off m n x.1.1 x.1.2))::Zv r x.2
 |(t,.rsl s)::r,x=>(t,sc (.sl s x.1.1 x.1.2))::Zv r x.2
 |(t,.clo f ps)::r,x=>(t,sc (.clo f ps))::Zv r x
def Q7I:List (Nat×Nat×Nat)->List (Nat×Nat×Nat)->Option (List (Nat×Nat))
 | [],[]=>some []
 |(s,i,off)::r,(s',i',off')::r'=>bif Nat.beq i i' && Nat.beq off off' then (match Q7I r r' with
  |some l=>some ((s,s')::l)
  | .none=>.none) else .none
 |_,_=>.none
def ZP:List (Nat×JV U.C)->Env U->Option (List (Nat×Nat))
 | [],_=>some []
 |(_,.val _)::r,env=>ZP r env
 |(t,.ptr s i off)::r,env=>match get env t,ZP r env with
  |some (.v ⟨false,[.ptr s' i' off']⟩),some l=>bif Nat.beq i i' && Nat.beq off off' then some ((s,s')::l) else none
  |_,_=>none
 |(_,.Q6S)::r,env=>ZP r env
 |(t,.own _ k)::r,env=>match get env t,ZP r env with
  |some (.v ⟨false,[.isl (.own k') _ _]⟩),some l=>some ((k,k')::l)
  |_,_=>none
 |(_,.full _)::r,env=>ZP r env
 |(t,.Q1q s off m n k)::r,env=>match get env t,ZP r env with
  |some (.v ⟨false,[.Q1q s' off' m' n' _ k']⟩),some l=>bif Nat.beq off off' && Nat.beq m m' && Nat.beq n n' && Nat.beq k k' then some ((s,s')::l) else none
  |_,_=>none
 |(t,.asl s off m n)::r,env=>match get env t,ZP r env with
  |some (.v ⟨false,[.asl s' off' m' n' _ _]⟩),some l=>bif Nat.beq off off' && Nat.beq m m' && Nat.beq n n' then some ((s,s')::l) else none
  |_,_=>none
 |(t,.rsl s)::r,env=>match get env t,ZP r env with
  |some (.v ⟨false,[.sl s' _ _]⟩),some l=>some ((s,s')::l)
  |_,_=>none
 |(t,.clo f ps)::r,env=>match get env t,ZP r env with
  |some (.v ⟨false,[.clo f' ps']⟩),some l=>bif Nat.beq f f' then (match Q7I ps ps' with
   |some m=>some (m++l)
   |none=>none) else none
  |_,_=>none
def ren (l:List (Nat×Nat)) (base s:Nat):Option Nat:=bif Nat.blt s base then some s else get l s
def Z1T (a b:Bool):Bool:=bif a then b else !b
def Z3N (base nx:Nat) (l:List (Nat×Nat)):Bool:=
 l.all λp=>Nat.blt p.1 nx && Z1T (Nat.blt p.1 base) (Nat.blt p.2 base) && (bif Nat.blt p.1 base then Nat.beq p.1 p.2 else true) && l.all λq=>Z1T (Nat.beq p.1 q.1) (Nat.beq p.2 q.2)
def ZG:(l:List (Nat×JV U.C))->Env U->Option (JVs U l)
 | [],_=>some ()
 |(t,.val s)::r,env=>match get env t,ZG r env with
  |some (.v x),some ys=>bif s.Q4S||s.Q5w then none else match Q6Y s x with
   |some y=>some (y,ys)
   |none=>none
  |_,_=>none
 |(_,.ptr _ _ _)::r,env=>ZG r env
 |(t,.Q6S)::r,env=>match get env t with
  |some (.v ⟨false,[.val (.pointer none)]⟩)=>ZG r env
  |_=>none
 |(t,.own u k)::r,env=>match get env t,ZG r env with
  |some (.v ⟨false,[.isl (.own k') v xs]⟩),some ys=>match U.eq? v u with
   |some ⟨e⟩=>some (e▸xs,ys)
   |none=>none
  |_,_=>none
 |(t,.full u)::r,env=>match get env t,ZG r env with
  |some (.v ⟨false,[x]⟩),some ys=>match Z2V u x with
   |some (.full,xs)=>some (xs,ys)
   |_=>none
  |_,_=>none
 |(t,.Q1q _ _ _ _ _)::r,env=>match get env t,ZG r env with
  |some (.v ⟨false,[.Q1q _ _ _ _ i _]⟩),some ys=>some (i,ys)
  |_,_=>none
 |(t,.asl _ _ _ _)::r,env=>match get env t,ZG r env with
  |some (.v ⟨false,[.asl _ _ _ _ b l]⟩),some ys=>some ((b,l),ys)
  |_,_=>none
 |(t,.rsl _)::r,env=>match get env t,ZG r env with
  |some (.v ⟨false,[.sl _ b l]⟩),some ys=>some ((b,l),ys)
  |_,_=>none
 |(_,.clo _ _)::r,env=>ZG r env
def Zu:(l:List (Nat×JH U.C))->JHs U l->Qr U
 | [],_=>[]
 |(s,.obj u)::r,x=>(s,.obj (U.enc u x.1))::Zu r x.2
 |(s,.fam ct u n)::r,x=>(s,.fam ct u n x.1)::Zu r x.2
 |(s,.Qf ct u)::r,x=>(s,.fam ct u x.1.1 x.1.2)::Zu r x.2
 |(s,.tok)::r,x=>(s,.tok)::Zu r x
 |(s,.iter)::r,x=>(s,.iter x.1.1 x.1.2)::Zu r x.2
 |(s,.Q5O u)::r,x=>(s,.Q30 u x.1.1 x.1.2.1 x.1.2.2)::Zu r x.2
 |(s,.Q20 gk gv ku vu)::r,x=>(s,.Q20 gk gv ku vu x.1.1 x.1.2)::Zu r x.2
 |(s,.Q1a u)::r,x=>(s,.Q1a u x.1.1 x.1.2)::Zu r x.2
def ZE (base:Nat) (m:List (Nat×Nat)):(l:List (Nat×JH U.C))->Qr U->Option (JHs U l)
 | [],_=>some ()
 |(s,.obj u)::r,h=>match (ren m base s).bind (get h),ZE base m r h with
  |some (.obj cells),some ys=>match U.dec u cells with
   |some y=>some (y,ys)
   |none=>none
  |some (.fam _ v n f),some ys=>bif Nat.beq n 1 then match U.eq? v u with
   |some ⟨e⟩=>some (e▸f 0,ys)
   |none=>none
   else none
  |_,_=>none
 |(s,.fam ct u n)::r,h=>match (ren m base s).bind (get h),ZE base m r h with
  |some (.fam ct' v n' f),some ys=>bif (ct==ct') && Nat.beq n n' then match U.eq? v u with
   |some ⟨e⟩=>some (e▸f,ys)
   |none=>none
   else none
  |_,_=>none
 |(s,.Qf ct u)::r,h=>match (ren m base s).bind (get h),ZE base m r h with
  |some (.fam ct' v n' f),some ys=>bif (ct==ct') then match U.eq? v u with
   |some ⟨e⟩=>some ((n',e▸f),ys)
   |none=>none
   else none
  |_,_=>none
 |(s,.tok)::r,h=>match (ren m base s).bind (get h) with
  |some .tok=>ZE base m r h
  |_=>none
 |(s,.iter)::r,h=>match (ren m base s).bind (get h),ZE base m r h with
  |some (.iter t pos),some ys=>some ((t,pos),ys)
  |_,_=>none
 |(s,.Q5O u)::r,h=>match (ren m base s).bind (get h),ZE base m r h with
  |some (.Q30 v n z f),some ys=>match U.eq? v u with
   |some ⟨e⟩=>some ((n,z,e▸f),ys)
   |none=>none
  |some (.fam true v n f),some ys=>bif U.plain v then (match U.eq? v u with
   |some ⟨e⟩=>some ((n,0,e▸f),ys)
   |none=>none) else none
  |_,_=>none
 |(s,.Q20 gk gv ku vu)::r,h=>match (ren m base s).bind (get h),ZE base m r h with
  |some (.Q20 gk' gv' ku' vu' n g),some ys=>bif Z1T gk gk' && Z1T gv gv' then (match U.eq? ku' ku,U.eq? vu' vu with
   |some ⟨e⟩,some ⟨e'⟩=>some ((n,e▸e'▸g),ys)
   |_,_=>none) else none
  |_,_=>none
 |(s,.Q1a u)::r,h=>match (ren m base s).bind (get h),ZE base m r h with
  |some (.Q1a v n g),some ys=>match U.eq? v u with
   |some ⟨e⟩=>some ((n,e▸g),ys)
   |none=>none
  |_,_=>none
def Shape.enc (p:Shape U) (x:p.T):St U:={ n:=p.n,env:=Zv p.env x.1,h:=Zu p.heap x.2,nx:=p.nx}
def own1 (t:Nat) (u:U.C) (st:St U):St U:=
 match get st.env t with
 |some (.v ⟨false,[x]⟩)=>match Z2V u x with
  |some (.full,xs)=>{ n:=st.n,env:=(t,sc (.isl (.own st.nx) u xs))::st.env,h:=(st.nx,.tok)::st.h,nx:=st.nx+1}
  |_=>st
 |_=>st
def Z61:List (Nat×JV U.C)->St U->St U
 | [],st=>st
 |(t,.own u _)::r,st=>Z61 r (own1 t u st)
 |_::r,st=>Z61 r st
def Shape.dec0 (base:Nat) (p:Shape U) (st:St U):Option p.T:=
 match ZP p.env st.env with
 |some m=>
  bif Nat.beq st.n p.n && Nat.ble U.nf base && Nat.ble base p.nx && Z3N base p.nx m && p.heap.all (λq=>Nat.blt q.1 p.nx) then
   match ZG p.env st.env,ZE base m p.heap st.h with
   |some x,some y=>some (x,y)
   |_,_=>none
  else none
 |none=>none
def Z1B (base:Nat) (m:List (Nat×Nat)):List (Nat×JH U.C)->List (Nat×U.C)
 | []=>[]
 |(s,.obj u)::r=>bif U.plain u then Z1B base m r else (match ren m base s with
  |some t=>(t,u)::Z1B base m r
  |none=>Z1B base m r)
 |_::r=>Z1B base m r
def Shape.dec1 (b:Nat×Nat) (p:Shape U) (st:St U):Option p.T:=
 match ZP p.env st.env with
 |some m=>
  bif Q4U b.1 (ZC (Q4q (Z1B b.2 m p.heap) st.h) st.h) then p.dec0 b.2 { n:=st.n,env:=st.env,h:=ZC (Q4q (Z1B b.2 m p.heap) st.h) st.h++st.h,nx:=st.nx} else none
 |none=>none
def Shape.dec (b:Nat×Nat) (p:Shape U) (st:St U):Option p.T:=p.dec1 b (Z61 p.env st)
abbrev Qt (U:QV):=List (Exit×Shape U)
abbrev ExT {U:QV}:Qt U->Type
 | []=>Empty
 | [(_,p)]=>p.T
 |(_,p)::q::r=>p.T⊕ExT (q::r)
def Q8m:Exit->Exit->Bool
 | .normal,.normal=>true
 | .exit a,.exit b=>Nat.beq a b
 | .goto a,.goto b=>Nat.beq a b
 | .ret,.ret=>true
 |_,_=>false
def Q3B {α β ρ:Type} (x:α⊕β) (f:α->ρ) (g:β->ρ):ρ:=
 match x with
 | .inl a=>f a
 | .inr b=>g b
def Z1S (base:Nat×Nat):(l:Qt U)->Exit->St U->Option (ExT l)
 | [],_,_=>none
 | [(e,p)],e',st=>bif Q8m e e' then p.dec base st else none
 |(e,p)::q::r,e',st=>bif Q8m e e' then (match p.dec base st with|some x=>some (.inl x)|none=>none) else (match Z1S base (q::r) e' st with|some x=>some (.inr x)|none=>none)
def Q7f {ρ:Type}:(l:Qt U)->ExT l->(Exit->St U->ρ)->ρ
 | [],x,_=>nomatch x
 | [(e,p)],x,K=>K e (p.enc x)
 |(e,p)::q::r,x,K=>Q3B x (λy=>K e (p.enc y)) (λz=>Q7f (q::r) z K)
def Z50 (base:Nat×Nat) (l:Qt U) (ρ:Type) (f:(ρ':Type)->ρ'->(Exit->St U->ρ')->ρ') (fail:ρ) (K:Exit->St U->ρ):ρ:=
 Q0 (f (Option (ExT l)) none (Z1S base l)) fail λx=>Q7f l x K
def Z8 {α β:Type}:Nat->(α->Option (α⊕β))->α->Option β
 |0,_,_=>none
 |n+1,s,a=>match s a with
  |some (.inl a')=>Z8 n s a'
  |some (.inr b)=>some b
  |none=>none
abbrev Z2E (U:QV):=(ρ:Type)->St U->ρ->(Exit->St U->ρ)->ρ
structure Hints (U:QV) where
 Γ:Nat->Option (Native U):=λ_=>.none
 loop:Nat->Option (Z2E U):=λ_=>.none
 meet:Nat->Option Live:=λ_=>.none
 meetC:Nat->Option Live:=λ_=>.none
 Q2J : Nat -> Option (Qt U) := λ_ =>.none
 Q1T : Nat -> Option (List (Nat × JV U.C)) := λ_ =>.none
 Q29 : Nat -> Option (Qt U) := λ_ =>.none
 joinP : Nat -> Option (List (Nat × JV U.C)) := λ_ =>.none
 joinB : Nat -> Option (Qt U) := λ_ =>.none
 ro : Nat := 0
 base : Nat := 0
 label:Nat->Option (Z2E U):=λ_=>.none
 gotos : Nat := 1
 inl : Nat -> Option (Q6m U) := λ_ =>.none
 seq : Nat -> Bool := λ_ =>false
def Zj:Code->Nat
 | .region id _ _=>id
 | .seq a b=>match Zj a with
  |0=>Zj b
  |n=>n
 | .cond _ a b=>match Zj a with
  |0=>Zj b
  |n=>n
 | .block _ b=>Zj b
 | .loop b=>Zj b
 | .scope b=>Zj b
 |_=>0
def Z7k (l:Live) (b:Bool) (x y:Option (St U)):Option (St U):=
 match x,y with
 |some x,some y=>Z4U b l x y
 |_,_=>.none
def JV.isVal {C:Type}:JV C->Bool
 | .val _=>true
 |_=>false
def Z4v (l:List (Nat×JV U.C)) (st st':St U):Option (JVs U l):=
 bif l.all (λp=>p.2.isVal) && Nat.beq st'.n st.n && Nat.beq st'.nx st.nx && Nat.beq st'.h.length st.h.length then ZG l st'.env else none
def Q1T (l:List (Nat×JV U.C)) (ops:List Oper) (ρ:Type) (f:(ρ':Type)->ρ'->(St U->ρ')->ρ') (st:St U) (fail:ρ) (K:Exit->St U->ρ):ρ:=
 Q0 (f (Option (JVs U l)) none (Z4v l st)) fail λx=>
  K .normal { n:=st.n,env:=Zv l x++st.env.filter (λp=>!mem p.1 (ops.filterMap (·.dst))),h:=st.h,nx:=st.nx}
def opsOf:Code->List Oper
 | .region _ ops _=>ops.toList
 |_=>[]
def Z6 (base:Nat×Nat) (p:Shape U) (l:Qt U) (F:p.T->Option (ExT l)):Z2E U:=λ_ st fail K=>
 match p.dec base st with
 |some a=>Q0 (F a) fail λx=>Q7f l x K
 |none=>fail
def Zc (base:Nat×Nat) (p:Shape U) (l:Qt U) (e:Exit) (st:St U):Option (p.T⊕ExT l):=
 match e with
 | .normal=>match p.dec base st with
  |some x=>some (.inl x)
  |none=>none
 |e=>match Z1S base l e st with
  |some x=>some (.inr x)
  |none=>none
def Z2v (base:Nat×Nat) (lb:Nat) (p:Shape U) (l:Qt U) (e:Exit) (st:St U):Option (p.T⊕ExT l):=
 match e with
 | .goto i=>bif Nat.beq i lb then (match p.dec base st with
  |some x=>some (.inl x)
  |none=>none) else none
 |e=>match Z1S base l e st with
  |some x=>some (.inr x)
  |none=>none
def Z3m (again:(ρ:Type)->ρ->Code->St U->(Exit->St U->ρ)->ρ) (b:Code) (ρ:Type) (fail:ρ) (K:Exit->St U->ρ):Nat->Nat->St U->ρ
 |0,l,st=>match findLabel b l with
  |some _=>fail
  |none=>K (.goto l) st
 |k+1,l,st=>match findLabel b l with
  |some rest=>again ρ fail rest st λe st=>match e with
   | .goto l=>Z3m again b ρ fail K k l st
   |e=>K e st
  |none=>K (.goto l) st
def Q8k (P:Program) (Γ:Nat->Option (Native U)) (ro:Nat) (st:St U):Code->(ρ:Type)->ρ->(St U->ρ)->ρ
 | .skip,_,_,K=>K st
 | .region _ ops dr,_,fail,K=>Z12 P Γ ro dr ops.toList (bif dr then Q3S ops.toList [] else []) (λb x y=>bif b then x else y) fail ops.toList 0 [] st K
 |_,_,fail,_=>fail
def Q4r (P:Program) (Hn:Hints U) (again:(ρ:Type)->ρ->Code->St U->(Exit->St U->ρ)->ρ):(ρ:Type)->ρ->Code->St U->(Exit->St U->ρ)->ρ
 |_,_,.skip,st,K=>K .normal st
 |ρ,fail,.region id ops dr,st,K=>
  bif Hn.seq id && !dr then
   match Hn.Q2J id with
   |some l=>Z50 (Hn.ro,Hn.base) l ρ (λ_ fail K=>Z28 P Hn.Γ Hn.inl Hn.ro ops.toList fail ops.toList 0 st (λst=>K .normal st)) fail K
   | .none=>Z28 P Hn.Γ Hn.inl Hn.ro ops.toList fail ops.toList 0 st (λst=>K .normal st)
  else
  let ms:=bif dr then Q3S ops.toList [] else []
  match Hn.meet id with
  |some l=>match Z12 P Hn.Γ Hn.ro dr ops.toList ms (Z7k l) .none ops.toList 0 [] st (λst=>some (st.only l)) with
   |some st=>K .normal st
   | .none=>fail
  | .none=>match Hn.Q2J id with
   |some l=>Z50 (Hn.ro,Hn.base) l ρ (λ_ fail K=>Z12 P Hn.Γ Hn.ro dr ops.toList ms (λb x y=>bif b then x else y) fail ops.toList 0 [] st (λst=>K .normal st)) fail K
   | .none=>match Hn.Q1T id with
    |some l=>Q1T l ops.toList ρ (λ_ fail K=>Z12 P Hn.Γ Hn.ro dr ops.toList ms (λb x y=>bif b then x else y) fail ops.toList 0 [] st K) st fail K
    | .none=>Z12 P Hn.Γ Hn.ro dr ops.toList ms (λb x y=>bif b then x else y) fail ops.toList 0 [] st (λst=>K .normal st)
 |ρ,fail,.seq a b,st,K=>Q4r P Hn again ρ fail a st λe st=>match e with
  | .normal=>Q4r P Hn again ρ fail b st K
  |e=>K e st
 |ρ,fail,.cond c a b,st,K=>
  match opd st.env c with
  |some (.v ⟨false,[.val (.bool x)]⟩)=>
   match Hn.meetC (Zj (.cond c a b)) with
   |some l=>
    match Q4r P Hn again (Option (Exit×St U)) .none a st (λe st=>some (e,st)),Q4r P Hn again (Option (Exit×St U)) .none b st (λe st=>some (e,st)) with
    |some (.normal,st1),some (.normal,st2)=>match Z4U x l st1 st2 with
     |some st=>K .normal st
     | .none=>fail
    |_,_=>fail
   | .none=>match Hn.Q29 (Zj (.cond c a b)) with
    |some l=>Z50 (Hn.ro,Hn.base) l ρ (λρ fail K=>bif x then Q4r P Hn again ρ fail a st K else Q4r P Hn again ρ fail b st K) fail K
    | .none=>match Hn.joinP (Zj (.cond c a b)) with
     |some l=>Q1T l (opsOf a++opsOf b) ρ (λρ fail K=>bif x then Q8k P Hn.Γ Hn.ro st a ρ fail K else Q8k P Hn.Γ Hn.ro st b ρ fail K) st fail K
     | .none=>bif x then Q4r P Hn again ρ fail a st K else Q4r P Hn again ρ fail b st K
  |_=>fail
 |ρ,fail,.block id b,st,K=>match Hn.joinB id with
  |some l=>Z50 (Hn.ro,Hn.base) l ρ (λρ fail K=>Q4r P Hn again ρ fail b st λe st=>match e with
   | .exit i=>bif Nat.beq i id then K .normal st else K (.exit i) st
   |e=>K e st) fail K
  | .none=>Q4r P Hn again ρ fail b st λe st=>match e with
   | .exit i=>bif Nat.beq i id then K .normal st else K (.exit i) st
   |e=>K e st
 |ρ,fail,.loop b,st,K=>match Hn.loop (Zj b) with
  |some N=>N ρ st fail K
  | .none=>fail
 |_,_,.exit i,st,K=>K (.exit i) st
 |ρ,fail,.scope b,st,K=>Q4r P Hn again ρ fail b st λe st=>match e with
  | .goto l=>match findLabel b l,Hn.label l with
   |some _,some N=>N ρ st fail K
   |_,_=>Z3m again b ρ fail K Hn.gotos l st
  |e=>K e st
 |_,_,.label _,st,K=>K .normal st
 |_,_,.goto l,st,K=>K (.goto l) st
 |_,_,.ret,st,K=>K .ret st
 |_,fail,.rangeFunc ..,_,_=>fail
 |_,fail,.refuse _,_,_=>fail
def run (P:Program) (Hn:Hints U):Nat->(ρ:Type)->ρ->Code->St U->(Exit->St U->ρ)->ρ
 |0=>Q4r P Hn λ_ fail _ _ _=>fail
 |n+1=>Q4r P Hn (run P Hn n)
def Z2l (P:Program) (env:Env U) (h:Qr U):ResultVar->Option (V U)
 | .tmp t=>match get env t with
  |some (.v x)=>some x
  |_=>.none
 | .cell a t=>match get env a,agg? P t,size? P t with
  |some (.v ⟨false,[.ptr s i off]⟩),some g,some n=>match ld h s i off n with
   |some l=>match asV g l with
    |some (.v x)=>some x
    |_=>.none
   | .none=>.none
  |_,_,_=>.none
def results (P:Program) (fn:Func) (env:Env U) (h:Qr U):Option (A U):=
 match ZF (fn.results.toList.map (Z2l P env h)) with
 |some [x]=>some (.v x)
 |some l=>some (.t l)
 | .none=>.none
def Z60:Nat->List (A U)->Env U
 |_,[]=>[]
 |i,a::r=>(i,a)::Z60 (i+1) r
def Q6U {ρ:Type} (P:Program) (Hn:Hints U) (fn:Func) (gos:Nat) (fail:ρ) (fin:A U->Qr U->ρ) (args:List (A U)) (h:Qr U) (nx:Nat):ρ:=
 match fn.body with
 |some c=>run P Hn gos ρ fail c { n:=fn.ntmps,env:=Z60 0 args,h:=h,nx:=nx} λe st=>
  let out:=match results P fn st.env st.h with
   |some v=>fin v st.h
   | .none=>fail
  match e with
  | .normal=>out
  | .ret=>out
  |_=>fail
 | .none=>fail
end
end Go.Rf
namespace Go.Rf
set_option linter.unusedVariables false
structure Cx where
 L:Nat->Nat->Option (Nat×Nat)
 I:Nat->Nat->Option Value
structure Cx.Le (c d:Cx):Prop where
 L:∀s i x,c.L s i=some x->d.L s i=some x
 I:∀b o v,c.I b o=some v->d.I b o=some v
theorem Cx.Le.refl (c:Cx):c.Le c:=⟨λ_ _ _ h=>h,λ_ _ _ h=>h⟩
theorem Cx.Le.trans {c d e:Cx} (h:c.Le d) (h':d.Le e):c.Le e:=⟨λ_ _ _ x=>h'.L _ _ _ (h.L _ _ _ x),λ_ _ _ x=>h'.I _ _ _ (h.I _ _ _ x)⟩
abbrev at_ (b o:Nat):Addr:=⟨b,o,none⟩
def Q5q (c:Cx) (t:Tok) (a:Option Addr) (b o n cap sz:Nat):Prop:=
 match t with
 | .none=>True
 | .full=>cap=n
 | .own k=>∃b' o' e,c.L k 0=some (b',o')/\c.L k 1=some (b',e)/\(0 < cap->a=some (at_ b o)/\b'=b/\o'=o+n*sz/\o+cap*sz<=e)
variable {U : QV}
inductive R (U:QV) (c:Cx):U.S->Value->Prop
 |val {v:Value} (h:okV v=true):R U c (.val v) v
 |ptr {s i off b o:Nat} (h:c.L s i=some (b,o)):R U c (.ptr s i off) (.pointer (some (at_ b (o+off))))
 |isl {t:Tok} {u:U.C} {xs:List (U.D u)} {a:Option Addr} {cap b o:Nat} (g:Nat->Nat->Value) (hc:xs.length<=cap)
   (ht:Q5q c t a b o xs.length cap (U.size u)) (ha:0 < xs.length->a=some (at_ b o))
   (hi:∀i k,i < xs.length->k < U.size u->c.I b (o+(i*U.size u+k))=some (g i k))
   (hr:∀i k,i < xs.length->k < U.size u->R U c ((U.enc u (xs.getD i (U.dft u))).getD k .hole) (g i k)):
   R U c (.isl t u xs) (.slice a xs.length cap)
 |Q31 {u:U.C} {x:U.D u} {off b o:Nat} (g:Nat->Value) (hi:∀k,k < U.size u->c.I b (o+k)=some (g k))
   (hr:∀k,k < U.size u->R U c ((U.enc u x).getD k .hole) (g k)):R U c (.Q31 u x off) (.pointer (some (at_ b (o+off))))
 |Q7r {u:U.C}:R U c (.Q37 u none) (.pointer none)
 |Q56 {u:U.C} {x:U.D u} {b o:Nat} (g:Nat->Value) (hi:∀k,k < U.size u->c.I b (o+k)=some (g k))
   (hr:∀k,k < U.size u->R U c ((U.enc u x).getD k .hole) (g k)):R U c (.Q37 u (some x)) (.pointer (some (at_ b o)))
 |sl {s i n cap b o:Nat} {a:Option Addr} (hc:n<=cap) (ha:0 < n->c.L s i=some (b,o)/\a=some (at_ b o))
   (hl:∀j,j < n->∃x,c.L s (i+j)=some x):R U c (.sl s i n) (.slice a n cap)
 |Q1q {s off m n i k b o:Nat} (hi:i < n) (h:c.L s 0=some (b,o)):R U c (.Q1q s off m n i k) (.pointer (some (at_ b (o+off+(i*m+k)))))
 |asl {s off m n bb l cap b o:Nat} {a:Option Addr} (hc:l<=cap) (hb:bb+l<=n) (h:c.L s 0=some (b,o)) (ha:0 < l->a=some (at_ b (o+off+bb*m))):R U c (.asl s off m n bb l) (.slice a l cap)
 |Q7i {f:Nat}:R U c (.ref f none) (.pointer none)
 |Q5c {f i b o:Nat} (hf:f < U.nf) (h:c.L f i=some (b,o)):R U c (.ref f (some i)) (.pointer (some (at_ b o)))
 |Q7X {f:Nat}:R U c (.Q3p f none) (.map none)
 |Q6C {f i b:Nat} (hf:f < U.nf) (h:c.L f i=some (b,0)):R U c (.Q3p f (some i)) (.map (some b))
 |Q4Q {F m r i k b o:Nat} (h:c.L F (2*r)=some (b,o)):R U c (.Q4Q F m r i k) (.pointer (some (at_ b (o+(i*m+k)))))
 |rsl {own:Bool} {F m r bb n cap b o:Nat} {a:Option Addr} (hc:n<=cap) (ha:0 < n->F < U.nf/\c.L F (2*r)=some (b,o)/\a=some (at_ b (o+bb*m)))
   (ho:own=true->(n=0->cap=0)/\(0 < n->∃e,c.L F (2*r+1)=some (b,e)/\o+(bb+cap)*m<=e)):R U c (.rsl own F m r bb n) (.slice a n cap)
 |clo {f:Nat} {ps:List (Nat×Nat×Nat)} {vs:Array Value} (hn:vs.size=ps.length) (hp:∀(k:Nat) p,ps[k]? =some p->∃b o,c.L p.1 p.2.1=some (b,o)/\vs[k]? =some (.pointer (some (at_ b (o+p.2.2))))):R U c (.clo f ps) (.func (.func f) #[] vs)
theorem Q5q.mono {c d:Cx} (h:c.Le d) {t:Tok} {a:Option Addr} {b o n cap sz:Nat} (ht:Q5q c t a b o n cap sz):Q5q d t a b o n cap sz:=by
 cases t with
 |none=>trivial
 |full=>exact ht
 |own k=>obtain ⟨b',o',e,h1,h2,h3⟩:=ht;exact ⟨b',o',e,h.L _ _ _ h1,h.L _ _ _ h2,h3⟩
theorem R.mono {c d:Cx} (h:c.Le d) {x:U.S} {v:Value} (hx:R U c x v):R U d x v:=by
 induction hx with
 |val hv=>exact .val hv
 |ptr h1=>exact .ptr (h.L _ _ _ h1)
 |isl g hc ht ha hi hr ih=>exact .isl g hc (ht.mono h) ha (λi k h1 h2=>h.I _ _ _ (hi i k h1 h2)) ih
 |Q31 g hi hr ih=>exact .Q31 g (λk h1=>h.I _ _ _ (hi k h1)) ih
 |Q7r=>exact .Q7r
 |Q56 g hi hr ih=>exact .Q56 g (λk h1=>h.I _ _ _ (hi k h1)) ih
 |sl hc ha hl=>exact .sl hc (λhn=>⟨h.L _ _ _ (ha hn).1,(ha hn).2⟩) λj hj=>let ⟨x,hx⟩:=hl j hj;⟨x,h.L _ _ _ hx⟩
 |Q1q hi h1=>exact .Q1q hi (h.L _ _ _ h1)
 |asl hc hb h1 ha=>exact .asl hc hb (h.L _ _ _ h1) ha
 |Q7i=>exact .Q7i
 |Q5c hf h1=>exact .Q5c hf (h.L _ _ _ h1)
 |Q7X=>exact .Q7X
 |Q6C hf h1=>exact .Q6C hf (h.L _ _ _ h1)
 |Q4Q h1=>exact .Q4Q (h.L _ _ _ h1)
 |rsl hc ha ho=>exact .rsl hc (λhn=>⟨(ha hn).1,h.L _ _ _ (ha hn).2.1,(ha hn).2.2⟩) λhw=>⟨(ho hw).1,λhn=>let ⟨e,h1,h2⟩:=(ho hw).2 hn;⟨e,h.L _ _ _ h1,h2⟩⟩
 |clo hn hp=>exact .clo hn λk p hk=>let ⟨b,o,h1,h2⟩:=hp k p hk;⟨b,o,h.L _ _ _ h1,h2⟩
structure Cx.LeI (U:QV) (c d:Cx):Prop where
 I:∀b o v,c.I b o=some v->d.I b o=some v
 F:∀f i x,f < U.nf->c.L f i=some x->d.L f i=some x
theorem Cx.LeI.refl (c:Cx):Cx.LeI U c c:=⟨λ_ _ _ h=>h,λ_ _ _ _ h=>h⟩
theorem QaK {v:Value} (h:okV v=true):v.oneCell'=true:=by
 cases v <;> first|exact h|rfl
theorem Z77 {v:Value} (h:okR v=true):okV v=true:=by
 cases v <;> first|exact h|(rename_i k n;cases k <;> first|rfl|cases h)
theorem wrap_u8 (n:Int):0<=IntKind.u8.wrap n/\IntKind.u8.wrap n < 256:=by
 simp [IntKind.wrap,IntKind.signed,IntKind.bits]
 omega
theorem Z4j {n:Int} (h:0<=n/\n < 256):okV (.int .u8 n)=true:=by simp [okV,h]
theorem Z75 {n:Int} (h:okV (.int .u8 n)=true):0<=n/\n < 256:=by simpa [okV] using h
theorem Z3W (k:IntKind) (n:Int):okV (.int k (k.wrap n))=true:=by
 cases k <;> first|rfl|exact Z4j (wrap_u8 n)
theorem Z8j {k:IntKind} (hk:k≠ .u8) (n:Int):okV (.int k n)=true:=by
 cases k <;> first|rfl|exact absurd rfl hk
theorem R.okV {c:Cx} {v u:Value} (hx:R U c (.val v) u):Rf.okV v=true:=by
 cases hx;assumption
theorem R.ok {c:Cx} {x:U.S} {v:Value} (hx:R U c x v):Rf.okV v=true:=by
 cases hx <;> first|assumption|rfl
theorem Z3T (b:UInt8):Rf.okV (.int .u8 (b.toNat:Int))=true:=Z4j ⟨by omega,by have:=UInt8.toNat_lt b;omega⟩
theorem R.one {c:Cx} {x:U.S} {v:Value} (hx:R U c x v):v.oneCell'=true:=by
 cases hx <;> first|(rename_i h;exact QaK h)|rfl
theorem Z2O {v:Value} (h:v.oneCell'=true):v.cells= #[v]:=by
 cases v <;> first|rfl|simp [Value.oneCell'] at h
structure RL (U:QV) (c:Cx) (l:List U.S) (vs:List Value):Prop where
 len:vs.length=l.length
 at_:∀(k:Nat) (x:U.S),l[k]? =some x->∃v,vs[k]? =some v/\R U c x v
theorem RL.nil {c:Cx}:RL U c [] []:=⟨rfl,λk x h=>by simp at h⟩
theorem RL.cons {c:Cx} {x:U.S} {v:Value} {l:List U.S} {vs:List Value} (h:R U c x v) (hl:RL U c l vs):RL U c (x::l) (v::vs):=by
 refine ⟨by simp [hl.len],λk y hk=>?_⟩
 cases k with
 |zero=>simp at hk;subst hk;exact ⟨v,rfl,h⟩
 |succ k=>simp at hk;simpa using hl.at_ k y hk
theorem RL.Q44 {c:Cx} {x:U.S} {l:List U.S} {vs:List Value} (h:RL U c (x::l) vs):∃v vs',vs=v::vs'/\R U c x v/\RL U c l vs':=by
 cases vs with
 |nil=>have:=h.len;simp at this
 |cons v vs=>
  obtain ⟨v',h1,h2⟩:=h.at_ 0 x rfl
  simp at h1;subst h1
  refine ⟨v,vs,rfl,h2,by have:=h.len;simpa using this,λk y hk=>?_⟩
  have:=h.at_ (k+1) y (by simpa using hk)
  simpa using this
theorem RL.Q88 {c:Cx} {vs:List Value} (h:RL U c [] vs):vs= []:=by
 have:=h.len;simpa using this
theorem RL.mono {c d:Cx} (h:c.Le d) {l:List U.S} {vs:List Value} (hl:RL U c l vs):RL U d l vs:=
 ⟨hl.len,λk x hk=>let ⟨v,h1,h2⟩:=hl.at_ k x hk;⟨v,h1,h2.mono h⟩⟩
theorem RL.append {c:Cx} {l m:List U.S} {vs ws:List Value} (h:RL U c l vs) (h':RL U c m ws):RL U c (l++m) (vs++ws):=by
 refine ⟨by simp [h.len,h'.len],λk x hk=>?_⟩
 by_cases hl:k < l.length
 ·rw [List.getElem?_append_left hl] at hk
  rw [List.getElem?_append_left (by rw [h.len];exact hl)]
  exact h.at_ k x hk
 ·rw [List.getElem?_append_right (by omega)] at hk
  rw [List.getElem?_append_right (by rw [h.len];omega),h.len]
  exact h'.at_ _ x hk
theorem RL.drop {c:Cx} {l:List U.S} {vs:List Value} (n:Nat) (h:RL U c l vs):RL U c (l.drop n) (vs.drop n):=
 ⟨by simp [h.len],λk x hk=>by rw [List.getElem?_drop] at*;exact h.at_ _ x hk⟩
theorem RL.take {c:Cx} {l:List U.S} {vs:List Value} (n:Nat) (h:RL U c l vs):RL U c (l.take n) (vs.take n):=by
 refine ⟨by simp [h.len],λk x hk=>?_⟩
 rw [List.getElem?_take] at*
 split at hk
 ·rename_i hkn;simp only [hkn,if_true];exact h.at_ k x hk
 ·simp at hk
theorem RL.one {c:Cx} {l:List U.S} {vs:List Value} (h:RL U c l vs):∀v∈vs,v.oneCell'=true:=by
 intro v hv
 obtain ⟨k,hk⟩:=List.getElem?_of_mem hv
 have hlt:k < l.length:=by rw [←h.len];exact (List.getElem?_eq_some_iff.1 hk).1
 obtain ⟨u,h1,h2⟩:=h.at_ k l[k] (List.getElem?_eq_getElem hlt)
 rw [hk] at h1;cases h1
 exact h2.one
def RV (U:QV) (c:Cx) (x:V U) (v:Value):Prop:=
 match x with
 |⟨true,l⟩=>∃cs:Array Value,v= .agg cs/\RL U c l cs.toList
 |⟨false,[y]⟩=>R U c y v
 |⟨false,_⟩=>False
theorem RV.mono {c d:Cx} (h:c.Le d) {x:V U} {v:Value} (hx:RV U c x v):RV U d x v:=by
 obtain ⟨g,l⟩:=x
 cases g with
 |true=>obtain ⟨cs,h1,h2⟩:=hx;exact ⟨cs,h1,h2.mono h⟩
 |false=>match l,hx with
  | [y],hx=>exact R.mono h hx
theorem RV.cells {c:Cx} {x:V U} {v:Value} (hx:RV U c x v):RL U c x.l v.cells.toList:=by
 obtain ⟨g,l⟩:=x
 cases g with
 |true=>obtain ⟨cs,h1,h2⟩:=hx;subst h1;exact h2
 |false=>match l,hx with
  | [y],hx=>rw [Z2O (R.one hx)];exact .cons hx .nil
def RA (U:QV) (c:Cx) (x:A U) (v:Value):Prop:=
 match x with
 | .v x=>RV U c x v
 | .t xs=>∃vs:Array Value,v= .tuple vs/\vs.size=xs.length/\∀(k:Nat) (x:V U),xs[k]? =some x->∃u,vs[k]? =some u/\RV U c x u
theorem RA.mono {c d:Cx} (h:c.Le d) {x:A U} {v:Value} (hx:RA U c x v):RA U d x v:=by
 cases x with
 |v x=>exact RV.mono h (show RV U c x v from hx)
 |t xs=>
  obtain ⟨vs,h1,h2,h3⟩:=hx
  exact ⟨vs,h1,h2,λk x hk=>let ⟨u,h4,h5⟩:=h3 k x hk;⟨u,h4,h5.mono h⟩⟩
theorem RA.undef {c:Cx}:RA U c (.t []) undef:=⟨#[],rfl,rfl,λk x h=>by simp at h⟩
structure SLe (U:QV) (x z:U.S):Prop where
 cell:Ze z=Ze x
 val:∀c u,R U c x u->R U c z u
 deep:Ze x=false->z=x
theorem SLe.refl (x:U.S):SLe U x x:=⟨rfl,λ_ _ h=>h,λ_=>rfl⟩
structure QV.Ok (U:QV):Prop where
 QD:∀u x,(U.enc u x).length=U.size u
 Q52:∀u x,U.plain u=true->(U.enc u x).all Ze=true
 Q49:∀u l x,U.dec u l=some x->l.length=U.size u
 Qz:∀u l x,U.dec u l=some x->∀(k:Nat) y,l[k]? =some y->∃z,(U.enc u x)[k]? =some z/\SLe U y z
 Q5k:∀u xs bs,U.Q5k u xs=some bs->U.size u=1/\bs.length=xs.length/\∀i,i < xs.length->U.enc u (xs.getD i (U.dft u))= [.val (.int .u8 ((bs.getD i 0).toNat:Int))]
 Q6p:∀v u k g,U.Q6p v u k=some g->(∀x y,U.dec v (Q1v k (U.enc u y) (U.enc v x))=some (g x y))/\k+U.size u<=U.size v
 u8:U.size U.u8=1
 ofBytes:∀bs,(U.ofBytes bs).length=bs.length/\∀i,i < bs.length->U.enc U.u8 ((U.ofBytes bs).getD i (U.dft U.u8))= [.val (.int .u8 ((bs.getD i 0).toNat:Int))]
theorem QV.Ok.Q4M (hU:U.Ok) (u:U.C) (l:List U.S) (x:U.D u) (h:U.dec u l=some x) (c:Cx) (vs:List Value) (hl:RL U c l vs):RL U c (U.enc u x) vs:=by
 have h1:=hU.Q49 u l x h
 refine ⟨by rw [hl.len,h1,hU.QD],λk z hk=>?_⟩
 have hlt:k < l.length:=by rw [h1,←hU.QD u x];exact (List.getElem?_eq_some_iff.1 hk).1
 obtain ⟨z',h2,h3⟩:=hU.Qz u l x h k l[k] (List.getElem?_eq_getElem hlt)
 rw [hk] at h2;cases h2
 obtain ⟨v,h4,h5⟩:=hl.at_ k l[k] (List.getElem?_eq_getElem hlt)
 exact ⟨v,h4,h3.val _ _ h5⟩
theorem Z6F (u:U.C) (n:Nat) (f:Nat->U.D u):flat u (n+1) f=flat u n f++U.enc u (f n):=by
 simp [flat,List.range_succ]
theorem ZQ (hU:U.Ok) (u:U.C) (n:Nat) (f:Nat->U.D u):(flat u n f).length=n*U.size u:=by
 induction n with
 |zero=>simp [flat]
 |succ n ih=>rw [Z6F,List.length_append,ih,hU.QD,Nat.succ_mul]
theorem Z1j (hU:U.Ok) (u:U.C) (n:Nat) (f:Nat->U.D u) {i k:Nat} (hi:i < n) (hk:k < U.size u):(flat u n f)[i*U.size u+k]? =(U.enc u (f i))[k]? :=by
 induction n with
 |zero=>omega
 |succ n ih=>
  rw [Z6F]
  by_cases h:i < n
  ·have:i*U.size u+k < n*U.size u:=by
    calc i*U.size u+k < i*U.size u+U.size u:=by omega
     _=(i+1)*U.size u:=by rw [Nat.succ_mul]
     _<=n*U.size u:=Nat.mul_le_mul_right _ h
   rw [List.getElem?_append_left (by rw [ZQ hU];exact this)]
   exact ih h
  ·have:i=n:=by omega
   subst this
   rw [List.getElem?_append_right (by rw [ZQ hU];omega),ZQ hU]
   congr 1;omega
theorem Z2K (hU:U.Ok) (u:U.C) (n:Nat) (f:Nat->U.D u) {j:Nat} {x:U.S} (h:(flat u n f)[j]? =some x):∃i k,i < n/\k < U.size u/\j=i*U.size u+k/\(U.enc u (f i))[k]? =some x:=by
 have hlt:=(List.getElem?_eq_some_iff.1 h).1
 rw [ZQ hU] at hlt
 have hpos:0 < U.size u:=by
  rcases Nat.eq_zero_or_pos (U.size u) with h0|h0
  ·rw [h0] at hlt;simp at hlt
  ·exact h0
 have h1:j / U.size u < n:=(Nat.div_lt_iff_lt_mul hpos).2 hlt
 have h2:=Nat.mod_lt j hpos
 have h3:=Nat.div_add_mod' j (U.size u)
 refine ⟨_,_,h1,h2,h3.symm,?_⟩
 rw [←Z1j hU u n f h1 h2,h3];exact h
inductive Own (U:QV) (c:Cx) (w:World):Nat->Nat->U.S->(Nat->Nat->Prop)->Prop
 |cell {b o:Nat} {x:U.S} {v:Value} {F:Nat->Nat->Prop} (hr:R U c x v) (hc:w.cell? (at_ b o)=some v) (hf:w.frozen? (at_ b o)=false)
   (hF:∀b' o',F b' o'↔(b'=b/\o'=o)):Own U c w b o x F
 |hole {b o:Nat} {F:Nat->Nat->Prop} (hF:∀b' o',¬F b' o'):Own U c w b o .hole F
 |arr {b o s:Nat} {F:Nat->Nat->Prop} (hL:c.L s 0=some (b,o)) (hF:∀b' o',¬F b' o'):Own U c w b o (.arr s) F
 |Q7L {b o:Nat} {u:U.C} {F:Nat->Nat->Prop} (hc:w.cell? (at_ b o)=some (.pointer none)) (hf:w.frozen? (at_ b o)=false)
   (hF:∀b' o',F b' o'↔(b'=b/\o'=o)):Own U c w b o (.box u none) F
 |box {b o b1 o1:Nat} {u:U.C} {y:U.D u} {F:Nat->Nat->Prop} (G:Nat->Nat->Nat->Prop) (hc:w.cell? (at_ b o)=some (.pointer (some (at_ b1 o1)))) (hf:w.frozen? (at_ b o)=false)
   (hk:∀(k:Nat) x,(U.enc u y)[k]? =some x->Own U c w b1 (o1+k) x (G k))
   (hd:∀j k b' o',j < U.size u->k < U.size u->j≠k->G j b' o'->¬G k b' o') (h0:∀k,k < U.size u->¬G k b o)
   (hF:∀b' o',F b' o'↔(b'=b/\o'=o)\/∃k,k < U.size u/\G k b' o'):Own U c w b o (.box u (some y)) F
 |row {b o b1 o1 cap:Nat} {u:U.C} {xs:List (U.D u)} {a:Option Addr} {F:Nat->Nat->Prop} (G:Nat->Nat->Nat->Prop) (hc:w.cell? (at_ b o)=some (.slice a xs.length cap)) (hf:w.frozen? (at_ b o)=false)
   (hl:xs.length<=cap) (ha:0 < cap->a=some (at_ b1 o1))
   (hk:∀(k:Nat) x,(flat u xs.length λi=>xs.getD i (U.dft u))[k]? =some x->Own U c w b1 (o1+k) x (G k))
   (hd:∀j k b' o',j < xs.length*U.size u->k < xs.length*U.size u->j≠k->G j b' o'->¬G k b' o')
   (hs:∀x,o1+xs.length*U.size u<=x->x < o1+cap*U.size u->(∃v,w.cell? (at_ b1 x)=some v)/\w.frozen? (at_ b1 x)=false/\∀k,k < xs.length*U.size u->¬G k b1 x)
   (h0:∀k,k < xs.length*U.size u->¬G k b o) (h1:b=b1->o1+xs.length*U.size u<=o->o < o1+cap*U.size u->False)
   (hF:∀b' o',F b' o'↔(b'=b/\o'=o)\/(∃k,k < xs.length*U.size u/\G k b' o')\/(b'=b1/\o1+xs.length*U.size u<=o'/\o' < o1+cap*U.size u)):Own U c w b o (.row u xs) F
 |Q2d {b o b1 o1 cap:Nat} {u:U.C} {xs:List (U.D u)} {a:Option Addr} {F:Nat->Nat->Prop} (g:Nat->Nat->Value) (hc:w.cell? (at_ b o)=some (.slice a xs.length cap)) (hf:w.frozen? (at_ b o)=false)
   (hl:xs.length<=cap) (ha:0 < cap->a=some (at_ b1 o1))
   (hi:∀i k,i < xs.length->k < U.size u->c.I b1 (o1+(i*U.size u+k))=some (g i k))
   (hr:∀i k,i < xs.length->k < U.size u->R U c ((U.enc u (xs.getD i (U.dft u))).getD k .hole) (g i k))
   (hs:∀x,o1+xs.length*U.size u<=x->x < o1+cap*U.size u->(∃v,w.cell? (at_ b1 x)=some v)/\w.frozen? (at_ b1 x)=false)
   (h1:b=b1->o1+xs.length*U.size u<=o->o < o1+cap*U.size u->False)
   (hF:∀b' o',F b' o'↔(b'=b/\o'=o)\/(b'=b1/\o1+xs.length*U.size u<=o'/\o' < o1+cap*U.size u)):Own U c w b o (.Q2d u xs) F
 |Q1n {b o n:Nat} {u:U.C} {f:Nat->U.D u} {F:Nat->Nat->Prop} (G:Nat->Nat->Nat->Prop)
   (hk:∀(k:Nat) x,(flat u n f)[k]? =some x->Own U c w b (o+k) x (G k))
   (hd:∀j k b' o',j < n*U.size u->k < n*U.size u->j≠k->G j b' o'->¬G k b' o')
   (hF:∀b' o',F b' o'↔∃k,k < n*U.size u/\G k b' o'):Own U c w b o (.Q1n u n f) F
structure Fr (F:Nat->Nat->Prop) (w w':World):Prop where
 size:w.heap.size<=w'.heap.size
 cell:∀b o,b < w.heap.size->¬F b o->w'.cell? (at_ b o)=w.cell? (at_ b o)
 frozen:∀b o,b < w.heap.size->w'.frozen? (at_ b o)=w.frozen? (at_ b o)
 shape:∀b,b < w.heap.size->w'.shape? b=w.shape? b
 obj:∀b,b < w.heap.size->(∀o,¬F b o)->w'.heap[b]? =w.heap[b]?
 rest:w'.os=w.os/\w'.tape=w.tape/\w'.output=w.output
theorem Fr.refl (F:Nat->Nat->Prop) (w:World):Fr F w w:=⟨Nat.le_refl _,λ_ _ _ _=>rfl,λ_ _ _=>rfl,λ_ _=>rfl,λ_ _ _=>rfl,rfl,rfl,rfl⟩
theorem Fr.trans {F F':Nat->Nat->Prop} {w w₁ w₂:World} (h:Fr F w w₁) (h':Fr F' w₁ w₂) (hF:∀b o,b < w.heap.size->F' b o->F b o):Fr F w w₂ where
 size:=Nat.le_trans h.size h'.size
 cell b o hb hn:=(h'.cell b o (Nat.lt_of_lt_of_le hb h.size) (λhf=>hn (hF b o hb hf))).trans (h.cell b o hb hn)
 frozen b o hb:=(h'.frozen b o (Nat.lt_of_lt_of_le hb h.size)).trans (h.frozen b o hb)
 shape b hb:=(h'.shape b (Nat.lt_of_lt_of_le hb h.size)).trans (h.shape b hb)
 obj b hb hn:=(h'.obj b (Nat.lt_of_lt_of_le hb h.size) (λo hf=>hn o (hF b o hb hf))).trans (h.obj b hb hn)
 rest:=⟨h'.rest.1.trans h.rest.1,h'.rest.2.1.trans h.rest.2.1,h'.rest.2.2.trans h.rest.2.2⟩
theorem Fr.mono {F F':Nat->Nat->Prop} {w w':World} (h:Fr F w w') (hF:∀b o,b < w.heap.size->F b o->F' b o):Fr F' w w':=
 (Fr.refl F' w).trans h hF
theorem Fr.drew (F:Nat->Nat->Prop) (w:World):Fr F w { w with drawn:=w.drawn+1}:=⟨Nat.le_refl _,λ_ _ _ _=>rfl,λ_ _ _=>rfl,λ_ _=>rfl,λ_ _ _=>rfl,rfl,rfl,rfl⟩
theorem Zf {w:World} {b o:Nat} {v:Value} (h:w.cell? (at_ b o)=some v):b < w.heap.size:=World.block_lt_of_cell? w (at_ b o) h
structure Agr (F:Nat->Nat->Prop) (w w':World):Prop where
 cell:∀b o,F b o->w'.cell? (at_ b o)=w.cell? (at_ b o)
 frozen:∀b o,F b o->w'.frozen? (at_ b o)=w.frozen? (at_ b o)
 obj:∀b,(∀o,F b o)->w'.heap[b]? =w.heap[b]?
theorem Agr.refl (F:Nat->Nat->Prop) (w:World):Agr F w w:=⟨λ_ _ _=>rfl,λ_ _ _=>rfl,λ_ _=>rfl⟩
theorem Agr.drew (F:Nat->Nat->Prop) (w:World):Agr F w w.drew:=⟨λ_ _ _=>rfl,λ_ _ _=>rfl,λ_ _=>rfl⟩
theorem Agr.sub {F F':Nat->Nat->Prop} {w w':World} (h:Agr F w w') (hs:∀b o,F' b o->F b o):Agr F' w w':=
 ⟨λb o hf=>h.cell b o (hs b o hf),λb o hf=>h.frozen b o (hs b o hf),λb hf=>h.obj b λo=>hs b o (hf o)⟩
theorem Fr.agr {F F':Nat->Nat->Prop} {w w':World} (h:Fr F w w') (hlt:∀b o,F' b o->b < w.heap.size) (hd:∀b o,F' b o->¬F b o):Agr F' w w':=
 ⟨λb o hf=>h.cell b o (hlt b o hf) (hd b o hf),λb o hf=>h.frozen b o (hlt b o hf),λb hf=>h.obj b (hlt b 0 (hf 0)) λo=>hd b o (hf o)⟩
theorem Own.lt (hU:U.Ok) {c:Cx} {w:World} {b o:Nat} {x:U.S} {F:Nat->Nat->Prop} (h:Own U c w b o x F):∀b' o',F b' o'->b' < w.heap.size:=by
 induction h with
 |cell hr hc hf hF=>intro b' o' h;rw [hF] at h;rw [h.1];exact Zf hc
 |hole hF=>intro b' o' h;exact (hF _ _ h).elim
 |arr hL hF=>intro b' o' h;exact (hF _ _ h).elim
 |Q7L hc hf hF=>intro b' o' h;rw [hF] at h;rw [h.1];exact Zf hc
 | @box b o b1 o1 u y F G hc hf hk hd h0 hF ih=>
  intro b' o' h
  rcases (hF _ _).1 h with h|⟨k,hk1,h⟩
  ·rw [h.1];exact Zf hc
  ·exact ih k _ (List.getElem?_eq_getElem (by rw [hU.QD];exact hk1)) _ _ h
 | @row b o b1 o1 cap u xs a F G hc hf hl ha hk hd hs h0 h1 hF ih=>
  intro b' o' h
  rcases (hF _ _).1 h with h|⟨k,hk1,h⟩|⟨h2,h3,h4⟩
  ·rw [h.1];exact Zf hc
  ·exact ih k _ (List.getElem?_eq_getElem (by rw [ZQ hU];exact hk1)) _ _ h
  ·obtain ⟨⟨v,hv⟩,_⟩:=hs o' h3 h4;rw [h2];exact Zf hv
 | @Q2d b o b1 o1 cap u xs a F g hc hf hl ha hi hr hs h1 hF=>
  intro b' o' h
  rcases (hF _ _).1 h with h|⟨h2,h3,h4⟩
  ·rw [h.1];exact Zf hc
  ·obtain ⟨⟨v,hv⟩,_⟩:=hs o' h3 h4;rw [h2];exact Zf hv
 | @Q1n b o n u f F G hk hd hF ih=>
  intro b' o' h
  obtain ⟨k,hk1,h⟩:=(hF _ _).1 h
  exact ih k _ (List.getElem?_eq_getElem (by rw [ZQ hU];exact hk1)) _ _ h
theorem Own.stays (hU:U.Ok) {c c':Cx} {w w':World} (hcc:c.Le c') {b o:Nat} {x:U.S} {F:Nat->Nat->Prop} (h:Own U c w b o x F):Agr F w w'->Own U c' w' b o x F:=by
 induction h with
 |cell hr hc hf hF=>intro hA;exact .cell (hr.mono hcc) ((hA.cell _ _ ((hF _ _).2 ⟨rfl,rfl⟩)).trans hc) ((hA.frozen _ _ ((hF _ _).2 ⟨rfl,rfl⟩)).trans hf) hF
 |hole hF=>intro hA;exact .hole hF
 |arr hL hF=>intro hA;exact .arr (hcc.L _ _ _ hL) hF
 |Q7L hc hf hF=>intro hA;exact .Q7L ((hA.cell _ _ ((hF _ _).2 ⟨rfl,rfl⟩)).trans hc) ((hA.frozen _ _ ((hF _ _).2 ⟨rfl,rfl⟩)).trans hf) hF
 | @box b o b1 o1 u y F G hc hf hk hd h0 hF ih=>
  intro hA
  exact .box G ((hA.cell _ _ ((hF _ _).2 (.inl ⟨rfl,rfl⟩))).trans hc) ((hA.frozen _ _ ((hF _ _).2 (.inl ⟨rfl,rfl⟩))).trans hf)
   (λk x hx=>ih k x hx (hA.sub λb' o' h=>(hF _ _).2 (.inr ⟨k,by rw [←hU.QD u y];exact (List.getElem?_eq_some_iff.1 hx).1,h⟩))) hd h0 hF
 | @row b o b1 o1 cap u xs a F G hc hf hl ha hk hd hs h0 h1 hF ih=>
  intro hA
  exact .row G ((hA.cell _ _ ((hF _ _).2 (.inl ⟨rfl,rfl⟩))).trans hc) ((hA.frozen _ _ ((hF _ _).2 (.inl ⟨rfl,rfl⟩))).trans hf) hl ha
   (λk x hx=>ih k x hx (hA.sub λb' o' h=>(hF _ _).2 (.inr (.inl ⟨k,by rw [←ZQ hU];exact (List.getElem?_eq_some_iff.1 hx).1,h⟩)))) hd
   (λx h2 h3=>by
    obtain ⟨⟨v,hv⟩,h4,h5⟩:=hs x h2 h3
    have:=(hF b1 x).2 (.inr (.inr ⟨rfl,h2,h3⟩))
    exact ⟨⟨v,(hA.cell _ _ this).trans hv⟩,(hA.frozen _ _ this).trans h4,h5⟩) h0 h1 hF
 | @Q2d b o b1 o1 cap u xs a F g hc hf hl ha hi hr hs h1 hF=>
  intro hA
  exact .Q2d g ((hA.cell _ _ ((hF _ _).2 (.inl ⟨rfl,rfl⟩))).trans hc) ((hA.frozen _ _ ((hF _ _).2 (.inl ⟨rfl,rfl⟩))).trans hf) hl ha
   (λi k h2 h3=>hcc.I _ _ _ (hi i k h2 h3)) (λi k h2 h3=>(hr i k h2 h3).mono hcc)
   (λx h2 h3=>by
    obtain ⟨⟨v,hv⟩,h4⟩:=hs x h2 h3
    have:=(hF b1 x).2 (.inr ⟨rfl,h2,h3⟩)
    exact ⟨⟨v,(hA.cell _ _ this).trans hv⟩,(hA.frozen _ _ this).trans h4⟩) h1 hF
 | @Q1n b o n u f F G hk hd hF ih=>
  intro hA
  exact .Q1n G (λk x hx=>ih k x hx (hA.sub λb' o' h=>(hF _ _).2 ⟨k,by rw [←ZQ hU];exact (List.getElem?_eq_some_iff.1 hx).1,h⟩)) hd hF
theorem Own.iff {c:Cx} {w:World} {b o:Nat} {x:U.S} {F F':Nat->Nat->Prop} (h:Own U c w b o x F) (hf:∀b o,F b o↔F' b o):Own U c w b o x F':=by
 have:F=F':=by funext b o;exact propext (hf b o)
 rwa [←this]
theorem Own.plain {c:Cx} {w:World} {b o:Nat} {x:U.S} {F:Nat->Nat->Prop} (h:Own U c w b o x F) (hx:Ze x=true):
  (∃v,w.cell? (at_ b o)=some v/\R U c x v)/\w.frozen? (at_ b o)=false/\∀b' o',F b' o'↔(b'=b/\o'=o):=by
 cases h with
 |cell hr hc hf hF=>exact ⟨⟨_,hc,hr⟩,hf,hF⟩
 |_=>cases hx
theorem Own.arrL {c:Cx} {w:World} {b o s:Nat} {F:Nat->Nat->Prop} (h:Own U c w b o (.arr s) F):c.L s 0=some (b,o)/\∀b' o',¬F b' o':=by
 cases h with
 |cell hr hc hf hF=>cases hr
 |arr hL hF=>exact ⟨hL,hF⟩
theorem Own.le {c:Cx} {w:World} {b o:Nat} {x z:U.S} {F:Nat->Nat->Prop} (h:Own U c w b o x F) (hz:SLe U x z):Own U c w b o z F:=by
 cases hx:Ze x with
 |true=>
  obtain ⟨⟨v,h1,h2⟩,h3,h4⟩:=h.plain hx
  exact .cell (hz.val _ _ h2) h1 h3 h4
 |false=>rw [hz.deep hx];exact h
structure Pl (U:QV) (c:Cx) (w:World) (b o:Nat) (cells:List U.S) (G:Nat->Nat->Nat->Prop):Prop where
 own:∀(k:Nat) x,cells[k]? =some x->Own U c w b (o+k) x (G k)
 dis:∀j k b' o',j < cells.length->k < cells.length->j≠k->G j b' o'->¬G k b' o'
theorem Pl.lt (hU:U.Ok) {c:Cx} {w:World} {b o:Nat} {cells:List U.S} {G:Nat->Nat->Nat->Prop} (h:Pl U c w b o cells G) {k b' o':Nat} (hk:k < cells.length) (hf:G k b' o'):b' < w.heap.size:=
 (h.own k _ (List.getElem?_eq_getElem hk)).lt hU _ _ hf
theorem Pl.stays (hU:U.Ok) {c c':Cx} {w w':World} (hcc:c.Le c') {b o:Nat} {cells:List U.S} {G:Nat->Nat->Nat->Prop} (h:Pl U c w b o cells G)
  (hA:∀k,k < cells.length->Agr (G k) w w'):Pl U c' w' b o cells G:=
 ⟨λk x hx=>(h.own k x hx).stays hU hcc (hA k (List.getElem?_eq_some_iff.1 hx).1),h.dis⟩
theorem Pl.le {c:Cx} {w:World} {b o:Nat} {l m:List U.S} {G:Nat->Nat->Nat->Prop} (h:Pl U c w b o l G) (hlen:m.length=l.length)
  (hm:∀(k:Nat) z,m[k]? =some z->∃x,l[k]? =some x/\SLe U x z):Pl U c w b o m G:=
 ⟨λk z hz=>let ⟨x,h1,h2⟩:=hm k z hz;(h.own k x h1).le h2,λj k b' o' hj hk=>h.dis j k b' o' (by omega) (by omega)⟩
theorem Pl.dec (hU:U.Ok) {c:Cx} {w:World} {b o:Nat} {l:List U.S} {u:U.C} {x:U.D u} {G:Nat->Nat->Nat->Prop} (h:Pl U c w b o l G) (hd:U.dec u l=some x):Pl U c w b o (U.enc u x) G:=by
 have h1:=hU.Q49 u l x hd
 refine h.le (by rw [hU.QD,h1]) λk z hz=>?_
 have hlt:k < l.length:=by rw [h1,←hU.QD u x];exact (List.getElem?_eq_some_iff.1 hz).1
 obtain ⟨z',h2,h3⟩:=hU.Qz u l x hd k l[k] (List.getElem?_eq_getElem hlt)
 rw [hz] at h2;cases h2
 exact ⟨_,List.getElem?_eq_getElem hlt,h3⟩
theorem Pl.cell {c:Cx} {w:World} {b o:Nat} {cells:List U.S} {G:Nat->Nat->Nat->Prop} (h:Pl U c w b o cells G) {k:Nat} {x:U.S} (hk:cells[k]? =some x) (hx:Ze x=true):
  (∃v,w.cell? (at_ b (o+k))=some v/\R U c x v)/\w.frozen? (at_ b (o+k))=false/\∀b' o',G k b' o'↔(b'=b/\o'=o+k):=(h.own k x hk).plain hx
def Q4w (U:QV) (c:Cx) (gk gv:Bool) {ku vu:U.C} (l:List (U.D ku×U.D vu)) (es:List MapEntry):Prop:=
 es.length=l.length/\∀(k:Nat) p,l[k]? =some p->∃e,es[k]? =some e/\RV U c ⟨gk,U.enc ku p.1⟩ e.key/\RV U c ⟨gv,U.enc vu p.2⟩ e.val
theorem Q4w.mono {c d:Cx} (h:c.Le d) {gk gv:Bool} {ku vu:U.C} {l:List (U.D ku×U.D vu)} {es:List MapEntry} (hm:Q4w U c gk gv l es):Q4w U d gk gv l es:=
 ⟨hm.1,λk p hk=>let ⟨e,h1,h2,h3⟩:=hm.2 k p hk;⟨e,h1,h2.mono h,h3.mono h⟩⟩
def Q4t (A:Nat->Nat×Nat) (E len:Nat->Nat) (r b o:Nat):Prop:=0 < len r/\b=(A r).1/\(A r).2<=o/\o < E r
def Q1s (c:Cx) (w:World) (s:Nat) (F:Nat->Nat->Prop):Ent U->Prop
 | .obj cells=>∃b o G,c.L s 0=some (b,o)/\(∀i x,c.L s i=some x->i=0)/\Pl U c w b o cells G/\(∀b' o',F b' o'↔∃k,k < cells.length/\G k b' o')
 | .fam ct u n f=>∃(A:Nat->Nat×Nat) (G:Nat->Nat->Nat->Nat->Prop),(∀i,i < n->c.L s i=some (A i))/\(∀i x,c.L s i=some x->i < n)/\
   (∀i,i < n->Pl U c w (A i).1 (A i).2 (U.enc u (f i)) (G i))/\
   (∀i j k l b o,i < n->j < n->k < U.size u->l < U.size u->i≠j->G i k b o->¬G j l b o)/\
   (∀b o,F b o↔∃i k,i < n/\k < U.size u/\G i k b o)/\
   (ct=true->∀i,i < n->A i=((A 0).1,(A 0).2+i*U.size u))
 | .tok=>∃b o e,c.L s 0=some (b,o)/\c.L s 1=some (b,e)/\
   (∀x,o<=x->x < e->(∃v,w.cell? (at_ b x)=some v)/\w.frozen? (at_ b x)=false/\F b x)/\(∀b' x,F b' x->b'=b/\o<=x/\x < e)
 | .dead=>∀b o,¬F b o
 | .iter t pos=>∃b,c.L s 0=some (b,0)/\(∀i x,c.L s i=some x->i=0)/\w.heap[b]? =some (.stringIter t pos)/\∀b' o',F b' o'↔b'=b
 | .Q30 u n z f=>∃A:Nat->Nat×Nat,(∀i,i < n->c.L s i=some (A i))/\(∀i x,c.L s i=some x->i < n)/\(∀i,i < n->A i=((A 0).1,(A 0).2+i*U.size u))/\U.plain u=true/\
   (∀i k x,i < n->i < z->(U.enc u (f i))[k]? =some x->∃v,c.I (A i).1 ((A i).2+k)=some v/\R U c x v)/\
   (∀i k x,i < n->z<=i->(U.enc u (f i))[k]? =some x->∃v,w.cell? (at_ (A i).1 ((A i).2+k))=some v/\R U c x v/\w.frozen? (at_ (A i).1 ((A i).2+k))=false)/\
   (∀b o,F b o↔∃i k,i < n/\z<=i/\k < U.size u/\b=(A i).1/\o=(A i).2+k)
 | .Q20 gk gv ku vu n g=>∃A:Nat->Nat,(∀i,i < n->c.L s i=some (A i,0))/\(∀i x,c.L s i=some x->i < n)/\(∀i,i < n->∃es clock,w.heap[A i]? =some (.map es clock)/\Q4w U c gk gv (g i) es.toList)/\
   (∀i j,i < n->j < n->A i=A j->i=j)/\(∀b o,F b o↔∃i,i < n/\b=A i)
 | .Q1a u n g=>∃(A:Nat->Nat×Nat) (E:Nat->Nat),(∀r,r < n->c.L s (2*r)=some (A r)/\c.L s (2*r+1)=some ((A r).1,E r))/\(∀i x,c.L s i=some x->i < 2*n)/\(0 < n->U.plain u=true)/\
   (∀r i k x,r < n->i < (g r).length->(U.enc u ((g r).getD i (U.dft u)))[k]? =some x->∃v,w.cell? (at_ (A r).1 ((A r).2+(i*U.size u+k)))=some v/\R U c x v)/\
   (∀r,r < n->0 < (g r).length->(A r).2+(g r).length*U.size u<=E r)/\
   (∀r x,r < n->0 < (g r).length->(A r).2<=x->x < E r->(∃v,w.cell? (at_ (A r).1 x)=some v)/\w.frozen? (at_ (A r).1 x)=false)/\
   (∀r r' b o,r < n->r' < n->r≠r'->Q4t A E (λr=>(g r).length) r b o->¬Q4t A E (λr=>(g r).length) r' b o)/\
   (∀b o,F b o↔∃r,r < n/\Q4t A E (λr=>(g r).length) r b o)
structure G (U:QV) (c:Cx) (Φ:Nat->Nat->Nat->Prop) (h:Qr U) (w:World):Prop where
 Q1M:∀s e,get h s=some e->Q1s c w s (Φ s) e
 apart:∀s s' b o,s≠s'->(get h s).isSome->(get h s').isSome->Φ s b o->¬Φ s' b o
 imm:∀b o v,c.I b o=some v->w.cell? (at_ b o)=some v
 Q15:∀s b o,(get h s).isSome->Φ s b o->c.I b o=none
theorem Q1s.lt (hU:U.Ok) {c:Cx} {w:World} {s:Nat} {F:Nat->Nat->Prop} {e:Ent U} (h:Q1s c w s F e) {b o:Nat} (hf:F b o):b < w.heap.size:=by
 cases e with
 |obj cells=>
  obtain ⟨b',o',G,_,_,h1,h2⟩:=h
  obtain ⟨k,hk,hg⟩:=(h2 b o).1 hf
  exact h1.lt hU hk hg
 |fam ct u n f=>
  obtain ⟨A,G,_,_,h1,_,h2,_⟩:=h
  obtain ⟨i,k,hi,hk,hg⟩:=(h2 b o).1 hf
  exact (h1 i hi).lt hU (by rw [hU.QD];exact hk) hg
 |tok=>
  obtain ⟨b',o',e,_,_,h1,h2⟩:=h
  obtain ⟨rfl,hx,hx'⟩:=h2 b o hf
  obtain ⟨⟨v,hv⟩,_⟩:=h1 o hx hx'
  exact Zf hv
 |dead=>exact (h b o hf).elim
 |iter t pos=>
  obtain ⟨b',_,_,h1,h2⟩:=h
  have:=(h2 b o).1 hf
  subst this
  exact (Array.getElem?_eq_some_iff.1 h1).1
 |Q30 u n z f=>
  obtain ⟨A,_,_,_,_,_,h1,h2⟩:=h
  obtain ⟨i,k,hi,hz,hk,rfl,rfl⟩:=(h2 b o).1 hf
  obtain ⟨v,hv,_⟩:=h1 i k _ hi hz (List.getElem?_eq_getElem (by rw [hU.QD];exact hk))
  exact Zf hv
 |Q20 gk gv ku vu n g=>
  obtain ⟨A,_,_,h1,_,h2⟩:=h
  obtain ⟨i,hi,rfl⟩:=(h2 b o).1 hf
  obtain ⟨es,cl,h3,_⟩:=h1 i hi
  exact (Array.getElem?_eq_some_iff.1 h3).1
 |Q1a u n g=>
  obtain ⟨A,E,_,_,_,_,_,h1,_,h2⟩:=h
  obtain ⟨r,hr,h3,rfl,h4,h5⟩:=(h2 b o).1 hf
  obtain ⟨⟨v,hv⟩,_⟩:=h1 r o hr h3 h4 h5
  exact Zf hv
theorem Q1s.stays (hU:U.Ok) {c c':Cx} {w w':World} {s:Nat} {F:Nat->Nat->Prop} {e:Ent U} (h:Q1s c w s F e) (hc:c.Le c') (hL:∀i,c'.L s i=c.L s i)
  (hw:Agr F w w'):Q1s c' w' s F e:=by
 cases e with
 |obj cells=>
  obtain ⟨b,o,G,h0,h1,h2,h3⟩:=h
  exact ⟨b,o,G,by rw [hL];exact h0,λi x hx=>h1 i x (by rw [←hL];exact hx),h2.stays hU hc λk hk=>hw.sub λb' o' hf=>(h3 _ _).2 ⟨k,hk,hf⟩,h3⟩
 |fam ct u n f=>
  obtain ⟨A,G,h0,h1,h2,h3,h4,h5⟩:=h
  exact ⟨A,G,λi hi=>by rw [hL];exact h0 i hi,λi x hx=>h1 i x (by rw [←hL];exact hx),λi hi=>(h2 i hi).stays hU hc λk hk=>hw.sub λb' o' hf=>(h4 _ _).2 ⟨i,k,hi,by rw [←hU.QD u (f i)];exact hk,hf⟩,h3,h4,h5⟩
 |tok=>
  obtain ⟨b,o,e,h0,h1,h2,h3⟩:=h
  refine ⟨b,o,e,by rw [hL];exact h0,by rw [hL];exact h1,λx hx hx'=>?_,h3⟩
  obtain ⟨⟨v,hv⟩,hf,hF⟩:=h2 x hx hx'
  exact ⟨⟨v,(hw.cell _ _ hF).trans hv⟩,(hw.frozen _ _ hF).trans hf,hF⟩
 |dead=>exact h
 |iter t pos=>
  obtain ⟨b,h0,h1,h2,h3⟩:=h
  exact ⟨b,by rw [hL];exact h0,λi x hx=>h1 i x (by rw [←hL];exact hx),(hw.obj b λo=>(h3 _ _).2 rfl).trans h2,h3⟩
 |Q30 u n z f=>
  obtain ⟨A,h0,h1,h2,h3,h4,h5,h6⟩:=h
  refine ⟨A,λi hi=>by rw [hL];exact h0 i hi,λi x hx=>h1 i x (by rw [←hL];exact hx),h2,h3,λi k x hi hz hx=>?_,λi k x hi hz hx=>?_,h6⟩
  ·obtain ⟨v,p1,p2⟩:=h4 i k x hi hz hx
   exact ⟨v,hc.I _ _ _ p1,p2.mono hc⟩
  ·obtain ⟨v,p1,p2,p3⟩:=h5 i k x hi hz hx
   have hF:F (A i).1 ((A i).2+k):=(h6 _ _).2 ⟨i,k,hi,hz,by rw [←hU.QD u (f i)];exact (List.getElem?_eq_some_iff.1 hx).1,rfl,rfl⟩
   exact ⟨v,(hw.cell _ _ hF).trans p1,p2.mono hc,(hw.frozen _ _ hF).trans p3⟩
 |Q20 gk gv ku vu n g=>
  obtain ⟨A,h0,h1,h2,h3,h4⟩:=h
  refine ⟨A,λi hi=>by rw [hL];exact h0 i hi,λi x hx=>h1 i x (by rw [←hL];exact hx),λi hi=>?_,h3,h4⟩
  obtain ⟨es,cl,p1,p2⟩:=h2 i hi
  exact ⟨es,cl,(hw.obj _ λo=>(h4 _ _).2 ⟨i,hi,rfl⟩).trans p1,p2.mono hc⟩
 |Q1a u n g=>
  obtain ⟨A,E,h0,h1,h2,h3,h4,h5,h6,h7⟩:=h
  refine ⟨A,E,λr hr=>by rw [hL,hL];exact h0 r hr,λi x hx=>h1 i x (by rw [←hL];exact hx),h2,λr i k x hr hi hx=>?_,h4,λr x hr hn hx hx'=>?_,h6,h7⟩
  ·obtain ⟨v,p1,p2⟩:=h3 r i k x hr hi hx
   have hk:k < U.size u:=by rw [←hU.QD u ((g r).getD i (U.dft u))];exact (List.getElem?_eq_some_iff.1 hx).1
   have hlt:i*U.size u+k < (g r).length*U.size u:=by
    calc i*U.size u+k < i*U.size u+U.size u:=by omega
     _=(i+1)*U.size u:=by rw [Nat.succ_mul]
     _<=(g r).length*U.size u:=Nat.mul_le_mul_right _ hi
   have:=h4 r hr (by omega)
   exact ⟨v,(hw.cell _ _ ((h7 _ _).2 ⟨r,hr,by show 0 < (g r).length;omega,rfl,by omega,by omega⟩)).trans p1,p2.mono hc⟩
  ·obtain ⟨⟨v,hv⟩,hf⟩:=h5 r x hr hn hx hx'
   have hF:=(h7 (A r).1 x).2 ⟨r,hr,hn,rfl,hx,hx'⟩
   exact ⟨⟨v,(hw.cell _ _ hF).trans hv⟩,(hw.frozen _ _ hF).trans hf⟩
theorem Q1s.Q7T {c:Cx} {w:World} {s:Nat} {F:Nat->Nat->Prop} {cells:List U.S} (h:Q1s c w s F (.obj cells:Ent U)):∃b o,c.L s 0=some (b,o)/\(∀i x,c.L s i=some x->i=0)/\
  (∀k x,cells[k]? =some x->Ze x=true->(∃v,w.cell? (at_ b (o+k))=some v/\R U c x v)/\w.frozen? (at_ b (o+k))=false/\F b (o+k))/\(∀k s',cells[k]? =some (.arr s')->c.L s' 0=some (b,o+k)):=by
 obtain ⟨b,o,G,h0,h1,h2,h3⟩:=h
 refine ⟨b,o,h0,h1,λk x hk hx=>?_,λk s' hk=>(h2.own k _ hk).arrL.1⟩
 obtain ⟨h4,h5,h6⟩:=h2.cell hk hx
 exact ⟨h4,h5,(h3 _ _).2 ⟨k,(List.getElem?_eq_some_iff.1 hk).1,(h6 _ _).2 ⟨rfl,rfl⟩⟩⟩
theorem Q1s.Q6y {c:Cx} {w:World} {s:Nat} {F:Nat->Nat->Prop} {ct:Bool} {u:U.C} {n:Nat} {f:Nat->U.D u} (h:Q1s c w s F (.fam ct u n f:Ent U)):∃A:Nat->Nat×Nat,(∀i,i < n->c.L s i=some (A i))/\(∀i x,c.L s i=some x->i < n)/\
  (∀i k x,i < n->(U.enc u (f i))[k]? =some x->Ze x=true->(∃v,w.cell? (at_ (A i).1 ((A i).2+k))=some v/\R U c x v)/\w.frozen? (at_ (A i).1 ((A i).2+k))=false)/\
  (ct=true->∀i,i < n->A i=((A 0).1,(A 0).2+i*U.size u)):=by
 obtain ⟨A,G,h0,h1,h2,h3,h4,h5⟩:=h
 exact ⟨A,h0,h1,λi k x hi hk hx=>⟨((h2 i hi).cell hk hx).1,((h2 i hi).cell hk hx).2.1⟩,h5⟩
theorem Zh {α:Type} (l r:List (Nat×α)) (t:Nat):get (l++r) t=match get l t with|some x=>some x|none=>get r t:=by
 induction l with
 |nil=>rfl
 |cons p l ih=>
  obtain ⟨k,v⟩:=p
  simp only [List.cons_append,get]
  cases Nat.beq k t with
  |true=>rfl
  |false=>simpa using ih
theorem Z9 {α:Type} (k:Nat) (v:α) (r:List (Nat×α)) (t:Nat):get ((k,v)::r) t=if k=t then some v else get r t:=by
 simp only [get]
 by_cases h:k=t
 ·subst h;simp
 ·have:Nat.beq k t=false:=by
   cases hb:Nat.beq k t with
   |false=>rfl
   |true=>exact absurd (Nat.eq_of_beq_eq_true hb) h
  simp [this,h]
theorem Zg {α:Type} {l:List (Nat×α)} {t:Nat} (h:t∉l.map (·.1)):get l t=none:=by
 induction l with
 |nil=>rfl
 |cons p l ih=>
  obtain ⟨k,v⟩:=p
  simp at h
  rw [Z9,if_neg (λe=>h.1 e.symm)]
  exact ih (by simpa using h.2)
theorem Z2L {α:Type} {l:List (Nat×α)} {t:Nat} {v:α} (h:get l t=some v):t∈l.map (·.1):=by
 rcases Decidable.em (t∈l.map (·.1)) with h'|h'
 ·exact h'
 ·rw [Zg h'] at h;cases h
theorem Z1n {α:Type} {l:List (Nat×α)} {t:Nat} (h:t∈l.map (·.1)):(get l t).isSome:=by
 induction l with
 |nil=>simp at h
 |cons p l ih=>
  obtain ⟨k,v⟩:=p
  rw [Z9]
  by_cases e:k=t
  ·simp [e]
  ·simp [e]
   simp at h
   rcases h with h|h
   ·exact absurd h.symm e
   ·exact ih (by simpa using h)
end Go.Rf
namespace Go.Rf
set_option linter.unusedVariables false
set_option linter.unusedSimpArgs false
variable {U : QV} {P : Program}
structure QB (U:QV) (c:Cx) (Φ:Nat->Nat->Nat->Prop) (h:Qr U) (nx:Nat) (out:Out U) (w:World)
  (c':Cx) (Φ':Nat->Nat->Nat->Prop) (u:Value) (w':World):Prop where
 le:c.Le c'
 L:∀s i,¬(nx<=s/\s < nx+out.nw)->¬(s < U.nf/\s∈out.w.map (·.1))->c'.L s i=c.L s i
 val:RA U c' out.v u
 g:G U c' Φ' (out.w++h) w'
 fr:Fr (λb o=>∃s,s∈out.w.map (·.1)/\(get h s).isSome/\Φ s b o) w w'
 Q2p:∀s,s∉out.w.map (·.1)->Φ' s=Φ s
 Q2g:∀s b o,s∈out.w.map (·.1)->Φ' s b o->w.heap.size<=b\/∃s',s'∈out.w.map (·.1)/\(get h s').isSome/\Φ s' b o
 names:∀s,s∈out.w.map (·.1)->(nx<=s/\s < nx+out.nw)\/(get h s).isSome
 Q32:∀b o v,c'.I b o=some v->c.I b o=some v\/w.heap.size<=b\/∃s,s∈out.w.map (·.1)/\(get h s).isSome/\Φ s b o
def Q2B (P:Program) (post:Value->World->Prop):Result Next->Prop
 | .ok (.value u) w'=>post u w'
 | .ok .skip w'=>post undef w'
 | .ok (.enter f args) w'=>Calls P f args w' λe w''=>∃v,e= .returned v/\post v w''
 |_=>False
theorem Q2B.wp {o:Oper} {a:Act} {w:World} {post:Value->World->Prop} {K:Act->World->Prop} {Q:Exit->Act->World->Prop}
  (h:Q2B P post ((execOp a.eval o).run P w)) (hk:∀u w',post u w'->K (a.put o.dst u) w'):o.wp P a w K Q:=by
 unfold Oper.wp
 generalize (execOp a.eval o).run P w=r at*
 cases r with
 |ok n w'=>
  cases n <;> simp only [Q2B] at h <;> simp only [Oper.upon] <;> first|exact h.elim|skip
  case value u=>exact hk _ _ h
  case skip=>exact hk _ _ h
  case enter f args=>
   refine h.mono λe w'' he=>?_
   obtain ⟨v,rfl,hp⟩:=he
   exact hk _ _ hp
 |halt x w'=>simp only [Q2B] at h
theorem Q2B.mono {post post':Value->World->Prop} {r:Result Next} (h:Q2B P post r) (hp:∀u w',post u w'->post' u w'):Q2B P post' r:=by
 cases r with
 |ok n w'=>
  cases n <;> simp only [Q2B] at h ⊢ <;> first|exact h.elim|skip
  case value u=>exact hp _ _ h
  case skip=>exact hp _ _ h
  case enter f args=>exact h.mono λe w'' ⟨v,h1,h2⟩=>⟨v,h1,hp _ _ h2⟩
 |halt x w'=>exact h.elim
theorem Q2B.value {s:Sem Value} {w w':World} {u:Value} {post:Value->World->Prop} (h:s.run P w= .ok u w') (hp:post u w'):
  Q2B P post ((do pure (Next.value (←s)):Sem Next).run P w):=by
 simp only [Sem.run_bind,h,Result.andThen_ok,Sem.run_pure]
 exact hp
theorem Q2B.unit {s:Sem Unit} {w w':World} {post:Value->World->Prop} (h:s.run P w= .ok () w') (hp:post undef w'):
  Q2B P post ((do s;pure Next.skip:Sem Next).run P w):=by
 simp only [Sem.run_bind,h,Result.andThen_ok,Sem.run_pure]
 exact hp
section
variable {c : Cx} {Φ : Nat -> Nat -> Nat -> Prop} {h : Qr U} {nx : Nat} {w : World}
theorem QB.pure {v:A U} {rd:List Nat} {u:Value} (hg:G U c Φ h w) (hv:RA U c v u):QB U c Φ h nx { v:=v,rd:=rd} w c Φ u w where
 le:= .refl c
 L _ _ _ _:=rfl
 val:=hv
 g:=hg
 fr:= .refl _ _
 Q2p _ _:=rfl
 Q2g s b o hs:=by simp at hs
 names s hs:=by simp at hs
 Q32 _ _ _ h:= .inl h
def fup (Φ:Nat->Nat->Nat->Prop) (s:Nat) (F:Nat->Nat->Prop):Nat->Nat->Nat->Prop:=λt=>if t=s then F else Φ t
theorem G.put (hU:U.Ok) {c':Cx} {w':World} {F:Nat->Nat->Prop} {s:Nat} {e:Ent U} (hg:G U c Φ h w) (hc:c.Le c') (hL:∀t i,t≠s->c'.L t i=c.L t i)
  (he:Q1s c' w' s F e)
  (hw:∀t,t≠s->(get h t).isSome->Agr (Φ t) w w')
  (hF:∀t b o,t≠s->(get h t).isSome->Φ t b o->¬F b o)
  (hi:∀b o v,c'.I b o=some v->w'.cell? (at_ b o)=some v)
  (hi1:∀t b o,t≠s->(get h t).isSome->Φ t b o->c'.I b o=none)
  (hi2:∀b o,F b o->c'.I b o=none):G U c' (fup Φ s F) ((s,e)::h) w' where
 Q1M t e' ht:=by
  rw [Z9] at ht
  by_cases hs:s=t
  ·subst hs;simp at ht;subst ht;simpa [fup] using he
  ·rw [if_neg hs] at ht
   have hne:t≠s:=λe=>hs e.symm
   simp only [fup,if_neg hne]
   exact (hg.Q1M t e' ht).stays hU hc (λi=>hL t i hne) (hw t hne (by simp [ht]))
 apart t t' b o hne h1 h2 hf hf':=by
  rw [Z9] at h1 h2
  by_cases hs:s=t
  ·subst hs
   have ht':t'≠s:=λe=>hne e.symm
   rw [if_neg (λe=>ht' e.symm)] at h2
   simp [fup] at hf
   simp only [fup,if_neg ht'] at hf'
   exact hF t' b o ht' h2 hf' hf
  ·have hts:t≠s:=λe=>hs e.symm
   rw [if_neg hs] at h1
   simp only [fup,if_neg hts] at hf
   by_cases hs':s=t'
   ·subst hs';simp [fup] at hf';exact hF t b o hts h1 hf hf'
   ·have hts':t'≠s:=λe=>hs' e.symm
    rw [if_neg hs'] at h2
    simp only [fup,if_neg hts'] at hf'
    exact hg.apart t t' b o hne h1 h2 hf hf'
 imm:=hi
 Q15 t b o h1 hf:=by
  rw [Z9] at h1
  by_cases hs:s=t
  ·subst hs;simp [fup] at hf;exact hi2 b o hf
  ·have hts:t≠s:=λe=>hs e.symm
   rw [if_neg hs] at h1
   simp only [fup,if_neg hts] at hf
   exact hi1 t b o hts h1 hf
theorem G.lt (hU:U.Ok) (hg:G U c Φ h w) {t b o:Nat} (ht:(get h t).isSome) (hf:Φ t b o):b < w.heap.size:=by
 obtain ⟨e,he⟩:=Option.isSome_iff_exists.1 ht
 exact (hg.Q1M t e he).lt hU hf
theorem G.Q78 (hg:G U c Φ h w) {b o:Nat} {v:Value} (hI:c.I b o=some v):b < w.heap.size:=Zf (hg.imm b o v hI)
theorem Pl.Qa8 {b o:Nat} {l:List U.S} {vs:List Value} (hl:RL U c l vs) (hc:∀(k:Nat) v,vs[k]? =some v->w.cell? (at_ b (o+k))=some v) (hf:∀k,k < l.length->w.frozen? (at_ b (o+k))=false):
  Pl U c w b o l (λk b' o'=>b'=b/\o'=o+k):=
 ⟨λk x hx=>by
  obtain ⟨v,h1,h2⟩:=hl.at_ k x hx
  exact .cell h2 (hc k v h1) (hf k (List.getElem?_eq_some_iff.1 hx).1) λ_ _=>Iff.rfl,
  λj k b' o' _ _ hne h1 h2=>by omega⟩
theorem Z2b (w:World) (o:Obj) {b x:Nat} (hb:b < w.heap.size):(w.alloc o).frozen? (at_ b x)=w.frozen? (at_ b x):=
 World.frozen?_alloc_old w o (at_ b x) (Nat.ne_of_lt hb)
theorem ZN (w:World) (o:Obj) {b x:Nat} (hb:b < w.heap.size):(w.alloc o).cell? (at_ b x)=w.cell? (at_ b x):=
 World.cell?_alloc_lt w o (at_ b x) hb
theorem Z6h (w:World) (o:Obj) {b:Nat} (hb:b < w.heap.size):(w.alloc o).shape? b=w.shape? b:=by
 unfold World.shape? World.alloc
 simp only [Array.getElem?_push,if_neg (Nat.ne_of_lt hb)]
theorem Z7h (w:World) (o:Obj) {b:Nat} (hb:b < w.heap.size):(w.alloc o).heap[b]? =w.heap[b]? :=by
 unfold World.alloc
 simp only [Array.getElem?_push,if_neg (Nat.ne_of_lt hb)]
theorem Fr.alloc (F:Nat->Nat->Prop) (w:World) (o:Obj):Fr F w (w.alloc o) where
 size:=by simp
 cell b x hb _:=ZN w o hb
 frozen b x hb:=Z2b w o hb
 shape b hb:=Z6h w o hb
 obj b hb _:=Z7h w o hb
 rest:=⟨rfl,rfl,rfl⟩
def Cx.Q21 (c:Cx) (s:Nat) (l:Nat->Option (Nat×Nat)):Cx:={ c with L:=λt i=>if t=s then l i else c.L t i}
theorem Cx.Q4F {s:Nat} {l:Nat->Option (Nat×Nat)} (hs:∀i,c.L s i=none):c.Le (c.Q21 s l) where
 L t i x hx:=by
  by_cases ht:t=s
  ·subst ht;rw [hs] at hx;cases hx
  ·simpa [Cx.Q21,ht] using hx
 I _ _ _ hx:=hx
theorem QB.obj (hU:U.Ok) {l:List U.S} {vs:List Value} {t:TypeId} (hg:G U c Φ h w) (hl:RL U c l vs)
  (hs:∀i,c.L nx i=none) (hn:get h nx=none):
  ∃c' Φ',QB U c Φ h nx { v:=Rf.sc (.ptr nx 0 0),w:= [(nx,.obj l)],nw:=1} w c' Φ' (.pointer (some (at_ w.heap.size 0))) (w.alloc (.cells vs.toArray t)):=by
 let c':=c.Q21 nx λi=>if i=0 then some (w.heap.size,0) else none
 have hc:c.Le c':=Cx.Q4F hs
 let F:Nat->Nat->Prop:=λb o=>b=w.heap.size/\o < l.length
 have hlt:∀t b o,(get h t).isSome->Φ t b o->b < w.heap.size:=λt b o ht hf=>hg.lt hU ht hf
 refine ⟨c',fup Φ nx F,?_⟩
 have hx0:c'.L nx 0=some (w.heap.size,0):=by simp [c',Cx.Q21]
 refine { le:=hc,L:=λs i hsi _=>?_,val:= ?_,g:= ?_,fr:=Fr.alloc _ _ _,Q2p:=λs hsn=>?_,Q2g:=λs b o hsn hf=>?_,names:=λs hsn=>?_,Q32:=λ_ _ _ h=>.inl h}
 ·have:s≠nx:=λe=>hsi (by subst e;simp)
  simp [c',Cx.Q21,this]
 ·exact .ptr (o:=0) hx0
 ·refine hg.put hU hc (λt i ht=>by simp [c',Cx.Q21,ht]) ?_ (λt _ h1=>(Fr.alloc (λ_ _=>False) w _).agr (λb o hf=>hlt t b o h1 hf) (λ_ _ _ h=>h))
   (λt b o _ h1 hf hF=>Nat.lt_irrefl _ (hF.1▸hlt t b o h1 hf))
   (λb o v hv=>(ZN w _ (Zf (hg.imm b o v hv))).trans (hg.imm b o v hv))
   (λt b o _ h1 hf=>hg.Q15 t b o h1 hf)
   (λb o hF=>?_)
  ·refine ⟨w.heap.size,0,_,hx0,λi x hx=>?_,Pl.Qa8 (hl.mono hc) (λk v hv=>by simpa using hv) (λk hk=>by simp),λb' o'=>?_⟩
   ·simp only [c',Cx.Q21,if_true] at hx
    by_cases hi:i=0
    ·exact hi
    ·simp [hi] at hx
   ·constructor
    ·rintro ⟨h1,h2⟩;exact ⟨o',h2,h1,by omega⟩
    ·rintro ⟨k,h1,h2,h3⟩;exact ⟨h2,by omega⟩
  ·cases hI:c.I b o with
   |none=>exact hI
   |some v=>
    have:=Zf (hg.imm b o v hI)
    rw [hF.1] at this
    exact absurd this (Nat.lt_irrefl _)
 ·simp at hsn;simp [fup,hsn]
 ·simp at hsn;subst hsn
  simp [fup] at hf
  exact .inl (by rw [hf.1];exact Nat.le_refl _)
 ·simp at hsn;subst hsn;exact .inl (by simp)
end
end Go.Rf
namespace Go.Rf
set_option linter.unusedVariables false
set_option linter.unusedSimpArgs false
variable {U : QV} {P : Program} {c : Cx} {Φ : Nat -> Nat -> Nat -> Prop} {h : Qr U} {nx : Nat} {w : World}
theorem Z1h {t:TypeId} {g:Bool} (hg:agg? P t=some g) (w:World):(isAgg t).run P w= .ok g w:=by
 unfold agg? at hg
 unfold isAgg
 cases hu:P.underlying t with
 |none=>simp [hu] at hg
 |some d=>
  rw [Sem.run_bind,run_underlying hu w]
  cases d <;> simp_all
theorem Za {t:TypeId} {n:Nat} (hn:size? P t=some n) (w:World):(sizeOf t).run P w= .ok n w:=by
 unfold size? at hn
 cases hi:P.info? t with
 |none=>simp [hi] at hn
 |some i=>simp [hi] at hn;simp [sizeOf,typeInfo,hi,hn]
theorem Zq (b o n:Nat):(at_ b o).add n=at_ b (o+n):=Addr.add_mid b o n
theorem ZW {α:Type} {off n k:Nat} {l:List α} {x:α} (hk:(QM off n l)[k]? =some x):k < n/\l[off+k]? =some x:=by
 unfold QM at hk
 rw [List.getElem?_take] at hk
 split at hk
 ·rename_i hkn;rw [List.getElem?_drop] at hk;exact ⟨hkn,hk⟩
 ·cases hk
theorem Z1s {α:Type} {off n k:Nat} {l:List α} (hk:k < n):(QM off n l)[k]? =l[off+k]? :=by
 unfold QM
 rw [List.getElem?_take,if_pos hk,List.getElem?_drop]
theorem getD_of_getElem? {α:Type} {l:List α} {k:Nat} {x d:α} (h:l[k]? =some x):l.getD k d=x:=by
 simp [List.getD,h]
theorem QH {a b:Nat} (h:Nat.beq a b=true):a=b:=Nat.eq_of_beq_eq_true h
theorem Q8D {l:List U.S} {f:Nat->Value->Prop} (h:∀(k:Nat) x,l[k]? =some x->∃v,f k v/\R U c x v):
  ∃vs,RL U c l vs/\∀(k:Nat) v,vs[k]? =some v->f k v:=by
 induction l generalizing f with
 |nil=>exact ⟨[],.nil,λk v hk=>by simp at hk⟩
 |cons x l ih=>
  obtain ⟨v,h1,h2⟩:=h 0 x rfl
  obtain ⟨vs,h3,h4⟩:=ih (f:=λk=>f (k+1)) λk y hk=>h (k+1) y (by simpa using hk)
  refine ⟨v::vs,.cons h2 h3,λk u hk=>?_⟩
  cases k with
  |zero=>simp at hk;subst hk;exact h1
  |succ k=>simp at hk;exact h4 k u hk
theorem Qa0 (hU:U.Ok) {s i off n b o:Nat} {l:List U.S} (hl:ld h s i off n=some l) (hg:G U c Φ h w) (hL:c.L s i=some (b,o)):
  ∃vs,RL U c l vs/\l.length=n/\w.rangeAt b (o+off) vs:=by
 unfold ld at hl
 cases he:get h s with
 |none=>simp [he] at hl
 |some e=>
  have hE:=hg.Q1M s e he
  simp only [he] at hl
  have fin:∀{m:List U.S},(bif Nat.beq (QM off n m).length n && (QM off n m).all Ze then some (QM off n m) else none)=some l->
    (∀(k:Nat) x,m[k]? =some x->Ze x=true->∃v,w.cell? (at_ b (o+k))=some v/\R U c x v)->∃vs,RL U c l vs/\l.length=n/\w.rangeAt b (o+off) vs:=by
   intro m hm hc
   cases hb:Nat.beq (QM off n m).length n && (QM off n m).all Ze with
   |false=>simp [hb] at hm
   |true=>
    simp [hb] at hm
    subst hm
    simp only [Bool.and_eq_true] at hb
    have hlen:=QH hb.1
    obtain ⟨vs,h1,h2⟩:=Q8D (c:=c) (l:=QM off n m) (f:=λk v=>w.cell? (at_ b (o+off+k))=some v) λk x hk=>by
     obtain ⟨hkn,hk'⟩:=ZW hk
     have:=hc (off+k) x hk' (List.all_eq_true.1 hb.2 x (List.mem_of_getElem? hk))
     rwa [show o+(off+k)=o+off+k by omega] at this
    exact ⟨vs,h1,hlen,λj v hj=>h2 j v hj⟩
  cases e with
  |obj cells=>
   obtain ⟨b',o',h0,h1,h2,_⟩:=hE.Q7T
   have hi:=h1 i _ hL
   subst hi
   rw [hL] at h0;cases h0
   exact fin hl λk x hk hx=>(h2 k x hk hx).1
  |fam ct u m f=>
   obtain ⟨A,h0,h1,h2,_⟩:=hE.Q6y
   have hi:=h1 i _ hL
   have hA:=h0 i hi
   rw [hL] at hA
   simp at hA
   refine fin hl λk x hk hx=>?_
   have:=(h2 i k x hi hk hx).1
   rwa [←hA] at this
  |tok=>simp at hl
  |dead=>simp at hl
  |iter t pos=>simp at hl
  |Q20 gk gv ku vu n g=>simp at hl
  |Q1a u n g=>simp at hl
  |Q30 u m z f=>
   obtain ⟨A,h0,h1,_,_,h4,h5,_⟩:=hE
   have hi:=h1 i _ hL
   have hA:=h0 i hi
   rw [hL] at hA
   simp at hA
   refine fin hl λk x hk hx=>?_
   by_cases hz:i < z
   ·obtain ⟨v,p1,p2⟩:=h4 i k x hi hz hk
    refine ⟨v,?_,p2⟩
    rw [←hA] at p1
    exact hg.imm _ _ _ p1
   ·obtain ⟨v,p1,p2,_⟩:=h5 i k x hi (by omega) hk
    rw [←hA] at p1
    exact ⟨v,p1,p2⟩
theorem Z1p {t:TypeId} {g:Bool} {n b o:Nat} {l:List U.S} {vs:List Value} {v:A U} (ha:agg? P t=some g) (hn:size? P t=some n)
  (hl:RL U c l vs) (hln:l.length=n) (hr:w.rangeAt b o vs) (hv:asV g l=some v):∃u,(loadVar t (at_ b o)).run P w= .ok u w/\RA U c v u:=by
 unfold asV at hv
 have hlen:vs.length=n:=hl.len.trans hln
 cases g with
 |true=>
  simp at hv
  subst hv
  refine ⟨.agg vs.toArray,?_,⟨vs.toArray,rfl,by simpa using hl⟩⟩
  have hlc:(loadCells (at_ b o) n).run P w= .ok vs.toArray w:=by
   rw [←hlen]
   exact run_loadCells_list (P:=P) w (at_ b o) vs λj v hj=>by rw [Zq];exact hr j v hj
  simp [loadVar,Z1h ha,Za hn,hlc]
 |false=>
  match l,hl,hv with
  | [x],hl,hv=>
   simp at hv
   subst hv
   obtain ⟨u,vs',rfl,h1,h2⟩:=hl.Q44
   refine ⟨u,?_,h1⟩
   have h0:=hr 0 u rfl
   simp only [Nat.add_zero] at h0
   simp [loadVar,Z1h ha,h0]
theorem Z9B {h':Qr U} {s i off n:Nat} (hs:get h' s=get h s):ld h' s i off n=ld h s i off n:=by unfold ld;rw [hs]
theorem Z94 {h':Qr U} {s i off:Nat} {l:List U.S} (hs:get h' s=get h s):stE h' s i off l=stE h s i off l:=by unfold stE;rw [hs]
theorem Qb5 (hU:U.Ok) {s off m len i k n b o:Nat} {l:List U.S} (hl:ldA h s off m len i k n=some l) (hg:G U c Φ h w) (hi:i < len) (hL:c.L s 0=some (b,o)):
  ∃vs,RL U c l vs/\l.length=n/\w.rangeAt b (o+off+(i*m+k)) vs:=by
 unfold ldA at hl
 split at hl
 ·rename_i cells he
  split at hl
  ·rename_i u len' f hc
   dsimp only at hl
   cases hb:Nat.beq m (U.size u) && Nat.beq len len' && Nat.beq (QM k n (U.enc u (f i))).length n && (QM k n (U.enc u (f i))).all Ze with
   |false=>rw [hb] at hl;cases hl
   |true=>
    rw [hb] at hl
    cases hl
    simp only [Bool.and_eq_true] at hb
    obtain ⟨⟨⟨b1,b2⟩,b3⟩,b4⟩:=hb
    have b1:=QH b1
    have b2:=QH b2
    subst b1;subst b2
    obtain ⟨b',o',Gk,h0,h1,h2,h3⟩:=hg.Q1M s _ he
    rw [hL] at h0;cases h0
    cases h2.own off _ hc with
    |cell hr _ _ _=>cases hr
    |Q1n Gn hk hd hF=>
     obtain ⟨vs,q1,q2⟩:=Q8D (c:=c) (l:=QM k n (U.enc u (f i))) (f:=λj v=>w.cell? (at_ b (o+off+(i*U.size u+k)+j))=some v) λj x hj=>by
      obtain ⟨hjn,hj'⟩:=ZW hj
      have hku:k+j < U.size u:=by
       have:=(List.getElem?_eq_some_iff.1 hj').1
       rwa [hU.QD] at this
      have:=(hk (i*U.size u+(k+j)) x (by rw [Z1j hU u len f hi hku];exact hj')).plain (List.all_eq_true.1 b4 x (List.mem_of_getElem? hj))
      rw [show o+off+(i*U.size u+k)+j=o+off+(i*U.size u+(k+j)) by omega]
      exact this.1
     exact ⟨vs,q1,QH b3,λj v hj=>q2 j v hj⟩
  ·cases hl
 ·cases hl
theorem Z8W {h':Qr U} {s off m len i k n:Nat} (hs:get h' s=get h s):ldA h' s off m len i k n=ldA h s off m len i k n:=by unfold ldA;rw [hs]
theorem Z8Q {h':Qr U} {s off m len i k:Nat} {l:List U.S} (hs:get h' s=get h s):stA h' s off m len i k l=stA h s off m len i k l:=by unfold stA;rw [hs]
theorem Z4w {v:A U} {rd:List Nat} {out:Out U} (ho:(Z4x v rd).outs=some out):out.rd=rd/\out.w= []/\out.nw=0/\∀(c:Cx) (u:Value),RA U c v u->RA U c out.v u:=by
 unfold Z4x at ho
 split at ho
 ·rename_i f x
  cases hn:U.nn f with
  |false=>simp [hn,OpR.outs] at ho;subst ho;exact ⟨rfl,rfl,rfl,λc u h=>h⟩
  |true=>
   simp only [hn,cond_true] at ho
   cases x with
   |none=>cases ho
   |some i=>
    cases ho
    refine ⟨rfl,rfl,rfl,λc u h=>?_⟩
    cases (show R U c (.ref f (some i)) u from h) with
    |Q5c hf h1=>exact R.ptr (o:=_) (off:=0) h1
 ·cases ho;exact ⟨rfl,rfl,rfl,λc u h=>h⟩
theorem Qaf (hU:U.Ok) {h':Qr U} {t:TypeId} {a:A U} {out:Out U} {p:Value} (ho:(Z7c P t a h').outs=some out)
  (hag:∀s,s∈out.rd\/s∈out.w.map (·.1)->get h s=get h' s) (hg:G U c Φ h w) (ha:RA U c a p):
  ∃u,(Instr.loadAt t p).run P w= .ok u w/\RA U c out.v u/\out.w= []/\out.nw=0:=by
 unfold Z7c at ho
 split at ho
 ·rename_i g n s i off h1 h2
  split at ho
  ·rename_i l hl
   split at ho
   ·rename_i v hv
    obtain ⟨q1,q2,q3,q4⟩:=Z4w ho
    have hl':ld h s i off n=some l:=by rw [Z9B (hag s (.inl (by rw [q1];simp)))];exact hl
    obtain ⟨b,o,hL,hp⟩:∃b o,c.L s i=some (b,o)/\p= .pointer (some (at_ b (o+off))):=by
     cases ha with|ptr h0=>exact ⟨_,_,h0,rfl⟩
    subst hp
    obtain ⟨vs,hr,hlen,hrange⟩:=Qa0 hU hl' hg hL
    obtain ⟨u,hu,hru⟩:=Z1p (P:=P) h1 h2 hr hlen hrange hv
    exact ⟨u,by simp [Instr.loadAt,Instr.sureAddr,hu],q4 _ _ hru,q2,q3⟩
   ·simp [OpR.outs] at ho
  ·simp [OpR.outs] at ho
 ·rename_i g n s off m len i k h1 h2
  split at ho
  ·rename_i l hl
   split at ho
   ·rename_i v hv
    obtain ⟨q1,q2,q3,q4⟩:=Z4w ho
    have hl':ldA h s off m len i k n=some l:=by rw [Z8W (hag s (.inl (by rw [q1];simp)))];exact hl
    cases ha with
    |Q1q hi h0=>
     obtain ⟨vs,hr,hlen,hrange⟩:=Qb5 hU hl' hg hi h0
     obtain ⟨u,hu,hru⟩:=Z1p (P:=P) h1 h2 hr hlen hrange hv
     exact ⟨u,by simp [Instr.loadAt,Instr.sureAddr,hu],q4 _ _ hru,q2,q3⟩
   ·simp [OpR.outs] at ho
  ·simp [OpR.outs] at ho
 ·rename_i g n u x off h1 h2
  dsimp only at ho
  cases hb:Nat.beq (QM off n (U.enc u x)).length n with
  |false=>simp [hb,OpR.outs] at ho
  |true=>
   simp only [hb,cond_true] at ho
   split at ho
   ·rename_i v hv
    simp [OpR.outs] at ho
    subst ho
    cases ha with
    | @Q31 _ _ _ b o g' hi hr=>
     obtain ⟨vs,hr',hrange⟩:=Q8D (c:=c) (l:=QM off n (U.enc u x)) (f:=λk v=>w.cell? (at_ b (o+off+k))=some v) λk y hk=>by
      obtain ⟨hkn,hk'⟩:=ZW hk
      have hku:off+k < U.size u:=by
       have:=(List.getElem?_eq_some_iff.1 hk').1
       rwa [hU.QD] at this
      refine ⟨g' (off+k),?_,?_⟩
      ·rw [show o+off+k=o+(off+k) by omega];exact hg.imm _ _ _ (hi _ hku)
      ·have:=hr _ hku;rwa [getD_of_getElem? hk'] at this
     obtain ⟨u',hu,hru⟩:=Z1p (P:=P) h1 h2 hr' (QH hb) (λj v hj=>hrange j v hj) hv
     exact ⟨u',by simp [Instr.loadAt,Instr.sureAddr,hu],hru,rfl,rfl⟩
   ·simp [OpR.outs] at ho
 ·rename_i n u x h1 h2
  cases hb:Nat.beq n (U.size u) with
  |false=>simp [hb,OpR.outs] at ho
  |true=>
   simp only [hb,cond_true] at ho
   cases x with
   |none=>cases ho
   |some y=>
    cases ho
    cases ha with
    | @Q56 _ _ b o g' hi hr=>
     obtain ⟨vs,hr',hrange⟩:=Q8D (c:=c) (l:=U.enc u y) (f:=λk v=>w.cell? (at_ b (o+k))=some v) λk z hk=>by
      have hku:k < U.size u:=by
       have:=(List.getElem?_eq_some_iff.1 hk).1
       rwa [hU.QD] at this
      refine ⟨g' k,hg.imm _ _ _ (hi _ hku),?_⟩
      have:=hr _ hku;rwa [getD_of_getElem? hk] at this
     obtain ⟨u',hu,hru⟩:=Z1p (P:=P) h1 h2 hr' (by rw [hU.QD];exact (QH hb).symm) (λj v hj=>hrange j v hj) rfl
     exact ⟨u',by simp [Instr.loadAt,Instr.sureAddr,hu],hru,rfl,rfl⟩
 ·simp [OpR.outs] at ho
theorem Zo {α:Type} {off:Nat} {new l:List α} (h:off+new.length<=l.length):(Q1v off new l).length=l.length:=by
 unfold Q1v;simp;omega
theorem Zw {α:Type} {off k:Nat} {new l:List α} (h:off+new.length<=l.length) (hk:k < new.length):(Q1v off new l)[off+k]? =new[k]? :=by
 unfold Q1v
 rw [List.append_assoc,List.getElem?_append_right (by simp;omega),List.getElem?_append_left (by simp;omega)]
 congr 1
 simp;omega
theorem Zp {α:Type} {off k:Nat} {new l:List α} (h:off+new.length<=l.length) (hk:k < off\/off+new.length<=k):(Q1v off new l)[k]? =l[k]? :=by
 unfold Q1v
 rcases hk with hk|hk
 ·rw [List.append_assoc,List.getElem?_append_left (by simp;omega),List.getElem?_take,if_pos hk]
 ·rw [List.getElem?_append_right (by simp;omega),List.getElem?_drop]
  congr 1
  simp;omega
theorem Zy {b o:Nat} {vs:List Value} (h:∀j,j < vs.length->(w.cell? (at_ b (o+j))).isSome=true) {j:Nat} {v:Value} (hj:vs[j]? =some v):
  (w.setCells b o vs).cell? (at_ b (o+j))=some v:=by
 obtain ⟨hlt,rfl⟩:=List.getElem?_eq_some_iff.1 hj
 exact World.cell?_setCells_in b vs o w h j hlt
theorem Zm {b o b' x:Nat} {vs:List Value} (h:b'=b->x < o\/o+vs.length<=x):(w.setCells b o vs).cell? (at_ b' x)=w.cell? (at_ b' x):=
 World.cell?_setCells_out b vs o w (at_ b' x) λh1 _=>h h1
theorem Z4f (b:Nat):∀(vs:List Value) (o:Nat) (w:World),(w.setCells b o vs).heap.size=w.heap.size
 | [],_,_=>rfl
 |v::r,o,w=>by rw [World.setCells,Z4f b r,World.size_setCell]
theorem Z6N (w:World) (a:Addr) (v:Value) (b:Nat):(w.setCell a v).shape? b=w.shape? b:=by
 unfold World.shape? World.setCell
 simp only [Array.getElem?_modify]
 by_cases hb:a.block=b
 ·rw [if_pos hb]
  cases w.heap[b]? with
  |none=>rfl
  |some o=>cases o <;> simp only [Option.map_some] <;> first|rfl|(split <;> simp)
 ·rw [if_neg hb]
theorem Z3v (b:Nat):∀(vs:List Value) (o:Nat) (w:World) (b':Nat),(w.setCells b o vs).shape? b'=w.shape? b'
 | [],_,_,_=>rfl
 |v::r,o,w,b'=>by rw [World.setCells,Z3v b r,Z6N]
theorem Z4z (b:Nat):∀(vs:List Value) (o:Nat) (w:World) (b':Nat),b'≠b\/vs= []->(w.setCells b o vs).heap[b']? =w.heap[b']?
 | [],_,_,_,_=>rfl
 |v::r,o,w,b',hb=>by
  have hb:b'≠b:=by rcases hb with hb|hb;exact hb;cases hb
  rw [World.setCells,Z4z b r _ _ _ (.inl hb)]
  unfold World.setCell
  have hb':¬b=b':=λe=>hb e.symm
  simp only [Array.getElem?_modify,if_neg hb']
theorem Z4c (b:Nat):∀(vs:List Value) (o:Nat) (w:World),(w.setCells b o vs).os=w.os/\(w.setCells b o vs).tape=w.tape/\(w.setCells b o vs).output=w.output
 | [],_,_=>⟨rfl,rfl,rfl⟩
 |v::r,o,w=>by rw [World.setCells];exact Z4c b r _ _
theorem Fr.setCells {F:Nat->Nat->Prop} {b o:Nat} {vs:List Value} (hF:∀j,j < vs.length->F b (o+j)):Fr F w (w.setCells b o vs) where
 size:=by rw [Z4f];exact Nat.le_refl _
 rest:=Z4c b vs o w
 cell b' x hb hn:=Zm λe=>by
  subst e
  by_cases h1:x < o
  ·exact .inl h1
  ·by_cases h2:o+vs.length<=x
   ·exact .inr h2
   ·exact absurd (by have:=hF (x - o) (by omega);rwa [show o+(x - o)=x by omega] at this) hn
 frozen b' x hb:=World.frozen?_setCells b vs o w _
 shape b' hb:=Z3v b vs o w b'
 obj b' hb hn:=Z4z b vs o w b' (by
  by_cases e:b'=b
  ·subst e
   right
   cases vs with
   |nil=>rfl
   |cons v r=>exact absurd (hF 0 (by simp)) (hn _)
  ·exact .inl e)
theorem Own.there {b o:Nat} {x:U.S} {F:Nat->Nat->Prop} (h:Own U c w b o x F) (hx:Z25 x=true):(∃v,w.cell? (at_ b o)=some v)/\w.frozen? (at_ b o)=false/\F b o:=by
 cases h with
 |cell hr hc hf hF=>exact ⟨⟨_,hc⟩,hf,(hF _ _).2 ⟨rfl,rfl⟩⟩
 |hole hF=>cases hx
 |arr hL hF=>cases hx
 |Q7L hc hf hF=>exact ⟨⟨_,hc⟩,hf,(hF _ _).2 ⟨rfl,rfl⟩⟩
 |box G hc hf hk hd h0 hF=>exact ⟨⟨_,hc⟩,hf,(hF _ _).2 (.inl ⟨rfl,rfl⟩)⟩
 |row G hc hf hl ha hk hd hs h0 h1 hF=>exact ⟨⟨_,hc⟩,hf,(hF _ _).2 (.inl ⟨rfl,rfl⟩)⟩
 |Q2d g hc hf hl ha hi hr hs h1 hF=>exact ⟨⟨_,hc⟩,hf,(hF _ _).2 (.inl ⟨rfl,rfl⟩)⟩
 |Q1n G hk hd hF=>cases hx
theorem Pl.Q1v (hU:U.Ok) {b o off:Nat} {cells new:List U.S} {vs:List Value} {Gk:Nat->Nat->Nat->Prop} (hP:Pl U c w b o cells Gk) (hlen:off+new.length<=cells.length)
  (hone:(QM off new.length cells).all Z25=true) (hr:RL U c new vs):
  w.there b (o+off) vs.length/\(∀j,j < vs.length->Gk (off+j) b (o+off+j))/\
   Pl U c (w.setCells b (o+off) vs) b o (Rf.Q1v off new cells) (λk b' o'=>if off<=k/\k < off+new.length then b'=b/\o'=o+k else Gk k b' o'):=by
 have hvl:vs.length=new.length:=hr.len
 have old:∀j,j < new.length->∃x,cells[off+j]? =some x/\Z25 x=true:=λj hj=>by
  have hlt:off+j < cells.length:=by omega
  refine ⟨cells[off+j],List.getElem?_eq_getElem hlt,?_⟩
  have:(QM off new.length cells)[j]? =some cells[off+j]:=by rw [Z1s hj];exact List.getElem?_eq_getElem hlt
  exact List.all_eq_true.1 hone _ (List.mem_of_getElem? this)
 have hold:∀j,j < new.length->(∃v,w.cell? (at_ b (o+off+j))=some v)/\w.frozen? (at_ b (o+off+j))=false/\Gk (off+j) b (o+off+j):=λj hj=>by
  obtain ⟨x,hx,h1⟩:=old j hj
  have:=(hP.own _ x hx).there h1
  rwa [←Nat.add_assoc] at this
 have hth:w.there b (o+off) vs.length:=λj hj=>by
  obtain ⟨⟨v,hv⟩,hf,_⟩:=hold j (by omega)
  exact ⟨by rw [hv];rfl,hf⟩
 refine ⟨hth,λj hj=>(hold j (by omega)).2.2,⟨λk x hk=>?_,λj k b' o' hj hk hne h1 h2=>?_⟩⟩
 ·by_cases hin:off<=k/\k < off+new.length
  ·obtain ⟨j,rfl⟩:∃j,k=off+j:=⟨k - off,by omega⟩
   rw [Zw hlen (by omega)] at hk
   obtain ⟨v,hv,hrv⟩:=hr.at_ j x hk
   have hj:j < vs.length:=by rw [hvl];omega
   simp only [if_pos hin]
   rw [←Nat.add_assoc]
   exact .cell hrv (Zy (λj hj=>(hth j hj).1) hv) ((World.frozen?_setCells b vs (o+off) w _).trans (hth j hj).2) λ_ _=>Iff.rfl
  ·rw [Zp hlen (by omega)] at hk
   simp only [if_neg hin]
   refine (hP.own k x hk).stays hU (.refl c) ((Fr.setCells (F:=λb' o'=>b'=b/\o+off<=o'/\o' < o+off+vs.length) (λj hj=>⟨rfl,by omega,by omega⟩)).agr (λb' o' hf=>hP.lt hU (List.getElem?_eq_some_iff.1 hk).1 hf) λb' o' hf ⟨h1,h2,h3⟩=>?_)
   subst h1
   obtain ⟨_,_,hG⟩:=hold (o' - (o+off)) (by omega)
   rw [show o+off+(o' - (o+off))=o' by omega] at hG
   exact hP.dis k (off+(o' - (o+off))) _ _ (List.getElem?_eq_some_iff.1 hk).1 (by omega) (by omega) hf hG
 ·rw [Zo hlen] at hj hk
  by_cases hjn:off<=j/\j < off+new.length
  ·rw [if_pos hjn] at h1
   by_cases hkn:off<=k/\k < off+new.length
   ·rw [if_pos hkn] at h2;omega
   ·rw [if_neg hkn] at h2
    obtain ⟨_,_,hG⟩:=hold (j - off) (by omega)
    rw [show o+off+(j - off)=o+j by omega,show off+(j - off)=j by omega] at hG
    obtain ⟨rfl,rfl⟩:=h1
    exact hP.dis j k _ _ hj hk hne hG h2
  ·rw [if_neg hjn] at h1
   by_cases hkn:off<=k/\k < off+new.length
   ·rw [if_pos hkn] at h2
    obtain ⟨_,_,hG⟩:=hold (k - off) (by omega)
    rw [show o+off+(k - off)=o+k by omega,show off+(k - off)=k by omega] at hG
    obtain ⟨rfl,rfl⟩:=h2
    exact hP.dis j k _ _ hj hk hne h1 hG
   ·rw [if_neg hkn] at h2
    exact hP.dis j k _ _ hj hk hne h1 h2
theorem Qb4 (hU:U.Ok) {s i off b o:Nat} {new:List U.S} {vs:List Value} {e:Ent U} (hs:stE h s i off new=some e) (hg:G U c Φ h w) (hL:c.L s i=some (b,o))
  (hr:RL U c new vs):w.there b (o+off) vs.length/\(∃F,Q1s c (w.setCells b (o+off) vs) s F e/\∀b' o',F b' o'->Φ s b' o')/\(∀j,j < vs.length->Φ s b (o+off+j))/\(get h s).isSome:=by
 unfold stE at hs
 cases he:get h s with
 |none=>simp [he] at hs
 |some e0=>
  have hE:=hg.Q1M s e0 he
  simp only [he] at hs
  cases e0 with
  |obj cells=>
   obtain ⟨b',o',Gk,h0,h1,h2,h3⟩:=hE
   have hi:=h1 i _ hL
   subst hi
   rw [hL] at h0;cases h0
   dsimp only at hs
   cases hb:Nat.ble (off+new.length) cells.length && (QM off new.length cells).all Z25 && new.all Ze with
   |false=>simp [hb] at hs
   |true=>
    rw [hb] at hs
    simp only [cond_true] at hs
    cases hs
    simp only [Bool.and_eq_true] at hb
    obtain ⟨⟨hb1,hb2⟩,hb3⟩:=hb
    have hlen:off+new.length<=cells.length:=Nat.le_of_ble_eq_true hb1
    obtain ⟨p1,p2,p3⟩:=h2.Q1v hU hlen hb2 hr
    have hvl:vs.length=new.length:=hr.len
    refine ⟨p1,⟨_,⟨b,o,_,hL,h1,p3,λ_ _=>Iff.rfl⟩,λb' o' ⟨k,hk,hf⟩=>?_⟩,λj hj=>(h3 _ _).2 ⟨off+j,by omega,p2 j hj⟩,by simp⟩
    rw [Zo hlen] at hk
    split at hf
    ·rename_i hin
     obtain ⟨rfl,rfl⟩:=hf
     have:=p2 (k - off) (by omega)
     rw [show off+(k - off)=k by omega,show o+off+(k - off)=o+k by omega] at this
     exact (h3 _ _).2 ⟨k,hk,this⟩
    ·exact (h3 _ _).2 ⟨k,hk,hf⟩
  |fam ct u m f=>
   obtain ⟨A,Gk,h0,h1,h2,h3,h4,h5⟩:=hE
   have him:=h1 i _ hL
   have hA:=h0 i him
   rw [hL] at hA
   simp at hA
   dsimp only at hs
   cases hb:Nat.ble (off+new.length) (U.enc u (f i)).length && (QM off new.length (U.enc u (f i))).all Z25 && new.all Ze with
   |false=>simp [hb] at hs
   |true=>
    simp only [hb,cond_true] at hs
    split at hs
    ·rename_i x hx
     simp at hs
     subst hs
     simp only [Bool.and_eq_true] at hb
     have hlen:off+new.length<=(U.enc u (f i)).length:=Nat.le_of_ble_eq_true hb.1.1
     have hlen':off+new.length<=U.size u:=by rw [hU.QD] at hlen;exact hlen
     have hvl:vs.length=new.length:=hr.len
     have hA1:(A i).1=b:=by rw [←hA]
     have hA2:(A i).2=o:=by rw [←hA]
     have hPi:=h2 i him
     rw [hA1,hA2] at hPi
     obtain ⟨p1,p2,p3⟩:=hPi.Q1v hU hlen hb.1.2 hr
     have hin:∀k,off<=k/\k < off+new.length->Gk i k b (o+k):=λk hk=>by
      have:=p2 (k - off) (by omega)
      rwa [show off+(k - off)=k by omega,show o+off+(k - off)=o+k by omega] at this
     have hsub:∀j k b' o',j < m->k < U.size u->(if j=i then (if off<=k/\k < off+new.length then b'=b/\o'=o+k else Gk i k b' o') else Gk j k b' o')->Gk j k b' o':=λj k b' o' hj hk hf=>by
      split at hf
      ·rename_i e;subst e
       split at hf
       ·rename_i hkk
        obtain ⟨rfl,rfl⟩:=hf
        exact hin k hkk
       ·exact hf
      ·exact hf
     refine ⟨p1,⟨λb' o'=>∃j k,j < m/\k < U.size u/\(if j=i then (if off<=k/\k < off+new.length then b'=b/\o'=o+k else Gk i k b' o') else Gk j k b' o'),
      ⟨A,λj k b' o'=>if j=i then (if off<=k/\k < off+new.length then b'=b/\o'=o+k else Gk i k b' o') else Gk j k b' o',h0,h1,λj hj=>?_,λj1 j2 k l b' o' hj1 hj2 hk hl hne q1 q2=>?_,λ_ _=>Iff.rfl,h5⟩,
      λb' o' ⟨j,k,hj,hk,hf⟩=>(h4 _ _).2 ⟨j,k,hj,hk,hsub j k b' o' hj hk hf⟩⟩,λj hj=>(h4 _ _).2 ⟨i,off+j,him,by omega,p2 j hj⟩,by simp⟩
     ·by_cases e:j=i
      ·subst e
       simp only [QA,if_true]
       rw [hA1,hA2]
       exact p3.dec hU hx
      ·simp only [QA,if_neg e]
       refine (h2 j hj).stays hU (.refl c) λk hk=>(Fr.setCells (F:=λb' o'=>b'=b/\o+off<=o'/\o' < o+off+vs.length) (λj hj=>⟨rfl,by omega,by omega⟩)).agr (λb' o' hf=>(h2 j hj).lt hU hk hf) λb' o' hf ⟨q1,q2,q3⟩=>?_
       subst q1
       have:=hin (o' - o) ⟨by omega,by omega⟩
       rw [show o+(o' - o)=o' by omega] at this
       rw [hU.QD] at hk
       exact h3 j i k (o' - o) _ _ hj him hk (by omega) e hf this
     ·exact h3 j1 j2 k l b' o' hj1 hj2 hk hl hne (hsub _ _ _ _ hj1 hk q1) (hsub _ _ _ _ hj2 hl q2)
    ·simp at hs
  |tok=>simp at hs
  |dead=>simp at hs
  |iter t pos=>simp at hs
  |Q30 u m z f=>simp at hs
  |Q20 gk gv ku vu n g=>simp at hs
  |Q1a u n g=>simp at hs
theorem Z93 {h':Qr U} {s i off:Nat} {l:List U.S} (hs:get h' s=get h s):stZ h' s i off l=stZ h s i off l:=by unfold stZ;rw [hs]
theorem QaY (hU:U.Ok) {s i off b o z:Nat} {new:List U.S} {vs:List Value} {e:Ent U} (hs:stZ h s i off new=some (z,e)) (hz:z<=i) (hg:G U c Φ h w) (hL:c.L s i=some (b,o))
  (hr:RL U c new vs):w.there b (o+off) vs.length/\(∃F,Q1s c (w.setCells b (o+off) vs) s F e/\∀b' o',F b' o'->Φ s b' o')/\(∀j,j < vs.length->Φ s b (o+off+j))/\(get h s).isSome:=by
 unfold stZ at hs
 split at hs
 ·rename_i u n z' f he
  dsimp only at hs
  cases hb:Nat.ble (off+new.length) (U.enc u (f i)).length && new.all Ze with
  |false=>rw [hb] at hs;cases hs
  |true=>
   rw [hb] at hs
   simp only [cond_true] at hs
   split at hs
   ·rename_i x hx
    cases hs
    simp only [Bool.and_eq_true] at hb
    have hlen:=Nat.le_of_ble_eq_true hb.1
    have hel:=hU.QD u (f i)
    obtain ⟨A,h0,h1,h2,h3,h4,h5,h6⟩:=hg.Q1M s _ he
    have hi:=h1 i _ hL
    have hA:=h0 i hi
    rw [hL] at hA
    simp only [Option.some.injEq] at hA
    have hvl:vs.length=new.length:=hr.len
    have hold:∀k,k < U.size u->∃v,w.cell? (at_ b (o+k))=some v/\w.frozen? (at_ b (o+k))=false/\R U c ((U.enc u (f i)).getD k .hole) v:=λk hk=>by
     obtain ⟨v,p1,p2,p3⟩:=h5 i k _ hi hz (List.getElem?_eq_getElem (by rw [hel];exact hk))
     rw [←hA] at p1 p3
     exact ⟨v,p1,p3,by rw [getD_of_getElem? (List.getElem?_eq_getElem (by rw [hel];exact hk))];exact p2⟩
    have hth:w.there b (o+off) vs.length:=λj hj=>by
     obtain ⟨v,p1,p2,_⟩:=hold (off+j) (by omega)
     rw [←Nat.add_assoc] at p1 p2
     exact ⟨by rw [p1];rfl,p2⟩
    refine ⟨hth,⟨Φ s,⟨A,h0,h1,h2,h3,λi' k y hi' hz' hy=>?_,λi' k y hi' hz' hy=>?_,h6⟩,λ_ _ h=>h⟩,λj hj=>(h6 _ _).2 ⟨i,off+j,hi,hz,by omega,by rw [←hA],by rw [←hA];simp only;omega⟩,by rw [he];rfl⟩
    ·have hne:i'≠i:=by omega
     simp only [QA,if_neg hne] at hy
     exact h4 i' k y hi' hz' hy
    ·by_cases hii:i'=i
     ·subst hii
      simp only [QA,if_true] at hy
      have hsl:(Rf.Q1v off new (U.enc u (f i'))).length=U.size u:=by rw [Zo hlen,hel]
      have hk:k < U.size u:=by rw [←hU.QD u x];exact (List.getElem?_eq_some_iff.1 hy).1
      obtain ⟨y',q1,q2⟩:=hU.Qz u _ x hx k _ (List.getElem?_eq_getElem (by rw [hsl];exact hk))
      rw [hy] at q1;cases q1
      rw [←hA]
      refine ⟨?_,?_⟩
      ·exact (if off<=k/\k < off+new.length then vs.getD (k - off) undef else (hold k hk).choose)
      by_cases hin:off<=k/\k < off+new.length
      ·rw [if_pos hin]
       obtain ⟨j,rfl⟩:∃j,k=off+j:=⟨k - off,by omega⟩
       have hj:j < new.length:=by omega
       obtain ⟨v,r1,r2⟩:=hr.at_ j _ (List.getElem?_eq_getElem hj)
       have hsp:(Rf.Q1v off new (U.enc u (f i')))[off+j]? =new[j]? :=Zw hlen hj
       have e1:(Rf.Q1v off new (U.enc u (f i')))[off+j]=new[j]:=by
        have:=hsp
        rw [List.getElem?_eq_getElem (by rw [hsl];exact hk),List.getElem?_eq_getElem hj] at this
        exact Option.some.inj this
       rw [e1] at q2
       rw [show off+j - off=j by omega,getD_of_getElem? r1]
       have hcs:=Zy (λj hj=>(hth j hj).1) r1
       rw [Nat.add_assoc] at hcs
       refine ⟨hcs,q2.val _ _ r2,?_⟩
       rw [World.frozen?_setCells]
       exact (hold (off+j) hk).choose_spec.2.1
      ·rw [if_neg hin]
       have hch:=(hold k hk).choose_spec
       have hsp:(Rf.Q1v off new (U.enc u (f i')))[k]? =(U.enc u (f i'))[k]? :=Zp hlen (by omega)
       have e1:(Rf.Q1v off new (U.enc u (f i')))[k]=(U.enc u (f i')).getD k .hole:=by
        have:=hsp
        rw [List.getElem?_eq_getElem (by rw [hsl];exact hk)] at this
        exact (getD_of_getElem? this.symm).symm
       rw [e1] at q2
       refine ⟨?_,q2.val _ _ hch.2.2,?_⟩
       ·rw [Zm (λ_=>by omega)];exact hch.1
       ·rw [World.frozen?_setCells];exact hch.2.1
     ·simp only [QA,if_neg hii] at hy
      obtain ⟨v,p1,p2,p3⟩:=h5 i' k y hi' hz' hy
      have hk:k < U.size u:=by rw [←hU.QD u (f i')];exact (List.getElem?_eq_some_iff.1 hy).1
      refine ⟨v,?_,p2,by rw [World.frozen?_setCells];exact p3⟩
      rw [Zm ?_]
      ·exact p1
      ·intro e
       have e1:=h2 i hi
       have e2:=h2 i' hi'
       rw [←hA] at e1
       simp only [Prod.mk.injEq] at e1
       rw [e2]
       rcases Nat.lt_or_gt_of_ne hii with h7|h7
       ·left
        have:(i'+1)*U.size u<=i*U.size u:=Nat.mul_le_mul_right _ h7
        rw [Nat.succ_mul] at this
        simp only;omega
       ·right
        have:(i+1)*U.size u<=i'*U.size u:=Nat.mul_le_mul_right _ h7
        rw [Nat.succ_mul] at this
        simp only;omega
   ·cases hs
 ·cases hs
theorem Z2r {α:Type} {k:Nat} {x:α} {l:List α} (hk:k < l.length):(Zn k x l).length=l.length:=Zo (by simp;omega)
theorem Z6E {α:Type} {k j:Nat} {x:α} {l:List α} (hk:k < l.length):(Zn k x l)[j]? =if j=k then some x else l[j]? :=by
 unfold Zn
 by_cases e:j=k
 ·subst e
  have:=Zw (off:=j) (k:=0) (new:= [x]) (l:=l) (by simp;omega) (by simp)
  rw [Nat.add_zero] at this
  rw [if_pos rfl,this];rfl
 ·rw [if_neg e,Zp (by simp;omega) (by simp;omega)]
theorem Z7b (hU:U.Ok) {w':World} {s off b o:Nat} {cells:List U.S} {x y:U.S} {Gk:Nat->Nat->Nat->Prop} {H W:Nat->Nat->Prop} (hP:Pl U c w b o cells Gk) (hc:cells[off]? =some x)
  (hO:Own U c w' b (o+off) y H) (hH:∀b' o',H b' o'->Gk off b' o') (hfr:Fr W w w') (hW:∀b' o',W b' o'->Gk off b' o'):
  Pl U c w' b o (Zn off y cells) (λj=>if j=off then H else Gk j)/\∀b' o' k,k < cells.length->(if k=off then H else Gk k) b' o'->Gk k b' o':=by
 have hlt:=(List.getElem?_eq_some_iff.1 hc).1
 have hsub:∀b' o' k,k < cells.length->(if k=off then H else Gk k) b' o'->Gk k b' o':=λb' o' k hk hf=>by
  by_cases e:k=off
  ·subst e;rw [if_pos rfl] at hf;exact hH _ _ hf
  ·rw [if_neg e] at hf;exact hf
 refine ⟨⟨λk z hk=>?_,λi j b' o' hi hj hne h1 h2=>?_⟩,hsub⟩
 ·rw [Z6E hlt] at hk
  by_cases e:k=off
  ·subst e
   rw [if_pos rfl] at hk;cases hk
   try dsimp only
   rw [if_pos rfl];exact hO
  ·rw [if_neg e] at hk
   try dsimp only
   rw [if_neg e]
   have hkl:=(List.getElem?_eq_some_iff.1 hk).1
   exact (hP.own k z hk).stays hU (.refl c) (hfr.agr (λb' o' hf=>hP.lt hU hkl hf) λb' o' hf hw=>hP.dis k off b' o' hkl hlt e hf (hW _ _ hw))
 ·rw [Z2r hlt] at hi hj
  exact hP.dis i j b' o' hi hj hne (hsub _ _ _ hi h1) (hsub _ _ _ hj h2)
theorem Qb0 (hU:U.Ok) {s off m len i k b o:Nat} {new:List U.S} {vs:List Value} {e:Ent U} (hs:stA h s off m len i k new=some e) (hg:G U c Φ h w) (hi:i < len) (hL:c.L s 0=some (b,o))
  (hr:RL U c new vs):w.there b (o+off+(i*m+k)) vs.length/\(∃F,Q1s c (w.setCells b (o+off+(i*m+k)) vs) s F e/\∀b' o',F b' o'->Φ s b' o')/\(∀j,j < vs.length->Φ s b (o+off+(i*m+k)+j))/\(get h s).isSome:=by
 unfold stA at hs
 split at hs
 ·rename_i cells he
  split at hs
  ·rename_i u len' f hc
   dsimp only at hs
   cases hb:Nat.beq m (U.size u) && Nat.beq len len' && Nat.ble (k+new.length) (U.enc u (f i)).length && (QM k new.length (U.enc u (f i))).all Z25 && new.all Ze with
   |false=>rw [hb] at hs;cases hs
   |true=>
    rw [hb] at hs
    simp only [cond_true] at hs
    split at hs
    ·rename_i x hx
     cases hs
     simp only [Bool.and_eq_true] at hb
     obtain ⟨⟨⟨⟨b1,b2⟩,b3⟩,b4⟩,b5⟩:=hb
     have b1:=QH b1
     have b2:=QH b2
     subst b1;subst b2
     have b6:k+new.length<=(U.enc u (f i)).length:=Nat.le_of_ble_eq_true b3
     have hel:=hU.QD u (f i)
     rw [hel] at b6
     obtain ⟨b',o',Gk,h0,h1,h2,h3⟩:=hg.Q1M s _ he
     rw [hL] at h0;cases h0
     have hlt:=(List.getElem?_eq_some_iff.1 hc).1
     have hvl:vs.length=new.length:=hr.len
     have hfl:=ZQ hU u len f
     have hrow:i*U.size u+U.size u<=len*U.size u:=by
      rw [←Nat.succ_mul];exact Nat.mul_le_mul_right _ hi
     cases h2.own off _ hc with
     |cell hr _ _ _=>cases hr
     |Q1n Gn hk hd hF=>
      have hPn:Pl U c w b (o+off) (flat u len f) Gn:=⟨hk,λj k b' o' hj hk'=>hd j k b' o' (by rw [←hfl];exact hj) (by rw [←hfl];exact hk')⟩
      have Q3f:∀j,j < U.size u->(flat u len f)[i*U.size u+j]? =(U.enc u (f i))[j]? :=λj hj=>Z1j hU u len f hi hj
      have hdr:QM (i*U.size u+k) new.length (flat u len f)=QM k new.length (U.enc u (f i)):=by
       apply List.ext_getElem?
       intro j
       by_cases hj:j < new.length
       ·rw [Z1s hj,Z1s hj,Nat.add_assoc,Q3f _ (by omega)]
       ·unfold QM
        rw [List.getElem?_take,List.getElem?_take,if_neg hj,if_neg hj]
      obtain ⟨p1,p2,p3⟩:=hPn.Q1v hU (off:=i*U.size u+k) (by rw [hfl];omega) (by rw [hdr];exact b4) hr
      have hfr:Fr (λb' o'=>b'=b/\o+off+(i*U.size u+k)<=o'/\o' < o+off+(i*U.size u+k)+vs.length) w (w.setCells b (o+off+(i*U.size u+k)) vs):=Fr.setCells λj hj=>⟨rfl,by omega,by omega⟩
      have hGn:∀b' o' q,q < len*U.size u->(if i*U.size u+k<=q/\q < i*U.size u+k+new.length then b'=b/\o'=o+off+q else Gn q b' o')->Gn q b' o':=λb' o' q hq hf=>by
       split at hf
       ·rename_i hin
        obtain ⟨rfl,rfl⟩:=hf
        have:=p2 (q - (i*U.size u+k)) (by omega)
        rwa [show i*U.size u+k+(q - (i*U.size u+k))=q by omega,show o+off+(i*U.size u+k)+(q - (i*U.size u+k))=o+off+q by omega] at this
       ·exact hf
      have p4:Pl U c (w.setCells b (o+off+(i*U.size u+k)) vs) b (o+off) (flat u len (QA f i x)) (λq b' o'=>if i*U.size u+k<=q/\q < i*U.size u+k+new.length then b'=b/\o'=o+off+q else Gn q b' o'):=by
       refine p3.le (by rw [Zo (by rw [hfl];omega),hfl,ZQ hU]) λq z hz=>?_
       obtain ⟨i',k',hi',hk',rfl,hz'⟩:=Z2K hU u len _ hz
       by_cases e:i'=i
       ·subst e
        simp only [QA,if_true] at hz'
        have hsl:(Q1v k new (U.enc u (f i'))).length=U.size u:=by rw [Zo (by rw [hel];exact b6),hel]
        obtain ⟨z',q1,q2⟩:=hU.Qz u _ x hx k' _ (List.getElem?_eq_getElem (by rw [hsl];exact hk'))
        rw [hz'] at q1;cases q1
        refine ⟨_,?_,q2⟩
        rw [←List.getElem?_eq_getElem]
        by_cases hin:k<=k'/\k' < k+new.length
        ·obtain ⟨j,rfl⟩:∃j,k'=k+j:=⟨k' - k,by omega⟩
         rw [←Nat.add_assoc,Zw (l:=flat u len f) (by rw [hfl];omega) (by omega),Zw (l:=U.enc u (f i')) (by rw [hel];exact b6) (by omega)]
        ·rw [Zp (l:=flat u len f) (by rw [hfl];omega) (by omega),Zp (l:=U.enc u (f i')) (by rw [hel];exact b6) (by omega),Q3f _ hk']
       ·simp only [QA,if_neg e] at hz'
        refine ⟨z,?_,.refl z⟩
        have hne:i'*U.size u+k' < i*U.size u+k\/i*U.size u+k+new.length<=i'*U.size u+k':=by
         rcases Nat.lt_or_gt_of_ne e with h4|h4
         ·left
          have:(i'+1)*U.size u<=i*U.size u:=Nat.mul_le_mul_right _ h4
          rw [Nat.succ_mul] at this
          omega
         ·right
          have:(i+1)*U.size u<=i'*U.size u:=Nat.mul_le_mul_right _ h4
          rw [Nat.succ_mul] at this
          omega
        rw [Zp (by rw [hfl];omega) hne,Z1j hU u len f hi' hk']
        exact hz'
      have hOn:Own U c (w.setCells b (o+off+(i*U.size u+k)) vs) b (o+off) (.Q1n u len (QA f i x)) (λb' o'=>∃q,q < len*U.size u/\(if i*U.size u+k<=q/\q < i*U.size u+k+new.length then b'=b/\o'=o+off+q else Gn q b' o')):=
       .Q1n _ p4.own (λj q b' o' hj hq=>p4.dis j q b' o' (by rw [ZQ hU];exact hj) (by rw [ZQ hU];exact hq)) λ_ _=>Iff.rfl
      obtain ⟨s1,s2⟩:=Z7b hU (s:=s) h2 hc hOn (λb' o' ⟨q,hq,hf⟩=>(hF _ _).2 ⟨q,hq,hGn _ _ _ hq hf⟩) hfr (λb' o' ⟨w1,w2,w3⟩=>by
       subst w1
       have:=p2 (o' - (o+off+(i*U.size u+k))) (by omega)
       rw [show o+off+(i*U.size u+k)+(o' - (o+off+(i*U.size u+k)))=o' by omega] at this
       exact (hF _ _).2 ⟨_,by omega,this⟩)
      refine ⟨p1,⟨_,⟨b,o,_,hL,h1,s1,λ_ _=>Iff.rfl⟩,λb' o' ⟨q,hq,hf⟩=>?_⟩,λj hj=>(h3 _ _).2 ⟨off,hlt,(hF _ _).2 ⟨_,by omega,p2 j hj⟩⟩,by rw [he];rfl⟩
      rw [Z2r hlt] at hq
      exact (h3 _ _).2 ⟨q,hq,s2 _ _ _ hq hf⟩
    ·cases hs
  ·cases hs
 ·cases hs
theorem Z6L {t:TypeId} {n b o:Nat} {x:V U} {v:Value} (hn:size? P t=some n) (hv:RV U c x v) (hln:x.l.length=n) (ht:w.there b o n):
  (storeVar t (at_ b o) v).run P w= .ok () (w.setCells b o v.cells.toList):=by
 have hr:=hv.cells
 have hlen:v.cells.toList.length=n:=hr.len.trans hln
 have hst:=run_storeCells_cells (P:=P) b o v.cells.toList 0 w (λj hj=>by simpa using (ht j (by omega)).1) (λj hj=>by simpa using (ht j (by omega)).2) hr.one
 simp only [Nat.add_zero] at hst
 have hsz:v.cells.size=n:=by simpa using hlen
 simp [storeVar,Za hn,hsz,hst]
theorem Z4Y (hU:U.Ok) {s n b o:Nat} {x:V U} {v:Value} {e:Ent U} {t:TypeId} (hn:size? P t=some n) (hg:G U c Φ h w) (hx:RV U c x v) (hln:x.l.length=n)
  (hst:w.there b o v.cells.toList.length/\(∃F,Q1s c (w.setCells b o v.cells.toList) s F e/\∀b' o',F b' o'->Φ s b' o')/\(∀j,j < v.cells.toList.length->Φ s b (o+j))/\(get h s).isSome):
  ∃w' c' Φ',(Instr.storeAt t (.pointer (some (at_ b o))) v).run P w= .ok () w'/\QB U c Φ h nx { v:= .t [],w:= [(s,e)]} w c' Φ' undef w':=by
 obtain ⟨hth,⟨F,hE,hFs⟩,hφ,hsome⟩:=hst
 have hlen:v.cells.toList.length=n:=(RV.cells hx).len.trans hln
 rw [hlen] at hth
 have hrun:=Z6L (P:=P) hn hx hln hth
 refine ⟨_,c,fup Φ s F,by simp [Instr.storeAt,Instr.sureAddr];exact hrun,?_⟩
 have hfr:Fr (λb' o'=>b'=b/\o<=o'/\o' < o+v.cells.toList.length) w (w.setCells b o v.cells.toList):=Fr.setCells λj hj=>⟨rfl,by omega,by omega⟩
 have hin:∀b' o',(b'=b/\o<=o'/\o' < o+v.cells.toList.length)->Φ s b' o':=λb' o' ⟨h1,h2,h3⟩=>by
  subst h1
  have:=hφ (o' - o) (by omega)
  rwa [show o+(o' - o)=o' by omega] at this
 refine { le:= .refl c,L:=λ_ _ _ _=>rfl,val:=RA.undef,g:= ?_,fr:= ?_,Q2p:=λt ht=>?_,Q2g:=λt b' o' ht hf=>?_,names:=λt ht=>?_,Q32:=λ_ _ _ h=>.inl h}
 ·refine hg.put hU (.refl c) (λ_ _ _=>rfl) hE (λt hts h1=>hfr.agr (λb' o' hf=>hg.lt hU h1 hf) λb' o' hf hn=>hg.apart t s b' o' hts h1 hsome hf (hin _ _ hn))
   (λt b' o' hts h1 hf hF=>hg.apart t s b' o' hts h1 hsome hf (hFs _ _ hF)) (λb' o' u hu=>?_) (λt b' o' _ h1 hf=>hg.Q15 t b' o' h1 hf) (λb' o' hf=>hg.Q15 s b' o' hsome (hFs _ _ hf))
  refine (hfr.cell b' o' (Zf (hg.imm b' o' u hu)) λhn=>?_).trans (hg.imm b' o' u hu)
  have:=hg.Q15 s b' o' hsome (hin _ _ hn)
  rw [hu] at this;cases this
 ·exact hfr.mono λb' o' _ hn=>⟨s,by simp,hsome,hin _ _ hn⟩
 ·simp at ht;simp [fup,ht]
 ·simp at ht;subst ht
  simp [fup] at hf
  exact .inr ⟨t,by simp,hsome,hFs _ _ hf⟩
 ·simp at ht;subst ht;exact .inr hsome
theorem Z7A (hU:U.Ok) {h':Qr U} {t:TypeId} {a x:A U} {out:Out U} {p v:Value} (ho:(Z6o P t a x h').outs=some out)
  (hag:∀s,s∈out.rd\/s∈out.w.map (·.1)->get h s=get h' s) (hg:G U c Φ h w) (ha:RA U c a p) (hx:RA U c x v):
  ∃w' c' Φ',(Instr.storeAt t p v).run P w= .ok () w'/\QB U c Φ h nx out w c' Φ' undef w':=by
 unfold Z6o at ho
 split at ho
 ·rename_i n s i off x hn
  cases hb:Nat.beq x.l.length n with
  |false=>simp [hb,OpR.outs] at ho
  |true=>
   simp only [hb,cond_true] at ho
   split at ho
   ·rename_i e he
    simp [OpR.outs] at ho
    subst ho
    have he':stE h s i off x.l=some e:=by rw [Z94 (hag s (.inr (by simp)))];exact he
    obtain ⟨b,o,hL,hp⟩:∃b o,c.L s i=some (b,o)/\p= .pointer (some (at_ b (o+off))):=by
     cases ha with|ptr h0=>exact ⟨_,_,h0,rfl⟩
    subst hp
    exact Z4Y hU hn hg hx (QH hb) (Qb4 hU he' hg hL (RV.cells hx))
   ·split at ho
    ·rename_i z e he
     cases hz:Nat.ble z i with
     |false=>rw [hz] at ho;cases ho
     |true=>
      rw [hz] at ho
      cases ho
      have he':stZ h s i off x.l=some (z,e):=by rw [Z93 (hag s (.inr (by simp)))];exact he
      obtain ⟨b,o,hL,hp⟩:∃b o,c.L s i=some (b,o)/\p= .pointer (some (at_ b (o+off))):=by
       cases ha with|ptr h0=>exact ⟨_,_,h0,rfl⟩
      subst hp
      exact Z4Y hU hn hg hx (QH hb) (QaY hU he' (Nat.le_of_ble_eq_true hz) hg hL (RV.cells hx))
    ·simp [OpR.outs] at ho
 ·rename_i n s off m len i k x hn
  cases hb:Nat.beq x.l.length n with
  |false=>simp [hb,OpR.outs] at ho
  |true=>
   simp only [hb,cond_true] at ho
   split at ho
   ·rename_i e he
    simp [OpR.outs] at ho
    subst ho
    have he':stA h s off m len i k x.l=some e:=by rw [Z8Q (hag s (.inr (by simp)))];exact he
    cases ha with
    |Q1q hi h0=>exact Z4Y hU hn hg hx (QH hb) (Qb0 hU he' hg hi h0 (RV.cells hx))
   ·simp [OpR.outs] at ho
 ·simp [OpR.outs] at ho
end Go.Rf
namespace Go.Rf
set_option linter.unusedVariables false
set_option linter.unusedSimpArgs false
variable {U : QV} {P : Program} {c : Cx} {Φ : Nat -> Nat -> Nat -> Prop} {h : Qr U} {nx : Nat} {w : World}
def Q3C (U:QV) (c:Cx) (w:World) (P:Program) (s:Sem Value) (out:Out U):Prop:=
 ∃u,s.run P w= .ok u w/\RA U c out.v u/\out.w= []/\out.nw=0
theorem Zl {x:U.S} {out:Out U} (ho:(one x).outs=some out):out={ v:=Rf.sc x}:=by
 simp [one,OpR.outs] at ho;exact ho.symm
theorem Z40 {α:Type} {s:Sem α} {a:α} (hs:Z1y P s=some a) (w:World):s.run P w= .ok a w:=by
 induction s generalizing w with
 |pure b=>simp [Z1y] at hs;subst hs;rfl
 |program k ih=>simp only [Z1y] at hs;exact ih P hs w
 |mark m k ih=>simp only [Z1y] at hs;exact ih hs w
 |_=>simp [Z1y] at hs
theorem Z6S {t f:Nat} {a:A U} {out:Out U} {p:Value} (ho:(Z3l P t a f).outs=some out) (ha:RA U c a p):
  Q3C U c w P (Instr.fieldAt t p f) out:=by
 unfold Z3l at ho
 have key:∀o,Z2m P t f=some o->∀b x,(Instr.fieldAt t (.pointer (some (at_ b x))) f).run P w= .ok (.pointer (some (at_ b (x+o)))) w:=by
  intro o hf b x
  unfold Z2m at hf
  split at hf
  ·rename_i fs hfs
   split at hf
   ·rename_i fl hfl
    split at hf
    ·rename_i i hi
     cases hz:Nat.beq i.size 0 with
     |true=>simp [hz] at hf
     |false=>
      simp [hz] at hf
      have hz':i.size≠0:=λe=>by rw [e] at hz;cases hz
      have hsz:(sizeOf fl.type).run P w= .ok i.size w:=Za (by simp [size?,hi]) w
      simp [Instr.fieldAt,run_underlying hfs,hfl,Instr.sureAddr,fieldPlace,hsz,hz',Zq,hf]
    ·cases hf
   ·cases hf
  ·cases hf
 split at ho
 ·rename_i o s i off hf
  rw [Zl ho]
  cases ha with
  | @ptr _ _ _ b x h0=>
   refine ⟨_,key o hf _ _,?_,rfl,rfl⟩
   rw [Nat.add_assoc]
   exact R.ptr h0
 ·rename_i o s off m n i k hf
  rw [Zl ho]
  cases ha with
  | @Q1q _ _ _ _ _ _ b x hi h0=>
   refine ⟨_,key o hf _ _,?_,rfl,rfl⟩
   rw [show x+off+(i*m+k)+o=x+off+(i*m+(k+o)) by omega]
   exact R.Q1q hi h0
 ·rename_i o u x off hf
  rw [Zl ho]
  cases ha with
  |Q31 g hi hr=>
   refine ⟨_,key o hf _ _,?_,rfl,rfl⟩
   rw [Nat.add_assoc]
   exact R.Q31 g hi hr
 ·rename_i o u x hf
  cases x with
  |none=>cases ho
  |some y=>
   cases ho
   cases ha with
   |Q56 g hi hr=>exact ⟨_,key o hf _ _,R.Q31 g hi hr,rfl,rfl⟩
 ·rename_i o f x hf
  cases x with
  |none=>cases ho
  |some y=>
   cases ho
   cases ha with
   | @Q5c _ _ b q hlt h0=>
    refine ⟨_,key o hf _ _,?_,rfl,rfl⟩
    exact R.ptr h0
 ·simp [OpR.outs] at ho
theorem Qb1 {a:A U} {out:Out U} {p:Value} (ho:(Q9x a).outs=some out) (ha:RA U c a p):
  out.w= []/\out.nw=0/\RA U c out.v p/\∃x,p= .pointer (some x):=by
 unfold Q9x at ho
 split at ho
 ·rw [Zl ho]
  refine ⟨rfl,rfl,ha,?_⟩
  cases ha with|ptr h0=>exact ⟨_,rfl⟩
 ·rw [Zl ho]
  refine ⟨rfl,rfl,ha,?_⟩
  cases ha with|Q1q hi h0=>exact ⟨_,rfl⟩
 ·rw [Zl ho]
  refine ⟨rfl,rfl,ha,?_⟩
  cases ha with|Q31 g hi hr=>exact ⟨_,rfl⟩
 ·rename_i u x
  cases x with
  |none=>cases ho
  |some y=>
   cases ho
   cases ha with
   |Q56 g hi hr=>exact ⟨rfl,rfl,R.Q31 (off:=0) g hi hr,_,rfl⟩
 ·rename_i f x
  cases x with
  |none=>cases ho
  |some y=>
   cases ho
   cases ha with
   |Q5c hlt h0=>exact ⟨rfl,rfl,R.ptr (off:=0) h0,_,rfl⟩
 ·simp [OpR.outs] at ho
theorem Q9D {g:Bool} {l:List U.S} {v:A U} {vs:List Value} (hv:asV g l=some v) (hl:RL U c l vs):
  RA U c v (if g then .agg vs.toArray else vs.headD undef):=by
 unfold asV at hv
 cases g with
 |true=>simp at hv;subst hv;exact ⟨vs.toArray,rfl,by simpa using hl⟩
 |false=>
  match l,hl,hv with
  | [x],hl,hv=>
   simp at hv;subst hv
   obtain ⟨u,vs',rfl,h1,h2⟩:=hl.Q44
   exact h1
theorem RL.QM {l:List U.S} {vs:List Value} (hl:RL U c l vs) (off n:Nat):RL U c (Rf.QM off n l) (Rf.QM off n vs):=(hl.drop off).take n
theorem Z8J {t:TypeId} {g:Bool} {off n:Nat} {l:List U.S} {vs:List Value} {v:A U} (ha:agg? P t=some g) (hn:size? P t=some n) (hl:RL U c l vs)
  (hlen:g=true->(QM off n l).length=n) (hv:asV g (QM off (bif g then n else 1) l)=some v):∃u,(part t vs.toArray off).run P w= .ok u w/\RA U c v u:=by
 have hr:=Q9D hv (hl.QM off (bif g then n else 1))
 refine ⟨_,?_,hr⟩
 cases g with
 |true=>
  simp only [if_true,cond_true]
  have:(vs.toArray.extract off (off+n))=(QM off n vs).toArray:=by
   simp [QM,List.extract_eq_take_drop]
  simp only [part,Sem.run_bind,Z1h ha,Result.andThen_ok,if_true,Za hn,Sem.run_pure,this]
 |false=>
  simp only [cond_false,Bool.false_eq_true,if_false]
  match hd:QM off 1 l,hv with
  | [x],hv=>
   have h0:(QM off 1 l)[0]? =some x:=by rw [hd];rfl
   have h1:=(ZW h0).2
   obtain ⟨u,hu,_⟩:=hl.at_ off x (by simpa using h1)
   have h2:QM off 1 vs= [u]:=by
    have hlt:off < vs.length:=(List.getElem?_eq_some_iff.1 hu).1
    unfold QM
    rw [List.drop_eq_getElem_cons hlt]
    have:=(List.getElem?_eq_some_iff.1 hu).2
    simp [this]
   simp [part,Z1h ha,hu,h2]
theorem Z9g {t f:Nat} {a:A U} {out:Out U} {p:Value} (ho:(Z6k P t a f).outs=some out) (ha:RA U c a p):
  Q3C U c w P (Instr.field t p f) out:=by
 unfold Z6k at ho
 split at ho
 ·rename_i o ft l hf
  split at ho
  ·rename_i g n hg hn
   dsimp only at ho
   obtain ⟨cs,rfl,hl⟩:=ha
   cases hb:g && !Nat.beq (QM o (bif g then n else 1) l).length n with
   |true=>simp [hb,OpR.outs] at ho
   |false=>
    simp only [hb,cond_false] at ho
    split at ho
    ·rename_i v hv
     obtain ⟨q1,q2,q3,q4⟩:=Z4w ho
     have hlen:g=true->(QM o n l).length=n:=λe=>by
      subst e
      simp at hb
      exact QH (by simpa using hb)
     obtain ⟨u,hu,hr⟩:=Z8J (P:=P) (w:=w) hg hn hl hlen hv
     refine ⟨u,?_,q4 _ _ hr,q2,q3⟩
     unfold fieldAt at hf
     split at hf
     ·rename_i fs hfs
      cases hfl:fs[f]? with
      |none=>simp [hfl] at hf
      |some fl=>
       simp [hfl] at hf
       obtain ⟨rfl,rfl⟩:=hf
       simp [Instr.field,run_underlying hfs,hfl,asAgg,hu]
     ·cases hf
    ·simp [OpR.outs] at ho
  ·simp [OpR.outs] at ho
 ·simp [OpR.outs] at ho
theorem Z8x {a:A U} {i:Nat} {out:Out U} {p:Value} (ho:(Z4I a i).outs=some out) (ha:RA U c a p):
  Q3C U c w P (Instr.extract p i) out:=by
 unfold Z4I at ho
 split at ho
 ·rename_i xs
  obtain ⟨vs,rfl,hlen,hat⟩:=ha
  split at ho
  ·rename_i v hv
   simp [OpR.outs] at ho
   subst ho
   obtain ⟨u,hu,hr⟩:=hat i v hv
   exact ⟨u,by simp [Instr.extract,hu],hr,rfl,rfl⟩
  ·simp [OpR.outs] at ho
 ·simp [OpR.outs] at ho
theorem Z9z {t:TypeId} {v:Value} (hv:okV v=true):R U c (Q9e (U:=U) P t v) v:=by
 unfold Q9e
 split
 ·split
  ·split
   ·rename_i u _
    exact R.isl (xs:= []) (b:=0) (o:=0) (λ_ _=>undef) (Nat.le_refl _) (by rfl) (λhh=>by simp at hh) (λi k hi=>by simp at hi) (λi k hi=>by simp at hi)
   ·exact .val hv
  ·exact .val hv
 ·exact .val hv
theorem Z18 {t:TypeId} {i:TypeInfo} {z:Value} (hi:P.info? t=some i) (hz:i.zero=some z) (w:World):(zeroValue t).run P w= .ok z w:=by
 simp [zeroValue,typeInfo,hi,hz]
theorem ZZ {t:TypeId} {l:List U.S} (hz:zeroCells (U:=U) P t=some l):
  ∃z,(∀w,(zeroValue t).run P w= .ok z w)/\RL U c l z.cells.toList:=by
 unfold zeroCells at hz
 split at hz
 ·rename_i i hi
  split at hz
  ·rename_i z hzz
   simp only [Option.ite_none_right_eq_some,Option.some.injEq] at hz
   obtain ⟨hall,rfl⟩:=hz
   refine ⟨z,Z18 hi hzz,by simp,λk x hk=>?_⟩
   rw [List.getElem?_map] at hk
   cases hzk:z.cells.toList.zipIdx[k]? with
   |none=>rw [hzk] at hk;simp at hk
   |some p=>
    rw [hzk] at hk
    obtain ⟨v,j⟩:=p
    simp at hk
    subst hk
    rw [List.getElem?_zipIdx] at hzk
    cases hv:z.cells.toList[k]? with
    |none=>rw [hv] at hzk;simp at hzk
    |some v'=>
     rw [hv] at hzk
     simp at hzk
     obtain ⟨rfl,rfl⟩:=hzk
     exact ⟨v',rfl,Z9z (List.all_eq_true.1 hall _ (List.mem_of_getElem? hv))⟩
  ·cases hz
 ·cases hz
end Go.Rf
namespace Go.Rf
set_option linter.unusedVariables false
set_option linter.unusedSimpArgs false
variable {U : QV} {P : Program} {c : Cx} {Φ : Nat -> Nat -> Nat -> Prop} {h : Qr U} {nx : Nat} {w : World}
theorem Zb {b:Bool} {o out:Out U} (ho:(OpR.chk b o).outs=some out):b=true/\out=o:=by
 cases b <;> simp [OpR.outs] at ho
 exact ⟨rfl,ho.symm⟩
theorem Z48 {α:Type} {x:Option α} {k:α->Out U} {out:Out U} (ho:(OpR.opt α x k).outs=some out):∃r,x=some r/\out=k r:=by
 cases x with
 |none=>cases ho
 |some r=>cases ho;exact ⟨r,rfl,rfl⟩
theorem Zx {o out:Out U} (ho:(OpR.ok o).outs=some out):out=o:=by
 simp [OpR.outs] at ho;exact ho.symm
theorem Z1 {out:Out U} (ho:(OpR.fail:OpR U).outs=some out):False:=by simp [OpR.outs] at ho
theorem Z7M {op:BinOp} {t:TypeId} {x y:Operand} {j k:IntKind} {a b:Int}:eqGuard op t x y (.int j a) (.int k b)=pure ():=by
 cases op <;> rfl
theorem Z9n {op:BinOp} {t:TypeId} {k:IntKind} {a b:Int} (ha:okV (.int k a)=true) {out:Out U} (ho:(Q93 (U:=U) op k a b).outs=some out):
  ∃v,(Go.binOp op t (.int k a) (.int k b)).run P w= .ok v w/\okV v=true/\out={ v:=scv v}:=by
 cases op <;> simp only [Q93] at ho
 case quo=>
  obtain ⟨hb,rfl⟩:=Zb ho
  have hb':b≠0:=by simpa [ine] using hb
  exact ⟨_,by simp [Go.binOp,Op.intDiv,hb'] <;> rfl,Z3W _ _,rfl⟩
 case rem=>
  obtain ⟨hb,rfl⟩:=Zb ho
  have hb':b≠0:=by simpa [ine] using hb
  refine ⟨_,by simp [Go.binOp,Op.intDiv,hb'];rfl,?_,rfl⟩
  by_cases hk:k= .u8
  ·subst hk
   have h1:=Z75 ha
   obtain ⟨n,rfl⟩:=Int.eq_ofNat_of_zero_le h1.1
   have h2:∃m:Nat,Q4K (n:Int) b=(m:Int)/\m<=n:=by
    cases b with
    |ofNat m=>exact ⟨n % m,rfl,Nat.mod_le _ _⟩
    |negSucc m=>exact ⟨n % (m+1),rfl,Nat.mod_le _ _⟩
   obtain ⟨m,h3,h4⟩:=h2
   rw [h3]
   exact Z4j (by omega)
  ·exact Z8j hk _
 case shl=>exact (Z1 ho).elim
 case shr=>exact (Z1 ho).elim
 all_goals
  have:=Zx ho
  subst this
  refine ⟨_,?_,?_,rfl⟩
  ·unfold Go.binOp;simp only [ne_eq,not_true_eq_false,if_false];rfl
  ·first|rfl|exact Z3W _ _
theorem Z5Z {op:BinOp} {t:TypeId} {j k:IntKind} {a b:Int} (ha:okV (.int k a)=true) {out:Out U} (ho:(Z4T (U:=U) op k a b).outs=some out):
  ∃v,(Go.binOp op t (.int k a) (.int j b)).run P w= .ok v w/\okV v=true/\out={ v:=scv v}:=by
 unfold Z4T at ho
 split at ho
 ·obtain ⟨hb,rfl⟩:=Zb ho
  have hb':¬b < 0:=by simpa [ile] using hb
  exact ⟨_,by simp [Go.binOp,Op.shift,hb'] <;> rfl,Z3W _ _,rfl⟩
 ·obtain ⟨hb,rfl⟩:=Zb ho
  have hb':¬b < 0:=by simpa [ile] using hb
  refine ⟨_,by simp [Go.binOp,Op.shift,hb'];rfl,?_,rfl⟩
  by_cases hk:k= .u8
  ·subst hk
   have h1:=Z75 ha
   have hp:(0:Int) < 2^(min b.toNat IntKind.u8.bits):=Int.pow_pos (by decide)
   have e:Q5M .u8 a b=a / 2^(min b.toNat IntKind.u8.bits):=by unfold Q5M;rw [Int.fdiv_eq_ediv_of_nonneg _ (by omega)]
   have h2:0<=Q5M .u8 a b:=by rw [e];exact Int.ediv_nonneg h1.1 (by omega)
   have h3:Q5M .u8 a b<=a:=by rw [e];exact Int.ediv_le_self _ h1.1
   exact Z4j ⟨h2,by omega⟩
  ·exact Z8j hk _
 ·exact (Z1 ho).elim
theorem R.int {k:IntKind} {n:Int} {v:Value} (hr:R U c (.val (.int k n)) v):v= .int k n:=by cases hr;rfl
theorem R.Q1z {x v:Value} (hr:R U c (.val x) v):v=x:=by cases hr;rfl
def Z1L (g:Bool) (vs:List Value):Value:=if g then .agg vs.toArray else vs.headD undef
theorem Z2U {t:TypeId} {g:Bool} {off n:Nat} {vs:List Value} (ha:agg? P t=some g) (hn:size? P t=some n) (hlen:g=false->off < vs.length):
  (part t vs.toArray off).run P w= .ok (Z1L g (QM off (bif g then n else 1) vs)) w:=by
 cases g with
 |true=>
  have:(vs.toArray.extract off (off+n))=(QM off n vs).toArray:=by simp [QM,List.extract_eq_take_drop]
  simp only [part,Sem.run_bind,Z1h ha,Result.andThen_ok,if_true,Za hn,Sem.run_pure,this,Z1L,cond_true]
 |false=>
  have hlt:=hlen rfl
  have h2:QM off 1 vs= [vs[off]]:=by
   unfold QM
   rw [List.drop_eq_getElem_cons hlt]
   rfl
  simp [part,Z1h ha,hlt,h2,Z1L]
theorem Z8n {t:TypeId} {fs:Array Field} (h:P.underlying t=some (.struct fs)):agg? P t=some true:=by simp [agg?,h]
theorem Z7e:∀(d:Nat) (t:TypeId) (xs ys:List U.S) (b:Bool),eqS P d t xs ys=some b->∀(vs us:List Value) (g:Bool),agg? P t=some g->RL U c xs vs->RL U c ys us->
  ∀d',d<=d'->(Op.equalIn d' t (Z1L g vs) (Z1L g us)).run P w= .ok b w
 |0,t,xs,ys,b,hb=>by simp [eqS] at hb
 |d+1,t,xs,ys,b,hb=>by
  intro vs us g hg hx hy d' hd
  obtain ⟨d',rfl⟩:∃e,d'=e+1:=⟨d' - 1,by omega⟩
  have hF:∀(fs:List Field) (b:Bool),eqF P (eqS P d) fs xs ys=some b->(Op.eqFields d' vs.toArray us.toArray fs).run P w= .ok b w:=by
   intro fs
   induction fs with
   |nil=>intro b hb;simp [eqF] at hb;subst hb;rfl
   |cons f r ih=>
    intro b hb
    simp only [eqF] at hb
    cases hn:f.name== "_" with
    |true=>simp [hn] at hb
    |false=>
     simp only [hn,cond_false] at hb
     split at hb
     ·rename_i g' i hg' hi
      split at hb
      ·rename_i a b' ha hb'
       simp at hb
       subst hb
       have hsz:size? P f.type=some i.size:=by simp [size?,hi]
       have hxl:g'=false->f.offset < vs.length:=λe=>by
        subst e
        rcases Nat.lt_or_ge f.offset xs.length with h'|h'
        ·rw [hx.len];exact h'
        ·exfalso
         have h0:QM f.offset (bif false then i.size else 1) xs= []:=by simp [QM,List.drop_eq_nil_of_le h']
         rw [h0] at ha
         cases d <;> simp [eqS] at ha
         split at ha <;> simp_all [agg?]
       have hyl:g'=false->f.offset < us.length:=λe=>by
        subst e
        rcases Nat.lt_or_ge f.offset ys.length with h'|h'
        ·rw [hy.len];exact h'
        ·exfalso
         have h0:QM f.offset (bif false then i.size else 1) ys= []:=by simp [QM,List.drop_eq_nil_of_le h']
         rw [h0] at ha
         cases d <;> simp [eqS] at ha
         split at ha <;> simp_all [agg?]
       have h1:=Z2U (P:=P) (w:=w) hg' hsz hxl
       have h2:=Z2U (P:=P) (w:=w) hg' hsz hyl
       have h3:=Z7e d f.type _ _ a ha _ _ g' hg' (hx.QM f.offset (bif g' then i.size else 1)) (hy.QM f.offset (bif g' then i.size else 1)) d' (by omega)
       have hne:f.name≠ "_" :=by simpa using hn
       simp only [Op.eqFields,Sem.run_ite,if_pos hne,Sem.run_bind,h1,h2,Result.andThen_ok,h3]
       cases a
       ·simp
       ·simp [ih b' hb']
      ·cases hb
     ·cases hb
  unfold eqS at hb
  split at hb
  ·rename_i fs hfs
   cases hst:P.stoodInHeld t with
   |true=>simp [hst] at hb
   |false=>
    simp only [hst,cond_false] at hb
    have hga:g=true:=by rw [Z8n hfs] at hg;exact (Option.some.inj hg).symm
    subst hga
    have hfo:P.fieldsOf t=fs:=by simp [Program.fieldsOf,hfs]
    rw [show Z1L true vs= .agg vs.toArray from rfl,show Z1L true us= .agg us.toArray from rfl]
    rw [run_equalIn_struct w d' t _ _ (by rw [hfo];exact hfs) hst,hfo]
    exact hF fs.toList b hb
  ·rename_i k hk
   split at hb
   ·rename_i j a k' b'
    have hga:g=false:=by simp [agg?,hk] at hg;exact hg
    subst hga
    obtain ⟨v,_,rfl,h1,h2⟩:=hx.Q44
    obtain ⟨u,_,rfl,h3,h4⟩:=hy.Q44
    cases R.int h1;cases R.int h3
    by_cases hjk:j=k'
    ·simp [hjk] at hb;subst hb
     simp only [Z1L,Bool.false_eq_true,if_false,List.headD_cons,hjk]
     exact run_equalIn_int w d' t k' k a b' hk
    ·simp [hjk] at hb
   ·cases hb
  ·rename_i hk
   split at hb
   ·rename_i a b'
    have hga:g=false:=by simp [agg?,hk] at hg;exact hg
    subst hga
    obtain ⟨v,_,rfl,h1,h2⟩:=hx.Q44
    obtain ⟨u,_,rfl,h3,h4⟩:=hy.Q44
    cases R.Q1z h1;cases R.Q1z h3
    simp at hb;subst hb
    simp only [Z1L,Bool.false_eq_true,if_false,List.headD_cons]
    exact run_equalIn_bool' w d' t a b' hk
   ·cases hb
  ·rename_i hk
   split at hb
   ·rename_i a b'
    have hga:g=false:=by simp [agg?,hk] at hg;exact hg
    subst hga
    obtain ⟨v,_,rfl,h1,h2⟩:=hx.Q44
    obtain ⟨u,_,rfl,h3,h4⟩:=hy.Q44
    cases R.Q1z h1;cases R.Q1z h3
    simp at hb;subst hb
    simp only [Z1L,Bool.false_eq_true,if_false,List.headD_cons]
    rw [run_equalIn_string w d' t a b' hk,Q8b,ByteArray.toList_eq,ByteArray.toList_eq]
   ·cases hb
  ·cases hb
end Go.Rf
namespace Go.Rf
set_option linter.unusedVariables false
set_option linter.unusedSimpArgs false
variable {U : QV} {P : Program} {c : Cx} {Φ : Nat -> Nat -> Nat -> Prop} {h : Qr U} {nx : Nat} {w : World}
theorem Zz {op:BinOp} {t:TypeId} {x y:Operand} {a b:Value} (ha:Z3r a=true):eqGuard op t x y a b=pure ():=by
 cases op <;> first|rfl|(cases a <;> first|(simp [Z3r] at ha;done)|(cases b <;> rfl))
theorem Z2d (d:Nat) {t e:TypeId} {a:Addr} (ht:P.underlying t=some (.pointer e)):(Op.equalIn (d+1) t (.pointer (some a)) (.pointer none)).run P w= .ok false w:=by
 unfold Op.equalIn
 simp only [Sem.run_bind,run_underlying ht,Result.andThen_ok]
 rfl
theorem Z5L {t e:TypeId} {a:Addr} (ht:P.underlying t=some (.pointer e)):(Go.binOp .eql t (.pointer (some a)) (.pointer none)).run P w= .ok (.bool false) w:=by
 have h:=Z2d (w:=w) 9999 (a:=a) ht
 show (do pure (Value.bool (←Op.equalIn (9999+1) t (.pointer (some a)) (.pointer none))):Sem Value).run P w=_
 simp only [Sem.run_bind,h,Result.andThen_ok,Sem.run_pure]
theorem Z5U {t e:TypeId} {a:Addr} (ht:P.underlying t=some (.pointer e)):(Go.binOp .neq t (.pointer (some a)) (.pointer none)).run P w= .ok (.bool true) w:=by
 have h:=Z2d (w:=w) 9999 (a:=a) ht
 show (do pure (Value.bool (!(←Op.equalIn (9999+1) t (.pointer (some a)) (.pointer none)))):Sem Value).run P w=_
 simp only [Sem.run_bind,h,Result.andThen_ok,Sem.run_pure]
 rfl
theorem Z2e (d:Nat) {t e:TypeId} (ht:P.underlying t=some (.pointer e)):(Op.equalIn (d+1) t (.pointer none) (.pointer none)).run P w= .ok true w:=by
 unfold Op.equalIn
 simp only [Sem.run_bind,run_underlying ht,Result.andThen_ok]
 rfl
theorem Z3f {t e:TypeId} (ht:P.underlying t=some (.pointer e)):(Go.binOp .eql t (.pointer none) (.pointer none)).run P w= .ok (.bool true) w:=by
 have h:=Z2e (w:=w) 9999 ht
 show (do pure (Value.bool (←Op.equalIn (9999+1) t (.pointer none) (.pointer none))):Sem Value).run P w=_
 simp only [Sem.run_bind,h,Result.andThen_ok,Sem.run_pure]
theorem Z3c {t e:TypeId} (ht:P.underlying t=some (.pointer e)):(Go.binOp .neq t (.pointer none) (.pointer none)).run P w= .ok (.bool false) w:=by
 have h:=Z2e (w:=w) 9999 ht
 show (do pure (Value.bool (!(←Op.equalIn (9999+1) t (.pointer none) (.pointer none)))):Sem Value).run P w=_
 simp only [Sem.run_bind,h,Result.andThen_ok,Sem.run_pure]
 rfl
theorem Z5V {op:BinOp} {t:TypeId} {out:Out U} (h:(Q7x (U:=U) P op t true).outs=some out):(Z3s (U:=U) P op t).outs=some out:=h
def ZO (op:BinOp) (t:TypeId) (x y:Operand) (a b:Value):Sem Value:=do eqGuard op t x y a b;Go.binOp op t a b
theorem Qb6 {op:BinOp} {t:TypeId} {x y:Operand} {a b:A U} {out:Out U} {p q:Value} (ho:(Q99 P op t a b).outs=some out) (ha:RA U c a p) (hb:RA U c b q):
  Q3C U c w P (ZO op t x y p q) out:=by
 have ints:∀{k k':IntKind} {m n:Int} {v:Value},(Go.binOp op t (.int k m) (.int k' n)).run P w= .ok v w->okV v=true->out={ v:=scv v}->
   Q3C U c w P (ZO op t x y (.int k m) (.int k' n)) out:=by
  intro k k' m n v h1 h2 h3
  subst h3
  refine ⟨v,?_,.val h2,rfl,rfl⟩
  simp only [ZO,Z7M,Sem.run_bind,Sem.run_pure,Result.andThen_ok,h1]
 have nils:∀{a:Addr},(Z3s (U:=U) P op t).outs=some out->Q3C U c w P (ZO op t x y (.pointer (some a)) (.pointer none)) out:=by
  intro a h0
  unfold Z3s at h0
  split at h0
  ·rename_i hu
   rw [Zl h0]
   exact ⟨_,by simp only [ZO,Zz (a:= .pointer (some a)) rfl,Sem.run_bind,Sem.run_pure,Result.andThen_ok,Z5L hu],.val rfl,rfl,rfl⟩
  ·rename_i hu
   rw [Zl h0]
   exact ⟨_,by simp only [ZO,Zz (a:= .pointer (some a)) rfl,Sem.run_bind,Sem.run_pure,Result.andThen_ok,Z5U hu],.val rfl,rfl,rfl⟩
  ·exact (Z1 h0).elim
 have plainOk:∀{p q:Value},(Z5R (U:=U) P op t p q).outs=some out->Q3C U c w P (ZO op t x y p q) out:=by
  intro p q ho
  unfold Z5R at ho
  cases hp:Z3r p && Z3r q with
  |false=>simp [hp] at ho;exact (Z1 ho).elim
  |true=>
   simp only [hp,cond_true] at ho
   split at ho
   ·rename_i v hv
    cases h1:okR v with
    |false=>simp [h1] at ho;exact (Z1 ho).elim
    |true=>
     simp only [h1,cond_true] at ho
     rw [Zl ho]
     simp only [Bool.and_eq_true] at hp
     exact ⟨v,by simp only [ZO,Zz hp.1,Sem.run_bind,Sem.run_pure,Result.andThen_ok,Z40 hv w],.val (Z77 h1),rfl,rfl⟩
   ·exact (Z1 ho).elim
 unfold Q99 at ho
 split at ho
 ·rename_i k m k' n
  cases R.Q1z (show R U c _ p from ha);cases R.Q1z (show R U c _ q from hb)
  split at ho
  ·obtain ⟨v,h1,h2,h3⟩:=Z5Z (P:=P) (t:=t) (w:=w) (j:=k') (R.okV (show R U c (.val _) _ from ha)) ho
   exact ints h1 h2 h3
  ·obtain ⟨v,h1,h2,h3⟩:=Z5Z (P:=P) (t:=t) (w:=w) (j:=k') (R.okV (show R U c (.val _) _ from ha)) ho
   exact ints h1 h2 h3
  ·by_cases hk:k=k'
   ·subst hk
    simp at ho
    obtain ⟨v,h1,h2,h3⟩:=Z9n (P:=P) (t:=t) (w:=w) (R.okV (show R U c (.val _) _ from ha)) ho
    exact ints h1 h2 h3
   ·simp [hk] at ho;exact (Z1 ho).elim
 ·cases R.Q1z (show R U c _ q from hb)
  cases (show R U c _ p from ha) with
  |ptr h0=>exact nils ho
 ·cases R.Q1z (show R U c _ q from hb)
  cases (show R U c _ p from ha) with
  |Q31 g hi hr=>exact nils ho
 ·cases R.Q1z (show R U c _ q from hb)
  cases (show R U c _ p from ha) with
  |Q1q hi h0=>exact nils ho
 ·rename_i u x
  cases R.Q1z (show R U c _ q from hb)
  cases (show R U c _ p from ha) with
  |Q56 g hi hr=>exact nils (Z5V ho)
  |Q7r=>
   unfold Q7x at ho
   split at ho
   ·rename_i hu
    rw [Zl ho]
    exact ⟨_,by simp only [ZO,Zz (a:= .pointer none) rfl,Sem.run_bind,Sem.run_pure,Result.andThen_ok,Z3f hu];rfl,.val rfl,rfl,rfl⟩
   ·rename_i hu
    rw [Zl ho]
    exact ⟨_,by simp only [ZO,Zz (a:= .pointer none) rfl,Sem.run_bind,Sem.run_pure,Result.andThen_ok,Z3c hu];rfl,.val rfl,rfl,rfl⟩
   ·exact (Z1 ho).elim
 ·rename_i f x
  cases R.Q1z (show R U c _ q from hb)
  cases (show R U c _ p from ha) with
  |Q5c hf h0=>exact nils (Z5V ho)
  |Q7i=>
   unfold Q7x at ho
   split at ho
   ·rename_i hu
    rw [Zl ho]
    exact ⟨_,by simp only [ZO,Zz (a:= .pointer none) rfl,Sem.run_bind,Sem.run_pure,Result.andThen_ok,Z3f hu];rfl,.val rfl,rfl,rfl⟩
   ·rename_i hu
    rw [Zl ho]
    exact ⟨_,by simp only [ZO,Zz (a:= .pointer none) rfl,Sem.run_bind,Sem.run_pure,Result.andThen_ok,Z3c hu];rfl,.val rfl,rfl,rfl⟩
   ·exact (Z1 ho).elim
 ·rename_i l r
  obtain ⟨cs,rfl,hl⟩:=ha
  obtain ⟨ds,rfl,hr⟩:=hb
  cases hgd:P.eqGuardType P.depth t with
  |true=>simp [hgd] at ho;exact (Z1 ho).elim
  |false=>
   simp only [hgd,cond_false] at ho
   split at ho
   ·rename_i b hag hbb
    have h1:=Z7e (P:=P) (w:=w) 20 t l r b hbb _ _ true hag hl hr 10000 (by decide)
    rw [show Z1L true cs.toList= .agg cs from rfl,show Z1L true ds.toList= .agg ds from rfl] at h1
    split at ho
    ·rw [Zl ho]
     exact ⟨_,by simp only [ZO,run_eqGuard_agg w .eql t x y cs ds hgd,Sem.run_bind,Result.andThen_ok,run_eql_struct,h1],.val rfl,rfl,rfl⟩
    ·rw [Zl ho]
     exact ⟨_,by simp only [ZO,run_eqGuard_agg w .neq t x y cs ds hgd,Sem.run_bind,Result.andThen_ok,run_neq_struct,h1],.val rfl,rfl,rfl⟩
    ·exact (Z1 ho).elim
   ·exact (Z1 ho).elim
 ·rename_i a b
  cases R.Q1z (show R U c _ p from ha);cases R.Q1z (show R U c _ q from hb)
  split at ho
  ·obtain ⟨h0,rfl⟩:=Zb ho
   have h0:=Nat.le_of_ble_eq_true h0
   refine ⟨.string (a++b),?_,.val rfl,rfl,rfl⟩
   have hrun:(Go.binOp .add t (.string a) (.string b)).run P w= .ok (.string (a++b)) w:=by
    show (Op.stringOp .add a b).run P w=_
    unfold Op.stringOp
    have:¬((a.size+b.size:Nat):Int) > IntKind.i64.max:=by
     have:IntKind.i64.max=9223372036854775807:=by decide
     omega
    simp only [if_neg this]
    rfl
   simp only [ZO,Zz (a:= .string a) rfl,Sem.run_bind,Sem.run_pure,Result.andThen_ok,hrun]
  ·exact plainOk ho
 ·rename_i j a k b
  cases R.Q1z (show R U c _ p from ha);cases R.Q1z (show R U c _ q from hb)
  by_cases hk:j=k
  ·subst hk
   simp at ho
   unfold Qa2 at ho
   split at ho
   ·rename_i x hx
    have:=Zx ho
    subst this
    refine ⟨.bool x,?_,.val rfl,rfl,rfl⟩
    simp only [ZO,Zz (a:= .float j a) rfl,Sem.run_bind,Sem.run_pure,Result.andThen_ok]
    unfold fcmp at hx
    cases op <;> simp only [] at hx <;> first|(cases hx;done)|(cases hx;simp [binOp,Op.floatCmp])
   ·obtain ⟨r,hr,rfl⟩:=Z48 ho
    refine ⟨.float j r,?_,.val rfl,rfl,rfl⟩
    simp only [ZO,Zz (a:= .float j a) rfl,Sem.run_bind,Sem.run_pure,Result.andThen_ok,run_float_arith w op t j a b r hr]
  ·simp [hk] at ho;exact (Z1 ho).elim
 ·rename_i a b e f
  cases R.Q1z (show R U c _ p from ha);cases R.Q1z (show R U c _ q from hb)
  unfold Qa4 at ho
  split at ho
  ·obtain ⟨r,hr,rfl⟩:=Z48 ho
   refine ⟨.complex .f64 r.1 r.2,?_,.val rfl,rfl,rfl⟩
   simp only [ZO,Zz (a:= .complex .f64 a b) rfl,Sem.run_bind,Sem.run_pure,Result.andThen_ok,run_complex_mul w t a b e f r.1 r.2 hr]
  ·exact (Z1 ho).elim
 ·have e1:=R.Q1z (show R U c _ p from ha)
  have e2:=R.Q1z (show R U c _ q from hb)
  rw [←e1,←e2] at ho
  exact plainOk ho
 ·exact (Z1 ho).elim
end Go.Rf
namespace Go.Rf
set_option linter.unusedVariables false
set_option linter.unusedSimpArgs false
variable {U : QV} {P : Program} {c : Cx} {Φ : Nat -> Nat -> Nat -> Prop} {h : Qr U} {nx : Nat} {w : World}
theorem un_ok {op:UnOp} {a:A U} {out:Out U} {p:Value} (ho:(opUn P op a).outs=some out) (ha:RA U c a p):Q3C U c w P (Op.unary op p) out:=by
 unfold opUn at ho
 split at ho
 ·rename_i x hx
  unfold Qa7 at hx
  split at hx
  ·rename_i v
   cases hx
   have e:=R.Q1z (show R U c _ p from ha)
   subst e
   split at ho
   ·rename_i v' hv
    cases h1:okR v' with
    |false=>simp [h1] at ho;exact (Z1 ho).elim
    |true=>
     simp only [h1,cond_true] at ho
     rw [Zl ho]
     exact ⟨v',Z40 hv w,.val (Z77 h1),rfl,rfl⟩
   ·exact (Z1 ho).elim
  ·cases hx
 ·exact (Z1 ho).elim
theorem Qav {x a b:Option (A U)} {out:Out U} {p q r:Value} (ho:(Z6T x a b).outs=some out) (hx:∀v,x=some v->RA U c v p) (ha:∀v,a=some v->RA U c v q)
  (hb:∀v,b=some v->RA U c v r):∃t,p= .bool t/\RA U c out.v (if t then q else r)/\out.w= []/\out.nw=0:=by
 unfold Z6T at ho
 split at ho
 ·rename_i t a b
  have:=Zx ho
  subst this
  have e:=R.Q1z (show R U c _ p from hx _ rfl)
  refine ⟨t,e,?_,rfl,rfl⟩
  cases t
  ·exact hb _ rfl
  ·exact ha _ rfl
 ·exact (Z1 ho).elim
theorem len_ok' {a:A U} {out:Out U} {p:Value} {t ty:TypeId} {ts:Array TypeId} (ho:(Z43 a).outs=some out) (ha:RA U c a p)
  (ht:ts[0]? =some t) (hl:Q92 P t a=true):Q3C U c w P (Builtin.len_ ts ty #[p]) out:=by
 unfold Q92 at hl
 split at hl
 ·rename_i e t' u xs hu
  simp [Z43,one,OpR.outs] at ho;subst ho
  cases (show R U c _ p from ha) with
  |isl g hc ht' ha' hi hr=>exact ⟨.int .i64 xs.length,by simp [Builtin.len_,ht,run_underlying hu,goInt],.val rfl,rfl,rfl⟩
 ·rename_i e hu
  simp [Z43,one,OpR.outs] at ho;subst ho
  cases R.Q1z (show R U c _ p from ha)
  exact ⟨.int .i64 0,by simp [Builtin.len_,ht,run_underlying hu,goInt],.val rfl,rfl,rfl⟩
 ·rename_i e s i n hu
  simp [Z43,one,OpR.outs] at ho;subst ho
  cases (show R U c _ p from ha) with
  |sl hc ha' hl'=>exact ⟨.int .i64 n,by simp [Builtin.len_,ht,run_underlying hu,goInt],.val rfl,rfl,rfl⟩
 ·rename_i e s off m n b l hu
  simp [Z43,one,OpR.outs] at ho;subst ho
  cases (show R U c _ p from ha) with
  |asl hc hb h0 ha'=>exact ⟨.int .i64 l,by simp [Builtin.len_,ht,run_underlying hu,goInt],.val rfl,rfl,rfl⟩
 ·rename_i s hu
  simp [Z43,one,OpR.outs] at ho;subst ho
  cases R.Q1z (show R U c _ p from ha)
  exact ⟨.int .i64 s.size,by simp [Builtin.len_,ht,run_underlying hu,goInt],.val rfl,rfl,rfl⟩
 ·cases hl
theorem Z6B {mx:Bool}:∀(l:List (Option (A U))) (a n:Int) (vs:List Value),Z2s mx a l=some n->vs.length=l.length->
  (∀(k:Nat) v u,l[k]? =some (some v)->vs[k]? =some u->RA U c v u)->
  (vs.foldlM (bif mx then Builtin.max2 else Builtin.min2) (.int .i64 a):Sem Value)=pure (.int .i64 n)
 | [],a,n,vs,hf,hlen,_=>by
  simp at hlen;subst hlen;simp [Z2s] at hf;subst hf;rfl
 |x::l,a,n,vs,hf,hlen,hr=>by
  cases vs with
  |nil=>simp at hlen
  |cons v vs=>
   have hx:∃b,x=some (.v ⟨false,[.val (.int .i64 b)]⟩)/\Z2s mx (Z7 mx a b) l=some n:=by
    unfold Z2s at hf
    split at hf
    ·rename_i he;cases he
    ·rename_i he;cases he;exact ⟨_,rfl,hf⟩
    ·cases hf
   obtain ⟨b,rfl,hf⟩:=hx
   ·have hv:=hr 0 _ v rfl rfl
    cases R.int (show R U c _ v from hv)
    have ih:=Z6B l _ n vs hf (by simpa using hlen) λk v u h1 h2=>hr (k+1) v u (by simpa using h1) (by simpa using h2)
    rw [List.foldlM_cons]
    cases mx
    ·simp only [cond_false] at ih ⊢
     show (Builtin.min2 (.int .i64 a) (.int .i64 b) >>=λs'=>vs.foldlM Builtin.min2 s')=_
     simp only [Builtin.min2]
     rw [show (pure (Value.int .i64 (if b < a then b else a)) >>=λs'=>vs.foldlM Builtin.min2 s':Sem Value)=vs.foldlM Builtin.min2 (Value.int .i64 (if b < a then b else a)) from rfl]
     exact ih
    ·simp only [cond_true] at ih ⊢
     show (Builtin.max2 (.int .i64 a) (.int .i64 b) >>=λs'=>vs.foldlM Builtin.max2 s')=_
     simp only [Builtin.max2]
     rw [show (pure (Value.int .i64 (if b > a then b else a)) >>=λs'=>vs.foldlM Builtin.max2 s':Sem Value)=vs.foldlM Builtin.max2 (Value.int .i64 (if b > a then b else a)) from rfl]
     exact ih
theorem Z16 {k:IntKind} {n:Int} (w:World):(asIntOf (.int k n)).run P w= .ok (k,n) w:=rfl
theorem ZS {n:Int} {len:Nat} (h:inR n len=true):0<=n/\n < (len:Int)/\n.toNat < len:=by
 simp [inR] at h
 omega
theorem Z2R (hU:U.Ok) {h':Qr U} {t:TypeId} {a b:A U} {out:Out U} {p q:Value} (ho:(Z1O P t a b h').outs=some out)
  (hag:∀s,s∈out.rd\/s∈out.w.map (·.1)->get h s=get h' s) (hg:G U c Φ h w) (ha:RA U c a p) (hb:RA U c b q):
  Q3C U c w P (Instr.indexAt t p q) out:=by
 unfold Z1O at ho
 split at ho
 ·rename_i e tk u xs k n hu
  split at ho
  ·rename_i m hm
   cases hmu:Nat.beq m (U.size u) with
   |false=>simp [hmu] at ho;exact (Z1 ho).elim
   |true=>
    simp only [hmu,cond_true] at ho
    obtain ⟨hr,rfl⟩:=Zb ho
    obtain ⟨h0,h1,h2⟩:=ZS hr
    have hmu':=QH hmu
    subst hmu'
    cases R.int (show R U c _ q from hb)
    cases (show R U c _ p from ha) with
    | @isl _ _ _ a' cap b o g hc ht ha' hi hrr=>
     have hae:=ha' (by omega)
     subst hae
     refine ⟨.pointer (some (at_ b (o+n.toNat*U.size u+0))),?_,?_,rfl,rfl⟩
     ·simp only [Instr.indexAt,Sem.run_bind,Z16,Result.andThen_ok,run_underlying hu]
      simp [h0,h1,Za hm,Zq]
     ·exact R.Q31 (b:=b) (o:=o+n.toNat*U.size u) (off:=0) (λk=>g n.toNat k) (λk hk=>by
       have:=hi n.toNat k h2 hk;rwa [←Nat.add_assoc] at this) (λk hk=>hrr n.toNat k h2 hk)
  ·exact (Z1 ho).elim
 ·rename_i e s i0 len k n hu
  split at ho
  ·rename_i m u nn f hm he
   cases hmu:Nat.beq m (U.size u) with
   |false=>simp [hmu] at ho;exact (Z1 ho).elim
   |true=>
    simp only [hmu,cond_true] at ho
    obtain ⟨hr,rfl⟩:=Zb ho
    obtain ⟨h0,h1,h2⟩:=ZS hr
    have hmu':=QH hmu
    subst hmu'
    have he':get h s=some (.fam true u nn f):=by rw [hag s (.inl (by simp))];exact he
    obtain ⟨A,hA,hA1,_,hct⟩:=(hg.Q1M s _ he').Q6y
    cases R.int (show R U c _ q from hb)
    cases (show R U c _ p from ha) with
    | @sl _ _ _ cap b o a' hc ha' hl'=>
     obtain ⟨hL,rfl⟩:=ha' (by omega)
     obtain ⟨x,hx⟩:=hl' n.toNat h2
     have hi0:=hA1 _ _ hL
     have hin:=hA1 _ _ hx
     have e0:=hct rfl i0 hi0
     have e1:=hct rfl (i0+n.toNat) hin
     have e2:=hA i0 hi0
     rw [hL] at e2
     simp only [Option.some.injEq] at e2
     have e3:A (i0+n.toNat)=(b,o+n.toNat*U.size u):=by
      rw [e1]
      rw [←e2] at e0
      simp only [Prod.mk.injEq] at e0 ⊢
      obtain ⟨e4,e5⟩:=e0
      refine ⟨e4.symm,?_⟩
      rw [e5,Nat.add_mul,Nat.add_assoc]
     refine ⟨.pointer (some (at_ b (o+n.toNat*U.size u+0))),?_,?_,rfl,rfl⟩
     ·simp only [Instr.indexAt,Sem.run_bind,Z16,Result.andThen_ok,run_underlying hu]
      simp [h0,h1,Za hm,Zq]
     ·exact R.ptr (by rw [hA _ hin,e3])
  ·rename_i m u nn z f hm he
   cases hmu:Nat.beq m (U.size u) with
   |false=>simp [hmu] at ho;exact (Z1 ho).elim
   |true=>
    simp only [hmu,cond_true] at ho
    obtain ⟨hr,rfl⟩:=Zb ho
    obtain ⟨h0,h1,h2⟩:=ZS hr
    have hmu':=QH hmu
    subst hmu'
    have he':get h s=some (.Q30 u nn z f):=by rw [hag s (.inl (by simp))];exact he
    obtain ⟨A,hA,hA1,hct',_⟩:=hg.Q1M s _ he'
    have hct:true=true->∀i,i < nn->A i=((A 0).1,(A 0).2+i*U.size u):=λ_=>hct'
    cases R.int (show R U c _ q from hb)
    cases (show R U c _ p from ha) with
    | @sl _ _ _ cap b o a' hc ha' hl'=>
     obtain ⟨hL,rfl⟩:=ha' (by omega)
     obtain ⟨x,hx⟩:=hl' n.toNat h2
     have hi0:=hA1 _ _ hL
     have hin:=hA1 _ _ hx
     have e0:=hct rfl i0 hi0
     have e1:=hct rfl (i0+n.toNat) hin
     have e2:=hA i0 hi0
     rw [hL] at e2
     simp only [Option.some.injEq] at e2
     have e3:A (i0+n.toNat)=(b,o+n.toNat*U.size u):=by
      rw [e1]
      rw [←e2] at e0
      simp only [Prod.mk.injEq] at e0 ⊢
      obtain ⟨e4,e5⟩:=e0
      refine ⟨e4.symm,?_⟩
      rw [e5,Nat.add_mul,Nat.add_assoc]
     refine ⟨.pointer (some (at_ b (o+n.toNat*U.size u+0))),?_,?_,rfl,rfl⟩
     ·simp only [Instr.indexAt,Sem.run_bind,Z16,Result.andThen_ok,run_underlying hu]
      simp [h0,h1,Za hm,Zq]
     ·exact R.ptr (by rw [hA _ hin,e3])
  ·exact (Z1 ho).elim
 ·rename_i e s off m' len b0 l k n hu
  split at ho
  ·rename_i m hm
   cases hmu:Nat.beq m m' with
   |false=>simp [hmu] at ho;exact (Z1 ho).elim
   |true=>
    simp only [hmu,cond_true] at ho
    obtain ⟨hr,rfl⟩:=Zb ho
    obtain ⟨h0,h1,h2⟩:=ZS hr
    have hmu':=QH hmu
    subst hmu'
    cases R.int (show R U c _ q from hb)
    cases (show R U c _ p from ha) with
    | @asl _ _ _ _ _ _ cap b o a' hc hbn hL ha'=>
     have:=ha' (by omega)
     subst this
     refine ⟨.pointer (some (at_ b (o+off+((b0+n.toNat)*m+0)))),?_,R.Q1q (by omega) hL,rfl,rfl⟩
     simp only [Instr.indexAt,Sem.run_bind,Z16,Result.andThen_ok,run_underlying hu]
     simp [h0,h1,Za hm,Zq,Nat.add_mul,Nat.add_assoc]
  ·exact (Z1 ho).elim
 ·rename_i len e s i off k n hu
  have fin:∀{m b o:Nat} {y:U.S},size? P e=some m->2<=len->inR n len=true->p= .pointer (some (at_ b (o+off)))->q= .int k n->out.v=sc y->out.w= []->out.nw=0->
    R U c y (.pointer (some (at_ b (o+off+n.toNat*m))))->Q3C U c w P (Instr.indexAt t p q) out:=by
   intro m b o y hm h2l hr hp hq hv hw hnw hy
   subst hp;subst hq
   obtain ⟨h0,h1,h2⟩:=ZS hr
   refine ⟨.pointer (some (at_ b (o+off+n.toNat*m))),?_,?_,hw,hnw⟩
   ·simp only [Instr.indexAt,Sem.run_bind,Z16,Result.andThen_ok,run_underlying hu]
    simp [h0,h1,Za hm,Zq,Instr.sureAddr]
   ·rw [hv];exact hy
  obtain ⟨b,o,hL,hp⟩:∃b o,c.L s i=some (b,o)/\p= .pointer (some (at_ b (o+off))):=by
   cases (show R U c _ p from ha) with|ptr h0=>exact ⟨_,_,h0,rfl⟩
  have hq:=R.int (show R U c _ q from hb)
  split at ho
  ·rename_i m cells hm he
   split at ho
   ·rename_i u len' f hs'
    cases hc3:Nat.beq m (U.size u) && Nat.beq len len' && Nat.ble 2 len with
    |false=>simp [hc3] at ho;exact (Z1 ho).elim
    |true=>
     simp only [hc3,cond_true] at ho
     obtain ⟨hr,rfl⟩:=Zb ho
     simp only [Bool.and_eq_true] at hc3
     obtain ⟨⟨e1,e2⟩,e3⟩:=hc3
     have he':get h s=some (.obj cells):=by rw [hag s (.inl (by simp))];exact he
     obtain ⟨b',o',h0,h1,_,h3⟩:=(hg.Q1M s _ he').Q7T
     have hi:=h1 _ _ hL
     subst hi
     obtain ⟨_,_,h2⟩:=ZS hr
     refine fin hm (Nat.le_of_ble_eq_true e3) hr hp hq rfl rfl rfl ?_
     exact R.Q1q (k:=0) h2 hL
   ·rename_i s' hs'
    split at ho
    ·rename_i u len' f he2
     cases hc3:Nat.beq m (U.size u) && Nat.beq len len' && Nat.ble 2 len with
     |false=>simp [hc3] at ho;exact (Z1 ho).elim
     |true=>
      simp only [hc3,cond_true] at ho
      obtain ⟨hr,rfl⟩:=Zb ho
      simp only [Bool.and_eq_true] at hc3
      obtain ⟨⟨e1,e2⟩,e3⟩:=hc3
      have e1:=QH e1
      have e2:=QH e2
      have e3:=Nat.le_of_ble_eq_true e3
      subst e1;subst e2
      have he':get h s=some (.obj cells):=by rw [hag s (.inl (by simp))];exact he
      have he2':get h s'=some (.fam true u len f):=by rw [hag s' (.inl (by simp))];exact he2
      obtain ⟨b',o',h0,h1,_,h3⟩:=(hg.Q1M s _ he').Q7T
      have hi:=h1 _ _ hL
      subst hi
      rw [hL] at h0;cases h0
      have hb0:=h3 off s' hs'
      obtain ⟨A,hA,hA1,_,hct⟩:=(hg.Q1M s' _ he2').Q6y
      obtain ⟨_,_,h2⟩:=ZS hr
      have e4:=hA 0 (by omega)
      rw [hb0] at e4
      simp only [Option.some.injEq] at e4
      have e5:=hct rfl n.toNat h2
      rw [←e4] at e5
      refine fin hm e3 hr hp hq rfl rfl rfl ?_
      have:=R.ptr (U:=U) (c:=c) (s:=s') (i:=n.toNat) (off:=0) (by rw [hA _ h2,e5])
      exact this
    ·exact (Z1 ho).elim
   ·cases hc3:Nat.beq i 0 && Nat.ble 2 len with
    |false=>simp [hc3] at ho;exact (Z1 ho).elim
    |true=>
     simp only [hc3,cond_true] at ho
     obtain ⟨hr,rfl⟩:=Zb ho
     simp only [Bool.and_eq_true] at hc3
     have e3:=Nat.le_of_ble_eq_true hc3.2
     refine fin hm e3 hr hp hq rfl rfl rfl ?_
     rw [Nat.add_assoc]
     exact R.ptr hL
  ·exact (Z1 ho).elim
 ·exact (Z1 ho).elim
end Go.Rf
namespace Go.Rf
set_option linter.unusedVariables false
set_option linter.unusedSimpArgs false
variable {U : QV} {P : Program} {c : Cx} {Φ : Nat -> Nat -> Nat -> Prop} {h : Qr U} {nx : Nat} {w : World}
theorem Z5C {j:IntKind}:∀(l:List U.S) (ns:List Int) (vs:List Value),Z3y j l=some ns->RL U c l vs->ns.length=l.length/\∀(i:Nat) (v:Value),vs[i]? =some v->v= .int j (ns.getD i 0)
 | [],ns,vs,h,hr=>by simp [Z3y] at h;subst h;cases hr.Q88;exact ⟨rfl,λi v hv=>by simp at hv⟩
 |x::l,ns,vs,h,hr=>by
  unfold Z3y at h
  split at h
  ·rename_i he;cases he
  ·rename_i k n r he
   cases he
   split at h
   ·rename_i l' hl'
    by_cases hk:k=j
    ·subst hk
     simp at h;subst h
     obtain ⟨v,vs',rfl,h1,h2⟩:=hr.Q44
     obtain ⟨h3,h4⟩:=Z5C _ l' vs' hl' h2
     refine ⟨by simp [h3],λi u hu=>?_⟩
     cases i with
     |zero=>simp at hu;subst hu;exact R.int h1
     |succ i=>simp at hu;simpa using h4 i u hu
    ·simp [hk] at h
   ·cases h
  ·cases h
theorem Z5y:∀(l:List U.S) (ns:List ByteArray) (vs:List Value),Z3D l=some ns->RL U c l vs->ns.length=l.length/\∀(i:Nat) (v:Value),vs[i]? =some v->v= .string (ns.getD i .empty)
 | [],ns,vs,h,hr=>by simp [Z3D] at h;subst h;cases hr.Q88;exact ⟨rfl,λi v hv=>by simp at hv⟩
 |x::l,ns,vs,h,hr=>by
  unfold Z3D at h
  split at h
  ·rename_i he;cases he
  ·rename_i n r he
   cases he
   split at h
   ·rename_i l' hl'
    simp at h;subst h
    obtain ⟨v,vs',rfl,h1,h2⟩:=hr.Q44
    obtain ⟨h3,h4⟩:=Z5y _ l' vs' hl' h2
    refine ⟨by simp [h3],λi u hu=>?_⟩
    cases i with
    |zero=>simp at hu;subst hu;exact R.Q1z h1
    |succ i=>simp at hu;simpa using h4 i u hu
   ·cases h
  ·cases h
theorem Z5f:∀(l:List U.S) (ns:List Bool) (vs:List Value),Z2Z l=some ns->RL U c l vs->ns.length=l.length/\∀(i:Nat) (v:Value),vs[i]? =some v->v= .bool (ns.getD i false)
 | [],ns,vs,h,hr=>by simp [Z2Z] at h;subst h;cases hr.Q88;exact ⟨rfl,λi v hv=>by simp at hv⟩
 |x::l,ns,vs,h,hr=>by
  unfold Z2Z at h
  split at h
  ·rename_i he;cases he
  ·rename_i n r he
   cases he
   split at h
   ·rename_i l' hl'
    simp at h;subst h
    obtain ⟨v,vs',rfl,h1,h2⟩:=hr.Q44
    obtain ⟨h3,h4⟩:=Z5f _ l' vs' hl' h2
    refine ⟨by simp [h3],λi u hu=>?_⟩
    cases i with
    |zero=>simp at hu;subst hu;exact R.Q1z h1
    |succ i=>simp at hu;simpa using h4 i u hu
   ·cases h
  ·cases h
theorem Z7Z {i:Nat} {l:List U.S} {x:U.S} {vs:List Value} {v:Value} (h:Z5t i l=some x) (hr:RL U c l vs) (hv:vs[i]? =some v):R U c x v:=by
 unfold Z5t at h
 split at h
 ·split at h
  ·rename_i ns hns
   cases h
   obtain ⟨_,h2⟩:=Z5C _ ns vs hns hr
   rw [h2 i v hv]
   refine .val ?_
   rw [←h2 i v hv]
   have hlt:=(List.getElem?_eq_some_iff.1 hv).1
   rw [hr.len] at hlt
   obtain ⟨u,h3,h4⟩:=hr.at_ i _ (List.getElem?_eq_getElem hlt)
   rw [hv] at h3;cases h3
   exact h4.ok
  ·cases h
 ·split at h
  ·rename_i ns hns
   cases h
   obtain ⟨_,h2⟩:=Z5y _ ns vs hns hr
   rw [h2 i v hv];exact .val rfl
  ·cases h
 ·split at h
  ·rename_i ns hns
   cases h
   obtain ⟨_,h2⟩:=Z5f _ ns vs hns hr
   rw [h2 i v hv];exact .val rfl
  ·cases h
 ·obtain ⟨u,h3,h4⟩:=hr.at_ i _ h
  rw [hv] at h3;cases h3;exact h4
 ·obtain ⟨u,h3,h4⟩:=hr.at_ i _ h
  rw [hv] at h3;cases h3;exact h4
 ·cases h
theorem Z6x {α β:Type} (m:Nat):∀(f:Nat) (l:List α) (r:List β),l.length=r.length->(every m f l).length=(every m f r).length
 |0,_,_,_=>rfl
 |f+1,[],[],_=>rfl
 |f+1,x::l,y::r,h=>by simp only [every,List.length_cons];rw [Z6x m f (List.drop m (x::l)) (List.drop m (y::r)) (by rw [List.length_drop,List.length_drop,h])]
 |f+1,[],y::r,h=>by simp at h
 |f+1,x::l,[],h=>by simp at h
theorem Z2q {α:Type} (m:Nat):∀(f:Nat) (l:List α) (i:Nat),i < f->(every m f l)[i]? =l[i*m]?
 |0,_,_,h=>by omega
 |f+1,[],i,_=>by simp [every]
 |f+1,x::l,0,_=>by simp [every]
 |f+1,x::l,i+1,h=>by
  rcases Nat.eq_zero_or_pos m with rfl|hm
  ·simp only [every,List.getElem?_cons_succ]
   rw [Z2q 0 f _ i (by omega)]
   simp
  ·simp only [every,List.getElem?_cons_succ]
   rw [Z2q m f _ i (by omega),List.getElem?_drop]
   congr 1
   rw [Nat.succ_mul];omega
theorem RL.every {l:List U.S} {vs:List Value} (m:Nat) (hr:RL U c l vs) (k:Nat):RL U c (Rf.every m l.length (l.drop k)) (Rf.every m l.length (vs.drop k)):=by
 refine ⟨(Z6x m _ _ _ (by simp [hr.len])),λi x hx=>?_⟩
 have hi:i < l.length:=by
  rcases Nat.lt_or_ge i l.length with h'|h'
  ·exact h'
  ·exfalso
   have hle:∀(f:Nat) (r:List U.S),(Rf.every m f r).length<=f:=by
    intro f
    induction f with
    |zero=>intro r;simp [Rf.every]
    |succ f ih=>intro r;cases r with
     |nil=>simp [Rf.every]
     |cons y r=>simp only [Rf.every,List.length_cons];have:=ih (List.drop m (y::r));omega
   have:=(List.getElem?_eq_some_iff.1 hx).1
   have:=hle l.length (l.drop k)
   omega
 rw [Z2q m _ _ i hi,List.getElem?_drop] at hx
 rw [Z2q m _ _ i hi,List.getElem?_drop]
 exact hr.at_ _ x hx
theorem Z4h {i m:Nat} {l:List U.S} {vs:List Value} (hr:RL U c l vs):∀(k:Nat) (r:List U.S),Z2o i m l k=some r->k<=m->i*m+m<=vs.length->RL U c r (QM (i*m) k vs)
 |0,r,h,_,_=>by simp [Z2o] at h;subst h;simp [QM];exact .nil
 |k+1,r,h,hk,hl=>by
  unfold Z2o at h
  split at h
  ·rename_i r' x hr' hx
   cases h
   have ih:=Z4h hr k r' hr' (by omega) hl
   have hlt:i*m+k < vs.length:=by omega
   have h1:QM (i*m) (k+1) vs=QM (i*m) k vs++ [vs[i*m+k]]:=by
    unfold QM
    rw [List.take_add_one,List.getElem?_drop,List.getElem?_eq_getElem hlt]
    rfl
   rw [h1]
   refine ih.append (.cons ?_ .nil)
   refine Z7Z hx (hr.every m k) ?_
   have hi:i < l.length:=by
    rw [←hr.len]
    rcases Nat.eq_zero_or_pos m with rfl|hm
    ·omega
    ·have:i<=i*m:=Nat.le_mul_of_pos_right i hm
     omega
   rw [Z2q m _ _ i hi,List.getElem?_drop,Nat.add_comm k]
   exact List.getElem?_eq_getElem hlt
  ·cases h
theorem bytes_getElem? (s:ByteArray) (i:Nat):s[i]? =s.data.toList[i]? :=by
 obtain ⟨⟨l⟩⟩:=s
 by_cases h:i < l.length
 ·simp only [List.getElem?_eq_getElem h]
  rw [getElem?_pos (h:=by simpa [ByteArray.size] using h)]
  rfl
 ·rw [getElem?_neg (h:=by simpa [ByteArray.size] using h)]
  simp [List.getElem?_eq_none (Nat.le_of_not_lt h)]
theorem Z9x {t:TypeId} {a b:A U} {out:Out U} {p q:Value} (ho:(Z64 P t a b).outs=some out) (ha:RA U c a p) (hb:RA U c b q):
  Q3C U c w P (Instr.index t p q) out:=by
 unfold Z64 at ho
 split at ho
 ·rename_i len e l k n hu
  split at ho
  ·rename_i m g hm hag
   cases hc1:Nat.beq l.length (len*m) && Nat.ble 1 m with
   |false=>simp [hc1] at ho;exact (Z1 ho).elim
   |true=>
    simp only [hc1,cond_true] at ho
    simp only [Bool.and_eq_true] at hc1
    have e1:=QH hc1.1
    split at ho
    ·rename_i cs hcs
     split at ho
     ·rename_i v hv
      obtain ⟨hr,rfl⟩:=Zb ho
      obtain ⟨h0,h1,h2⟩:=ZS hr
      obtain ⟨vs,rfl,hl⟩:=ha
      cases R.int (show R U c _ q from hb)
      have hlen:vs.toList.length=len*m:=hl.len.trans e1
      have hle:n.toNat*m+m<=vs.toList.length:=by
       rw [hlen,←Nat.succ_mul]
       exact Nat.mul_le_mul_right m (by omega)
      have hr2:=Z4h hl m cs hcs (Nat.le_refl m) hle
      have hr3:=Q9D hv hr2
      have hpart:(part e vs (n.toNat*m)).run P w= .ok (if g then .agg (QM (n.toNat*m) m vs.toList).toArray else (QM (n.toNat*m) m vs.toList).headD undef) w:=by
       have:=Z2U (P:=P) (w:=w) (vs:=vs.toList) (off:=n.toNat*m) hag hm (λ_=>by have:=Nat.le_of_ble_eq_true hc1.2;omega)
       rw [show vs.toList.toArray=vs by simp] at this
       rw [this]
       cases g with
       |true=>rfl
       |false=>
        simp only [Z1L,cond_false,Bool.false_eq_true,if_false]
        congr 1
        have hlt:n.toNat*m < vs.toList.length:=by have:=Nat.le_of_ble_eq_true hc1.2;omega
        unfold QM
        rw [List.drop_eq_getElem_cons hlt]
        obtain ⟨m',rfl⟩:∃m',m=m'+1:=⟨m - 1,by have:=Nat.le_of_ble_eq_true hc1.2;omega⟩
        rfl
      refine ⟨_,?_,hr3,rfl,rfl⟩
      simp only [Instr.index,Sem.run_bind,Z16,Result.andThen_ok,run_underlying hu]
      simp [h0,h1,Za hm,hpart]
     ·exact (Z1 ho).elim
    ·exact (Z1 ho).elim
  ·exact (Z1 ho).elim
 ·rename_i s k n hu
  obtain ⟨hr,rfl⟩:=Zb ho
  obtain ⟨h0,h1,h2⟩:=ZS hr
  cases R.int (show R U c _ q from hb)
  cases R.Q1z (show R U c _ p from ha)
  have hlt:n.toNat < s.data.toList.length:=by rw [Array.length_toList];exact h2
  refine ⟨.int .u8 ((s.data.toList.getD n.toNat 0).toNat:Int),?_,.val (Z3T _),rfl,rfl⟩
  simp only [Instr.index,Sem.run_bind,Z16,Result.andThen_ok,run_underlying hu]
  rw [if_pos h0,bytes_getElem?,List.getElem?_eq_getElem hlt]
  simp [List.getD,List.getElem?_eq_getElem hlt]
 ·exact (Z1 ho).elim
end Go.Rf
