/- An evaluator of the model's programs over abstract states, and the proof that the machine does what it says (part 1). No statement about the program. -/
import Derived.AtR
namespace Go.Ev

/-- A map from numbers, by their bits, the lowest first. -/
inductive T (α : Type) where
  | leaf : T α
  | node (l : T α) (v : Option α) (r : T α) : T α

def T.get {α : Type} (t : T α) : Nat → Option α :=
  match t with
  | .leaf => fun _ => none
  | .node l v r => fun n =>
    match n with
    | 0 => v
    | m + 1 => bif Nat.beq (Nat.mod m 2) 0 then T.get l (Nat.div m 2) else T.get r (Nat.div m 2)

/-- 'fuel' steps down at most: more than n is enough. -/
def T.put {α : Type} (x : Option α) : (fuel : Nat) → T α → Nat → T α
  | 0, t, _ => t
  | f + 1, t, n =>
    match t with
    | .leaf =>
      match n with
      | 0 => .node .leaf x .leaf
      | m + 1 => bif Nat.beq (Nat.mod m 2) 0 then .node (T.put x f .leaf (Nat.div m 2)) none .leaf else .node .leaf none (T.put x f .leaf (Nat.div m 2))
    | .node l v r =>
      match n with
      | 0 => .node l x r
      | m + 1 => bif Nat.beq (Nat.mod m 2) 0 then .node (T.put x f l (Nat.div m 2)) v r else .node l v (T.put x f r (Nat.div m 2))

def T.set {α : Type} (t : T α) (n : Nat) (x : Option α) : T α := T.put x (Nat.succ n) t n

def ob {α β : Type} (o : Option α) (f : α → Option β) : Option β :=
  match o with
  | none => none
  | some a => f a
def guard' {β : Type} (b : Bool) (x : Option β) : Option β := bif b then x else none

/-! ### Lists -/
def nth {α : Type} : List α → Nat → Option α
  | [], _ => none
  | x :: l, n => match n with
    | 0 => some x
    | m + 1 => nth l m
def over {α : Type} : List α → List α → Option (List α)
  | l, [] => some l
  | [], _ :: _ => none
  | _ :: l, v :: vs => ob (over l vs) fun r => some (v :: r)
def splice {α : Type} : List α → Nat → List α → Option (List α)
  | l, 0, vs => over l vs
  | [], _ + 1, _ => none
  | x :: l, n + 1, vs => ob (splice l n vs) fun r => some (x :: r)
def takeO {α : Type} : List α → Nat → Option (List α)
  | _, 0 => some []
  | [], _ + 1 => none
  | x :: l, n + 1 => ob (takeO l n) fun r => some (x :: r)
def dropO {α : Type} : List α → Nat → Option (List α)
  | l, 0 => some l
  | [], _ + 1 => none
  | _ :: l, n + 1 => dropO l n
def subO {α : Type} (l : List α) (o n : Nat) : Option (List α) := ob (dropO l o) fun r => takeO r n
def app {α : Type} : List α → List α → List α
  | [], m => m
  | x :: l, m => x :: app l m
def len {α : Type} : List α → Nat
  | [] => 0
  | _ :: l => Nat.succ (len l)
def mapO {α β : Type} (f : α → Option β) : List α → Option (List β)
  | [] => some []
  | x :: l => ob (f x) fun y => ob (mapO f l) fun r => some (y :: r)
def repl {α : Type} : Nat → List α → List α
  | 0, _ => []
  | n + 1, z => app z (repl n z)

/-! ### Values -/
inductive Cap where
  | kn (n : Nat)
  | un (es lo : Nat)      -- whatever there is, lo at least

inductive V where
  | bool (b : Bool)
  | int (k : IntKind) (n : Int)
  | str (s : List Nat)
  | nilptr
  | ptr (b o : Nat)
  | nilslice
  | slice (b o n : Nat) (c : Cap)
  | nilmap
  | map (b : Nat)
  | nilfn
  | fn (f : Nat) (first captured : List V)
  | yield (l : Nat)
  | niliface
  | iface (t : Nat) (v : V)
  | agg (cs : List V)
  | tup (vs : List V)
  | glob (g : Nat)
  | stamp (i : Nat)      -- a map entry's, by the number that it was given here
  | unk                  -- whatever one cell may hold

def V.cells : V → List V
  | .agg cs => cs
  | v => [v]
def V.one : V → Bool
  | .agg _ => false
  | .tup _ => false
  | _ => true
def allOne : List V → Bool
  | [] => true
  | v :: l => bif v.one then allOne l else false

def bytesOf (s : ByteArray) : List Nat := s.data.toList.map UInt8.toNat
def absCell : Value → Option V
  | .bool b => some (.bool b)
  | .int k n => some (.int k n)
  | .string s => some (.str (bytesOf s))
  | .pointer none => some .nilptr
  | .slice none n c => bif Nat.beq n 0 then bif Nat.beq c 0 then some .nilslice else none else none
  | .map none => some .nilmap
  | .nilFunc => some .nilfn
  | .nilIface => some .niliface
  | _ => none
def absVal : Value → Option V
  | .agg cs => ob (mapO absCell cs.toList) fun l => some (.agg l)
  | v => absCell v

/-! ### Types -/
structure FD where
  off : Nat
  size : Nat
  agg : Bool
  ty : Nat
inductive TD where
  | bool | string | uptr | func | iface | tuple | other
  | int (k : IntKind)
  | pointer (e : Nat)
  | slice (e es eb : Nat)
  | array (n e es : Nat) (agg : Bool)
  | map (k e : Nat)
  | struct (fs : List FD) (cmp : Bool)
structure TI where
  d : TD
  size : Nat
  bytes : Nat
  agg : Bool
  comp : Bool
  zero : V

/-! ### Heaps -/
structure Me where
  i : Nat
  k : V
  v : V
inductive O where
  | cells (cs : List V) (el : Nat) (fz : Bool)
  | map (es : List Me)
  | miter (m : Option Nat) (seen : Option Nat) (nx : Nat)
  | siter (s : List Nat) (pos : Nat)
  | loop (st : LoopState) (pend : Option Code) (fn n : Nat) (tm : T V) (ps : List Nat) (asg body : Code) (d : Nat)
  | defd (fresh : Bool)
structure Hp where
  nx : Nat
  os : T O

def Hp.new (h : Hp) (o : O) : Hp := ⟨Nat.succ h.nx, T.set h.os h.nx (some o)⟩
def Hp.get (h : Hp) (b : Nat) : Option O := h.os.get b
def Hp.set (h : Hp) (b : Nat) (o : O) : Hp := ⟨h.nx, T.set h.os b (some o)⟩
def Hp.del (h : Hp) (b : Nat) : Hp := ⟨h.nx, T.set h.os b none⟩
def Hp.cells (h : Hp) (b : Nat) : Option (List V) :=
  match h.get b with
  | some (.cells cs _ _) => some cs
  | _ => none

structure Env where
  ti : Nat → Option TI
  fn : Nat → Option Func
  sm : Nat → List V → Hp → Option (V × Hp)
  gl : Nat → Bool

/-! ### Numbers -/
def kEq : IntKind → IntKind → Bool
  | .i8, .i8 | .i16, .i16 | .i32, .i32 | .i64, .i64 | .u8, .u8 | .u16, .u16 | .u32, .u32 | .u64, .u64 => true
  | _, _ => false
/-- The order of whole numbers, by cases. -/
def leI (x y : Int) : Bool :=
  match x, y with
  | .ofNat a, .ofNat b => Nat.ble a b
  | .ofNat _, .negSucc _ => false
  | .negSucc _, .ofNat _ => true
  | .negSucc a, .negSucc b => Nat.ble b a
def ltI (x y : Int) : Bool := !leI y x
def eqI (x y : Int) : Bool :=
  match x, y with
  | .ofNat a, .ofNat b => Nat.beq a b
  | .negSucc a, .negSucc b => Nat.beq a b
  | _, _ => false
def addI (x y : Int) : Int :=
  match x, y with
  | .ofNat a, .ofNat b => .ofNat (Nat.add a b)
  | x, y => x + y
def bitsK : IntKind → Nat
  | .i8 => 8 | .u8 => 8 | .i16 => 16 | .u16 => 16 | .i32 => 32 | .u32 => 32 | .i64 => 64 | .u64 => 64
/-- The greatest number of a kind. -/
def maxK : IntKind → Nat
  | .i8 => 127 | .u8 => 255 | .i16 => 32767 | .u16 => 65535 | .i32 => 2147483647 | .u32 => 4294967295 | .i64 => 9223372036854775807 | .u64 => 18446744073709551615
def M63 : Nat := 9223372036854775807
def wrapK (k : IntKind) (n : Int) : Int :=
  match n with
  | .ofNat a => bif Nat.ble a (maxK k) then .ofNat a else k.wrap (.ofNat a)
  | .negSucc a => match k with
    | .i64 => bif Nat.ble a M63 then .negSucc a else IntKind.wrap .i64 (.negSucc a)
    | k => k.wrap (.negSucc a)
/-- A bitwise operation: of numbers of the kind, at least 0, it is Nat's own. -/
def bitK (k : IntKind) (x y : Int) (f : Nat → Nat → Nat) (slow : Int) : Int :=
  match x, y with
  | .ofNat a, .ofNat b => bif Nat.ble a (maxK k) then bif Nat.ble b (maxK k) then .ofNat (f a b) else slow else slow
  | _, _ => slow
def arith (op : BinOp) (k : IntKind) (x y : Int) : Option V :=
  match op with
  | .add => some (.int k (wrapK k (addI x y)))
  | .sub => some (.int k (wrapK k (x - y)))
  | .mul => some (.int k (wrapK k (x * y)))
  | .quo => bif eqI y 0 then none else some (.int k (wrapK k (x.tdiv y)))
  | .rem => bif eqI y 0 then none else some (.int k (x.tmod y))
  | .and => some (.int k (bitK k x y Nat.land (k.wrap (BitVec.ofInt k.bits x &&& BitVec.ofInt k.bits y).toNat)))
  | .or => some (.int k (bitK k x y Nat.lor (k.wrap (BitVec.ofInt k.bits x ||| BitVec.ofInt k.bits y).toNat)))
  | .xor => some (.int k (bitK k x y Nat.xor (k.wrap (BitVec.ofInt k.bits x ^^^ BitVec.ofInt k.bits y).toNat)))
  | .andNot => some (.int k (k.wrap (BitVec.ofInt k.bits x &&& ~~~ BitVec.ofInt k.bits y).toNat))
  | .eql => some (.bool (eqI x y))
  | .neq => some (.bool (!eqI x y))
  | .lss => some (.bool (ltI x y))
  | .leq => some (.bool (leI x y))
  | .gtr => some (.bool (ltI y x))
  | .geq => some (.bool (leI y x))
  | _ => none
def minN (a b : Nat) : Nat := bif Nat.ble a b then a else b
def shiftK (op : BinOp) (k : IntKind) (x y : Int) : Option V :=
  match y with
  | .negSucc _ => none
  | .ofNat n =>
    match op with
    | .shl => some (.int k (wrapK k (match x with
      | .ofNat a => .ofNat (Nat.mul a (Nat.pow 2 (minN n (bitsK k))))
      | x => x * 2 ^ (minN n (bitsK k)))))
    | .shr => some (.int k (match x with
      | .ofNat a => .ofNat (Nat.div a (Nat.pow 2 (minN n (bitsK k))))
      | x => x.fdiv (2 ^ (minN n (bitsK k)))))
    | _ => none
def strEq : List Nat → List Nat → Bool
  | [], [] => true
  | a :: x, b :: y => bif Nat.beq a b then strEq x y else false
  | _, _ => false
def strLt : List Nat → List Nat → Bool
  | _, [] => false
  | [], _ :: _ => true
  | a :: x, b :: y => bif Nat.ble (Nat.succ a) b then true else bif Nat.beq a b then strLt x y else false
def strOp (op : BinOp) (x y : List Nat) : Option V :=
  match op with
  | .add => bif Nat.ble (len x + len y) 9223372036854775807 then some (.str (app x y)) else none
  | .eql => some (.bool (strEq x y))
  | .neq => some (.bool (!strEq x y))
  | .lss => some (.bool (strLt x y))
  | .leq => some (.bool (strLt x y || strEq x y))
  | .gtr => some (.bool (!(strLt x y || strEq x y)))
  | .geq => some (.bool (!strLt x y))
  | _ => none

/-- Are two values of one cell the same? -/
def eqCell : V → V → Option Bool
  | .bool a, .bool b => some (!(xor a b))
  | .int j a, .int k b => bif kEq j k then some (eqI a b) else none
  | .str a, .str b => some (strEq a b)
  | .nilptr, .nilptr => some true
  | .nilptr, .ptr _ _ => some false
  | .ptr _ _, .nilptr => some false
  | .nilslice, .nilslice => some true
  | .nilslice, .slice .. => some false
  | .slice .., .nilslice => some false
  | .nilmap, .nilmap => some true
  | .nilmap, .map _ => some false
  | .map _, .nilmap => some false
  | .nilfn, .nilfn => some true
  | .nilfn, .fn .. => some false
  | .fn .., .nilfn => some false
  | .niliface, .niliface => some true
  | .niliface, .iface .. => some false
  | .iface .., .niliface => some false
  | _, _ => none

/-! ### Operands -/
def evo (tm : T V) : Operand → Option V
  | .tmp t => tm.get t
  | .const v => absVal v
  | .global g => some (.glob g)
  | .func f => some (.fn f [] [])
def isConstO : Operand → Bool
  | .const _ => true
  | _ => false

/-! ### Memory -/
def part (agg : Bool) (size : Nat) (cs : List V) (off : Nat) : Option V :=
  bif agg then ob (subO cs off size) fun l => some (.agg l) else nth cs off
def loadAt (E : Env) (ti : TI) (v : V) (h : Hp) : Option V :=
  match v with
  | .ptr b o => ob (h.cells b) fun cs => part ti.agg ti.size cs o
  | .glob g => bif ti.agg then none else bif E.gl g then some .unk else none
  | _ => none
def storeCells (h : Hp) (b o : Nat) (vs : List V) : Option Hp :=
  match h.get b with
  | some (.cells cs el fz) => bif fz then none else bif allOne vs then ob (splice cs o vs) fun cs' => some (h.set b (.cells cs' el fz)) else none
  | _ => none
def storeAt (ti : TI) (v x : V) (h : Hp) : Option Hp :=
  match v with
  | .ptr b o => bif Nat.beq (len x.cells) ti.size then storeCells h b o x.cells else none
  | _ => none
def fill (place : Nat → Option (Nat × Nat)) : List V → List (Nat × V) → Option (List V)
  | cs, [] => some cs
  | cs, (i, v) :: rest =>
    ob (place i) fun p => bif Nat.beq (len v.cells) p.2 then ob (splice cs p.1 v.cells) fun cs' => fill place cs' rest else none
def fieldPlaceOf (fs : List FD) (i : Nat) : Option (Nat × Nat) := ob (nth fs i) fun f => some (f.off, f.size)
def parts (tm : T V) : List (Nat × Operand) → Option (List (Nat × V))
  | [] => some []
  | (i, x) :: l => ob (evo tm x) fun v => ob (parts tm l) fun r => some ((i, v) :: r)
def buildV (ti : TI) (ps : List (Nat × V)) : Option V :=
  match ti.d with
  | .struct fs _ => ob (fill (fieldPlaceOf fs) ti.zero.cells ps) fun cs => some (.agg cs)
  | .array _ _ es _ => ob (fill (fun i => some (i * es, es)) ti.zero.cells ps) fun cs => some (.agg cs)
  | _ => none
def natOf (v : V) : Option Nat :=
  match v with
  | .int _ (.ofNat n) => some n
  | _ => none
def bound (tm : T V) (x : Option Operand) (dflt : Nat) : Option Nat :=
  match x with
  | none => some dflt
  | some x => ob (evo tm x) natOf
def cut3 (b o es : Nat) (m h l : Nat) : V := .slice b (bif Nat.beq m l then o else o + l * es) (h - l) (.kn (m - l))
def sliceV (ti : TI) (x : V) (lo hi mx : Option Operand) (tm : T V) : Option V :=
  ob (bound tm lo 0) fun l =>
  match mx with
  | none =>
    (match ti.d, x with
    | .string, .str s => ob (bound tm hi (len s)) fun h =>
        bif Nat.ble h (len s) then bif Nat.ble l h then ob (subO s l (h - l)) fun r => some (.str r) else none else none
    | .slice _ _ _, .nilslice => ob (bound tm hi 0) fun h =>
        bif Nat.beq h 0 then bif Nat.beq l 0 then some .nilslice else none else none
    | .slice _ es _, .slice b o n (.kn c) => ob (bound tm hi n) fun h =>
        bif Nat.ble h c then bif Nat.ble l h then some (cut3 b o es c h l) else none else none
    | .slice _ es _, .slice b o n (.un e2 lo) => bif Nat.beq es e2 then ob (bound tm hi n) fun h =>
        bif Nat.ble h lo then bif Nat.ble l h then some (.slice b (o + l * es) (h - l) (.un e2 (lo - l))) else none else none else none
    | .array n _ es _, .ptr b o => ob (bound tm hi n) fun h =>
        bif Nat.ble h n then bif Nat.ble l h then some (cut3 b o es n h l) else none else none
    | _, _ => none)
  | some mo =>
    match hi with
    | none => none
    | some ho => ob (ob (evo tm mo) natOf) fun m => ob (ob (evo tm ho) natOf) fun h =>
      bif Nat.ble h m then bif Nat.ble l h then
        (match ti.d, x with
        | .slice _ _ _, .nilslice => bif Nat.beq m 0 then some .nilslice else none
        | .slice _ es _, .slice b o _ (.kn c) => bif Nat.ble m c then some (cut3 b o es m h l) else none
        | .slice _ es _, .slice b o _ (.un _ lo) => bif Nat.ble m lo then some (cut3 b o es m h l) else none
        | .array n _ es _, .ptr b o => bif Nat.ble m n then some (cut3 b o es m h l) else none
        | _, _ => none)
      else none else none
def indexAddrV (ti : TI) (x ix : V) : Option V :=
  ob (natOf ix) fun i =>
  match ti.d, x with
  | .array n _ es _, .ptr b o => bif Nat.ble (Nat.succ i) n then some (.ptr b (o + i * es)) else none
  | .slice _ es _, .slice b o n _ => bif Nat.ble (Nat.succ i) n then some (.ptr b (o + i * es)) else none
  | _, _ => none
def indexV (ti : TI) (x ix : V) : Option V :=
  ob (natOf ix) fun i =>
  match ti.d, x with
  | .array n _ es agg, .agg cs => bif Nat.ble (Nat.succ i) n then part agg es cs (i * es) else none
  | .string, .str s => ob (nth s i) fun c => some (.int .u8 (.ofNat c))
  | _, _ => none

/-! ### Maps: keys are whole numbers, strings, bools -/
def keyOk (d : TD) (k : V) : Bool :=
  match d, k with
  | .int _, .int .. => true
  | .string, .str _ => true
  | .bool, .bool _ => true
  | _, _ => false
def findV (k : V) : List Me → Option (Option Me)
  | [] => some none
  | e :: es => ob (eqCell k e.k) fun q => bif q then some (some e) else findV k es
/-- With the entry's value set, or a new entry (number i) behind the others. -/
def updV (i : Nat) (k v : V) : List Me → Option (List Me)
  | [] => some [⟨i, k, v⟩]
  | e :: es => ob (eqCell k e.k) fun q => bif q then some (⟨e.i, k, v⟩ :: es) else ob (updV i k v es) fun r => some (e :: r)
def delV (k : V) : List Me → Option (List Me)
  | [] => some []
  | e :: es => ob (eqCell k e.k) fun q => bif q then some es else ob (delV k es) fun r => some (e :: r)
def setV (i : Nat) (v : V) : List Me → Option (List Me)
  | [] => none
  | e :: es => bif Nat.beq e.i i then some (⟨e.i, e.k, v⟩ :: es) else ob (setV i v es) fun r => some (e :: r)
def Hp.bump (h : Hp) : Hp := ⟨Nat.succ h.nx, h.os⟩
def lookupV (kd : TD) (zero : V) (m k : V) (ok : Bool) (h : Hp) : Option V :=
  bif keyOk kd k then
    ob (match m with
      | .nilmap => some none
      | .map b => (match h.get b with
        | some (.map es) => findV k es
        | _ => none)
      | _ => none) fun r =>
    match r with
    | some e => some (bif ok then .tup [e.v, .bool true] else e.v)
    | none => some (bif ok then .tup [zero, .bool false] else zero)
  else none
def updateM (kd : TD) (m k v : V) (h : Hp) : Option Hp :=
  bif keyOk kd k then
    match m with
    | .map b => (match h.get b with
      | some (.map es) => ob (updV h.nx k v es) fun es' => some (h.bump.set b (.map es'))
      | _ => none)
    | _ => none
  else none
/-- The entry of a key, which is made if there is none: what it holds, and its number. -/
def entryM (kd : TD) (zero m k : V) (h : Hp) : Option (V × Hp) :=
  bif keyOk kd k then
    match m with
    | .map b => (match h.get b with
      | some (.map es) => ob (findV k es) fun r => (match r with
        | some e => some (.tup [e.v, .stamp e.i], h)
        | none => ob (updV h.nx k zero es) fun es' => some (.tup [zero, .stamp h.nx], h.bump.set b (.map es')))
      | _ => none)
    | _ => none
  else none
def entryStoreM (m s v : V) (h : Hp) : Option Hp :=
  match m, s with
  | .map b, .stamp i => (match h.get b with
    | some (.map es) => ob (setV i v es) fun es' => some (h.set b (.map es'))
    | _ => none)
  | _, _ => none

/-! ### Built-ins -/
def bytesV : List Nat → List V
  | [] => []
  | c :: s => .int .u8 (.ofNat c) :: bytesV s
def strOfBytes : List V → Option (List Nat)
  | [] => some []
  | .int .u8 (.ofNat c) :: l => bif Nat.ble c 255 then ob (strOfBytes l) fun r => some (c :: r) else none
  | _ => none
def firstCells (es n : Nat) (x : V) (h : Hp) : Option (List V) :=
  match x with
  | .nilslice => some []
  | .slice b o _ _ => ob (h.cells b) fun cs => subO cs o (n * es)
  | .str s => bif Nat.beq es 1 then ob (takeO s n) fun r => some (bytesV r) else none
  | _ => none
def lenV : V → Option Nat
  | .nilslice => some 0
  | .slice _ _ n _ => some n
  | .str s => some (len s)
  | _ => none
/-- What append takes: so many elements, of so many bytes each, at most. -/
def fitsA (n eb : Nat) : Bool := bif Nat.ble n 67108864 then Nat.ble eb 65536 else false
/-- s, with the first cells of x behind it: in place where there is room for certain; else in a new block, and the old one, if there may have been room in it, is gone. -/
def appendV (el es eb : Nat) (s x : V) (h : Hp) : Option (V × Hp) :=
  ob (lenV x) fun n =>
  match s with
  | .nilslice =>
    bif Nat.beq n 0 then some (.nilslice, h) else
    ob (firstCells es n x h) fun new => bif fitsA n eb then bif allOne new then some (.slice h.nx 0 n (.un es n), h.new (.cells new el false)) else none else none
  | .slice b o sn (.kn c) =>
    bif Nat.ble (sn + n) c then
      ob (firstCells es n x h) fun new => ob (storeCells h b (o + sn * es) new) fun h' => some (.slice b o (sn + n) (.kn c), h')
    else
      ob (firstCells es n x h) fun new => ob (firstCells es sn s h) fun old => bif fitsA (sn + n) eb then bif allOne new then
        some (.slice h.nx 0 (sn + n) (.un es (sn + n)), h.new (.cells (app old new) el false)) else none else none
  | .slice b o sn (.un e2 lo) =>
    bif Nat.ble (sn + n) lo then
      ob (firstCells es n x h) fun new => ob (storeCells h b (o + sn * es) new) fun h' => some (.slice b o (sn + n) (.un e2 lo), h')
    else
    bif Nat.beq e2 es then
      match h.get b with
      | some (.cells _ e3 false) =>
        bif Nat.beq e3 el then ob (firstCells es n x h) fun new => ob (firstCells es sn s h) fun old => bif fitsA (sn + n) eb then bif allOne new then
          some (.slice h.nx 0 (sn + n) (.un es (sn + n)), (h.del b).new (.cells (app old new) el false)) else none else none else none
      | _ => none
    else none
  | _ => none
def copyV (es : Nat) (d x : V) (h : Hp) : Option (V × Hp) :=
  ob (lenV x) fun n => ob (lenV d) fun m =>
  let k := bif Nat.ble n m then n else m
  ob (firstCells es k x h) fun cs =>
  match d with
  | .nilslice => some (.int .i64 (.ofNat k), h)
  | .slice b o _ _ => ob (storeCells h b o cs) fun h' => some (.int .i64 (.ofNat k), h')
  | _ => none
def minmax (mx : Bool) (x y : V) : Option V :=
  match x, y with
  | .int k a, .int _ b => some (.int k (bif mx then (bif ltI a b then b else a) else (bif ltI b a then b else a)))
  | _, _ => none
def foldMM (mx : Bool) : V → List V → Option V
  | x, [] => some x
  | x, y :: l => ob (minmax mx x y) fun z => foldMM mx z l
def tiOf (E : Env) (ts : List Nat) (i : Nat) : Option TI := ob (nth ts i) E.ti
def builtinV (E : Env) (b : Builtin) (ts : List Nat) (args : List V) (h : Hp) : Option (V × Hp) :=
  match b, args with
  | .len, [x] => ob (tiOf E ts 0) fun ti =>
    match ti.d, x with
    | .string, .str s => some (.int .i64 (.ofNat (len s)), h)
    | .slice _ _ _, .nilslice => some (.int .i64 (.ofNat 0), h)
    | .slice _ _ _, .slice _ _ n _ => some (.int .i64 (.ofNat n), h)
    | .map _ _, .nilmap => some (.int .i64 (.ofNat 0), h)
    | .map _ _, .map b => (match h.get b with
      | some (.map es) => some (.int .i64 (.ofNat (len es)), h)
      | _ => none)
    | _, _ => none
  | .cap, [x] => ob (tiOf E ts 0) fun ti =>
    match ti.d, x with
    | .slice _ _ _, .nilslice => some (.int .i64 (.ofNat 0), h)
    | .slice _ _ _, .slice _ _ _ (.kn c) => some (.int .i64 (.ofNat c), h)
    | _, _ => none
  | .append, [s, x] => ob (tiOf E ts 0) fun ti => ob (tiOf E ts 1) fun t1 => (match ti.d, t1.d with
    | .slice el es eb, .slice _ _ _ => ob (E.ti el) fun ei => bif Nat.beq (len ei.zero.cells) es then appendV el es eb s x h else none
    | .slice el es eb, .string => ob (E.ti el) fun ei => bif Nat.beq (len ei.zero.cells) es then appendV el es eb s x h else none
    | _, _ => none)
  | .copy, [d, x] => ob (tiOf E ts 0) fun ti => (match ti.d with
    | .slice _ es _ => copyV es d x h
    | _ => none)
  | .max, x :: l => ob (foldMM true x l) fun v => some (v, h)
  | .min, x :: l => ob (foldMM false x l) fun v => some (v, h)
  | .delete, [m, k] => ob (tiOf E ts 0) fun ti => (match ti.d with
    | .map kt _ => ob (E.ti kt) fun ki =>
      bif keyOk ki.d k then
        (match m with
        | .nilmap => some (.tup [], h)
        | .map b => (match h.get b with
          | some (.map es) => ob (delV k es) fun es' => some (.tup [], h.set b (.map es'))
          | _ => none)
        | _ => none)
      else none
    | _ => none)
  | .unsafeSliceData, [x] =>
    match x with
    | .nilslice => some (.nilptr, h)
    | .slice b o _ (.kn c) => bif Nat.beq c 0 then none else some (.ptr b o, h)
    | .slice b o n (.un _ _) => bif Nat.beq n 0 then none else some (.ptr b o, h)
    | _ => none
  | .unsafeString, [p, n] => ob (tiOf E ts 0) fun ti => ob (natOf n) fun n =>
    match p with
    | .nilptr => bif Nat.beq n 0 then some (.str [], h) else none
    | .ptr b o => bif Nat.beq n 0 then some (.str [], h) else bif Nat.ble n 9223372036854775807 then (match ti.d, h.get b with
      | .pointer u, some (.cells cs el _) => ob (E.ti el) fun ei => bif Nat.beq el u then bif Nat.beq ei.size 1 then ob (subO cs o n) fun l => ob (strOfBytes l) fun s => some (.str s, h.set b (.cells cs el true)) else none else none
      | _, _ => none) else none
    | _ => none
  | .clear, [x] => ob (tiOf E ts 0) fun ti => (match ti.d, x with
    | .slice el es _, .slice b o n _ => ob (E.ti el) fun ei => ob (storeCells h b o (repl n ei.zero.cells)) fun h' => bif Nat.beq (len ei.zero.cells) es then some (.tup [], h') else none
    | .slice _ _ _, .nilslice => some (.tup [], h)
    | _, _ => none)
  | _, _ => none
end Go.Ev
namespace Go.Ev

def eqFs (eq : Nat → V → V → Option Bool) : List FD → List V → List V → Option Bool
  | [], _, _ => some true
  | d :: fs, xs, ys => ob (part d.agg d.size xs d.off) fun x => ob (part d.agg d.size ys d.off) fun y => ob (eq d.ty x y) fun q => bif q then eqFs eq fs xs ys else some false
/-- Are two values of a type the same? -/
def eqV (E : Env) : (fuel : Nat) → Nat → V → V → Option Bool
  | 0, _, _, _ => none
  | f + 1, t, x, y =>
    ob (E.ti t) fun ti =>
    match ti.d, x, y with
    | .struct fs true, .agg xs, .agg ys => eqFs (eqV E f) fs xs ys
    | .pointer e, .ptr b o, .ptr c p => ob (E.ti e) fun ei => bif Nat.beq ei.size 0 then none else bif Nat.beq b c then some (Nat.beq o p) else none
    | .iface, .iface u a, .iface w b => bif Nat.beq u w then ob (E.ti u) fun i => bif i.comp then eqV E f u a b else none else some false
    | .bool, .bool _, .bool _ => eqCell x y
    | .int _, .int .., .int .. => eqCell x y
    | .string, .str _, .str _ => eqCell x y
    | .pointer _, .nilptr, _ => eqCell x y
    | .pointer _, _, .nilptr => eqCell x y
    | .slice .., .nilslice, _ => eqCell x y
    | .slice .., _, .nilslice => eqCell x y
    | .map .., .nilmap, _ => eqCell x y
    | .map .., _, .nilmap => eqCell x y
    | .func, .nilfn, _ => eqCell x y
    | .func, _, .nilfn => eqCell x y
    | .iface, .niliface, _ => eqCell x y
    | .iface, _, .niliface => eqCell x y
    | _, _, _ => none

/-- '==' : both operands literally nil interfaces need a literal on one side. -/
def eqO (E : Env) (t : Nat) (cx cy : Bool) (x y : V) : Option Bool :=
  match x, y with
  | .niliface, .niliface => bif cx || cy then eqV E 8 t x y else none
  | _, _ => eqV E 8 t x y

def binV (E : Env) (op : BinOp) (t : Nat) (cx cy : Bool) (x y : V) : Option V :=
  match op, x, y with
  | .shl, .int k a, .int _ b => shiftK .shl k a b
  | .shr, .int k a, .int _ b => shiftK .shr k a b
  | op, .int k a, .int j b => bif kEq k j then arith op k a b else none
  | op, .str a, .str b => strOp op a b
  | .eql, .stamp i, .stamp j => bif Nat.beq i j then some (.bool true) else none
  | .eql, x, y => ob (eqO E t cx cy x y) fun q => some (.bool q)
  | .neq, x, y => ob (eqO E t cx cy x y) fun q => some (.bool (!q))
  | _, _, _ => none
def unV (op : UnOp) (x : V) : Option V :=
  match op, x with
  | .neg, .int k n => some (.int k (wrapK k (Int.neg n)))
  | .xor, .int k n => arith .xor k (if k.signed then -1 else k.max) n
  | .not, .bool b => some (.bool (!b))
  | _, _ => none
def evos (tm : T V) (l : List Operand) : Option (List V) := mapO (evo tm) l
def nilOk (v : V) : Option V :=
  match v with
  | .nilptr => none
  | .niliface => none
  | .nilfn => none
  | .unk => none
  | v => some v
def fieldAddrV (ti : TI) (x : V) (i : Nat) : Option V :=
  match ti.d, x with
  | .struct fs _, .ptr b o => ob (nth fs i) fun f => bif Nat.beq f.size 0 then none else some (.ptr b (o + f.off))
  | _, _ => none
def fieldV (ti : TI) (x : V) (i : Nat) : Option V :=
  match ti.d, x with
  | .struct fs _, .agg cs => ob (nth fs i) fun f => part f.agg f.size cs f.off
  | _, _ => none
/-- A conversion between numbers, or of a string to itself. -/
def convP (E : Env) (dst : Nat) (x : V) : Option V :=
  ob (E.ti dst) fun ti =>
  match ti.d, x with
  | .int k, .int _ n => some (.int k (wrapK k n))
  | .string, .str s => some (.str s)
  | _, _ => none
def isU8 (E : Env) (t : Nat) : Bool :=
  match E.ti t with
  | some ti => (match ti.d with
    | .int .u8 => true
    | _ => false)
  | none => false

/-- What becomes of an operation. -/
inductive Cl where
  | p | l | a | i | e

/-- Built-ins that read alone. -/
def readB (b : Builtin) : Bool :=
  match b with
  | .len => true | .cap => true | .max => true | .min => true
  | _ => false
/-- Of which class is it? p: it hangs on its operands alone; l: it reads; a: it makes one block out of its operands; i: it lays an entry into a map literal; e: all else. -/
def clOf (E : Env) (op : Op) : Cl :=
  match op with
  | .move _ => .p | .assign _ => .p | .pick .. => .p | .nilCheck _ => .p | .binOp .. => .p | .unOp .. => .p | .makeInterface .. => .p
  | .makeFunc .. => .p | .slice .. => .p | .fieldAddr .. => .p | .field .. => .p | .indexAddr .. => .p | .index .. => .p | .extract .. => .p | .build .. => .p
  | .convert s d _ =>
    match E.ti d with
    | some ti => (match ti.d with
      | .slice .. => .a
      | .uptr => .l
      | .pointer _ => .l
      | .string => (match E.ti s with
        | some si => (match si.d with
          | .slice .. => .l
          | _ => .p)
        | none => .p)
      | _ => .p)
    | none => .p
  | .alloc _ => .a | .box .. => .a | .buildSlice .. => .a | .makeMap .. => .a | .makeSlice .. => .a
  | .load .. => .l | .lookup .. => .l | .insert .. => .i
  | .call c =>
    match c.callee with
    | .builtin b => bif readB b then .l else .e
    | _ => .e
  | _ => .e

def execP (E : Env) (tm : T V) (op : Op) : Option V :=
  match op with
  | .move x => evo tm x
  | .assign x => evo tm x
  | .pick c a b => ob (evo tm c) fun q => (match q with
    | .bool true => evo tm a
    | .bool false => evo tm b
    | _ => none)
  | .nilCheck x => ob (evo tm x) nilOk
  | .binOp op t x y _ => ob (evo tm x) fun a => ob (evo tm y) fun b => binV E op t (isConstO x) (isConstO y) a b
  | .unOp op _ x => ob (evo tm x) (unV op)
  | .makeInterface t x => ob (E.ti t) fun ti => (match ti.d with
    | .iface => none
    | _ => ob (evo tm x) fun v => some (.iface t v))
  | .makeFunc (.func f) first cap => ob (evos tm first.toList) fun a => ob (evos tm cap.toList) fun b => some (.fn f a b)
  | .slice t x lo hi mx => ob (E.ti t) fun ti => ob (evo tm x) fun v => sliceV ti v lo hi mx tm
  | .fieldAddr t x i => ob (E.ti t) fun ti => ob (evo tm x) fun v => fieldAddrV ti v i
  | .field t x i => ob (E.ti t) fun ti => ob (evo tm x) fun v => fieldV ti v i
  | .indexAddr t x i => ob (E.ti t) fun ti => ob (evo tm x) fun v => ob (evo tm i) fun j => indexAddrV ti v j
  | .index t x i => ob (E.ti t) fun ti => ob (evo tm x) fun v => ob (evo tm i) fun j => indexV ti v j
  | .extract x i => ob (evo tm x) fun v => (match v with
    | .tup vs => nth vs i
    | _ => none)
  | .build t ps => ob (E.ti t) fun ti => ob (parts tm ps.toList) fun qs => buildV ti qs
  | .convert s d x => ob (E.ti s) fun _ => ob (evo tm x) fun v => convP E d v
  | _ => none

def toUptrV (ei : TI) (h : Hp) (v : V) : Option V :=
  match v with
  | .nilptr => some .nilptr
  | .ptr b o => bif Nat.beq ei.size 0 then none else ob (h.cells b) fun cs => bif Nat.ble (Nat.succ o) (len cs) then some (.ptr b o) else none
  | _ => none
def ofUptrV (u : Nat) (ei : TI) (h : Hp) (v : V) : Option V :=
  match v with
  | .nilptr => some .nilptr
  | .ptr b o => (match h.get b with
    | some (.cells cs el _) => bif Nat.beq ei.size 0 then none else bif Nat.beq el u then bif Nat.beq o 0 then bif Nat.ble ei.size (len cs) then some (.ptr b o) else none else none else none
    | _ => none)
  | _ => none
def toStrV (h : Hp) (v : V) : Option V :=
  match v with
  | .nilslice => some (.str [])
  | .slice b o n _ => ob (h.cells b) fun cs => ob (subO cs o n) fun l => ob (strOfBytes l) fun s => some (.str s)
  | _ => none
def execL (E : Env) (tm : T V) (op : Op) (h : Hp) : Option V :=
  match op with
  | .load t a => ob (E.ti t) fun ti => ob (evo tm a) fun v => loadAt E ti v h
  | .lookup t m k ok => ob (E.ti t) fun ti => (match ti.d with
    | .map kt e => ob (E.ti kt) fun ki => ob (E.ti e) fun ei => ob (evo tm m) fun mv => ob (evo tm k) fun kv => lookupV ki.d ei.zero mv kv ok h
    | _ => none)
  | .convert s d x => ob (E.ti s) fun si => ob (E.ti d) fun di => (match si.d, di.d with
    | .pointer t, .uptr => ob (E.ti t) fun ei => ob (evo tm x) (toUptrV ei h)
    | .uptr, .pointer u => ob (E.ti u) fun ei => ob (evo tm x) (ofUptrV u ei h)
    | .slice e _ _, .string => bif isU8 E e then ob (evo tm x) (toStrV h) else none
    | _, _ => none)
  | .call c =>
    match c.callee with
    | .builtin b => bif readB b then ob (evos tm c.args.toList) fun args => ob (builtinV E b c.argTypes.toList args h) fun r => some r.1 else none
    | _ => none
  | _ => none

/-- The block that an operation makes, and what it answers when that block has the number b. -/
def execA (E : Env) (tm : T V) (op : Op) (b : Nat) : Option (V × O) :=
  match op with
  | .alloc t => ob (E.ti t) fun ti => some (.ptr b 0, .cells ti.zero.cells t false)
  | .box t x => ob (evo tm x) fun v => bif allOne v.cells then some (.ptr b 0, .cells v.cells t false) else none
  | .buildSlice t n ps => ob (E.ti t) fun ti => (match ti.d with
    | .slice e es _ => ob (E.ti e) fun ei => bif Nat.ble (n * es) 16777216 then bif Nat.beq (len ei.zero.cells) es then
        ob (parts tm ps.toList) fun qs => ob (fill (fun i => some (i * es, es)) (repl n ei.zero.cells) qs) fun cs => some (.slice b 0 n (.kn n), .cells cs e false) else none else none
    | _ => none)
  | .makeMap t r =>
    match r with
    | none => some (.map b, .map [])
    | some x => ob (E.ti t) fun ti => (match ti.d with
      | .map _ _ => ob (ob (evo tm x) natOf) fun _ => some (.map b, .map [])
      | _ => none)
  | .makeSlice t l c => ob (E.ti t) fun ti => (match ti.d with
    | .slice e es _ => ob (E.ti e) fun ei => ob (ob (evo tm l) natOf) fun ln => ob (ob (evo tm c) natOf) fun cn =>
      bif Nat.ble ln cn then bif Nat.ble cn 16777216 then bif Nat.ble ei.bytes 65536 then bif Nat.beq (len ei.zero.cells) es then
        some (.slice b 0 ln (.kn cn), .cells (repl cn ei.zero.cells) e false) else none else none else none else none
    | _ => none)
  | .convert s d x => ob (E.ti s) fun _ => ob (E.ti d) fun ti => (match ti.d with
    | .slice e _ _ => bif isU8 E e then ob (evo tm x) fun v => (match v with
      | .str s => bif Nat.ble (len s) 67108864 then some (.slice b 0 (len s) (.un 1 (len s)), .cells (bytesV s) e false) else none
      | _ => none) else none
    | _ => none)
  | _ => none

/-- Callee and arguments of a call. -/
inductive Tgt where
  | fn (f : Nat) (args : List V)
  | yield (l : Nat) (args : List V)
def tgtOf (fv : V) (args : List V) : Option Tgt :=
  match fv with
  | .fn f first cap => some (.fn f (app first (app args cap)))
  | .yield l => some (.yield l args)
  | _ => none
def callOf (tm : T V) (c : Go.Call) : Option Tgt :=
  match c.callee with
  | .value f => ob (evo tm f) fun fv => ob (evos tm c.args.toList) fun args => tgtOf fv args
  | _ => none
/-- The row of a map type's keys. -/
def keyTi (E : Env) (t : Nat) : Option TI := ob (E.ti t) fun ti => (match ti.d with
  | .map k _ => E.ti k
  | _ => none)
def rangeV (ti : TI) (v : V) (h : Hp) : Option (V × Hp) :=
  match ti.d, v with
  | .string, .str s => some (.ptr h.nx 0, h.new (.siter s 0))
  | .map _ _, .nilmap => some (.ptr h.nx 0, h.new (.miter none none (Nat.succ h.nx)))
  | .map _ _, .map b => (match h.get b with
    | some (.map _) => some (.ptr h.nx 0, h.new (.miter (some b) none (Nat.succ h.nx)))
    | _ => none)
  | _, _ => none
def nextSV (v : V) (h : Hp) : Option (V × Hp) :=
  match v with
  | .ptr b 0 => (match h.get b with
    | some (.siter s pos) => (match nth s pos with
      | none => bif Nat.ble (len s) pos then some (.tup [.bool false], h) else none
      | some c => bif Nat.ble c 127 then some (.tup [.bool true, .int .i64 (.ofNat pos), .int .i32 (.ofNat c)], h.set b (.siter s (Nat.succ pos))) else none)
    | _ => none)
  | _ => none
def nextMV (v : V) (h : Hp) : Option (V × Hp) :=
  match v with
  | .ptr b 0 => (match h.get b with
    | some (.miter none _ _) => some (.tup [.bool false], h)
    | some (.miter (some m) none nx) => (match h.get m with
      | some (.map []) => bif Nat.beq nx h.nx then some (.tup [.bool false], h) else none
      | some (.map [e]) => bif Nat.beq nx h.nx then some (.tup [.bool true, e.k, e.v], h.set b (.miter (some m) (some e.i) h.nx)) else none
      | _ => none)
    | some (.miter (some m) (some i) _) => (match h.get m with
      | some (.map []) => some (.tup [.bool false], h)
      | some (.map [e]) => bif Nat.beq e.i i then some (.tup [.bool false], h) else none
      | _ => none)
    | _ => none)
  | _ => none
def entryV (v : V) (h : Hp) : Option (V × Hp) :=
  match v with
  | .ptr b 0 => (match h.get b with
    | some (.miter (some m) (some i) nx) => (match h.get m with
      | some (.map [e]) => bif Nat.beq nx h.nx then bif Nat.beq e.i i then some (.tup [e.k, e.v], h) else none else none
      | _ => none)
    | _ => none)
  | _ => none
/-- An operation of the class e that is no call of a function. -/
def execE (E : Env) (tm : T V) (op : Op) (h : Hp) : Option (V × Hp) :=
  match op with
  | .store t a x => ob (E.ti t) fun ti => ob (evo tm a) fun av => ob (evo tm x) fun xv => ob (storeAt ti av xv h) fun h' => some (.tup [], h')
  | .mapUpdate t m k x => ob (keyTi E t) fun ki => ob (evo tm m) fun mv => ob (evo tm k) fun kv => ob (evo tm x) fun xv => ob (updateM ki.d mv kv xv h) fun h' => some (.tup [], h')
  | .insert t m k x => ob (keyTi E t) fun ki => ob (evo tm m) fun mv => ob (evo tm k) fun kv => ob (evo tm x) fun xv => ob (updateM ki.d mv kv xv h) fun h' => some (.tup [], h')
  | .mapEntry t m k => ob (E.ti t) fun ti => (match ti.d with
    | .map kt e => ob (E.ti kt) fun ki => ob (E.ti e) fun ei => ob (evo tm m) fun mv => ob (evo tm k) fun kv => entryM ki.d ei.zero mv kv h
    | _ => none)
  | .entryStore _ m s x => ob (evo tm m) fun mv => ob (evo tm s) fun sv => ob (evo tm x) fun xv => ob (entryStoreM mv sv xv h) fun h' => some (.tup [], h')
  | .call c =>
    match c.callee with
    | .builtin b => bif readB b then none else ob (evos tm c.args.toList) fun args => builtinV E b c.argTypes.toList args h
    | _ => none
  | .range t x => ob (E.ti t) fun ti => ob (evo tm x) fun v => rangeV ti v h
  | .next it true => ob (evo tm it) fun v => nextSV v h
  | .next it false => ob (evo tm it) fun v => nextMV v h
  | .entry it => ob (evo tm it) fun v => entryV v h
  | _ => none

def putT (n : Nat) (tm : T V) (d : Option Nat) (v : V) : Option (T V) :=
  match d with
  | none => some tm
  | some d => bif Nat.ble (Nat.succ d) n then some (T.set tm d (some v)) else none
def undefV : V := .tup []

/-! ### Are two values the same text? -/
def capEq : Cap → Cap → Bool
  | .kn a, .kn b => Nat.beq a b
  | .un a b, .un c d => Nat.beq a c && Nat.beq b d
  | _, _ => false
mutual
def veq : V → V → Bool
  | .bool a, .bool b => !(xor a b)
  | .int j a, .int k b => kEq j k && eqI a b
  | .str a, .str b => strEq a b
  | .nilptr, .nilptr => true
  | .ptr a b, .ptr c d => Nat.beq a c && Nat.beq b d
  | .nilslice, .nilslice => true
  | .slice a b c d, .slice e f g h => Nat.beq a e && Nat.beq b f && Nat.beq c g && capEq d h
  | .nilmap, .nilmap => true
  | .map a, .map b => Nat.beq a b
  | .nilfn, .nilfn => true
  | .fn f a b, .fn g c d => Nat.beq f g && veqs a c && veqs b d
  | .yield a, .yield b => Nat.beq a b
  | .niliface, .niliface => true
  | .iface t v, .iface u w => Nat.beq t u && veq v w
  | .agg a, .agg b => veqs a b
  | .tup a, .tup b => veqs a b
  | .glob a, .glob b => Nat.beq a b
  | .stamp a, .stamp b => Nat.beq a b
  | .unk, .unk => true
  | _, _ => false
def veqs : List V → List V → Bool
  | [], [] => true
  | a :: x, b :: y => veq a b && veqs x y
  | _, _ => false
end
end Go.Ev
namespace Go.Ev

/-! ### The order inside a region -/
def bindsE (e : Edge) : Bool :=
  match e.ground with
  | .textOnly _ => false
  | .gcOnly _ => false
  | _ => true
def maskOf (acc : List Nat) : List Edge → Nat → Nat
  | [], s => s
  | e :: l, s => maskOf acc l (bif bindsE e then Nat.lor (Nat.lor s (Nat.pow 2 e.on)) (match nth acc e.on with | some b => b | none => 0) else s)
def befGo : List Oper → List Nat → List Nat
  | [], acc => acc
  | o :: rest, acc => befGo rest (app acc [maskOf acc o.after.toList 0])
def bef (ops : Array Oper) : List Nat := befGo ops.toList []
/-- Does operation i surely come ahead of operation j? -/
def ord (b : List Nat) (i j : Nat) : Bool :=
  match nth b j with
  | some m => Nat.beq (Nat.mod (Nat.div m (Nat.pow 2 i)) 2) 1
  | none => false
def tmpsOf : List Operand → List Nat
  | [] => []
  | .tmp t :: l => t :: tmpsOf l
  | _ :: l => tmpsOf l
def memN (n : Nat) : List Nat → Bool
  | [] => false
  | m :: l => bif Nat.beq n m then true else memN n l
def dstOf (ops : List Oper) (g : Nat) : List Nat :=
  match nth ops g with
  | some o => (match o.dst with | some d => [d] | none => [])
  | none => []
def readsOf (ops : List Oper) (o : Oper) : List Nat :=
  app (tmpsOf o.op.operands.toList) (match o.guard with | some (g, _) => dstOf ops g | none => [])
def hitsD (d : Option Nat) (l : List Nat) : Bool :=
  match d with
  | some d => memN d l
  | none => false
def optL (d : Option Nat) : List Nat := match d with | some d => [d] | none => []
/-- Operation x (number i) ahead of y (number j): either they do not touch each other's temporaries, or x comes first for certain. -/
def okPair (ops : List Oper) (b : List Nat) (i j : Nat) (x y : Oper) : Bool :=
  bif hitsD x.dst (app (readsOf ops y) (optL y.dst)) || hitsD y.dst (readsOf ops x) then ord b i j else true
def okWith (ops : List Oper) (b : List Nat) (j : Nat) (y : Oper) : List Oper → Nat → Bool
  | [], _ => true
  | x :: l, i => bif Nat.beq i j then true else bif okPair ops b i j x y then okWith ops b j y l (Nat.succ i) else false
def okAll (ops : List Oper) (b : List Nat) : List Oper → Nat → Bool
  | [], _ => true
  | y :: l, j => bif okWith ops b j y ops 0 then okAll ops b l (Nat.succ j) else false
def okTmps (ops : Array Oper) : Bool := okAll ops.toList (bef ops) ops.toList 0

/-- Every binding edge goes back. -/
def edgesBack (j : Nat) : List Edge → Bool
  | [] => true
  | e :: l => bif bindsE e then bif Nat.ble (Nat.succ e.on) j then edgesBack j l else false else edgesBack j l
def okEdges : List Oper → Nat → Bool
  | [], _ => true
  | o :: l, j => bif edgesBack j o.after.toList then okEdges l (Nat.succ j) else false

/-! ### A region that draws: in the order of the text -/
structure In where
  i : Nat
  e : Me
/-- A block that an operation of the region made and that no writing operation has seen yet; a map literal's entries. -/
structure Pd where
  i : Nat
  b : Nat
  o : O
  ins : List In
def pairsOf : List In → List Me
  | [] => []
  | x :: l => x.e :: pairsOf l
def Pd.obj (p : Pd) : O :=
  match p.ins with
  | [] => p.o
  | x :: l => .map (pairsOf (x :: l))
structure Ld where
  j : Nat
  tm : T V
  op : Op
  v : V
structure Hist where
  e : Nat
  os : T O
  pend : List Pd
structure RS where
  tm : T V
  x : Hp
  pend : List Pd
  hist : List Hist
  lds : List Ld
  last : Option Nat

def insOk (b : List Nat) (j : Nat) : List In → Bool
  | [] => true
  | x :: l => bif ord b x.i j then insOk b j l else false
/-- Is a block, whole, there for certain when operation j comes? -/
def seenP (b : List Nat) (j : Nat) (p : Pd) : Bool := bif ord b p.i j then insOk b j p.ins else false
def addP (b : List Nat) (j : Nat) : List Pd → T O → T O
  | [], os => os
  | p :: l, os => bif seenP b j p then T.set (addP b j l os) p.b (some p.obj) else addP b j l os
/-- What a reading operation sees of them: rows alone. -/
def addL (b : List Nat) (j : Nat) : List Pd → T O → T O
  | [], os => os
  | p :: l, os => bif ord b p.i j then (match p.o with
    | .cells .. => T.set (addL b j l os) p.b (some p.o)
    | _ => addL b j l os) else addL b j l os
def restP (b : List Nat) (j : Nat) : List Pd → List Pd
  | [] => []
  | p :: l => bif seenP b j p then restP b j l else p :: restP b j l
def addAll : List Pd → T O → T O
  | [], os => os
  | p :: l, os => T.set (addAll l os) p.b (some p.obj)
def freshKey (k : V) : List In → Bool
  | [] => true
  | x :: l => (match eqCell k x.e.k with
    | some false => freshKey k l
    | _ => false)
/-- An entry more in the map literal of block m. -/
def insP (j m id : Nat) (k v : V) : List Pd → Option (List Pd)
  | [] => none
  | p :: l => bif Nat.beq p.b m then
      (match p.o with
      | .map [] => bif freshKey k p.ins then some ({ p with ins := ⟨j, ⟨id, k, v⟩⟩ :: p.ins } :: l) else none
      | _ => none)
    else ob (insP j m id k v l) fun r => some (p :: r)
def sameL (r : Option V) (v : V) : Bool :=
  match r with
  | some u => veq u v
  | none => false
def okHist (E : Env) (b : List Nat) (nx j : Nat) (tm : T V) (op : Op) (v : V) : List Hist → Bool
  | [] => true
  | s :: l => bif ord b s.e j then true else bif sameL (execL E tm op ⟨nx, addL b j s.pend s.os⟩) v then okHist E b nx j tm op v l else false
def okLds (E : Env) (b : List Nat) (j : Nat) (pend : List Pd) (x : Hp) : List Ld → Bool
  | [] => true
  | s :: l => bif ord b s.j j then okLds E b j pend x l else bif sameL (execL E s.tm s.op ⟨x.nx, addL b s.j pend x.os⟩) s.v then okLds E b j pend x l else false
def okLast (b : List Nat) (j : Nat) : Option Nat → Bool
  | none => true
  | some e => ord b e j
def wantA (ops : List Oper) (tm : T V) (g : Option (Nat × Bool)) : Option Bool :=
  match g with
  | none => some true
  | some (g, w) => ob (nth ops g) fun o => ob o.dst fun d => ob (tm.get d) fun v => (match v with
    | .bool c => some (!(xor c w))
    | .unk => none
    | _ => some false)

/-- What a call comes to: its answer, and the heap. -/
abbrev RC := Tgt → Hp → Option (V × Hp)
def evalE (E : Env) (rc : RC) (tm : T V) (op : Op) (x : Hp) : Option (V × Hp) :=
  match op with
  | .call c =>
    match c.callee with
    | .value _ => ob (callOf tm c) fun t => rc t x
    | _ => execE E tm op x
  | _ => execE E tm op x
def stepR (E : Env) (rc : RC) (n : Nat) (ops : List Oper) (b : List Nat) (j : Nat) (o : Oper) (s : RS) : Option RS :=
  ob (wantA ops s.tm o.guard) fun w =>
  bif w then
    match clOf E o.op with
    | .p => ob (execP E s.tm o.op) fun v => ob (putT n s.tm o.dst v) fun tm => some { s with tm := tm }
    | .l => ob (execL E s.tm o.op ⟨s.x.nx, addL b j s.pend s.x.os⟩) fun v => ob (putT n s.tm o.dst v) fun tm =>
        bif okHist E b s.x.nx j s.tm o.op v s.hist then some { s with tm := tm, lds := ⟨j, s.tm, o.op, v⟩ :: s.lds } else none
    | .a => ob (execA E s.tm o.op s.x.nx) fun r => ob (putT n s.tm o.dst r.1) fun tm =>
        some { s with tm := tm, x := ⟨Nat.succ s.x.nx, s.x.os⟩, pend := ⟨j, s.x.nx, r.2, []⟩ :: s.pend }
    | .i => (match o.op with
      | .insert t m k x => ob (keyTi E t) fun ki => ob (evo s.tm m) fun mv => ob (evo s.tm k) fun kv => ob (evo s.tm x) fun xv => (match mv with
        | .map mb => bif keyOk ki.d kv then ob (insP j mb s.x.nx kv xv s.pend) fun pend => ob (putT n s.tm o.dst undefV) fun tm => some { s with tm := tm, x := s.x.bump, pend := pend } else none
        | _ => none)
      | _ => none)
    | .e => bif okLast b j s.last then
        ob (evalE E rc s.tm o.op ⟨s.x.nx, addP b j s.pend s.x.os⟩) fun r => ob (putT n s.tm o.dst r.1) fun tm =>
        bif okLds E b j (restP b j s.pend) r.2 s.lds then
          some { tm := tm, x := r.2, pend := restP b j s.pend, hist := ⟨j, s.x.os, s.pend⟩ :: s.hist, lds := s.lds, last := some j } else none else none
  else ob (putT n s.tm o.dst undefV) fun tm => some { s with tm := tm }
def goR (E : Env) (rc : RC) (n : Nat) (ops : List Oper) (b : List Nat) : List Oper → Nat → RS → Option RS
  | [], _, s => some s
  | o :: l, j, s => ob (stepR E rc n ops b j o s) fun s' => goR E rc n ops b l (Nat.succ j) s'
def region (E : Env) (rc : RC) (n : Nat) (ops : Array Oper) (tm : T V) (h : Hp) : Option (T V × Hp) :=
  bif okTmps ops then bif okEdges ops.toList 0 then
    ob (goR E rc n ops.toList (bef ops) ops.toList 0 ⟨tm, h, [], [], [], none⟩) fun s => some (s.tm, ⟨s.x.nx, addAll s.pend s.x.os⟩)
  else none else none

/-! ### Frames and steps -/
inductive It where
  | code (c : Code)
  | inBlock (id : Nat)
  | inLoop (c : Code)
  | ops (all : Array Oper) (rest : List Oper)
  | inRF (l : Nat)
  | endRF (l : Nat)
  | beginRound
structure Fr where
  fn : Nat
  n : Nat
  tm : T V
  todo : List It
  ds : List Nat
  ro : Option Nat
structure M where
  cur : Fr
  stk : List Fr
  h : Hp
inductive SR where
  | next (m : M)
  | done (v : V) (h : Hp)
  | fail
def sob {α : Type} (o : Option α) (f : α → SR) : SR :=
  match o with
  | none => .fail
  | some a => f a
def fromArgs : List V → Nat → T V → T V
  | [], _, t => t
  | v :: l, i, t => fromArgs l (Nat.succ i) (T.set t i (some v))
def enter (E : Env) (f : Nat) (args : List V) : Option Fr :=
  ob (E.fn f) fun fn => ob fn.body fun c => some ⟨f, len args + (fn.ntmps - len args), fromArgs args 0 .leaf, [.code c], [], none⟩
def finish (c : Fr) (v : V) : Option Fr :=
  match c.todo with
  | .ops all (o :: rest) :: k => ob (putT c.n c.tm o.dst v) fun tm => some { c with tm := tm, todo := .ops all rest :: k }
  | .inRF l :: k => some { c with todo := .endRF l :: k }
  | _ => none
def collect : List Nat → Hp → Option Hp
  | [], h => some h
  | d :: ds, h => match h.get d with
    | some (.defd true) => collect ds (h.set d (.defd false))
    | _ => none
def resOf (E : Env) (tm : T V) (h : Hp) : ResultVar → Option V
  | .tmp t => tm.get t
  | .cell a t => ob (E.ti t) fun ti => ob (tm.get a) fun p => loadAt E ti p h
def resultsV (E : Env) (fn : Func) (tm : T V) (h : Hp) : Option V :=
  ob (mapO (resOf E tm h) fn.results.toList) fun vs => (match vs with
    | [v] => some v
    | _ => some (.tup vs))
def back (v : V) (h : Hp) : List Fr → SR
  | [] => .done v h
  | c :: stk => sob (finish c v) fun c' => .next ⟨c', stk, h⟩
/-- The frame is left: by 'ret' or off its end (none), or by a jump that it does not catch. -/
def leave (E : Env) (m : M) (jump : Option Code) : SR :=
  match m.cur.ro with
  | none =>
    match jump with
    | none => ret
    | some .ret => ret
    | _ => .fail
  | some l =>
    match m.h.get l with
    | some (.loop _ _ fn n tm ps asg body d) =>
      back (.bool jump.isNone) (m.h.set l (.loop (bif jump.isNone then .ready else .done) jump fn n tm ps asg body d)) m.stk
    | _ => .fail
  where
  ret : SR := sob (collect m.cur.ds m.h) fun h => sob (E.fn m.cur.fn) fun fn => sob (resultsV E fn m.cur.tm h) fun v => back v h m.stk
def exitToA (id : Nat) : List It → Option (List It)
  | [] => none
  | i :: k => match i with
    | .inBlock id' => bif Nat.beq id' id then some k else exitToA id k
    | _ => exitToA id k
def zipPut (n : Nat) : List Nat → List V → T V → Option (T V)
  | [], [], t => some t
  | p :: ps, v :: vs, t => ob (putT n t (some p) v) fun t' => zipPut n ps vs t'
  | _, _, _ => none
def roundF (l : Nat) (args : List V) (h : Hp) : Option Fr :=
  match h.get l with
  | some (.loop _ _ fn n tm ps asg body _) => ob (zipPut n ps args tm) fun tm' => some ⟨fn, n, tm', [.code asg, .beginRound, .code body], [], some l⟩
  | _ => none
/-- A call out of an operation, or out of a range over a function: the caller waits. -/
def callF (E : Env) (c : Fr) (stk : List Fr) (h : Hp) (t : Tgt) : SR :=
  match t with
  | .fn f args =>
    (match E.sm f args h with
    | some r => sob (finish c r.1) fun c' => .next ⟨c', stk, r.2⟩
    | none => sob (enter E f args) fun fr => .next ⟨fr, c :: stk, h⟩)
  | .yield l args => sob (roundF l args h) fun fr => .next ⟨fr, c :: stk, h⟩
/-- The same, where the function is entered for certain. -/
def enterF (E : Env) (c : Fr) (stk : List Fr) (h : Hp) (t : Tgt) : SR :=
  match t with
  | .fn f args => sob (enter E f args) fun fr => .next ⟨fr, c :: stk, h⟩
  | .yield _ _ => .fail
def isCallV (op : Op) : Option Go.Call :=
  match op with
  | .call c => (match c.callee with
    | .value _ => some c
    | _ => none)
  | _ => none
/-- An operation of a region that is carried out in the order of the text. -/
def stepO (E : Env) (m : M) (all : Array Oper) (o : Oper) (rest : List Oper) (k : List It) : SR :=
  let c := m.cur
  sob (wantA all.toList c.tm o.guard) fun w =>
  bif w then
    match isCallV o.op with
    | some cl => sob (callOf c.tm cl) fun t => callF E c m.stk m.h t
    | none =>
      sob (match clOf E o.op with
        | .p => ob (execP E c.tm o.op) fun v => some (v, m.h)
        | .l => ob (execL E c.tm o.op m.h) fun v => some (v, m.h)
        | .a => ob (execA E c.tm o.op m.h.nx) fun r => some (r.1, m.h.new r.2)
        | .i => execE E c.tm o.op m.h
        | .e => execE E c.tm o.op m.h) fun r =>
      sob (putT c.n c.tm o.dst r.1) fun tm => .next ⟨{ c with tm := tm, todo := .ops all rest :: k }, m.stk, r.2⟩
  else sob (putT c.n c.tm o.dst undefV) fun tm => .next ⟨{ c with tm := tm, todo := .ops all rest :: k }, m.stk, m.h⟩
def step (E : Env) (rc : RC) (m : M) : SR :=
  let c := m.cur
  match c.todo with
  | [] => leave E m none
  | it :: k =>
    match it with
    | .code cd =>
      (match cd with
      | .ret => leave E m (some .ret)
      | .skip => .next ⟨{ c with todo := k }, m.stk, m.h⟩
      | .seq a b => .next ⟨{ c with todo := .code a :: .code b :: k }, m.stk, m.h⟩
      | .cond q a b => sob (evo c.tm q) fun v => (match v with
        | .bool true => .next ⟨{ c with todo := .code a :: k }, m.stk, m.h⟩
        | .bool false => .next ⟨{ c with todo := .code b :: k }, m.stk, m.h⟩
        | _ => .fail)
      | .block id body => .next ⟨{ c with todo := .code body :: .inBlock id :: k }, m.stk, m.h⟩
      | .loop body => .next ⟨{ c with todo := .code body :: .inLoop body :: k }, m.stk, m.h⟩
      | .exit id => (match exitToA id k with
        | some k' => .next ⟨{ c with todo := k' }, m.stk, m.h⟩
        | none => leave E m (some (.exit id)))
      | .region _ ops false => .next ⟨{ c with todo := .ops ops ops.toList :: k }, m.stk, m.h⟩
      | .region _ ops true => sob (region E rc c.n ops c.tm m.h) fun r => .next ⟨{ c with tm := r.1, todo := k }, m.stk, r.2⟩
      | .rangeFunc f ps asg body => sob (evo c.tm f) fun fv =>
        (match c.ro with
        | none =>
          let d := m.h.nx
          let h1 := m.h.new (.defd true)
          let l := h1.nx
          let h2 := h1.new (.loop .ready none c.fn c.n c.tm ps.toList asg body d)
          sob (tgtOf fv [.yield l]) fun t => enterF E { c with todo := .inRF l :: k, ds := d :: c.ds } m.stk h2 t
        | some a =>
          match m.h.get a with
          | some (.loop _ _ _ _ _ _ _ _ d) =>
            let l := m.h.nx
            let h2 := m.h.new (.loop .ready none c.fn c.n c.tm ps.toList asg body d)
            sob (tgtOf fv [.yield l]) fun t => enterF E { c with todo := .inRF l :: k } m.stk h2 t
          | _ => .fail)
      | _ => .fail)
    | .inBlock _ => .next ⟨{ c with todo := k }, m.stk, m.h⟩
    | .inLoop body => .next ⟨{ c with todo := .code body :: .inLoop body :: k }, m.stk, m.h⟩
    | .ops all rest =>
      (match rest with
      | [] => .next ⟨{ c with todo := k }, m.stk, m.h⟩
      | o :: rest => stepO E m all o rest k)
    | .inRF _ => .fail
    | .endRF l =>
      (match m.h.get l with
      | some (.loop st pend fn n tm ps asg body d) =>
        (match st with
        | .busy => .fail
        | _ => .next ⟨{ c with todo := (match pend with | some j => .code j :: k | none => k) }, m.stk, m.h.set l (.loop .exhausted pend fn n tm ps asg body d)⟩)
      | _ => .fail)
    | .beginRound =>
      match c.ro with
      | some l =>
        (match m.h.get l with
        | some (.loop .ready pend fn n tm ps asg body d) => .next ⟨{ c with todo := k }, m.stk, m.h.set l (.loop .busy pend fn n tm ps asg body d)⟩
        | _ => .fail)
      | none => .fail

def run (E : Env) (rc : RC) : Nat → M → Option (V × Hp)
  | 0, _ => none
  | n + 1, m =>
    match step E rc m with
    | .next m' => run E rc n m'
    | .done v h => some (v, h)
    | .fail => none
/-- A whole call; N: how many steps each function that is entered out of a drawing region may take. -/
def rcall (E : Env) (N : Nat) : (depth : Nat) → RC
  | 0 => fun _ _ => none
  | d + 1 => fun t h =>
    match t with
    | .fn f args =>
      (match E.sm f args h with
      | some r => some r
      | none => ob (enter E f args) fun fr => run E (rcall E N d) N ⟨fr, [], h⟩)
    | .yield l args => ob (roundF l args h) fun fr => run E (rcall E N d) N ⟨fr, [], h⟩
end Go.Ev
namespace Go.Ev
def aggD : TypeDesc → Bool
  | .struct _ => true
  | .array _ _ => true
  | _ => false
def fdsOf (P : Program) : List Field → Option (List FD)
  | [] => some []
  | f :: l => match P.info? f.type, P.underlying f.type with
    | some i, some d => ob (fdsOf P l) fun r => some (⟨f.offset, i.size, aggD d, f.type⟩ :: r)
    | _, _ => none
def tdOf (P : Program) (t : Nat) (d : TypeDesc) : TD :=
  match d with
  | .bool => .bool
  | .int k => .int k
  | .string => .string
  | .unsafePointer => .uptr
  | .pointer e => .pointer e
  | .slice e => (match P.info? e with
    | some i => .slice e i.size i.bytes
    | none => .other)
  | .array n e => (match P.info? e, P.underlying e with
    | some i, some u => .array n e i.size (aggD u)
    | _, _ => .other)
  | .map k e => .map k e
  | .struct fs => (match fdsOf P fs.toList with
    | some l => .struct l (!P.stoodInHeld t && !P.eqGuardType P.depth t && fs.all fun f => f.name != "_")
    | none => .other)
  | .func _ _ _ => .func
  | .interface _ => .iface
  | .tuple _ => .tuple
  | _ => .other
def tiFrom (P : Program) (t : Nat) : Option TI :=
  match P.info? t, P.underlying t with
  | some i, some d => (match i.zero with
    | some z => ob (absVal z) fun v => some ⟨tdOf P t d, i.size, i.bytes, aggD d, i.comparable, v⟩
    | none => none)
  | _, _ => none
end Go.Ev
