/- A symbolic machine: what the Go code of this claim does, as a Lean function over numbers and lists (definitions only). -/
import Derived.WalkKit
import Derived.Orders
namespace Go.Proofs.Ytipfipnhgpbceaa.Sx

/-! ### The values of Go's struct types -/
structure Span where (lo hi : Int)
structure Sensor where (addr kind target offset scale error drift life : Int)
structure Measure where (sensor time lo hi : Int)
structure Place where (height : Int) (surface : Bool)
structure Road where (frm to len area : Int) (walk closed : Bool) (restLo restHi liftLo liftHi : Int)
structure Source where (road lo hi : Int)
structure Point where (flow pressure : Int)
structure Fan where (road : Int) (back aux : Bool) (curve : List Point)
structure Door where (road other : Int) (rests : List Int)
structure Arc where (road frm to : Int)
structure Pair where (a b : Int)
structure Share where (gas air : Int)
structure Frame where (addr kind : Int) (data : List Int)

/-- The kinds of elements of slices. -/
inductive K where
  | int | u8 | bool | span | sensor | measure | place | road | source | point | fan | door | arc | pair | share | frame | spans | sensors | sources
  deriving DecidableEq

abbrev D : K → Type
  | .int => Int | .u8 => Int | .bool => Bool | .span => Span | .sensor => Sensor | .measure => Measure | .place => Place | .road => Road
  | .source => Source | .point => Point | .fan => Fan | .door => Door | .arc => Arc | .pair => Pair | .share => Share | .frame => Frame
  | .spans => List Span | .sensors => List Sensor | .sources => List Source

/-- A cell: what it is known to hold. -/
inductive Sc where
  | undef
  | int (k : IntKind) (n : Int)
  | bool (b : Bool)
  | nils
  | vec (bor : Bool) (E : K) (xs : List (D E))
  | row (id : Nat)
  | ptr (id off : Nat)
  | eptr (id : Nat) (E : K) (i : Int) (off : Nat)
  | vptr (bor : Bool) (E : K) (xs : List (D E)) (i : Int) (off : Nat)

/-- The cells of an element. -/
def enc : (E : K) → D E → List Sc
  | .int, n => [.int .i64 n]
  | .u8, n => [.int .u8 n]
  | .bool, b => [.bool b]
  | .span, s => [.int .i64 s.lo, .int .i64 s.hi]
  | .sensor, s => [.int .i64 s.addr, .int .i64 s.kind, .int .i64 s.target, .int .i64 s.offset, .int .i64 s.scale, .int .i64 s.error, .int .i64 s.drift, .int .i64 s.life]
  | .measure, m => [.int .i64 m.sensor, .int .i64 m.time, .int .i64 m.lo, .int .i64 m.hi]
  | .place, p => [.int .i64 p.height, .bool p.surface]
  | .road, r => [.int .i64 r.frm, .int .i64 r.to, .int .i64 r.len, .int .i64 r.area, .bool r.walk, .bool r.closed, .int .i64 r.restLo, .int .i64 r.restHi, .int .i64 r.liftLo, .int .i64 r.liftHi]
  | .source, s => [.int .i64 s.road, .int .i64 s.lo, .int .i64 s.hi]
  | .point, p => [.int .i64 p.flow, .int .i64 p.pressure]
  | .fan, f => [.int .i64 f.road, .bool f.back, .bool f.aux, .vec false .point f.curve]
  | .door, d => [.int .i64 d.road, .int .i64 d.other, .vec false .int d.rests]
  | .arc, a => [.int .i64 a.road, .int .i64 a.frm, .int .i64 a.to]
  | .pair, p => [.int .i64 p.a, .int .i64 p.b]
  | .share, s => [.int .i64 s.gas, .int .i64 s.air]
  | .frame, f => [.int .i64 f.addr, .int .i64 f.kind, .vec false .u8 f.data]
  | .spans, l => [.vec false .span l]
  | .sensors, l => [.vec false .sensor l]
  | .sources, l => [.vec false .source l]

/-- An element out of its cells. -/
def dec : (E : K) → List Sc → Option (D E)
  | .int, [.int .i64 n] => some n
  | .u8, [.int .u8 n] => some n
  | .bool, [.bool b] => some b
  | .span, [.int .i64 a, .int .i64 b] => some ⟨a, b⟩
  | .sensor, [.int .i64 a, .int .i64 b, .int .i64 c, .int .i64 d, .int .i64 e, .int .i64 f, .int .i64 g, .int .i64 h] => some ⟨a, b, c, d, e, f, g, h⟩
  | .measure, [.int .i64 a, .int .i64 b, .int .i64 c, .int .i64 d] => some ⟨a, b, c, d⟩
  | .place, [.int .i64 a, .bool b] => some ⟨a, b⟩
  | .road, [.int .i64 a, .int .i64 b, .int .i64 c, .int .i64 d, .bool e, .bool f, .int .i64 g, .int .i64 h, .int .i64 i, .int .i64 j] => some ⟨a, b, c, d, e, f, g, h, i, j⟩
  | .source, [.int .i64 a, .int .i64 b, .int .i64 c] => some ⟨a, b, c⟩
  | .point, [.int .i64 a, .int .i64 b] => some ⟨a, b⟩
  | .fan, [.int .i64 a, .bool b, .bool c, .vec false .point l] => some ⟨a, b, c, l⟩
  | .fan, [.int .i64 a, .bool b, .bool c, .nils] => some ⟨a, b, c, []⟩
  | .door, [.int .i64 a, .int .i64 b, .vec false .int l] => some ⟨a, b, l⟩
  | .door, [.int .i64 a, .int .i64 b, .nils] => some ⟨a, b, []⟩
  | .arc, [.int .i64 a, .int .i64 b, .int .i64 c] => some ⟨a, b, c⟩
  | .pair, [.int .i64 a, .int .i64 b] => some ⟨a, b⟩
  | .share, [.int .i64 a, .int .i64 b] => some ⟨a, b⟩
  | .frame, [.int .i64 a, .int .i64 b, .vec false .u8 l] => some ⟨a, b, l⟩
  | .frame, [.int .i64 a, .int .i64 b, .nils] => some ⟨a, b, []⟩
  | .spans, [.vec false .span l] => some l
  | .spans, [.nils] => some []
  | .sensors, [.vec false .sensor l] => some l
  | .sensors, [.nils] => some []
  | .sources, [.vec false .source l] => some l
  | .sources, [.nils] => some []
  | _, _ => none

def dflt : (E : K) → D E
  | .int => (0 : Int) | .u8 => (0 : Int) | .bool => false | .span => (⟨0, 0⟩ : Span) | .sensor => (⟨0, 0, 0, 0, 0, 0, 0, 0⟩ : Sensor)
  | .measure => (⟨0, 0, 0, 0⟩ : Measure) | .place => (⟨0, false⟩ : Place) | .road => (⟨0, 0, 0, 0, false, false, 0, 0, 0, 0⟩ : Road)
  | .source => (⟨0, 0, 0⟩ : Source) | .point => (⟨0, 0⟩ : Point) | .fan => (⟨0, false, false, []⟩ : Fan) | .door => (⟨0, 0, []⟩ : Door)
  | .arc => (⟨0, 0, 0⟩ : Arc) | .pair => (⟨0, 0⟩ : Pair) | .share => (⟨0, 0⟩ : Share) | .frame => (⟨0, 0, []⟩ : Frame)
  | .spans => ([] : List Span) | .sensors => ([] : List Sensor) | .sources => ([] : List Source)

def esize : K → Nat
  | .int => 1 | .u8 => 1 | .bool => 1 | .span => 2 | .sensor => 8 | .measure => 4 | .place => 2 | .road => 10 | .source => 3 | .point => 2
  | .fan => 4 | .door => 3 | .arc => 3 | .pair => 2 | .share => 2 | .frame => 3 | .spans => 1 | .sensors => 1 | .sources => 1

/-- A value: one cell, a struct or an array, several results. -/
inductive AV where
  | one (s : Sc)
  | agg (l : List Sc)
  | tup (l : List (Bool × List Sc))

/-- What a computation comes to, by the tests and the calls on its way. -/
inductive Tr (α : Type) : Type 1 where
  | fail
  | ret (a : α)
  | ite (b : Bool) (t e : Tr α)
  | call {β : Type} (o : Option β) (f : β → Tr α)

def Tr.bind {α β : Type} : Tr α → (α → Tr β) → Tr β
  | .fail, _ => .fail
  | .ret a, f => f a
  | .ite b t e, f => .ite b (t.bind f) (e.bind f)
  | .call o g, f => .call o fun x => (g x).bind f

def Tr.den {α : Type} : Tr α → Option α
  | .fail => none
  | .ret a => some a
  | .ite b t e => if b then t.den else e.den
  | .call o f => o.bind fun x => (f x).den

def Tr.of {α : Type} : Option α → Tr α
  | none => .fail
  | some a => .ret a

def Tr.need {α : Type} (b : Bool) (t : Tr α) : Tr α := .ite b t .fail

/-- Memory of the call's own, or handed to it to write: variables' cells, and slices. -/
inductive MC where
  | cell (s : Sc)
  | rows (E : K) (xs : List (D E))
abbrev Loc := Nat × Nat
/-- The latest word on a place comes first. -/
abbrev Mem := List (Loc × Option MC)
def leq (l l' : Loc) : Bool := l.1 == l'.1 && l.2 == l'.2
def Mem.get : Mem → Loc → Option MC
  | [], _ => none
  | (l', c) :: m, l => if leq l' l then c else Mem.get m l
abbrev Upd := List (Loc × Option MC)
def Mem.app (m : Mem) : Upd → Mem
  | [] => m
  | x :: u => Mem.app (x :: m) u
abbrev Get := Loc → Option MC
def hasLoc : List Loc → Loc → Bool
  | [], _ => false
  | l' :: r, l => leq l' l || hasLoc r l
/-- Memory, seen at some places alone. -/
def view (g : Get) (ls : List Loc) : Get := fun l => if hasLoc ls l then g l else none

/-- What is known of a type. -/
inductive TK where
  | scal (z : Sc)
  | strct (fields : List (Nat × TypeId))
  | slc (E : K)
  | arr (n : Nat) (elem : TypeId)
structure TI where
  kind : TK
  size : Nat
  zero : List Sc
abbrev TT := TypeId → Option TI

def TI.isAgg (t : TI) : Bool := match t.kind with | .strct _ => true | .arr _ _ => true | _ => false

structure State where
  tmps : List AV
  mem : Mem
  next : Nat

/-- A function's law: its arguments, the memory that is handed over (numbered from 0 on), its results, what that memory holds then, new memory (numbered on). -/
inductive Ob where
  | box (l : List Sc)
  | rows (E : K) (xs : List (D E))
  | dead
structure Spec where
  wr : Bool
  run : List AV → List Ob → Tr (AV × List Ob)

structure Env where
  tt : TT
  eqk : TypeId → Option K
  fn : FuncId → Option Spec

def kindOf (e : Env) (t : TypeId) : Option TK := match e.tt t with | some ti => some ti.kind | none => none
abbrev Rd := Operand → AV

def constAV : Value → AV
  | .int k n => .one (.int k n)
  | .bool b => .one (.bool b)
  | .slice none 0 0 => .one .nils
  | _ => .one .undef
def rd (tmps : List AV) : Rd
  | .tmp t => tmps.getD t (.one .undef)
  | .const v => constAV v
  | _ => .one .undef

def AV.cells : AV → List Sc
  | .one .undef => []
  | .one s => [s]
  | .agg l => l
  | .tup _ => []
def mkAV (agg : Bool) (l : List Sc) : Option AV := if agg then some (.agg l) else match l with | [s] => some (.one s) | _ => none

/-- The cells from a place on. -/
def cellsAt (g : Get) (id off : Nat) : Nat → Option (List Sc)
  | 0 => some []
  | n + 1 => match g (id, off) with
    | some (.cell s) => match cellsAt g id (off + 1) n with
      | some l => some (s :: l)
      | none => none
    | _ => none
def putCells (id : Nat) : Nat → List Sc → Upd
  | _, [] => []
  | off, s :: l => ((id, off), some (.cell s)) :: putCells id (off + 1) l
def splice (l : List Sc) (off : Nat) (new : List Sc) : List Sc := l.take off ++ new ++ l.drop (off + new.length)

/-- A slice of the call's own that becomes part of something else: as what is only read. -/
def thawOne (g : Get) : Sc → Option (Sc × Upd)
  | .row id => match g (id, 0) with
    | some (.rows E xs) => some (.vec false E xs, [((id, 0), none)])
    | _ => none
  | .vec true _ _ => none
  | s => some (s, [])
def freeze (g : Get) : List Sc → Option (List Sc × Upd)
  | [] => some ([], [])
  | s :: l => match thawOne g s, freeze g l with
    | some (s', u), some (l', u') => some (s' :: l', u ++ u')
    | _, _ => none

def idx (xs : Nat) (i : Int) : Bool := decide (0 ≤ i) && decide (i < (xs : Int))
def lim : Nat := 1048576

def doLoad (e : Env) (t : TypeId) (p : AV) (g : Get) : Tr (AV × Upd) :=
  match e.tt t with
  | none => .fail
  | some ti => match p with
    | .one (.ptr id off) => match cellsAt g id off ti.size with
      | some l => match mkAV ti.isAgg l with | some v => .ret (v, []) | none => .fail
      | none => .fail
    | .one (.eptr id E' i off) => match g (id, 0) with
      | some (.rows E xs) => if E' = E ∧ off + ti.size ≤ esize E then match mkAV ti.isAgg (((enc E (xs.getD i.toNat (dflt E))).drop off).take ti.size) with | some v => .ret (v, []) | none => .fail else .fail
      | _ => .fail
    | .one (.vptr _ E xs i off) => if off + ti.size ≤ esize E then match mkAV ti.isAgg (((enc E (xs.getD i.toNat (dflt E))).drop off).take ti.size) with | some v => .ret (v, []) | none => .fail else .fail
    | _ => .fail

def doStore (e : Env) (t : TypeId) (p x : AV) (g : Get) : Tr (AV × Upd) :=
  match e.tt t with
  | none => .fail
  | some ti => match p with
    | .one (.ptr id off) => match cellsAt g id off ti.size with
      | some _ => if x.cells.length == ti.size && decide (0 < ti.size) then .ret (.one .undef, putCells id off x.cells) else .fail
      | none => .fail
    | .one (.eptr id E' i off) => match g (id, 0) with
      | some (.rows E xs) => match dec E (splice (enc E (xs.getD i.toNat (dflt E))) off x.cells) with
        | some y => if E' = E ∧ x.cells.length = ti.size ∧ 0 < ti.size ∧ off + ti.size ≤ esize E then .ret (.one .undef, [((id, 0), some (.rows E (xs.set i.toNat y)))]) else .fail
        | none => .fail
      | _ => .fail
    | _ => .fail

/-- Two structs compared. -/
def eqK : (E : K) → D E → D E → Option Bool
  | .span, x, y => some (x.lo == y.lo && (x.hi == y.hi))
  | .measure, x, y => some (x.sensor == y.sensor && (x.time == y.time && ((x.lo == y.lo && (x.hi == y.hi)))))
  | .pair, x, y => some (x.a == y.a && (x.b == y.b))
  | _, _, _ => none
def doEq (e : Env) (t : TypeId) (l l' : List Sc) : Option Bool :=
  match e.eqk t with
  | some E => match dec E l, dec E l' with
    | some x, some y => eqK E x y
    | _, _ => none
  | none => none

def doBin (e : Env) (op : BinOp) (t : TypeId) (x y : AV) : Tr AV :=
  match x, y with
  | .one (.int k a), .one (.int k' b) =>
    match op with
    | .shl => .need (decide (0 ≤ b)) (.ret (.one (.int k (k.wrap (a * 2 ^ (min b.toNat k.bits))))))
    | .shr => .need (decide (0 ≤ b)) (.ret (.one (.int k (a.fdiv (2 ^ (min b.toNat k.bits))))))
    | op => if k = k' then (match op with
      | .add => .ret (.one (.int k (k.wrap (a + b))))
      | .sub => .ret (.one (.int k (k.wrap (a - b))))
      | .mul => .ret (.one (.int k (k.wrap (a * b))))
      | .quo => .need (b != 0) (.ret (.one (.int k (k.wrap (a.tdiv b)))))
      | .rem => .need (b != 0) (.ret (.one (.int k (a.tmod b))))
      | .eql => .ret (.one (.bool (a == b)))
      | .neq => .ret (.one (.bool (a != b)))
      | .lss => .ret (.one (.bool (decide (a < b))))
      | .leq => .ret (.one (.bool (decide (a ≤ b))))
      | .gtr => .ret (.one (.bool (decide (a > b))))
      | .geq => .ret (.one (.bool (decide (a ≥ b))))
      | .or => .ret (.one (.int k (bits .or k a b)))
      | .and => .ret (.one (.int k (bits .and k a b)))
      | _ => .fail) else .fail
  | .one (.bool a), .one (.bool b) =>
    match op, kindOf e t with
    | .eql, some (.scal (.bool _)) => .ret (.one (.bool (a == b)))
    | .neq, some (.scal (.bool _)) => .ret (.one (.bool (!(a == b))))
    | _, _ => .fail
  | .agg l, .agg l' =>
    match op, doEq e t l l' with
    | .eql, some r => .ret (.one (.bool r))
    | .neq, some r => .ret (.one (.bool (!r)))
    | _, _ => .fail
  | _, _ => .fail

def doUn (op : UnOp) (x : AV) : Tr AV :=
  match op, x with
  | .neg, .one (.int k n) => .ret (.one (.int k (k.wrap (0 - n))))
  | .not, .one (.bool b) => .ret (.one (.bool !b))
  | _, _ => .fail

def doConvert (e : Env) (s d : TypeId) (x : AV) : Tr AV :=
  match kindOf e s, kindOf e d, x with
  | some (.scal (.int _ _)), some (.scal (.int k _)), .one (.int _ n) => .ret (.one (.int k (k.wrap n)))
  | _, _, _ => .fail

/-- A struct or an array out of parts. -/
def buildCells (place : Nat → Option (Nat × Nat)) : List Sc → List (Nat × List Sc) → Option (List Sc)
  | z, [] => some z
  | z, (i, c) :: r => match place i with
    | some (off, size) => if c.length = size ∧ 0 < size ∧ off + size ≤ z.length then buildCells place (splice z off c) r else none
    | none => none

def fieldAt (e : Env) (s : TypeId) (f : Nat) : Option (Nat × TI) :=
  match e.tt s with
  | some ti => match ti.kind with
    | .strct fs => match fs[f]? with
      | some (off, t) => match e.tt t with
        | some te => if 0 < te.size then some (off, te) else none
        | none => none
      | none => none
    | _ => none
  | none => none

def doBuild (e : Env) (t : TypeId) (parts : List (Nat × AV)) : Tr AV :=
  match e.tt t with
  | some ti => match ti.kind with
    | .strct _ => match buildCells (fun i => (fieldAt e t i).map fun p => (p.1, p.2.size)) ti.zero (parts.map fun p => (p.1, p.2.cells)) with
      | some l => .ret (.agg l)
      | none => .fail
    | .arr n el => match e.tt el with
      | some te => match buildCells (fun i => if i < n then some (i * te.size, te.size) else none) ti.zero (parts.map fun p => (p.1, p.2.cells)) with
        | some l => .ret (.agg l)
        | none => .fail
      | none => .fail
    | _ => .fail
  | none => .fail

/-- The elements of a slice's literal. -/
def litElems (E : K) (g : Get) : Nat → List (Nat × AV) → Option (List (D E) × Upd)
  | _, [] => some ([], [])
  | i, (j, v) :: r => if i == j then (match freeze g v.cells with
    | some (cs, u) => match dec E cs, litElems E g (i + 1) r with
      | some x, some (xs, u') => some (x :: xs, u ++ u')
      | _, _ => none
    | none => none) else none

/-- A slice as a list. -/
inductive AnyL where
  | nil
  | of (bor : Bool) (E : K) (xs : List (D E))
def listOf (g : Get) : AV → Option AnyL
  | .one .nils => some .nil
  | .one (.vec b E xs) => some (.of b E xs)
  | .one (.row id) => match g (id, 0) with
    | some (.rows E xs) => some (.of true E xs)
    | _ => none
  | _ => none
def asK (E : K) : (E' : K) → List (D E') → Option (List (D E)) := fun E' xs => if h : E' = E then some (h ▸ xs) else none

def AnyL.len : AnyL → Nat
  | .nil => 0
  | .of _ _ xs => xs.length

def sliceElem (e : Env) (t : TypeId) : Option K :=
  match kindOf e t with
  | some (.slc E) => some E
  | _ => none

def doAppend (e : Env) (t : TypeId) (s x : AV) (g : Get) (fresh : Nat) : Tr (AV × Upd) :=
  match sliceElem e t with
  | none => .fail
  | some E =>
    let old : Option (List (D E) × Upd) := match s with
      | .one .nils => some ([], [])
      | .one (.row id) => match g (id, 0) with
        | some (.rows E' xs) => (asK E E' xs).map (·, [((id, 0), none)])
        | _ => none
      | _ => none
    let new : Option (List (D E)) := match listOf g x with
      | some .nil => some []
      | some (.of _ E' xs) => asK E E' xs
      | none => none
    match old, new with
    | some (xs, u), some ys => .need (decide (xs.length + ys.length ≤ lim)) (.ret (.one (.row fresh), u ++ [((fresh, 0), some (.rows E (xs ++ ys)))]))
    | _, _ => .fail

def bound (o : Option AV) (d : Int) : Option Int := match o with
  | none => some d
  | some (.one (.int .i64 n)) => some n
  | _ => none

def cutList (bor : Bool) (E : K) (xs : List (D E)) (u : Upd) (lo hi : Option AV) : Tr (AV × Upd) :=
  match bound lo 0, bound hi (xs.length : Int) with
  | some l, some h => .need (decide (0 ≤ l) && (decide (l ≤ h) && decide (h ≤ (xs.length : Int)))) (.ret (.one (.vec bor E ((xs.take h.toNat).drop l.toNat)), u))
  | _, _ => .fail
def doSlice (e : Env) (t : TypeId) (x : AV) (lo hi : Option AV) (g : Get) : Tr (AV × Upd) :=
  match sliceElem e t with
  | some E' => match x with
    | .one (.vec b E xs) => if E' = E then cutList b E xs [] lo hi else .fail
    | .one (.row id) => match g (id, 0) with
      | some (.rows E xs) => if E' = E then cutList false E xs [((id, 0), none)] lo hi else .fail
      | _ => .fail
    | _ => .fail
  | none => .fail

def doMake (e : Env) (t : TypeId) (len cap : AV) (fresh : Nat) : Tr (AV × Upd) :=
  match sliceElem e t, len, cap with
  | some E, .one (.int .i64 n), .one (.int .i64 c) =>
    .need (decide (0 ≤ n) && (decide (n ≤ (lim : Int)) && (n == c))) (.ret (.one (.row fresh), [((fresh, 0), some (.rows E (List.replicate n.toNat (dflt E))))]))
  | _, _, _ => .fail

def mx (a b : Int) : Int := if b > a then b else a
def mn (a b : Int) : Int := if b < a then b else a
def foldInts (f : Int → Int → Int) : IntKind → Int → List AV → Option Sc
  | k, a, [] => some (.int k a)
  | k, a, .one (.int k' b) :: r => if k = k' then foldInts f k (f a b) r else none
  | _, _, _ => none

/-! #### Calls: memory handed over is numbered from 0 on -/
def stride : Nat := 16
def Sc.ren (f : Nat → Option Nat) : Sc → Sc
  | .row id => match f id with | some j => .row j | none => .undef
  | .ptr id off => match f id with | some j => .ptr j off | none => .undef
  | .eptr id E i off => match f id with | some j => .eptr j E i off | none => .undef
  | s => s
def AV.ren (f : Nat → Option Nat) : AV → AV
  | .one s => .one (s.ren f)
  | .agg l => .agg (l.map (Sc.ren f))
  | .tup l => .tup (l.map fun p => (p.1, p.2.map (Sc.ren f)))
def findAt (id : Nat) : Nat → List Nat → Option Nat
  | _, [] => none
  | i, x :: r => if x == id then some i else findAt id (i + 1) r
/-- All cells of a variable. -/
def boxAt (g : Get) (id : Nat) : Nat → Nat → List Sc
  | 0, _ => []
  | n + 1, off => match g (id, off) with
    | some (.cell s) => s :: boxAt g id n (off + 1)
    | _ => []
def idsOf : List Sc → List Nat
  | [] => []
  | .row id :: r => id :: idsOf r
  | _ :: r => idsOf r
def addNew (a : List Nat) : List Nat → List Nat
  | [] => a
  | x :: r => addNew (if a.contains x then a else a ++ [x]) r
/-- What is handed over: pointers' variables, and the slices that lie in them; slices themselves where the function writes to them. -/
def handed (wr : Bool) (g : Get) : List Nat → List AV → List Nat
  | a, [] => a
  | a, .one (.ptr id 0) :: r => handed wr g (addNew a (id :: idsOf (boxAt g id 64 0))) r
  | a, .one (.row id) :: r => handed wr g (if wr then addNew a [id] else a) r
  | a, _ :: r => handed wr g a r
def lendOne (wr : Bool) (g : Get) : Sc → Sc
  | .row id => if wr then .row id else match g (id, 0) with
    | some (.rows E xs) => .vec true E xs
    | _ => .undef
  | s => s
def lend (wr : Bool) (g : Get) : AV → AV
  | .one s => .one (lendOne wr g s)
  | .agg l => .agg (l.map (lendOne false g))
  | .tup l => .tup l
def obAt (g : Get) (f : Nat → Option Nat) (id : Nat) : Ob :=
  match g (id, 0) with
  | some (.rows E xs) => .rows E xs
  | some (.cell _) => .box ((boxAt g id 64 0).map (Sc.ren f))
  | none => .dead
def backOb (f : Nat → Option Nat) (id : Nat) : Ob → Upd
  | .box l => putCells id 0 (l.map (Sc.ren f))
  | .rows E xs => [((id, 0), some (.rows E xs))]
  | .dead => [((id, 0), none)]
def backObs (f : Nat → Option Nat) : List Nat → List Ob → Upd
  | id :: r, o :: os => backOb f id o ++ backObs f r os
  | _, _ => []
def rangeFrom (a : Nat) : Nat → List Nat
  | 0 => []
  | n + 1 => a :: rangeFrom (a + 1) n

/-- The slices that are lent to a call. -/
def lentIds (wr : Bool) : List AV → List Nat
  | [] => []
  | .one (.row id) :: r => if wr then lentIds wr r else id :: lentIds wr r
  | .agg l :: r => idsOf l ++ lentIds wr r
  | _ :: r => lentIds wr r
def sameOb : Ob → Ob → Bool
  | .box l, .box l' => l.length == l'.length
  | .box _, _ => false
  | _, .box _ => false
  | _, _ => true
def sameObs : List Ob → List Ob → Bool
  | [], _ => true
  | o :: r, o' :: r' => sameOb o o' && sameObs r r'
  | _ :: _, [] => false
def noBor : List Sc → Bool
  | [] => true
  | .vec b _ _ :: r => !b && noBor r
  | .vptr _ _ _ _ _ :: _ => false
  | .eptr _ _ _ _ :: _ => false
  | _ :: r => noBor r
def noBorOb : Ob → Bool
  | .box l => noBor l
  | _ => true
def AV.all : AV → List Sc
  | .one s => [s]
  | .agg l => l
  | .tup l => l.flatMap (·.2)
def doCall (e : Env) (f : FuncId) (args : List AV) (g : Get) (fresh : Nat) : Tr (AV × Upd) :=
  match e.fn f with
  | none => .fail
  | some sp =>
    let ids := handed sp.wr g [] args
    let to := fun id => findAt id 0 ids
    let args' := args.map fun a => (lend sp.wr g a).ren to
    let obs := ids.map (obAt g to)
    if (lentIds sp.wr args).any (fun id => ids.contains id) then .fail else
    (sp.run args' obs).bind fun r =>
      let all := ids ++ rangeFrom fresh (r.2.length - ids.length)
      let back := fun j => all[j]?
      if r.2.length ≤ ids.length + stride ∧ sameObs obs r.2 = true ∧ noBor r.1.all = true ∧ r.2.all noBorOb = true then .ret (r.1.ren back, backObs back all r.2) else .fail

def tmpsOf (l : List Operand) (r : Rd) : List AV := l.map r

def doIndexAddr (e : Env) (t : TypeId) (x ix : AV) (g : Get) : Tr (AV × Upd) :=
  match kindOf e t, x, ix with
  | some (.slc E'), .one (.vec b E xs), .one (.int _ i) => if E' = E then .need (idx xs.length i) (.ret (.one (.vptr b E xs i 0), [])) else .fail
  | some (.slc E'), .one (.row id), .one (.int _ i) => match g (id, 0) with
    | some (.rows E xs) => if E' = E then .need (idx xs.length i) (.ret (.one (.eptr id E i 0), [])) else .fail
    | _ => .fail
  | some (.arr n el), .one (.ptr id off), .one (.int _ i) => match e.tt el with
    | some te => if 0 ≤ i ∧ i < (n : Int) ∧ 1 < n then .ret (.one (.ptr id (off + i.toNat * te.size)), []) else .fail
    | none => .fail
  | _, _, _ => .fail
def doIndex (e : Env) (t : TypeId) (x ix : AV) : Tr (AV × Upd) :=
  match kindOf e t, x, ix with
  | some (.arr n el), .agg l, .one (.int _ i) => match e.tt el with
    | some te => if 0 ≤ i ∧ i < (n : Int) then (match mkAV te.isAgg ((l.drop (i.toNat * te.size)).take te.size) with | some v => .ret (v, []) | none => .fail) else .fail
    | none => .fail
  | _, _, _ => .fail
def doLen (e : Env) (ts : List TypeId) (x : AV) (g : Get) : Tr (AV × Upd) :=
  match ts with
  | [t] => match sliceElem e t, listOf g x with
    | some _, some l => .ret (.one (.int .i64 l.len), [])
    | _, _ => .fail
  | _ => .fail
def doMinMax (f : Int → Int → Int) (l : List AV) : Tr (AV × Upd) :=
  match l with
  | .one (.int k a) :: l => match foldInts f k a l with | some s => .ret (.one s, []) | none => .fail
  | _ => .fail
def doExtract (x : AV) (i : Nat) : Tr (AV × Upd) :=
  match x with
  | .tup l => match l[i]? with
    | some (a, cs) => match mkAV a cs with | some v => .ret (v, []) | none => .fail
    | none => .fail
  | _ => .fail
def doNil (x : AV) : Tr (AV × Upd) :=
  match x with
  | .one (.ptr id off) => .ret (.one (.ptr id off), [])
  | .one (.eptr id E i off) => .ret (.one (.eptr id E i off), [])
  | .one (.vptr b E xs i off) => .ret (.one (.vptr b E xs i off), [])
  | _ => .fail
def doField (e : Env) (s : TypeId) (f : Nat) (x : AV) : Tr (AV × Upd) :=
  match fieldAt e s f, x with
  | some (off, ti), .agg l => match mkAV ti.isAgg ((l.drop off).take ti.size) with | some v => .ret (v, []) | none => .fail
  | _, _ => .fail
def doFieldAddr (e : Env) (s : TypeId) (f : Nat) (x : AV) : Tr (AV × Upd) :=
  match fieldAt e s f, x with
  | some (off, _), .one (.ptr id o) => .ret (.one (.ptr id (o + off)), [])
  | some (off, _), .one (.eptr id E i o) => .ret (.one (.eptr id E i (o + off)), [])
  | some (off, _), .one (.vptr b E xs i o) => .ret (.one (.vptr b E xs i (o + off)), [])
  | _, _ => .fail
def doLit (e : Env) (t : TypeId) (n : Nat) (parts : List (Nat × AV)) (g : Get) (fresh : Nat) : Tr (AV × Upd) :=
  match sliceElem e t with
  | some E => match litElems E g 0 parts with
    | some (xs, u) => if xs.length = n ∧ n * esize E ≤ 16777216 then .ret (.one (.row fresh), u ++ [((fresh, 0), some (.rows E xs))]) else .fail
    | none => .fail
  | none => .fail
def doBuiltin (e : Env) (b : Builtin) (args : List AV) (ts : List TypeId) (g : Get) (fresh : Nat) : Tr (AV × Upd) :=
  match b, args with
  | .len, [x] => doLen e ts x g
  | .max, l => doMinMax mx l
  | .min, l => doMinMax mn l
  | .append, [s, x] => match ts with
    | [t, t'] => if t = t' then doAppend e t s x g fresh else .fail
    | _ => .fail
  | _, _ => .fail

/-- One operation: its value, and what becomes of memory. -/
def sem (e : Env) (o : Op) (r : Rd) (g : Get) (fresh : Nat) : Tr (AV × Upd) :=
  match o with
  | .move x => .ret (r x, [])
  | .pick c a b => match r c with
    | .one (.bool t) => .ite t (.ret (r a, [])) (.ret (r b, []))
    | _ => .fail
  | .assign x => .ret (r x, [])
  | .alloc t => match e.tt t with
    | some ti => if ti.zero.length ≤ 64 then .ret (.one (.ptr fresh 0), putCells fresh 0 ti.zero) else .fail
    | none => .fail
  | .box t x => match e.tt t with
    | some ti => if (r x).cells.length == ti.size && decide (ti.size ≤ 64) && decide (0 < ti.size) then .ret (.one (.ptr fresh 0), putCells fresh 0 (r x).cells) else .fail
    | none => .fail
  | .load t p => doLoad e t (r p) g
  | .store t p x => doStore e t (r p) (r x) g
  | .nilCheck x => doNil (r x)
  | .binOp op t x y _ => (doBin e op t (r x) (r y)).bind fun v => .ret (v, [])
  | .unOp op _ x => (doUn op (r x)).bind fun v => .ret (v, [])
  | .convert s d x => (doConvert e s d (r x)).bind fun v => .ret (v, [])
  | .extract x i => doExtract (r x) i
  | .field s x f => doField e s f (r x)
  | .fieldAddr s x f => doFieldAddr e s f (r x)
  | .indexAddr t x ix => doIndexAddr e t (r x) (r ix) g
  | .index t x ix => doIndex e t (r x) (r ix)
  | .build t parts => (doBuild e t (parts.toList.map fun p => (p.1, r p.2))).bind fun v => .ret (v, [])
  | .buildSlice t n parts => doLit e t n (parts.toList.map fun p => (p.1, r p.2)) g fresh
  | .makeSlice t l c => doMake e t (r l) (r c) fresh
  | .slice t x lo hi none => doSlice e t (r x) (lo.map r) (hi.map r) g
  | .call c => match c.callee with
    | .value (.func f) => doCall e f (c.args.toList.map r) g fresh
    | .builtin b => doBuiltin e b (c.args.toList.map r) c.argTypes.toList g fresh
    | _ => .fail
  | _ => .fail

/-! #### Regions -/
def setTmp (l : List AV) : Option Nat → AV → List AV
  | some d, v => l.set d v
  | none, _ => l
structure RS where
  tmps : List AV
  mem : Mem
/-! What memory an operation looks at. -/
def locsFrom (id off : Nat) : Nat → List Loc
  | 0 => []
  | n + 1 => (id, off) :: locsFrom id (off + 1) n
def rowLocs : List Sc → List Loc
  | [] => []
  | .row id :: r => (id, 0) :: rowLocs r
  | _ :: r => rowLocs r
/-- A variable's places, up to the first that holds no cell. -/
def boxLocs (g : Get) (id : Nat) : Nat → Nat → List Loc
  | 0, _ => []
  | n + 1, off => (id, off) :: match g (id, off) with
    | some (.cell _) => boxLocs g id n (off + 1)
    | _ => []
/-- A call looks at the variables that it is handed, and at the slices in them; and at the slices among its arguments. -/
def tids (g : Get) : List AV → List Nat
  | [] => []
  | .one (.ptr id _) :: r => (id :: idsOf (boxAt g id 64 0)) ++ tids g r
  | .one (.row id) :: r => id :: tids g r
  | .agg l :: r => idsOf l ++ tids g r
  | _ :: r => tids g r
def argLocs (g : Get) (args : List AV) : List Loc := (tids g args).flatMap fun id => boxLocs g id 65 0
def readsOf (e : Env) (o : Op) (r : Rd) (g : Get) : List Loc :=
  match o with
  | .load t p => match r p with
    | .one (.ptr id off) => match e.tt t with
      | some ti => locsFrom id off ti.size
      | none => []
    | .one (.eptr id _ _ _) => [(id, 0)]
    | _ => []
  | .store t p x => (match r p with
    | .one (.ptr id off) => match e.tt t with
      | some ti => locsFrom id off ti.size
      | none => []
    | .one (.eptr id _ _ _) => [(id, 0)]
    | _ => []) ++ rowLocs (r x).cells
  | .indexAddr _ x _ => rowLocs (r x).cells
  | .slice _ x _ _ _ => rowLocs (r x).cells
  | .buildSlice _ _ parts => parts.toList.flatMap fun p => rowLocs (r p.2).cells
  | .call c => match c.callee with
    | .value _ => argLocs g (c.args.toList.map r)
    | _ => c.args.toList.flatMap fun p => rowLocs (r p).cells
  | _ => []
def execOne (e : Env) (o : Oper) (s : RS) (fresh : Nat) : Tr (RS × List Loc × Upd) :=
  let rs := readsOf e o.op (rd s.tmps) s.mem.get
  (sem e o.op (rd s.tmps) (view s.mem.get rs) fresh).bind fun r => .ret (⟨setTmp s.tmps o.dst r.1, s.mem.app r.2⟩, rs, r.2)
/-- A test's outcome, known. -/
def learn (s : RS) (t : Tmp) (v : Bool) : RS := ⟨s.tmps.set t (.one (.bool v)), s.mem⟩
def learnO (c : Operand) (v : Bool) (l : List AV) : List AV := match c with
  | .tmp t => l.set t (.one (.bool v))
  | _ => l
/-- What is not wanted leaves nothing behind: the empty tuple tells so. -/
def skipOp (o : Oper) (s : RS) : RS × List Loc × Upd := (⟨setTmp s.tmps o.dst (.tup []), s.mem⟩, [], [])
def runOp (e : Env) (ops : Array Oper) (base i : Nat) (s : RS) : Tr (RS × List Loc × Upd) :=
  match ops[i]? with
  | none => .fail
  | some o =>
    match o.guard with
    | none => execOne e o s (base + i * stride)
    | some (j, want) => match (ops[j]?).bind (·.dst) with
      | some t => match s.tmps.getD t (.one .undef) with
        | .one (.bool b) => match want with
          | true => .ite b (execOne e o (learn s t true) (base + i * stride)) (.ret (skipOp o (learn s t false)))
          | false => .ite b (.ret (skipOp o (learn s t true))) (execOne e o (learn s t false) (base + i * stride))
        | .tup [] => .ret (skipOp o s)
        | _ => .fail
      | none => .fail
/-- A region in the order of the text. -/
def runOps (e : Env) (ops : Array Oper) (base : Nat) : List Nat → RS → Tr RS
  | [], s => .ret s
  | i :: l, s => (runOp e ops base i s).bind fun r => runOps e ops base l r.1
/-- What has been done: an operation's number, what it looked at, where it wrote. -/
structure Done where
  i : Nat
  reads : List Loc
  writes : List Loc
def meets (a b : List Loc) : Bool := a.any fun l => hasLoc b l
def apartB (ops : Array Oper) (i j : Nat) : Bool :=
  match ops[i]?, ops[j]? with
  | some x, some y => x.apart ops y && (match x.dst, y.dst with | some d, some d' => d != d' | _, _ => true)
  | _, _ => false
def freeOf (ops : Array Oper) (bef : Array Nat) (i : Nat) (reads writes : List Loc) (d : Done) : Bool :=
  (bef.getD (max i d.i) 0).testBit (min i d.i) || (apartB ops d.i i && !meets d.writes reads && !meets d.writes writes && !meets writes d.reads)
/-- A region whose order is open: in the order of the text, and no other order would tell. -/
def runOpsD (e : Env) (ops : Array Oper) (bef : Array Nat) (base : Nat) : List Nat → RS → List Done → Tr RS
  | [], s, _ => .ret s
  | i :: l, s, log => (runOp e ops base i s).bind fun r =>
    let ws := r.2.2.map (·.1)
    if log.all (freeOf ops bef i r.2.1 ws) then runOpsD e ops bef base l r.1 (⟨i, r.2.1, ws⟩ :: log) else .fail
def backEdges (ops : Array Oper) : Bool := (List.range ops.size).all fun j => match ops[j]? with | some o => o.after.toList.all (fun e => !Region.binds .any e || decide (e.on < j)) | none => true
def runRegion (e : Env) (ops : Array Oper) (draw : Bool) (base : Nat) (s : RS) : Tr RS :=
  if draw then if backEdges ops = false then .fail else runOpsD e ops (Region.before ops) base (List.range ops.size) s [] else runOps e ops base (List.range ops.size) s

/-- The stack of what is left to do. -/
inductive It where
  | code (c : Code)
  | blk (id : Nat)
  | lp (c : Code)
inductive Leaf where
  | done (s : State)
  | head (stk : List It) (s : State)
def popTo (id : Nat) : List It → List It
  | [] => []
  | .blk id' :: k => if id' = id then k else popTo id k
  | _ :: k => popTo id k
def hasBlk (id : Nat) : List It → Bool
  | [] => false
  | .blk id' :: k => id' == id || hasBlk id k
  | _ :: k => hasBlk id k
/-- On to the end, or to the next loop's head. -/
def go (e : Env) : Nat → List It → State → Tr Leaf
  | 0, _, _ => .fail
  | _ + 1, [], s => .ret (.done s)
  | n + 1, .blk _ :: k, s => go e n k s
  | _ + 1, .lp c :: k, s => .ret (.head (.lp c :: k) s)
  | n + 1, .code c :: k, s =>
    match c with
    | .skip => go e n k s
    | .region _ ops d => (runRegion e ops d s.next ⟨s.tmps, s.mem⟩).bind fun r => go e n k ⟨r.tmps, r.mem, s.next + ops.size * stride⟩
    | .seq a b => go e n (.code a :: .code b :: k) s
    | .cond c a b => match rd s.tmps c with
      | .one (.bool t) => .ite t (go e n (.code a :: k) ⟨learnO c true s.tmps, s.mem, s.next⟩) (go e n (.code b :: k) ⟨learnO c false s.tmps, s.mem, s.next⟩)
      | _ => .fail
    | .block id c => go e n (.code c :: .blk id :: k) s
    | .loop c => .ret (.head (.lp c :: k) s)
    | .exit id => if hasBlk id k then go e n (popTo id k) s else .fail
    | .ret => .ret (.done s)
    | _ => .fail

/-- The results. -/
def resOne (e : Env) (s : State) : ResultVar → Option (Bool × List Sc)
  | .tmp t => match s.tmps.getD t (.one .undef) with
    | .one .undef => none
    | .one x => some (false, [x])
    | .agg l => some (true, l)
    | .tup _ => none
  | .cell a t => match s.tmps.getD a (.one .undef), e.tt t with
    | .one (.ptr id off), some ti => (cellsAt s.mem.get id off ti.size).bind fun l => if ti.isAgg || ti.size == 1 then some (ti.isAgg, l) else none
    | _, _ => none
def resAll (e : Env) (s : State) : List ResultVar → Option (List (Bool × List Sc))
  | [] => some []
  | x :: r => match resOne e s x, resAll e s r with
    | some a, some l => some (a :: l)
    | _, _ => none
def resAV (e : Env) (s : State) (l : List ResultVar) : Option AV :=
  match resAll e s l with
  | some [(a, cs)] => mkAV a cs
  | some l => some (.tup l)
  | none => none

/-- Memory anew: 'k' ids stay as they are, others are numbered on as they are met. -/
def initMem : Nat → List Ob → Mem
  | _, [] => []
  | i, .box l :: r => putCells i 0 l ++ initMem (i + 1) r
  | i, .rows E xs :: r => ((i, 0), some (.rows E xs)) :: initMem (i + 1) r
  | i, .dead :: r => initMem (i + 1) r
def idsSc : List Sc → List Nat
  | [] => []
  | .row id :: r => id :: idsSc r
  | .ptr id _ :: r => id :: idsSc r
  | .eptr id _ _ _ :: r => id :: idsSc r
  | _ :: r => idsSc r
def outIds (g : Get) (k : Nat) (v : List Sc) : List Nat :=
  let a := addNew (rangeFrom 0 k) (idsSc v)
  addNew a (a.flatMap fun id => idsOf (boxAt g id 64 0))
/-- What is kept at a loop's head: the temporaries, each as it is, or a nil slice as an empty one of the call's own (its elements' kind, a new number). -/
structure Keep where
  tmps : List Nat
  rowsT : List (Nat × K)          -- temporaries
  rowsC : List (Nat × Nat × K)    -- cells: the temporary that points to the variable, the cell; a temporary that holds a slice of the call's own: it is only read from here on
def keepTmps (l : List AV) (ks : List Nat) : Nat → Nat → List AV
  | _, 0 => []
  | i, n + 1 => (if ks.contains i then l.getD i (.one .undef) else .one .undef) :: keepTmps l ks (i + 1) n
/-- A nil slice in a temporary as a slice of the call's own without elements. -/
def growT : List (Nat × K) → State → State
  | [], s => s
  | (t, E) :: r, s => growT r (match s.tmps.getD t (.one .undef) with
    | .one .nils => ⟨s.tmps.set t (.one (.row s.next)), ((s.next, 0), some (.rows E [])) :: s.mem, s.next + 1⟩
    | _ => s)
def growC : List (Nat × Nat × K) → State → State
  | [], s => s
  | (t, off, E) :: r, s => growC r (match s.tmps.getD t (.one .undef) with
    | .one (.ptr id o) => match s.mem.get (id, o + off) with
      | some (.cell .nils) => ⟨s.tmps, ((id, o + off), some (.cell (.row s.next))) :: ((s.next, 0), some (.rows E [])) :: s.mem, s.next + 1⟩
      | _ => s
    | .one (.row id) => match s.mem.get (id, 0) with
      | some (.rows E' xs) => ⟨s.tmps.set t (.one (.vec false E' xs)), ((id, 0), none) :: s.mem, s.next⟩
      | _ => s
    | _ => s)
/-- The state anew, with 'k' numbers as they are and the others in the order in which they are met. -/
def renew (k : Nat) (s : State) : State :=
  let ids := outIds s.mem.get k (s.tmps.flatMap AV.all)
  let to := fun id => findAt id 0 ids
  ⟨s.tmps.map (AV.ren to), initMem 0 (ids.map (obAt s.mem.get to)), ids.length⟩
def canon (k : Nat) (kp : Keep) (s : State) : State :=
  let s := growC kp.rowsC (growT kp.rowsT s)
  renew k ⟨keepTmps s.tmps kp.tmps 0 s.tmps.length, s.mem, s.next⟩

def finish (e : Env) (fn : Func) (k : Nat) (s : State) : Tr (AV × List Ob) :=
  match resAV e s fn.results.toList with
  | none => .fail
  | some v =>
    let ids := outIds s.mem.get k v.all
    let to := fun id => findAt id 0 ids
    let obs := ids.map (obAt s.mem.get to)
    if noBor v.all = true ∧ obs.all noBorOb = true then .ret (v.ren to, obs) else .fail
/-- From a loop's head (or from the beginning) to the end, by at most so many visits of heads. -/
def openHead : List It → List It
  | .lp c :: k => .code c :: .lp c :: k
  | k => k
def fuel : Nat := 100000
def runM (e : Env) (k : Nat) (keep : Code → Keep) : Nat → List It → State → Tr State
  | 0, _, _ => .fail
  | n + 1, stk, s => (go e fuel (openHead stk) s).bind fun
    | .done s' => .ret s'
    | .head (.lp c :: k') s' => runM e k keep n (.lp c :: k') (canon k (keep c) s')
    | .head _ _ => .fail
def initTmps (n : Nat) (args : List AV) : List AV := args ++ List.replicate (n - args.length) (.one .undef)
/-- A function's body, from its arguments to its results. -/
def evalF (e : Env) (fn : Func) (keep : Code → Keep) (n : Nat) (args : List AV) (obs : List Ob) : Tr (AV × List Ob) :=
  match fn.body with
  | none => .fail
  | some c => (runM e obs.length keep n [.code c] ⟨initTmps fn.ntmps args, initMem 0 obs, obs.length⟩).bind (finish e fn obs.length)
/-- From a loop's head to the results. -/
def evalH (e : Env) (fn : Func) (keep : Code → Keep) (k n : Nat) (stk : List It) (s : State) : Tr (AV × List Ob) :=
  (runM e k keep n stk s).bind (finish e fn k)

end Go.Proofs.Ytipfipnhgpbceaa.Sx
