/- Plain theorems and definitions for the claim, put together out of several texts. -/
import Derived.WalkKit
import Derived.Orders
import Derived.Below
import Derived.Maps.Own
import Derived.Laws.IdiomCopy
import Derived.Laws.AppendOwn
import Derived.Laws.MakeOwn
/- A symbolic machine: what the Go code of this claim does, as a Lean function over numbers and lists (definitions only). -/


namespace Go.Proofs.Ytipfipnhgpbceaa.Sx

/-! ### The values of Go's struct types -/
structure Span where (lo hi : Int)
structure Sensor where (addr kind target offset scale error drift life : Int)
structure Measure where (sensor time lo hi : Int)
structure Place where (height : Int) (surface : Bool)
structure Road where (frm to len area : Int) (walk closed : Bool) (restLo restHi liftLo liftHi : Int)
structure Source where (road lo hi : Int)
structure Point where (flow pressure : Int)
structure Fan where (road : Int) (back aux : Bool) (curve : List Point)
structure Door where (road other : Int) (rests : List Int)
structure Arc where (road frm to : Int)
structure Pair where (a b : Int)
structure Share where (gas air : Int)
structure Frame where (addr kind : Int) (data : List Int)

/-- The kinds of elements of slices. -/
inductive K where
  | int | u8 | bool | span | sensor | measure | place | road | source | point | fan | door | arc | pair | share | frame | spans | sensors | sources
  deriving DecidableEq

abbrev D : K → Type
  | .int => Int | .u8 => Int | .bool => Bool | .span => Span | .sensor => Sensor | .measure => Measure | .place => Place | .road => Road
  | .source => Source | .point => Point | .fan => Fan | .door => Door | .arc => Arc | .pair => Pair | .share => Share | .frame => Frame
  | .spans => List Span | .sensors => List Sensor | .sources => List Source

/-- A cell: what it is known to hold. -/
inductive Sc where
  | undef
  | int (k : IntKind) (n : Int)
  | bool (b : Bool)
  | nils
  | vec (bor : Bool) (E : K) (xs : List (D E))
  | row (id : Nat)
  | ptr (id off : Nat)
  | eptr (id : Nat) (E : K) (i : Int) (off : Nat)
  | vptr (bor : Bool) (E : K) (xs : List (D E)) (i : Int) (off : Nat)
  | mp (id : Nat)

/-- The cells of an element. -/
def enc : (E : K) → D E → List Sc
  | .int, n => [.int .i64 n]
  | .u8, n => [.int .u8 n]
  | .bool, b => [.bool b]
  | .span, s => [.int .i64 s.lo, .int .i64 s.hi]
  | .sensor, s => [.int .i64 s.addr, .int .i64 s.kind, .int .i64 s.target, .int .i64 s.offset, .int .i64 s.scale, .int .i64 s.error, .int .i64 s.drift, .int .i64 s.life]
  | .measure, m => [.int .i64 m.sensor, .int .i64 m.time, .int .i64 m.lo, .int .i64 m.hi]
  | .place, p => [.int .i64 p.height, .bool p.surface]
  | .road, r => [.int .i64 r.frm, .int .i64 r.to, .int .i64 r.len, .int .i64 r.area, .bool r.walk, .bool r.closed, .int .i64 r.restLo, .int .i64 r.restHi, .int .i64 r.liftLo, .int .i64 r.liftHi]
  | .source, s => [.int .i64 s.road, .int .i64 s.lo, .int .i64 s.hi]
  | .point, p => [.int .i64 p.flow, .int .i64 p.pressure]
  | .fan, f => [.int .i64 f.road, .bool f.back, .bool f.aux, .vec false .point f.curve]
  | .door, d => [.int .i64 d.road, .int .i64 d.other, .vec false .int d.rests]
  | .arc, a => [.int .i64 a.road, .int .i64 a.frm, .int .i64 a.to]
  | .pair, p => [.int .i64 p.a, .int .i64 p.b]
  | .share, s => [.int .i64 s.gas, .int .i64 s.air]
  | .frame, f => [.int .i64 f.addr, .int .i64 f.kind, .vec false .u8 f.data]
  | .spans, l => [.vec false .span l]
  | .sensors, l => [.vec false .sensor l]
  | .sources, l => [.vec false .source l]

/-- An element out of its cells. -/
def dec : (E : K) → List Sc → Option (D E)
  | .int, [.int .i64 n] => some n
  | .u8, [.int .u8 n] => some n
  | .bool, [.bool b] => some b
  | .span, [.int .i64 a, .int .i64 b] => some ⟨a, b⟩
  | .sensor, [.int .i64 a, .int .i64 b, .int .i64 c, .int .i64 d, .int .i64 e, .int .i64 f, .int .i64 g, .int .i64 h] => some ⟨a, b, c, d, e, f, g, h⟩
  | .measure, [.int .i64 a, .int .i64 b, .int .i64 c, .int .i64 d] => some ⟨a, b, c, d⟩
  | .place, [.int .i64 a, .bool b] => some ⟨a, b⟩
  | .road, [.int .i64 a, .int .i64 b, .int .i64 c, .int .i64 d, .bool e, .bool f, .int .i64 g, .int .i64 h, .int .i64 i, .int .i64 j] => some ⟨a, b, c, d, e, f, g, h, i, j⟩
  | .source, [.int .i64 a, .int .i64 b, .int .i64 c] => some ⟨a, b, c⟩
  | .point, [.int .i64 a, .int .i64 b] => some ⟨a, b⟩
  | .fan, [.int .i64 a, .bool b, .bool c, .vec false .point l] => some ⟨a, b, c, l⟩
  | .fan, [.int .i64 a, .bool b, .bool c, .nils] => some ⟨a, b, c, []⟩
  | .door, [.int .i64 a, .int .i64 b, .vec false .int l] => some ⟨a, b, l⟩
  | .door, [.int .i64 a, .int .i64 b, .nils] => some ⟨a, b, []⟩
  | .arc, [.int .i64 a, .int .i64 b, .int .i64 c] => some ⟨a, b, c⟩
  | .pair, [.int .i64 a, .int .i64 b] => some ⟨a, b⟩
  | .share, [.int .i64 a, .int .i64 b] => some ⟨a, b⟩
  | .frame, [.int .i64 a, .int .i64 b, .vec false .u8 l] => some ⟨a, b, l⟩
  | .frame, [.int .i64 a, .int .i64 b, .nils] => some ⟨a, b, []⟩
  | .spans, [.vec false .span l] => some l
  | .spans, [.nils] => some []
  | .sensors, [.vec false .sensor l] => some l
  | .sensors, [.nils] => some []
  | .sources, [.vec false .source l] => some l
  | .sources, [.nils] => some []
  | _, _ => none

def dflt : (E : K) → D E
  | .int => (0 : Int) | .u8 => (0 : Int) | .bool => false | .span => (⟨0, 0⟩ : Span) | .sensor => (⟨0, 0, 0, 0, 0, 0, 0, 0⟩ : Sensor)
  | .measure => (⟨0, 0, 0, 0⟩ : Measure) | .place => (⟨0, false⟩ : Place) | .road => (⟨0, 0, 0, 0, false, false, 0, 0, 0, 0⟩ : Road)
  | .source => (⟨0, 0, 0⟩ : Source) | .point => (⟨0, 0⟩ : Point) | .fan => (⟨0, false, false, []⟩ : Fan) | .door => (⟨0, 0, []⟩ : Door)
  | .arc => (⟨0, 0, 0⟩ : Arc) | .pair => (⟨0, 0⟩ : Pair) | .share => (⟨0, 0⟩ : Share) | .frame => (⟨0, 0, []⟩ : Frame)
  | .spans => ([] : List Span) | .sensors => ([] : List Sensor) | .sources => ([] : List Source)

def esize : K → Nat
  | .int => 1 | .u8 => 1 | .bool => 1 | .span => 2 | .sensor => 8 | .measure => 4 | .place => 2 | .road => 10 | .source => 3 | .point => 2
  | .fan => 4 | .door => 3 | .arc => 3 | .pair => 2 | .share => 2 | .frame => 3 | .spans => 1 | .sensors => 1 | .sources => 1

/-- A value: one cell, a struct or an array, several results. -/
inductive AV where
  | one (s : Sc)
  | agg (l : List Sc)
  | tup (l : List (Bool × List Sc))

/-- What a computation comes to, by the tests and the calls on its way. -/
inductive Tr (α : Type) : Type 1 where
  | fail
  | ret (a : α)
  | ite (b : Bool) (t e : Tr α)
  | call {β : Type} (o : Option β) (f : β → Tr α)

def Tr.bind {α β : Type} : Tr α → (α → Tr β) → Tr β
  | .fail, _ => .fail
  | .ret a, f => f a
  | .ite b t e, f => .ite b (t.bind f) (e.bind f)
  | .call o g, f => .call o fun x => (g x).bind f

def Tr.den {α : Type} : Tr α → Option α
  | .fail => none
  | .ret a => some a
  | .ite b t e => if b then t.den else e.den
  | .call o f => o.bind fun x => (f x).den

def Tr.of {α : Type} : Option α → Tr α
  | none => .fail
  | some a => .ret a

def Tr.need {α : Type} (b : Bool) (t : Tr α) : Tr α := .ite b t .fail

/-- Memory of the call's own, or handed to it to write: variables' cells, and slices. -/
inductive MC where
  | cell (s : Sc)
  | rows (E : K) (xs : List (D E))
  | keys (xs : List Int)
abbrev Loc := Nat × Nat
/-- The latest word on a place comes first. -/
abbrev Mem := List (Loc × Option MC)
def leq (l l' : Loc) : Bool := l.1 == l'.1 && l.2 == l'.2
def Mem.get : Mem → Loc → Option MC
  | [], _ => none
  | (l', c) :: m, l => if leq l' l then c else Mem.get m l
abbrev Upd := List (Loc × Option MC)
def Mem.app (m : Mem) : Upd → Mem
  | [] => m
  | x :: u => Mem.app (x :: m) u
abbrev Get := Loc → Option MC
def hasLoc : List Loc → Loc → Bool
  | [], _ => false
  | l' :: r, l => leq l' l || hasLoc r l
/-- Memory, seen at some places alone. -/
def view (g : Get) (ls : List Loc) : Get := fun l => if hasLoc ls l then g l else none

/-- What is known of a type. -/
inductive TK where
  | scal (z : Sc)
  | strct (fields : List (Nat × TypeId))
  | slc (E : K)
  | arr (n : Nat) (elem : TypeId)
structure TI where
  kind : TK
  size : Nat
  zero : List Sc
abbrev TT := TypeId → Option TI

def TI.isAgg (t : TI) : Bool := match t.kind with | .strct _ => true | .arr _ _ => true | _ => false

structure State where
  tmps : List AV
  mem : Mem
  next : Nat

/-- A function's law: its arguments, the memory that is handed over (numbered from 0 on), its results, what that memory holds then, new memory (numbered on). -/
inductive Ob where
  | box (l : List Sc)
  | rows (E : K) (xs : List (D E))
  | keys (xs : List Int)
  | dead
structure Spec where
  wr : Bool
  run : List AV → List Ob → Tr (AV × List Ob)

structure Env where
  tt : TT
  eqk : TypeId → Option K
  fn : FuncId → Option Spec
  cut : Nat → Bool
  mt : TypeId → Bool
/-- The first region of a piece of code. -/
def ridOf : Code → Option Nat
  | .region id _ _ => some id
  | .seq a b => match ridOf a with | some i => some i | none => ridOf b
  | .cond _ a b => match ridOf a with | some i => some i | none => ridOf b
  | .block _ c => ridOf c
  | .loop c => ridOf c
  | _ => none
/-- Whether the way through the code stops ahead of a piece. -/
def cutAt (e : Env) (c : Code) : Bool := match ridOf c with | some i => e.cut i | none => false

def kindOf (e : Env) (t : TypeId) : Option TK := match e.tt t with | some ti => some ti.kind | none => none
abbrev Rd := Operand → AV

def constAV : Value → AV
  | .int k n => .one (.int k n)
  | .bool b => .one (.bool b)
  | .slice none 0 0 => .one .nils
  | _ => .one .undef
def rd (tmps : List AV) : Rd
  | .tmp t => tmps.getD t (.one .undef)
  | .const v => constAV v
  | _ => .one .undef

def AV.cells : AV → List Sc
  | .one .undef => []
  | .one s => [s]
  | .agg l => l
  | .tup _ => []
def mkAV (agg : Bool) (l : List Sc) : Option AV := if agg then some (.agg l) else match l with | [s] => some (.one s) | _ => none

/-- The cells from a place on. -/
def cellsAt (g : Get) (id off : Nat) : Nat → Option (List Sc)
  | 0 => some []
  | n + 1 => match g (id, off) with
    | some (.cell s) => match cellsAt g id (off + 1) n with
      | some l => some (s :: l)
      | none => none
    | _ => none
def putCells (id : Nat) : Nat → List Sc → Upd
  | _, [] => []
  | off, s :: l => ((id, off), some (.cell s)) :: putCells id (off + 1) l
def splice (l : List Sc) (off : Nat) (new : List Sc) : List Sc := l.take off ++ new ++ l.drop (off + new.length)

/-- A slice of the call's own that becomes part of something else: as what is only read. -/
def thawOne (g : Get) : Sc → Option (Sc × Upd)
  | .row id => match g (id, 0) with
    | some (.rows E xs) => some (.vec false E xs, [((id, 0), none)])
    | _ => none
  | .vec true _ _ => none
  | s => some (s, [])
def freeze (g : Get) : List Sc → Option (List Sc × Upd)
  | [] => some ([], [])
  | s :: l => match thawOne g s, freeze g l with
    | some (s', u), some (l', u') => some (s' :: l', u ++ u')
    | _, _ => none

def idx (xs : Nat) (i : Int) : Bool := decide (0 ≤ i) && decide (i < (xs : Int))
def lim : Nat := 1048576

def doLoad (e : Env) (t : TypeId) (p : AV) (g : Get) : Tr (AV × Upd) :=
  match e.tt t with
  | none => .fail
  | some ti => match p with
    | .one (.ptr id off) => match cellsAt g id off ti.size with
      | some l => match mkAV ti.isAgg l with | some v => .ret (v, []) | none => .fail
      | none => .fail
    | .one (.eptr id E' i off) => match g (id, 0) with
      | some (.rows E xs) => if E' = E ∧ off + ti.size ≤ esize E then match mkAV ti.isAgg (((enc E (xs.getD i.toNat (dflt E))).drop off).take ti.size) with | some v => .ret (v, []) | none => .fail else .fail
      | _ => .fail
    | .one (.vptr _ E xs i off) => if off + ti.size ≤ esize E then match mkAV ti.isAgg (((enc E (xs.getD i.toNat (dflt E))).drop off).take ti.size) with | some v => .ret (v, []) | none => .fail else .fail
    | _ => .fail

def doStore (e : Env) (t : TypeId) (p x : AV) (g : Get) : Tr (AV × Upd) :=
  match e.tt t with
  | none => .fail
  | some ti => match p with
    | .one (.ptr id off) => match cellsAt g id off ti.size with
      | some _ => if x.cells.length == ti.size && decide (0 < ti.size) then .ret (.one .undef, putCells id off x.cells) else .fail
      | none => .fail
    | .one (.eptr id E' i off) => match g (id, 0) with
      | some (.rows E xs) => match dec E (splice (enc E (xs.getD i.toNat (dflt E))) off x.cells) with
        | some y => if E' = E ∧ x.cells.length = ti.size ∧ 0 < ti.size ∧ off + ti.size ≤ esize E then .ret (.one .undef, [((id, 0), some (.rows E (xs.set i.toNat y)))]) else .fail
        | none => .fail
      | _ => .fail
    | _ => .fail

/-- Two structs compared. -/
def eqK : (E : K) → D E → D E → Option Bool
  | .span, x, y => some (x.lo == y.lo && (x.hi == y.hi))
  | .measure, x, y => some (x.sensor == y.sensor && (x.time == y.time && ((x.lo == y.lo && (x.hi == y.hi)))))
  | .pair, x, y => some (x.a == y.a && (x.b == y.b))
  | _, _, _ => none
def doEq (e : Env) (t : TypeId) (l l' : List Sc) : Option Bool :=
  match e.eqk t with
  | some E => match dec E l, dec E l' with
    | some x, some y => eqK E x y
    | _, _ => none
  | none => none

def doBin (e : Env) (op : BinOp) (t : TypeId) (x y : AV) : Tr AV :=
  match x, y with
  | .one (.int k a), .one (.int k' b) =>
    match op with
    | .shl => .need (decide (0 ≤ b)) (.ret (.one (.int k (k.wrap (a * 2 ^ (min b.toNat k.bits))))))
    | .shr => .need (decide (0 ≤ b)) (.ret (.one (.int k (a.fdiv (2 ^ (min b.toNat k.bits))))))
    | op => if k = k' then (match op with
      | .add => .ret (.one (.int k (k.wrap (a + b))))
      | .sub => .ret (.one (.int k (k.wrap (a - b))))
      | .mul => .ret (.one (.int k (k.wrap (a * b))))
      | .quo => .need (b != 0) (.ret (.one (.int k (k.wrap (a.tdiv b)))))
      | .rem => .need (b != 0) (.ret (.one (.int k (a.tmod b))))
      | .eql => .ret (.one (.bool (a == b)))
      | .neq => .ret (.one (.bool (a != b)))
      | .lss => .ret (.one (.bool (decide (a < b))))
      | .leq => .ret (.one (.bool (decide (a ≤ b))))
      | .gtr => .ret (.one (.bool (decide (a > b))))
      | .geq => .ret (.one (.bool (decide (a ≥ b))))
      | .or => .ret (.one (.int k (bits .or k a b)))
      | .and => .ret (.one (.int k (bits .and k a b)))
      | _ => .fail) else .fail
  | .one (.bool a), .one (.bool b) =>
    match op, kindOf e t with
    | .eql, some (.scal (.bool _)) => .ret (.one (.bool (a == b)))
    | .neq, some (.scal (.bool _)) => .ret (.one (.bool (!(a == b))))
    | _, _ => .fail
  | .agg l, .agg l' =>
    match op, doEq e t l l' with
    | .eql, some r => .ret (.one (.bool r))
    | .neq, some r => .ret (.one (.bool (!r)))
    | _, _ => .fail
  | _, _ => .fail

def doUn (op : UnOp) (x : AV) : Tr AV :=
  match op, x with
  | .neg, .one (.int k n) => .ret (.one (.int k (k.wrap (0 - n))))
  | .not, .one (.bool b) => .ret (.one (.bool !b))
  | _, _ => .fail

def doConvert (e : Env) (s d : TypeId) (x : AV) : Tr AV :=
  match kindOf e s, kindOf e d, x with
  | some (.scal (.int _ _)), some (.scal (.int k _)), .one (.int _ n) => .ret (.one (.int k (k.wrap n)))
  | _, _, _ => .fail

/-- A struct or an array out of parts. -/
def buildCells (place : Nat → Option (Nat × Nat)) : List Sc → List (Nat × List Sc) → Option (List Sc)
  | z, [] => some z
  | z, (i, c) :: r => match place i with
    | some (off, size) => if c.length = size ∧ 0 < size ∧ off + size ≤ z.length then buildCells place (splice z off c) r else none
    | none => none

def fieldAt (e : Env) (s : TypeId) (f : Nat) : Option (Nat × TI) :=
  match e.tt s with
  | some ti => match ti.kind with
    | .strct fs => match fs[f]? with
      | some (off, t) => match e.tt t with
        | some te => if 0 < te.size then some (off, te) else none
        | none => none
      | none => none
    | _ => none
  | none => none

def doBuild (e : Env) (t : TypeId) (parts : List (Nat × AV)) : Tr AV :=
  match e.tt t with
  | some ti => match ti.kind with
    | .strct _ => match buildCells (fun i => (fieldAt e t i).map fun p => (p.1, p.2.size)) ti.zero (parts.map fun p => (p.1, p.2.cells)) with
      | some l => .ret (.agg l)
      | none => .fail
    | .arr n el => match e.tt el with
      | some te => match buildCells (fun i => if i < n then some (i * te.size, te.size) else none) ti.zero (parts.map fun p => (p.1, p.2.cells)) with
        | some l => .ret (.agg l)
        | none => .fail
      | none => .fail
    | _ => .fail
  | none => .fail

/-- The elements of a slice's literal. -/
def litElems (E : K) (g : Get) : Nat → List (Nat × AV) → Option (List (D E) × Upd)
  | _, [] => some ([], [])
  | i, (j, v) :: r => if i == j then (match freeze g v.cells with
    | some (cs, u) => match dec E cs, litElems E g (i + 1) r with
      | some x, some (xs, u') => some (x :: xs, u ++ u')
      | _, _ => none
    | none => none) else none

/-- A slice as a list. -/
inductive AnyL where
  | nil
  | of (bor : Bool) (E : K) (xs : List (D E))
def listOf (g : Get) : AV → Option AnyL
  | .one .nils => some .nil
  | .one (.vec b E xs) => some (.of b E xs)
  | .one (.row id) => match g (id, 0) with
    | some (.rows E xs) => some (.of true E xs)
    | _ => none
  | _ => none
def asK (E : K) : (E' : K) → List (D E') → Option (List (D E)) := fun E' xs => if h : E' = E then some (h ▸ xs) else none

def AnyL.len : AnyL → Nat
  | .nil => 0
  | .of _ _ xs => xs.length

def sliceElem (e : Env) (t : TypeId) : Option K :=
  match kindOf e t with
  | some (.slc E) => some E
  | _ => none

def doAppend (e : Env) (t : TypeId) (s x : AV) (g : Get) (fresh : Nat) : Tr (AV × Upd) :=
  match sliceElem e t with
  | none => .fail
  | some E =>
    let old : Option (List (D E) × Upd) := match s with
      | .one .nils => some ([], [])
      | .one (.row id) => match g (id, 0) with
        | some (.rows E' xs) => (asK E E' xs).map (·, [((id, 0), none)])
        | _ => none
      | _ => none
    let new : Option (List (D E)) := match listOf g x with
      | some .nil => some []
      | some (.of _ E' xs) => asK E E' xs
      | none => none
    match old, new with
    | some (xs, u), some ys => .need (decide (xs.length + ys.length ≤ lim)) (.ret (.one (.row fresh), u ++ [((fresh, 0), some (.rows E (xs ++ ys)))]))
    | _, _ => .fail

def bound (o : Option AV) (d : Int) : Option Int := match o with
  | none => some d
  | some (.one (.int .i64 n)) => some n
  | _ => none

def cutList (bor : Bool) (E : K) (xs : List (D E)) (u : Upd) (lo hi : Option AV) : Tr (AV × Upd) :=
  match bound lo 0, bound hi (xs.length : Int) with
  | some l, some h => .need (decide (0 ≤ l) && (decide (l ≤ h) && decide (h ≤ (xs.length : Int)))) (.ret (.one (.vec bor E ((xs.take h.toNat).drop l.toNat)), u))
  | _, _ => .fail
def doSlice (e : Env) (t : TypeId) (x : AV) (lo hi : Option AV) (g : Get) : Tr (AV × Upd) :=
  match sliceElem e t with
  | some E' => match x with
    | .one (.vec b E xs) => if E' = E then cutList b E xs [] lo hi else .fail
    | .one (.row id) => match g (id, 0) with
      | some (.rows E xs) => if E' = E then cutList false E xs [((id, 0), none)] lo hi else .fail
      | _ => .fail
    | _ => .fail
  | none => .fail

def doMake (e : Env) (t : TypeId) (len cap : AV) (fresh : Nat) : Tr (AV × Upd) :=
  match sliceElem e t, len, cap with
  | some E, .one (.int .i64 n), .one (.int .i64 c) =>
    .need (decide (0 ≤ n) && (decide (n ≤ (lim : Int)) && (n == c))) (.ret (.one (.row fresh), [((fresh, 0), some (.rows E (List.replicate n.toNat (dflt E))))]))
  | _, _, _ => .fail

def mx (a b : Int) : Int := if b > a then b else a
def mn (a b : Int) : Int := if b < a then b else a
def foldInts (f : Int → Int → Int) : IntKind → Int → List AV → Option Sc
  | k, a, [] => some (.int k a)
  | k, a, .one (.int k' b) :: r => if k = k' then foldInts f k (f a b) r else none
  | _, _, _ => none

/-! #### Calls: memory handed over is numbered from 0 on -/
def stride : Nat := 16
def Sc.ren (f : Nat → Option Nat) : Sc → Sc
  | .row id => match f id with | some j => .row j | none => .undef
  | .ptr id off => match f id with | some j => .ptr j off | none => .undef
  | .mp id => match f id with | some j => .mp j | none => .undef
  | .eptr id E i off => match f id with | some j => .eptr j E i off | none => .undef
  | s => s
def AV.ren (f : Nat → Option Nat) : AV → AV
  | .one s => .one (s.ren f)
  | .agg l => .agg (l.map (Sc.ren f))
  | .tup l => .tup (l.map fun p => (p.1, p.2.map (Sc.ren f)))
def findAt (id : Nat) : Nat → List Nat → Option Nat
  | _, [] => none
  | i, x :: r => if x == id then some i else findAt id (i + 1) r
/-- All cells of a variable. -/
def boxAt (g : Get) (id : Nat) : Nat → Nat → List Sc
  | 0, _ => []
  | n + 1, off => match g (id, off) with
    | some (.cell s) => s :: boxAt g id n (off + 1)
    | _ => []
def idsOf : List Sc → List Nat
  | [] => []
  | .row id :: r => id :: idsOf r
  | _ :: r => idsOf r
def addNew (a : List Nat) : List Nat → List Nat
  | [] => a
  | x :: r => addNew (if a.contains x then a else a ++ [x]) r
/-- What is handed over: pointers' variables, and the slices that lie in them; slices themselves where the function writes to them. -/
def handed (wr : Bool) (g : Get) : List Nat → List AV → List Nat
  | a, [] => a
  | a, .one (.ptr id 0) :: r => handed wr g (addNew a (id :: idsOf (boxAt g id 64 0))) r
  | a, .one (.row id) :: r => handed wr g (if wr then addNew a [id] else a) r
  | a, _ :: r => handed wr g a r
def lendOne (wr : Bool) (g : Get) : Sc → Sc
  | .row id => if wr then .row id else match g (id, 0) with
    | some (.rows E xs) => .vec true E xs
    | _ => .undef
  | s => s
def lend (wr : Bool) (g : Get) : AV → AV
  | .one s => .one (lendOne wr g s)
  | .agg l => .agg (l.map (lendOne false g))
  | .tup l => .tup l
def obAt (g : Get) (f : Nat → Option Nat) (id : Nat) : Ob :=
  match g (id, 0) with
  | some (.rows E xs) => .rows E xs
  | some (.keys xs) => .keys xs
  | some (.cell _) => .box ((boxAt g id 64 0).map (Sc.ren f))
  | none => .dead
def backOb (f : Nat → Option Nat) (id : Nat) : Ob → Upd
  | .box l => putCells id 0 (l.map (Sc.ren f))
  | .rows E xs => [((id, 0), some (.rows E xs))]
  | .keys xs => [((id, 0), some (.keys xs))]
  | .dead => [((id, 0), none)]
def backObs (f : Nat → Option Nat) : List Nat → List Ob → Upd
  | id :: r, o :: os => backOb f id o ++ backObs f r os
  | _, _ => []
def rangeFrom (a : Nat) : Nat → List Nat
  | 0 => []
  | n + 1 => a :: rangeFrom (a + 1) n

/-- The slices that are lent to a call. -/
def lentIds (wr : Bool) : List AV → List Nat
  | [] => []
  | .one (.row id) :: r => if wr then lentIds wr r else id :: lentIds wr r
  | .agg l :: r => idsOf l ++ lentIds wr r
  | _ :: r => lentIds wr r
def sameOb : Ob → Ob → Bool
  | .box l, .box l' => l.length == l'.length
  | .box _, _ => false
  | _, .box _ => false
  | _, _ => true
def sameObs : List Ob → List Ob → Bool
  | [], _ => true
  | o :: r, o' :: r' => sameOb o o' && sameObs r r'
  | _ :: _, [] => false
def noBor : List Sc → Bool
  | [] => true
  | .vec b _ _ :: r => !b && noBor r
  | .vptr _ _ _ _ _ :: _ => false
  | .eptr _ _ _ _ :: _ => false
  | _ :: r => noBor r
def noBorOb : Ob → Bool
  | .box l => noBor l
  | _ => true
def AV.all : AV → List Sc
  | .one s => [s]
  | .agg l => l
  | .tup l => l.flatMap (·.2)
def doCall (e : Env) (f : FuncId) (args : List AV) (g : Get) (fresh : Nat) : Tr (AV × Upd) :=
  match e.fn f with
  | none => .fail
  | some sp =>
    let ids := handed sp.wr g [] args
    let to := fun id => findAt id 0 ids
    let args' := args.map fun a => (lend sp.wr g a).ren to
    let obs := ids.map (obAt g to)
    if (lentIds sp.wr args).any (fun id => ids.contains id) then .fail else
    (sp.run args' obs).bind fun r =>
      let all := ids ++ rangeFrom fresh (r.2.length - ids.length)
      let back := fun j => all[j]?
      if r.2.length ≤ ids.length + stride ∧ sameObs obs r.2 = true ∧ noBor r.1.all = true ∧ r.2.all noBorOb = true then .ret (r.1.ren back, backObs back all r.2) else .fail

def tmpsOf (l : List Operand) (r : Rd) : List AV := l.map r

def doIndexAddr (e : Env) (t : TypeId) (x ix : AV) (g : Get) : Tr (AV × Upd) :=
  match kindOf e t, x, ix with
  | some (.slc E'), .one (.vec b E xs), .one (.int _ i) => if E' = E then .need (idx xs.length i) (.ret (.one (.vptr b E xs i 0), [])) else .fail
  | some (.slc E'), .one (.row id), .one (.int _ i) => match g (id, 0) with
    | some (.rows E xs) => if E' = E then .need (idx xs.length i) (.ret (.one (.eptr id E i 0), [])) else .fail
    | _ => .fail
  | some (.arr n el), .one (.ptr id off), .one (.int _ i) => match e.tt el with
    | some te => if 0 ≤ i ∧ i < (n : Int) ∧ 1 < n then .ret (.one (.ptr id (off + i.toNat * te.size)), []) else .fail
    | none => .fail
  | _, _, _ => .fail
def doIndex (e : Env) (t : TypeId) (x ix : AV) : Tr (AV × Upd) :=
  match kindOf e t, x, ix with
  | some (.arr n el), .agg l, .one (.int _ i) => match e.tt el with
    | some te => if 0 ≤ i ∧ i < (n : Int) then (match mkAV te.isAgg ((l.drop (i.toNat * te.size)).take te.size) with | some v => .ret (v, []) | none => .fail) else .fail
    | none => .fail
  | _, _, _ => .fail
def doLen (e : Env) (ts : List TypeId) (x : AV) (g : Get) : Tr (AV × Upd) :=
  match ts with
  | [t] => match sliceElem e t, listOf g x with
    | some _, some l => .ret (.one (.int .i64 l.len), [])
    | _, _ => .fail
  | _ => .fail
def doMinMax (f : Int → Int → Int) (l : List AV) : Tr (AV × Upd) :=
  match l with
  | .one (.int k a) :: l => match foldInts f k a l with | some s => .ret (.one s, []) | none => .fail
  | _ => .fail
def doExtract (x : AV) (i : Nat) : Tr (AV × Upd) :=
  match x with
  | .tup l => match l[i]? with
    | some (a, cs) => match mkAV a cs with | some v => .ret (v, []) | none => .fail
    | none => .fail
  | _ => .fail
def doNil (x : AV) : Tr (AV × Upd) :=
  match x with
  | .one (.ptr id off) => .ret (.one (.ptr id off), [])
  | .one (.eptr id E i off) => .ret (.one (.eptr id E i off), [])
  | .one (.vptr b E xs i off) => .ret (.one (.vptr b E xs i off), [])
  | _ => .fail
def doField (e : Env) (s : TypeId) (f : Nat) (x : AV) : Tr (AV × Upd) :=
  match fieldAt e s f, x with
  | some (off, ti), .agg l => match mkAV ti.isAgg ((l.drop off).take ti.size) with | some v => .ret (v, []) | none => .fail
  | _, _ => .fail
def doFieldAddr (e : Env) (s : TypeId) (f : Nat) (x : AV) : Tr (AV × Upd) :=
  match fieldAt e s f, x with
  | some (off, _), .one (.ptr id o) => .ret (.one (.ptr id (o + off)), [])
  | some (off, _), .one (.eptr id E i o) => .ret (.one (.eptr id E i (o + off)), [])
  | some (off, _), .one (.vptr b E xs i o) => .ret (.one (.vptr b E xs i (o + off)), [])
  | _, _ => .fail
def doLit (e : Env) (t : TypeId) (n : Nat) (parts : List (Nat × AV)) (g : Get) (fresh : Nat) : Tr (AV × Upd) :=
  match sliceElem e t with
  | some E => match litElems E g 0 parts with
    | some (xs, u) => if xs.length = n ∧ n * esize E ≤ 16777216 then .ret (.one (.row fresh), u ++ [((fresh, 0), some (.rows E xs))]) else .fail
    | none => .fail
  | none => .fail
def doBuiltin (e : Env) (b : Builtin) (args : List AV) (ts : List TypeId) (g : Get) (fresh : Nat) : Tr (AV × Upd) :=
  match b, args with
  | .len, [x] => doLen e ts x g
  | .max, l => doMinMax mx l
  | .min, l => doMinMax mn l
  | .append, [s, x] => match ts with
    | [t, t'] => if t = t' then doAppend e t s x g fresh else .fail
    | _ => .fail
  | _, _ => .fail

def i64In (n : Int) : Bool := decide (-9223372036854775808 ≤ n) && decide (n ≤ 9223372036854775807)
/-- A map of the call's own, from numbers to Bools, all true. -/
def doPut (e : Env) (t : TypeId) (m k x : AV) (g : Get) : Tr (AV × Upd) :=
  match m, k, x with
  | .one (.mp id), .one (.int .i64 n), .one (.bool b) => match g (id, 0) with
    | some (.keys xs) => if e.mt t then .need (b && (i64In n && decide (xs.length < lim))) (.ret (.one .undef, [((id, 0), some (.keys (xs ++ [n])))])) else .fail
    | _ => .fail
  | _, _, _ => .fail
def doLook (e : Env) (t : TypeId) (m k : AV) (g : Get) : Tr (AV × Upd) :=
  match m, k with
  | .one (.mp id), .one (.int .i64 n) => match g (id, 0) with
    | some (.keys xs) => if e.mt t then .need (i64In n) (.ret (.one (.bool (xs.contains n)), [])) else .fail
    | _ => .fail
  | _, _ => .fail
/-- One operation: its value, and what becomes of memory. -/
def sem (e : Env) (o : Op) (r : Rd) (g : Get) (fresh : Nat) : Tr (AV × Upd) :=
  match o with
  | .move x => .ret (r x, [])
  | .pick c a b => match r c with
    | .one (.bool t) => .ite t (.ret (r a, [])) (.ret (r b, []))
    | _ => .fail
  | .assign x => .ret (r x, [])
  | .alloc t => match e.tt t with
    | some ti => if ti.zero.length ≤ 64 then .ret (.one (.ptr fresh 0), putCells fresh 0 ti.zero) else .fail
    | none => .fail
  | .box t x => match e.tt t with
    | some ti => if (r x).cells.length == ti.size && decide (ti.size ≤ 64) && decide (0 < ti.size) then .ret (.one (.ptr fresh 0), putCells fresh 0 (r x).cells) else .fail
    | none => .fail
  | .load t p => doLoad e t (r p) g
  | .store t p x => doStore e t (r p) (r x) g
  | .nilCheck x => doNil (r x)
  | .binOp op t x y _ => (doBin e op t (r x) (r y)).bind fun v => .ret (v, [])
  | .unOp op _ x => (doUn op (r x)).bind fun v => .ret (v, [])
  | .convert s d x => (doConvert e s d (r x)).bind fun v => .ret (v, [])
  | .extract x i => doExtract (r x) i
  | .field s x f => doField e s f (r x)
  | .fieldAddr s x f => doFieldAddr e s f (r x)
  | .indexAddr t x ix => doIndexAddr e t (r x) (r ix) g
  | .index t x ix => doIndex e t (r x) (r ix)
  | .build t parts => (doBuild e t (parts.toList.map fun p => (p.1, r p.2))).bind fun v => .ret (v, [])
  | .buildSlice t n parts => doLit e t n (parts.toList.map fun p => (p.1, r p.2)) g fresh
  | .makeSlice t l c => doMake e t (r l) (r c) fresh
  | .slice t x lo hi none => doSlice e t (r x) (lo.map r) (hi.map r) g
  | .makeMap t none => if e.mt t then .ret (.one (.mp fresh), [((fresh, 0), some (.keys []))]) else .fail
  | .mapUpdate t m k x => doPut e t (r m) (r k) (r x) g
  | .lookup t m k false => doLook e t (r m) (r k) g
  | .call c => match c.callee with
    | .value (.func f) => doCall e f (c.args.toList.map r) g fresh
    | .builtin b => doBuiltin e b (c.args.toList.map r) c.argTypes.toList g fresh
    | _ => .fail
  | _ => .fail

/-! #### Regions -/
def setTmp (l : List AV) : Option Nat → AV → List AV
  | some d, v => l.set d v
  | none, _ => l
structure RS where
  tmps : List AV
  mem : Mem
/-! What memory an operation looks at. -/
def locsFrom (id off : Nat) : Nat → List Loc
  | 0 => []
  | n + 1 => (id, off) :: locsFrom id (off + 1) n
def rowLocs : List Sc → List Loc
  | [] => []
  | .row id :: r => (id, 0) :: rowLocs r
  | _ :: r => rowLocs r
/-- A variable's places, up to the first that holds no cell. -/
def boxLocs (g : Get) (id : Nat) : Nat → Nat → List Loc
  | 0, _ => []
  | n + 1, off => (id, off) :: match g (id, off) with
    | some (.cell _) => boxLocs g id n (off + 1)
    | _ => []
/-- A call looks at the variables that it is handed, and at the slices in them; and at the slices among its arguments. -/
def tids (g : Get) : List AV → List Nat
  | [] => []
  | .one (.ptr id _) :: r => (id :: idsOf (boxAt g id 64 0)) ++ tids g r
  | .one (.row id) :: r => id :: tids g r
  | .agg l :: r => idsOf l ++ tids g r
  | _ :: r => tids g r
def argLocs (g : Get) (args : List AV) : List Loc := (tids g args).flatMap fun id => boxLocs g id 65 0
def mpLocs : AV → List Loc
  | .one (.mp id) => [(id, 0)]
  | _ => []
def readsOf (e : Env) (o : Op) (r : Rd) (g : Get) : List Loc :=
  match o with
  | .load t p => match r p with
    | .one (.ptr id off) => match e.tt t with
      | some ti => locsFrom id off ti.size
      | none => []
    | .one (.eptr id _ _ _) => [(id, 0)]
    | _ => []
  | .store t p x => (match r p with
    | .one (.ptr id off) => match e.tt t with
      | some ti => locsFrom id off ti.size
      | none => []
    | .one (.eptr id _ _ _) => [(id, 0)]
    | _ => []) ++ rowLocs (r x).cells
  | .indexAddr _ x _ => rowLocs (r x).cells
  | .slice _ x _ _ _ => rowLocs (r x).cells
  | .mapUpdate _ m _ _ => mpLocs (r m)
  | .lookup _ m _ _ => mpLocs (r m)
  | .buildSlice _ _ parts => parts.toList.flatMap fun p => rowLocs (r p.2).cells
  | .call c => match c.callee with
    | .value _ => argLocs g (c.args.toList.map r)
    | _ => c.args.toList.flatMap fun p => rowLocs (r p).cells
  | _ => []
def execOne (e : Env) (o : Oper) (s : RS) (fresh : Nat) : Tr (RS × List Loc × Upd) :=
  let rs := readsOf e o.op (rd s.tmps) s.mem.get
  (sem e o.op (rd s.tmps) (view s.mem.get rs) fresh).bind fun r => .ret (⟨setTmp s.tmps o.dst r.1, s.mem.app r.2⟩, rs, r.2)
/-- A test's outcome, known. -/
def learn (s : RS) (t : Tmp) (v : Bool) : RS := ⟨s.tmps.set t (.one (.bool v)), s.mem⟩
def learnO (c : Operand) (v : Bool) (l : List AV) : List AV := match c with
  | .tmp t => l.set t (.one (.bool v))
  | _ => l
/-- What is not wanted leaves nothing behind: the empty tuple tells so. -/
def skipOp (o : Oper) (s : RS) : RS × List Loc × Upd := (⟨setTmp s.tmps o.dst (.tup []), s.mem⟩, [], [])
def runOp (e : Env) (ops : Array Oper) (base i : Nat) (s : RS) : Tr (RS × List Loc × Upd) :=
  match ops[i]? with
  | none => .fail
  | some o =>
    match o.guard with
    | none => execOne e o s (base + i * stride)
    | some (j, want) => match (ops[j]?).bind (·.dst) with
      | some t => match s.tmps.getD t (.one .undef) with
        | .one (.bool b) => match want with
          | true => .ite b (execOne e o (learn s t true) (base + i * stride)) (.ret (skipOp o (learn s t false)))
          | false => .ite b (.ret (skipOp o (learn s t true))) (execOne e o (learn s t false) (base + i * stride))
        | .tup [] => .ret (skipOp o s)
        | _ => .fail
      | none => .fail
/-- A region in the order of the text. -/
def runOps (e : Env) (ops : Array Oper) (base : Nat) : List Nat → RS → Tr RS
  | [], s => .ret s
  | i :: l, s => (runOp e ops base i s).bind fun r => runOps e ops base l r.1
/-- What has been done: an operation's number, what it looked at, where it wrote. -/
structure Done where
  i : Nat
  reads : List Loc
  writes : List Loc
def meets (a b : List Loc) : Bool := a.any fun l => hasLoc b l
def apartB (ops : Array Oper) (i j : Nat) : Bool :=
  match ops[i]?, ops[j]? with
  | some x, some y => x.apart ops y && (match x.dst, y.dst with | some d, some d' => d != d' | _, _ => true)
  | _, _ => false
def freeOf (ops : Array Oper) (bef : Array Nat) (i : Nat) (reads writes : List Loc) (d : Done) : Bool :=
  (bef.getD (max i d.i) 0).testBit (min i d.i) || (apartB ops d.i i && !meets d.writes reads && !meets d.writes writes && !meets writes d.reads)
/-- A region whose order is open: in the order of the text, and no other order would tell. -/
def runOpsD (e : Env) (ops : Array Oper) (bef : Array Nat) (base : Nat) : List Nat → RS → List Done → Tr RS
  | [], s, _ => .ret s
  | i :: l, s, log => (runOp e ops base i s).bind fun r =>
    let ws := r.2.2.map (·.1)
    if log.all (freeOf ops bef i r.2.1 ws) then runOpsD e ops bef base l r.1 (⟨i, r.2.1, ws⟩ :: log) else .fail
def backEdges (ops : Array Oper) : Bool := (List.range ops.size).all fun j => match ops[j]? with | some o => o.after.toList.all (fun e => !Region.binds .any e || decide (e.on < j)) | none => true
def runRegion (e : Env) (ops : Array Oper) (draw : Bool) (base : Nat) (s : RS) : Tr RS :=
  if draw then if backEdges ops = false then .fail else runOpsD e ops (Region.before ops) base (List.range ops.size) s [] else runOps e ops base (List.range ops.size) s

/-- The stack of what is left to do. -/
inductive It where
  | code (c : Code)
  | blk (id : Nat)
  | lp (c : Code)
  | cut (c : Code)
inductive Leaf where
  | done (s : State)
  | head (stk : List It) (s : State)
def popTo (id : Nat) : List It → List It
  | [] => []
  | .blk id' :: k => if id' = id then k else popTo id k
  | _ :: k => popTo id k
def hasBlk (id : Nat) : List It → Bool
  | [] => false
  | .blk id' :: k => id' == id || hasBlk id k
  | _ :: k => hasBlk id k
/-- On to the end, or to the next loop's head. -/
def go (e : Env) : Nat → List It → State → Tr Leaf
  | 0, _, _ => .fail
  | _ + 1, [], s => .ret (.done s)
  | n + 1, .blk _ :: k, s => go e n k s
  | _ + 1, .lp c :: k, s => .ret (.head (.lp c :: k) s)
  | _ + 1, .cut c :: k, s => .ret (.head (.code c :: k) s)
  | n + 1, .code c :: k, s =>
    match c with
    | .skip => go e n k s
    | .region _ ops d => (runRegion e ops d s.next ⟨s.tmps, s.mem⟩).bind fun r => go e n k ⟨r.tmps, r.mem, s.next + ops.size * stride⟩
    | .seq a b => go e n (.code a :: (if cutAt e b then .cut b else .code b) :: k) s
    | .cond c a b => match rd s.tmps c with
      | .one (.bool t) => .ite t (go e n (.code a :: k) ⟨learnO c true s.tmps, s.mem, s.next⟩) (go e n (.code b :: k) ⟨learnO c false s.tmps, s.mem, s.next⟩)
      | _ => .fail
    | .block id c => go e n (.code c :: .blk id :: k) s
    | .loop c => .ret (.head (.lp c :: k) s)
    | .exit id => if hasBlk id k then go e n (popTo id k) s else .fail
    | .ret => .ret (.done s)
    | _ => .fail

/-- The results. -/
def resOne (e : Env) (s : State) : ResultVar → Option (Bool × List Sc)
  | .tmp t => match s.tmps.getD t (.one .undef) with
    | .one .undef => none
    | .one x => some (false, [x])
    | .agg l => some (true, l)
    | .tup _ => none
  | .cell a t => match s.tmps.getD a (.one .undef), e.tt t with
    | .one (.ptr id off), some ti => (cellsAt s.mem.get id off ti.size).bind fun l => if ti.isAgg || ti.size == 1 then some (ti.isAgg, l) else none
    | _, _ => none
def resAll (e : Env) (s : State) : List ResultVar → Option (List (Bool × List Sc))
  | [] => some []
  | x :: r => match resOne e s x, resAll e s r with
    | some a, some l => some (a :: l)
    | _, _ => none
def resAV (e : Env) (s : State) (l : List ResultVar) : Option AV :=
  match resAll e s l with
  | some [(a, cs)] => mkAV a cs
  | some l => some (.tup l)
  | none => none

/-- Memory anew: 'k' ids stay as they are, others are numbered on as they are met. -/
def initMem : Nat → List Ob → Mem
  | _, [] => []
  | i, .box l :: r => putCells i 0 l ++ initMem (i + 1) r
  | i, .rows E xs :: r => ((i, 0), some (.rows E xs)) :: initMem (i + 1) r
  | i, .keys xs :: r => ((i, 0), some (.keys xs)) :: initMem (i + 1) r
  | i, .dead :: r => initMem (i + 1) r
def idsSc : List Sc → List Nat
  | [] => []
  | .row id :: r => id :: idsSc r
  | .ptr id _ :: r => id :: idsSc r
  | .mp id :: r => id :: idsSc r
  | .eptr id _ _ _ :: r => id :: idsSc r
  | _ :: r => idsSc r
def outIds (g : Get) (k : Nat) (v : List Sc) : List Nat :=
  let a := addNew (rangeFrom 0 k) (idsSc v)
  addNew a (a.flatMap fun id => idsOf (boxAt g id 64 0))
/-- What is kept at a loop's head: the temporaries, each as it is, or a nil slice as an empty one of the call's own (its elements' kind, a new number). -/
structure Keep where
  tmps : List Nat
  rowsT : List (Nat × K)          -- temporaries
  rowsC : List (Nat × Nat × K)    -- cells: the temporary that points to the variable, the cell; a temporary that holds a slice of the call's own: it is only read from here on
def keepTmps (l : List AV) (ks : List Nat) : Nat → Nat → List AV
  | _, 0 => []
  | i, n + 1 => (if ks.contains i then l.getD i (.one .undef) else .one .undef) :: keepTmps l ks (i + 1) n
/-- A nil slice in a temporary as a slice of the call's own without elements. -/
def growT : List (Nat × K) → State → State
  | [], s => s
  | (t, E) :: r, s => growT r (match s.tmps.getD t (.one .undef) with
    | .one .nils => ⟨s.tmps.set t (.one (.row s.next)), ((s.next, 0), some (.rows E [])) :: s.mem, s.next + 1⟩
    | _ => s)
def growC : List (Nat × Nat × K) → State → State
  | [], s => s
  | (t, off, E) :: r, s => growC r (match s.tmps.getD t (.one .undef) with
    | .one (.ptr id o) => match s.mem.get (id, o + off) with
      | some (.cell .nils) => ⟨s.tmps, ((id, o + off), some (.cell (.row s.next))) :: ((s.next, 0), some (.rows E [])) :: s.mem, s.next + 1⟩
      | _ => s
    | .one (.row id) => match s.mem.get (id, 0) with
      | some (.rows E' xs) => ⟨s.tmps.set t (.one (.vec false E' xs)), ((id, 0), none) :: s.mem, s.next⟩
      | _ => s
    | _ => s)
/-- The state anew, with 'k' numbers as they are and the others in the order in which they are met. -/
def renew (k : Nat) (s : State) : State :=
  let ids := outIds s.mem.get k (s.tmps.flatMap AV.all)
  let to := fun id => findAt id 0 ids
  ⟨s.tmps.map (AV.ren to), initMem 0 (ids.map (obAt s.mem.get to)), ids.length⟩
def canon (k : Nat) (kp : Keep) (s : State) : State :=
  let s := growC kp.rowsC (growT kp.rowsT s)
  renew k ⟨keepTmps s.tmps kp.tmps 0 s.tmps.length, s.mem, s.next⟩

def finish (e : Env) (fn : Func) (k : Nat) (s : State) : Tr (AV × List Ob) :=
  match resAV e s fn.results.toList with
  | none => .fail
  | some v =>
    let ids := outIds s.mem.get k v.all
    let to := fun id => findAt id 0 ids
    let obs := ids.map (obAt s.mem.get to)
    if noBor v.all = true ∧ obs.all noBorOb = true then .ret (v.ren to, obs) else .fail
/-- From a loop's head (or from the beginning) to the end, by at most so many visits of heads. -/
def openHead : List It → List It
  | .lp c :: k => .code c :: .lp c :: k
  | k => k
def fuel : Nat := 100000
def runM (e : Env) (k : Nat) (keep : Code → Keep) : Nat → List It → State → Tr State
  | 0, _, _ => .fail
  | n + 1, stk, s => (go e fuel (openHead stk) s).bind fun
    | .done s' => .ret s'
    | .head (.lp c :: k') s' => runM e k keep n (.lp c :: k') (canon k (keep c) s')
    | .head (.code c :: k') s' => runM e k keep n (.code c :: k') (canon k (keep c) s')
    | .head _ _ => .fail
def initTmps (n : Nat) (args : List AV) : List AV := args ++ List.replicate (n - args.length) (.one .undef)
/-- A function's body, from its arguments to its results. -/
def evalF (e : Env) (fn : Func) (keep : Code → Keep) (n : Nat) (args : List AV) (obs : List Ob) : Tr (AV × List Ob) :=
  match fn.body with
  | none => .fail
  | some c => (runM e obs.length keep n [.code c] ⟨initTmps fn.ntmps args, initMem 0 obs, obs.length⟩).bind (finish e fn obs.length)
/-- From a loop's head to the results. -/
def evalH (e : Env) (fn : Func) (keep : Code → Keep) (k n : Nat) (stk : List It) (s : State) : Tr (AV × List Ob) :=
  (runM e k keep n stk s).bind (finish e fn k)

end Go.Proofs.Ytipfipnhgpbceaa.Sx
/- The symbolic machine's state and the world: when the one tells of the other; and how that lasts (plain theorems). -/



set_option linter.unusedVariables false
set_option linter.unusedSimpArgs false
namespace Go.Proofs.Ytipfipnhgpbceaa.Sx
open Go

/-! ### Lists side by side -/
def All2 {α β : Type} (R : α → β → Prop) : List α → List β → Prop
  | [], [] => True
  | a :: as, b :: bs => R a b ∧ All2 R as bs
  | _, _ => False

section
variable {α β : Type} {R S : α → β → Prop}
theorem All2.length : ∀ {as : List α} {bs : List β}, All2 R as bs → as.length = bs.length
  | [], [], _ => rfl
  | _ :: as, _ :: bs, h => by simp [All2.length h.2]
  | [], _ :: _, h => h.elim
  | _ :: _, [], h => h.elim
theorem All2.imp (hRS : ∀ a b, R a b → S a b) : ∀ {as : List α} {bs : List β}, All2 R as bs → All2 S as bs
  | [], [], _ => trivial
  | _ :: _, _ :: _, h => ⟨hRS _ _ h.1, All2.imp hRS h.2⟩
  | [], _ :: _, h => h.elim
  | _ :: _, [], h => h.elim
theorem All2.get : ∀ {as : List α} {bs : List β}, All2 R as bs → ∀ {j : Nat} {b : β}, bs[j]? = some b → ∃ a, as[j]? = some a ∧ R a b
  | [], [], _, j, b, hb => by simp at hb
  | a :: as, b' :: bs, h, 0, b, hb => by simp at hb; subst hb; exact ⟨a, by simp, h.1⟩
  | a :: as, b' :: bs, h, j + 1, b, hb => by simp at hb; simpa using All2.get h.2 hb
  | [], _ :: _, h, _, _, _ => h.elim
  | _ :: _, [], h, _, _, _ => h.elim
theorem All2.get' : ∀ {as : List α} {bs : List β}, All2 R as bs → ∀ {j : Nat} {a : α}, as[j]? = some a → ∃ b, bs[j]? = some b ∧ R a b
  | [], [], _, j, b, hb => by simp at hb
  | a :: as, b' :: bs, h, 0, b, hb => by simp at hb; subst hb; exact ⟨b', by simp, h.1⟩
  | a :: as, b' :: bs, h, j + 1, b, hb => by simp at hb; simpa using All2.get' h.2 hb
  | [], _ :: _, h, _, _, _ => h.elim
  | _ :: _, [], h, _, _, _ => h.elim
theorem All2.append : ∀ {as as' : List α} {bs bs' : List β}, All2 R as bs → All2 R as' bs' → All2 R (as ++ as') (bs ++ bs')
  | [], _, [], _, _, h' => h'
  | _ :: _, _, _ :: _, _, h, h' => ⟨h.1, All2.append h.2 h'⟩
  | [], _, _ :: _, _, h, _ => h.elim
  | _ :: _, _, [], _, h, _ => h.elim
theorem All2.take : ∀ {as : List α} {bs : List β}, All2 R as bs → ∀ n, All2 R (as.take n) (bs.take n)
  | [], [], _, n => by simp [All2]
  | _ :: _, _ :: _, _, 0 => by simp [All2]
  | _ :: _, _ :: _, h, n + 1 => by simpa [All2] using ⟨h.1, All2.take h.2 n⟩
  | [], _ :: _, h, _ => h.elim
  | _ :: _, [], h, _ => h.elim
theorem All2.drop : ∀ {as : List α} {bs : List β}, All2 R as bs → ∀ n, All2 R (as.drop n) (bs.drop n)
  | [], [], _, n => by simp [All2]
  | _ :: _, _ :: _, h, 0 => by simpa [All2] using h
  | _ :: _, _ :: _, h, n + 1 => by simpa using All2.drop h.2 n
  | [], _ :: _, h, _ => h.elim
  | _ :: _, [], h, _ => h.elim
theorem All2.of_get : ∀ {as : List α} {bs : List β}, as.length = bs.length → (∀ (j : Nat) (a : α) (b : β), as[j]? = some a → bs[j]? = some b → R a b) → All2 R as bs
  | [], [], _, _ => trivial
  | a :: as, b :: bs, hl, h => ⟨h 0 a b (by simp) (by simp), All2.of_get (by simpa using hl) fun j a b ha hb => h (j + 1) a b (by simpa using ha) (by simpa using hb)⟩
  | [], _ :: _, hl, _ => by simp at hl
  | _ :: _, [], hl, _ => by simp at hl
end

theorem enc_len (E : K) (x : D E) : (enc E x).length = esize E := by cases E <;> rfl
theorem esize_pos (E : K) : 0 < esize E := by cases E <;> decide
/-- The cells of a list's elements, in a row. -/
def flat (E : K) (xs : List (D E)) : List Sc := xs.flatMap (enc E)
theorem flat_nil (E : K) : flat E [] = [] := rfl
theorem flat_cons (E : K) (x : D E) (xs : List (D E)) : flat E (x :: xs) = enc E x ++ flat E xs := rfl
theorem flat_append (E : K) (xs ys : List (D E)) : flat E (xs ++ ys) = flat E xs ++ flat E ys := by simp [flat]
theorem flat_len (E : K) (xs : List (D E)) : (flat E xs).length = xs.length * esize E := by
  induction xs with
  | nil => simp [flat]
  | cons x xs ih => rw [flat_cons, List.length_append, enc_len, ih, List.length_cons, Nat.succ_mul, Nat.add_comm]
theorem flat_take (E : K) (xs : List (D E)) (n : Nat) : (flat E xs).take (n * esize E) = flat E (xs.take n) := by
  induction xs generalizing n with
  | nil => simp [flat]
  | cons x xs ih =>
    cases n with
    | zero => simp [flat]
    | succ n =>
      rw [List.take_succ_cons, flat_cons, flat_cons, List.take_append, enc_len, Nat.succ_mul, Nat.add_sub_cancel, ih]
      rw [List.take_of_length_le (by rw [enc_len]; omega)]
theorem flat_drop (E : K) (xs : List (D E)) (n : Nat) : (flat E xs).drop (n * esize E) = flat E (xs.drop n) := by
  induction xs generalizing n with
  | nil => simp [flat]
  | cons x xs ih =>
    cases n with
    | zero => simp [flat]
    | succ n =>
      rw [List.drop_succ_cons, flat_cons, List.drop_append, enc_len, Nat.succ_mul, Nat.add_sub_cancel, ih]
      rw [List.drop_of_length_le (by rw [enc_len]; omega), List.nil_append]
theorem flat_get (E : K) (xs : List (D E)) (i j : Nat) (hi : i < xs.length) (hj : j < esize E) : (flat E xs)[i * esize E + j]? = (enc E (xs.getD i (dflt E)))[j]? := by
  induction xs generalizing i with
  | nil => simp at hi
  | cons x xs ih =>
    cases i with
    | zero =>
      rw [flat_cons, Nat.zero_mul, Nat.zero_add, List.getElem?_append_left (by rw [enc_len]; exact hj)]
      rfl
    | succ i =>
      rw [flat_cons, List.getElem?_append_right (by rw [enc_len, Nat.succ_mul]; omega), enc_len, Nat.succ_mul]
      rw [show i * esize E + esize E + j - esize E = i * esize E + j by omega, ih i (by simpa using hi)]
      rfl
theorem flat_idx_lt {E : K} {n i j : Nat} (hi : i < n) (hj : j < esize E) : i * esize E + j < n * esize E := by
  have : (i + 1) * esize E ≤ n * esize E := Nat.mul_le_mul_right _ hi
  rw [Nat.succ_mul] at this
  omega

/-! ### Memory -/
theorem leq_iff {l l' : Loc} : leq l l' = true ↔ l = l' := by
  obtain ⟨a, b⟩ := l
  obtain ⟨c, d⟩ := l'
  simp [leq]
theorem leq_self (l : Loc) : leq l l = true := leq_iff.2 rfl
theorem get_cons (l' l : Loc) (c : Option MC) (m : Mem) : Mem.get ((l', c) :: m) l = if l' = l then c else m.get l := by
  show (if leq l' l then c else m.get l) = _
  by_cases h : l' = l
  · simp [h, leq_self]
  · have : leq l' l = false := by cases hx : leq l' l with | false => rfl | true => exact absurd (leq_iff.1 hx) h
    simp [h, this]
theorem hasLoc_iff {ls : List Loc} {l : Loc} : hasLoc ls l = true ↔ l ∈ ls := by
  induction ls with
  | nil => simp [hasLoc]
  | cons x r ih => rw [hasLoc, Bool.or_eq_true, leq_iff, ih, List.mem_cons]; exact ⟨fun h => h.imp Eq.symm id, fun h => h.imp Eq.symm id⟩

/-- What stands at places behind an update. -/
def upd1 (g : Get) (l : Loc) (c : Option MC) : Get := fun l' => if l = l' then c else g l'
def updG (g : Get) : Upd → Get
  | [] => g
  | (l, c) :: u => updG (upd1 g l c) u
theorem get_app (m : Mem) (u : Upd) : (m.app u).get = updG m.get u := by
  induction u generalizing m with
  | nil => rfl
  | cons x u ih =>
    obtain ⟨l, c⟩ := x
    rw [Mem.app, ih, updG]
    congr 1
    funext l'
    rw [get_cons]; rfl
theorem updG_append (g : Get) (u v : Upd) : updG g (u ++ v) = updG (updG g u) v := by
  induction u generalizing g with
  | nil => rfl
  | cons x u ih => obtain ⟨l, c⟩ := x; simp [updG, ih]

/-! ### The relation -/
abbrev Rho := Nat → Option Value
abbrev Okp := Bool → Nat → Prop

/-- What a cell holds. -/
inductive SRel (w : World) (ρ : Rho) (ok : Okp) : Value → Sc → Prop
  | undef (v : Value) (h : v.oneCell' = true) : SRel w ρ ok v .undef
  | int (k : IntKind) (n : Int) : SRel w ρ ok (.int k n) (.int k n)
  | bool (b : Bool) : SRel w ρ ok (.bool b) (.bool b)
  | nils : SRel w ρ ok (.slice none 0 0) .nils
  | vec0 (b : Bool) (E : K) (A : Option Addr) (cap : Nat) : SRel w ρ ok (.slice A 0 cap) (.vec b E [])
  | vec (b : Bool) (E : K) (xs : List (D E)) (blk off cap : Nat) (U : Nat → Value) (hc : xs.length ≤ cap) (hok : ok b blk)
      (hcell : ∀ k, k < xs.length * esize E → w.cell? ⟨blk, off + k, none⟩ = some (U k))
      (hrel : ∀ k s, (flat E xs)[k]? = some s → SRel w ρ ok (U k) s) :
      SRel w ρ ok (.slice (some ⟨blk, off, none⟩) xs.length cap) (.vec b E xs)
  | row (id : Nat) (A : Option Addr) (n cap : Nat) (h : ρ id = some (.slice A n cap)) : SRel w ρ ok (.slice A n cap) (.row id)
  | ptr (id off b : Nat) (h : ρ id = some (.pointer (some ⟨b, 0, none⟩))) : SRel w ρ ok (.pointer (some ⟨b, off, none⟩)) (.ptr id off)
  | eptr (id : Nat) (E : K) (i : Int) (off b n cap : Nat) (h : ρ id = some (.slice (some ⟨b, 0, none⟩) n cap)) (h0 : 0 ≤ i) (h1 : i < n) :
      SRel w ρ ok (.pointer (some ⟨b, i.toNat * esize E + off, none⟩)) (.eptr id E i off)
  | vptr (b : Bool) (E : K) (xs : List (D E)) (i : Int) (off blk o : Nat) (U : Nat → Value) (hok : ok b blk) (h0 : 0 ≤ i) (h1 : i < xs.length)
      (hcell : ∀ j, j < esize E → w.cell? ⟨blk, o + (i.toNat * esize E + j), none⟩ = some (U j))
      (hrel : ∀ j s, (enc E (xs.getD i.toNat (dflt E)))[j]? = some s → SRel w ρ ok (U j) s) :
      SRel w ρ ok (.pointer (some ⟨blk, o + (i.toNat * esize E + off), none⟩)) (.vptr b E xs i off)
  | mp (id b : Nat) (h : ρ id = some (.map (some b))) : SRel w ρ ok (.map (some b)) (.mp id)

theorem SRel.one {w : World} {ρ : Rho} {ok : Okp} {v : Value} {s : Sc} (h : SRel w ρ ok v s) : v.oneCell' = true := by
  cases h <;> first | assumption | rfl

/-- The world has gone on: what may be looked at stays, more may be looked at, more is known by number. -/
structure Ext (w : World) (ρ : Rho) (ok : Okp) (w' : World) (ρ' : Rho) (ok' : Okp) : Prop where
  heap : ∀ x b, ok x b → w'.heap[b]? = w.heap[b]?
  ok : ∀ x b, ok x b → ok' x b
  rho : ∀ id v, ρ id = some v → ρ' id = some v
theorem Ext.refl (w : World) (ρ : Rho) (ok : Okp) : Ext w ρ ok w ρ ok := ⟨fun _ _ _ => rfl, fun _ _ h => h, fun _ _ h => h⟩
theorem Ext.trans {w w' w'' : World} {ρ ρ' ρ'' : Rho} {ok ok' ok'' : Okp} (h : Ext w ρ ok w' ρ' ok') (h' : Ext w' ρ' ok' w'' ρ'' ok'') : Ext w ρ ok w'' ρ'' ok'' :=
  ⟨fun x b hb => (h'.heap x b (h.ok x b hb)).trans (h.heap x b hb), fun x b hb => h'.ok x b (h.ok x b hb), fun id v hv => h'.rho id v (h.rho id v hv)⟩

theorem SRel.mono {w w' : World} {ρ ρ' : Rho} {ok ok' : Okp} (he : Ext w ρ ok w' ρ' ok') {v : Value} {s : Sc} (h : SRel w ρ ok v s) : SRel w' ρ' ok' v s := by
  induction h with
  | undef v h => exact .undef v h
  | int k n => exact .int k n
  | bool b => exact .bool b
  | nils => exact .nils
  | vec0 b E A cap => exact .vec0 b E A cap
  | vec b E xs blk off cap U hc hok hcell hrel ih =>
    exact .vec b E xs blk off cap U hc (he.ok _ _ hok) (fun k hk => by rw [World.cell?_of_block (w := w) (he.heap _ _ hok)]; exact hcell k hk) (fun k s hs => ih k s hs)
  | row id A n cap h => exact .row id A n cap (he.rho _ _ h)
  | ptr id off b h => exact .ptr id off b (he.rho _ _ h)
  | eptr id E i off b n cap h h0 h1 => exact .eptr id E i off b n cap (he.rho _ _ h) h0 h1
  | vptr b E xs i off blk o U hok h0 h1 hcell hrel ih =>
    exact .vptr b E xs i off blk o U (he.ok _ _ hok) h0 h1 (fun j hj => by rw [World.cell?_of_block (w := w) (he.heap _ _ hok)]; exact hcell j hj) (fun j s hs => ih j s hs)
  | mp id b h => exact .mp id b (he.rho _ _ h)

/-- One of several results. -/
def PRel (w : World) (ρ : Rho) (ok : Okp) (v : Value) (p : Bool × List Sc) : Prop :=
  (p.1 = true ∧ ∃ us, v = .agg us ∧ All2 (SRel w ρ ok) us.toList p.2) ∨ (p.1 = false ∧ ∃ s, p.2 = [s] ∧ SRel w ρ ok v s)
inductive VRel (w : World) (ρ : Rho) (ok : Okp) : Value → AV → Prop
  | any (v : Value) : VRel w ρ ok v (.one .undef)
  | one (v : Value) (s : Sc) (h : SRel w ρ ok v s) : VRel w ρ ok v (.one s)
  | agg (vs : Array Value) (l : List Sc) (h : All2 (SRel w ρ ok) vs.toList l) : VRel w ρ ok (.agg vs) (.agg l)
  | tup (vs : Array Value) (l : List (Bool × List Sc)) (h : All2 (PRel w ρ ok) vs.toList l) : VRel w ρ ok (.tuple vs) (.tup l)
theorem PRel.mono {w w' : World} {ρ ρ' : Rho} {ok ok' : Okp} (he : Ext w ρ ok w' ρ' ok') {v : Value} {p : Bool × List Sc} (h : PRel w ρ ok v p) : PRel w' ρ' ok' v p := by
  rcases h with ⟨h1, us, h2, h3⟩ | ⟨h1, s, h2, h3⟩
  · exact .inl ⟨h1, us, h2, h3.imp fun _ _ => SRel.mono he⟩
  · exact .inr ⟨h1, s, h2, h3.mono he⟩
theorem VRel.mono {w w' : World} {ρ ρ' : Rho} {ok ok' : Okp} (he : Ext w ρ ok w' ρ' ok') {v : Value} {a : AV} (h : VRel w ρ ok v a) : VRel w' ρ' ok' v a := by
  cases h with
  | any v => exact .any v
  | one v s h => exact .one v s (h.mono he)
  | agg vs l h => exact .agg vs l (h.imp fun _ _ => SRel.mono he)
  | tup vs l h => exact .tup vs l (h.imp fun _ _ => PRel.mono he)
/-- The cells of a value. -/
theorem VRel.cells {w : World} {ρ : Rho} {ok : Okp} {v : Value} {a : AV} (h : VRel w ρ ok v a) (hn : a.cells ≠ []) : All2 (SRel w ρ ok) v.cells.toList a.cells := by
  cases h with
  | any v => simp [AV.cells] at hn
  | one v s h =>
    have h1 := h.one
    have hc : v.cells = #[v] := by cases v <;> first | rfl | simp [Value.oneCell'] at h1
    rw [hc]
    cases s <;> first | exact ⟨h, trivial⟩ | simp [AV.cells] at hn
  | agg vs l h => exact h
  | tup vs l h => simp [AV.cells] at hn

def blkOf : Value → Option Nat
  | .pointer (some a) => some a.block
  | .slice (some a) _ _ => some a.block
  | .map (some b) => some b
  | _ => none
def LiveAt (g : Get) (ρ : Rho) (l : Loc) (b : Nat) : Prop := (∃ c, g l = some c) ∧ ∃ v, ρ l.1 = some v ∧ blkOf v = some b
/-- A slice of the call's own. -/
def RRel (w : World) (ρ : Rho) (ok : Okp) (v : Value) (E : K) (xs : List (D E)) : Prop :=
  ∃ A cap, v = .slice A xs.length cap ∧ xs.length ≤ cap ∧
    ((A = none ∧ cap = 0) ∨ ∃ b T cur, A = some ⟨b, 0, none⟩ ∧ w.heap[b]? = some (.cells cur T (0, 0)) ∧ cur.size = cap * esize E ∧
      All2 (SRel w ρ ok) (cur.toList.take (xs.length * esize E)) (flat E xs))
/-- What a map reads as. -/
def keysD : List Int → DataW Unit
  | [] => .map []
  | n :: l => (keysD l).put (.int .i64 n) (.lit (.bool true))
/-- A program whose types 3 and 4 are int and bool. -/
def MapP (P : Program) : Prop := P.underlying 3 = some (.int .i64) ∧ P.underlying 4 = some .bool
/-- A map of the call's own. -/
def MapIs (w : World) (b : Nat) (xs : List Int) : Prop := ∀ P : Program, MapP P → w.ownsMap P 3 (plainElem P 4) b xs.length (keysD xs.reverse)
theorem MapIs.of {w w' : World} {b : Nat} {xs : List Int} (h : MapIs w b xs) (hb : w'.heap[b]? = w.heap[b]?) : MapIs w' b xs := fun P hP => by
  obtain ⟨es, clock, h1, h2, h3, h4⟩ := h P hP
  exact ⟨es, clock, hb.trans h1, h2, h3, h4⟩
structure HRel (w : World) (ρ : Rho) (ok : Okp) (g : Get) : Prop where
  cells : ∀ id off s, g (id, off) = some (.cell s) → ∃ b v, ρ id = some (.pointer (some ⟨b, 0, none⟩)) ∧ w.cell? ⟨b, off, none⟩ = some v ∧ w.frozen? ⟨b, off, none⟩ = false ∧ SRel w ρ ok v s
  rows : ∀ id off E xs, g (id, off) = some (.rows E xs) → off = 0 ∧ ∃ v, ρ id = some v ∧ RRel w ρ ok v E xs
  keys : ∀ id off xs, g (id, off) = some (.keys xs) → off = 0 ∧ ∃ b, ρ id = some (.map (some b)) ∧ b < w.heap.size ∧ MapIs w b xs
  dist : ∀ l l' b, LiveAt g ρ l b → LiveAt g ρ l' b → l.1 = l'.1
  oks : ∀ x b, ok x b → b < w.heap.size ∧ ∀ l, ¬ LiveAt g ρ l b
  cont : ∀ id off s, g (id, off) = some (.cell s) → off < 64 ∧ ∀ o, o < off → ∃ s', g (id, o) = some (.cell s')

theorem blkOf_ptr (b o : Nat) : blkOf (.pointer (some ⟨b, o, none⟩)) = some b := rfl
theorem HRel.live_lt {w : World} {ρ : Rho} {ok : Okp} {g : Get} (h : HRel w ρ ok g) {l : Loc} {b : Nat} (hl : LiveAt g ρ l b) : b < w.heap.size := by
  obtain ⟨⟨c, hc⟩, v, hv, hb⟩ := hl
  obtain ⟨id, off⟩ := l
  cases c with
  | cell s =>
    obtain ⟨b', v', hr, hcell, _⟩ := h.cells id off s hc
    have : v = .pointer (some ⟨b', 0, none⟩) := Option.some.inj (hv.symm.trans hr)
    subst this
    obtain rfl : b' = b := by simpa [blkOf] using hb
    exact World.block_lt_of_cell? _ _ hcell
  | rows E xs =>
    obtain ⟨_, v', hr, A, cap, hv', _, h2⟩ := h.rows id off E xs hc
    have : v = v' := Option.some.inj (hv.symm.trans hr)
    subst this hv'
    rcases h2 with ⟨rfl, _⟩ | ⟨b', T, vs, rfl, hh, _⟩
    · simp [blkOf] at hb
    · obtain rfl : b' = b := by simpa [blkOf] using hb
      exact (Array.getElem?_eq_some_iff.1 hh).1
  | keys xs =>
    obtain ⟨_, b', hr, hlt, _⟩ := h.keys id off xs hc
    have : v = .map (some b') := Option.some.inj (hv.symm.trans hr)
    subst this
    obtain rfl : b' = b := by simpa [blkOf] using hb
    exact hlt

/-- What a call begins with: the world then, the blocks that it is handed to write, what it may look at. -/
structure Ctx where
  w0 : World
  M0 : Nat → Prop
  ok0 : Okp
structure Fr (C : Ctx) (w : World) : Prop where
  os : w.os = C.w0.os
  tape : w.tape = C.w0.tape
  output : w.output = C.w0.output
  size : C.w0.heap.size ≤ w.heap.size
  heap : ∀ b, b < C.w0.heap.size → ¬ C.M0 b → w.heap[b]? = C.w0.heap[b]?
/-- The heap's part of the relation in a call. -/
structure CRel (C : Ctx) (w : World) (ρ : Rho) (ok : Okp) (g : Get) : Prop extends HRel w ρ ok g where
  own : ∀ l b, LiveAt g ρ l b → C.w0.heap.size ≤ b ∨ C.M0 b
  ok0 : ∀ x b, C.ok0 x b → ok x b
  okn : ∀ b, ok false b → C.ok0 false b ∨ C.w0.heap.size ≤ b ∨ C.M0 b
  fr : Fr C w
structure TRel (w : World) (ρ : Rho) (ok : Okp) (a : Act) (tmps : List AV) : Prop where
  defers : a.defers = []
  size : a.tmps.size = tmps.length
  tm : ∀ t, VRel w ρ ok (a.tmps.getD t undef) (tmps.getD t (.one .undef))

theorem TRel.mono {w w' : World} {ρ ρ' : Rho} {ok ok' : Okp} (he : Ext w ρ ok w' ρ' ok') {a : Act} {tmps : List AV} (h : TRel w ρ ok a tmps) : TRel w' ρ' ok' a tmps :=
  ⟨h.defers, h.size, fun t => (h.tm t).mono he⟩
theorem TRel.put {w : World} {ρ : Rho} {ok : Okp} {a : Act} {tmps : List AV} (h : TRel w ρ ok a tmps) (dst : Option Tmp) {v : Value} {x : AV} (hv : VRel w ρ ok v x) :
    TRel w ρ ok (a.put dst v) (setTmp tmps dst x) := by
  cases dst with
  | none => exact h
  | some d =>
    refine ⟨h.defers, by simp [Act.put, setTmp, h.size], fun t => ?_⟩
    simp only [Act.put, setTmp, Array.getD_eq_getD_getElem?, List.getD_eq_getElem?_getD]
    by_cases hd : d = t
    · subst hd
      by_cases hl : d < a.tmps.size
      · have hl' : d < tmps.length := by rw [← h.size]; exact hl
        rw [Array.getElem?_setIfInBounds_self_of_lt hl, List.getElem?_set_self hl']
        simpa using hv
      · have hl' : ¬ d < tmps.length := by rw [← h.size]; exact hl
        have h1 : (a.tmps.setIfInBounds d v)[d]? = none := Array.getElem?_eq_none (by rw [Array.size_setIfInBounds]; exact Nat.le_of_not_lt hl)
        have h2 : (tmps.set d x)[d]? = none := List.getElem?_eq_none (by rw [List.length_set]; exact Nat.le_of_not_lt hl')
        rw [h1, h2]
        exact .any _
    · rw [Array.getElem?_setIfInBounds_ne hd, List.getElem?_set_ne hd]
      have := h.tm t
      simpa only [Array.getD_eq_getD_getElem?, List.getD_eq_getElem?_getD] using this
theorem TRel.rd {w : World} {ρ : Rho} {ok : Okp} {a : Act} {tmps : List AV} (h : TRel w ρ ok a tmps) (x : Operand) : VRel w ρ ok (a.eval x) (rd tmps x) := by
  cases x with
  | tmp t => exact h.tm t
  | const v =>
    simp only [Sx.rd, Act.eval]
    unfold constAV
    split
    · exact .one _ _ (.int _ _)
    · exact .one _ _ (.bool _)
    · exact .one _ _ .nils
    · exact .any _
  | global g => exact .any _
  | func f => exact .any _
end Go.Proofs.Ytipfipnhgpbceaa.Sx
/- The symbolic machine: what a store, a new block, a slice's growth do to the relation with the world (plain theorems). -/

set_option linter.unusedVariables false
set_option linter.unusedSimpArgs false
namespace Go.Proofs.Ytipfipnhgpbceaa.Sx
open Go

theorem upd1_same (g : Get) (l : Loc) (c : Option MC) : upd1 g l c l = c := by simp [upd1]
theorem upd1_ne (g : Get) {l l' : Loc} (c : Option MC) (h : l ≠ l') : upd1 g l c l' = g l' := by simp [upd1, h]
theorem live_upd {g : Get} {ρ : Rho} {l l' : Loc} {c : Option MC} {b : Nat} (h : LiveAt (upd1 g l c) ρ l' b) : (l' = l ∧ ∃ v, ρ l.1 = some v ∧ blkOf v = some b) ∨ LiveAt g ρ l' b := by
  obtain ⟨⟨x, hx⟩, v, hv, hb⟩ := h
  by_cases he : l = l'
  · subst he; exact .inl ⟨rfl, v, hv, hb⟩
  · rw [upd1_ne g c he] at hx
    exact .inr ⟨⟨x, hx⟩, v, hv, hb⟩

/-- More may be looked at: blocks that no place leads to. -/
theorem CRel.more {C : Ctx} {w : World} {ρ : Rho} {ok ok' : Okp} {g : Get} (h : CRel C w ρ ok g) (h1 : ∀ x b, ok x b → ok' x b)
    (h2 : ∀ x b, ok' x b → ok x b ∨ (b < w.heap.size ∧ (∀ l, ¬ LiveAt g ρ l b) ∧ (C.w0.heap.size ≤ b ∨ C.M0 b))) : CRel C w ρ ok' g ∧ Ext w ρ ok w ρ ok' := by
  have he : Ext w ρ ok w ρ ok' := ⟨fun _ _ _ => rfl, h1, fun _ _ h => h⟩
  refine ⟨{ cells := ?_, rows := ?_, keys := h.keys, dist := h.dist, oks := ?_, cont := h.cont, own := h.own, ok0 := fun x b hb => h1 _ _ (h.ok0 x b hb), okn := ?_, fr := h.fr }, he⟩
  · intro id off s hg
    obtain ⟨b, v, a1, a2, a3, a4⟩ := h.cells id off s hg
    exact ⟨b, v, a1, a2, a3, a4.mono he⟩
  · intro id off E xs hg
    obtain ⟨a0, v, a1, A, cap, a2, a3, a4⟩ := h.rows id off E xs hg
    refine ⟨a0, v, a1, A, cap, a2, a3, ?_⟩
    rcases a4 with a4 | ⟨b, T, vs, b1, b2, b3, b4⟩
    · exact .inl a4
    · exact .inr ⟨b, T, vs, b1, b2, b3, b4.imp fun _ _ => SRel.mono he⟩
  · intro x b hb
    rcases h2 x b hb with h3 | ⟨h3, h4, _⟩
    · exact h.oks x b h3
    · exact ⟨h3, h4⟩
  · intro b hb
    rcases h2 false b hb with h3 | ⟨_, _, h4⟩
    · exact h.okn b h3
    · exact .inr h4

/-- A store into a cell of the call's own. -/
theorem CRel.setCell {C : Ctx} {w : World} {ρ : Rho} {ok : Okp} {g : Get} (h : CRel C w ρ ok g) {id off b : Nat} {s s0 : Sc} {v : Value}
    (hr : ρ id = some (.pointer (some ⟨b, 0, none⟩))) (hg : g (id, off) = some (.cell s0)) (hv : SRel w ρ ok v s) :
    CRel C (w.setCell ⟨b, off, none⟩ v) ρ ok (upd1 g (id, off) (some (.cell s))) ∧ Ext w ρ ok (w.setCell ⟨b, off, none⟩ v) ρ ok := by
  have hlive : LiveAt g ρ (id, off) b := ⟨⟨_, hg⟩, _, hr, rfl⟩
  have hnok : ∀ x b', ok x b' → b' ≠ b := fun x b' hb he => (h.oks x b' hb).2 _ (he ▸ hlive)
  have hsame : ∀ k, k ≠ b → (w.setCell ⟨b, off, none⟩ v).heap[k]? = w.heap[k]? := fun k hk => RowKit.Below.heap_setCell w _ v k hk
  have he : Ext w ρ ok (w.setCell ⟨b, off, none⟩ v) ρ ok := ⟨fun x b' hb => hsame _ (hnok x b' hb), fun _ _ h => h, fun _ _ h => h⟩
  obtain ⟨b0, v0, c1, c2, c3, c4⟩ := h.cells id off s0 hg
  have hb0 : b0 = b := by
    have := Option.some.inj (c1.symm.trans hr)
    simpa using this
  subst hb0
  refine ⟨{ cells := ?_, rows := ?_, keys := ?_, dist := ?_, oks := ?_, cont := ?_, own := ?_, ok0 := h.ok0, okn := h.okn, fr := ?_ }, he⟩
  · intro id' off' s' hg'
    by_cases hl : (id, off) = (id', off')
    · cases hl
      rw [upd1_same] at hg'
      cases hg'
      exact ⟨b0, v, hr, World.cell?_setCell_same w _ v c2, by rw [World.frozen?_setCell]; exact c3, hv.mono he⟩
    · rw [upd1_ne g _ hl] at hg'
      obtain ⟨b', v', a1, a2, a3, a4⟩ := h.cells id' off' s' hg'
      refine ⟨b', v', a1, ?_, by rw [World.frozen?_setCell]; exact a3, a4.mono he⟩
      rw [World.cell?_setCell_other]
      · exact a2
      · intro heq
        have hbb : b0 = b' := by injection heq
        have hoo : off = off' := by injection heq
        subst hbb hoo
        have := h.dist (id, off) (id', off) b0 hlive ⟨⟨_, hg'⟩, _, a1, rfl⟩
        exact hl (by simp at this; rw [this])
  · intro id' off' E xs hg'
    have hl : (id, off) ≠ (id', off') := by
      intro heq; cases heq; rw [upd1_same] at hg'; cases hg'
    rw [upd1_ne g _ hl] at hg'
    obtain ⟨a0, v', a1, A, cap, a2, a3, a4⟩ := h.rows id' off' E xs hg'
    refine ⟨a0, v', a1, A, cap, a2, a3, ?_⟩
    rcases a4 with a4 | ⟨b', T, vs, b1, b2, b3, b4⟩
    · exact .inl a4
    · refine .inr ⟨b', T, vs, b1, ?_, b3, b4.imp fun _ _ => SRel.mono he⟩
      rw [hsame]
      · exact b2
      · rintro rfl
        have := h.dist (id, off) (id', off') b' hlive ⟨⟨_, hg'⟩, v', a1, by rw [a2, b1]; rfl⟩
        have hid : id = id' := this
        subst hid
        rw [hr] at a1
        cases a1; cases a2
  · intro id' off' xs hg'
    have hl : (id, off) ≠ (id', off') := by
      intro heq; cases heq; rw [upd1_same] at hg'; cases hg'
    rw [upd1_ne g _ hl] at hg'
    obtain ⟨a0, b', a1, a2, a3⟩ := h.keys id' off' xs hg'
    refine ⟨a0, b', a1, by rw [World.size_setCell]; exact a2, a3.of (hsame _ ?_)⟩
    rintro rfl
    have := h.dist (id, off) (id', off') b' hlive ⟨⟨_, hg'⟩, _, a1, rfl⟩
    have hid : id = id' := this
    subst hid
    rw [hr] at a1
    cases a1
  · intro l l' b' hl hl'
    refine h.dist l l' b' ?_ ?_
    · rcases live_upd hl with ⟨rfl, v', hv', hb'⟩ | h'
      · exact ⟨⟨_, hg⟩, v', hv', hb'⟩
      · exact h'
    · rcases live_upd hl' with ⟨rfl, v', hv', hb'⟩ | h'
      · exact ⟨⟨_, hg⟩, v', hv', hb'⟩
      · exact h'
  · intro x b' hb
    refine ⟨by rw [World.size_setCell]; exact (h.oks x b' hb).1, fun l hl => ?_⟩
    rcases live_upd hl with ⟨rfl, v', hv', hb'⟩ | h'
    · exact (h.oks x b' hb).2 _ ⟨⟨_, hg⟩, v', hv', hb'⟩
    · exact (h.oks x b' hb).2 _ h'
  · intro id' off' s' hg'
    have key : ∃ s'', g (id', off') = some (.cell s'') := by
      by_cases hl : (id, off) = (id', off')
      · cases hl; exact ⟨s0, hg⟩
      · rw [upd1_ne g _ hl] at hg'; exact ⟨s', hg'⟩
    obtain ⟨s'', hg''⟩ := key
    obtain ⟨d1, d2⟩ := h.cont id' off' s'' hg''
    refine ⟨d1, fun o ho => ?_⟩
    by_cases hl : (id, off) = (id', o)
    · exact ⟨s, by rw [← hl, upd1_same]⟩
    · rw [upd1_ne g _ hl]; exact d2 o ho
  · intro l b' hl
    rcases live_upd hl with ⟨rfl, v', hv', hb'⟩ | h'
    · exact h.own _ b' ⟨⟨_, hg⟩, v', hv', hb'⟩
    · exact h.own l b' h'
  · refine ⟨h.fr.os, h.fr.tape, h.fr.output, by rw [World.size_setCell]; exact h.fr.size, fun k hk hm => ?_⟩
    rw [hsame]
    · exact h.fr.heap k hk hm
    · rintro rfl
      rcases h.own _ _ hlive with h' | h'
      · omega
      · exact hm h'

def updR (ρ : Rho) (id : Nat) (v : Value) : Rho := fun i => if i = id then some v else ρ i
theorem updR_same (ρ : Rho) (id : Nat) (v : Value) : updR ρ id v id = some v := by simp [updR]
theorem updR_ne (ρ : Rho) {id i : Nat} (v : Value) (h : i ≠ id) : updR ρ id v i = ρ i := by simp [updR, h]

/-- A place of an id that has no handle holds nothing. -/
theorem HRel.fresh {w : World} {ρ : Rho} {ok : Okp} {g : Get} (h : HRel w ρ ok g) {id : Nat} (hf : ρ id = none) (off : Nat) : g (id, off) = none := by
  cases hg : g (id, off) with
  | none => rfl
  | some c =>
    cases c with
    | cell s => obtain ⟨b, v, h1, _⟩ := h.cells id off s hg; rw [hf] at h1; cases h1
    | rows E xs => obtain ⟨_, v, h1, _⟩ := h.rows id off E xs hg; rw [hf] at h1; cases h1
    | keys xs => obtain ⟨_, v, h1, _⟩ := h.keys id off xs hg; rw [hf] at h1; cases h1

/-- A new block, and a number for what it is known by. Nothing is said of its cells yet. -/
theorem CRel.newBlock {C : Ctx} {w : World} {ρ : Rho} {ok : Okp} {g : Get} (h : CRel C w ρ ok g) {id : Nat} (hf : ρ id = none) (o : Obj) (v : Value) :
    CRel C (w.alloc o) (updR ρ id v) ok g ∧ Ext w ρ ok (w.alloc o) (updR ρ id v) ok := by
  have hold : ∀ k, k < w.heap.size → (w.alloc o).heap[k]? = w.heap[k]? := fun k hk => RowKit.Below.heap_alloc w o k hk
  have hrho : ∀ i u, ρ i = some u → updR ρ id v i = some u := fun i u hu => by
    rw [updR_ne]; exact hu
    rintro rfl; rw [hf] at hu; cases hu
  have he : Ext w ρ ok (w.alloc o) (updR ρ id v) ok := ⟨fun x b hb => hold b (h.oks x b hb).1, fun _ _ h => h, hrho⟩
  have hlive : ∀ l b, LiveAt g (updR ρ id v) l b → LiveAt g ρ l b := by
    rintro ⟨i, off⟩ b ⟨⟨c, hc⟩, u, hu, hb⟩
    by_cases hi : i = id
    · subst hi; rw [h.fresh hf off] at hc; cases hc
    · exact ⟨⟨c, hc⟩, u, by simpa [updR_ne ρ v hi] using hu, hb⟩
  refine ⟨{ cells := ?_, rows := ?_, keys := ?_, dist := ?_, oks := ?_, cont := h.cont, own := fun l b hl => h.own l b (hlive l b hl), ok0 := h.ok0, okn := h.okn, fr := ?_ }, he⟩
  · intro i off s hg
    obtain ⟨b, u, a1, a2, a3, a4⟩ := h.cells i off s hg
    have hlt := World.block_lt_of_cell? _ _ a2
    exact ⟨b, u, hrho _ _ a1, by rw [World.cell?_alloc_lt _ _ _ hlt]; exact a2, by rw [World.frozen?_alloc_old _ _ _ (Nat.ne_of_lt hlt)]; exact a3, a4.mono he⟩
  · intro i off E xs hg
    obtain ⟨a0, u, a1, A, cap, a2, a3, a4⟩ := h.rows i off E xs hg
    refine ⟨a0, u, hrho _ _ a1, A, cap, a2, a3, ?_⟩
    rcases a4 with a4 | ⟨b, T, vs, b1, b2, b3, b4⟩
    · exact .inl a4
    · exact .inr ⟨b, T, vs, b1, by rw [hold b (Array.getElem?_eq_some_iff.1 b2).1]; exact b2, b3, b4.imp fun _ _ => SRel.mono he⟩
  · intro i off xs hg
    obtain ⟨a0, b, a1, a2, a3⟩ := h.keys i off xs hg
    exact ⟨a0, b, hrho _ _ a1, by rw [World.size_alloc]; omega, a3.of (hold b a2)⟩
  · exact fun l l' b hl hl' => h.dist l l' b (hlive _ _ hl) (hlive _ _ hl')
  · exact fun x b hb => ⟨by rw [World.size_alloc]; have := (h.oks x b hb).1; omega, fun l hl => (h.oks x b hb).2 l (hlive _ _ hl)⟩
  · refine ⟨h.fr.os, h.fr.tape, h.fr.output, by rw [World.size_alloc]; have := h.fr.size; omega, fun k hk hm => ?_⟩
    rw [hold k (by have := h.fr.size; omega)]
    exact h.fr.heap k hk hm

/-- The world goes on, but for what is known or looked at. -/
theorem CRel.world {C : Ctx} {w w' : World} {ρ : Rho} {ok : Okp} {g : Get} (h : CRel C w ρ ok g) (hk : ∀ b, ((∃ x, ok x b) ∨ ∃ l, LiveAt g ρ l b) → w'.heap[b]? = w.heap[b]?)
    (hsz : w.heap.size ≤ w'.heap.size) (hsame : w'.os = w.os ∧ w'.tape = w.tape ∧ w'.output = w.output) (hfr : ∀ b, b < C.w0.heap.size → ¬ C.M0 b → w'.heap[b]? = w.heap[b]?) :
    CRel C w' ρ ok g ∧ Ext w ρ ok w' ρ ok := by
  have he : Ext w ρ ok w' ρ ok := ⟨fun x b hb => hk b (.inl ⟨x, hb⟩), fun _ _ h => h, fun _ _ h => h⟩
  refine ⟨{ cells := ?_, rows := ?_, keys := ?_, dist := h.dist, oks := fun x b hb => ⟨by have := (h.oks x b hb).1; omega, (h.oks x b hb).2⟩, cont := h.cont, own := h.own, ok0 := h.ok0, okn := h.okn, fr := ?_ }, he⟩
  · intro i off s hg
    obtain ⟨b, u, a1, a2, a3, a4⟩ := h.cells i off s hg
    have hb := hk b (.inr ⟨(i, off), ⟨_, hg⟩, _, a1, rfl⟩)
    exact ⟨b, u, a1, by rw [World.cell?_of_block (w := w) hb]; exact a2, by rw [World.frozen?_of_block (w := w) hb]; exact a3, a4.mono he⟩
  · intro i off E xs hg
    obtain ⟨a0, u, a1, A, cap, a2, a3, a4⟩ := h.rows i off E xs hg
    refine ⟨a0, u, a1, A, cap, a2, a3, ?_⟩
    rcases a4 with a4 | ⟨b, T, vs, b1, b2, b3, b4⟩
    · exact .inl a4
    · exact .inr ⟨b, T, vs, b1, by rw [hk b (.inr ⟨(i, off), ⟨_, hg⟩, u, a1, by rw [a2, b1]; rfl⟩)]; exact b2, b3, b4.imp fun _ _ => SRel.mono he⟩
  · intro i off xs hg
    obtain ⟨a0, b, a1, a2, a3⟩ := h.keys i off xs hg
    exact ⟨a0, b, a1, by omega, a3.of (hk b (.inr ⟨(i, off), ⟨_, hg⟩, _, a1, rfl⟩))⟩
  · exact ⟨hsame.1.trans h.fr.os, hsame.2.1.trans h.fr.tape, hsame.2.2.trans h.fr.output, by have := h.fr.size; omega, fun b hb hm => (hfr b hb hm).trans (h.fr.heap b hb hm)⟩
/-- A number for what has had none. -/
theorem CRel.name {C : Ctx} {w : World} {ρ : Rho} {ok : Okp} {g : Get} (h : CRel C w ρ ok g) {id : Nat} (hf : ρ id = none) (v : Value) :
    CRel C w (updR ρ id v) ok g ∧ Ext w ρ ok w (updR ρ id v) ok := by
  have hrho : ∀ i u, ρ i = some u → updR ρ id v i = some u := fun i u hu => by
    rw [updR_ne]; exact hu
    rintro rfl; rw [hf] at hu; cases hu
  have he : Ext w ρ ok w (updR ρ id v) ok := ⟨fun _ _ _ => rfl, fun _ _ h => h, hrho⟩
  have hlive : ∀ l b, LiveAt g (updR ρ id v) l b → LiveAt g ρ l b := by
    rintro ⟨i, off⟩ b ⟨⟨c, hc⟩, u, hu, hb⟩
    by_cases hi : i = id
    · subst hi; rw [h.fresh hf off] at hc; cases hc
    · exact ⟨⟨c, hc⟩, u, by simpa [updR_ne ρ v hi] using hu, hb⟩
  refine ⟨{ cells := ?_, rows := ?_, keys := fun i off xs hg => by obtain ⟨a0, b, a1, a2⟩ := h.keys i off xs hg; exact ⟨a0, b, hrho _ _ a1, a2⟩, dist := fun l l' b hl hl' => h.dist l l' b (hlive _ _ hl) (hlive _ _ hl'), oks := fun x b hb => ⟨(h.oks x b hb).1, fun l hl => (h.oks x b hb).2 l (hlive _ _ hl)⟩, cont := h.cont, own := fun l b hl => h.own l b (hlive l b hl), ok0 := h.ok0, okn := h.okn, fr := h.fr }, he⟩
  · intro i off s hg
    obtain ⟨b, u, a1, a2, a3, a4⟩ := h.cells i off s hg
    exact ⟨b, u, hrho _ _ a1, a2, a3, a4.mono he⟩
  · intro i off E xs hg
    obtain ⟨a0, u, a1, A, cap, a2, a3, a4⟩ := h.rows i off E xs hg
    refine ⟨a0, u, hrho _ _ a1, A, cap, a2, a3, ?_⟩
    rcases a4 with a4 | ⟨b, T, vs, b1, b2, b3, b4⟩
    · exact .inl a4
    · exact .inr ⟨b, T, vs, b1, b2, b3, b4.imp fun _ _ => SRel.mono he⟩

/-- A cell more is known. -/
theorem CRel.addCell {C : Ctx} {w : World} {ρ : Rho} {ok : Okp} {g : Get} (h : CRel C w ρ ok g) {id off b : Nat} {s : Sc} {v : Value}
    (hr : ρ id = some (.pointer (some ⟨b, 0, none⟩))) (hc : w.cell? ⟨b, off, none⟩ = some v) (hz : w.frozen? ⟨b, off, none⟩ = false) (hv : SRel w ρ ok v s)
    (ho : off < 64) (hp : ∀ o, o < off → ∃ s', g (id, o) = some (.cell s')) (hd : ∀ l, LiveAt g ρ l b → l.1 = id) (hk : ∀ x, ¬ ok x b)
    (hown : C.w0.heap.size ≤ b ∨ C.M0 b) : CRel C w ρ ok (upd1 g (id, off) (some (.cell s))) := by
  have hlb : ∀ l b', LiveAt (upd1 g (id, off) (some (.cell s))) ρ l b' → (l.1 = id ∧ b' = b) ∨ LiveAt g ρ l b' := by
    intro l b' hl
    rcases live_upd hl with ⟨rfl, v', hv', hb'⟩ | h'
    · have : v' = .pointer (some ⟨b, 0, none⟩) := Option.some.inj (hv'.symm.trans hr)
      subst this
      exact .inl ⟨rfl, by simpa [blkOf, eq_comm] using hb'⟩
    · exact .inr h'
  refine { cells := ?_, rows := ?_, keys := ?_, dist := ?_, oks := ?_, cont := ?_, own := ?_, ok0 := h.ok0, okn := h.okn, fr := h.fr }
  · intro id' off' s' hg'
    by_cases hl : (id, off) = (id', off')
    · cases hl
      rw [upd1_same] at hg'
      cases hg'
      exact ⟨b, v, hr, hc, hz, hv⟩
    · rw [upd1_ne g _ hl] at hg'
      exact h.cells id' off' s' hg'
  · intro id' off' E xs hg'
    have hl : (id, off) ≠ (id', off') := by
      intro heq; cases heq; rw [upd1_same] at hg'; cases hg'
    rw [upd1_ne g _ hl] at hg'
    exact h.rows id' off' E xs hg'
  · intro id' off' xs hg'
    have hl : (id, off) ≠ (id', off') := by
      intro heq; cases heq; rw [upd1_same] at hg'; cases hg'
    rw [upd1_ne g _ hl] at hg'
    exact h.keys id' off' xs hg'
  · intro l l' b' hl hl'
    rcases hlb l b' hl with ⟨h1, rfl⟩ | h1 <;> rcases hlb l' b' hl' with ⟨h2, h2'⟩ | h2
    · rw [h1, h2]
    · rw [h1, hd l' h2]
    · subst h2'; rw [h2, hd l h1]
    · exact h.dist l l' b' h1 h2
  · intro x b' hb
    refine ⟨(h.oks x b' hb).1, fun l hl => ?_⟩
    rcases hlb l b' hl with ⟨_, rfl⟩ | h1
    · exact hk x hb
    · exact (h.oks x b' hb).2 l h1
  · intro id' off' s' hg'
    by_cases hl : (id, off) = (id', off')
    · cases hl
      refine ⟨ho, fun o h' => ?_⟩
      rw [upd1_ne g _ (by intro e; cases e; omega)]
      exact hp o h'
    · rw [upd1_ne g _ hl] at hg'
      obtain ⟨d1, d2⟩ := h.cont id' off' s' hg'
      refine ⟨d1, fun o h' => ?_⟩
      by_cases hl' : (id, off) = (id', o)
      · exact ⟨s, by rw [← hl', upd1_same]⟩
      · rw [upd1_ne g _ hl']; exact d2 o h'
  · intro l b' hl
    rcases hlb l b' hl with ⟨_, rfl⟩ | h1
    · exact hown
    · exact h.own l b' h1

/-- A slice is forgotten. -/
theorem CRel.kill {C : Ctx} {w : World} {ρ : Rho} {ok : Okp} {g : Get} (h : CRel C w ρ ok g) {id : Nat} (hg : ∀ s, g (id, 0) ≠ some (.cell s)) : CRel C w ρ ok (upd1 g (id, 0) none) := by
  have hlive : ∀ l b, LiveAt (upd1 g (id, 0) none) ρ l b → LiveAt g ρ l b ∧ l ≠ (id, 0) := by
    rintro l b ⟨⟨c, hc⟩, u⟩
    by_cases hl : (id, 0) = l
    · subst hl; rw [upd1_same] at hc; cases hc
    · rw [upd1_ne g _ hl] at hc; exact ⟨⟨⟨c, hc⟩, u⟩, fun e => hl e.symm⟩
  have hne : ∀ l c, upd1 g (id, 0) none l = some c → g l = some c := by
    intro l c hc
    by_cases hl : (id, 0) = l
    · subst hl; rw [upd1_same] at hc; cases hc
    · rw [upd1_ne g _ hl] at hc; exact hc
  refine { cells := fun i off s hc => h.cells i off s (hne _ _ hc), rows := fun i off E xs hc => h.rows i off E xs (hne _ _ hc), keys := fun i off xs hc => h.keys i off xs (hne _ _ hc), dist := fun l l' b hl hl' => h.dist l l' b (hlive _ _ hl).1 (hlive _ _ hl').1, oks := fun x b hb => ⟨(h.oks x b hb).1, fun l hl => (h.oks x b hb).2 l (hlive _ _ hl).1⟩, cont := ?_, own := fun l b hl => h.own l b (hlive _ _ hl).1, ok0 := h.ok0, okn := h.okn, fr := h.fr }
  intro i off s hc
  obtain ⟨d1, d2⟩ := h.cont i off s (hne _ _ hc)
  refine ⟨d1, fun o ho => ?_⟩
  obtain ⟨s', hs'⟩ := d2 o ho
  refine ⟨s', ?_⟩
  rw [upd1_ne]
  · exact hs'
  · rintro e
    have h1 : id = i := congrArg Prod.fst e
    have h2 : 0 = o := congrArg Prod.snd e
    subst h1 h2
    exact hg _ hs'

/-- A slice is known, anew or otherwise. -/
theorem CRel.addRows {C : Ctx} {w : World} {ρ : Rho} {ok : Okp} {g : Get} (h : CRel C w ρ ok g) {id : Nat} {v : Value} {E : K} {xs : List (D E)}
    (hr : ρ id = some v) (hv : RRel w ρ ok v E xs) (hg : ∀ s, g (id, 0) ≠ some (.cell s)) (hd : ∀ b, blkOf v = some b → (∀ l, LiveAt g ρ l b → l.1 = id) ∧ (∀ x, ¬ ok x b) ∧ (C.w0.heap.size ≤ b ∨ C.M0 b)) :
    CRel C w ρ ok (upd1 g (id, 0) (some (.rows E xs))) := by
  have hlb : ∀ l b', LiveAt (upd1 g (id, 0) (some (.rows E xs))) ρ l b' → (l.1 = id ∧ blkOf v = some b') ∨ LiveAt g ρ l b' := by
    intro l b' hl
    rcases live_upd hl with ⟨rfl, v', hv', hb'⟩ | h'
    · have : v' = v := Option.some.inj (hv'.symm.trans hr)
      subst this
      exact .inl ⟨rfl, hb'⟩
    · exact .inr h'
  refine { cells := ?_, rows := ?_, keys := ?_, dist := ?_, oks := ?_, cont := ?_, own := ?_, ok0 := h.ok0, okn := h.okn, fr := h.fr }
  · intro id' off' s' hg'
    have hl : (id, 0) ≠ (id', off') := by
      intro heq; cases heq; rw [upd1_same] at hg'; cases hg'
    rw [upd1_ne g _ hl] at hg'
    exact h.cells id' off' s' hg'
  · intro id' off' E' xs' hg'
    by_cases hl : (id, 0) = (id', off')
    · cases hl
      rw [upd1_same] at hg'
      cases hg'
      exact ⟨rfl, v, hr, hv⟩
    · rw [upd1_ne g _ hl] at hg'
      exact h.rows id' off' E' xs' hg'
  · intro id' off' xs' hg'
    have hl : (id, 0) ≠ (id', off') := by
      intro heq; cases heq; rw [upd1_same] at hg'; cases hg'
    rw [upd1_ne g _ hl] at hg'
    exact h.keys id' off' xs' hg'
  · intro l l' b' hl hl'
    rcases hlb l b' hl with ⟨h1, h1'⟩ | h1 <;> rcases hlb l' b' hl' with ⟨h2, h2'⟩ | h2
    · rw [h1, h2]
    · rw [h1, (hd b' h1').1 l' h2]
    · rw [h2, (hd b' h2').1 l h1]
    · exact h.dist l l' b' h1 h2
  · intro x b' hb
    refine ⟨(h.oks x b' hb).1, fun l hl => ?_⟩
    rcases hlb l b' hl with ⟨_, h1⟩ | h1
    · exact (hd b' h1).2.1 x hb
    · exact (h.oks x b' hb).2 l h1
  · intro id' off' s' hg'
    have hl : (id, 0) ≠ (id', off') := by
      intro heq; cases heq; rw [upd1_same] at hg'; cases hg'
    rw [upd1_ne g _ hl] at hg'
    obtain ⟨d1, d2⟩ := h.cont id' off' s' hg'
    refine ⟨d1, fun o ho => ?_⟩
    obtain ⟨s', hs'⟩ := d2 o ho
    refine ⟨s', ?_⟩
    rw [upd1_ne]
    · exact hs'
    · rintro e
      have h1 : id = id' := congrArg Prod.fst e
      have h2 : 0 = o := congrArg Prod.snd e
      subst h1 h2
      exact hg _ hs'
  · intro l b' hl
    rcases hlb l b' hl with ⟨_, h1⟩ | h1
    · exact (hd b' h1).2.2
    · exact h.own l b' h1
/-- A map is known, anew or otherwise. -/
theorem CRel.addKeys {C : Ctx} {w : World} {ρ : Rho} {ok : Okp} {g : Get} (h : CRel C w ρ ok g) {id : Nat} {v : Value} {B : Nat} {xs : List Int} (hvB : v = .map (some B)) (hlt : B < w.heap.size)
    (hr : ρ id = some v) (hv : MapIs w B xs) (hg : ∀ s, g (id, 0) ≠ some (.cell s)) (hd : ∀ b, blkOf v = some b → (∀ l, LiveAt g ρ l b → l.1 = id) ∧ (∀ x, ¬ ok x b) ∧ (C.w0.heap.size ≤ b ∨ C.M0 b)) :
    CRel C w ρ ok (upd1 g (id, 0) (some (.keys xs))) := by
  have hlb : ∀ l b', LiveAt (upd1 g (id, 0) (some (.keys xs))) ρ l b' → (l.1 = id ∧ blkOf v = some b') ∨ LiveAt g ρ l b' := by
    intro l b' hl
    rcases live_upd hl with ⟨rfl, v', hv', hb'⟩ | h'
    · have : v' = v := Option.some.inj (hv'.symm.trans hr)
      subst this
      exact .inl ⟨rfl, hb'⟩
    · exact .inr h'
  refine { cells := ?_, rows := ?_, keys := ?_, dist := ?_, oks := ?_, cont := ?_, own := ?_, ok0 := h.ok0, okn := h.okn, fr := h.fr }
  · intro id' off' s' hg'
    have hl : (id, 0) ≠ (id', off') := by
      intro heq; cases heq; rw [upd1_same] at hg'; cases hg'
    rw [upd1_ne g _ hl] at hg'
    exact h.cells id' off' s' hg'
  · intro id' off' E' xs' hg'
    have hl : (id, 0) ≠ (id', off') := by
      intro heq; cases heq; rw [upd1_same] at hg'; cases hg'
    rw [upd1_ne g _ hl] at hg'
    exact h.rows id' off' E' xs' hg'
  · intro id' off' xs' hg'
    by_cases hl : (id, 0) = (id', off')
    · cases hl
      rw [upd1_same] at hg'
      cases hg'
      subst hvB
      exact ⟨rfl, B, hr, hlt, hv⟩
    · rw [upd1_ne g _ hl] at hg'
      exact h.keys id' off' xs' hg'
  · intro l l' b' hl hl'
    rcases hlb l b' hl with ⟨h1, h1'⟩ | h1 <;> rcases hlb l' b' hl' with ⟨h2, h2'⟩ | h2
    · rw [h1, h2]
    · rw [h1, (hd b' h1').1 l' h2]
    · rw [h2, (hd b' h2').1 l h1]
    · exact h.dist l l' b' h1 h2
  · intro x b' hb
    refine ⟨(h.oks x b' hb).1, fun l hl => ?_⟩
    rcases hlb l b' hl with ⟨_, h1⟩ | h1
    · exact (hd b' h1).2.1 x hb
    · exact (h.oks x b' hb).2 l h1
  · intro id' off' s' hg'
    have hl : (id, 0) ≠ (id', off') := by
      intro heq; cases heq; rw [upd1_same] at hg'; cases hg'
    rw [upd1_ne g _ hl] at hg'
    obtain ⟨d1, d2⟩ := h.cont id' off' s' hg'
    refine ⟨d1, fun o ho => ?_⟩
    obtain ⟨s', hs'⟩ := d2 o ho
    refine ⟨s', ?_⟩
    rw [upd1_ne]
    · exact hs'
    · rintro e
      have h1 : id = id' := congrArg Prod.fst e
      have h2 : 0 = o := congrArg Prod.snd e
      subst h1 h2
      exact hg _ hs'
  · intro l b' hl
    rcases hlb l b' hl with ⟨_, h1⟩ | h1
    · exact (hd b' h1).2.2
    · exact h.own l b' h1
end Go.Proofs.Ytipfipnhgpbceaa.Sx
/- The symbolic machine: types, and single operations that look at memory or make some (plain theorems). -/



set_option linter.unusedVariables false
set_option linter.unusedSimpArgs false
namespace Go.Proofs.Ytipfipnhgpbceaa.Sx
open Go

def aggD : TypeDesc → Bool
  | .struct _ => true
  | .array _ _ => true
  | _ => false
def ZRel (v : Value) (s : Sc) : Prop := ∀ w ρ ok, SRel w ρ ok v s
def KOK (P : Program) (t : TypeId) : TK → Prop
  | .scal z => ∃ d, P.underlying t = some d ∧ aggD d = false ∧ (∀ k n, z = .int k n → d = .int k) ∧ (∀ b, z = .bool b → d = .bool)
  | .strct fs => ∃ F : Array Field, P.underlying t = some (.struct F) ∧ F.toList.map (fun f => (f.offset, f.type)) = fs ∧ ∀ f ∈ F, (P.info? f.type).isSome = true
  | .slc E => ∃ el ie z, P.underlying t = some (.slice el) ∧ P.info? el = some ie ∧ ie.size = esize E ∧ ie.bytes ≤ 128 ∧ ie.zero = some z ∧ All2 ZRel z.cells.toList (enc E (dflt E))
  | .arr n el => P.underlying t = some (.array n el)
/-- What is said of a type is so. -/
structure TOK (P : Program) (t : TypeId) (ti : TI) : Prop where
  info : ∃ i z, P.info? t = some i ∧ i.size = ti.size ∧ i.zero = some z ∧ All2 ZRel z.cells.toList ti.zero
  kind : KOK P t ti.kind

theorem TOK.size {P : Program} {t : TypeId} {ti : TI} (h : TOK P t ti) (w : World) : (sizeOf t).run P w = .ok ti.size w := by
  obtain ⟨i, z, h1, h2, h3, h4⟩ := h.info
  simp [sizeOf, typeInfo, h1, h2]
theorem TOK.zero {P : Program} {t : TypeId} {ti : TI} (h : TOK P t ti) : ∃ z, (∀ w, (zeroValue t).run P w = .ok z w) ∧ All2 ZRel z.cells.toList ti.zero := by
  obtain ⟨i, z, h1, h2, h3, h4⟩ := h.info
  exact ⟨z, fun w => by simp [zeroValue, typeInfo, h1, h3], h4⟩
theorem TOK.und {P : Program} {t : TypeId} {ti : TI} (h : TOK P t ti) : ∃ d, P.underlying t = some d ∧ aggD d = ti.isAgg := by
  have hk := h.kind
  unfold TI.isAgg
  cases hkk : ti.kind with
  | scal z => rw [hkk] at hk; obtain ⟨d, h1, h2, _⟩ := hk; exact ⟨d, h1, h2⟩
  | strct fs => rw [hkk] at hk; obtain ⟨F, h1, _⟩ := hk; exact ⟨_, h1, rfl⟩
  | slc E => rw [hkk] at hk; obtain ⟨el, ie, z, h1, _⟩ := hk; exact ⟨_, h1, rfl⟩
  | arr n el => rw [hkk] at hk; exact ⟨_, hk, rfl⟩
theorem TOK.agg {P : Program} {t : TypeId} {ti : TI} (h : TOK P t ti) (w : World) : (isAgg t).run P w = .ok ti.isAgg w := by
  obtain ⟨d, h1, h2⟩ := h.und
  rw [← h2]
  unfold isAgg
  rw [Sem.run_bind, run_underlying h1]
  cases d <;> rfl

theorem addr_add (b o n : Nat) : (⟨b, o, none⟩ : Addr).add n = ⟨b, o + n, none⟩ := by unfold Addr.add; split <;> simp_all

/-- A read of a type, its cells known. -/
theorem run_loadVar {P : Program} {t : TypeId} {ti : TI} (h : TOK P t ti) (w : World) (b o : Nat) (us : List Value) (hl : us.length = ti.size) (hc : ∀ j u, us[j]? = some u → w.cell? ⟨b, o + j, none⟩ = some u) (hn : ti.isAgg = false → ti.size = 1) :
    (loadVar t ⟨b, o, none⟩).run P w = .ok (if ti.isAgg then .agg us.toArray else us.getD 0 undef) w := by
  unfold loadVar
  rw [Sem.run_bind, h.agg, Result.andThen_ok]
  cases ha : ti.isAgg with
  | true =>
    have hc' : ∀ j u, us[j]? = some u → w.cell? ((⟨b, o, none⟩ : Addr).add j) = some u := fun j u hu => by rw [addr_add]; exact hc j u hu
    have := run_loadCells_list (P := P) w ⟨b, o, none⟩ us hc'
    rw [hl] at this
    simp [h.size, this]
  | false =>
    have h1 := hn ha
    rw [h1] at hl
    match us, hl with
    | [u], _ =>
      have := hc 0 u rfl
      simp only [Nat.add_zero] at this
      simp [this]

theorem mkAV_rel {w : World} {ρ : Rho} {ok : Okp} {agg : Bool} {us : List Value} {l : List Sc} {v : AV} (h : All2 (SRel w ρ ok) us l) (hv : mkAV agg l = some v) :
    VRel w ρ ok (if agg then .agg us.toArray else us.getD 0 undef) v ∧ (agg = false → l.length = 1) := by
  unfold mkAV at hv
  cases agg with
  | true => simp at hv; subst hv; exact ⟨.agg _ _ (by simpa using h), by simp⟩
  | false =>
    simp at hv
    match l, us, h, hv with
    | [s], [u], h, hv => simp at hv; subst hv; exact ⟨.one _ _ h.1, by simp⟩
    | [], _, _, hv => simp at hv
    | _ :: _ :: _, _, _, hv => simp at hv
    | [_], [], h, _ => exact h.elim
    | [_], _ :: _ :: _, h, _ => exact h.2.elim

theorem cellsAt_rel {w : World} {ρ : Rho} {ok : Okp} {g : Get} (h : HRel w ρ ok g) (id b : Nat) (hr : ρ id = some (.pointer (some ⟨b, 0, none⟩))) : ∀ (n off : Nat) (l : List Sc), cellsAt g id off n = some l →
    ∃ us : List Value, us.length = n ∧ All2 (SRel w ρ ok) us l ∧ (∀ j u, us[j]? = some u → w.cell? ⟨b, off + j, none⟩ = some u) ∧ (∀ j, j < n → w.frozen? ⟨b, off + j, none⟩ = false ∧ ∃ s, g (id, off + j) = some (.cell s))
  | 0, off, l, hl => by
    simp [cellsAt] at hl; subst hl
    exact ⟨[], rfl, trivial, by simp, by omega⟩
  | n + 1, off, l, hl => by
    unfold cellsAt at hl
    split at hl
    · rename_i s hg
      split at hl
      · rename_i l' hl'
        simp at hl; subst hl
        obtain ⟨us, h1, h2, h3, h4⟩ := cellsAt_rel h id b hr n (off + 1) l' hl'
        obtain ⟨b', v, c1, c2, c3, c4⟩ := h.cells id off s hg
        have : b' = b := by have := Option.some.inj (c1.symm.trans hr); simpa using this
        subst this
        refine ⟨v :: us, by simp [h1], ⟨c4, h2⟩, ?_, ?_⟩
        · intro j u hu
          cases j with
          | zero => simp at hu; subst hu; simpa using c2
          | succ j => have := h3 j u (by simpa using hu); rwa [show off + (j + 1) = off + 1 + j by omega]
        · intro j hj
          cases j with
          | zero => exact ⟨by simpa using c3, s, by simpa using hg⟩
          | succ j => have := h4 j (by omega); rwa [show off + (j + 1) = off + 1 + j by omega]
      · cases hl
    · cases hl

theorem All2.left {α β : Type} {R : α → β → Prop} {as : List α} {bs : List β} (h : All2 R as bs) {a : α} (ha : a ∈ as) : ∃ b, R a b := by
  obtain ⟨j, hj⟩ := List.getElem?_of_mem ha
  obtain ⟨b, _, hr⟩ := h.get' hj
  exact ⟨b, hr⟩

/-- Stores, one cell behind the other. -/
theorem CRel.setCells {C : Ctx} {ρ : Rho} {ok : Okp} {id b : Nat} (hr : ρ id = some (.pointer (some ⟨b, 0, none⟩))) : ∀ (vs : List Value) (l : List Sc) (off : Nat) (w : World) (g : Get), CRel C w ρ ok g →
    All2 (SRel w ρ ok) vs l → (∀ j, j < l.length → ∃ s, g (id, off + j) = some (.cell s)) →
    CRel C (w.setCells b off vs) ρ ok (updG g (putCells id off l)) ∧ Ext w ρ ok (w.setCells b off vs) ρ ok
  | [], [], off, w, g, h, _, _ => ⟨h, Ext.refl _ _ _⟩
  | v :: vs, s :: l, off, w, g, h, hv, hg => by
    obtain ⟨s0, hs0⟩ := hg 0 (by simp)
    obtain ⟨h1, h2⟩ := h.setCell hr (by simpa using hs0) hv.1
    obtain ⟨h3, h4⟩ := CRel.setCells hr vs l (off + 1) _ _ h1 (hv.2.imp fun _ _ => SRel.mono h2) (fun j hj => by
      rw [upd1_ne g _ (by intro e; have := congrArg Prod.snd e; simp at this; omega)]
      have := hg (j + 1) (by simp; omega)
      rwa [show off + 1 + j = off + (j + 1) by omega])
    exact ⟨h3, h2.trans h4⟩
  | [], _ :: _, _, _, _, _, hv, _ => hv.elim
  | _ :: _, [], _, _, _, _, hv, _ => hv.elim

/-- Cells of a new block become known. -/
theorem CRel.addCells {C : Ctx} {w : World} {ρ : Rho} {ok : Okp} {id b : Nat} (hr : ρ id = some (.pointer (some ⟨b, 0, none⟩))) (hk : ∀ x, ¬ ok x b) (hown : C.w0.heap.size ≤ b ∨ C.M0 b)
    : ∀ (vs : List Value) (l : List Sc) (off : Nat) (g : Get), CRel C w ρ ok g → All2 (SRel w ρ ok) vs l → (∀ j u, vs[j]? = some u → w.cell? ⟨b, off + j, none⟩ = some u ∧ w.frozen? ⟨b, off + j, none⟩ = false) →
    off + l.length ≤ 64 → (∀ o, o < off → ∃ s', g (id, o) = some (.cell s')) → (∀ l', LiveAt g ρ l' b → l'.1 = id) → CRel C w ρ ok (updG g (putCells id off l))
  | [], [], off, g, h, _, _, _, _, _ => h
  | v :: vs, s :: l, off, g, h, hv, hc, ho, hp, hd => by
    have h0 := hc 0 v (by simp)
    simp only [Nat.add_zero] at h0
    have h1 := h.addCell hr h0.1 h0.2 hv.1 (by simp at ho; omega) hp hd hk hown
    refine CRel.addCells hr hk hown vs l (off + 1) _ h1 hv.2 (fun j u hu => ?_) (by simp at ho; omega) (fun o ho' => ?_) (fun l' hl' => ?_)
    · have := hc (j + 1) u (by simpa using hu)
      rwa [show off + (j + 1) = off + 1 + j by omega] at this
    · by_cases e : o = off
      · subst e; exact ⟨s, upd1_same _ _ _⟩
      · rw [upd1_ne g _ (by intro e'; exact e (congrArg Prod.snd e').symm)]; exact hp o (by omega)
    · rcases live_upd hl' with ⟨rfl, _⟩ | h'
      · rfl
      · exact hd l' h'
  | [], _ :: _, _, _, _, hv, _, _, _, _ => hv.elim
  | _ :: _, [], _, _, _, hv, _, _, _, _ => hv.elim

/-- A new variable. -/
theorem CRel.allocBox {C : Ctx} {w : World} {ρ : Rho} {ok : Okp} {g : Get} (h : CRel C w ρ ok g) {id : Nat} (hf : ρ id = none) (t : TypeId) (vs : Array Value) (l : List Sc)
    (hv : All2 (SRel w ρ ok) vs.toList l) (h64 : l.length ≤ 64) :
    CRel C (w.alloc (.cells vs t)) (updR ρ id (.pointer (some ⟨w.heap.size, 0, none⟩))) ok (updG g (putCells id 0 l)) ∧ Ext w ρ ok (w.alloc (.cells vs t)) (updR ρ id (.pointer (some ⟨w.heap.size, 0, none⟩))) ok := by
  obtain ⟨h1, h2⟩ := h.newBlock hf (.cells vs t) (.pointer (some ⟨w.heap.size, 0, none⟩))
  refine ⟨?_, h2⟩
  have hnl : ∀ l', ¬ LiveAt g (updR ρ id (.pointer (some ⟨w.heap.size, 0, none⟩))) l' w.heap.size := by
    rintro ⟨i, o⟩ ⟨⟨c, hc⟩, u, hu, hb⟩
    by_cases hi : i = id
    · subst hi; rw [h.fresh hf] at hc; cases hc
    · rw [updR_ne ρ _ hi] at hu
      have := h.live_lt (l := (i, o)) ⟨⟨c, hc⟩, u, hu, hb⟩
      omega
  refine CRel.addCells (b := w.heap.size) (updR_same _ _ _) (fun x hx => by have := (h.oks x _ hx).1; omega) (.inl h.fr.size) vs.toList l 0 g h1 (hv.imp fun _ _ => SRel.mono h2) (fun j u hu => ?_) (by omega) (by omega) (fun l' hl' => (hnl l' hl').elim)
  rw [Nat.zero_add, World.cell?_alloc_new]
  exact ⟨by simpa using hu, World.frozen?_alloc_new _ _ _ _⟩

theorem ptr_rel {w : World} {ρ : Rho} {ok : Okp} {v : Value} {id off : Nat} (h : VRel w ρ ok v (.one (.ptr id off))) : ∃ b, v = .pointer (some ⟨b, off, none⟩) ∧ ρ id = some (.pointer (some ⟨b, 0, none⟩)) := by
  cases h with
  | one v s h => cases h with
    | ptr id off b h => exact ⟨b, rfl, h⟩
theorem int_rel {w : World} {ρ : Rho} {ok : Okp} {v : Value} {k : IntKind} {n : Int} (h : VRel w ρ ok v (.one (.int k n))) : v = .int k n := by
  cases h with
  | one v s h => cases h; rfl
theorem bool_rel {w : World} {ρ : Rho} {ok : Okp} {v : Value} {b : Bool} (h : VRel w ρ ok v (.one (.bool b))) : v = .bool b := by
  cases h with
  | one v s h => cases h; rfl
end Go.Proofs.Ytipfipnhgpbceaa.Sx
/- The symbolic machine's single operations tell what the program's do (calls apart; plain theorems). -/

set_option linter.unusedVariables false
set_option linter.unusedSimpArgs false
namespace Go.Proofs.Ytipfipnhgpbceaa.Sx
open Go

/-- What an operation comes to. -/
def Out (C : Ctx) (w : World) (ρ : Rho) (ok : Okp) (g : Get) (fresh : Nat) (r : Result Next) (v : AV) (u : Upd) : Prop :=
  ∃ w' ρ' ok' cv nx, r = .ok nx w' ∧ (nx = .value cv ∨ (nx = .skip ∧ cv = undef)) ∧ CRel C w' ρ' ok' (updG g u) ∧ Ext w ρ ok w' ρ' ok' ∧
    (∀ id, (id < fresh ∨ fresh + stride ≤ id) → ρ' id = ρ id) ∧ VRel w' ρ' ok' cv v

theorem take_at {α : Type} (A B : List α) (n : Nat) (h : A.length = n) : (A ++ B).take n = A := by subst h; simp
theorem drop_at {α : Type} (A B : List α) (n : Nat) (h : A.length = n) : (A ++ B).drop n = B := by subst h; simp
theorem cut_at {α : Type} (l : List α) (n : Nat) (h : n ≤ l.length) : ∃ A B, l = A ++ B ∧ A.length = n := ⟨l.take n, l.drop n, by simp, by simp; omega⟩
theorem row_splice {α : Type} (cur vs : List α) (N p q off : Nat) (h1 : off + vs.length ≤ q) (h2 : p + q ≤ N) (h3 : N ≤ cur.length) :
    (cur.take N).take p ++ (((cur.drop p).take q).take off ++ vs ++ ((cur.drop p).take q).drop (off + vs.length)) ++ (cur.take N).drop (p + q) =
    (cur.take (p + off) ++ vs ++ cur.drop (p + off + vs.length)).take N := by
  obtain ⟨A, c, rfl, hA⟩ := cut_at cur p (by omega)
  simp only [List.length_append] at h3
  obtain ⟨B, c, rfl, hB⟩ := cut_at c off (by omega)
  simp only [List.length_append] at h3
  obtain ⟨V, c, rfl, hV⟩ := cut_at c vs.length (by omega)
  simp only [List.length_append] at h3
  obtain ⟨R, c, rfl, hR⟩ := cut_at c (q - off - vs.length) (by omega)
  simp only [List.length_append] at h3
  obtain ⟨S, Z, rfl, hS⟩ := cut_at c (N - p - q) (by omega)
  rw [show A ++ (B ++ (V ++ (R ++ (S ++ Z)))) = (A ++ B ++ V ++ R ++ S) ++ Z by simp, take_at _ Z N (by simp; omega)]
  rw [show A ++ B ++ V ++ R ++ S = A ++ (B ++ V ++ R ++ S) by simp, take_at A _ p hA]
  rw [show (A ++ (B ++ V ++ R ++ S)) ++ Z = A ++ ((B ++ V ++ R) ++ (S ++ Z)) by simp, drop_at A _ p hA, take_at _ _ q (by simp; omega)]
  rw [show B ++ V ++ R = B ++ (V ++ R) by simp, take_at B _ off hB]
  rw [show B ++ (V ++ R) = (B ++ V) ++ R by simp, drop_at _ R _ (by simp; omega)]
  rw [show A ++ (B ++ V ++ R ++ S) = (A ++ B ++ V ++ R) ++ S by simp, drop_at _ S _ (by simp; omega)]
  rw [show A ++ (B ++ V ++ R ++ (S ++ Z)) = (A ++ B) ++ (V ++ R ++ S ++ Z) by simp, take_at (A ++ B) (V ++ R ++ S ++ Z) (p + off) (by simp; omega)]
  rw [show (A ++ B) ++ (V ++ R ++ S ++ Z) = (A ++ B ++ V) ++ (R ++ S ++ Z) by simp, drop_at (A ++ B ++ V) (R ++ S ++ Z) (p + off + vs.length) (by simp; omega)]
  rw [show A ++ B ++ vs ++ (R ++ S ++ Z) = (A ++ B ++ vs ++ R ++ S) ++ Z by simp, take_at _ Z N (by simp; omega)]
  simp

section
variable {C : Ctx} {w : World} {ρ : Rho} {ok : Okp} {g gv : Get} {fresh : Nat} {P : Program}

theorem Out.pure (h : CRel C w ρ ok g) {cv : Value} {v : AV} (hv : VRel w ρ ok cv v) : Out C w ρ ok g fresh (.ok (.value cv) w) v [] :=
  ⟨w, ρ, ok, cv, .value cv, rfl, .inl rfl, h, Ext.refl _ _ _, fun _ _ => rfl, hv⟩

theorem cellsAt_sub (hg : ∀ l c, gv l = some c → g l = some c) (id : Nat) : ∀ (n off : Nat) (l : List Sc), cellsAt gv id off n = some l → cellsAt g id off n = some l
  | 0, _, _, h => h
  | n + 1, off, l, h => by
    unfold cellsAt at h ⊢
    split at h
    · rename_i s hs
      rw [hg _ _ hs]
      dsimp only
      split at h
      · rename_i l' hl'
        rw [cellsAt_sub hg id n (off + 1) l' hl']
        exact h
      · cases h
    · cases h

/-- A list's element's cells, where a vector or a row of the call's own lies. -/
theorem elem_cells {us : List Value} {xs : Nat → Value} {l : List Sc} (hx : ∀ j s, l[j]? = some s → SRel w ρ ok (xs j) s) (off n : Nat) (hn : off + n ≤ l.length) :
    All2 (SRel w ρ ok) ((List.range n).map fun j => xs (off + j)) ((l.drop off).take n) := by
  refine All2.of_get (by simp; omega) fun j a b ha hb => ?_
  rw [List.getElem?_map] at ha
  by_cases hj : j < n
  · rw [List.getElem?_range hj] at ha
    simp at ha
    subst ha
    rw [List.getElem?_take_of_lt hj, List.getElem?_drop] at hb
    exact hx _ _ hb
  · rw [List.getElem?_eq_none (by simpa using hj)] at ha
    cases ha

theorem load_out (h : CRel C w ρ ok g) (hg : ∀ l c, gv l = some c → g l = some c) {e : Env} (hE : ∀ t ti, e.tt t = some ti → TOK P t ti) {t : TypeId} {pv : Value} {p : AV} (hp : VRel w ρ ok pv p) {v : AV} {u : Upd}
    (hs : (doLoad e t p gv).den = some (v, u)) : Out C w ρ ok g fresh ((do pure (.value (← Instr.loadAt t pv)) : Sem Next).run P w) v u := by
  unfold doLoad at hs
  split at hs
  · cases hs
  · rename_i ti hti
    have hT := hE t ti hti
    split at hs
    · rename_i id off
      split at hs
      · rename_i l hl
        split at hs
        · rename_i v' hv'
          cases hs
          obtain ⟨b, rfl, hr⟩ := ptr_rel hp
          obtain ⟨us, h1, h2, h3, _⟩ := cellsAt_rel h.toHRel id b hr _ _ _ (cellsAt_sub hg _ _ _ _ hl)
          obtain ⟨hv, hone⟩ := mkAV_rel h2 hv'
          have hlen : l.length = ti.size := by rw [← h2.length, h1]
          have := run_loadVar hT w b off us h1 h3 (fun ha => by rw [← hlen]; exact hone ha)
          simp only [Instr.loadAt, Instr.sureAddr, Sem.run_bind, Sem.run_pure, Result.andThen_ok, this]
          exact Out.pure h hv
        · cases hs
      · cases hs
    · rename_i id E' i off
      split at hs
      · rename_i E xs hgr
        split at hs
        · rename_i hc
          obtain ⟨rfl, hc⟩ := hc
          split at hs
          · rename_i v' hv'
            cases hs
            cases hp with
            | one _ _ hp => cases hp with
              | eptr _ _ _ _ b n cap hh h0 h1 =>
                obtain ⟨_, v0, hr0, A, cap', rfl, hcap, hA⟩ := h.rows _ _ _ _ (hg _ _ hgr)
                have heq := Option.some.inj (hh.symm.trans hr0)
                simp at heq
                obtain ⟨hA1, rfl, rfl⟩ := heq
                rcases hA with ⟨rfl, _⟩ | ⟨b', T, cur, rfl, hheap, hcs, hall⟩
                · simp at hA1
                · simp at hA1
                  subst hA1
                  have hi : i.toNat < xs.length := by omega
                  have hx : ∀ j s, (enc E' (xs.getD i.toNat (dflt E')))[j]? = some s → SRel w ρ ok (cur.toList.getD (i.toNat * esize E' + j) undef) s := by
                    intro j s hjs
                    have hj : j < esize E' := by rw [← enc_len E' (xs.getD i.toNat (dflt E'))]; exact (List.getElem?_eq_some_iff.1 hjs).1
                    rw [← flat_get E' xs i.toNat j hi hj] at hjs
                    obtain ⟨a, ha, hr⟩ := hall.get hjs
                    have hlt := flat_idx_lt hi hj
                    rw [List.getElem?_take_of_lt hlt] at ha
                    rw [List.getD_eq_getElem?_getD, ha]
                    exact hr
                  have h2 := elem_cells (us := []) hx off ti.size (by rw [enc_len]; exact hc)
                  obtain ⟨hv, hone⟩ := mkAV_rel h2 hv'
                  have hcells : ∀ j u, ((List.range ti.size).map fun j => cur.toList.getD (i.toNat * esize E' + (off + j)) undef)[j]? = some u → w.cell? ⟨b, i.toNat * esize E' + off + j, none⟩ = some u := by
                    intro j u hu
                    rw [List.getElem?_map] at hu
                    by_cases hj : j < ti.size
                    · rw [List.getElem?_range hj] at hu
                      simp at hu
                      have hlt : i.toNat * esize E' + (off + j) < cur.size := by
                        rw [hcs]
                        have := flat_idx_lt (E := E') hi (show off + j < esize E' by omega)
                        have h3 : xs.length * esize E' ≤ cap * esize E' := Nat.mul_le_mul_right _ hcap
                        omega
                      simp only [World.cell?, hheap]
                      rw [show i.toNat * esize E' + off + j = i.toNat * esize E' + (off + j) by omega]
                      simp [Array.getElem?_eq_getElem hlt] at hu ⊢
                      exact hu
                    · rw [List.getElem?_eq_none (by simpa using hj)] at hu
                      cases hu
                  have := run_loadVar hT w b (i.toNat * esize E' + off) _ (by simp) hcells (fun ha => by
                    have := hone ha
                    rw [List.length_take, List.length_drop, enc_len] at this
                    omega)
                  simp only [Instr.loadAt, Instr.sureAddr, Sem.run_bind, Sem.run_pure, Result.andThen_ok, this]
                  exact Out.pure h hv
          · cases hs
        · cases hs
      · cases hs
    · rename_i bo E xs i off
      split at hs
      · rename_i hc
        split at hs
        · rename_i v' hv'
          cases hs
          cases hp with
          | one _ _ hp => cases hp with
            | vptr _ _ _ _ _ b o U hok h0 h1 hcell hrel =>
              have h2 := elem_cells (us := []) hrel off ti.size (by rw [enc_len]; exact hc)
              obtain ⟨hv, hone⟩ := mkAV_rel h2 hv'
              have hcells : ∀ j u, ((List.range ti.size).map fun j => U (off + j))[j]? = some u → w.cell? ⟨b, o + (i.toNat * esize E + off) + j, none⟩ = some u := by
                intro j u hu
                rw [List.getElem?_map] at hu
                by_cases hj : j < ti.size
                · rw [List.getElem?_range hj] at hu
                  simp at hu
                  subst hu
                  rw [show o + (i.toNat * esize E + off) + j = o + (i.toNat * esize E + (off + j)) by omega]
                  exact hcell _ (by omega)
                · rw [List.getElem?_eq_none (by simpa using hj)] at hu
                  cases hu
              have := run_loadVar hT w b (o + (i.toNat * esize E + off)) _ (by simp) hcells (fun ha => by
                have := hone ha
                rw [List.length_take, List.length_drop, enc_len] at this
                omega)
              simp only [Instr.loadAt, Instr.sureAddr, Sem.run_bind, Sem.run_pure, Result.andThen_ok, this]
              exact Out.pure h hv
        · cases hs
      · cases hs
    · cases hs

theorem nils_to {E : K} : ∀ (l : List Sc) {us : List Value}, All2 (SRel w ρ ok) us (l ++ [.nils]) → All2 (SRel w ρ ok) us (l ++ [.vec false E []])
  | [], [u], h => ⟨by have h1 := h.1; cases h1; exact .vec0 _ _ _ _, trivial⟩
  | [], [], h => h.elim
  | [], _ :: _ :: _, h => h.2.elim
  | s :: l, u :: us, h => ⟨h.1, nils_to l h.2⟩
  | _ :: _, [], h => h.elim
/-- Cells told as an element hold what the element's cells hold. -/
theorem dec_rel {E : K} {l : List Sc} {x : D E} {us : List Value} (hd : dec E l = some x) (h : All2 (SRel w ρ ok) us l) : All2 (SRel w ρ ok) us (enc E x) := by
  unfold dec at hd
  split at hd
  case h_12 => cases hd; exact nils_to [_, _, _] h
  case h_14 => cases hd; exact nils_to [_, _] h
  case h_19 => cases hd; exact nils_to [_, _] h
  case h_21 => cases hd; exact nils_to [] h
  case h_23 => cases hd; exact nils_to [] h
  case h_25 => cases hd; exact nils_to [] h
  all_goals first | (cases hd; exact h) | (cases hd; done)

theorem storeVar_run {t : TypeId} {ti : TI} (hT : TOK P t ti) (w : World) (b off : Nat) (v : Value) (hs : v.cells.size = ti.size)
    (hc : ∀ j, j < ti.size → (w.cell? ⟨b, off + j, none⟩).isSome = true) (hf : ∀ j, j < ti.size → w.frozen? ⟨b, off + j, none⟩ = false) (h1 : ∀ u ∈ v.cells.toList, u.oneCell' = true) :
    (storeVar t ⟨b, off, none⟩ v).run P w = .ok () (w.setCells b off v.cells.toList) := by
  have := run_storeCells_cells (P := P) b off v.cells.toList 0 w (by simpa [hs] using hc) (by simpa [hs] using hf) h1
  simp [storeVar, hT.size, hs, this]

theorem heap_setCells (b : Nat) : ∀ (vs : List Value) (off : Nat) (w : World) (cur : Array Value) (T : TypeId) (fz : Nat × Nat), w.heap[b]? = some (.cells cur T fz) → off + vs.length ≤ cur.size →
    (w.setCells b off vs).heap[b]? = some (.cells (cur.toList.take off ++ vs ++ cur.toList.drop (off + vs.length)).toArray T fz)
  | [], off, w, cur, T, fz, h, _ => by simp [World.setCells, h]
  | v :: vs, off, w, cur, T, fz, h, hl => by
    rw [World.setCells]
    have h1 : (w.setCell ⟨b, off, none⟩ v).heap[b]? = some (.cells (cur.setIfInBounds off v) T fz) := by
      simp only [World.setCell, Array.getElem?_modify, h, if_true, Option.map_some, Option.isSome_none, Bool.false_eq_true, if_false]
    rw [heap_setCells b vs (off + 1) _ _ T fz h1 (by simp at hl ⊢; omega)]
    congr 2
    simp at hl
    have hlt : off < cur.toList.length := by simp; omega
    rw [Array.toList_setIfInBounds, List.take_set, List.drop_set_of_lt (by omega)]
    rw [List.take_succ_eq_append_getElem hlt, List.set_append]
    simp only [List.length_take, Nat.min_eq_left (Nat.le_of_lt hlt), Nat.lt_irrefl, if_false, Nat.sub_self, List.set_cons_zero, List.length_cons]
    rw [show off + (vs.length + 1) = off + 1 + vs.length by omega]
    simp
theorem heap_setCells_ne (b : Nat) : ∀ (vs : List Value) (off : Nat) (w : World) (k : Nat), k ≠ b → (w.setCells b off vs).heap[k]? = w.heap[k]?
  | [], _, _, _, _ => rfl
  | v :: vs, off, w, k, h => by rw [World.setCells, heap_setCells_ne b vs _ _ _ h, RowKit.Below.heap_setCell _ _ _ _ h]
theorem size_setCells (b : Nat) : ∀ (vs : List Value) (off : Nat) (w : World), (w.setCells b off vs).heap.size = w.heap.size
  | [], _, _ => rfl
  | v :: vs, off, w => by rw [World.setCells, size_setCells b vs, World.size_setCell]
theorem same_setCells (b : Nat) : ∀ (vs : List Value) (off : Nat) (w : World), (w.setCells b off vs).os = w.os ∧ (w.setCells b off vs).tape = w.tape ∧ (w.setCells b off vs).output = w.output
  | [], _, _ => ⟨rfl, rfl, rfl⟩
  | v :: vs, off, w => by
    obtain ⟨h1, h2, h3⟩ := same_setCells b vs (off + 1) (w.setCell ⟨b, off, none⟩ v)
    exact ⟨h1, h2, h3⟩

/-- The world's block of a slice of the call's own is written. -/
theorem CRel.turnRow (h : CRel C w ρ ok g) {id : Nat} {E E' : K} {xs : List (D E)} {xs' : List (D E')} (hgr : g (id, 0) = some (.rows E xs)) {w' : World} {b : Nat} {A : Option Addr} {n cap : Nat} (hr : ρ id = some (.slice A n cap)) (hA : A = some ⟨b, 0, none⟩)
    (hne : ∀ k, k ≠ b → w'.heap[k]? = w.heap[k]?) (hsz : w'.heap.size = w.heap.size) (hsame : w'.os = w.os ∧ w'.tape = w.tape ∧ w'.output = w.output)
    (hrow : Ext w ρ ok w' ρ ok → RRel w' ρ ok (.slice A n cap) E' xs') : CRel C w' ρ ok (upd1 g (id, 0) (some (.rows E' xs'))) ∧ Ext w ρ ok w' ρ ok := by
  have hlive : LiveAt g ρ (id, 0) b := ⟨⟨_, hgr⟩, _, hr, by rw [hA]; rfl⟩
  have hnok : ∀ x b', ok x b' → b' ≠ b := fun x b' hb he => (h.oks x b' hb).2 _ (he ▸ hlive)
  have he : Ext w ρ ok w' ρ ok := ⟨fun x b' hb => hne _ (hnok x b' hb), fun _ _ h => h, fun _ _ h => h⟩
  have hup : ∀ l b', LiveAt (upd1 g (id, 0) (some (.rows E' xs'))) ρ l b' → LiveAt g ρ l b' := by
    intro l b' hl
    rcases live_upd hl with ⟨rfl, v', hv', hb'⟩ | h'
    · exact ⟨⟨_, hgr⟩, v', hv', hb'⟩
    · exact h'
  refine ⟨{ cells := ?_, rows := ?_, keys := ?_, dist := fun l l' b' hl hl' => h.dist l l' b' (hup _ _ hl) (hup _ _ hl'), oks := fun x b' hb => ⟨by rw [hsz]; exact (h.oks x b' hb).1, fun l hl => (h.oks x b' hb).2 l (hup _ _ hl)⟩, cont := ?_, own := fun l b' hl => h.own l b' (hup _ _ hl), ok0 := h.ok0, okn := h.okn, fr := ?_ }, he⟩
  · intro i o s hc
    have hl : (id, 0) ≠ (i, o) := by intro e; rw [← e, upd1_same] at hc; cases hc
    rw [upd1_ne g _ hl] at hc
    obtain ⟨b', v', a1, a2, a3, a4⟩ := h.cells i o s hc
    have hbb : b' ≠ b := by
      rintro rfl
      have := h.dist (id, 0) (i, o) b' hlive ⟨⟨_, hc⟩, _, a1, rfl⟩
      have hid : id = i := this
      subst hid
      rw [hr] at a1; cases a1
    exact ⟨b', v', a1, by rw [World.cell?_of_block (w := w) (hne b' hbb)]; exact a2, by rw [World.frozen?_of_block (w := w) (hne b' hbb)]; exact a3, a4.mono he⟩
  · intro i o E'' xs'' hc
    by_cases hl : (id, 0) = (i, o)
    · rw [← hl, upd1_same] at hc
      have h1 : id = i := congrArg Prod.fst hl
      have h2 : 0 = o := congrArg Prod.snd hl
      subst h1 h2
      cases hc
      exact ⟨rfl, _, hr, hrow he⟩
    · rw [upd1_ne g _ hl] at hc
      obtain ⟨a0, v', a1, A', cap', a2, a3, a4⟩ := h.rows i o E'' xs'' hc
      refine ⟨a0, v', a1, A', cap', a2, a3, ?_⟩
      rcases a4 with a4 | ⟨b', T, cur, b1, b2, b3, b4⟩
      · exact .inl a4
      · have hbb : b' ≠ b := by
          rintro rfl
          have := h.dist (id, 0) (i, o) b' hlive ⟨⟨_, hc⟩, v', a1, by rw [a2, b1]; rfl⟩
          have hid : id = i := this
          subst hid a0
          exact hl rfl
        exact .inr ⟨b', T, cur, b1, by rw [hne b' hbb]; exact b2, b3, b4.imp fun _ _ => SRel.mono he⟩
  · intro i o ys hc
    have hl : (id, 0) ≠ (i, o) := by intro e; rw [← e, upd1_same] at hc; cases hc
    rw [upd1_ne g _ hl] at hc
    obtain ⟨a0, b', a1, a2, a3⟩ := h.keys i o ys hc
    refine ⟨a0, b', a1, by rw [hsz]; exact a2, a3.of (hne b' ?_)⟩
    rintro rfl
    have := h.dist (id, 0) (i, o) b' hlive ⟨⟨_, hc⟩, _, a1, rfl⟩
    have hid : id = i := this
    subst hid a0
    exact hl rfl
  · intro i o s hc
    have hl : (id, 0) ≠ (i, o) := by intro e; rw [← e, upd1_same] at hc; cases hc
    rw [upd1_ne g _ hl] at hc
    obtain ⟨d1, d2⟩ := h.cont i o s hc
    refine ⟨d1, fun o' ho => ?_⟩
    obtain ⟨s', hs'⟩ := d2 o' ho
    refine ⟨s', ?_⟩
    rw [upd1_ne]
    · exact hs'
    · intro e
      rw [← e, hgr] at hs'
      cases hs'
  · refine ⟨hsame.1.trans h.fr.os, hsame.2.1.trans h.fr.tape, hsame.2.2.trans h.fr.output, by rw [hsz]; exact h.fr.size, fun k hk hm => ?_⟩
    rw [hne]
    · exact h.fr.heap k hk hm
    · rintro rfl
      rcases h.own _ _ hlive with h' | h'
      · omega
      · exact hm h'

theorem splice_len {α : Type} (l new : List α) (off : Nat) (h : off + new.length ≤ l.length) : (l.take off ++ new ++ l.drop (off + new.length)).length = l.length := by
  simp only [List.length_append, List.length_take, List.length_drop]; omega
theorem flat_set (E : K) (xs : List (D E)) (i : Nat) (y : D E) (hi : i < xs.length) : flat E (xs.set i y) = (flat E xs).take (i * esize E) ++ enc E y ++ (flat E xs).drop ((i + 1) * esize E) := by
  rw [flat_take, flat_drop, List.set_eq_take_append_cons_drop, if_pos hi, flat_append, flat_cons, List.append_assoc]

theorem store_out (h : CRel C w ρ ok g) (hg : ∀ l c, gv l = some c → g l = some c) {e : Env} (hE : ∀ t ti, e.tt t = some ti → TOK P t ti) {t : TypeId} {pv xv : Value} {p x : AV} (hp : VRel w ρ ok pv p) (hx : VRel w ρ ok xv x) {v : AV} {u : Upd}
    (hs : (doStore e t p x gv).den = some (v, u)) : Out C w ρ ok g fresh ((do Instr.storeAt t pv xv; pure .skip : Sem Next).run P w) v u := by
  unfold doStore at hs
  split at hs
  · cases hs
  · rename_i ti hti
    have hT := hE t ti hti
    split at hs
    · rename_i id off
      split at hs
      · rename_i l hl
        split at hs
        · rename_i hc
          simp at hc
          cases hs
          obtain ⟨b, rfl, hr⟩ := ptr_rel hp
          have hxc := hx.cells (by intro e0; rw [e0] at hc; simp at hc; omega)
          obtain ⟨us, h1, h2, h3, h4⟩ := cellsAt_rel h.toHRel id b hr _ _ _ (cellsAt_sub hg _ _ _ _ hl)
          have hsz : xv.cells.size = ti.size := by have := hxc.length; simp at this; omega
          have hrun := storeVar_run hT w b off xv hsz (fun j hj => by
              have := h3 j (us[j]'(by omega)) (List.getElem?_eq_getElem _)
              rw [this]; rfl) (fun j hj => (h4 j hj).1) (fun a ha => by obtain ⟨_, hr⟩ := hxc.left ha; exact hr.one)
          obtain ⟨c1, c2⟩ := CRel.setCells hr xv.cells.toList x.cells off w g h hxc (fun j hj => (h4 j (by omega)).2)
          refine ⟨_, ρ, ok, undef, .skip, ?_, .inr ⟨rfl, rfl⟩, c1, c2, fun _ _ => rfl, .any _⟩
          simp [Instr.storeAt, Instr.sureAddr, hrun]
        · cases hs
      · cases hs
    · rename_i id E' i off
      split at hs
      · rename_i E xs hgr
        split at hs
        · rename_i y hy
          split at hs
          · rename_i hc
            obtain ⟨rfl, hc1, hc2, hc3⟩ := hc
            cases hs
            cases hp with
            | one _ _ hp => cases hp with
              | eptr _ _ _ _ b n cap hh h0 h1 =>
                obtain ⟨_, v0, hr0, A, cap', rfl, hcap, hA⟩ := h.rows _ _ _ _ (hg _ _ hgr)
                have heq := Option.some.inj (hh.symm.trans hr0)
                simp at heq
                obtain ⟨hA1, rfl, rfl⟩ := heq
                rcases hA with ⟨rfl, _⟩ | ⟨b', T, cur, rfl, hheap, hcs, hall⟩
                · simp at hA1
                · simp at hA1
                  subst hA1
                  have hi : i.toNat < xs.length := by omega
                  have hxc := hx.cells (by intro e0; rw [e0] at hc1; simp at hc1; omega)
                  have hsz : xv.cells.size = ti.size := by have := hxc.length; simp at this; omega
                  have hend : i.toNat * esize E' + off + ti.size ≤ xs.length * esize E' := by
                    have : (i.toNat + 1) * esize E' ≤ xs.length * esize E' := Nat.mul_le_mul_right _ hi
                    rw [Nat.succ_mul] at this
                    omega
                  have hcapm : xs.length * esize E' ≤ cap * esize E' := Nat.mul_le_mul_right _ hcap
                  have hrun := storeVar_run hT w b (i.toNat * esize E' + off) xv hsz (fun j hj => by
                    simp only [World.cell?, hheap]
                    rw [Array.getElem?_eq_getElem (by omega)]; rfl) (fun j hj => by simp [World.frozen?, hheap]) (fun a ha => by obtain ⟨_, hr⟩ := hxc.left ha; exact hr.one)
                  have hnew := heap_setCells b xv.cells.toList (i.toNat * esize E' + off) w cur T (0, 0) hheap (by simp; omega)
                  obtain ⟨c1, c2⟩ := h.turnRow (hg _ _ hgr) (w' := w.setCells b (i.toNat * esize E' + off) xv.cells.toList) (E' := E') (xs' := xs.set i.toNat y) hr0 rfl
                    (fun k hk => heap_setCells_ne b _ _ _ _ hk) (size_setCells b _ _ _) (same_setCells b _ _ _) (fun he => by
                      refine ⟨_, cap, by rw [List.length_set], by rw [List.length_set]; exact hcap, .inr ⟨b, T, _, rfl, hnew, ?_, ?_⟩⟩
                      · simp only [List.size_toArray]
                        rw [splice_len _ _ _ (by simp; omega)]
                        simpa using hcs
                      · rw [List.length_set, flat_set E' xs _ y hi]
                        have hall' := hall.imp (S := SRel (w.setCells b (i.toNat * esize E' + off) xv.cells.toList) ρ ok) fun _ _ => SRel.mono he
                        have hxc' := hxc.imp (S := SRel (w.setCells b (i.toNat * esize E' + off) xv.cells.toList) ρ ok) fun _ _ => SRel.mono he
                        -- the element's own cells
                        have hel : All2 (SRel (w.setCells b (i.toNat * esize E' + off) xv.cells.toList) ρ ok) ((cur.toList.drop (i.toNat * esize E')).take (esize E')) (enc E' (xs.getD i.toNat (dflt E'))) := by
                          have h5 := (hall'.drop (i.toNat * esize E')).take (esize E')
                          have e1 : ((flat E' xs).drop (i.toNat * esize E')).take (esize E') = enc E' (xs.getD i.toNat (dflt E')) := by
                            rw [flat_drop, List.drop_eq_getElem_cons hi, flat_cons]
                            rw [List.take_append_of_le_length (by rw [enc_len]; exact Nat.le_refl _), List.take_of_length_le (by rw [enc_len]; exact Nat.le_refl _)]
                            simp [List.getD_eq_getElem?_getD, List.getElem?_eq_getElem hi]
                          rw [e1, List.drop_take, List.take_take, Nat.min_eq_left (by have := flat_idx_lt (E := E') hi (j := esize E' - 1) (by have := esize_pos E'; omega); have := esize_pos E'; omega)] at h5
                          exact h5
                        have hsp : All2 (SRel (w.setCells b (i.toNat * esize E' + off) xv.cells.toList) ρ ok) (((cur.toList.drop (i.toNat * esize E')).take (esize E')).take off ++ xv.cells.toList ++ ((cur.toList.drop (i.toNat * esize E')).take (esize E')).drop (off + x.cells.length)) (splice (enc E' (xs.getD i.toNat (dflt E'))) off x.cells) :=
                          ((hel.take off).append hxc').append (hel.drop _)
                        have hy' := dec_rel hy hsp
                        have := ((hall'.take (i.toNat * esize E')).append hy').append (hall'.drop ((i.toNat + 1) * esize E'))
                        refine cast (congrArg (fun z => All2 _ z _) ?_) this
                        have hl1 : xv.cells.toList.length = x.cells.length := hxc.length
                        have hcl : cur.toList.length = cap * esize E' := by simpa using hcs
                        have := row_splice cur.toList xv.cells.toList (xs.length * esize E') (i.toNat * esize E') (esize E') off (by omega) (by rw [← Nat.succ_mul]; exact Nat.mul_le_mul_right _ hi) (by omega)
                        rw [hl1] at this
                        rw [Nat.succ_mul, this, hl1])
                  refine ⟨_, ρ, ok, undef, .skip, ?_, .inr ⟨rfl, rfl⟩, c1, c2, fun _ _ => rfl, .any _⟩
                  simp [Instr.storeAt, Instr.sureAddr, hrun]
          · cases hs
        · cases hs
      · cases hs
    · cases hs
end
end Go.Proofs.Ytipfipnhgpbceaa.Sx
/- The symbolic machine's operations that reckon, and that lead on to fields and elements (plain theorems). -/

set_option linter.unusedVariables false
set_option linter.unusedSimpArgs false
namespace Go.Proofs.Ytipfipnhgpbceaa.Sx
open Go

def encV : (E : K) → D E → Array Value
  | .span, s => #[.int .i64 s.lo, .int .i64 s.hi]
  | .measure, m => #[.int .i64 m.sensor, .int .i64 m.time, .int .i64 m.lo, .int .i64 m.hi]
  | .pair, p => #[.int .i64 p.a, .int .i64 p.b]
  | _, _ => #[]
/-- Two structs of a type are compared as told. -/
def QOK (P : Program) (t : TypeId) (E : K) : Prop :=
  P.eqGuardType P.depth t = false ∧ ∀ x y r w, eqK E x y = some r → (Op.equal t (.agg (encV E x)) (.agg (encV E y))).run P w = .ok r w

theorem Tr.den_bind {α β : Type} (t : Tr α) (f : α → Tr β) : (t.bind f).den = t.den.bind fun x => (f x).den := by
  induction t with
  | fail => rfl
  | ret a => rfl
  | ite b t e iht ihe => cases b <;> simp [Tr.bind, Tr.den, iht, ihe]
  | call o g ih =>
    cases o with
    | none => rfl
    | some x => simp [Tr.bind, Tr.den, ih]

section
variable {C : Ctx} {w : World} {ρ : Rho} {ok : Okp} {g gv : Get} {fresh : Nat} {P : Program}

theorem need_den {α : Type} {b : Bool} {t : Tr α} {x : α} (h : (Tr.need b t).den = some x) : b = true ∧ t.den = some x := by
  cases b with
  | true => exact ⟨rfl, h⟩
  | false => cases h

theorem encV_of {E : K} {l : List Sc} {x y : D E} {r : Bool} {us : Array Value} (hd : dec E l = some x) (hr : eqK E x y = some r) (h : All2 (SRel w ρ ok) us.toList l) : us = encV E x := by
  have h' := dec_rel hd h
  have key : ∀ v k n, SRel w ρ ok v (.int k n) → v = .int k n := fun v k n h => by cases h; rfl
  obtain ⟨us⟩ := us
  cases E
  case span =>
    have h2 : All2 (SRel w ρ ok) us [.int .i64 x.lo, .int .i64 x.hi] := h'
    match us, h2 with
    | [a, b], h2 => rw [key _ _ _ h2.1, key _ _ _ h2.2.1]; rfl
  case measure =>
    have h2 : All2 (SRel w ρ ok) us [.int .i64 x.sensor, .int .i64 x.time, .int .i64 x.lo, .int .i64 x.hi] := h'
    match us, h2 with
    | [a, b, c, d], h2 => rw [key _ _ _ h2.1, key _ _ _ h2.2.1, key _ _ _ h2.2.2.1, key _ _ _ h2.2.2.2.1]; rfl
  case pair =>
    have h2 : All2 (SRel w ρ ok) us [.int .i64 x.a, .int .i64 x.b] := h'
    match us, h2 with
    | [a, b], h2 => rw [key _ _ _ h2.1, key _ _ _ h2.2.1]; rfl
  all_goals (cases hr)

theorem run_equalIn_bool (d : Nat) {t : TypeId} (ht : P.underlying t = some .bool) (a b : Bool) (w : World) : (Op.equalIn (d + 1) t (.bool a) (.bool b)).run P w = .ok (a == b) w := by
  simp [Op.equalIn, run_underlying ht]
theorem run_equal_bool {t : TypeId} (ht : P.underlying t = some .bool) (a b : Bool) (w : World) : (Op.equal t (.bool a) (.bool b)).run P w = .ok (a == b) w := run_equalIn_bool 9999 ht a b w

theorem agg_rel {v : Value} {l : List Sc} (h : VRel w ρ ok v (.agg l)) : ∃ vs, v = .agg vs ∧ All2 (SRel w ρ ok) vs.toList l := by
  cases h with
  | agg vs l h => exact ⟨vs, rfl, h⟩

theorem bin_out (h : CRel C w ρ ok g) {e : Env} (hE : ∀ t ti, e.tt t = some ti → TOK P t ti) (hQ : ∀ t E, e.eqk t = some E → QOK P t E) {op : BinOp} {t : TypeId} {ox oy : Operand} {xv yv : Value} {x y : AV} (hx : VRel w ρ ok xv x) (hy : VRel w ρ ok yv y) {v : AV}
    (hs : (doBin e op t x y).den = some v) : Out C w ρ ok g fresh ((do pure (.value (← (do eqGuard op t ox oy xv yv; binOp op t xv yv))) : Sem Next).run P w) v [] := by
  unfold doBin at hs
  split at hs
  · rename_i k a k' b
    have h1 := int_rel hx
    have h2 := int_rel hy
    subst h1 h2
    have hgd : (eqGuard op t ox oy (.int k a) (.int k' b)).run P w = .ok () w := by unfold eqGuard; split <;> rfl
    split at hs
    · obtain ⟨hb, hs⟩ := need_den hs
      cases hs
      simp at hb
      have hn : ¬ b < 0 := by omega
      simp only [Sem.run_bind, hgd, Result.andThen_ok, binOp, Op.shift, hn, if_false, Sem.run_pure]
      exact Out.pure h (.one _ _ (.int _ _))
    · obtain ⟨hb, hs⟩ := need_den hs
      cases hs
      simp at hb
      have hn : ¬ b < 0 := by omega
      simp only [Sem.run_bind, hgd, Result.andThen_ok, binOp, Op.shift, hn, if_false, Sem.run_pure]
      exact Out.pure h (.one _ _ (.int _ _))
    · split at hs
      · rename_i hk
        subst hk
        split at hs
        all_goals first
          | (cases hs; simp only [Sem.run_bind, hgd, Result.andThen_ok, binOp, ne_eq, not_true_eq_false, if_false, Op.intArith, Op.intCmp, Sem.run_pure]; exact Out.pure h (.one _ _ (.int _ _)))
          | (cases hs; simp only [Sem.run_bind, hgd, Result.andThen_ok, binOp, ne_eq, not_true_eq_false, if_false, Op.intArith, Op.intCmp, Sem.run_pure]; exact Out.pure h (.one _ _ (.bool _)))
          | (cases hs; simp only [Sem.run_bind, hgd, Result.andThen_ok, binOp, ne_eq, not_true_eq_false, if_false, Op.intBits, Sem.run_pure]; exact Out.pure h (.one _ _ (.int _ _)))
          | (obtain ⟨hb, hs⟩ := need_den hs
             cases hs
             have hn : ¬ b = 0 := by simpa using hb
             simp only [Sem.run_bind, hgd, Result.andThen_ok, binOp, ne_eq, not_true_eq_false, if_false, Op.intDiv, hn, Sem.run_pure]
             exact Out.pure h (.one _ _ (.int _ _)))
          | cases hs
      · cases hs
  · rename_i a b
    have h1 := bool_rel hx
    have h2 := bool_rel hy
    subst h1 h2
    have hgd : (eqGuard op t ox oy (.bool a) (.bool b)).run P w = .ok () w := by unfold eqGuard; split <;> rfl
    have hu : ∀ z, kindOf e t = some (.scal (.bool z)) → P.underlying t = some .bool := fun z hk => by
      unfold kindOf at hk
      split at hk
      · rename_i ti hti
        have hT := (hE t ti hti).kind
        rw [Option.some.inj hk] at hT
        obtain ⟨d, h1, _, _, h2⟩ := hT
        rw [h1, h2 z rfl]
      · cases hk
    split at hs
    · rename_i z hk
      cases hs
      simp only [Sem.run_bind, hgd, Result.andThen_ok, binOp, run_equal_bool (hu _ hk), Sem.run_pure]
      exact Out.pure h (.one _ _ (.bool _))
    · rename_i z hk
      cases hs
      simp only [Sem.run_bind, hgd, Result.andThen_ok, binOp, run_equal_bool (hu _ hk), Sem.run_pure]
      exact Out.pure h (.one _ _ (.bool _))
    · cases hs
  · rename_i l l'
    obtain ⟨vs, rfl, hvs⟩ := agg_rel hx
    obtain ⟨vs', rfl, hvs'⟩ := agg_rel hy
    have key : ∀ r, doEq e t l l' = some r → (eqGuard op t ox oy (.agg vs) (.agg vs')).run P w = .ok () w ∧ (Op.equal t (.agg vs) (.agg vs')).run P w = .ok r w := by
      intro r hr
      unfold doEq at hr
      split at hr
      · rename_i E hE'
        split at hr
        · rename_i x' y' hdx hdy
          obtain ⟨q1, q2⟩ := hQ t E hE'
          have e1 := encV_of hdx hr hvs
          have e2 : vs' = encV E y' := by
            have hr' : ∃ r', eqK E y' x' = some r' := by cases E <;> first | exact ⟨_, rfl⟩ | cases hr
            obtain ⟨r', hr'⟩ := hr'
            exact encV_of hdy hr' hvs'
          subst e1 e2
          refine ⟨?_, q2 _ _ _ w hr⟩
          unfold eqGuard
          cases op <;> simp [q1]
        · cases hr
      · cases hr
    split at hs
    · rename_i r hr
      cases hs
      obtain ⟨k1, k2⟩ := key r hr
      simp only [Sem.run_bind, k1, k2, Result.andThen_ok, binOp, Sem.run_pure]
      exact Out.pure h (.one _ _ (.bool _))
    · rename_i r hr
      cases hs
      obtain ⟨k1, k2⟩ := key r hr
      simp only [Sem.run_bind, k1, k2, Result.andThen_ok, binOp, Sem.run_pure]
      exact Out.pure h (.one _ _ (.bool _))
    · cases hs
  · cases hs

theorem un_out (h : CRel C w ρ ok g) {op : UnOp} {xv : Value} {x : AV} (hx : VRel w ρ ok xv x) {v : AV} (hs : (doUn op x).den = some v) :
    Out C w ρ ok g fresh ((do pure (.value (← Op.unary op xv)) : Sem Next).run P w) v [] := by
  unfold doUn at hs
  split at hs
  · cases hs
    have h1 := int_rel hx
    subst h1
    simp only [Op.unary, Op.intArith, Sem.run_bind, Sem.run_pure, Result.andThen_ok]
    exact Out.pure h (.one _ _ (.int _ _))
  · cases hs
    have h1 := bool_rel hx
    subst h1
    simp only [Op.unary, Sem.run_bind, Sem.run_pure, Result.andThen_ok]
    exact Out.pure h (.one _ _ (.bool _))
  · cases hs

theorem kindOf_int {e : Env} (hE : ∀ t ti, e.tt t = some ti → TOK P t ti) {t : TypeId} {k : IntKind} {n : Int} (hk : kindOf e t = some (.scal (.int k n))) : P.underlying t = some (.int k) := by
  unfold kindOf at hk
  split at hk
  · rename_i ti hti
    have hT := (hE t ti hti).kind
    rw [Option.some.inj hk] at hT
    obtain ⟨d, h1, _, h2, _⟩ := hT
    rw [h1, h2 k n rfl]
  · cases hk

theorem conv_out (h : CRel C w ρ ok g) {e : Env} (hE : ∀ t ti, e.tt t = some ti → TOK P t ti) {s d : TypeId} {xv : Value} {x : AV} (hx : VRel w ρ ok xv x) {v : AV} (hs : (doConvert e s d x).den = some v) :
    Out C w ρ ok g fresh ((do pure (.value (← convert s d xv)) : Sem Next).run P w) v [] := by
  unfold doConvert at hs
  split at hs
  · rename_i k1 z1 k2 z2 k3 n hk1 hk2
    cases hs
    have h1 := int_rel hx
    subst h1
    simp only [convert, Sem.run_bind, run_underlying (kindOf_int hE hk1), run_underlying (kindOf_int hE hk2), Result.andThen_ok, Conv.intToInt, Sem.run_pure]
    exact Out.pure h (.one _ _ (.int _ _))
  · cases hs

theorem field_at {e : Env} (hE : ∀ t ti, e.tt t = some ti → TOK P t ti) {s : TypeId} {f off : Nat} {te : TI} (hf : fieldAt e s f = some (off, te)) :
    ∃ (F : Array Field) (fl : Field), P.underlying s = some (.struct F) ∧ F[f]? = some fl ∧ fl.offset = off ∧ TOK P fl.type te ∧ 0 < te.size := by
  unfold fieldAt at hf
  split at hf
  · rename_i ti hti
    split at hf
    · rename_i fs hk
      split at hf
      · rename_i off' t' hfs
        split at hf
        · rename_i te' hte
          split at hf
          · rename_i hpos
            simp at hf
            obtain ⟨rfl, rfl⟩ := hf
            have hT := (hE s ti hti).kind
            rw [hk] at hT
            obtain ⟨F, h1, h2, _⟩ := hT
            rw [← h2, List.getElem?_map] at hfs
            cases hF : F.toList[f]? with
            | none => rw [hF] at hfs; cases hfs
            | some fl =>
              rw [hF] at hfs
              simp at hfs
              obtain ⟨rfl, rfl⟩ := hfs
              exact ⟨F, fl, h1, by simpa using hF, rfl, hE _ _ hte, hpos⟩
          · cases hf
        · cases hf
      · cases hf
    · cases hf
  · cases hf

theorem part_run {t : TypeId} {te : TI} (hT : TOK P t te) (w : World) (vs : Array Value) (l : List Sc) (off : Nat) (hv : All2 (SRel w ρ ok) vs.toList l) {v : AV} (hm : mkAV te.isAgg ((l.drop off).take te.size) = some v) :
    ∃ cv, (part t vs off).run P w = .ok cv w ∧ VRel w ρ ok cv v := by
  obtain ⟨h1, h2⟩ := mkAV_rel ((hv.drop off).take te.size) hm
  refine ⟨_, ?_, h1⟩
  unfold part
  rw [Sem.run_bind, hT.agg, Result.andThen_ok]
  cases ha : te.isAgg with
  | true =>
    simp only [if_true, Sem.run_bind, hT.size, Result.andThen_ok, Sem.run_pure]
    congr 2
    apply Array.ext'
    simp [List.extract_eq_take_drop]
  | false =>
    have h3 := h2 ha
    have h4 := ((hv.drop off).take te.size).length
    rw [h3] at h4
    simp only [Bool.false_eq_true, if_false]
    have hlt : off < vs.size := by
      simp at h4; omega
    rw [Array.getElem?_eq_getElem hlt]
    simp only [Sem.run_pure]
    congr 1
    have hpos : 0 < te.size := by simp at h4; omega
    rw [List.getD_eq_getElem?_getD, List.getElem?_take_of_lt hpos, List.getElem?_drop]
    simp [Array.getElem?_eq_getElem hlt]

theorem field_out (h : CRel C w ρ ok g) {e : Env} (hE : ∀ t ti, e.tt t = some ti → TOK P t ti) {s : TypeId} {f off : Nat} {te : TI} (hf : fieldAt e s f = some (off, te)) {xv : Value} {l : List Sc} (hx : VRel w ρ ok xv (.agg l)) {v : AV}
    (hm : mkAV te.isAgg ((l.drop off).take te.size) = some v) : Out C w ρ ok g fresh ((do pure (.value (← Instr.field s xv f)) : Sem Next).run P w) v [] := by
  obtain ⟨F, fl, h1, h2, rfl, h3, _⟩ := field_at hE hf
  obtain ⟨vs, rfl, hvs⟩ := agg_rel hx
  obtain ⟨cv, hrun, hr⟩ := part_run h3 w vs l fl.offset hvs hm
  simp only [Instr.field, Sem.run_bind, run_underlying h1, Result.andThen_ok, h2, asAgg, Sem.run_pure, hrun]
  exact Out.pure h hr

theorem fieldAddr_run {e : Env} (hE : ∀ t ti, e.tt t = some ti → TOK P t ti) {s : TypeId} {f off : Nat} {te : TI} (hf : fieldAt e s f = some (off, te)) (w : World) (b o : Nat) :
    (do pure (.value (← Instr.fieldAt s (.pointer (some ⟨b, o, none⟩)) f)) : Sem Next).run P w = .ok (.value (.pointer (some ⟨b, o + off, none⟩))) w := by
  obtain ⟨F, fl, h1, h2, rfl, h3, h4⟩ := field_at hE hf
  have : ¬ te.size = 0 := by omega
  simp [Instr.fieldAt, Sem.run_bind, run_underlying h1, h2, Instr.sureAddr, fieldPlace, h3.size, this, addr_add]

theorem fieldAddr_out (h : CRel C w ρ ok g) {e : Env} (hE : ∀ t ti, e.tt t = some ti → TOK P t ti) {s : TypeId} {f : Nat} {pv : Value} {p : AV} (hp : VRel w ρ ok pv p) {v : AV} {u : Upd}
    (hs : (doFieldAddr e s f p).den = some (v, u)) : Out C w ρ ok g fresh ((do pure (.value (← Instr.fieldAt s pv f)) : Sem Next).run P w) v u := by
  unfold doFieldAddr at hs
  split at hs
  · rename_i off te id o hf
    cases hs
    obtain ⟨b, rfl, hr⟩ := ptr_rel hp
    rw [fieldAddr_run hE hf]
    exact Out.pure h (.one _ _ (.ptr _ _ _ hr))
  · rename_i off te id E i o hf
    cases hs
    cases hp with
    | one _ _ hp => cases hp with
      | eptr _ _ _ _ b n cap hh h0 h1 =>
        rw [fieldAddr_run hE hf, Nat.add_assoc]
        exact Out.pure h (.one _ _ (.eptr _ _ _ _ _ _ _ hh h0 h1))
  · rename_i off te bo E xs i o hf
    cases hs
    cases hp with
    | one _ _ hp => cases hp with
      | vptr _ _ _ _ _ b o' U hok h0 h1 hcell hrel =>
        rw [fieldAddr_run hE hf, show o' + (i.toNat * esize E + o) + off = o' + (i.toNat * esize E + (o + off)) by omega]
        exact Out.pure h (.one _ _ (.vptr _ _ _ _ _ _ _ U hok h0 h1 hcell hrel))
  · cases hs

theorem kindOf_slc {e : Env} (hE : ∀ t ti, e.tt t = some ti → TOK P t ti) {t : TypeId} {E : K} (hk : kindOf e t = some (.slc E)) :
    ∃ el ie z, P.underlying t = some (.slice el) ∧ P.info? el = some ie ∧ ie.size = esize E ∧ ie.bytes ≤ 128 ∧ ie.zero = some z ∧ All2 ZRel z.cells.toList (enc E (dflt E)) := by
  unfold kindOf at hk
  split at hk
  · rename_i ti hti
    have hT := (hE t ti hti).kind
    rw [Option.some.inj hk] at hT
    exact hT
  · cases hk
theorem kindOf_arr {e : Env} (hE : ∀ t ti, e.tt t = some ti → TOK P t ti) {t : TypeId} {n : Nat} {el : TypeId} (hk : kindOf e t = some (.arr n el)) : P.underlying t = some (.array n el) := by
  unfold kindOf at hk
  split at hk
  · rename_i ti hti
    have hT := (hE t ti hti).kind
    rw [Option.some.inj hk] at hT
    exact hT
  · cases hk

theorem idx_spec {n : Nat} {i : Int} (h : idx n i = true) : 0 ≤ i ∧ i < n := by simpa [idx] using h
end
end Go.Proofs.Ytipfipnhgpbceaa.Sx
/- The symbolic machine's operations on slices, and what is built (plain theorems). -/



set_option linter.unusedVariables false
set_option linter.unusedSimpArgs false
namespace Go.Proofs.Ytipfipnhgpbceaa.Sx
open Go

section
variable {C : Ctx} {w : World} {ρ : Rho} {ok : Okp} {g gv : Get} {fresh : Nat} {P : Program}

theorem indexSlice_run {t el : TypeId} {ie : TypeInfo} (ht : P.underlying t = some (.slice el)) (hi : P.info? el = some ie) (w : World) (b o n cap : Nat) (k : IntKind) (i : Int) (h0 : 0 ≤ i) (h1 : i < n) :
    (do pure (.value (← Instr.indexAt t (.slice (some ⟨b, o, none⟩) n cap) (.int k i))) : Sem Next).run P w = .ok (.value (.pointer (some ⟨b, o + i.toNat * ie.size, none⟩))) w := by
  simp [Instr.indexAt, asIntOf, run_underlying ht, h0, h1, sizeOf, typeInfo, hi, addr_add]

theorem vec_ptr {bo : Bool} {E : K} {xs : List (D E)} {sv : Value} (h : VRel w ρ ok sv (.one (.vec bo E xs))) {i : Int} (h0 : 0 ≤ i) (h1 : i < xs.length) :
    ∃ b o cap, sv = .slice (some ⟨b, o, none⟩) xs.length cap ∧ SRel w ρ ok (.pointer (some ⟨b, o + i.toNat * esize E, none⟩)) (.vptr bo E xs i 0) := by
  cases h with
  | one _ _ h => cases h with
    | vec0 => simp at h1; omega
    | vec _ _ _ b o cap U hc hok hcell hrel =>
      refine ⟨b, o, cap, rfl, ?_⟩
      have hi : i.toNat < xs.length := by omega
      have := SRel.vptr (w := w) (ρ := ρ) (ok := ok) bo E xs i 0 b o (fun j => U (i.toNat * esize E + j)) hok h0 h1 (fun j hj => hcell _ (flat_idx_lt hi hj)) (fun j s hs => by
        have hj : j < esize E := by rw [← enc_len E (xs.getD i.toNat (dflt E))]; exact (List.getElem?_eq_some_iff.1 hs).1
        rw [← flat_get E xs i.toNat j hi hj] at hs
        exact hrel _ _ hs)
      simpa using this

theorem row_rel (h : HRel w ρ ok g) {id : Nat} {E : K} {xs : List (D E)} (hg : g (id, 0) = some (.rows E xs)) {sv : Value} (hv : VRel w ρ ok sv (.one (.row id))) :
    ∃ A cap, sv = .slice A xs.length cap ∧ ρ id = some (.slice A xs.length cap) ∧ xs.length ≤ cap ∧
    ((A = none ∧ cap = 0) ∨ ∃ b T cur, A = some ⟨b, 0, none⟩ ∧ w.heap[b]? = some (.cells cur T (0, 0)) ∧ cur.size = cap * esize E ∧ All2 (SRel w ρ ok) (cur.toList.take (xs.length * esize E)) (flat E xs)) := by
  obtain ⟨_, v0, hr0, A, cap, rfl, hcap, hA⟩ := h.rows _ _ _ _ hg
  cases hv with
  | one _ _ hv => cases hv with
    | row _ A' n' cap' hh =>
      have heq := Option.some.inj (hh.symm.trans hr0)
      simp at heq
      obtain ⟨rfl, rfl, rfl⟩ := heq
      exact ⟨_, _, rfl, hr0, hcap, hA⟩

theorem indexAddr_out (h : CRel C w ρ ok g) (hg : ∀ l c, gv l = some c → g l = some c) {e : Env} (hE : ∀ t ti, e.tt t = some ti → TOK P t ti) {t : TypeId} {xv iv : Value} {x ix : AV} (hx : VRel w ρ ok xv x) (hi : VRel w ρ ok iv ix) {v : AV} {u : Upd}
    (hs : (doIndexAddr e t x ix gv).den = some (v, u)) : Out C w ρ ok g fresh ((do pure (.value (← Instr.indexAt t xv iv)) : Sem Next).run P w) v u := by
  unfold doIndexAddr at hs
  split at hs
  · rename_i E' b E xs k i hk
    split at hs
    · rename_i hEE
      subst hEE
      obtain ⟨hb, hs⟩ := need_den hs
      cases hs
      obtain ⟨h0, h1⟩ := idx_spec hb
      obtain ⟨el, ie, z, k1, k2, k3, _⟩ := kindOf_slc hE hk
      obtain ⟨bb, o, cap, rfl, hp⟩ := vec_ptr hx h0 h1
      have h3 := int_rel hi
      subst h3
      rw [indexSlice_run k1 k2 w bb o _ cap k i h0 h1, k3]
      exact Out.pure h (.one _ _ hp)
    · cases hs
  · rename_i E' id k i hk
    split at hs
    · rename_i E xs hgr
      split at hs
      · rename_i hEE
        subst hEE
        obtain ⟨hb, hs⟩ := need_den hs
        cases hs
        obtain ⟨h0, h1⟩ := idx_spec hb
        obtain ⟨el, ie, z, k1, k2, k3, _⟩ := kindOf_slc hE hk
        obtain ⟨A, cap, rfl, hr, hcap, hA⟩ := row_rel h.toHRel (hg _ _ hgr) hx
        have h3 := int_rel hi
        subst h3
        rcases hA with ⟨rfl, rfl⟩ | ⟨bb, T, cur, rfl, _⟩
        · omega
        · rw [indexSlice_run k1 k2 w bb 0 _ cap k i h0 h1, k3, Nat.zero_add]
          have := SRel.eptr (w := w) (ρ := ρ) (ok := ok) id E' i 0 bb xs.length cap hr h0 h1
          exact Out.pure h (.one _ _ (by simpa using this))
      · cases hs
    · cases hs
  · rename_i n el id off k i hk
    split at hs
    · rename_i te hte
      split at hs
      · rename_i hc
        obtain ⟨h0, h1, h2⟩ := hc
        cases hs
        obtain ⟨bb, rfl, hr⟩ := ptr_rel hx
        have h3 := int_rel hi
        subst h3
        have hT := hE el te hte
        have hrun : (do pure (.value (← Instr.indexAt t (.pointer (some ⟨bb, off, none⟩)) (.int k i))) : Sem Next).run P w = .ok (.value (.pointer (some ⟨bb, off + i.toNat * te.size, none⟩))) w := by
          simp [Instr.indexAt, asIntOf, run_underlying (kindOf_arr hE hk), Instr.sureAddr, h0, h1, hT.size, addr_add]
        rw [hrun]
        exact Out.pure h (.one _ _ (.ptr _ _ _ hr))
      · cases hs
    · cases hs
  · cases hs

theorem index_out (h : CRel C w ρ ok g) {e : Env} (hE : ∀ t ti, e.tt t = some ti → TOK P t ti) {t : TypeId} {xv iv : Value} {x ix : AV} (hx : VRel w ρ ok xv x) (hi : VRel w ρ ok iv ix) {v : AV} {u : Upd}
    (hs : (doIndex e t x ix).den = some (v, u)) : Out C w ρ ok g fresh ((do pure (.value (← Instr.index t xv iv)) : Sem Next).run P w) v u := by
  unfold doIndex at hs
  split at hs
  · rename_i n el l k i hk
    split at hs
    · rename_i te hte
      split at hs
      · rename_i hc
        obtain ⟨h0, h1⟩ := hc
        split at hs
        · rename_i v' hm
          cases hs
          have hT := hE el te hte
          obtain ⟨vs, rfl, hvs⟩ := agg_rel hx
          have h3 := int_rel hi
          subst h3
          obtain ⟨cv, hrun, hr⟩ := part_run hT w vs l _ hvs hm
          have hrun' : (do pure (.value (← Instr.index t (.agg vs) (.int k i))) : Sem Next).run P w = .ok (.value cv) w := by
            simp [Instr.index, asIntOf, run_underlying (kindOf_arr hE hk), h0, h1, hT.size, hrun]
          rw [hrun']
          exact Out.pure h hr
        · cases hs
      · cases hs
    · cases hs
  · cases hs

theorem listOf_len (h : CRel C w ρ ok g) (hg : ∀ l c, gv l = some c → g l = some c) {xv : Value} {x : AV} (hx : VRel w ρ ok xv x) {l : AnyL} (hl : listOf gv x = some l) : ∃ A cap, xv = .slice A l.len cap := by
  unfold listOf at hl
  split at hl
  · cases hl
    cases hx with
    | one _ _ hx => cases hx; exact ⟨_, _, rfl⟩
  · cases hl
    cases hx with
    | one _ _ hx => cases hx <;> exact ⟨_, _, rfl⟩
  · split at hl
    · rename_i E xs hgr
      cases hl
      obtain ⟨A, cap, rfl, _⟩ := row_rel h.toHRel (hg _ _ hgr) hx
      exact ⟨A, cap, rfl⟩
    · cases hl
  · cases hl

theorem sliceElem_spec {e : Env} (hE : ∀ t ti, e.tt t = some ti → TOK P t ti) {t : TypeId} {E : K} (hk : sliceElem e t = some E) :
    ∃ el ie z, P.underlying t = some (.slice el) ∧ P.info? el = some ie ∧ ie.size = esize E ∧ ie.bytes ≤ 128 ∧ ie.zero = some z ∧ All2 ZRel z.cells.toList (enc E (dflt E)) := by
  unfold sliceElem at hk
  split at hk
  · rename_i E' hk'
    cases hk
    exact kindOf_slc hE hk'
  · cases hk

theorem len_out (h : CRel C w ρ ok g) (hg : ∀ l c, gv l = some c → g l = some c) {e : Env} (hE : ∀ t ti, e.tt t = some ti → TOK P t ti) {ts : Array TypeId} {ty : TypeId} {xv : Value} {x : AV} (hx : VRel w ρ ok xv x) {v : AV} {u : Upd}
    (hs : (doLen e ts.toList x gv).den = some (v, u)) : Out C w ρ ok g fresh ((do pure (.value (← Builtin.len_ ts ty #[xv])) : Sem Next).run P w) v u := by
  unfold doLen at hs
  split at hs
  · rename_i t hts
    split at hs
    · rename_i E l hk hl
      cases hs
      obtain ⟨A, cap, rfl⟩ := listOf_len h hg hx hl
      obtain ⟨el, ie, z, k1, _⟩ := sliceElem_spec hE hk
      obtain rfl : ts = #[t] := by cases ts; simp at hts; subst hts; rfl
      have hrun : (do pure (.value (← Builtin.len_ #[t] ty #[.slice A l.len cap])) : Sem Next).run P w = .ok (.value (.int .i64 l.len)) w := by
        simp [Builtin.len_, run_underlying k1, goInt]
      rw [hrun]
      exact Out.pure h (.one _ _ (.int _ _))
    · cases hs
  · cases hs

theorem foldInts_run (f : Int → Int → Int) (m2 : Value → Value → Sem Value) (hm : ∀ k a k' b w, (m2 (.int k a) (.int k' b)).run P w = .ok (.int k (f a b)) w) : ∀ (l : List AV) (vs : List Value) (k : IntKind) (a : Int) {s : Sc}, All2 (VRel w ρ ok) vs l → foldInts f k a l = some s →
    ∃ n, s = .int k n ∧ (vs.foldlM m2 (.int k a)).run P w = .ok (.int k n) w
  | [], [], k, a, s, _, hs => by cases hs; exact ⟨a, rfl, rfl⟩
  | x :: l, v :: vs, k, a, s, hv, hs => by
    cases x with
    | one sc =>
      cases sc with
      | int k' b =>
        simp only [foldInts] at hs
        split at hs
        · rename_i hk
          subst hk
          have h1 := int_rel hv.1
          subst h1
          obtain ⟨n, h2, h3⟩ := foldInts_run f m2 hm l vs k (f a b) hv.2 hs
          exact ⟨n, h2, by simp only [List.foldlM_cons, Sem.run_bind, hm, Result.andThen_ok, h3]⟩
        · cases hs
      | _ => simp [foldInts] at hs
    | agg l' => simp [foldInts] at hs
    | tup l' => simp [foldInts] at hs
  | [], _ :: _, _, _, _, hv, _ => hv.elim
  | _ :: _, [], _, _, _, hv, _ => hv.elim

theorem max_out (h : CRel C w ρ ok g) {ts : Array TypeId} {ty : TypeId} {vs : Array Value} {l : List AV} (hl : All2 (VRel w ρ ok) vs.toList l) {v : AV} {u : Upd} (hs : (doMinMax mx l).den = some (v, u)) :
    Out C w ρ ok g fresh ((do pure (.value (← Builtin.max_ ts ty vs)) : Sem Next).run P w) v u := by
  unfold doMinMax at hs
  split at hs
  · rename_i k a l' 
    split at hs
    · rename_i s hf
      cases hs
      obtain ⟨vs⟩ := vs
      match vs, hl with
      | v0 :: vs, hl =>
        have h1 := int_rel hl.1
        subst h1
        obtain ⟨n, rfl, h3⟩ := foldInts_run (P := P) mx Builtin.max2 (fun k a k' b w => rfl) l' vs k a hl.2 hf
        simp only [Builtin.max_, Sem.run_bind, h3, Result.andThen_ok, Sem.run_pure]
        exact Out.pure h (.one _ _ (.int _ _))
    · cases hs
  · cases hs
theorem min_out (h : CRel C w ρ ok g) {ts : Array TypeId} {ty : TypeId} {vs : Array Value} {l : List AV} (hl : All2 (VRel w ρ ok) vs.toList l) {v : AV} {u : Upd} (hs : (doMinMax mn l).den = some (v, u)) :
    Out C w ρ ok g fresh ((do pure (.value (← Builtin.min_ ts ty vs)) : Sem Next).run P w) v u := by
  unfold doMinMax at hs
  split at hs
  · rename_i k a l' 
    split at hs
    · rename_i s hf
      cases hs
      obtain ⟨vs⟩ := vs
      match vs, hl with
      | v0 :: vs, hl =>
        have h1 := int_rel hl.1
        subst h1
        obtain ⟨n, rfl, h3⟩ := foldInts_run (P := P) mn Builtin.min2 (fun k a k' b w => rfl) l' vs k a hl.2 hf
        simp only [Builtin.min_, Sem.run_bind, h3, Result.andThen_ok, Sem.run_pure]
        exact Out.pure h (.one _ _ (.int _ _))
    · cases hs
  · cases hs

theorem extract_out (h : CRel C w ρ ok g) {xv : Value} {x : AV} (hx : VRel w ρ ok xv x) {i : Nat} {v : AV} {u : Upd} (hs : (doExtract x i).den = some (v, u)) :
    Out C w ρ ok g fresh ((do pure (.value (← Instr.extract xv i)) : Sem Next).run P w) v u := by
  unfold doExtract at hs
  split at hs
  · rename_i l
    split at hs
    · rename_i a cs hli
      split at hs
      · rename_i v' hm
        cases hs
        cases hx with
        | tup vs _ hvs =>
          obtain ⟨cv, hcv, hr⟩ := hvs.get hli
          have hrun : (do pure (.value (← Instr.extract (.tuple vs) i)) : Sem Next).run P w = .ok (.value cv) w := by
            have : vs[i]? = some cv := by simpa using hcv
            simp [Instr.extract, this]
          rw [hrun]
          refine Out.pure h ?_
          rcases hr with ⟨h1, us, h2, h3⟩ | ⟨h1, s, h2, h3⟩
          · simp only at h1
            subst h1 h2
            simp [mkAV] at hm
            subst hm
            exact .agg _ _ h3
          · simp only at h1 h2
            subst h1 h2
            simp [mkAV] at hm
            subst hm
            exact .one _ _ h3
      · cases hs
    · cases hs
  · cases hs

theorem nil_out (h : CRel C w ρ ok g) {xv : Value} {x : AV} (hx : VRel w ρ ok xv x) {v : AV} {u : Upd} (hs : (doNil x).den = some (v, u)) : ∃ b, xv = .pointer (some b) ∧ Out C w ρ ok g fresh (.ok (.value xv) w) v u := by
  unfold doNil at hs
  split at hs
  · cases hs
    obtain ⟨b, rfl, hr⟩ := ptr_rel hx
    exact ⟨_, rfl, Out.pure h hx⟩
  · cases hs
    cases hx with
    | one _ _ hx => cases hx with
      | eptr => exact ⟨_, rfl, Out.pure h (.one _ _ (by constructor <;> assumption))⟩
  · cases hs
    cases hx with
    | one _ _ hx => cases hx with
      | vptr _ _ _ _ _ b o U hok h0 h1 hcell hrel => exact ⟨_, rfl, Out.pure h (.one _ _ (.vptr _ _ _ _ _ _ _ U hok h0 h1 hcell hrel))⟩
  · cases hs
end
end Go.Proofs.Ytipfipnhgpbceaa.Sx
/- The symbolic machine: slices cut, made, written out and appended to; structs built (plain theorems). -/

set_option linter.unusedVariables false
set_option linter.unusedSimpArgs false
namespace Go.Proofs.Ytipfipnhgpbceaa.Sx
open Go

section
variable {C : Ctx} {w : World} {ρ : Rho} {ok : Okp} {g gv : Get} {fresh : Nat} {P : Program}

theorem slice_run {t el : TypeId} {ie : TypeInfo} (ht : P.underlying t = some (.slice el)) (hi : P.info? el = some ie) (w : World) (A : Option Addr) (n cap l h : Nat) (lov hiv : Option Value)
    (hlo : (lov = none ∧ l = 0) ∨ lov = some (.int .i64 l)) (hhi : (hiv = none ∧ h = n) ∨ hiv = some (.int .i64 h)) (h1 : l ≤ h) (h2 : h ≤ n) (h3 : n ≤ cap) :
    (do pure (.value (← Instr.sliceAt t (.slice A n cap) lov hiv none)) : Sem Next).run P w = .ok (.value (.slice (if cap = l then A else A.map (·.add (l * ie.size))) (h - l) (cap - l))) w := by
  have hc : h ≤ cap := Nat.le_trans h2 h3
  rcases hlo with ⟨rfl, rfl⟩ | rfl <;> rcases hhi with ⟨rfl, rfl⟩ | rfl <;>
    simp [Instr.sliceAt, run_underlying ht, Instr.slice, Instr.sliceBounds, Instr.sliceBound, asIntOf, sizeOf, typeInfo, hi, hc, h1]

theorem bound_spec {o : Option AV} {ov : Option Value} (ho : ∀ x, o = some x → ∃ v, ov = some v ∧ VRel w ρ ok v x) (hn : o = none → ov = none) {d n : Int} (h : bound o d = some n) : (ov = none ∧ n = d) ∨ ov = some (.int .i64 n) := by
  unfold bound at h
  split at h
  · cases h; exact .inl ⟨hn rfl, rfl⟩
  · cases h
    obtain ⟨v, h1, h2⟩ := ho _ rfl
    exact .inr (by rw [h1, int_rel h2])
  · cases h

/-- What a slice's cells hold, cut. -/
theorem cut_rel {bo : Bool} {E : K} {xs : List (D E)} {b o cap : Nat} {U : Nat → Value} (hok : ok bo b) (hcap : xs.length ≤ cap) (hcell : ∀ k, k < xs.length * esize E → w.cell? ⟨b, o + k, none⟩ = some (U k))
    (hrel : ∀ k s, (flat E xs)[k]? = some s → SRel w ρ ok (U k) s) (l h : Nat) (h1 : l ≤ h) (h2 : h ≤ xs.length) :
    SRel w ρ ok (.slice (if cap = l then some ⟨b, o, none⟩ else (some ⟨b, o, none⟩ : Option Addr).map (·.add (l * esize E))) (h - l) (cap - l)) (.vec bo E ((xs.take h).drop l)) := by
  have hlen : ((xs.take h).drop l).length = h - l := by simp; omega
  by_cases hz : h - l = 0
  · have : (xs.take h).drop l = [] := List.eq_nil_of_length_eq_zero (by omega)
    rw [this, hz]
    exact .vec0 _ _ _ _
  · have hne : ¬ cap = l := by omega
    rw [if_neg hne]
    simp only [Option.map_some, addr_add]
    have hfl : flat E ((xs.take h).drop l) = ((flat E xs).take (h * esize E)).drop (l * esize E) := by rw [flat_take, flat_drop]
    have := SRel.vec (w := w) (ρ := ρ) (ok := ok) bo E ((xs.take h).drop l) b (o + l * esize E) (cap - l) (fun k => U (l * esize E + k)) (by omega) hok
      (fun k hk => by
        rw [hlen, Nat.sub_mul] at hk
        rw [Nat.add_assoc]
        exact hcell _ (by have := Nat.mul_le_mul_right (esize E) h2; omega))
      (fun k s hs => by
        rw [hfl, List.getElem?_drop] at hs
        have hlt : l * esize E + k < h * esize E := by
          rcases Nat.lt_or_ge (l * esize E + k) (h * esize E) with h' | h'
          · exact h'
          · rw [List.getElem?_eq_none (by rw [List.length_take]; omega)] at hs; cases hs
        rw [List.getElem?_take_of_lt hlt] at hs
        exact hrel _ _ hs)
    rwa [hlen] at this

theorem slice_out (h : CRel C w ρ ok g) (hg : ∀ l c, gv l = some c → g l = some c) {e : Env} (hE : ∀ t ti, e.tt t = some ti → TOK P t ti) {t : TypeId} {xv : Value} {x : AV} (hx : VRel w ρ ok xv x) {lo hi : Option AV} {lov hiv : Option Value}
    (hlo : ∀ x, lo = some x → ∃ v, lov = some v ∧ VRel w ρ ok v x) (hlo' : lo = none → lov = none) (hhi : ∀ x, hi = some x → ∃ v, hiv = some v ∧ VRel w ρ ok v x) (hhi' : hi = none → hiv = none) {v : AV} {u : Upd}
    (hs : (doSlice e t x lo hi gv).den = some (v, u)) : Out C w ρ ok g fresh ((do pure (.value (← Instr.sliceAt t xv lov hiv none)) : Sem Next).run P w) v u := by
  unfold doSlice at hs
  split at hs
  · rename_i E' hk
    obtain ⟨el, ie, z, k1, k2, k3, _⟩ := sliceElem_spec hE hk
    have bounds : ∀ (bor : Bool) (E : K) (xs : List (D E)) (u' : Upd), (cutList bor E xs u' lo hi).den = some (v, u) → ∃ l h : Nat, l ≤ h ∧ h ≤ xs.length ∧ v = .one (.vec bor E ((xs.take h).drop l)) ∧ u = u' ∧ ((lov = none ∧ l = 0) ∨ lov = some (.int .i64 l)) ∧ ((hiv = none ∧ h = xs.length) ∨ hiv = some (.int .i64 h)) := by
      intro bor E xs u' hc
      unfold cutList at hc
      split at hc
      · rename_i l0 h0 hl hh
        obtain ⟨hb, hc⟩ := need_den hc
        simp at hb
        cases hc
        have b1 := bound_spec hlo hlo' hl
        have b2 := bound_spec hhi hhi' hh
        refine ⟨l0.toNat, h0.toNat, by omega, by omega, rfl, rfl, ?_, ?_⟩
        · rcases b1 with ⟨q1, q2⟩ | q1
          · exact .inl ⟨q1, by omega⟩
          · exact .inr (by rw [q1, Int.toNat_of_nonneg hb.1])
        · rcases b2 with ⟨q1, q2⟩ | q1
          · exact .inl ⟨q1, by omega⟩
          · exact .inr (by rw [q1, Int.toNat_of_nonneg (by omega)])
      · cases hc
    split at hs
    · rename_i b E xs
      split at hs
      · rename_i hEE
        subst hEE
        obtain ⟨l, hh, q1, q2, rfl, rfl, q3, q4⟩ := bounds _ _ _ _ hs
        cases hx with
        | one _ _ hx => cases hx with
          | vec0 _ _ A cap =>
            simp at q2
            subst q2
            obtain rfl : l = 0 := by omega
            rw [slice_run k1 k2 w A 0 cap 0 0 lov hiv q3 q4 (Nat.le_refl _) (Nat.le_refl _) (Nat.zero_le _)]
            refine Out.pure h (.one _ _ ?_)
            simp only [List.take_nil, List.drop_nil]
            exact .vec0 _ _ _ _
          | vec _ _ _ bb o cap U hcap hok hcell hrel =>
            rw [slice_run k1 k2 w (some ⟨bb, o, none⟩) xs.length cap l hh lov hiv q3 q4 q1 q2 hcap, k3]
            exact Out.pure h (.one _ _ (cut_rel hok hcap hcell hrel l hh q1 q2))
      · cases hs
    · rename_i id
      split at hs
      · rename_i E xs hgr
        split at hs
        · rename_i hEE
          subst hEE
          obtain ⟨l, hh, q1, q2, rfl, rfl, q3, q4⟩ := bounds _ _ _ _ hs
          obtain ⟨A, cap, rfl, hr, hcap, hA⟩ := row_rel h.toHRel (hg _ _ hgr) hx
          rw [slice_run k1 k2 w A xs.length cap l hh lov hiv q3 q4 q1 q2 hcap, k3]
          have hkill := h.kill (id := id) (fun s e0 => by rw [hg _ _ hgr] at e0; cases e0)
          rcases hA with ⟨rfl, rfl⟩ | ⟨b, T, cur, rfl, hheap, hcs, hall⟩
          · obtain rfl : hh = 0 := by omega
            obtain rfl : l = 0 := by omega
            refine ⟨w, ρ, ok, _, _, rfl, .inl rfl, hkill, Ext.refl _ _ _, fun _ _ => rfl, .one _ _ ?_⟩
            simp only [List.take_zero, List.drop_zero]
            exact .vec0 _ _ _ _
          · have hlive : LiveAt g ρ (id, 0) b := ⟨⟨_, hg _ _ hgr⟩, _, hr, rfl⟩
            have hnl : ∀ l', ¬ LiveAt (upd1 g (id, 0) none) ρ l' b := by
              rintro l' ⟨⟨c, hc⟩, hb⟩
              by_cases hl' : (id, 0) = l'
              · subst hl'; rw [upd1_same] at hc; cases hc
              · rw [upd1_ne g _ hl'] at hc
                have := h.dist (id, 0) l' b hlive ⟨⟨c, hc⟩, hb⟩
                obtain ⟨i, o⟩ := l'
                have hid : id = i := this
                subst hid
                cases c with
                | rows E2 xs2 =>
                  obtain ⟨rfl, _⟩ := h.rows id o E2 xs2 hc
                  exact hl' rfl
                | cell s =>
                  obtain ⟨b1, v1, hb1, _⟩ := h.cells id o s hc
                  rw [hr] at hb1; cases hb1
                | keys ys =>
                  obtain ⟨_, b1, hb1, _⟩ := h.keys id o ys hc
                  rw [hr] at hb1; cases hb1
            obtain ⟨c1, c2⟩ := hkill.more (ok' := fun x b' => ok x b' ∨ b' = b) (fun x b' hb => .inl hb) (fun x b' hb => hb.imp (fun hb => hb) fun e0 => by
              subst e0
              exact ⟨h.live_lt hlive, hnl, h.own _ _ hlive⟩)
            refine ⟨w, ρ, _, _, _, rfl, .inl rfl, c1, c2, fun _ _ => rfl, .one _ _ ?_⟩
            refine cut_rel (b := b) (o := 0) (cap := cap) (U := fun k => cur.toList.getD k undef) (.inr rfl) hcap ?_ ?_ l hh q1 q2
            · intro k hk
              have hlt : k < cur.size := by rw [hcs]; have := Nat.mul_le_mul_right (esize E') hcap; omega
              simp [World.cell?, hheap, Array.getElem?_eq_getElem hlt]
            · intro k s hks
              obtain ⟨a, ha, hr'⟩ := hall.get hks
              have hlt : k < xs.length * esize E' := by
                rw [← flat_len]; exact (List.getElem?_eq_some_iff.1 hks).1
              rw [List.getElem?_take_of_lt hlt] at ha
              simp only [List.getD_eq_getElem?_getD, ha]
              exact hr'.mono c2
        · cases hs
      · cases hs
    · cases hs
  · cases hs

theorem flat_replicate (E : K) (n : Nat) (x : D E) (j : Nat) (hj : j < n * esize E) : (flat E (List.replicate n x))[j]? = (enc E x)[j % esize E]? := by
  have hp := esize_pos E
  have hdm := Nat.div_add_mod j (esize E)
  have hlt : j / esize E < n := Nat.div_lt_of_lt_mul (by rw [Nat.mul_comm]; exact hj)
  have := flat_get E (List.replicate n x) (j / esize E) (j % esize E) (by simpa using hlt) (Nat.mod_lt _ hp)
  rw [Nat.mul_comm] at hdm
  rw [hdm] at this
  rw [this]
  simp [List.getD_eq_getElem?_getD, hlt]

theorem fresh_ne (ρ : Rho) {fresh : Nat} (v : Value) (id : Nat) (hid : id < fresh ∨ fresh + stride ≤ id) : updR ρ fresh v id = ρ id :=
  updR_ne ρ v (by have : stride = 16 := rfl; omega)
/-- A new block of a slice, under a new number. -/
theorem CRel.newRows (h : CRel C w ρ ok g) {id : Nat} (hf : ρ id = none) (T : TypeId) (cur : Array Value) {E : K} {xs : List (D E)} {n cap : Nat} (hn : n = xs.length) (hcap : xs.length ≤ cap) (hcs : cur.size = cap * esize E)
    (hall : All2 (SRel w ρ ok) (cur.toList.take (xs.length * esize E)) (flat E xs)) :
    CRel C (w.alloc (.cells cur T)) (updR ρ id (.slice (some ⟨w.heap.size, 0, none⟩) n cap)) ok (upd1 g (id, 0) (some (.rows E xs))) ∧
    Ext w ρ ok (w.alloc (.cells cur T)) (updR ρ id (.slice (some ⟨w.heap.size, 0, none⟩) n cap)) ok := by
  obtain ⟨h1, h2⟩ := h.newBlock hf (.cells cur T) (.slice (some ⟨w.heap.size, 0, none⟩) n cap)
  refine ⟨h1.addRows (updR_same _ _ _) ?_ (fun s e0 => by rw [h.fresh hf] at e0; cases e0) ?_, h2⟩
  · subst hn
    refine ⟨_, cap, rfl, hcap, .inr ⟨_, T, cur, rfl, ?_, hcs, hall.imp fun _ _ => SRel.mono h2⟩⟩
    exact heap_alloc_new w _
  · intro b hb
    simp [blkOf] at hb
    subst hb
    refine ⟨?_, fun x hx => by have := (h.oks x _ hx).1; omega, .inl h.fr.size⟩
    rintro ⟨i, o⟩ ⟨⟨c, hc⟩, u, hu, hb⟩
    by_cases hi : i = id
    · exact hi
    · rw [updR_ne ρ _ hi] at hu
      have := h.live_lt (l := (i, o)) ⟨⟨c, hc⟩, u, hu, hb⟩
      omega

theorem make_out (h : CRel C w ρ ok g) (hf : ρ fresh = none) {e : Env} (hE : ∀ t ti, e.tt t = some ti → TOK P t ti) {t : TypeId} {lv cv : Value} {l c : AV} (hl : VRel w ρ ok lv l) (hc : VRel w ρ ok cv c) {v : AV} {u : Upd}
    (hs : (doMake e t l c fresh).den = some (v, u)) : Out C w ρ ok g fresh ((do pure (.value (← Instr.makeSlice t lv cv)) : Sem Next).run P w) v u := by
  unfold doMake at hs
  split at hs
  · rename_i E n c' hk
    obtain ⟨hb, hs⟩ := need_den hs
    cases hs
    simp at hb
    obtain ⟨h0, h1, rfl⟩ := hb
    obtain ⟨el, ie, z, k1, k2, k3, k4, k5, k6⟩ := sliceElem_spec hE hk
    have e1 := int_rel hl
    have e2 := int_rel hc
    subst e1 e2
    have hlim : n ≤ 1048576 := h1
    have hrun := run_make (P := P) w t el ie z k1 k2 k5 .i64 .i64 n n h0 (Int.le_refl _) (by
      have : (ie.bytes : Int) * n ≤ 128 * 1048576 := Int.mul_le_mul (by omega) hlim h0 (by omega)
      omega) (by omega)
    obtain ⟨c1, c2⟩ := h.newRows hf el (madeCells z.cells (n.toNat * ie.size)) (E := E) (xs := List.replicate n.toNat (dflt E)) (n := n.toNat) (cap := n.toNat) (by simp) (by simp) (by rw [size_madeCells, k3]) (by
      rw [List.length_replicate, List.take_of_length_le (by simp [size_madeCells, k3])]
      have hzl : z.cells.size = esize E := by have := k6.length; simpa [enc_len] using this
      refine All2.of_get (by simp [size_madeCells, k3, flat_len]) fun j a b ha hb => ?_
      have hj : j < n.toNat * esize E := by
        have := (List.getElem?_eq_some_iff.1 hb).1
        rwa [flat_len, List.length_replicate] at this
      rw [flat_replicate E _ _ j hj] at hb
      obtain ⟨a', ha', hr⟩ := k6.get hb
      have hmod : j % esize E < z.cells.size := by rw [hzl]; exact Nat.mod_lt _ (esize_pos E)
      have : a = a' := by
        simp only [madeCells, Array.toList_map, List.getElem?_map, k3, hzl] at ha
        rw [Array.toList_range, List.getElem?_range hj] at ha
        simp at ha ha'
        rw [← ha]
        rw [Array.getElem?_eq_getElem hmod] at ha'
        simp [hmod] at ha'
        simpa [hmod] using ha'
      subst this
      exact hr _ _ _)
    refine ⟨_, _, _, .slice (some ⟨w.heap.size, 0, none⟩) n.toNat n.toNat, .value _, ?_, .inl rfl, c1, c2, fresh_ne ρ _, .one _ _ (.row _ _ _ _ (updR_same _ _ _))⟩
    simp only [Sem.run_bind, hrun, Result.andThen_ok, Sem.run_pure]
  · cases hs
end
end Go.Proofs.Ytipfipnhgpbceaa.Sx
/- The symbolic machine: appends, slices written out, structs built (plain theorems). -/

set_option linter.unusedVariables false
set_option linter.unusedSimpArgs false
namespace Go.Proofs.Ytipfipnhgpbceaa.Sx
open Go

section
variable {C : Ctx} {w : World} {ρ : Rho} {ok : Okp} {g gv : Get} {fresh : Nat} {P : Program}

theorem firstCells_some (w : World) (size n b o m cap : Nat) (us : List Value) (hl : us.length = n * size) (hc : ∀ j u, us[j]? = some u → w.cell? ⟨b, o + j, none⟩ = some u) :
    (Builtin.firstCells size n (.slice (some ⟨b, o, none⟩) m cap)).run P w = .ok us.toArray w := by
  have := run_loadCells_list (P := P) w ⟨b, o, none⟩ us (fun j u hu => by rw [addr_add]; exact hc j u hu)
  rw [hl] at this
  simpa [Builtin.firstCells] using this

theorem heap_cell {w w' : World} (hw : w'.heap = w.heap) (a : Addr) : w'.cell? a = w.cell? a := by unfold World.cell?; rw [hw]

/-- What an append's source holds. -/
theorem src_cells (h : CRel C w ρ ok g) (hg : ∀ l c, gv l = some c → g l = some c) {xv : Value} {x : AV} (hx : VRel w ρ ok xv x) (E : K) {ys : List (D E)}
    (hl : (match listOf gv x with | some .nil => some [] | some (.of _ E' xs) => asK E E' xs | none => none) = some ys) :
    ∃ A cap news, xv = .slice A ys.length cap ∧ news.length = ys.length * esize E ∧ All2 (SRel w ρ ok) news (flat E ys) ∧ ∀ w' : World, w'.heap = w.heap → (Builtin.firstCells (esize E) ys.length xv).run P w' = .ok news.toArray w' := by
  have nilc : ∀ (A : Option Addr) (cap : Nat) (w' : World), (Builtin.firstCells (esize E) 0 (.slice A 0 cap)).run P w' = .ok (#[] : Array Value) w' := by
    intro A cap w'
    cases A with
    | none => rfl
    | some a => simp [Builtin.firstCells, loadCells, loadCellsFrom]
  unfold listOf at hl
  split at hl
  · rename_i hlo
    cases hl
    split at hlo
    · cases hx with
      | one _ _ hx => cases hx; exact ⟨_, _, [], rfl, by simp, trivial, fun w' _ => nilc _ _ _⟩
    · cases hlo
    · split at hlo <;> cases hlo
    · cases hlo
  · rename_i bo E' xs hlo
    unfold asK at hl
    split at hl
    · rename_i hEE
      subst hEE
      cases hl
      split at hlo
      · cases hlo
      · cases hlo
        cases hx with
        | one _ _ hx => cases hx with
          | vec0 _ _ A cap => exact ⟨_, _, [], rfl, by simp, trivial, fun w' _ => nilc _ _ _⟩
          | vec _ _ _ b o cap U hc hok hcell hrel =>
            refine ⟨_, _, (List.range (xs.length * esize E')).map U, rfl, by simp, ?_, fun w' hw' => ?_⟩
            · refine All2.of_get (by simp [flat_len]) fun j a s ha hs => ?_
              have hj : j < xs.length * esize E' := by rw [← flat_len]; exact (List.getElem?_eq_some_iff.1 hs).1
              rw [List.getElem?_map, List.getElem?_range hj] at ha
              simp at ha
              subst ha
              exact hrel _ _ hs
            · refine firstCells_some w' _ _ b o _ _ _ (by simp) fun j u hu => ?_
              rw [heap_cell hw']
              by_cases hj : j < xs.length * esize E'
              · rw [List.getElem?_map, List.getElem?_range hj] at hu
                simp at hu
                subst hu
                exact hcell j hj
              · rw [List.getElem?_eq_none (by simpa using hj)] at hu; cases hu
      · rename_i id
        split at hlo
        · rename_i E'' xs' hgr
          cases hlo
          obtain ⟨A, cap, rfl, hr, hcap, hA⟩ := row_rel h.toHRel (hg _ _ hgr) hx
          rcases hA with ⟨rfl, rfl⟩ | ⟨b, T, cur, rfl, hheap, hcs, hall⟩
          · have : xs = [] := List.eq_nil_of_length_eq_zero (by omega)
            subst this
            exact ⟨_, _, [], rfl, by simp, trivial, fun w' _ => nilc _ _ _⟩
          · refine ⟨_, _, cur.toList.take (xs.length * esize E'), rfl, ?_, hall, fun w' hw' => ?_⟩
            · rw [hall.length, flat_len]
            · refine firstCells_some w' _ _ b 0 _ _ _ (by rw [hall.length, flat_len]) fun j u hu => ?_
              rw [heap_cell hw', Nat.zero_add]
              simp only [World.cell?, hheap]
              by_cases hj : j < xs.length * esize E'
              · rw [List.getElem?_take_of_lt hj] at hu
                simpa using hu
              · rw [List.getElem?_eq_none (by simp; omega)] at hu; cases hu
        · cases hlo
      · cases hlo
    · cases hl
  · cases hl

theorem append_grow_run {t ty el : TypeId} {ie : TypeInfo} {z : Value} (ht : P.underlying t = some (.slice el)) (hi : P.info? el = some ie) (hz : ie.zero = some z) (A : Option Addr) (n cap : Nat) (A' : Option Addr) (m cap' : Nat) (olds news : List Value)
    (ho : ∀ w' : World, w'.heap = w.heap → (Builtin.firstCells ie.size n (.slice A n cap)).run P w' = .ok olds.toArray w') (hn : ∀ w' : World, w'.heap = w.heap → (Builtin.firstCells ie.size m (.slice A' m cap')).run P w' = .ok news.toArray w')
    (hgrow : cap < n + m) (hsm : n + m ≤ 2097152) (hby : ie.bytes ≤ 128) :
    (Builtin.append_ #[t, t] ty #[.slice A n cap, .slice A' m cap']).run P w = .ok (.slice (some ⟨w.heap.size, 0, none⟩) (n + m) (grownCap w (n + m) cap el))
      (w.drew.alloc (.cells (olds.toArray ++ news.toArray ++ Builtin.zeroCells z.cells (grownCap w (n + m) cap el - (n + m))) el)) := by
  have hn1 : ¬ (n + m ≤ cap) := by omega
  have h63' : ¬ (9223372036854775807 < ((n : Int) + (m : Int))) := by omega
  have hgl : ∀ r c, c ≤ 4194304 → Builtin.growBy (n + m) r c ≤ 4194304 := by
    intro r
    induction r with
    | zero => intro c hc; simpa [Builtin.growBy] using hc
    | succ r ih =>
      intro c hc
      unfold Builtin.growBy
      split
      · omega
      · exact ih _ (by omega)
  have hcap : Builtin.nextslicecap (n + m) cap ≤ 4194304 := by
    unfold Builtin.nextslicecap
    split
    · omega
    · split
      · omega
      · exact hgl _ _ (by omega)
  have h48 : Builtin.nextslicecap (n + m) cap * ie.bytes ≤ 4194304 * 128 := Nat.mul_le_mul hcap hby
  have h48' : ¬ (281474976710656 < Builtin.nextslicecap (n + m) cap * ie.bytes) := by omega
  have hf := hn w.drew rfl
  have hfo := ho w.drew rfl
  simp [Builtin.append_, run_underlying ht, sizeOf, typeInfo, zeroValue, hi, hz, Builtin.lenOf, hn1, h63', h48', Question.forced, hf, hfo, newRow, grownCap]
  congr 2
  apply Array.ext'
  simp [List.append_assoc]

theorem append_room_run {t ty el : TypeId} {ie : TypeInfo} (ht : P.underlying t = some (.slice el)) (hi : P.info? el = some ie) (b n cap : Nat) (A' : Option Addr) (m cap' : Nat) (news : List Value)
    (hn : (Builtin.firstCells ie.size m (.slice A' m cap')).run P w = .ok news.toArray w) (hroom : n + m ≤ cap) (T : TypeId) (cur : Array Value) (hheap : w.heap[b]? = some (.cells cur T (0, 0))) (hfit : n * ie.size + news.length ≤ cur.size) (h1 : ∀ u ∈ news, u.oneCell' = true) :
    (Builtin.append_ #[t, t] ty #[.slice (some ⟨b, 0, none⟩) n cap, .slice A' m cap']).run P w = .ok (.slice (some ⟨b, 0, none⟩) (n + m) cap) (w.setCells b (n * ie.size) news) := by
  have hst := run_storeCells_cells (P := P) b (n * ie.size) news 0 w (fun j hj => by simp only [World.cell?, hheap]; rw [Array.getElem?_eq_getElem (by omega)]; rfl) (fun j hj => by simp [World.frozen?, hheap]) h1
  simp only [Nat.add_zero] at hst
  simp [Builtin.append_, run_underlying ht, sizeOf, typeInfo, hi, Builtin.lenOf, hroom, hn, addr_add, hst]
theorem append_none_run {t ty el : TypeId} {ie : TypeInfo} (ht : P.underlying t = some (.slice el)) (hi : P.info? el = some ie) (A' : Option Addr) (cap' : Nat)
    (hn : (Builtin.firstCells ie.size 0 (.slice A' 0 cap')).run P w = .ok #[] w) :
    (Builtin.append_ #[t, t] ty #[.slice none 0 0, .slice A' 0 cap']).run P w = .ok (.slice none 0 0) w := by
  simp [Builtin.append_, run_underlying ht, sizeOf, typeInfo, hi, Builtin.lenOf, hn]

theorem CRel.drew (h : CRel C w ρ ok g) : CRel C w.drew ρ ok g ∧ Ext w ρ ok w.drew ρ ok :=
  h.world (fun _ _ => rfl) (Nat.le_refl _) ⟨rfl, rfl, rfl⟩ (fun _ _ _ => rfl)

/-- An append's outcome, the old slice having been let go. -/
theorem append_core (h : CRel C w ρ ok g) (hf : ρ fresh = none) {E : K} {xs ys : List (D E)} {t ty el : TypeId} {ie : TypeInfo} {z : Value} (k1 : P.underlying t = some (.slice el)) (k2 : P.info? el = some ie) (k3 : ie.size = esize E) (k4 : ie.bytes ≤ 128) (k5 : ie.zero = some z) (k6 : All2 ZRel z.cells.toList (enc E (dflt E)))
    (hlim : xs.length + ys.length ≤ 1048576) {A : Option Addr} {cap : Nat} (hcap : xs.length ≤ cap)
    (hA : (A = none ∧ cap = 0) ∨ ∃ b T cur, A = some ⟨b, 0, none⟩ ∧ w.heap[b]? = some (.cells cur T (0, 0)) ∧ cur.size = cap * esize E ∧ All2 (SRel w ρ ok) (cur.toList.take (xs.length * esize E)) (flat E xs) ∧
      (∀ x, ¬ ok x b) ∧ (∀ l, ¬ LiveAt g ρ l b) ∧ (C.w0.heap.size ≤ b ∨ C.M0 b))
    {A' : Option Addr} {cap' : Nat} {news : List Value} (hnl : news.length = ys.length * esize E) (hna : All2 (SRel w ρ ok) news (flat E ys)) (hnr : ∀ w' : World, w'.heap = w.heap → (Builtin.firstCells (esize E) ys.length (.slice A' ys.length cap')).run P w' = .ok news.toArray w') :
    ∃ w' ρ' cv, (Builtin.append_ #[t, t] ty #[.slice A xs.length cap, .slice A' ys.length cap']).run P w = .ok cv w' ∧ CRel C w' ρ' ok (upd1 g (fresh, 0) (some (.rows E (xs ++ ys)))) ∧ Ext w ρ ok w' ρ' ok ∧
      (∀ id, (id < fresh ∨ fresh + stride ≤ id) → ρ' id = ρ id) ∧ SRel w' ρ' ok cv (.row fresh) := by
  rw [← k3] at hnr
  have holds : ∃ olds : List Value, All2 (SRel w ρ ok) olds (flat E xs) ∧ ∀ w' : World, w'.heap = w.heap → (Builtin.firstCells ie.size xs.length (.slice A xs.length cap)).run P w' = .ok olds.toArray w' := by
    rcases hA with ⟨rfl, rfl⟩ | ⟨b, T, cur, rfl, hheap, hcs, hall, _⟩
    · have : xs = [] := List.eq_nil_of_length_eq_zero (by omega)
      subst this
      exact ⟨[], trivial, fun _ _ => rfl⟩
    · refine ⟨_, hall, fun w' hw' => firstCells_some w' _ _ b 0 _ _ _ (by rw [hall.length, flat_len, k3]) fun j u hu => ?_⟩
      rw [heap_cell hw', Nat.zero_add]
      simp only [World.cell?, hheap]
      by_cases hj : j < xs.length * esize E
      · rw [List.getElem?_take_of_lt hj] at hu
        simpa using hu
      · rw [List.getElem?_eq_none (by simp; omega)] at hu; cases hu
  obtain ⟨olds, ho1, ho2⟩ := holds
  by_cases hroom : xs.length + ys.length ≤ cap
  · rcases hA with ⟨rfl, rfl⟩ | ⟨b, T, cur, rfl, hheap, hcs, hall, hk, hnlive, hown⟩
    · have e1 : xs = [] := List.eq_nil_of_length_eq_zero (by omega)
      have e2 : ys = [] := List.eq_nil_of_length_eq_zero (by omega)
      subst e1 e2
      have e3 : news = [] := List.eq_nil_of_length_eq_zero (by simpa using hnl)
      subst e3
      obtain ⟨c1, c2⟩ := h.name hf (.slice none 0 0)
      refine ⟨w, _, _, append_none_run k1 k2 A' cap' (hnr w rfl), c1.addRows (updR_same _ _ _) ⟨none, 0, rfl, by simp, .inl ⟨rfl, rfl⟩⟩ (fun s e0 => by rw [h.fresh hf] at e0; cases e0) (fun b hb => by simp [blkOf] at hb), c2, fresh_ne ρ _, .row _ _ _ _ (updR_same _ _ _)⟩
    · have hfit : xs.length * ie.size + news.length ≤ cur.size := by
        rw [hnl, hcs, k3, ← Nat.add_mul]; exact Nat.mul_le_mul_right _ hroom
      have hrun := append_room_run (ty := ty) k1 k2 b xs.length cap A' ys.length cap' news (hnr w rfl) hroom T cur hheap hfit (fun u hu => by obtain ⟨_, hr⟩ := hna.left hu; exact hr.one)
      obtain ⟨s1, s2, s3⟩ := same_setCells b news (xs.length * ie.size) w
      obtain ⟨c1, c2⟩ := h.world (w' := w.setCells b (xs.length * ie.size) news) (fun b' hb' => heap_setCells_ne b _ _ _ _ (by
          rintro rfl
          rcases hb' with ⟨x, hx⟩ | ⟨l, hl⟩
          · exact hk x hx
          · exact hnlive l hl)) (by rw [size_setCells]; exact Nat.le_refl _) ⟨s1, s2, s3⟩ (fun b' hb' hm => heap_setCells_ne b _ _ _ _ (by
          rintro rfl
          rcases hown with h' | h'
          · omega
          · exact hm h'))
      obtain ⟨c3, c4⟩ := c1.name hf (.slice (some ⟨b, 0, none⟩) (xs.length + ys.length) cap)
      have hnew := heap_setCells b news (xs.length * ie.size) w cur T (0, 0) hheap hfit
      have hex := c2.trans c4
      refine ⟨_, _, _, hrun, c3.addRows (updR_same _ _ _) ⟨some ⟨b, 0, none⟩, cap, by rw [List.length_append], by rw [List.length_append]; exact hroom, .inr ⟨b, T, _, rfl, hnew, ?_, ?_⟩⟩ (fun s e0 => by rw [h.fresh hf] at e0; cases e0) ?_, hex, fresh_ne ρ _, .row _ _ _ _ (updR_same _ _ _)⟩
      · simp only [List.size_toArray]
        rw [splice_len _ _ _ (by simpa using hfit)]
        simpa using hcs
      · rw [List.length_append, flat_append]
        have hl1 : (cur.toList.take (xs.length * esize E)).length = xs.length * esize E := by rw [hall.length, flat_len]
        have := (hall.append hna).imp (S := SRel (w.setCells b (xs.length * ie.size) news) (updR ρ fresh (.slice (some ⟨b, 0, none⟩) (xs.length + ys.length) cap)) ok) fun _ _ => SRel.mono hex
        refine cast (congrArg (fun q => All2 _ q _) ?_) this
        simp only [k3]
        rw [take_at _ _ _ (by rw [List.length_append, hl1, hnl, Nat.add_mul])]
      · intro b' hb'
        simp [blkOf] at hb'
        subst hb'
        refine ⟨?_, hk, hown⟩
        rintro ⟨i, o⟩ ⟨⟨c, hc⟩, u, hu, hb⟩
        by_cases hi : i = fresh
        · exact hi
        · rw [updR_ne ρ _ hi] at hu
          exact (hnlive (i, o) ⟨⟨c, hc⟩, u, hu, hb⟩).elim
  · have hrun := append_grow_run (ty := ty) (w := w) k1 k2 k5 A xs.length cap A' ys.length cap' olds news ho2 hnr (by omega) (by omega) k4
    obtain ⟨d1, d2⟩ := h.drew
    have hge := grownCap_ge w (xs.length + ys.length) cap el
    have hzl : z.cells.size = esize E := by have := k6.length; simpa [enc_len] using this
    have hol : olds.length = xs.length * esize E := by rw [ho1.length, flat_len]
    have hcat : All2 (SRel w.drew ρ ok) (olds ++ news) (flat E (xs ++ ys)) := by
      rw [flat_append]
      exact (ho1.append hna).imp fun _ _ => SRel.mono d2
    obtain ⟨c1, c2⟩ := d1.newRows hf el (olds.toArray ++ news.toArray ++ Builtin.zeroCells z.cells (grownCap w (xs.length + ys.length) cap el - (xs.length + ys.length))) (E := E) (xs := xs ++ ys) (n := xs.length + ys.length) (cap := grownCap w (xs.length + ys.length) cap el)
      (by rw [List.length_append]) (by rw [List.length_append]; exact hge) (by
        simp only [Array.size_append, List.size_toArray, size_zeroCells, hzl, hol, hnl, ← Nat.add_mul]
        congr 1
        omega) (by
        simp only [Array.toList_append]
        rw [take_at _ _ _ (by simp only [List.length_append, hol, hnl, Nat.add_mul])]
        exact hcat)
    exact ⟨_, _, _, hrun, c1, d2.trans c2, fresh_ne ρ _, .row _ _ _ _ (updR_same _ _ _)⟩

theorem append_out (h : CRel C w ρ ok g) (hg : ∀ l c, gv l = some c → g l = some c) (hf : ρ fresh = none) {e : Env} (hE : ∀ t ti, e.tt t = some ti → TOK P t ti) {t ty : TypeId} {sv xv : Value} {s x : AV} (hs' : VRel w ρ ok sv s) (hx : VRel w ρ ok xv x) {v : AV} {u : Upd}
    (hs : (doAppend e t s x gv fresh).den = some (v, u)) : Out C w ρ ok g fresh ((do pure (.value (← Builtin.append_ #[t, t] ty #[sv, xv])) : Sem Next).run P w) v u := by
  unfold doAppend at hs
  split at hs
  · cases hs
  · rename_i E hk
    obtain ⟨el, ie, z, k1, k2, k3, k4, k5, k6⟩ := sliceElem_spec hE hk
    dsimp only at hs
    split at hs
    · rename_i xs u0 ys hold hnew
      obtain ⟨hb, hs⟩ := need_den hs
      have hlim : xs.length + ys.length ≤ 1048576 := of_decide_eq_true hb
      cases hs
      obtain ⟨A', cap', news, rfl, n1, n2, n3⟩ := src_cells (P := P) h hg hx E hnew
      split at hold
      · cases hold
        cases hs' with
        | one _ _ hs' => cases hs' with
          | nils =>
            obtain ⟨w', ρ', cv, r1, r2, r3, r4, r5⟩ := append_core (ty := ty) h hf (xs := []) k1 k2 k3 k4 k5 k6 hlim (A := none) (cap := 0) (by simp) (.inl ⟨rfl, rfl⟩) n1 n2 n3
            refine ⟨w', ρ', ok, cv, .value cv, ?_, .inl rfl, by simpa [updG] using r2, r3, r4, .one _ _ r5⟩
            simp only [List.length_nil] at r1
            simp only [Sem.run_bind, r1, Result.andThen_ok, Sem.run_pure]
      · rename_i id
        split at hold
        · rename_i E' xs' hgr
          unfold asK at hold
          split at hold
          · rename_i hEE
            subst hEE
            simp at hold
            obtain ⟨rfl, rfl⟩ := hold
            obtain ⟨A, cap, rfl, hr, hcap, hA⟩ := row_rel h.toHRel (hg _ _ hgr) hs'
            have hkill := h.kill (id := id) (fun s e0 => by rw [hg _ _ hgr] at e0; cases e0)
            obtain ⟨w', ρ', cv, r1, r2, r3, r4, r5⟩ := append_core (ty := ty) hkill hf (xs := xs') (ys := ys) k1 k2 k3 k4 k5 k6 hlim (A := A) (cap := cap) hcap (hA.imp (fun q => q) fun ⟨b, T, cur, q1, q2, q3, q4⟩ => by
              subst q1
              have hlive : LiveAt g ρ (id, 0) b := ⟨⟨_, hg _ _ hgr⟩, _, hr, rfl⟩
              refine ⟨b, T, cur, rfl, q2, q3, q4, fun x hx => (h.oks x b hx).2 _ hlive, ?_, h.own _ _ hlive⟩
              rintro l' ⟨⟨c, hc⟩, hb⟩
              by_cases hl' : (id, 0) = l'
              · subst hl'; rw [upd1_same] at hc; cases hc
              · rw [upd1_ne g _ hl'] at hc
                have := h.dist (id, 0) l' b hlive ⟨⟨c, hc⟩, hb⟩
                obtain ⟨i, o⟩ := l'
                have hid : id = i := this
                subst hid
                cases c with
                | rows E2 xs2 =>
                  obtain ⟨rfl, _⟩ := h.rows id o E2 xs2 hc
                  exact hl' rfl
                | keys ys =>
                  obtain ⟨_, b1, hb1, _⟩ := h.keys id o ys hc
                  rw [hr] at hb1; cases hb1
                | cell s =>
                  obtain ⟨b1, v1, hb1, _⟩ := h.cells id o s hc
                  rw [hr] at hb1; cases hb1) n1 n2 n3
            refine ⟨w', ρ', ok, cv, .value cv, ?_, .inl rfl, by simpa [updG] using r2, r3, r4, .one _ _ r5⟩
            simp only [Sem.run_bind, r1, Result.andThen_ok, Sem.run_pure]
          · cases hold
        · cases hold
      · cases hold
    · cases hs
end
end Go.Proofs.Ytipfipnhgpbceaa.Sx
/- The symbolic machine: slices written out, structs built, new variables (plain theorems). -/

set_option linter.unusedVariables false
set_option linter.unusedSimpArgs false
namespace Go.Proofs.Ytipfipnhgpbceaa.Sx
open Go

section
variable {C : Ctx} {w : World} {ρ : Rho} {ok : Okp} {g gv : Get} {fresh : Nat} {P : Program}

theorem run_mapM {α β : Type} (f : α → Sem β) (q : α → β) (xs : Array α) (w : World) (h : ∀ x ∈ xs, (f x).run P w = .ok (q x) w) : (xs.mapM f).run P w = .ok (xs.map q) w := by
  obtain ⟨l⟩ := xs
  have key : ∀ l : List α, (∀ x ∈ l, (f x).run P w = .ok (q x) w) → (l.mapM f).run P w = .ok (l.map q) w := by
    intro l
    induction l with
    | nil => intro _; rfl
    | cons x l ih =>
      intro h
      rw [List.mapM_cons, Sem.run_bind, h x (by simp), Result.andThen_ok, Sem.run_bind, ih (fun y hy => h y (by simp [hy])), Result.andThen_ok]
      rfl
  have := key l (fun x hx => h x (by simpa using hx))
  rw [List.mapM_toArray, Sem.run_map, this]
  simp

theorem set_fold (off : Nat) : ∀ (l : List Value) (k : Nat) (cells : Array Value), off + k + l.length ≤ cells.size →
    ((l.zipIdx k).foldl (fun (cs : Array Value) (p : Value × Nat) => cs.setIfInBounds (off + p.2) p.1) cells).toList = cells.toList.take (off + k) ++ l ++ cells.toList.drop (off + k + l.length)
  | [], k, cells, _ => by simp
  | v :: l, k, cells, h => by
    simp only [List.length_cons] at h
    rw [List.zipIdx_cons, List.foldl_cons, set_fold off l (k + 1) _ (by rw [Array.size_setIfInBounds]; omega)]
    simp only [Array.toList_setIfInBounds, List.length_cons]
    have hlt : off + k < cells.toList.length := by simp; omega
    rw [List.take_set, List.drop_set_of_lt (by omega), ← Nat.add_assoc, List.take_succ_eq_append_getElem hlt, List.set_append]
    simp only [List.length_take, Nat.min_eq_left (Nat.le_of_lt hlt), Nat.lt_irrefl, if_false, Nat.sub_self, List.set_cons_zero]
    rw [show off + k + (l.length + 1) = off + k + 1 + l.length by omega]
    simp
theorem set_fold' (off : Nat) (vc : Array Value) (cells : Array Value) (h : off + vc.size ≤ cells.size) :
    (vc.zipIdx.foldl (fun (cs : Array Value) (p : Value × Nat) => cs.setIfInBounds (off + p.2) p.1) cells).toList = cells.toList.take off ++ vc.toList ++ cells.toList.drop (off + vc.size) := by
  have := set_fold off vc.toList 0 cells (by simpa using h)
  rw [← Array.foldl_toList, Array.toList_zipIdx]
  simpa using this

/-- Parts, filled in. -/
theorem fill_rel {place : Nat → Option (Nat × Nat)} {place' : Nat → Option (Nat × Nat)} (hp : ∀ i p, place' i = some p → place i = some p) : ∀ (parts : List (Nat × Value)) (ps : List (Nat × AV)) (cells : Array Value) (z l : List Sc), All2 (SRel w ρ ok) cells.toList z →
    All2 (fun (a : Nat × Value) (b : Nat × AV) => a.1 = b.1 ∧ VRel w ρ ok a.2 b.2) parts ps → buildCells place' z (ps.map fun p => (p.1, p.2.cells)) = some l →
    ∃ cells', Instr.fill place cells parts = some cells' ∧ All2 (SRel w ρ ok) cells'.toList l
  | [], [], cells, z, l, hz, _, hb => by simp [buildCells] at hb; subst hb; exact ⟨cells, rfl, hz⟩
  | (i, v) :: parts, (j, x) :: ps, cells, z, l, hz, hps, hb => by
    obtain ⟨⟨hij, hv⟩, hps⟩ := hps
    simp only at hij hv
    subst hij
    simp only [List.map_cons, buildCells] at hb
    split at hb
    · rename_i off size hpl
      split at hb
      · rename_i hc
        have hxc := hv.cells (by intro e0; rw [e0] at hc; simp at hc; omega)
        have hsz : v.cells.size = size := by have := hxc.length; simp at this; omega
        have hcz : cells.size = z.length := by have := hz.length; simpa using this
        have hfold := set_fold' off v.cells cells (by omega)
        have hall : All2 (SRel w ρ ok) (v.cells.zipIdx.foldl (fun (cs : Array Value) (p : Value × Nat) => cs.setIfInBounds (off + p.2) p.1) cells).toList (splice z off x.cells) := by
          rw [hfold]
          unfold splice
          have hl2 : x.cells.length = v.cells.size := by omega
          rw [hl2]
          exact ((hz.take off).append hxc).append (hz.drop _)
        obtain ⟨cells', h1, h2⟩ := fill_rel hp parts ps _ _ l hall hps hb
        refine ⟨cells', ?_, h2⟩
        unfold Instr.fill
        rw [hp _ _ hpl]
        have hn : ¬ (v.cells.size ≠ size ∨ off + v.cells.size > cells.size) := by omega
        simp only [ne_eq, hsz, not_true_eq_false, decide_false, Bool.false_or, gt_iff_lt]
        rw [if_neg (by simp; omega)]
        exact h1
      · cases hb
    · cases hb
  | [], _ :: _, _, _, _, _, h, _ => h.elim
  | _ :: _, [], _, _, _, _, h, _ => h.elim

theorem build_out (h : CRel C w ρ ok g) {e : Env} (hE : ∀ t ti, e.tt t = some ti → TOK P t ti) {t : TypeId} {parts : Array (Nat × Value)} {ps : List (Nat × AV)} (hps : All2 (fun (a : Nat × Value) (b : Nat × AV) => a.1 = b.1 ∧ VRel w ρ ok a.2 b.2) parts.toList ps) {v : AV}
    (hs : (doBuild e t ps).den = some v) : Out C w ρ ok g fresh ((do pure (.value (← Instr.build t parts)) : Sem Next).run P w) v [] := by
  unfold doBuild at hs
  split at hs
  · rename_i ti hti
    have hT := hE t ti hti
    obtain ⟨z, hz, hzr⟩ := hT.zero
    have hzr' : All2 (SRel w ρ ok) z.cells.toList ti.zero := hzr.imp fun _ _ q => q _ _ _
    split at hs
    · rename_i fs hk
      split at hs
      · rename_i l hb
        cases hs
        have hkind := hT.kind
        rw [hk] at hkind
        obtain ⟨F, f1, f2, f3⟩ := hkind
        obtain ⟨cells', h1, h2⟩ := fill_rel (place := fun i => (F.map fun f => (f.offset, P.cellsOf f.type))[i]?) (fun i p hp => by
          cases hfa : fieldAt e t i with
          | none => rw [hfa] at hp; cases hp
          | some r =>
            rw [hfa] at hp
            simp at hp
            subst hp
            obtain ⟨F', fl, q1, q2, q3, q4, q5⟩ := field_at hE (off := r.1) (te := r.2) hfa
            have : F' = F := by rw [f1] at q1; simpa using q1.symm
            subst this
            obtain ⟨i', z', w1, w2, _⟩ := q4.info
            simp [q2, q3, Program.cellsOf, w1, w2]) parts.toList ps z.cells ti.zero l hzr' hps hb
        have hmap : (F.mapM fun f => do pure (f.offset, ← sizeOf f.type) : Sem (Array (Nat × Nat))).run P w = .ok (F.map fun f => (f.offset, P.cellsOf f.type)) w := by
          refine run_mapM _ _ F w fun f hf => ?_
          have := f3 f hf
          cases hi : P.info? f.type with
          | none => rw [hi] at this; cases this
          | some i => simp [sizeOf, typeInfo, hi, Program.cellsOf]
        have hrun : (do pure (.value (← Instr.build t parts)) : Sem Next).run P w = .ok (.value (.agg cells')) w := by
          simp only [Instr.build, Sem.run_bind, hz, Result.andThen_ok, run_underlying f1, hmap]
          rw [h1]
          simp
        rw [hrun]
        exact Out.pure h (.agg _ _ h2)
      · cases hs
    · rename_i n el hk
      split at hs
      · rename_i te hte
        split at hs
        · rename_i l hb
          cases hs
          have hkind := hT.kind
          rw [hk] at hkind
          have hTe := hE el te hte
          obtain ⟨cells', h1, h2⟩ := fill_rel (place := fun i => some (i * te.size, te.size)) (fun i p hp => by
            split at hp
            · exact hp
            · cases hp) parts.toList ps z.cells ti.zero l hzr' hps hb
          have hrun : (do pure (.value (← Instr.build t parts)) : Sem Next).run P w = .ok (.value (.agg cells')) w := by
            have hu : P.underlying t = some (.array n el) := hkind
            simp only [Instr.build, Sem.run_bind, hz, Result.andThen_ok, run_underlying hu, hTe.size]
            rw [h1]
            simp
          rw [hrun]
          exact Out.pure h (.agg _ _ h2)
        · cases hs
      · cases hs
    · cases hs
  · cases hs

theorem Ext.more {ok' : Okp} (h : ∀ x b, ok x b → ok' x b) : Ext w ρ ok w ρ ok' := ⟨fun _ _ _ => rfl, h, fun _ _ h => h⟩

/-- A slice of the call's own becomes one that is only read. -/
theorem thaw_one (h : CRel C w ρ ok g) (hg : ∀ l c, gv l = some c → g l = some c) {ok1 : Okp} {g1 : Get} (h1 : CRel C w ρ ok1 g1) (hsub : ∀ l c, g1 l = some c → g l = some c) (hok : ∀ x b, ok x b → ok1 x b)
    {v : Value} {s s' : Sc} {u : Upd} (hv : SRel w ρ ok v s) (ht : thawOne gv s = some (s', u)) :
    ∃ ok2, CRel C w ρ ok2 (updG g1 u) ∧ (∀ x b, ok1 x b → ok2 x b) ∧ (∀ l c, updG g1 u l = some c → g l = some c) ∧ SRel w ρ ok2 v s' := by
  unfold thawOne at ht
  split at ht
  · rename_i id
    split at ht
    · rename_i E xs hgr
      cases ht
      obtain ⟨A, cap, rfl, hr, hcap, hA⟩ := row_rel h.toHRel (hg _ _ hgr) (.one _ _ hv)
      have hkill := h1.kill (id := id) (fun s e0 => by have := hsub _ _ e0; rw [hg _ _ hgr] at this; cases this)
      have hsub' : ∀ l c, upd1 g1 (id, 0) none l = some c → g l = some c ∧ l ≠ (id, 0) := by
        intro l c hc
        by_cases hl : (id, 0) = l
        · subst hl; rw [upd1_same] at hc; cases hc
        · rw [upd1_ne g1 _ hl] at hc; exact ⟨hsub _ _ hc, fun e0 => hl e0.symm⟩
      rcases hA with ⟨rfl, rfl⟩ | ⟨b, T, cur, rfl, hheap, hcs, hall⟩
      · have : xs = [] := List.eq_nil_of_length_eq_zero (by omega)
        subst this
        exact ⟨ok1, hkill, fun _ _ h => h, fun l c hc => (hsub' l c hc).1, .vec0 _ _ _ _⟩
      · have hlive : LiveAt g ρ (id, 0) b := ⟨⟨_, hg _ _ hgr⟩, _, hr, rfl⟩
        have hnl : ∀ l', ¬ LiveAt (upd1 g1 (id, 0) none) ρ l' b := by
          rintro l' ⟨⟨c, hc⟩, hb⟩
          obtain ⟨hc', hne⟩ := hsub' _ _ hc
          have := h.dist (id, 0) l' b hlive ⟨⟨c, hc'⟩, hb⟩
          obtain ⟨i, o⟩ := l'
          have hid : id = i := this
          subst hid
          cases c with
          | rows E2 xs2 =>
            obtain ⟨rfl, _⟩ := h.rows id o E2 xs2 hc'
            exact hne rfl
          | keys ys =>
            obtain ⟨_, b1, hb1, _⟩ := h.keys id o ys hc'
            rw [hr] at hb1; cases hb1
          | cell s =>
            obtain ⟨b1, v1, hb1, _⟩ := h.cells id o s hc'
            rw [hr] at hb1; cases hb1
        obtain ⟨c1, c2⟩ := hkill.more (ok' := fun x b' => ok1 x b' ∨ b' = b) (fun x b' hb => .inl hb) (fun x b' hb => hb.imp (fun q => q) fun e0 => by
          subst e0
          exact ⟨h.live_lt hlive, hnl, h.own _ _ hlive⟩)
        refine ⟨_, c1, fun x b' hb => .inl hb, fun l c hc => (hsub' l c hc).1, ?_⟩
        refine SRel.vec false E xs b 0 cap (fun k => cur.toList.getD k undef) hcap (.inr rfl) ?_ ?_
        · intro k hk
          have hlt : k < cur.size := by rw [hcs]; have := Nat.mul_le_mul_right (esize E) hcap; omega
          simp [World.cell?, hheap, Array.getElem?_eq_getElem hlt]
        · intro k s hks
          obtain ⟨a, ha, hr'⟩ := hall.get hks
          have hlt : k < xs.length * esize E := by
            rw [← flat_len]; exact (List.getElem?_eq_some_iff.1 hks).1
          rw [List.getElem?_take_of_lt hlt] at ha
          simp only [List.getD_eq_getElem?_getD, ha]
          exact hr'.mono (Ext.more fun x b' hb => .inl (hok x b' hb))
    · cases ht
  · cases ht
  · cases ht
    exact ⟨ok1, h1, fun _ _ h => h, hsub, hv.mono (Ext.more hok)⟩

theorem freeze_all (h : CRel C w ρ ok g) (hg : ∀ l c, gv l = some c → g l = some c) : ∀ (l l' : List Sc) (u : Upd) (us : List Value) (ok1 : Okp) (g1 : Get), CRel C w ρ ok1 g1 → (∀ l c, g1 l = some c → g l = some c) → (∀ x b, ok x b → ok1 x b) →
    All2 (SRel w ρ ok) us l → freeze gv l = some (l', u) →
    ∃ ok2, CRel C w ρ ok2 (updG g1 u) ∧ (∀ x b, ok1 x b → ok2 x b) ∧ (∀ l c, updG g1 u l = some c → g l = some c) ∧ All2 (SRel w ρ ok2) us l'
  | [], l', u, [], ok1, g1, h1, hsub, hok, _, hf => by
    simp [freeze] at hf
    obtain ⟨rfl, rfl⟩ := hf
    exact ⟨ok1, h1, fun _ _ h => h, hsub, trivial⟩
  | s :: l, l', u, v :: us, ok1, g1, h1, hsub, hok, hv, hf => by
    unfold freeze at hf
    split at hf
    · rename_i s' u1 l'' u2 ht hf'
      cases hf
      obtain ⟨ok2, a1, a2, a3, a4⟩ := thaw_one h hg h1 hsub hok hv.1 ht
      obtain ⟨ok3, b1, b2, b3, b4⟩ := freeze_all h hg l l'' u2 us ok2 _ a1 a3 (fun x b hb => a2 x b (hok x b hb)) hv.2 hf'
      rw [updG_append]
      exact ⟨ok3, b1, fun x b hb => b2 x b (a2 x b hb), b3, a4.mono (Ext.more b2), b4⟩
    · cases hf
  | [], _, _, _ :: _, _, _, _, _, _, hv, _ => hv.elim
  | _ :: _, _, _, [], _, _, _, _, _, hv, _ => hv.elim

theorem dec_nil (E : K) : dec E [] = none := by cases E <;> rfl
theorem drop_past {α : Type} (X c : List α) (n N : Nat) (h : X.length = n) (hN : n ≤ N) : (X ++ c.drop n).drop N = c.drop N := by
  rw [List.drop_append, List.drop_of_length_le (by omega), List.nil_append, List.drop_drop, h]
  congr 1
  omega
theorem lit_elems (h : CRel C w ρ ok g) (hg : ∀ l c, gv l = some c → g l = some c) (E : K) : ∀ (ps : List (Nat × AV)) (parts : List (Nat × Value)) (i : Nat) (xs : List (D E)) (u : Upd) (ok1 : Okp) (g1 : Get), CRel C w ρ ok1 g1 → (∀ l c, g1 l = some c → g l = some c) → (∀ x b, ok x b → ok1 x b) →
    All2 (fun (a : Nat × Value) (b : Nat × AV) => a.1 = b.1 ∧ VRel w ρ ok a.2 b.2) parts ps → litElems E gv i ps = some (xs, u) →
    ∃ ok2, CRel C w ρ ok2 (updG g1 u) ∧ (∀ x b, ok1 x b → ok2 x b) ∧ (∀ l c, updG g1 u l = some c → g l = some c) ∧ All2 (SRel w ρ ok2) (parts.flatMap fun p => p.2.cells.toList) (flat E xs) ∧
      parts.length = xs.length ∧ (∀ j p, parts[j]? = some p → p.1 = i + j ∧ p.2.cells.size = esize E)
  | [], [], i, xs, u, ok1, g1, h1, hsub, hok, _, hl => by
    simp [litElems] at hl
    obtain ⟨rfl, rfl⟩ := hl
    exact ⟨ok1, h1, fun _ _ h => h, hsub, trivial, rfl, by simp⟩
  | (j, x) :: ps, (j', v) :: parts, i, xs, u, ok1, g1, h1, hsub, hok, hps, hl => by
    obtain ⟨⟨hjj, hv⟩, hps⟩ := hps
    simp only at hjj hv
    subst hjj
    unfold litElems at hl
    split at hl
    · rename_i hij
      split at hl
      · rename_i cs u1 hf
        split at hl
        · rename_i y ys u2 hd hr
          cases hl
          have hne : x.cells ≠ [] := by
            intro e0
            rw [e0] at hf
            simp [freeze] at hf
            obtain ⟨rfl, rfl⟩ := hf
            rw [dec_nil] at hd
            cases hd
          have hxc := hv.cells hne
          obtain ⟨ok2, a1, a2, a3, a4⟩ := freeze_all h hg _ _ _ _ ok1 g1 h1 hsub hok hxc hf
          obtain ⟨ok3, b1, b2, b3, b4, b5, b6⟩ := lit_elems h hg E ps parts (i + 1) ys u2 ok2 _ a1 a3 (fun x b hb => a2 x b (hok x b hb)) hps hr
          rw [updG_append]
          have hd' := dec_rel hd a4
          refine ⟨ok3, b1, fun x b hb => b2 x b (a2 x b hb), b3, ?_, by simp [b5], ?_⟩
          · rw [List.flatMap_cons, flat_cons]
            exact (hd'.imp fun _ _ => SRel.mono (Ext.more b2)).append b4
          · intro k p hk
            cases k with
            | zero =>
              simp at hk
              subst hk
              refine ⟨by simpa using (beq_iff_eq.1 hij).symm, ?_⟩
              have := hd'.length
              rw [enc_len] at this
              simpa using this
            | succ k =>
              have := b6 k p (by simpa using hk)
              exact ⟨by omega, this.2⟩
        · cases hl
      · cases hl
    · cases hl
  | [], _ :: _, _, _, _, _, _, _, _, _, h, _ => h.elim
  | _ :: _, [], _, _, _, _, _, _, _, _, h, _ => h.elim

theorem fill_seq (size : Nat) (hpos : 0 < size) : ∀ (parts : List (Nat × Value)) (i : Nat) (cells : Array Value), (∀ j p, parts[j]? = some p → p.1 = i + j ∧ p.2.cells.size = size) → (i + parts.length) * size ≤ cells.size →
    ∃ cells', Instr.fill (fun i => some (i * size, size)) cells parts = some cells' ∧ cells'.toList = cells.toList.take (i * size) ++ parts.flatMap (fun p => p.2.cells.toList) ++ cells.toList.drop ((i + parts.length) * size)
  | [], i, cells, _, _ => ⟨cells, rfl, by simp⟩
  | (j, v) :: parts, i, cells, hp, hl => by
    obtain ⟨hj, hs⟩ := hp 0 (j, v) (by simp)
    simp only [Nat.add_zero] at hj hs
    subst hj
    simp only [List.length_cons] at hl
    have hle : j * size + size ≤ cells.size := by
      have h1 : (j + 1) * size ≤ (j + (parts.length + 1)) * size := Nat.mul_le_mul_right _ (by omega)
      rw [Nat.succ_mul] at h1
      omega
    have hfold := set_fold' (j * size) v.cells cells (by omega)
    obtain ⟨cells', h1, h2⟩ := fill_seq size hpos parts (j + 1) (v.cells.zipIdx.foldl (fun (cs : Array Value) (p : Value × Nat) => cs.setIfInBounds (j * size + p.2) p.1) cells) (fun k p hk => by
      have := hp (k + 1) p (by simpa using hk)
      exact ⟨by omega, this.2⟩) (by
      have : (v.cells.zipIdx.foldl (fun (cs : Array Value) (p : Value × Nat) => cs.setIfInBounds (j * size + p.2) p.1) cells).size = cells.size := by
        rw [← Array.length_toList, hfold]
        simp only [List.length_append, List.length_take, List.length_drop, Array.length_toList]
        omega
      rw [this]
      have e1 : j + 1 + parts.length = j + (parts.length + 1) := by omega
      rw [e1]
      exact hl)
    refine ⟨cells', ?_, ?_⟩
    · unfold Instr.fill
      dsimp only
      have hc : (decide (v.cells.size ≠ size) || decide (j * size + v.cells.size > cells.size)) = false := by simp; omega
      simp only [ne_eq, hs, not_true_eq_false, decide_false, Bool.false_or]
      rw [if_neg (by simp; omega)]
      exact h1
    · rw [h2, hfold]
      have hvl : v.cells.toList.length = size := by simpa using hs
      have e1 : (j + 1) * size = j * size + size := Nat.succ_mul _ _
      have e2 : (j + 1 + parts.length) * size = (j + (parts.length + 1)) * size := by congr 1; omega
      have hlt : (cells.toList.take (j * size)).length = j * size := by simp; omega
      have hle2 : j * size + size ≤ (j + (parts.length + 1)) * size := by
        rw [← e1]; exact Nat.mul_le_mul_right _ (by omega)
      rw [List.flatMap_cons, e1, e2, hs]
      rw [take_at _ _ (j * size + size) (by rw [List.length_append, hlt, hvl])]
      rw [drop_past _ _ (j * size + size) _ (by rw [List.length_append, hlt, hvl]) hle2]
      simp

theorem lit_out (h : CRel C w ρ ok g) (hg : ∀ l c, gv l = some c → g l = some c) (hf : ρ fresh = none) {e : Env} (hE : ∀ t ti, e.tt t = some ti → TOK P t ti) {t : TypeId} {n : Nat} {parts : Array (Nat × Value)} {ps : List (Nat × AV)} (hps : All2 (fun (a : Nat × Value) (b : Nat × AV) => a.1 = b.1 ∧ VRel w ρ ok a.2 b.2) parts.toList ps) {v : AV} {u : Upd}
    (hs : (doLit e t n ps gv fresh).den = some (v, u)) : Out C w ρ ok g fresh ((do pure (.value (← Instr.buildSlice t n parts)) : Sem Next).run P w) v u := by
  unfold doLit at hs
  split at hs
  · rename_i E hk
    obtain ⟨el, ie, z, k1, k2, k3, k4, k5, k6⟩ := sliceElem_spec hE hk
    split at hs
    · rename_i xs u0 hl
      split at hs
      · rename_i hc
        obtain ⟨hc1, hc2⟩ := hc
        cases hs
        obtain ⟨ok2, a1, a2, a3, a4, a5, a6⟩ := lit_elems h hg E ps parts.toList 0 xs u0 ok g h (fun _ _ q => q) (fun _ _ q => q) hps hl
        have hzl : z.cells.size = esize E := by have := k6.length; simpa [enc_len] using this
        have hlen : parts.toList.length = n := by omega
        obtain ⟨cells', f1, f2⟩ := fill_seq (esize E) (esize_pos E) parts.toList 0 ((Array.range (n * esize E)).map ((if n * esize E = 0 then #[] else z.cells)[· % (if n * esize E = 0 then #[] else z.cells).size]!)) a6 (by simp [← hlen])
        have hcells : cells'.toList = parts.toList.flatMap fun p => p.2.cells.toList := by
          rw [f2]
          simp only [Nat.zero_mul, List.take_zero, List.nil_append, Nat.zero_add]
          rw [List.drop_of_length_le (by simp [hlen]), List.append_nil]
        have hcl : cells'.toList.length = n * esize E := by rw [hcells, a4.length, flat_len, hc1]
        obtain ⟨c1, c2⟩ := a1.newRows hf el cells' (E := E) (xs := xs) (n := n) (cap := n) hc1.symm (by omega) (by simpa using hcl) (by
          rw [List.take_of_length_le (by rw [hcl, hc1]; exact Nat.le_refl _), hcells]; exact a4)
        refine ⟨_, _, ok2, .slice (some ⟨w.heap.size, 0, none⟩) n n, .value _, ?_, .inl rfl, ?_, (Ext.more a2).trans c2, fresh_ne ρ _, .one _ _ (.row _ _ _ _ (updR_same _ _ _))⟩
        · by_cases h0 : n * esize E = 0
          · simp only [h0, if_true] at f1
            have hn : ¬ (n * esize E > 2 ^ 24) := by omega
            simp [Instr.buildSlice, run_underlying k1, sizeOf, typeInfo, k2, k3, h0, newRow]
            rw [show (Array.map (fun x => (#[] : Array Value)[x % (#[] : Array Value).size]!) (Array.range 0) : Array Value) = #[] from by simp] at f1
            rw [show (Array.map (fun x => (default : Value)) (Array.range 0) : Array Value) = #[] from by simp, f1]
            simp
          · simp only [h0, if_false] at f1
            have hn : ¬ (16777216 < n * esize E) := by omega
            simp [Instr.buildSlice, run_underlying k1, sizeOf, typeInfo, zeroValue, k2, k3, k5, h0, hn, newRow]
            rw [f1]
            simp
        · rw [updG_append]; exact c1
      · cases hs
    · cases hs
  · cases hs

theorem alloc_out (h : CRel C w ρ ok g) (hf : ρ fresh = none) {t : TypeId} {ti : TI} (hT : TOK P t ti) (h64 : ti.zero.length ≤ 64) :
    Out C w ρ ok g fresh ((do pure (.value (← Instr.alloc t true (.tuple #[]))) : Sem Next).run P w) (.one (.ptr fresh 0)) (putCells fresh 0 ti.zero) := by
  obtain ⟨z, hz, hzr⟩ := hT.zero
  obtain ⟨c1, c2⟩ := h.allocBox hf t z.cells ti.zero (hzr.imp fun _ _ q => q _ _ _) h64
  refine ⟨_, _, ok, .pointer (some ⟨w.heap.size, 0, none⟩), .value _, ?_, .inl rfl, c1, c2, fresh_ne ρ _, .one _ _ (.ptr _ _ _ (updR_same _ _ _))⟩
  simp [Instr.alloc, hz, newVar, newRow]
theorem box_out (h : CRel C w ρ ok g) (hf : ρ fresh = none) {t : TypeId} {xv : Value} {x : AV} (hx : VRel w ρ ok xv x) (hn : x.cells ≠ []) (h64 : x.cells.length ≤ 64) :
    Out C w ρ ok g fresh ((do pure (.value (← Instr.box t xv)) : Sem Next).run P w) (.one (.ptr fresh 0)) (putCells fresh 0 x.cells) := by
  obtain ⟨c1, c2⟩ := h.allocBox hf t xv.cells x.cells (hx.cells hn) h64
  refine ⟨_, _, ok, .pointer (some ⟨w.heap.size, 0, none⟩), .value _, ?_, .inl rfl, c1, c2, fresh_ne ρ _, .one _ _ (.ptr _ _ _ (updR_same _ _ _))⟩
  simp [Instr.box, newVar, newRow]
end
end Go.Proofs.Ytipfipnhgpbceaa.Sx
/- The symbolic machine: memory under other numbers (plain theorems). -/

set_option linter.unusedVariables false
set_option linter.unusedSimpArgs false
namespace Go.Proofs.Ytipfipnhgpbceaa.Sx
open Go

theorem enc_noid (f : Nat → Option Nat) (E : K) (x : D E) : ∀ s ∈ enc E x, s.ren f = s := by
  cases E <;> (intro s hs; simp only [enc, List.mem_cons, List.not_mem_nil, or_false] at hs) <;> (rcases hs with rfl | rfl | rfl | rfl | rfl | rfl | rfl | rfl | rfl | rfl) <;> rfl
theorem flat_noid (f : Nat → Option Nat) (E : K) (xs : List (D E)) (k : Nat) (s : Sc) (h : (flat E xs)[k]? = some s) : s.ren f = s := by
  have := List.mem_of_getElem? h
  obtain ⟨x, _, hx⟩ := List.mem_flatMap.1 this
  exact enc_noid f E x s hx

section
variable {w : World} {ρ ρ2 : Rho} {ok ok2 : Okp} {f : Nat → Option Nat}

theorem SRel.ren (hf : ∀ id id2 v, f id = some id2 → ρ id = some v → ρ2 id2 = some v) (hok : ∀ x b, ok x b → ok2 x b) {v : Value} {s : Sc} (h : SRel w ρ ok v s) : SRel w ρ2 ok2 v (s.ren f) := by
  induction h with
  | undef v h => exact .undef v h
  | int k n => exact .int k n
  | bool b => exact .bool b
  | nils => exact .nils
  | vec0 b E A cap => exact .vec0 b E A cap
  | vec b E xs blk off cap U hc hok' hcell hrel ih =>
    exact .vec b E xs blk off cap U hc (hok _ _ hok') hcell (fun k s hs => by have := ih k s hs; rwa [flat_noid f E xs k s hs] at this)
  | row id A n cap h =>
    simp only [Sc.ren]
    split
    · rename_i j hj; exact .row j A n cap (hf _ _ _ hj h)
    · exact .undef _ rfl
  | ptr id off b h =>
    simp only [Sc.ren]
    split
    · rename_i j hj; exact .ptr j off b (hf _ _ _ hj h)
    · exact .undef _ rfl
  | eptr id E i off b n cap h h0 h1 =>
    simp only [Sc.ren]
    split
    · rename_i j hj; exact .eptr j E i off b n cap (hf _ _ _ hj h) h0 h1
    · exact .undef _ rfl
  | mp id b h =>
    simp only [Sc.ren]
    split
    · rename_i j hj; exact .mp j b (hf _ _ _ hj h)
    · exact .undef _ rfl
  | vptr b E xs i off blk o U hok' h0 h1 hcell hrel ih =>
    exact .vptr b E xs i off blk o U (hok _ _ hok') h0 h1 hcell (fun j s hs => by
      have := ih j s hs
      rwa [enc_noid f E _ s (List.mem_of_getElem? hs)] at this)

theorem All2.mapR {α β γ : Type} {R : α → β → Prop} {S : α → γ → Prop} {q : β → γ} (h : ∀ a b, R a b → S a (q b)) : ∀ {as : List α} {bs : List β}, All2 R as bs → All2 S as (bs.map q)
  | [], [], _ => trivial
  | _ :: _, _ :: _, hh => ⟨h _ _ hh.1, All2.mapR h hh.2⟩
  | [], _ :: _, hh => hh.elim
  | _ :: _, [], hh => hh.elim

theorem VRel.ren (hf : ∀ id id2 v, f id = some id2 → ρ id = some v → ρ2 id2 = some v) (hok : ∀ x b, ok x b → ok2 x b) {v : Value} {a : AV} (h : VRel w ρ ok v a) : VRel w ρ2 ok2 v (a.ren f) := by
  cases h with
  | any v => exact .any v
  | one v s h => exact .one v _ (h.ren hf hok)
  | agg vs l h => exact .agg vs _ (All2.mapR (fun _ _ q => q.ren hf hok) h)
  | tup vs l h =>
    refine .tup vs _ (All2.mapR (fun a b q => ?_) h)
    rcases q with ⟨h1, us, h2, h3⟩ | ⟨h1, s, h2, h3⟩
    · exact .inl ⟨h1, us, h2, All2.mapR (fun _ _ q => q.ren hf hok) h3⟩
    · exact .inr ⟨h1, s.ren f, by simp [h2], h3.ren hf hok⟩

def renMC (f : Nat → Option Nat) : MC → MC
  | .cell s => .cell (s.ren f)
  | .rows E xs => .rows E xs
  | .keys xs => .keys xs

theorem RRel.ren (hf : ∀ id id2 v, f id = some id2 → ρ id = some v → ρ2 id2 = some v) (hok : ∀ x b, ok x b → ok2 x b) {v : Value} {E : K} {xs : List (D E)} (h : RRel w ρ ok v E xs) : RRel w ρ2 ok2 v E xs := by
  obtain ⟨A, cap, a2, a3, a4⟩ := h
  refine ⟨A, cap, a2, a3, a4.imp (fun q => q) fun ⟨b, T, cur, b1, b2, b3, b4⟩ => ⟨b, T, cur, b1, b2, b3, ?_⟩⟩
  refine All2.of_get b4.length fun j a s ha hs => ?_
  obtain ⟨a', ha', hr⟩ := b4.get hs
  rw [ha] at ha'
  cases ha'
  have := hr.ren (f := f) hf hok
  rwa [flat_noid f E xs j s hs] at this

theorem HRel.rhoOf {g : Get} (h : HRel w ρ ok g) {id off : Nat} {c : MC} (hg : g (id, off) = some c) : ∃ v, ρ id = some v := by
  cases c with
  | cell s => obtain ⟨b, v, h1, _⟩ := h.cells id off s hg; exact ⟨_, h1⟩
  | rows E xs => obtain ⟨_, v, h1, _⟩ := h.rows id off E xs hg; exact ⟨_, h1⟩
  | keys xs => obtain ⟨_, v, h1, _⟩ := h.keys id off xs hg; exact ⟨_, h1⟩

theorem HRel.trans_live {g g2 : Get} {inv : Nat → Option Nat} (h : HRel w ρ ok g) (hinv : ∀ id2 id, inv id2 = some id → f id = some id2) (hf : ∀ id id2 v, f id = some id2 → ρ id = some v → ρ2 id2 = some v)
    (hg : ∀ id2 off c2, g2 (id2, off) = some c2 → ∃ id c, inv id2 = some id ∧ g (id, off) = some c ∧ c2 = renMC f c) {l : Loc} {b : Nat} (hl : LiveAt g2 ρ2 l b) : ∃ id, inv l.1 = some id ∧ LiveAt g ρ (id, l.2) b := by
  obtain ⟨id2, off⟩ := l
  obtain ⟨⟨c2, hc2⟩, v, hv, hb⟩ := hl
  obtain ⟨id, c, h1, h2, h3⟩ := hg id2 off c2 hc2
  obtain ⟨v', hv'⟩ := h.rhoOf h2
  have := hf id id2 v' (hinv _ _ h1) hv'
  have hvv : v = v' := Option.some.inj (hv.symm.trans this)
  subst hvv
  exact ⟨id, h1, ⟨c, h2⟩, v, hv', hb⟩

theorem HRel.trans {g g2 : Get} {inv : Nat → Option Nat} (h : HRel w ρ ok g) (hinv : ∀ id2 id, inv id2 = some id → f id = some id2) (hf : ∀ id id2 v, f id = some id2 → ρ id = some v → ρ2 id2 = some v)
    (hg : ∀ id2 off c2, g2 (id2, off) = some c2 → ∃ id c, inv id2 = some id ∧ g (id, off) = some c ∧ c2 = renMC f c)
    (hg' : ∀ id2 id off s, inv id2 = some id → (∃ o c, g2 (id2, o) = some c) → g (id, off) = some (.cell s) → ∃ s', g2 (id2, off) = some (.cell s'))
    (hok : ∀ x b, ok x b → ok2 x b) (hok2 : ∀ x b, ok2 x b → b < w.heap.size ∧ ∀ l, ¬ LiveAt g2 ρ2 l b) : HRel w ρ2 ok2 g2 := by
  refine { cells := ?_, rows := ?_, keys := ?_, dist := ?_, oks := hok2, cont := ?_ }
  · intro id2 off s hc
    obtain ⟨id, c, h1, h2, h3⟩ := hg _ _ _ hc
    cases c with
    | rows E xs => cases h3
    | keys xs => cases h3
    | cell s0 =>
      have hs : s = s0.ren f := by injection h3
      subst hs
      obtain ⟨b, v, a1, a2, a3, a4⟩ := h.cells _ _ _ h2
      exact ⟨b, v, hf _ _ _ (hinv _ _ h1) a1, a2, a3, a4.ren hf hok⟩
  · intro id2 off E xs hc
    obtain ⟨id, c, h1, h2, h3⟩ := hg _ _ _ hc
    cases c with
    | cell s0 => cases h3
    | keys xs => cases h3
    | rows E0 xs0 =>
      cases h3
      obtain ⟨a0, v, a1, a2⟩ := h.rows _ _ _ _ h2
      exact ⟨a0, v, hf _ _ _ (hinv _ _ h1) a1, a2.ren hf hok⟩
  · intro id2 off xs hc
    obtain ⟨id, c, h1, h2, h3⟩ := hg _ _ _ hc
    cases c with
    | cell s0 => cases h3
    | rows E0 xs0 => cases h3
    | keys xs0 =>
      cases h3
      obtain ⟨a0, b, a1, a2⟩ := h.keys _ _ _ h2
      exact ⟨a0, b, hf _ _ _ (hinv _ _ h1) a1, a2⟩
  · intro l l' b hl hl'
    obtain ⟨id, h1, h2⟩ := h.trans_live hinv hf hg hl
    obtain ⟨id', h3, h4⟩ := h.trans_live hinv hf hg hl'
    have hid : id = id' := h.dist _ _ _ h2 h4
    subst hid
    have e1 := hinv _ _ h1
    have e2 := hinv _ _ h3
    exact Option.some.inj (e1.symm.trans e2)
  · intro id2 off s hc
    obtain ⟨id, c, h1, h2, h3⟩ := hg _ _ _ hc
    cases c with
    | rows E xs => cases h3
    | keys xs => cases h3
    | cell s0 =>
      obtain ⟨d1, d2⟩ := h.cont _ _ _ h2
      exact ⟨d1, fun o ho => let ⟨s', hs'⟩ := d2 o ho; hg' id2 id o s' h1 ⟨off, _, hc⟩ hs'⟩
end

/-! ### Memory made out of objects -/
theorem findAt_spec {id : Nat} : ∀ {ids : List Nat} {i j : Nat}, findAt id i ids = some j → i ≤ j ∧ ids[j - i]? = some id
  | [], _, _, h => by cases h
  | x :: r, i, j, h => by
    unfold findAt at h
    split at h
    · rename_i hx
      cases h
      exact ⟨Nat.le_refl _, by simpa using hx⟩
    · obtain ⟨h1, h2⟩ := findAt_spec h
      refine ⟨by omega, ?_⟩
      rw [show j - i = (j - (i + 1)) + 1 by omega]
      simpa using h2
theorem findAt_get {id : Nat} : ∀ {ids : List Nat} {i j : Nat}, ids.Nodup → ids[j]? = some id → findAt id i ids = some (i + j)
  | [], _, _, _, h => by simp at h
  | x :: r, i, 0, _, h => by
    simp at h
    subst h
    simp [findAt]
  | x :: r, i, j + 1, hn, h => by
    have h' : r[j]? = some id := by simpa using h
    have hne : x ≠ id := by
      rintro rfl
      exact (List.nodup_cons.1 hn).1 (List.mem_of_getElem? h')
    unfold findAt
    rw [if_neg (by simpa using hne), findAt_get (List.nodup_cons.1 hn).2 h']
    congr 1
    omega
theorem findAt_mem {id i : Nat} {ids : List Nat} (h : id ∈ ids) : ∃ j, findAt id i ids = some j := by
  induction ids generalizing i with
  | nil => simp at h
  | cons x r ih =>
    unfold findAt
    split
    · exact ⟨_, rfl⟩
    · rename_i hx
      rcases List.mem_cons.1 h with rfl | h'
      · simp at hx
      · exact ih h'

theorem get_append (m m' : Mem) (l : Loc) (h : ∀ p ∈ m, p.1 ≠ l) : Mem.get (m ++ m') l = Mem.get m' l := by
  induction m with
  | nil => rfl
  | cons p m ih =>
    obtain ⟨l', c⟩ := p
    rw [List.cons_append, get_cons, if_neg (h (l', c) (by simp)), ih (fun q hq => h q (by simp [hq]))]
theorem get_putCells (id : Nat) (m : Mem) : ∀ (l : List Sc) (off o : Nat), Mem.get (putCells id off l ++ m) (id, o) = if off ≤ o ∧ o < off + l.length then (l[o - off]?).map MC.cell else Mem.get m (id, o)
  | [], off, o => by simp [putCells]; omega
  | s :: l, off, o => by
    rw [putCells, List.cons_append, get_cons, get_putCells id m l (off + 1) o]
    by_cases h : o = off
    · subst h; simp
    · rw [if_neg (by intro e; exact h (congrArg Prod.snd e).symm)]
      by_cases h2 : off + 1 ≤ o ∧ o < off + 1 + l.length
      · rw [if_pos h2, if_pos (by simp; omega), show o - off = (o - (off + 1)) + 1 by omega]
        simp
      · rw [if_neg h2, if_neg (by simp; omega)]
theorem putCells_ids (id : Nat) : ∀ (l : List Sc) (off : Nat), ∀ p ∈ putCells id off l, p.1.1 = id
  | [], _, p, h => by simp [putCells] at h
  | s :: l, off, p, h => by
    rcases List.mem_cons.1 h with rfl | h
    · rfl
    · exact putCells_ids id l (off + 1) p h
/-- What an object says of a place. -/
def obGet : Ob → Nat → Option MC
  | .box l, o => (l[o]?).map MC.cell
  | .rows E xs, 0 => some (.rows E xs)
  | .rows _ _, _ + 1 => none
  | .keys xs, 0 => some (.keys xs)
  | .keys _, _ + 1 => none
  | .dead, _ => none
theorem initMem_ids : ∀ (os : List Ob) (i : Nat), ∀ p ∈ initMem i os, i ≤ p.1.1
  | [], _, p, h => by simp [initMem] at h
  | .box l :: r, i, p, h => by
    rcases List.mem_append.1 h with h | h
    · rw [putCells_ids i l 0 p h]; exact Nat.le_refl _
    · have := initMem_ids r (i + 1) p h; omega
  | .rows E xs :: r, i, p, h => by
    rcases List.mem_cons.1 h with rfl | h
    · exact Nat.le_refl _
    · have := initMem_ids r (i + 1) p h; omega
  | .keys xs :: r, i, p, h => by
    rcases List.mem_cons.1 h with rfl | h
    · exact Nat.le_refl _
    · have := initMem_ids r (i + 1) p h; omega
  | .dead :: r, i, p, h => by have := initMem_ids r (i + 1) p h; omega
theorem get_initMem_lt (os : List Ob) (i id o : Nat) (h : id < i) : (initMem i os).get (id, o) = none := by
  have : ∀ m : Mem, (∀ p ∈ m, i ≤ p.1.1) → m.get (id, o) = none := by
    intro m
    induction m with
    | nil => intro _; rfl
    | cons p m ih =>
      intro hp
      obtain ⟨l', c⟩ := p
      rw [get_cons, if_neg, ih (fun q hq => hp q (by simp [hq]))]
      intro e0
      have := hp (l', c) (by simp)
      rw [e0] at this
      simp at this
      omega
  exact this _ (initMem_ids os i)
theorem get_initMem : ∀ (os : List Ob) (i j o : Nat), (initMem i os).get (i + j, o) = match os[j]? with | some ob => obGet ob o | none => none
  | [], i, j, o => by simp [initMem, Mem.get]
  | .box l :: r, i, 0, o => by
    simp only [initMem, Nat.add_zero, List.getElem?_cons_zero]
    rw [get_putCells]
    by_cases h : o < l.length
    · rw [if_pos (by omega)]; simp [obGet]
    · rw [if_neg (by omega), get_initMem_lt r (i + 1) i o (by omega)]
      simp [obGet, List.getElem?_eq_none (Nat.le_of_not_lt h)]
  | .box l :: r, i, j + 1, o => by
    simp only [initMem, List.getElem?_cons_succ]
    rw [get_append _ _ _ (fun p hp e0 => by have := putCells_ids i l 0 p hp; rw [e0] at this; simp at this), show i + (j + 1) = i + 1 + j by omega]
    exact get_initMem r (i + 1) j o
  | .rows E xs :: r, i, 0, o => by
    simp only [initMem, Nat.add_zero, List.getElem?_cons_zero]
    rw [get_cons]
    cases o with
    | zero => simp [obGet]
    | succ o => rw [if_neg (by simp), get_initMem_lt r (i + 1) i _ (by omega)]; rfl
  | .rows E xs :: r, i, j + 1, o => by
    simp only [initMem, List.getElem?_cons_succ]
    rw [get_cons, if_neg (by intro e; have := congrArg Prod.fst e; simp at this), show i + (j + 1) = i + 1 + j by omega]
    exact get_initMem r (i + 1) j o
  | .keys xs :: r, i, 0, o => by
    simp only [initMem, Nat.add_zero, List.getElem?_cons_zero]
    rw [get_cons]
    cases o with
    | zero => simp [obGet]
    | succ o => rw [if_neg (by simp), get_initMem_lt r (i + 1) i _ (by omega)]; rfl
  | .keys xs :: r, i, j + 1, o => by
    simp only [initMem, List.getElem?_cons_succ]
    rw [get_cons, if_neg (by intro e; have := congrArg Prod.fst e; simp at this), show i + (j + 1) = i + 1 + j by omega]
    exact get_initMem r (i + 1) j o
  | .dead :: r, i, 0, o => by
    simp only [initMem, Nat.add_zero, List.getElem?_cons_zero, obGet]
    exact get_initMem_lt r (i + 1) i o (by omega)
  | .dead :: r, i, j + 1, o => by
    simp only [initMem, List.getElem?_cons_succ]
    rw [show i + (j + 1) = i + 1 + j by omega]
    exact get_initMem r (i + 1) j o

/-- A variable's cells, all of them. -/
theorem boxAt_spec (g : Get) (id : Nat) : ∀ (n off : Nat), (∀ o s, g (id, o) = some (.cell s) → off ≤ o → o < off + n ∧ ∀ o', off ≤ o' → o' < o → ∃ s', g (id, o') = some (.cell s')) →
    ∀ o, off ≤ o → ((boxAt g id n off)[o - off]?).map MC.cell = match g (id, o) with | some (.cell s) => some (.cell s) | _ => none
  | 0, off, h, o, ho => by
    simp [boxAt]
    split
    · rename_i s hs; have := (h o s hs ho).1; omega
    · rfl
  | n + 1, off, h, o, ho => by
    unfold boxAt
    split
    · rename_i s hs
      by_cases he : o = off
      · subst he; simp [hs]
      · rw [show o - off = (o - (off + 1)) + 1 by omega, List.getElem?_cons_succ]
        refine boxAt_spec g id n (off + 1) (fun o' s' hs' ho' => ?_) o (by omega)
        obtain ⟨h1, h2⟩ := h o' s' hs' (by omega)
        exact ⟨by omega, fun o'' h3 h4 => h2 o'' (by omega) h4⟩
    · rename_i hn
      simp
      split
      · rename_i s hs
        by_cases he : o = off
        · subst he; exact absurd hs (hn s)
        · obtain ⟨_, h2⟩ := h o s hs ho
          obtain ⟨s', hs'⟩ := h2 off (Nat.le_refl _) (by omega)
          exact absurd hs' (hn s')
      · rfl
theorem HRel.boxAt {w : World} {ρ : Rho} {ok : Okp} {g : Get} (h : HRel w ρ ok g) (id o : Nat) : ((Sx.boxAt g id 64 0)[o]?).map MC.cell = match g (id, o) with | some (.cell s) => some (.cell s) | _ => none := by
  have := boxAt_spec g id 64 0 (fun o s hs _ => by
    obtain ⟨d1, d2⟩ := h.cont id o s hs
    exact ⟨by omega, fun o' _ ho' => d2 o' ho'⟩) o (Nat.zero_le _)
  simpa using this
/-- An object, taken out of memory. -/
theorem obAt_get {w : World} {ρ : Rho} {ok : Okp} {g : Get} (h : HRel w ρ ok g) (f : Nat → Option Nat) (id o : Nat) : obGet (obAt g f id) o = (g (id, o)).map (renMC f) := by
  unfold obAt
  split
  · rename_i E xs hg
    cases o with
    | zero => simp [obGet, hg, renMC]
    | succ o =>
      simp [obGet]
      cases hc : g (id, o + 1) with
      | none => rfl
      | some c =>
        cases c with
        | cell s =>
          obtain ⟨_, d2⟩ := h.cont _ _ _ hc
          obtain ⟨s', hs'⟩ := d2 0 (by omega)
          rw [hg] at hs'; cases hs'
        | rows E' xs' => have := (h.rows _ _ _ _ hc).1; omega
        | keys xs' => have := (h.keys _ _ _ hc).1; omega
  · rename_i xs hg
    cases o with
    | zero => simp [obGet, hg, renMC]
    | succ o =>
      simp [obGet]
      cases hc : g (id, o + 1) with
      | none => rfl
      | some c =>
        cases c with
        | cell s =>
          obtain ⟨_, d2⟩ := h.cont _ _ _ hc
          obtain ⟨s', hs'⟩ := d2 0 (by omega)
          rw [hg] at hs'; cases hs'
        | rows E' xs' => have := (h.rows _ _ _ _ hc).1; omega
        | keys xs' => have := (h.keys _ _ _ hc).1; omega
  · rename_i s hg
    simp only [obGet, List.getElem?_map]
    have := h.boxAt id o
    cases hc : g (id, o) with
    | none => rw [hc] at this; simp at this; simp [this]
    | some c =>
      cases c with
      | cell s' =>
        rw [hc] at this
        simp at this
        simp [this, renMC]
      | rows E' xs' =>
        obtain ⟨rfl, _⟩ := h.rows _ _ _ _ hc
        rw [hg] at hc; cases hc
      | keys xs' =>
        obtain ⟨rfl, _⟩ := h.keys _ _ _ hc
        rw [hg] at hc; cases hc
  · rename_i hg
    simp [obGet]
    cases hc : g (id, o) with
    | none => rfl
    | some c =>
      cases c with
      | cell s =>
        by_cases ho : o = 0
        · subst ho; rw [hg] at hc; cases hc
        · obtain ⟨_, d2⟩ := h.cont _ _ _ hc
          obtain ⟨s', hs'⟩ := d2 0 (by omega)
          rw [hg] at hs'; cases hs'
      | rows E' xs' =>
        obtain ⟨rfl, _⟩ := h.rows _ _ _ _ hc
        rw [hg] at hc; cases hc
      | keys xs' =>
        obtain ⟨rfl, _⟩ := h.keys _ _ _ hc
        rw [hg] at hc; cases hc
end Go.Proofs.Ytipfipnhgpbceaa.Sx
/- The symbolic machine: calls (plain theorems). -/

set_option linter.unusedVariables false
set_option linter.unusedSimpArgs false
namespace Go.Proofs.Ytipfipnhgpbceaa.Sx
open Go

def handedBlocks (obs : List Ob) (ρ : Rho) (b : Nat) : Prop := ∃ l, LiveAt (initMem 0 obs).get ρ l b
/-- What a call leaves: what was handed over, new memory; all else is as it was. -/
structure CallPost (w : World) (ρ : Rho) (ok : Okp) (obs : List Ob) (w' : World) (ρ' : Rho) (okf : Nat → Prop) (os : List Ob) : Prop where
  heap : HRel w' ρ' (fun _ b => okf b) (initMem 0 os).get
  rho : ∀ i v, i < obs.length → ρ i = some v → ρ' i = some v
  okn : ∀ b, okf b → ok false b ∨ w.heap.size ≤ b ∨ handedBlocks obs ρ b
  own : ∀ l b, LiveAt (initMem 0 os).get ρ' l b → w.heap.size ≤ b ∨ handedBlocks obs ρ b
  fr : Fr ⟨w, handedBlocks obs ρ, ok⟩ w'
/-- A function does what its law says. -/
def SpecOK (P : Program) (f : FuncId) (sp : Spec) : Prop :=
  ∀ (w : World) (ρ : Rho) (ok : Okp) (vs : List Value) (as : List AV) (obs : List Ob) (r : AV) (os : List Ob),
    HRel w ρ ok (initMem 0 obs).get → (∀ i, obs.length ≤ i → ρ i = none) → All2 (VRel w ρ ok) vs as → (sp.run as obs).den = some (r, os) →
    Calls P f vs.toArray w fun e w' => ∃ v ρ' okf, e = .returned v ∧ CallPost w ρ ok obs w' ρ' okf os ∧ VRel w' ρ' (fun _ b => okf b) v r
/-- A function that can be called. -/
def FnOK (P : Program) (f : FuncId) : Prop := ∃ fn, P.funcs[f]? = some fn ∧ fn.body.isNone = false ∧ (fn.name == "runtime.NumGoroutine") = false

section congr
variable {g gv : Get}
theorem boxAt_view (id : Nat) : ∀ (n m off : Nat), n < m → (∀ l ∈ boxLocs g id m off, gv l = g l) → boxAt gv id n off = boxAt g id n off
  | 0, _, _, _, _ => rfl
  | n + 1, 0, _, h, _ => by omega
  | n + 1, m + 1, off, h, hg => by
    unfold boxAt
    have h0 : gv (id, off) = g (id, off) := hg _ (by unfold boxLocs; exact List.mem_cons_self ..)
    rw [h0]
    cases hc : g (id, off) with
    | none => rfl
    | some c =>
      cases c with
      | rows E xs => rfl
      | keys xs => rfl
      | cell s =>
        dsimp only
        rw [boxAt_view id n m (off + 1) (by omega) (fun l hl => hg l (by unfold boxLocs; rw [hc]; exact List.mem_cons_of_mem _ hl))]
theorem boxLocs_view (id : Nat) : ∀ (m off : Nat), (∀ l ∈ boxLocs g id m off, gv l = g l) → boxLocs gv id m off = boxLocs g id m off
  | 0, _, _ => rfl
  | m + 1, off, hg => by
    unfold boxLocs
    have h0 : gv (id, off) = g (id, off) := hg _ (by unfold boxLocs; exact List.mem_cons_self ..)
    rw [h0]
    cases hc : g (id, off) with
    | none => rfl
    | some c =>
      cases c with
      | rows E xs => rfl
      | keys xs => rfl
      | cell s =>
        dsimp only
        rw [boxLocs_view id m (off + 1) (fun l hl => hg l (by unfold boxLocs; rw [hc]; exact List.mem_cons_of_mem _ hl))]

/-- What is looked at is the same. -/
def Agree (g gv : Get) (ids : List Nat) : Prop := ∀ id ∈ ids, ∀ l ∈ boxLocs g id 65 0, gv l = g l
theorem Agree.box {ids : List Nat} (h : Agree g gv ids) {id : Nat} (hi : id ∈ ids) : boxAt gv id 64 0 = boxAt g id 64 0 := boxAt_view id 64 65 0 (by omega) (h id hi)
theorem Agree.at0 {ids : List Nat} (h : Agree g gv ids) {id : Nat} (hi : id ∈ ids) : gv (id, 0) = g (id, 0) := h id hi _ (by unfold boxLocs; exact List.mem_cons_self ..)
theorem Agree.sub {ids ids' : List Nat} (h : Agree g gv ids) (hs : ∀ x ∈ ids', x ∈ ids) : Agree g gv ids' := fun id hi => h id (hs id hi)

theorem tids_view : ∀ (args : List AV), Agree g gv (tids g args) → tids gv args = tids g args
  | [], _ => rfl
  | a :: r, h => by
    cases a with
    | one s =>
      cases s with
      | ptr id off =>
        simp only [tids] at h ⊢
        rw [h.box (List.mem_append_left _ (List.mem_cons_self ..)), tids_view r (h.sub fun x hx => List.mem_append_right _ hx)]
      | row id =>
        simp only [tids] at h ⊢
        rw [tids_view r (h.sub fun x hx => List.mem_cons_of_mem _ hx)]
      | _ => simp only [tids] at h ⊢; exact tids_view r h
    | agg l =>
      simp only [tids] at h ⊢
      rw [tids_view r (h.sub fun x hx => List.mem_append_right _ hx)]
    | tup l => simp only [tids] at h ⊢; exact tids_view r h

theorem addNew_mem : ∀ (l a : List Nat) (x : Nat), x ∈ addNew a l ↔ x ∈ a ∨ x ∈ l
  | [], a, x => by simp [addNew]
  | y :: l, a, x => by
    unfold addNew
    rw [addNew_mem l]
    split
    · rename_i h
      have hy : y ∈ a := by simpa using h
      simp only [List.mem_cons]
      exact ⟨fun h => h.imp (fun q => q) .inr, fun h => by
        rcases h with h | rfl | h
        · exact .inl h
        · exact .inl hy
        · exact .inr h⟩
    · simp only [List.mem_append, List.mem_cons, List.not_mem_nil, or_false]
      exact ⟨fun h => by rcases h with (h | h) | h <;> simp [h], fun h => by rcases h with h | h | h <;> simp [h]⟩
theorem addNew_nodup : ∀ (l a : List Nat), a.Nodup → (addNew a l).Nodup
  | [], a, h => h
  | y :: l, a, h => by
    unfold addNew
    refine addNew_nodup l _ ?_
    split
    · exact h
    · rename_i hy
      rw [List.nodup_append]
      refine ⟨h, by simp, fun x hx z hz => ?_⟩
      simp at hz
      subst hz
      rintro rfl
      exact hy (by simpa using hx)

theorem handed_view (wr : Bool) : ∀ (args : List AV) (a : List Nat), Agree g gv (tids g args) → handed wr gv a args = handed wr g a args
  | [], _, _ => rfl
  | x :: r, a, h => by
    cases x with
    | one s =>
      cases s with
      | ptr id off =>
        cases off with
        | zero =>
          simp only [tids, handed] at h ⊢
          rw [h.box (List.mem_append_left _ (List.mem_cons_self ..)), handed_view wr r _ (h.sub fun x hx => List.mem_append_right _ hx)]
        | succ off =>
          simp only [tids, handed] at h ⊢
          exact handed_view wr r _ (h.sub fun x hx => List.mem_append_right _ hx)
      | row id =>
        simp only [tids, handed] at h ⊢
        exact handed_view wr r _ (h.sub fun x hx => List.mem_cons_of_mem _ hx)
      | _ => simp only [tids, handed] at h ⊢; exact handed_view wr r _ h
    | agg l =>
      simp only [tids, handed] at h ⊢
      exact handed_view wr r _ (h.sub fun x hx => List.mem_append_right _ hx)
    | tup l => simp only [tids, handed] at h ⊢; exact handed_view wr r _ h
theorem handed_sub (wr : Bool) : ∀ (args : List AV) (a : List Nat), ∀ x ∈ handed wr g a args, x ∈ a ∨ x ∈ tids g args
  | [], _, _, hx => .inl hx
  | y :: r, a, x, hx => by
    cases y with
    | one s =>
      cases s with
      | ptr id off =>
        cases off with
        | zero =>
          simp only [tids, handed] at hx ⊢
          rcases handed_sub wr r _ x hx with h | h
          · rcases (addNew_mem _ _ _).1 h with h | h
            · exact .inl h
            · exact .inr (List.mem_append_left _ h)
          · exact .inr (List.mem_append_right _ h)
        | succ off =>
          simp only [tids, handed] at hx ⊢
          exact (handed_sub wr r _ x hx).imp (fun q => q) (List.mem_append_right _)
      | row id =>
        simp only [tids, handed] at hx ⊢
        rcases handed_sub wr r _ x hx with h | h
        · split at h
          · rcases (addNew_mem _ _ _).1 h with h | h
            · exact .inl h
            · simp at h; subst h; exact .inr (List.mem_cons_self ..)
          · exact .inl h
        · exact .inr (List.mem_cons_of_mem _ h)
      | _ => simp only [tids, handed] at hx ⊢; exact handed_sub wr r _ x hx
    | agg l =>
      simp only [tids, handed] at hx ⊢
      exact (handed_sub wr r _ x hx).imp (fun q => q) (List.mem_append_right _)
    | tup l => simp only [tids, handed] at hx ⊢; exact handed_sub wr r _ x hx
theorem handed_nodup (wr : Bool) : ∀ (args : List AV) (a : List Nat), a.Nodup → (handed wr g a args).Nodup
  | [], _, h => h
  | y :: r, a, h => by
    cases y with
    | one s =>
      cases s with
      | ptr id off =>
        cases off with
        | zero => simp only [handed]; exact handed_nodup wr r _ (addNew_nodup _ _ h)
        | succ off => simp only [handed]; exact handed_nodup wr r _ h
      | row id =>
        simp only [handed]
        refine handed_nodup wr r _ ?_
        split
        · exact addNew_nodup _ _ h
        · exact h
      | _ => simp only [handed]; exact handed_nodup wr r _ h
    | agg l => simp only [handed]; exact handed_nodup wr r _ h
    | tup l => simp only [handed]; exact handed_nodup wr r _ h

theorem idsOf_mem {l : List Sc} {id : Nat} (h : id ∈ idsOf l) : .row id ∈ l := by
  induction l with
  | nil => simp [idsOf] at h
  | cons s l ih =>
    cases s <;> simp only [idsOf] at h <;> first
      | exact List.mem_cons_of_mem _ (ih h)
      | (rcases List.mem_cons.1 h with rfl | h
         · exact List.mem_cons_self ..
         · exact List.mem_cons_of_mem _ (ih h))
theorem idsOf_of_mem {l : List Sc} {id : Nat} (h : .row id ∈ l) : id ∈ idsOf l := by
  induction l with
  | nil => simp at h
  | cons s l ih =>
    rcases List.mem_cons.1 h with rfl | h'
    · simp [idsOf]
    · cases s <;> simp only [idsOf] <;> first | exact ih h' | exact List.mem_cons_of_mem _ (ih h')

theorem lendOne_view (wr : Bool) {s : Sc} (h : ∀ id, s = .row id → gv (id, 0) = g (id, 0)) : lendOne wr gv s = lendOne wr g s := by
  cases s <;> try rfl
  rename_i id
  simp only [lendOne, h id rfl]
theorem lend_view (wr : Bool) (args : List AV) (h : Agree g gv (tids g args)) : ∀ a ∈ args, lend wr gv a = lend wr g a := by
  have key : ∀ (args : List AV), ∀ a ∈ args, ∀ x ∈ tids g [a], x ∈ tids g args := by
    intro args
    induction args with
    | nil => intro a ha; simp at ha
    | cons b r ih =>
      intro a ha x hx
      rcases List.mem_cons.1 ha with rfl | ha
      · cases a with
        | one s => cases s <;> simp only [tids, List.append_nil] at hx ⊢ <;> first | (simp at hx; done) | exact List.mem_append_left _ hx | (simp at hx; subst hx; exact List.mem_cons_self ..)
        | agg l => simp only [tids, List.append_nil] at hx ⊢; exact List.mem_append_left _ hx
        | tup l => simp [tids] at hx
      · have := ih a ha x hx
        cases b with
        | one s => cases s <;> simp only [tids] <;> first | exact this | exact List.mem_append_right _ this | exact List.mem_cons_of_mem _ this
        | agg l => simp only [tids]; exact List.mem_append_right _ this
        | tup l => exact this
  intro a ha
  cases a with
  | one s =>
    simp only [lend]
    rw [lendOne_view wr fun id hs => h.at0 (key args _ ha id (by subst hs; simp [tids]))]
  | agg l =>
    simp only [lend]
    congr 1
    refine List.map_congr_left fun s hs => lendOne_view false fun id hid => h.at0 (key args _ ha id ?_)
    subst hid
    simp only [tids, List.append_nil]
    exact idsOf_of_mem hs
  | tup l => rfl
theorem obAt_view (f : Nat → Option Nat) {ids : List Nat} (h : Agree g gv ids) {id : Nat} (hi : id ∈ ids) : obAt gv f id = obAt g f id := by
  unfold obAt
  rw [h.at0 hi, h.box hi]
theorem doCall_view (e : Env) (f : FuncId) (args : List AV) (fresh : Nat) (h : Agree g gv (tids g args)) : doCall e f args gv fresh = doCall e f args g fresh := by
  unfold doCall
  split
  · rfl
  · rename_i sp hsp
    dsimp only
    rw [handed_view sp.wr args [] h]
    have h1 : (args.map fun a => (lend sp.wr gv a).ren fun id => findAt id 0 (handed sp.wr g [] args)) = args.map fun a => (lend sp.wr g a).ren fun id => findAt id 0 (handed sp.wr g [] args) :=
      List.map_congr_left fun a ha => by rw [lend_view sp.wr args h a ha]
    have h2 : (handed sp.wr g [] args).map (obAt gv fun id => findAt id 0 (handed sp.wr g [] args)) = (handed sp.wr g [] args).map (obAt g fun id => findAt id 0 (handed sp.wr g [] args)) :=
      List.map_congr_left fun id hid => obAt_view _ h (by
        rcases handed_sub sp.wr args [] id hid with h' | h'
        · simp at h'
        · exact h')
    rw [h1, h2]
end congr
end Go.Proofs.Ytipfipnhgpbceaa.Sx
