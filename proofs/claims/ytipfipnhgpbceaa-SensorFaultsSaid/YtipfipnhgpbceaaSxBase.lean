/- The symbolic machine's state and the world: when the one tells of the other; and how that lasts (plain theorems). -/
import Derived.Test.YtipfipnhgpbceaaSxDef
import Derived.Below
set_option linter.unusedVariables false
set_option linter.unusedSimpArgs false
namespace Go.Proofs.Ytipfipnhgpbceaa.Sx
open Go

/-! ### Lists side by side -/
def All2 {α β : Type} (R : α → β → Prop) : List α → List β → Prop
  | [], [] => True
  | a :: as, b :: bs => R a b ∧ All2 R as bs
  | _, _ => False

section
variable {α β : Type} {R S : α → β → Prop}
theorem All2.length : ∀ {as : List α} {bs : List β}, All2 R as bs → as.length = bs.length
  | [], [], _ => rfl
  | _ :: as, _ :: bs, h => by simp [All2.length h.2]
  | [], _ :: _, h => h.elim
  | _ :: _, [], h => h.elim
theorem All2.imp (hRS : ∀ a b, R a b → S a b) : ∀ {as : List α} {bs : List β}, All2 R as bs → All2 S as bs
  | [], [], _ => trivial
  | _ :: _, _ :: _, h => ⟨hRS _ _ h.1, All2.imp hRS h.2⟩
  | [], _ :: _, h => h.elim
  | _ :: _, [], h => h.elim
theorem All2.get : ∀ {as : List α} {bs : List β}, All2 R as bs → ∀ {j : Nat} {b : β}, bs[j]? = some b → ∃ a, as[j]? = some a ∧ R a b
  | [], [], _, j, b, hb => by simp at hb
  | a :: as, b' :: bs, h, 0, b, hb => by simp at hb; subst hb; exact ⟨a, by simp, h.1⟩
  | a :: as, b' :: bs, h, j + 1, b, hb => by simp at hb; simpa using All2.get h.2 hb
  | [], _ :: _, h, _, _, _ => h.elim
  | _ :: _, [], h, _, _, _ => h.elim
theorem All2.get' : ∀ {as : List α} {bs : List β}, All2 R as bs → ∀ {j : Nat} {a : α}, as[j]? = some a → ∃ b, bs[j]? = some b ∧ R a b
  | [], [], _, j, b, hb => by simp at hb
  | a :: as, b' :: bs, h, 0, b, hb => by simp at hb; subst hb; exact ⟨b', by simp, h.1⟩
  | a :: as, b' :: bs, h, j + 1, b, hb => by simp at hb; simpa using All2.get' h.2 hb
  | [], _ :: _, h, _, _, _ => h.elim
  | _ :: _, [], h, _, _, _ => h.elim
theorem All2.append : ∀ {as as' : List α} {bs bs' : List β}, All2 R as bs → All2 R as' bs' → All2 R (as ++ as') (bs ++ bs')
  | [], _, [], _, _, h' => h'
  | _ :: _, _, _ :: _, _, h, h' => ⟨h.1, All2.append h.2 h'⟩
  | [], _, _ :: _, _, h, _ => h.elim
  | _ :: _, _, [], _, h, _ => h.elim
theorem All2.take : ∀ {as : List α} {bs : List β}, All2 R as bs → ∀ n, All2 R (as.take n) (bs.take n)
  | [], [], _, n => by simp [All2]
  | _ :: _, _ :: _, _, 0 => by simp [All2]
  | _ :: _, _ :: _, h, n + 1 => by simpa [All2] using ⟨h.1, All2.take h.2 n⟩
  | [], _ :: _, h, _ => h.elim
  | _ :: _, [], h, _ => h.elim
theorem All2.drop : ∀ {as : List α} {bs : List β}, All2 R as bs → ∀ n, All2 R (as.drop n) (bs.drop n)
  | [], [], _, n => by simp [All2]
  | _ :: _, _ :: _, h, 0 => by simpa [All2] using h
  | _ :: _, _ :: _, h, n + 1 => by simpa using All2.drop h.2 n
  | [], _ :: _, h, _ => h.elim
  | _ :: _, [], h, _ => h.elim
theorem All2.of_get : ∀ {as : List α} {bs : List β}, as.length = bs.length → (∀ (j : Nat) (a : α) (b : β), as[j]? = some a → bs[j]? = some b → R a b) → All2 R as bs
  | [], [], _, _ => trivial
  | a :: as, b :: bs, hl, h => ⟨h 0 a b (by simp) (by simp), All2.of_get (by simpa using hl) fun j a b ha hb => h (j + 1) a b (by simpa using ha) (by simpa using hb)⟩
  | [], _ :: _, hl, _ => by simp at hl
  | _ :: _, [], hl, _ => by simp at hl
end

theorem enc_len (E : K) (x : D E) : (enc E x).length = esize E := by cases E <;> rfl
theorem esize_pos (E : K) : 0 < esize E := by cases E <;> decide
/-- The cells of a list's elements, in a row. -/
def flat (E : K) (xs : List (D E)) : List Sc := xs.flatMap (enc E)
theorem flat_nil (E : K) : flat E [] = [] := rfl
theorem flat_cons (E : K) (x : D E) (xs : List (D E)) : flat E (x :: xs) = enc E x ++ flat E xs := rfl
theorem flat_append (E : K) (xs ys : List (D E)) : flat E (xs ++ ys) = flat E xs ++ flat E ys := by simp [flat]
theorem flat_len (E : K) (xs : List (D E)) : (flat E xs).length = xs.length * esize E := by
  induction xs with
  | nil => simp [flat]
  | cons x xs ih => rw [flat_cons, List.length_append, enc_len, ih, List.length_cons, Nat.succ_mul, Nat.add_comm]
theorem flat_take (E : K) (xs : List (D E)) (n : Nat) : (flat E xs).take (n * esize E) = flat E (xs.take n) := by
  induction xs generalizing n with
  | nil => simp [flat]
  | cons x xs ih =>
    cases n with
    | zero => simp [flat]
    | succ n =>
      rw [List.take_succ_cons, flat_cons, flat_cons, List.take_append, enc_len, Nat.succ_mul, Nat.add_sub_cancel, ih]
      rw [List.take_of_length_le (by rw [enc_len]; omega)]
theorem flat_drop (E : K) (xs : List (D E)) (n : Nat) : (flat E xs).drop (n * esize E) = flat E (xs.drop n) := by
  induction xs generalizing n with
  | nil => simp [flat]
  | cons x xs ih =>
    cases n with
    | zero => simp [flat]
    | succ n =>
      rw [List.drop_succ_cons, flat_cons, List.drop_append, enc_len, Nat.succ_mul, Nat.add_sub_cancel, ih]
      rw [List.drop_of_length_le (by rw [enc_len]; omega), List.nil_append]
theorem flat_get (E : K) (xs : List (D E)) (i j : Nat) (hi : i < xs.length) (hj : j < esize E) : (flat E xs)[i * esize E + j]? = (enc E (xs.getD i (dflt E)))[j]? := by
  induction xs generalizing i with
  | nil => simp at hi
  | cons x xs ih =>
    cases i with
    | zero =>
      rw [flat_cons, Nat.zero_mul, Nat.zero_add, List.getElem?_append_left (by rw [enc_len]; exact hj)]
      rfl
    | succ i =>
      rw [flat_cons, List.getElem?_append_right (by rw [enc_len, Nat.succ_mul]; omega), enc_len, Nat.succ_mul]
      rw [show i * esize E + esize E + j - esize E = i * esize E + j by omega, ih i (by simpa using hi)]
      rfl
theorem flat_idx_lt {E : K} {n i j : Nat} (hi : i < n) (hj : j < esize E) : i * esize E + j < n * esize E := by
  have : (i + 1) * esize E ≤ n * esize E := Nat.mul_le_mul_right _ hi
  rw [Nat.succ_mul] at this
  omega

/-! ### Memory -/
theorem leq_iff {l l' : Loc} : leq l l' = true ↔ l = l' := by
  obtain ⟨a, b⟩ := l
  obtain ⟨c, d⟩ := l'
  simp [leq]
theorem leq_self (l : Loc) : leq l l = true := leq_iff.2 rfl
theorem get_cons (l' l : Loc) (c : Option MC) (m : Mem) : Mem.get ((l', c) :: m) l = if l' = l then c else m.get l := by
  show (if leq l' l then c else m.get l) = _
  by_cases h : l' = l
  · simp [h, leq_self]
  · have : leq l' l = false := by cases hx : leq l' l with | false => rfl | true => exact absurd (leq_iff.1 hx) h
    simp [h, this]
theorem hasLoc_iff {ls : List Loc} {l : Loc} : hasLoc ls l = true ↔ l ∈ ls := by
  induction ls with
  | nil => simp [hasLoc]
  | cons x r ih => rw [hasLoc, Bool.or_eq_true, leq_iff, ih, List.mem_cons]; exact ⟨fun h => h.imp Eq.symm id, fun h => h.imp Eq.symm id⟩

/-- What stands at places behind an update. -/
def upd1 (g : Get) (l : Loc) (c : Option MC) : Get := fun l' => if l = l' then c else g l'
def updG (g : Get) : Upd → Get
  | [] => g
  | (l, c) :: u => updG (upd1 g l c) u
theorem get_app (m : Mem) (u : Upd) : (m.app u).get = updG m.get u := by
  induction u generalizing m with
  | nil => rfl
  | cons x u ih =>
    obtain ⟨l, c⟩ := x
    rw [Mem.app, ih, updG]
    congr 1
    funext l'
    rw [get_cons]; rfl
theorem updG_append (g : Get) (u v : Upd) : updG g (u ++ v) = updG (updG g u) v := by
  induction u generalizing g with
  | nil => rfl
  | cons x u ih => obtain ⟨l, c⟩ := x; simp [updG, ih]

/-! ### The relation -/
abbrev Rho := Nat → Option Value
abbrev Okp := Bool → Nat → Prop

/-- What a cell holds. -/
inductive SRel (w : World) (ρ : Rho) (ok : Okp) : Value → Sc → Prop
  | undef (v : Value) (h : v.oneCell' = true) : SRel w ρ ok v .undef
  | int (k : IntKind) (n : Int) : SRel w ρ ok (.int k n) (.int k n)
  | bool (b : Bool) : SRel w ρ ok (.bool b) (.bool b)
  | nils : SRel w ρ ok (.slice none 0 0) .nils
  | vec0 (b : Bool) (E : K) (A : Option Addr) (cap : Nat) : SRel w ρ ok (.slice A 0 cap) (.vec b E [])
  | vec (b : Bool) (E : K) (xs : List (D E)) (blk off cap : Nat) (U : Nat → Value) (hc : xs.length ≤ cap) (hok : ok b blk)
      (hcell : ∀ k, k < xs.length * esize E → w.cell? ⟨blk, off + k, none⟩ = some (U k))
      (hrel : ∀ k s, (flat E xs)[k]? = some s → SRel w ρ ok (U k) s) :
      SRel w ρ ok (.slice (some ⟨blk, off, none⟩) xs.length cap) (.vec b E xs)
  | row (id : Nat) (A : Option Addr) (n cap : Nat) (h : ρ id = some (.slice A n cap)) : SRel w ρ ok (.slice A n cap) (.row id)
  | ptr (id off b : Nat) (h : ρ id = some (.pointer (some ⟨b, 0, none⟩))) : SRel w ρ ok (.pointer (some ⟨b, off, none⟩)) (.ptr id off)
  | eptr (id : Nat) (E : K) (i : Int) (off b n cap : Nat) (h : ρ id = some (.slice (some ⟨b, 0, none⟩) n cap)) (h0 : 0 ≤ i) (h1 : i < n) :
      SRel w ρ ok (.pointer (some ⟨b, i.toNat * esize E + off, none⟩)) (.eptr id E i off)
  | vptr (b : Bool) (E : K) (xs : List (D E)) (i : Int) (off blk o : Nat) (U : Nat → Value) (hok : ok b blk) (h0 : 0 ≤ i) (h1 : i < xs.length)
      (hcell : ∀ j, j < esize E → w.cell? ⟨blk, o + (i.toNat * esize E + j), none⟩ = some (U j))
      (hrel : ∀ j s, (enc E (xs.getD i.toNat (dflt E)))[j]? = some s → SRel w ρ ok (U j) s) :
      SRel w ρ ok (.pointer (some ⟨blk, o + (i.toNat * esize E + off), none⟩)) (.vptr b E xs i off)

theorem SRel.one {w : World} {ρ : Rho} {ok : Okp} {v : Value} {s : Sc} (h : SRel w ρ ok v s) : v.oneCell' = true := by
  cases h <;> first | assumption | rfl

/-- The world has gone on: what may be looked at stays, more may be looked at, more is known by number. -/
structure Ext (w : World) (ρ : Rho) (ok : Okp) (w' : World) (ρ' : Rho) (ok' : Okp) : Prop where
  heap : ∀ x b, ok x b → w'.heap[b]? = w.heap[b]?
  ok : ∀ x b, ok x b → ok' x b
  rho : ∀ id v, ρ id = some v → ρ' id = some v
theorem Ext.refl (w : World) (ρ : Rho) (ok : Okp) : Ext w ρ ok w ρ ok := ⟨fun _ _ _ => rfl, fun _ _ h => h, fun _ _ h => h⟩
theorem Ext.trans {w w' w'' : World} {ρ ρ' ρ'' : Rho} {ok ok' ok'' : Okp} (h : Ext w ρ ok w' ρ' ok') (h' : Ext w' ρ' ok' w'' ρ'' ok'') : Ext w ρ ok w'' ρ'' ok'' :=
  ⟨fun x b hb => (h'.heap x b (h.ok x b hb)).trans (h.heap x b hb), fun x b hb => h'.ok x b (h.ok x b hb), fun id v hv => h'.rho id v (h.rho id v hv)⟩

theorem SRel.mono {w w' : World} {ρ ρ' : Rho} {ok ok' : Okp} (he : Ext w ρ ok w' ρ' ok') {v : Value} {s : Sc} (h : SRel w ρ ok v s) : SRel w' ρ' ok' v s := by
  induction h with
  | undef v h => exact .undef v h
  | int k n => exact .int k n
  | bool b => exact .bool b
  | nils => exact .nils
  | vec0 b E A cap => exact .vec0 b E A cap
  | vec b E xs blk off cap U hc hok hcell hrel ih =>
    exact .vec b E xs blk off cap U hc (he.ok _ _ hok) (fun k hk => by rw [World.cell?_of_block (w := w) (he.heap _ _ hok)]; exact hcell k hk) (fun k s hs => ih k s hs)
  | row id A n cap h => exact .row id A n cap (he.rho _ _ h)
  | ptr id off b h => exact .ptr id off b (he.rho _ _ h)
  | eptr id E i off b n cap h h0 h1 => exact .eptr id E i off b n cap (he.rho _ _ h) h0 h1
  | vptr b E xs i off blk o U hok h0 h1 hcell hrel ih =>
    exact .vptr b E xs i off blk o U (he.ok _ _ hok) h0 h1 (fun j hj => by rw [World.cell?_of_block (w := w) (he.heap _ _ hok)]; exact hcell j hj) (fun j s hs => ih j s hs)

/-- One of several results. -/
def PRel (w : World) (ρ : Rho) (ok : Okp) (v : Value) (p : Bool × List Sc) : Prop :=
  (p.1 = true ∧ ∃ us, v = .agg us ∧ All2 (SRel w ρ ok) us.toList p.2) ∨ (p.1 = false ∧ ∃ s, p.2 = [s] ∧ SRel w ρ ok v s)
inductive VRel (w : World) (ρ : Rho) (ok : Okp) : Value → AV → Prop
  | any (v : Value) : VRel w ρ ok v (.one .undef)
  | one (v : Value) (s : Sc) (h : SRel w ρ ok v s) : VRel w ρ ok v (.one s)
  | agg (vs : Array Value) (l : List Sc) (h : All2 (SRel w ρ ok) vs.toList l) : VRel w ρ ok (.agg vs) (.agg l)
  | tup (vs : Array Value) (l : List (Bool × List Sc)) (h : All2 (PRel w ρ ok) vs.toList l) : VRel w ρ ok (.tuple vs) (.tup l)
theorem PRel.mono {w w' : World} {ρ ρ' : Rho} {ok ok' : Okp} (he : Ext w ρ ok w' ρ' ok') {v : Value} {p : Bool × List Sc} (h : PRel w ρ ok v p) : PRel w' ρ' ok' v p := by
  rcases h with ⟨h1, us, h2, h3⟩ | ⟨h1, s, h2, h3⟩
  · exact .inl ⟨h1, us, h2, h3.imp fun _ _ => SRel.mono he⟩
  · exact .inr ⟨h1, s, h2, h3.mono he⟩
theorem VRel.mono {w w' : World} {ρ ρ' : Rho} {ok ok' : Okp} (he : Ext w ρ ok w' ρ' ok') {v : Value} {a : AV} (h : VRel w ρ ok v a) : VRel w' ρ' ok' v a := by
  cases h with
  | any v => exact .any v
  | one v s h => exact .one v s (h.mono he)
  | agg vs l h => exact .agg vs l (h.imp fun _ _ => SRel.mono he)
  | tup vs l h => exact .tup vs l (h.imp fun _ _ => PRel.mono he)
/-- The cells of a value. -/
theorem VRel.cells {w : World} {ρ : Rho} {ok : Okp} {v : Value} {a : AV} (h : VRel w ρ ok v a) (hn : a.cells ≠ []) : All2 (SRel w ρ ok) v.cells.toList a.cells := by
  cases h with
  | any v => simp [AV.cells] at hn
  | one v s h =>
    have h1 := h.one
    have hc : v.cells = #[v] := by cases v <;> first | rfl | simp [Value.oneCell'] at h1
    rw [hc]
    cases s <;> first | exact ⟨h, trivial⟩ | simp [AV.cells] at hn
  | agg vs l h => exact h
  | tup vs l h => simp [AV.cells] at hn

def blkOf : Value → Option Nat
  | .pointer (some a) => some a.block
  | .slice (some a) _ _ => some a.block
  | _ => none
def LiveAt (g : Get) (ρ : Rho) (l : Loc) (b : Nat) : Prop := (∃ c, g l = some c) ∧ ∃ v, ρ l.1 = some v ∧ blkOf v = some b
/-- A slice of the call's own. -/
def RRel (w : World) (ρ : Rho) (ok : Okp) (v : Value) (E : K) (xs : List (D E)) : Prop :=
  ∃ A cap, v = .slice A xs.length cap ∧ xs.length ≤ cap ∧
    ((A = none ∧ cap = 0) ∨ ∃ b T cur, A = some ⟨b, 0, none⟩ ∧ w.heap[b]? = some (.cells cur T (0, 0)) ∧ cur.size = cap * esize E ∧
      All2 (SRel w ρ ok) (cur.toList.take (xs.length * esize E)) (flat E xs))
structure HRel (w : World) (ρ : Rho) (ok : Okp) (g : Get) : Prop where
  cells : ∀ id off s, g (id, off) = some (.cell s) → ∃ b v, ρ id = some (.pointer (some ⟨b, 0, none⟩)) ∧ w.cell? ⟨b, off, none⟩ = some v ∧ w.frozen? ⟨b, off, none⟩ = false ∧ SRel w ρ ok v s
  rows : ∀ id off E xs, g (id, off) = some (.rows E xs) → off = 0 ∧ ∃ v, ρ id = some v ∧ RRel w ρ ok v E xs
  dist : ∀ l l' b, LiveAt g ρ l b → LiveAt g ρ l' b → l.1 = l'.1
  oks : ∀ x b, ok x b → b < w.heap.size ∧ ∀ l, ¬ LiveAt g ρ l b
  cont : ∀ id off s, g (id, off) = some (.cell s) → off < 64 ∧ ∀ o, o < off → ∃ s', g (id, o) = some (.cell s')

theorem blkOf_ptr (b o : Nat) : blkOf (.pointer (some ⟨b, o, none⟩)) = some b := rfl
theorem HRel.live_lt {w : World} {ρ : Rho} {ok : Okp} {g : Get} (h : HRel w ρ ok g) {l : Loc} {b : Nat} (hl : LiveAt g ρ l b) : b < w.heap.size := by
  obtain ⟨⟨c, hc⟩, v, hv, hb⟩ := hl
  obtain ⟨id, off⟩ := l
  cases c with
  | cell s =>
    obtain ⟨b', v', hr, hcell, _⟩ := h.cells id off s hc
    have : v = .pointer (some ⟨b', 0, none⟩) := Option.some.inj (hv.symm.trans hr)
    subst this
    obtain rfl : b' = b := by simpa [blkOf] using hb
    exact World.block_lt_of_cell? _ _ hcell
  | rows E xs =>
    obtain ⟨_, v', hr, A, cap, hv', _, h2⟩ := h.rows id off E xs hc
    have : v = v' := Option.some.inj (hv.symm.trans hr)
    subst this hv'
    rcases h2 with ⟨rfl, _⟩ | ⟨b', T, vs, rfl, hh, _⟩
    · simp [blkOf] at hb
    · obtain rfl : b' = b := by simpa [blkOf] using hb
      exact (Array.getElem?_eq_some_iff.1 hh).1

/-- What a call begins with: the world then, the blocks that it is handed to write, what it may look at. -/
structure Ctx where
  w0 : World
  M0 : Nat → Prop
  ok0 : Okp
structure Fr (C : Ctx) (w : World) : Prop where
  os : w.os = C.w0.os
  tape : w.tape = C.w0.tape
  output : w.output = C.w0.output
  size : C.w0.heap.size ≤ w.heap.size
  heap : ∀ b, b < C.w0.heap.size → ¬ C.M0 b → w.heap[b]? = C.w0.heap[b]?
/-- The heap's part of the relation in a call. -/
structure CRel (C : Ctx) (w : World) (ρ : Rho) (ok : Okp) (g : Get) : Prop extends HRel w ρ ok g where
  own : ∀ l b, LiveAt g ρ l b → C.w0.heap.size ≤ b ∨ C.M0 b
  ok0 : ∀ x b, C.ok0 x b → ok x b
  okn : ∀ b, ok false b → C.ok0 false b ∨ C.w0.heap.size ≤ b ∨ C.M0 b
  fr : Fr C w
structure TRel (w : World) (ρ : Rho) (ok : Okp) (a : Act) (tmps : List AV) : Prop where
  defers : a.defers = []
  size : a.tmps.size = tmps.length
  tm : ∀ t, VRel w ρ ok (a.tmps.getD t undef) (tmps.getD t (.one .undef))

theorem TRel.mono {w w' : World} {ρ ρ' : Rho} {ok ok' : Okp} (he : Ext w ρ ok w' ρ' ok') {a : Act} {tmps : List AV} (h : TRel w ρ ok a tmps) : TRel w' ρ' ok' a tmps :=
  ⟨h.defers, h.size, fun t => (h.tm t).mono he⟩
theorem TRel.put {w : World} {ρ : Rho} {ok : Okp} {a : Act} {tmps : List AV} (h : TRel w ρ ok a tmps) (dst : Option Tmp) {v : Value} {x : AV} (hv : VRel w ρ ok v x) :
    TRel w ρ ok (a.put dst v) (setTmp tmps dst x) := by
  cases dst with
  | none => exact h
  | some d =>
    refine ⟨h.defers, by simp [Act.put, setTmp, h.size], fun t => ?_⟩
    simp only [Act.put, setTmp, Array.getD_eq_getD_getElem?, List.getD_eq_getElem?_getD]
    by_cases hd : d = t
    · subst hd
      by_cases hl : d < a.tmps.size
      · have hl' : d < tmps.length := by rw [← h.size]; exact hl
        rw [Array.getElem?_setIfInBounds_self_of_lt hl, List.getElem?_set_self hl']
        simpa using hv
      · have hl' : ¬ d < tmps.length := by rw [← h.size]; exact hl
        have h1 : (a.tmps.setIfInBounds d v)[d]? = none := Array.getElem?_eq_none (by rw [Array.size_setIfInBounds]; exact Nat.le_of_not_lt hl)
        have h2 : (tmps.set d x)[d]? = none := List.getElem?_eq_none (by rw [List.length_set]; exact Nat.le_of_not_lt hl')
        rw [h1, h2]
        exact .any _
    · rw [Array.getElem?_setIfInBounds_ne hd, List.getElem?_set_ne hd]
      have := h.tm t
      simpa only [Array.getD_eq_getD_getElem?, List.getD_eq_getElem?_getD] using this
theorem TRel.rd {w : World} {ρ : Rho} {ok : Okp} {a : Act} {tmps : List AV} (h : TRel w ρ ok a tmps) (x : Operand) : VRel w ρ ok (a.eval x) (rd tmps x) := by
  cases x with
  | tmp t => exact h.tm t
  | const v =>
    simp only [Sx.rd, Act.eval]
    unfold constAV
    split
    · exact .one _ _ (.int _ _)
    · exact .one _ _ (.bool _)
    · exact .one _ _ .nils
    · exact .any _
  | global g => exact .any _
  | func f => exact .any _
end Go.Proofs.Ytipfipnhgpbceaa.Sx
