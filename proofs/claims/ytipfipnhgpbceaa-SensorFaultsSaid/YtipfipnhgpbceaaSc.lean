/- The least raw number by the other text; the measurement of a telegram, by both texts (plain theorems). -/
import Derived.Test.YtipfipnhgpbceaaSb
set_option linter.unusedVariables false
set_option linter.unusedSimpArgs false
set_option maxRecDepth 100000
namespace Go.Proofs.Ytipfipnhgpbceaa.Sx
open Go Go.RowKit
def l61 : List (FuncId × Spec) := [(42, s42), (35, s35)]
def k61 : Code → Keep := keepOf [(2, ⟨[1, 2, 6], [], []⟩)]
noncomputable def h61_0 (fl : Nat) (t1 : Int) (t6 : Int) (m0_0 : Int) (m0_1 : Int) (m0_2 : Int) (m0_3 : Int) (m0_4 : Int) (m0_5 : Int) (m0_6 : Int) (m0_7 : Int) : Option (AV × List Ob) := (evalH (env l61) Try.f61 k61 0 fl (stkF Try.f61 [1, 0, 1, 0]) ⟨[.one (.undef), .one (.int .i64 t1), .one (.ptr 0 0), .one (.undef), .one (.undef), .one (.undef), .one (.int .i64 t6), .one (.undef), .one (.undef), .one (.undef), .one (.undef), .one (.undef), .one (.undef), .one (.undef), .one (.undef), .one (.undef), .one (.undef), .one (.undef), .one (.undef), .one (.undef), .one (.undef), .one (.undef), .one (.undef), .one (.undef), .one (.undef), .one (.undef), .one (.undef), .one (.undef), .one (.undef), .one (.undef), .one (.undef)], [((0, 0), some (.cell (.int .i64 m0_0))), ((0, 1), some (.cell (.int .i64 m0_1))), ((0, 2), some (.cell (.int .i64 m0_2))), ((0, 3), some (.cell (.int .i64 m0_3))), ((0, 4), some (.cell (.int .i64 m0_4))), ((0, 5), some (.cell (.int .i64 m0_5))), ((0, 6), some (.cell (.int .i64 m0_6))), ((0, 7), some (.cell (.int .i64 m0_7)))], 1⟩).den
noncomputable def h61 (fl : Nat) (a b c d e f g h n : Int) : Option (AV × List Ob) := (evalF (env l61) Try.f61 k61 fl [.agg [.int .i64 a, .int .i64 b, .int .i64 c, .int .i64 d, .int .i64 e, .int .i64 f, .int .i64 g, .int .i64 h], .one (.int .i64 n)] []).den
theorem h61_eq (fl : Nat) (a b c d e f g h n : Int) : h61 (fl + 1) a b c d e f g h n =
    h61_0 fl n 0 a b c d e f g h := by kernel_rfl
theorem h61_0_eq (fl : Nat) (t1 : Int) (t6 : Int) (m0_0 : Int) (m0_1 : Int) (m0_2 : Int) (m0_3 : Int) (m0_4 : Int) (m0_5 : Int) (m0_6 : Int) (m0_7 : Int) : h61_0 (fl + 1) t1 t6 m0_0 m0_1 m0_2 m0_3 m0_4 m0_5 m0_6 m0_7 =
    if (decide (t6 ≤ 65535)) = true then if (!((valueC { addr := m0_0, kind := m0_1, target := m0_2, offset := m0_3, scale := m0_4, error := m0_5, drift := m0_6, life := m0_7 : Sensor } t6).lo == -1125899906842624 && (valueC { addr := m0_0, kind := m0_1, target := m0_2, offset := m0_3, scale := m0_4, error := m0_5, drift := m0_6, life := m0_7 : Sensor } t6).hi == 1125899906842624)) = true then if (decide ((valueC { addr := m0_0, kind := m0_1, target := m0_2, offset := m0_3, scale := m0_4, error := m0_5, drift := m0_6, life := m0_7 : Sensor } t6).lo ≤ t1)) = true then if (decide (t1 ≤ (valueC { addr := m0_0, kind := m0_1, target := m0_2, offset := m0_3, scale := m0_4, error := m0_5, drift := m0_6, life := m0_7 : Sensor } t6).hi)) = true then some (.tup [(false, [.int .i64 t6]), (false, [.bool true])], [])
          else h61_0 fl t1 (IntKind.i64.wrap (t6 + 1)) m0_0 m0_1 m0_2 m0_3 m0_4 m0_5 m0_6 m0_7
        else h61_0 fl t1 (IntKind.i64.wrap (t6 + 1)) m0_0 m0_1 m0_2 m0_3 m0_4 m0_5 m0_6 m0_7
      else h61_0 fl t1 (IntKind.i64.wrap (t6 + 1)) m0_0 m0_1 m0_2 m0_3 m0_4 m0_5 m0_6 m0_7
    else some (.tup [(false, [.int .i64 0]), (false, [.bool false])], []) := by kernel_rfl
def s61 : Spec := ⟨false, fun av ob => match av, ob with
  | [.agg [.int .i64 a, .int .i64 b, .int .i64 c, .int .i64 d, .int .i64 e, .int .i64 f, .int .i64 g, .int .i64 h], .one (.int .i64 v)], [] => .ret (.tup [(false, [.int .i64 (rawN (rawO ⟨a, b, c, d, e, f, g, h⟩ v))]), (false, [.bool (rawB (rawO ⟨a, b, c, d, e, f, g, h⟩ v))])], [])
  | _, _ => .fail⟩
theorem v61_0 (a b c d e f g h v : Int) (hc : checkS ⟨a, b, c, d, e, f, g, h⟩ = 0) : ∀ (k : Nat) (i : Int), 0 ≤ i → i + k = 65536 → h61_0 (k + 1) v i a b c d e f g h = some (.tup [(false, [.int .i64 (rawN (findR (hasRaw ⟨a, b, c, d, e, f, g, h⟩ v) k i))]), (false, [.bool (rawB (findR (hasRaw ⟨a, b, c, d, e, f, g, h⟩ v) k i))])], [])
  | 0, i, h0, hk => by
    rw [h61_0_eq, if_neg (by simp; omega)]; rfl
  | k + 1, i, h0, hk => by
    have ih := v61_0 a b c d e f g h v hc k (i + 1) (by omega) (by omega)
    have e1 : IntKind.i64.wrap (i + 1) = i + 1 := wid (by omega) (by omega)
    have e2 : valueC ⟨a, b, c, d, e, f, g, h⟩ i = valT ⟨a, b, c, d, e, f, g, h⟩ i := by
      unfold valueC
      rw [if_neg (by simp [hc])]
    rw [h61_0_eq, if_pos (show decide (i ≤ 65535) = true by simp only [decide_eq_true_eq]; omega), e1, ih, findR, e2]
    unfold hasRaw
    cases k1 : ((valT ⟨a, b, c, d, e, f, g, h⟩ i).lo == -1125899906842624 && (valT ⟨a, b, c, d, e, f, g, h⟩ i).hi == 1125899906842624)
    · cases k2 : decide ((valT ⟨a, b, c, d, e, f, g, h⟩ i).lo ≤ v)
      · simp
      · cases k3 : decide (v ≤ (valT ⟨a, b, c, d, e, f, g, h⟩ i).hi) <;> simp [rawN, rawB]
    · simp
theorem v61_1 (a b c d e f g h v : Int) (hc : checkS ⟨a, b, c, d, e, f, g, h⟩ ≠ 0) : ∀ (k : Nat) (i : Int), 0 ≤ i → i + k = 65536 → h61_0 (k + 1) v i a b c d e f g h = some (.tup [(false, [.int .i64 0]), (false, [.bool false])], [])
  | 0, i, h0, hk => by
    rw [h61_0_eq, if_neg (by simp; omega)]
  | k + 1, i, h0, hk => by
    have ih := v61_1 a b c d e f g h v hc k (i + 1) (by omega) (by omega)
    have e1 : IntKind.i64.wrap (i + 1) = i + 1 := wid (by omega) (by omega)
    have e2 : valueC ⟨a, b, c, d, e, f, g, h⟩ i = nothing := by
      unfold valueC
      rw [if_pos (by simp [hc])]
    rw [h61_0_eq, if_pos (show decide (i ≤ 65535) = true by simp only [decide_eq_true_eq]; omega), e1, ih, e2]
    simp [nothing]
theorem v61 (a b c d e f g h v : Int) : h61 65538 a b c d e f g h v = some (.tup [(false, [.int .i64 (rawN (rawO ⟨a, b, c, d, e, f, g, h⟩ v))]), (false, [.bool (rawB (rawO ⟨a, b, c, d, e, f, g, h⟩ v))])], []) := by
  rw [h61_eq]
  unfold rawO
  by_cases hc : checkS ⟨a, b, c, d, e, f, g, h⟩ = 0
  · rw [if_neg (by simp [hc])]
    exact v61_0 a b c d e f g h v hc 65536 0 (by omega) (by omega)
  · rw [if_pos (by simp [hc])]
    exact v61_1 a b c d e f g h v hc 65536 0 (by omega) (by omega)
theorem p61 : SpecOK Try.prog 61 s61 := by
  refine specOK_of (env_ok (l := l61) ⟨⟨p42, f42⟩, ⟨⟨p35, f35⟩, trivial⟩⟩) mixed_ok Try.func61 k61 fun av ob r os hrn => ?_
  simp only [s61] at hrn
  split at hrn
  · rename_i a b c d e f g h v
    cases hrn
    have hv := v61 a b c d e f g h v
    unfold h61 at hv
    exact ⟨65538, hv⟩
  · cases hrn
theorem f61 : FnOK Try.prog 61 := fnOK_of Try.func61 rfl (by kernel_rfl)

/-! ### Telegrams -/
def sensAt (l : List Sensor) (i : Int) : Sensor := l.getD i.toNat (dflt K.sensor)
def goAt (l : List Sensor) (a : Int) : Nat → Int → Int
  | 0, acc => acc
  | i + 1, acc => goAt l a i (if (sensAt l i).addr == a then (i : Int) else acc)
def rawOf (dat : List Int) : Int := bits BinOp.or IntKind.i64 (IntKind.i64.wrap (IntKind.i64.wrap (dat.getD (Int.toNat 0) (dflt K.u8)) * 256)) (IntKind.i64.wrap (dat.getD (Int.toNat 1) (dflt K.u8)))
def decEnd (l : List Sensor) (k : Int) (dat : List Int) (t ix : Int) : Measure × Int :=
  if ix < 0 then (⟨0, 0, 0, 0⟩, 9)
  else if checkS (sensAt l ix) ≠ 0 then (⟨0, 0, 0, 0⟩, 9)
  else if k = 1 then (if (dat.length : Int) ≠ 2 then (⟨0, 0, 0, 0⟩, 6) else (⟨ix, t, (valT (sensAt l ix) (rawOf dat)).lo, (valT (sensAt l ix) (rawOf dat)).hi⟩, 0))
  else if k = 2 then (if (dat.length : Int) ≠ 0 then (⟨0, 0, 0, 0⟩, 6) else (⟨ix, t, -1125899906842624, 1125899906842624⟩, 0))
  else (⟨0, 0, 0, 0⟩, 5)
def decT (l : List Sensor) (a k : Int) (dat : List Int) (t : Int) : Measure × Int :=
  if t < 0 ∨ t > 2147483648 then (⟨0, 0, 0, 0⟩, 8) else decEnd l k dat t (goAt l a l.length (-1))
theorem idx_of {n : Nat} {i : Int} (h0 : 0 ≤ i) (h1 : i < n) : idx n i = true := by simp [idx]; omega
theorem goAt_lt (l : List Sensor) (a : Int) : ∀ (i : Nat) (acc : Int), i ≤ l.length → acc < l.length → goAt l a i acc < l.length
  | 0, acc, _, h => h
  | i + 1, acc, hi, h => goAt_lt l a i _ (by omega) (by split <;> omega)
def l49 : List (FuncId × Spec) := [(38, s38), (54, s54), (90, s90)]
def k49 : Code → Keep := keepOf [(5, ⟨[0, 2, 4, 6, 8, 9], [], []⟩)]
noncomputable def h49_0 (fl : Nat) (t0b : Bool) (t0 : List Sensor) (t2 : Int) (t8 : Int) (t9 : Int) (m0_0 : Int) (m0_1 : Int) (m0_2b : Bool) (m0_2 : List Int) (m1_0 : Int) (m1_1 : Int) (m1_2 : Int) (m1_3 : Int) : Option (AV × List Ob) := (evalH (env l49) Try.f49 k49 0 fl (stkF Try.f49 [1, 1, 1, 0, 1, 0]) ⟨[.one (.vec t0b .sensor t0), .one (.undef), .one (.int .i64 t2), .one (.undef), .one (.ptr 0 0), .one (.undef), .one (.ptr 1 0), .one (.undef), .one (.int .i64 t8), .one (.int .i64 t9), .one (.undef), .one (.undef), .one (.undef), .one (.undef), .one (.undef), .one (.undef), .one (.undef), .one (.undef), .one (.undef), .one (.undef), .one (.undef), .one (.undef), .one (.undef), .one (.undef), .one (.undef), .one (.undef), .one (.undef), .one (.undef), .one (.undef), .one (.undef), .one (.undef), .one (.undef), .one (.undef), .one (.undef), .one (.undef), .one (.undef), .one (.undef), .one (.undef), .one (.undef), .one (.undef), .one (.undef), .one (.undef), .one (.undef), .one (.undef), .one (.undef), .one (.undef), .one (.undef), .one (.undef), .one (.undef), .one (.undef), .one (.undef), .one (.undef), .one (.undef), .one (.undef), .one (.undef), .one (.undef), .one (.undef), .one (.undef), .one (.undef), .one (.undef), .one (.undef), .one (.undef), .one (.undef), .one (.undef), .one (.undef), .one (.undef), .one (.undef), .one (.undef), .one (.undef), .one (.undef), .one (.undef), .one (.undef), .one (.undef), .one (.undef), .one (.undef), .one (.undef), .one (.undef), .one (.undef), .one (.undef), .one (.undef), .one (.undef), .one (.undef), .one (.undef), .one (.undef), .one (.undef)], [((0, 0), some (.cell (.int .i64 m0_0))), ((0, 1), some (.cell (.int .i64 m0_1))), ((0, 2), some (.cell (.vec m0_2b .u8 m0_2))), ((1, 0), some (.cell (.int .i64 m1_0))), ((1, 1), some (.cell (.int .i64 m1_1))), ((1, 2), some (.cell (.int .i64 m1_2))), ((1, 3), some (.cell (.int .i64 m1_3)))], 2⟩).den
noncomputable def h49 (fl : Nat) (b1 b2 : Bool) (l : List Sensor) (a k : Int) (dat : List Int) (t : Int) : Option (AV × List Ob) := (evalF (env l49) Try.f49 k49 fl [.one (.vec b1 .sensor l), .agg [.int .i64 a, .int .i64 k, .vec b2 .u8 dat], .one (.int .i64 t)] []).den
theorem h49_eq (fl : Nat) (b1 b2 : Bool) (l : List Sensor) (a k : Int) (dat : List Int) (t : Int) : h49 (fl + 1) b1 b2 l a k dat t =
    if (decide (t < 0)) = true then some (.tup [(true, [.int .i64 0, .int .i64 0, .int .i64 0, .int .i64 0]), (false, [.int .i64 8])], [])
    else if (decide (t > 2147483648)) = true then some (.tup [(true, [.int .i64 0, .int .i64 0, .int .i64 0, .int .i64 0]), (false, [.int .i64 8])], [])
      else h49_0 fl b1 l t (-1) (IntKind.i64.wrap ((↑l.length : Int) - 1)) a k b2 dat 0 0 0 0 := by kernel_rfl
theorem h49_0_eq (fl : Nat) (t0b : Bool) (t0 : List Sensor) (t2 : Int) (t8 : Int) (t9 : Int) (m0_0 : Int) (m0_1 : Int) (m0_2b : Bool) (m0_2 : List Int) (m1_0 : Int) (m1_1 : Int) (m1_2 : Int) (m1_3 : Int) : h49_0 (fl + 1) t0b t0 t2 t8 t9 m0_0 m0_1 m0_2b m0_2 m1_0 m1_1 m1_2 m1_3 =
    if (decide (t9 ≥ 0)) = true then if (idx t0.length t9) = true then if ((t0.getD t9.toNat (dflt K.sensor)).addr == m0_0) = true then h49_0 fl t0b t0 t2 t9 (IntKind.i64.wrap (t9 - 1)) m0_0 m0_1 m0_2b m0_2 m1_0 m1_1 m1_2 m1_3
        else h49_0 fl t0b t0 t2 t8 (IntKind.i64.wrap (t9 - 1)) m0_0 m0_1 m0_2b m0_2 m1_0 m1_1 m1_2 m1_3
      else none
    else if (decide (t8 < 0)) = true then some (.tup [(true, [.int .i64 0, .int .i64 0, .int .i64 0, .int .i64 0]), (false, [.int .i64 9])], [])
      else if (idx t0.length t8) = true then if (checkS { addr := (t0.getD t8.toNat (dflt K.sensor)).addr, kind := (t0.getD t8.toNat (dflt K.sensor)).kind, target := (t0.getD t8.toNat (dflt K.sensor)).target, offset := (t0.getD t8.toNat (dflt K.sensor)).offset, scale := (t0.getD t8.toNat (dflt K.sensor)).scale, error := (t0.getD t8.toNat (dflt K.sensor)).error, drift := (t0.getD t8.toNat (dflt K.sensor)).drift, life := (t0.getD t8.toNat (dflt K.sensor)).life : Sensor } != 0) = true then some (.tup [(true, [.int .i64 0, .int .i64 0, .int .i64 0, .int .i64 0]), (false, [.int .i64 9])], [])
          else if (m0_1 == 1) = true then if ((↑m0_2.length : Int) != 2) = true then some (.tup [(true, [.int .i64 0, .int .i64 0, .int .i64 0, .int .i64 0]), (false, [.int .i64 6])], [])
              else if (idx t0.length t8) = true then if (idx m0_2.length 0) = true then if (idx m0_2.length 1) = true then some (.tup [(true, [.int .i64 t8, .int .i64 t2, .int .i64 ((valT { addr := (t0.getD t8.toNat (dflt K.sensor)).addr, kind := (t0.getD t8.toNat (dflt K.sensor)).kind, target := (t0.getD t8.toNat (dflt K.sensor)).target, offset := (t0.getD t8.toNat (dflt K.sensor)).offset, scale := (t0.getD t8.toNat (dflt K.sensor)).scale, error := (t0.getD t8.toNat (dflt K.sensor)).error, drift := (t0.getD t8.toNat (dflt K.sensor)).drift, life := (t0.getD t8.toNat (dflt K.sensor)).life : Sensor } (bits BinOp.or IntKind.i64 (IntKind.i64.wrap (IntKind.i64.wrap (m0_2.getD (Int.toNat 0) (dflt K.u8)) * 256)) (IntKind.i64.wrap (m0_2.getD (Int.toNat 1) (dflt K.u8))))).lo), .int .i64 ((valT { addr := (t0.getD t8.toNat (dflt K.sensor)).addr, kind := (t0.getD t8.toNat (dflt K.sensor)).kind, target := (t0.getD t8.toNat (dflt K.sensor)).target, offset := (t0.getD t8.toNat (dflt K.sensor)).offset, scale := (t0.getD t8.toNat (dflt K.sensor)).scale, error := (t0.getD t8.toNat (dflt K.sensor)).error, drift := (t0.getD t8.toNat (dflt K.sensor)).drift, life := (t0.getD t8.toNat (dflt K.sensor)).life : Sensor } (bits BinOp.or IntKind.i64 (IntKind.i64.wrap (IntKind.i64.wrap (m0_2.getD (Int.toNat 0) (dflt K.u8)) * 256)) (IntKind.i64.wrap (m0_2.getD (Int.toNat 1) (dflt K.u8))))).hi)]), (false, [.int .i64 0])], [])
                    else none
                  else none
                else none
            else if (m0_1 == 2) = true then if ((↑m0_2.length : Int) != 0) = true then some (.tup [(true, [.int .i64 0, .int .i64 0, .int .i64 0, .int .i64 0]), (false, [.int .i64 6])], [])
                else some (.tup [(true, [.int .i64 t8, .int .i64 t2, .int .i64 (-1125899906842624), .int .i64 1125899906842624]), (false, [.int .i64 0])], [])
              else some (.tup [(true, [.int .i64 0, .int .i64 0, .int .i64 0, .int .i64 0]), (false, [.int .i64 5])], [])
        else none := by kernel_rfl
def s49 : Spec := ⟨false, fun av ob => match av, ob with
  | [.one (.vec b1 .sensor l), .agg [.int .i64 a, .int .i64 k, .vec b2 .u8 dat], .one (.int .i64 t)], [] => .need (decide (l.length ≤ 1000000)) (.ret (.tup [(true, [.int .i64 (decT l a k dat t).1.sensor, .int .i64 (decT l a k dat t).1.time, .int .i64 (decT l a k dat t).1.lo, .int .i64 (decT l a k dat t).1.hi]), (false, [.int .i64 (decT l a k dat t).2])], []))
  | _, _ => .fail⟩
theorem v49_0 (b1 b2 : Bool) (l : List Sensor) (a k : Int) (dat : List Int) (t : Int) (hl : l.length ≤ 1000000) : ∀ (i fl : Nat) (ix : Int), i ≤ l.length → i < fl → ix < l.length →
    h49_0 fl b1 l t ix ((i : Int) - 1) a k b2 dat 0 0 0 0 = some (.tup [(true, [.int .i64 (decEnd l k dat t (goAt l a i ix)).1.sensor, .int .i64 (decEnd l k dat t (goAt l a i ix)).1.time, .int .i64 (decEnd l k dat t (goAt l a i ix)).1.lo, .int .i64 (decEnd l k dat t (goAt l a i ix)).1.hi]), (false, [.int .i64 (decEnd l k dat t (goAt l a i ix)).2])], [])
  | 0, fl, ix, hi, hf, hx => by
    obtain ⟨fl, rfl⟩ : ∃ q, fl = q + 1 := ⟨fl - 1, by omega⟩
    rw [h49_0_eq, if_neg (by simp)]
    unfold goAt decEnd
    by_cases c0 : ix < 0
    · simp [c0]
    have i0 : idx l.length ix = true := idx_of (by omega) hx
    simp only [c0, i0, if_true, if_false, decide_eq_true_eq]
    show (if (checkS (sensAt l ix) != 0) = true then _ else _) = _
    by_cases c1 : checkS (sensAt l ix) = 0
    · simp only [c1, bne_self_eq_false, Bool.false_eq_true, ne_eq, not_true_eq_false, if_false]
      by_cases k1 : k = 1
      · subst k1
        by_cases d2 : (dat.length : Int) = 2
        · have j0 : idx dat.length 0 = true := idx_of (by omega) (by omega)
          have j1 : idx dat.length 1 = true := idx_of (by omega) (by omega)
          simp only [d2, j0, j1, beq_self_eq_true, bne_self_eq_false, Bool.false_eq_true, not_true_eq_false, if_true, if_false]
          rfl
        · have d2' : ((dat.length : Int) != 2) = true := by simpa using d2
          simp [d2', d2]
      · by_cases k2 : k = 2
        · subst k2
          by_cases d0 : (dat.length : Int) = 0
          · simp [d0]
          · have d0' : ((dat.length : Int) != 0) = true := by simpa using d0
            have d0n : dat ≠ [] := fun e0 => d0 (by rw [e0]; rfl)
            simp [d0', d0, d0n]
        · simp [k1, k2]
    · have c1' : (checkS (sensAt l ix) != 0) = true := by simpa using c1
      simp [c1', c1]
  | i + 1, fl, ix, hi, hf, hx => by
    obtain ⟨fl, rfl⟩ : ∃ q, fl = q + 1 := ⟨fl - 1, by omega⟩
    have e1 : ((i + 1 : Nat) : Int) - 1 = (i : Int) := by omega
    have e2 : IntKind.i64.wrap ((i : Int) - 1) = (i : Int) - 1 := wid (by omega) (by omega)
    rw [e1, h49_0_eq, if_pos (show decide ((i : Int) ≥ 0) = true by simp), if_pos (idx_nat (by omega)), e2, goAt]
    show (if ((sensAt l (i : Int)).addr == a) = true then _ else _) = _
    by_cases c : ((sensAt l (i : Int)).addr == a) = true
    · rw [if_pos c, if_pos c]
      exact v49_0 b1 b2 l a k dat t hl i fl i (by omega) (by omega) (by omega)
    · rw [if_neg c, if_neg c]
      exact v49_0 b1 b2 l a k dat t hl i fl ix (by omega) (by omega) hx
theorem v49 (b1 b2 : Bool) (l : List Sensor) (a k : Int) (dat : List Int) (t : Int) (hl : decide (l.length ≤ 1000000) = true) : h49 (l.length + 2) b1 b2 l a k dat t = some (.tup [(true, [.int .i64 (decT l a k dat t).1.sensor, .int .i64 (decT l a k dat t).1.time, .int .i64 (decT l a k dat t).1.lo, .int .i64 (decT l a k dat t).1.hi]), (false, [.int .i64 (decT l a k dat t).2])], []) := by
  have hl := of_decide_eq_true hl
  rw [h49_eq]
  unfold decT
  by_cases c1 : t < 0
  · simp [c1]
  by_cases c2 : t > 2147483648
  · simp [c1, c2]
  have e1 : IntKind.i64.wrap ((l.length : Int) - 1) = (l.length : Int) - 1 := wid (by omega) (by omega)
  rw [if_neg (by simpa using c1), if_neg (by simpa using c2), if_neg (by omega), e1]
  exact v49_0 b1 b2 l a k dat t hl l.length (l.length + 1) (-1) (by omega) (by omega) (by omega)
theorem p49 : SpecOK Try.prog 49 s49 := by
  refine specOK_of (env_ok (l := l49) ⟨⟨p38, f38⟩, ⟨⟨p54, f54⟩, ⟨⟨p90, f90⟩, trivial⟩⟩⟩) mixed_ok Try.func49 k49 fun av ob r os hrn => ?_
  simp only [s49] at hrn
  split at hrn
  · rename_i b1 l a k b2 dat t
    obtain ⟨hg, hrn⟩ := need_den hrn
    cases hrn
    have hv := v49 b1 b2 l a k dat t hg
    unfold h49 at hv
    exact ⟨l.length + 2, hv⟩
  · cases hrn
theorem f49 : FnOK Try.prog 49 := fnOK_of Try.func49 rfl (by kernel_rfl)
def l50 : List (FuncId × Spec) := [(89, s89), (39, s39), (35, s35), (42, s42)]
def k50 : Code → Keep := keepOf [(5, ⟨[0, 2, 4, 6, 8, 9], [], []⟩)]
noncomputable def h50_0 (fl : Nat) (t0b : Bool) (t0 : List Sensor) (t2 : Int) (t8 : Int) (t9 : Int) (m0_0 : Int) (m0_1 : Int) (m0_2b : Bool) (m0_2 : List Int) (m1_0 : Int) (m1_1 : Int) (m1_2 : Int) (m1_3 : Int) : Option (AV × List Ob) := (evalH (env l50) Try.f50 k50 0 fl (stkF Try.f50 [1, 1, 1, 0, 1, 0]) ⟨[.one (.vec t0b .sensor t0), .one (.undef), .one (.int .i64 t2), .one (.undef), .one (.ptr 0 0), .one (.undef), .one (.ptr 1 0), .one (.undef), .one (.int .i64 t8), .one (.int .i64 t9), .one (.undef), .one (.undef), .one (.undef), .one (.undef), .one (.undef), .one (.undef), .one (.undef), .one (.undef), .one (.undef), .one (.undef), .one (.undef), .one (.undef), .one (.undef), .one (.undef), .one (.undef), .one (.undef), .one (.undef), .one (.undef), .one (.undef), .one (.undef), .one (.undef), .one (.undef), .one (.undef), .one (.undef), .one (.undef), .one (.undef), .one (.undef), .one (.undef), .one (.undef), .one (.undef), .one (.undef), .one (.undef), .one (.undef), .one (.undef), .one (.undef), .one (.undef), .one (.undef), .one (.undef), .one (.undef), .one (.undef), .one (.undef), .one (.undef), .one (.undef), .one (.undef), .one (.undef), .one (.undef), .one (.undef), .one (.undef), .one (.undef), .one (.undef), .one (.undef), .one (.undef), .one (.undef), .one (.undef), .one (.undef), .one (.undef), .one (.undef), .one (.undef), .one (.undef), .one (.undef), .one (.undef), .one (.undef), .one (.undef), .one (.undef), .one (.undef), .one (.undef), .one (.undef), .one (.undef), .one (.undef), .one (.undef), .one (.undef), .one (.undef), .one (.undef), .one (.undef), .one (.undef), .one (.undef), .one (.undef), .one (.undef), .one (.undef), .one (.undef), .one (.undef), .one (.undef), .one (.undef), .one (.undef), .one (.undef), .one (.undef), .one (.undef), .one (.undef)], [((0, 0), some (.cell (.int .i64 m0_0))), ((0, 1), some (.cell (.int .i64 m0_1))), ((0, 2), some (.cell (.vec m0_2b .u8 m0_2))), ((1, 0), some (.cell (.int .i64 m1_0))), ((1, 1), some (.cell (.int .i64 m1_1))), ((1, 2), some (.cell (.int .i64 m1_2))), ((1, 3), some (.cell (.int .i64 m1_3)))], 2⟩).den
noncomputable def h50 (fl : Nat) (b1 b2 : Bool) (l : List Sensor) (a k : Int) (dat : List Int) (t : Int) : Option (AV × List Ob) := (evalF (env l50) Try.f50 k50 fl [.one (.vec b1 .sensor l), .agg [.int .i64 a, .int .i64 k, .vec b2 .u8 dat], .one (.int .i64 t)] []).den
theorem h50_eq (fl : Nat) (b1 b2 : Bool) (l : List Sensor) (a k : Int) (dat : List Int) (t : Int) : h50 (fl + 1) b1 b2 l a k dat t =
    if (!(decide (0 ≤ t) && decide (t ≤ 2147483648))) = true then some (.tup [(true, [.int .i64 0, .int .i64 0, .int .i64 0, .int .i64 0]), (false, [.int .i64 8])], [])
    else h50_0 fl b1 l t (-1) (IntKind.i64.wrap ((↑l.length : Int) - 1)) a k b2 dat 0 0 0 0 := by kernel_rfl
theorem h50_0_eq (fl : Nat) (t0b : Bool) (t0 : List Sensor) (t2 : Int) (t8 : Int) (t9 : Int) (m0_0 : Int) (m0_1 : Int) (m0_2b : Bool) (m0_2 : List Int) (m1_0 : Int) (m1_1 : Int) (m1_2 : Int) (m1_3 : Int) : h50_0 (fl + 1) t0b t0 t2 t8 t9 m0_0 m0_1 m0_2b m0_2 m1_0 m1_1 m1_2 m1_3 =
    if (decide (t9 ≥ 0)) = true then if (idx t0.length t9) = true then if ((t0.getD t9.toNat (dflt K.sensor)).addr == m0_0) = true then h50_0 fl t0b t0 t2 t9 (IntKind.i64.wrap (t9 - 1)) m0_0 m0_1 m0_2b m0_2 m1_0 m1_1 m1_2 m1_3
        else h50_0 fl t0b t0 t2 t8 (IntKind.i64.wrap (t9 - 1)) m0_0 m0_1 m0_2b m0_2 m1_0 m1_1 m1_2 m1_3
      else none
    else if (decide (t8 < 0)) = true then some (.tup [(true, [.int .i64 0, .int .i64 0, .int .i64 0, .int .i64 0]), (false, [.int .i64 9])], [])
      else if (idx t0.length t8) = true then if (checkS { addr := (t0.getD t8.toNat (dflt K.sensor)).addr, kind := (t0.getD t8.toNat (dflt K.sensor)).kind, target := (t0.getD t8.toNat (dflt K.sensor)).target, offset := (t0.getD t8.toNat (dflt K.sensor)).offset, scale := (t0.getD t8.toNat (dflt K.sensor)).scale, error := (t0.getD t8.toNat (dflt K.sensor)).error, drift := (t0.getD t8.toNat (dflt K.sensor)).drift, life := (t0.getD t8.toNat (dflt K.sensor)).life : Sensor } != 0) = true then some (.tup [(true, [.int .i64 0, .int .i64 0, .int .i64 0, .int .i64 0]), (false, [.int .i64 9])], [])
          else if (m0_1 != 1) = true then if (m0_1 != 2) = true then some (.tup [(true, [.int .i64 0, .int .i64 0, .int .i64 0, .int .i64 0]), (false, [.int .i64 5])], [])
              else if (m0_1 == 1) = true then if ((↑m0_2.length : Int) != 2) = true then some (.tup [(true, [.int .i64 0, .int .i64 0, .int .i64 0, .int .i64 0]), (false, [.int .i64 6])], [])
                  else if (m0_1 == 2) = true then if ((↑m0_2.length : Int) != 0) = true then some (.tup [(true, [.int .i64 0, .int .i64 0, .int .i64 0, .int .i64 0]), (false, [.int .i64 6])], [])
                      else if (m0_1 == 1) = true then if (idx t0.length t8) = true then if (idx m0_2.length 0) = true then if (idx m0_2.length 1) = true then some (.tup [(true, [.int .i64 t8, .int .i64 t2, .int .i64 ((valueC { addr := (t0.getD t8.toNat (dflt K.sensor)).addr, kind := (t0.getD t8.toNat (dflt K.sensor)).kind, target := (t0.getD t8.toNat (dflt K.sensor)).target, offset := (t0.getD t8.toNat (dflt K.sensor)).offset, scale := (t0.getD t8.toNat (dflt K.sensor)).scale, error := (t0.getD t8.toNat (dflt K.sensor)).error, drift := (t0.getD t8.toNat (dflt K.sensor)).drift, life := (t0.getD t8.toNat (dflt K.sensor)).life : Sensor } (bits BinOp.or IntKind.i64 (IntKind.i64.wrap (IntKind.i64.wrap (m0_2.getD (Int.toNat 0) (dflt K.u8)) * 256)) (IntKind.i64.wrap (m0_2.getD (Int.toNat 1) (dflt K.u8))))).lo), .int .i64 ((valueC { addr := (t0.getD t8.toNat (dflt K.sensor)).addr, kind := (t0.getD t8.toNat (dflt K.sensor)).kind, target := (t0.getD t8.toNat (dflt K.sensor)).target, offset := (t0.getD t8.toNat (dflt K.sensor)).offset, scale := (t0.getD t8.toNat (dflt K.sensor)).scale, error := (t0.getD t8.toNat (dflt K.sensor)).error, drift := (t0.getD t8.toNat (dflt K.sensor)).drift, life := (t0.getD t8.toNat (dflt K.sensor)).life : Sensor } (bits BinOp.or IntKind.i64 (IntKind.i64.wrap (IntKind.i64.wrap (m0_2.getD (Int.toNat 0) (dflt K.u8)) * 256)) (IntKind.i64.wrap (m0_2.getD (Int.toNat 1) (dflt K.u8))))).hi)]), (false, [.int .i64 0])], [])
                              else none
                            else none
                          else none
                        else some (.tup [(true, [.int .i64 t8, .int .i64 t2, .int .i64 (-1125899906842624), .int .i64 1125899906842624]), (false, [.int .i64 0])], [])
                    else if (m0_1 == 1) = true then if (idx t0.length t8) = true then if (idx m0_2.length 0) = true then if (idx m0_2.length 1) = true then some (.tup [(true, [.int .i64 t8, .int .i64 t2, .int .i64 ((valueC { addr := (t0.getD t8.toNat (dflt K.sensor)).addr, kind := (t0.getD t8.toNat (dflt K.sensor)).kind, target := (t0.getD t8.toNat (dflt K.sensor)).target, offset := (t0.getD t8.toNat (dflt K.sensor)).offset, scale := (t0.getD t8.toNat (dflt K.sensor)).scale, error := (t0.getD t8.toNat (dflt K.sensor)).error, drift := (t0.getD t8.toNat (dflt K.sensor)).drift, life := (t0.getD t8.toNat (dflt K.sensor)).life : Sensor } (bits BinOp.or IntKind.i64 (IntKind.i64.wrap (IntKind.i64.wrap (m0_2.getD (Int.toNat 0) (dflt K.u8)) * 256)) (IntKind.i64.wrap (m0_2.getD (Int.toNat 1) (dflt K.u8))))).lo), .int .i64 ((valueC { addr := (t0.getD t8.toNat (dflt K.sensor)).addr, kind := (t0.getD t8.toNat (dflt K.sensor)).kind, target := (t0.getD t8.toNat (dflt K.sensor)).target, offset := (t0.getD t8.toNat (dflt K.sensor)).offset, scale := (t0.getD t8.toNat (dflt K.sensor)).scale, error := (t0.getD t8.toNat (dflt K.sensor)).error, drift := (t0.getD t8.toNat (dflt K.sensor)).drift, life := (t0.getD t8.toNat (dflt K.sensor)).life : Sensor } (bits BinOp.or IntKind.i64 (IntKind.i64.wrap (IntKind.i64.wrap (m0_2.getD (Int.toNat 0) (dflt K.u8)) * 256)) (IntKind.i64.wrap (m0_2.getD (Int.toNat 1) (dflt K.u8))))).hi)]), (false, [.int .i64 0])], [])
                            else none
                          else none
                        else none
                      else some (.tup [(true, [.int .i64 t8, .int .i64 t2, .int .i64 (-1125899906842624), .int .i64 1125899906842624]), (false, [.int .i64 0])], [])
                else if (m0_1 == 2) = true then if ((↑m0_2.length : Int) != 0) = true then some (.tup [(true, [.int .i64 0, .int .i64 0, .int .i64 0, .int .i64 0]), (false, [.int .i64 6])], [])
                    else if (m0_1 == 1) = true then if (idx t0.length t8) = true then if (idx m0_2.length 0) = true then if (idx m0_2.length 1) = true then some (.tup [(true, [.int .i64 t8, .int .i64 t2, .int .i64 ((valueC { addr := (t0.getD t8.toNat (dflt K.sensor)).addr, kind := (t0.getD t8.toNat (dflt K.sensor)).kind, target := (t0.getD t8.toNat (dflt K.sensor)).target, offset := (t0.getD t8.toNat (dflt K.sensor)).offset, scale := (t0.getD t8.toNat (dflt K.sensor)).scale, error := (t0.getD t8.toNat (dflt K.sensor)).error, drift := (t0.getD t8.toNat (dflt K.sensor)).drift, life := (t0.getD t8.toNat (dflt K.sensor)).life : Sensor } (bits BinOp.or IntKind.i64 (IntKind.i64.wrap (IntKind.i64.wrap (m0_2.getD (Int.toNat 0) (dflt K.u8)) * 256)) (IntKind.i64.wrap (m0_2.getD (Int.toNat 1) (dflt K.u8))))).lo), .int .i64 ((valueC { addr := (t0.getD t8.toNat (dflt K.sensor)).addr, kind := (t0.getD t8.toNat (dflt K.sensor)).kind, target := (t0.getD t8.toNat (dflt K.sensor)).target, offset := (t0.getD t8.toNat (dflt K.sensor)).offset, scale := (t0.getD t8.toNat (dflt K.sensor)).scale, error := (t0.getD t8.toNat (dflt K.sensor)).error, drift := (t0.getD t8.toNat (dflt K.sensor)).drift, life := (t0.getD t8.toNat (dflt K.sensor)).life : Sensor } (bits BinOp.or IntKind.i64 (IntKind.i64.wrap (IntKind.i64.wrap (m0_2.getD (Int.toNat 0) (dflt K.u8)) * 256)) (IntKind.i64.wrap (m0_2.getD (Int.toNat 1) (dflt K.u8))))).hi)]), (false, [.int .i64 0])], [])
                            else none
                          else none
                        else none
                      else some (.tup [(true, [.int .i64 t8, .int .i64 t2, .int .i64 (-1125899906842624), .int .i64 1125899906842624]), (false, [.int .i64 0])], [])
                  else if (m0_1 == 1) = true then if (idx t0.length t8) = true then if (idx m0_2.length 0) = true then if (idx m0_2.length 1) = true then some (.tup [(true, [.int .i64 t8, .int .i64 t2, .int .i64 ((valueC { addr := (t0.getD t8.toNat (dflt K.sensor)).addr, kind := (t0.getD t8.toNat (dflt K.sensor)).kind, target := (t0.getD t8.toNat (dflt K.sensor)).target, offset := (t0.getD t8.toNat (dflt K.sensor)).offset, scale := (t0.getD t8.toNat (dflt K.sensor)).scale, error := (t0.getD t8.toNat (dflt K.sensor)).error, drift := (t0.getD t8.toNat (dflt K.sensor)).drift, life := (t0.getD t8.toNat (dflt K.sensor)).life : Sensor } (bits BinOp.or IntKind.i64 (IntKind.i64.wrap (IntKind.i64.wrap (m0_2.getD (Int.toNat 0) (dflt K.u8)) * 256)) (IntKind.i64.wrap (m0_2.getD (Int.toNat 1) (dflt K.u8))))).lo), .int .i64 ((valueC { addr := (t0.getD t8.toNat (dflt K.sensor)).addr, kind := (t0.getD t8.toNat (dflt K.sensor)).kind, target := (t0.getD t8.toNat (dflt K.sensor)).target, offset := (t0.getD t8.toNat (dflt K.sensor)).offset, scale := (t0.getD t8.toNat (dflt K.sensor)).scale, error := (t0.getD t8.toNat (dflt K.sensor)).error, drift := (t0.getD t8.toNat (dflt K.sensor)).drift, life := (t0.getD t8.toNat (dflt K.sensor)).life : Sensor } (bits BinOp.or IntKind.i64 (IntKind.i64.wrap (IntKind.i64.wrap (m0_2.getD (Int.toNat 0) (dflt K.u8)) * 256)) (IntKind.i64.wrap (m0_2.getD (Int.toNat 1) (dflt K.u8))))).hi)]), (false, [.int .i64 0])], [])
                          else none
                        else none
                      else none
                    else some (.tup [(true, [.int .i64 t8, .int .i64 t2, .int .i64 (-1125899906842624), .int .i64 1125899906842624]), (false, [.int .i64 0])], [])
            else if (m0_1 == 1) = true then if ((↑m0_2.length : Int) != 2) = true then some (.tup [(true, [.int .i64 0, .int .i64 0, .int .i64 0, .int .i64 0]), (false, [.int .i64 6])], [])
                else if (m0_1 == 2) = true then if ((↑m0_2.length : Int) != 0) = true then some (.tup [(true, [.int .i64 0, .int .i64 0, .int .i64 0, .int .i64 0]), (false, [.int .i64 6])], [])
                    else if (m0_1 == 1) = true then if (idx t0.length t8) = true then if (idx m0_2.length 0) = true then if (idx m0_2.length 1) = true then some (.tup [(true, [.int .i64 t8, .int .i64 t2, .int .i64 ((valueC { addr := (t0.getD t8.toNat (dflt K.sensor)).addr, kind := (t0.getD t8.toNat (dflt K.sensor)).kind, target := (t0.getD t8.toNat (dflt K.sensor)).target, offset := (t0.getD t8.toNat (dflt K.sensor)).offset, scale := (t0.getD t8.toNat (dflt K.sensor)).scale, error := (t0.getD t8.toNat (dflt K.sensor)).error, drift := (t0.getD t8.toNat (dflt K.sensor)).drift, life := (t0.getD t8.toNat (dflt K.sensor)).life : Sensor } (bits BinOp.or IntKind.i64 (IntKind.i64.wrap (IntKind.i64.wrap (m0_2.getD (Int.toNat 0) (dflt K.u8)) * 256)) (IntKind.i64.wrap (m0_2.getD (Int.toNat 1) (dflt K.u8))))).lo), .int .i64 ((valueC { addr := (t0.getD t8.toNat (dflt K.sensor)).addr, kind := (t0.getD t8.toNat (dflt K.sensor)).kind, target := (t0.getD t8.toNat (dflt K.sensor)).target, offset := (t0.getD t8.toNat (dflt K.sensor)).offset, scale := (t0.getD t8.toNat (dflt K.sensor)).scale, error := (t0.getD t8.toNat (dflt K.sensor)).error, drift := (t0.getD t8.toNat (dflt K.sensor)).drift, life := (t0.getD t8.toNat (dflt K.sensor)).life : Sensor } (bits BinOp.or IntKind.i64 (IntKind.i64.wrap (IntKind.i64.wrap (m0_2.getD (Int.toNat 0) (dflt K.u8)) * 256)) (IntKind.i64.wrap (m0_2.getD (Int.toNat 1) (dflt K.u8))))).hi)]), (false, [.int .i64 0])], [])
                            else none
                          else none
                        else none
                      else some (.tup [(true, [.int .i64 t8, .int .i64 t2, .int .i64 (-1125899906842624), .int .i64 1125899906842624]), (false, [.int .i64 0])], [])
                  else if (m0_1 == 1) = true then if (idx t0.length t8) = true then if (idx m0_2.length 0) = true then if (idx m0_2.length 1) = true then some (.tup [(true, [.int .i64 t8, .int .i64 t2, .int .i64 ((valueC { addr := (t0.getD t8.toNat (dflt K.sensor)).addr, kind := (t0.getD t8.toNat (dflt K.sensor)).kind, target := (t0.getD t8.toNat (dflt K.sensor)).target, offset := (t0.getD t8.toNat (dflt K.sensor)).offset, scale := (t0.getD t8.toNat (dflt K.sensor)).scale, error := (t0.getD t8.toNat (dflt K.sensor)).error, drift := (t0.getD t8.toNat (dflt K.sensor)).drift, life := (t0.getD t8.toNat (dflt K.sensor)).life : Sensor } (bits BinOp.or IntKind.i64 (IntKind.i64.wrap (IntKind.i64.wrap (m0_2.getD (Int.toNat 0) (dflt K.u8)) * 256)) (IntKind.i64.wrap (m0_2.getD (Int.toNat 1) (dflt K.u8))))).lo), .int .i64 ((valueC { addr := (t0.getD t8.toNat (dflt K.sensor)).addr, kind := (t0.getD t8.toNat (dflt K.sensor)).kind, target := (t0.getD t8.toNat (dflt K.sensor)).target, offset := (t0.getD t8.toNat (dflt K.sensor)).offset, scale := (t0.getD t8.toNat (dflt K.sensor)).scale, error := (t0.getD t8.toNat (dflt K.sensor)).error, drift := (t0.getD t8.toNat (dflt K.sensor)).drift, life := (t0.getD t8.toNat (dflt K.sensor)).life : Sensor } (bits BinOp.or IntKind.i64 (IntKind.i64.wrap (IntKind.i64.wrap (m0_2.getD (Int.toNat 0) (dflt K.u8)) * 256)) (IntKind.i64.wrap (m0_2.getD (Int.toNat 1) (dflt K.u8))))).hi)]), (false, [.int .i64 0])], [])
                          else none
                        else none
                      else none
                    else some (.tup [(true, [.int .i64 t8, .int .i64 t2, .int .i64 (-1125899906842624), .int .i64 1125899906842624]), (false, [.int .i64 0])], [])
              else if (m0_1 == 2) = true then if ((↑m0_2.length : Int) != 0) = true then some (.tup [(true, [.int .i64 0, .int .i64 0, .int .i64 0, .int .i64 0]), (false, [.int .i64 6])], [])
                  else if (m0_1 == 1) = true then if (idx t0.length t8) = true then if (idx m0_2.length 0) = true then if (idx m0_2.length 1) = true then some (.tup [(true, [.int .i64 t8, .int .i64 t2, .int .i64 ((valueC { addr := (t0.getD t8.toNat (dflt K.sensor)).addr, kind := (t0.getD t8.toNat (dflt K.sensor)).kind, target := (t0.getD t8.toNat (dflt K.sensor)).target, offset := (t0.getD t8.toNat (dflt K.sensor)).offset, scale := (t0.getD t8.toNat (dflt K.sensor)).scale, error := (t0.getD t8.toNat (dflt K.sensor)).error, drift := (t0.getD t8.toNat (dflt K.sensor)).drift, life := (t0.getD t8.toNat (dflt K.sensor)).life : Sensor } (bits BinOp.or IntKind.i64 (IntKind.i64.wrap (IntKind.i64.wrap (m0_2.getD (Int.toNat 0) (dflt K.u8)) * 256)) (IntKind.i64.wrap (m0_2.getD (Int.toNat 1) (dflt K.u8))))).lo), .int .i64 ((valueC { addr := (t0.getD t8.toNat (dflt K.sensor)).addr, kind := (t0.getD t8.toNat (dflt K.sensor)).kind, target := (t0.getD t8.toNat (dflt K.sensor)).target, offset := (t0.getD t8.toNat (dflt K.sensor)).offset, scale := (t0.getD t8.toNat (dflt K.sensor)).scale, error := (t0.getD t8.toNat (dflt K.sensor)).error, drift := (t0.getD t8.toNat (dflt K.sensor)).drift, life := (t0.getD t8.toNat (dflt K.sensor)).life : Sensor } (bits BinOp.or IntKind.i64 (IntKind.i64.wrap (IntKind.i64.wrap (m0_2.getD (Int.toNat 0) (dflt K.u8)) * 256)) (IntKind.i64.wrap (m0_2.getD (Int.toNat 1) (dflt K.u8))))).hi)]), (false, [.int .i64 0])], [])
                          else none
                        else none
                      else none
                    else some (.tup [(true, [.int .i64 t8, .int .i64 t2, .int .i64 (-1125899906842624), .int .i64 1125899906842624]), (false, [.int .i64 0])], [])
                else if (m0_1 == 1) = true then if (idx t0.length t8) = true then if (idx m0_2.length 0) = true then if (idx m0_2.length 1) = true then some (.tup [(true, [.int .i64 t8, .int .i64 t2, .int .i64 ((valueC { addr := (t0.getD t8.toNat (dflt K.sensor)).addr, kind := (t0.getD t8.toNat (dflt K.sensor)).kind, target := (t0.getD t8.toNat (dflt K.sensor)).target, offset := (t0.getD t8.toNat (dflt K.sensor)).offset, scale := (t0.getD t8.toNat (dflt K.sensor)).scale, error := (t0.getD t8.toNat (dflt K.sensor)).error, drift := (t0.getD t8.toNat (dflt K.sensor)).drift, life := (t0.getD t8.toNat (dflt K.sensor)).life : Sensor } (bits BinOp.or IntKind.i64 (IntKind.i64.wrap (IntKind.i64.wrap (m0_2.getD (Int.toNat 0) (dflt K.u8)) * 256)) (IntKind.i64.wrap (m0_2.getD (Int.toNat 1) (dflt K.u8))))).lo), .int .i64 ((valueC { addr := (t0.getD t8.toNat (dflt K.sensor)).addr, kind := (t0.getD t8.toNat (dflt K.sensor)).kind, target := (t0.getD t8.toNat (dflt K.sensor)).target, offset := (t0.getD t8.toNat (dflt K.sensor)).offset, scale := (t0.getD t8.toNat (dflt K.sensor)).scale, error := (t0.getD t8.toNat (dflt K.sensor)).error, drift := (t0.getD t8.toNat (dflt K.sensor)).drift, life := (t0.getD t8.toNat (dflt K.sensor)).life : Sensor } (bits BinOp.or IntKind.i64 (IntKind.i64.wrap (IntKind.i64.wrap (m0_2.getD (Int.toNat 0) (dflt K.u8)) * 256)) (IntKind.i64.wrap (m0_2.getD (Int.toNat 1) (dflt K.u8))))).hi)]), (false, [.int .i64 0])], [])
                        else none
                      else none
                    else none
                  else some (.tup [(true, [.int .i64 t8, .int .i64 t2, .int .i64 (-1125899906842624), .int .i64 1125899906842624]), (false, [.int .i64 0])], [])
        else none := by kernel_rfl
def s50 : Spec := ⟨false, fun av ob => match av, ob with
  | [.one (.vec b1 .sensor l), .agg [.int .i64 a, .int .i64 k, .vec b2 .u8 dat], .one (.int .i64 t)], [] => .need (decide (l.length ≤ 1000000)) (.ret (.tup [(true, [.int .i64 (decT l a k dat t).1.sensor, .int .i64 (decT l a k dat t).1.time, .int .i64 (decT l a k dat t).1.lo, .int .i64 (decT l a k dat t).1.hi]), (false, [.int .i64 (decT l a k dat t).2])], []))
  | _, _ => .fail⟩
theorem v50_0 (b1 b2 : Bool) (l : List Sensor) (a k : Int) (dat : List Int) (t : Int) (hl : l.length ≤ 1000000) : ∀ (i fl : Nat) (ix : Int), i ≤ l.length → i < fl → ix < l.length →
    h50_0 fl b1 l t ix ((i : Int) - 1) a k b2 dat 0 0 0 0 = some (.tup [(true, [.int .i64 (decEnd l k dat t (goAt l a i ix)).1.sensor, .int .i64 (decEnd l k dat t (goAt l a i ix)).1.time, .int .i64 (decEnd l k dat t (goAt l a i ix)).1.lo, .int .i64 (decEnd l k dat t (goAt l a i ix)).1.hi]), (false, [.int .i64 (decEnd l k dat t (goAt l a i ix)).2])], [])
  | 0, fl, ix, hi, hf, hx => by
    obtain ⟨fl, rfl⟩ : ∃ q, fl = q + 1 := ⟨fl - 1, by omega⟩
    rw [h50_0_eq, if_neg (by simp)]
    unfold goAt decEnd
    by_cases c0 : ix < 0
    · simp [c0]
    have i0 : idx l.length ix = true := idx_of (by omega) hx
    simp only [c0, i0, if_true, if_false, decide_eq_true_eq]
    show (if (checkS (sensAt l ix) != 0) = true then _ else _) = _
    by_cases c1 : checkS (sensAt l ix) = 0
    · have hv : ∀ n, valueC (sensAt l ix) n = valT (sensAt l ix) n := fun n => by
        unfold valueC
        rw [if_neg (by simp [c1])]
      simp only [c1, bne_self_eq_false, Bool.false_eq_true, ne_eq, not_true_eq_false, if_false]
      by_cases k1 : k = 1
      · subst k1
        by_cases d2 : (dat.length : Int) = 2
        · have j0 : idx dat.length 0 = true := idx_of (by omega) (by omega)
          have j1 : idx dat.length 1 = true := idx_of (by omega) (by omega)
          have n1 : ((1 : Int) != 1) = false := rfl
          have n2 : ((1 : Int) == 2) = false := rfl
          simp only [d2, j0, j1, n1, n2, beq_self_eq_true, bne_self_eq_false, Bool.false_eq_true, not_true_eq_false, if_true, if_false]
          show some (AV.tup [(true, [_, _, Sc.int .i64 (valueC (sensAt l ix) (rawOf dat)).lo, Sc.int .i64 (valueC (sensAt l ix) (rawOf dat)).hi]), _], _) = _
          rw [hv]
        · have d2' : ((dat.length : Int) != 2) = true := by simpa using d2
          simp [d2', d2]
      · have k1' : (k != 1) = true := by simpa using k1
        have k1'' : (k == 1) = false := by simpa using k1
        by_cases k2 : k = 2
        · subst k2
          by_cases d0 : (dat.length : Int) = 0
          · simp [d0]
          · have d0' : ((dat.length : Int) != 0) = true := by simpa using d0
            have d0n : dat ≠ [] := fun e0 => d0 (by rw [e0]; rfl)
            simp [d0', d0, d0n]
        · simp [k1, k2, k1', k1'']
    · have c1' : (checkS (sensAt l ix) != 0) = true := by simpa using c1
      simp [c1', c1]
  | i + 1, fl, ix, hi, hf, hx => by
    obtain ⟨fl, rfl⟩ : ∃ q, fl = q + 1 := ⟨fl - 1, by omega⟩
    have e1 : ((i + 1 : Nat) : Int) - 1 = (i : Int) := by omega
    have e2 : IntKind.i64.wrap ((i : Int) - 1) = (i : Int) - 1 := wid (by omega) (by omega)
    rw [e1, h50_0_eq, if_pos (show decide ((i : Int) ≥ 0) = true by simp), if_pos (idx_nat (by omega)), e2, goAt]
    show (if ((sensAt l (i : Int)).addr == a) = true then _ else _) = _
    by_cases c : ((sensAt l (i : Int)).addr == a) = true
    · rw [if_pos c, if_pos c]
      exact v50_0 b1 b2 l a k dat t hl i fl i (by omega) (by omega) (by omega)
    · rw [if_neg c, if_neg c]
      exact v50_0 b1 b2 l a k dat t hl i fl ix (by omega) (by omega) hx
theorem v50 (b1 b2 : Bool) (l : List Sensor) (a k : Int) (dat : List Int) (t : Int) (hl : decide (l.length ≤ 1000000) = true) : h50 (l.length + 2) b1 b2 l a k dat t = some (.tup [(true, [.int .i64 (decT l a k dat t).1.sensor, .int .i64 (decT l a k dat t).1.time, .int .i64 (decT l a k dat t).1.lo, .int .i64 (decT l a k dat t).1.hi]), (false, [.int .i64 (decT l a k dat t).2])], []) := by
  have hl := of_decide_eq_true hl
  rw [h50_eq]
  unfold decT
  by_cases c1 : 0 ≤ t ∧ t ≤ 2147483648
  · have e1 : IntKind.i64.wrap ((l.length : Int) - 1) = (l.length : Int) - 1 := wid (by omega) (by omega)
    rw [if_neg (by simp; omega), if_neg (by omega), e1]
    exact v50_0 b1 b2 l a k dat t hl l.length (l.length + 1) (-1) (by omega) (by omega) (by omega)
  · rw [if_pos (by simp; omega), if_pos (by omega)]
theorem p50 : SpecOK Try.prog 50 s50 := by
  refine specOK_of (env_ok (l := l50) ⟨⟨p89, f89⟩, ⟨⟨p39, f39⟩, ⟨⟨p35, f35⟩, ⟨⟨p42, f42⟩, trivial⟩⟩⟩⟩) mixed_ok Try.func50 k50 fun av ob r os hrn => ?_
  simp only [s50] at hrn
  split at hrn
  · rename_i b1 l a k b2 dat t
    obtain ⟨hg, hrn⟩ := need_den hrn
    cases hrn
    have hv := v50 b1 b2 l a k dat t hg
    unfold h50 at hv
    exact ⟨l.length + 2, hv⟩
  · cases hrn
theorem f50 : FnOK Try.prog 50 := fnOK_of Try.func50 rfl (by kernel_rfl)
end Go.Proofs.Ytipfipnhgpbceaa.Sx
