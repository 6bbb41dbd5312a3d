/- What raw numbers say, by both texts; the least raw number for a value (plain theorems). -/
import Derived.Test.YtipfipnhgpbceaaSa
set_option linter.unusedVariables false
set_option linter.unusedSimpArgs false
set_option maxRecDepth 100000
namespace Go.Proofs.Ytipfipnhgpbceaa.Sx
open Go Go.RowKit
theorem flo_eq {y : Int} (h0 : -4611686018427387904 ≤ y) (h1 : y ≤ 4611686018427387904) : flo y 1000 = y / 1000 := by
  unfold flo
  by_cases hy : 0 ≤ y
  · rw [Int.tmod_eq_emod_of_nonneg hy, Int.tdiv_eq_ediv_of_nonneg hy, if_neg (by omega)]
    exact wid (by omega) (by omega)
  · obtain ⟨z, rfl⟩ : ∃ z, y = -z := ⟨-y, by omega⟩
    rw [Int.neg_tmod, Int.neg_tdiv, Int.tmod_eq_emod_of_nonneg (by omega), Int.tdiv_eq_ediv_of_nonneg (by omega)]
    have q1 : wr64 (-(z / 1000)) = -(z / 1000) := wid (by omega) (by omega)
    rw [q1]
    split
    · rw [wr64, wid (by omega) (by omega)]; omega
    · omega
theorem scaled {s : Sensor} {n : Int} (h : checkS s = 0) (hn : 0 ≤ n ∧ n ≤ 65535) : -65535000000 ≤ s.scale * n ∧ s.scale * n ≤ 65535000000 := by
  have hc := checkS_drift h
  have h1 := Int.mul_le_mul_of_nonneg_right hc.2.2.2.2.1.2 hn.1
  have h2 := Int.mul_le_mul_of_nonneg_right hc.2.2.2.2.1.1 hn.1
  omega
theorem valSpan_eq {s : Sensor} {n : Int} (h : checkS s = 0) (hn : 0 ≤ n ∧ n ≤ 65535) : valSpan s n = ⟨s.offset + s.scale * n / 1000 - s.error, s.offset - (-(s.scale * n)) / 1000 + s.error⟩ := by
  have hc := checkS_drift h
  have hx := scaled h hn
  unfold valSpan
  generalize s.scale * n = x at *
  have e1 : wr64 x = x := wid (by omega) (by omega)
  have e2 : wr64 (0 - x) = -x := by rw [wr64, wid (by omega) (by omega)]; omega
  rw [e1, e2, flo_eq (by omega) (by omega), flo_eq (by omega) (by omega)]
  have e3 : wr64 (s.offset + x / 1000) = s.offset + x / 1000 := wid (by omega) (by omega)
  have e4 : wr64 (s.offset + x / 1000 - s.error) = s.offset + x / 1000 - s.error := wid (by omega) (by omega)
  have e5 : wr64 (s.offset - -x / 1000) = s.offset - -x / 1000 := wid (by omega) (by omega)
  have e6 : wr64 (s.offset - -x / 1000 + s.error) = s.offset - -x / 1000 + s.error := wid (by omega) (by omega)
  rw [e3, e4, e5, e6]
def valueC (s : Sensor) (n : Int) : Span := if checkS s != 0 then nothing else valT s n
def l41 : List (FuncId × Spec) := [(38, s38), (54, s54), (90, s90)]
def k41 : Code → Keep := keepOf []
noncomputable def h41 (fl : Nat) (a b c d e f g h n : Int) : Option (AV × List Ob) := (evalF (env l41) Try.f41 k41 fl [.agg [.int .i64 a, .int .i64 b, .int .i64 c, .int .i64 d, .int .i64 e, .int .i64 f, .int .i64 g, .int .i64 h], .one (.int .i64 n)] []).den
theorem h41_eq (fl : Nat) (a b c d e f g h n : Int) : h41 (fl + 1) a b c d e f g h n =
    if (checkS { addr := a, kind := b, target := c, offset := d, scale := e, error := f, drift := g, life := h : Sensor } != 0) = true then some (.agg [.int .i64 (-1125899906842624), .int .i64 1125899906842624], [])
    else some (.agg [.int .i64 ((valT { addr := a, kind := b, target := c, offset := d, scale := e, error := f, drift := g, life := h : Sensor } n).lo), .int .i64 ((valT { addr := a, kind := b, target := c, offset := d, scale := e, error := f, drift := g, life := h : Sensor } n).hi)], []) := by kernel_rfl
def s41 : Spec := ⟨false, fun av ob => match av, ob with
  | [.agg [.int .i64 a, .int .i64 b, .int .i64 c, .int .i64 d, .int .i64 e, .int .i64 f, .int .i64 g, .int .i64 h], .one (.int .i64 n)], [] => .ret (.agg [.int .i64 (valueC ⟨a, b, c, d, e, f, g, h⟩ n).lo, .int .i64 (valueC ⟨a, b, c, d, e, f, g, h⟩ n).hi], [])
  | _, _ => .fail⟩
theorem v41 (a b c d e f g h n : Int) : h41 1 a b c d e f g h n = some (.agg [.int .i64 (valueC ⟨a, b, c, d, e, f, g, h⟩ n).lo, .int .i64 (valueC ⟨a, b, c, d, e, f, g, h⟩ n).hi], []) := by
  rw [h41_eq]
  unfold valueC
  split <;> rfl
theorem p41 : SpecOK Try.prog 41 s41 := by
  refine specOK_of (env_ok (l := l41) ⟨⟨p38, f38⟩, ⟨⟨p54, f54⟩, ⟨⟨p90, f90⟩, trivial⟩⟩⟩) mixed_ok Try.func41 k41 fun av ob r os hrn => ?_
  simp only [s41] at hrn
  split at hrn
  · rename_i a b c d e f g h n
    cases hrn
    have hv := v41 a b c d e f g h n
    unfold h41 at hv
    exact ⟨1, hv⟩
  · cases hrn
theorem f41 : FnOK Try.prog 41 := fnOK_of Try.func41 rfl (by kernel_rfl)
def l42 : List (FuncId × Spec) := [(39, s39), (89, s89), (35, s35), (84, s84), (53, s53), (85, s85), (86, s86)]
def k42 : Code → Keep := keepOf []
noncomputable def h42 (fl : Nat) (a b c d e f g h n : Int) : Option (AV × List Ob) := (evalF (env l42) Try.f42 k42 fl [.agg [.int .i64 a, .int .i64 b, .int .i64 c, .int .i64 d, .int .i64 e, .int .i64 f, .int .i64 g, .int .i64 h], .one (.int .i64 n)] []).den
theorem h42_eq (fl : Nat) (a b c d e f g h n : Int) : h42 (fl + 1) a b c d e f g h n =
    if (checkS { addr := a, kind := b, target := c, offset := d, scale := e, error := f, drift := g, life := h : Sensor } != 0) = true then some (.agg [.int .i64 (-1125899906842624), .int .i64 1125899906842624], [])
    else if (!(decide (0 ≤ n) && decide (n ≤ 65535))) = true then some (.agg [.int .i64 (-1125899906842624), .int .i64 1125899906842624], [])
      else if (decide (b ≥ 4)) = true then if (b == 5) = true then if (b == 6) = true then if (decide (n > 5)) = true then some (.agg [.int .i64 (-1125899906842624), .int .i64 1125899906842624], [])
              else some (.agg [.int .i64 n, .int .i64 n], [])
            else if (decide (n > 2)) = true then some (.agg [.int .i64 (-1125899906842624), .int .i64 1125899906842624], [])
              else some (.agg [.int .i64 n, .int .i64 n], [])
          else if (b == 6) = true then if (decide (n > 5)) = true then some (.agg [.int .i64 (-1125899906842624), .int .i64 1125899906842624], [])
              else some (.agg [.int .i64 n, .int .i64 n], [])
            else if (decide (n > 1)) = true then some (.agg [.int .i64 (-1125899906842624), .int .i64 1125899906842624], [])
              else some (.agg [.int .i64 n, .int .i64 n], [])
        else if (b == 1 || b == 2) = true then some (.agg [.int .i64 (mx (IntKind.i64.wrap (IntKind.i64.wrap (d + flo (IntKind.i64.wrap (e * n)) 1000) - f)) 0), .int .i64 (mx (IntKind.i64.wrap (IntKind.i64.wrap (d + cei (IntKind.i64.wrap (e * n)) 1000) + f)) 0)], [])
          else some (.agg [.int .i64 (IntKind.i64.wrap (IntKind.i64.wrap (d + flo (IntKind.i64.wrap (e * n)) 1000) - f)), .int .i64 (IntKind.i64.wrap (IntKind.i64.wrap (d + cei (IntKind.i64.wrap (e * n)) 1000) + f))], []) := by kernel_rfl
def s42 : Spec := ⟨false, fun av ob => match av, ob with
  | [.agg [.int .i64 a, .int .i64 b, .int .i64 c, .int .i64 d, .int .i64 e, .int .i64 f, .int .i64 g, .int .i64 h], .one (.int .i64 n)], [] => .ret (.agg [.int .i64 (valueC ⟨a, b, c, d, e, f, g, h⟩ n).lo, .int .i64 (valueC ⟨a, b, c, d, e, f, g, h⟩ n).hi], [])
  | _, _ => .fail⟩
theorem v42 (a b c d e f g h n : Int) : h42 1 a b c d e f g h n = some (.agg [.int .i64 (valueC ⟨a, b, c, d, e, f, g, h⟩ n).lo, .int .i64 (valueC ⟨a, b, c, d, e, f, g, h⟩ n).hi], []) := by
  rw [h42_eq]
  unfold valueC
  by_cases hc : checkS ⟨a, b, c, d, e, f, g, h⟩ = 0
  · have hc' : ¬ (checkS ⟨a, b, c, d, e, f, g, h⟩ != 0) = true := by simp [hc]
    rw [if_neg hc', if_neg hc']
    have hk := (checkS_drift hc).1
    dsimp only at hk
    by_cases hn : 0 ≤ n ∧ n ≤ 65535
    · rw [if_neg (by simp; omega)]
      unfold valT
      dsimp only
      rw [if_neg (by omega : ¬ (n < 0 ∨ n > 65535))]
      simp only [decide_eq_true_eq, beq_iff_eq, Bool.or_eq_true]
      by_cases c4 : b = 4
      · subst c4
        by_cases k : n > 1 <;> simp [k]
      by_cases c5 : b = 5
      · subst c5
        by_cases k : n > 2 <;> simp [k]
      by_cases c6 : b = 6
      · subst c6
        by_cases k : n > 5 <;> simp [k]
      rw [if_neg (by omega : ¬ b ≥ 4), if_neg c4, if_neg c5, if_neg c6, valSpan_eq hc hn]
      have hx := scaled hc hn
      have hcc := checkS_drift hc
      dsimp only at hx hcc ⊢
      have e1 : IntKind.i64.wrap (e * n) = e * n := wid (by omega) (by omega)
      rw [e1]
      generalize e * n = x at *
      have e2 : wr64 (0 - x) = -x := by rw [wr64, wid (by omega) (by omega)]; omega
      have e0 : cei x 1000 = -(-x / 1000) := by
        unfold cei
        rw [e2, flo_eq (by omega) (by omega), wr64, wid (by omega) (by omega)]; omega
      rw [e0, flo_eq (by omega) (by omega)]
      have e3 : IntKind.i64.wrap (d + x / 1000) = d + x / 1000 := wid (by omega) (by omega)
      have e4 : IntKind.i64.wrap (d + x / 1000 - f) = d + x / 1000 - f := wid (by omega) (by omega)
      have e5 : IntKind.i64.wrap (d + -(-x / 1000)) = d - -x / 1000 := by rw [wid (by omega) (by omega)]; omega
      have e6 : IntKind.i64.wrap (d - -x / 1000 + f) = d - -x / 1000 + f := wid (by omega) (by omega)
      rw [e3, e4, e5, e6]
      split <;> rfl
    · rw [if_pos (by simp; omega)]
      unfold valT
      rw [if_pos (by omega : n < 0 ∨ n > 65535)]
  · have hc' : (checkS ⟨a, b, c, d, e, f, g, h⟩ != 0) = true := by simp [hc]
    rw [if_pos hc', if_pos hc']
theorem p42 : SpecOK Try.prog 42 s42 := by
  refine specOK_of (env_ok (l := l42) ⟨⟨p39, f39⟩, ⟨⟨p89, f89⟩, ⟨⟨p35, f35⟩, ⟨⟨p84, f84⟩, ⟨⟨p53, f53⟩, ⟨⟨p85, f85⟩, ⟨⟨p86, f86⟩, trivial⟩⟩⟩⟩⟩⟩⟩) mixed_ok Try.func42 k42 fun av ob r os hrn => ?_
  simp only [s42] at hrn
  split at hrn
  · rename_i a b c d e f g h n
    cases hrn
    have hv := v42 a b c d e f g h n
    unfold h42 at hv
    exact ⟨1, hv⟩
  · cases hrn
theorem f42 : FnOK Try.prog 42 := fnOK_of Try.func42 rfl (by kernel_rfl)

/-! ### The least raw number -/
def findR (f : Int → Bool) : Nat → Int → Option Int
  | 0, _ => none
  | k + 1, i => if f i = true then some i else findR f k (i + 1)
def hasRaw (s : Sensor) (v n : Int) : Bool := !((valT s n).lo == -1125899906842624 && (valT s n).hi == 1125899906842624) && (decide ((valT s n).lo ≤ v) && decide (v ≤ (valT s n).hi))
def rawO (s : Sensor) (v : Int) : Option Int := if checkS s != 0 then none else findR (hasRaw s v) 65536 0
def rawN (o : Option Int) : Int := match o with | some i => i | none => 0
def rawB (o : Option Int) : Bool := match o with | some _ => true | none => false
def l60 : List (FuncId × Spec) := [(38, s38), (90, s90), (54, s54)]
def k60 : Code → Keep := keepOf [(4, ⟨[1, 2, 6], [], []⟩)]
noncomputable def h60_0 (fl : Nat) (t1 : Int) (t6 : Int) (m0_0 : Int) (m0_1 : Int) (m0_2 : Int) (m0_3 : Int) (m0_4 : Int) (m0_5 : Int) (m0_6 : Int) (m0_7 : Int) : Option (AV × List Ob) := (evalH (env l60) Try.f60 k60 0 fl (stkF Try.f60 [1, 1, 0, 1, 0]) ⟨[.one (.undef), .one (.int .i64 t1), .one (.ptr 0 0), .one (.undef), .one (.undef), .one (.undef), .one (.int .i64 t6), .one (.undef), .one (.undef), .one (.undef), .one (.undef), .one (.undef), .one (.undef), .one (.undef), .one (.undef), .one (.undef), .one (.undef), .one (.undef), .one (.undef), .one (.undef), .one (.undef), .one (.undef), .one (.undef), .one (.undef), .one (.undef), .one (.undef), .one (.undef), .one (.undef), .one (.undef), .one (.undef), .one (.undef), .one (.undef), .one (.undef), .one (.undef)], [((0, 0), some (.cell (.int .i64 m0_0))), ((0, 1), some (.cell (.int .i64 m0_1))), ((0, 2), some (.cell (.int .i64 m0_2))), ((0, 3), some (.cell (.int .i64 m0_3))), ((0, 4), some (.cell (.int .i64 m0_4))), ((0, 5), some (.cell (.int .i64 m0_5))), ((0, 6), some (.cell (.int .i64 m0_6))), ((0, 7), some (.cell (.int .i64 m0_7)))], 1⟩).den
noncomputable def h60 (fl : Nat) (a b c d e f g h n : Int) : Option (AV × List Ob) := (evalF (env l60) Try.f60 k60 fl [.agg [.int .i64 a, .int .i64 b, .int .i64 c, .int .i64 d, .int .i64 e, .int .i64 f, .int .i64 g, .int .i64 h], .one (.int .i64 n)] []).den
theorem h60_eq (fl : Nat) (a b c d e f g h n : Int) : h60 (fl + 1) a b c d e f g h n =
    if (checkS { addr := a, kind := b, target := c, offset := d, scale := e, error := f, drift := g, life := h : Sensor } != 0) = true then some (.tup [(false, [.int .i64 0]), (false, [.bool false])], [])
    else h60_0 fl n 0 a b c d e f g h := by kernel_rfl
theorem h60_0_eq (fl : Nat) (t1 : Int) (t6 : Int) (m0_0 : Int) (m0_1 : Int) (m0_2 : Int) (m0_3 : Int) (m0_4 : Int) (m0_5 : Int) (m0_6 : Int) (m0_7 : Int) : h60_0 (fl + 1) t1 t6 m0_0 m0_1 m0_2 m0_3 m0_4 m0_5 m0_6 m0_7 =
    if (decide (t6 ≤ 65535)) = true then if (!((valT { addr := m0_0, kind := m0_1, target := m0_2, offset := m0_3, scale := m0_4, error := m0_5, drift := m0_6, life := m0_7 : Sensor } t6).lo == -1125899906842624 && (valT { addr := m0_0, kind := m0_1, target := m0_2, offset := m0_3, scale := m0_4, error := m0_5, drift := m0_6, life := m0_7 : Sensor } t6).hi == 1125899906842624)) = true then if (decide ((valT { addr := m0_0, kind := m0_1, target := m0_2, offset := m0_3, scale := m0_4, error := m0_5, drift := m0_6, life := m0_7 : Sensor } t6).lo ≤ t1)) = true then if (decide (t1 ≤ (valT { addr := m0_0, kind := m0_1, target := m0_2, offset := m0_3, scale := m0_4, error := m0_5, drift := m0_6, life := m0_7 : Sensor } t6).hi)) = true then some (.tup [(false, [.int .i64 t6]), (false, [.bool true])], [])
          else h60_0 fl t1 (IntKind.i64.wrap (t6 + 1)) m0_0 m0_1 m0_2 m0_3 m0_4 m0_5 m0_6 m0_7
        else h60_0 fl t1 (IntKind.i64.wrap (t6 + 1)) m0_0 m0_1 m0_2 m0_3 m0_4 m0_5 m0_6 m0_7
      else h60_0 fl t1 (IntKind.i64.wrap (t6 + 1)) m0_0 m0_1 m0_2 m0_3 m0_4 m0_5 m0_6 m0_7
    else some (.tup [(false, [.int .i64 0]), (false, [.bool false])], []) := by kernel_rfl
def s60 : Spec := ⟨false, fun av ob => match av, ob with
  | [.agg [.int .i64 a, .int .i64 b, .int .i64 c, .int .i64 d, .int .i64 e, .int .i64 f, .int .i64 g, .int .i64 h], .one (.int .i64 v)], [] => .ret (.tup [(false, [.int .i64 (rawN (rawO ⟨a, b, c, d, e, f, g, h⟩ v))]), (false, [.bool (rawB (rawO ⟨a, b, c, d, e, f, g, h⟩ v))])], [])
  | _, _ => .fail⟩
theorem v60_0 (a b c d e f g h v : Int) : ∀ (k : Nat) (i : Int), 0 ≤ i → i + k = 65536 → h60_0 (k + 1) v i a b c d e f g h = some (.tup [(false, [.int .i64 (rawN (findR (hasRaw ⟨a, b, c, d, e, f, g, h⟩ v) k i))]), (false, [.bool (rawB (findR (hasRaw ⟨a, b, c, d, e, f, g, h⟩ v) k i))])], [])
  | 0, i, h0, hk => by
    rw [h60_0_eq, if_neg (by simp; omega)]; rfl
  | k + 1, i, h0, hk => by
    have ih := v60_0 a b c d e f g h v k (i + 1) (by omega) (by omega)
    have e1 : IntKind.i64.wrap (i + 1) = i + 1 := wid (by omega) (by omega)
    rw [h60_0_eq, if_pos (show decide (i ≤ 65535) = true by simp only [decide_eq_true_eq]; omega), e1, ih, findR]
    unfold hasRaw
    cases k1 : ((valT ⟨a, b, c, d, e, f, g, h⟩ i).lo == -1125899906842624 && (valT ⟨a, b, c, d, e, f, g, h⟩ i).hi == 1125899906842624)
    · cases k2 : decide ((valT ⟨a, b, c, d, e, f, g, h⟩ i).lo ≤ v)
      · simp
      · cases k3 : decide (v ≤ (valT ⟨a, b, c, d, e, f, g, h⟩ i).hi) <;> simp [rawN, rawB]
    · simp
theorem v60 (a b c d e f g h v : Int) : h60 65538 a b c d e f g h v = some (.tup [(false, [.int .i64 (rawN (rawO ⟨a, b, c, d, e, f, g, h⟩ v))]), (false, [.bool (rawB (rawO ⟨a, b, c, d, e, f, g, h⟩ v))])], []) := by
  rw [h60_eq]
  unfold rawO
  split
  · rfl
  · exact v60_0 a b c d e f g h v 65536 0 (by omega) (by omega)
theorem p60 : SpecOK Try.prog 60 s60 := by
  refine specOK_of (env_ok (l := l60) ⟨⟨p38, f38⟩, ⟨⟨p90, f90⟩, ⟨⟨p54, f54⟩, trivial⟩⟩⟩) mixed_ok Try.func60 k60 fun av ob r os hrn => ?_
  simp only [s60] at hrn
  split at hrn
  · rename_i a b c d e f g h v
    cases hrn
    have hv := v60 a b c d e f g h v
    unfold h60 at hv
    exact ⟨65538, hv⟩
  · cases hrn
theorem f60 : FnOK Try.prog 60 := fnOK_of Try.func60 rfl (by kernel_rfl)
end Go.Proofs.Ytipfipnhgpbceaa.Sx
