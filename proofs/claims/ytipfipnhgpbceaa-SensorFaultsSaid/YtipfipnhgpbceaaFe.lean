/- The last time at which a value is surely less (plain theorems). -/
import Derived.Test.YtipfipnhgpbceaaFd
set_option linter.unusedVariables false
set_option linter.unusedSimpArgs false
set_option maxRecDepth 100000
namespace Go.Proofs.Ytipfipnhgpbceaa.Sx
open Go Go.RowKit
/-- A search by halves. -/
def bs (f : Int → Bool) : Nat → Int → Int → Int
  | 0, lo, _ => lo
  | n + 1, lo, hi => if lo < hi then (if f (lo + (hi - lo + 1).tdiv 2) then bs f n (lo + (hi - lo + 1).tdiv 2) hi else bs f n lo (lo + (hi - lo + 1).tdiv 2 - 1)) else lo
def lessAt (s : Sensor) (m : Measure) (v t : Int) : Bool := above (atI s m t) v == -1
def untilI (s : Sensor) (m : Measure) (v : Int) : Int := if above (atI s m m.time) v != -1 then -1 else bs (lessAt s m v) 42 m.time (m.time + s.life)
def untilOk (s : Sensor) (m : Measure) : Bool := decide (0 ≤ m.time) && (decide (m.time ≤ 1099511627776) && (decide (0 ≤ s.life) && decide (s.life ≤ 1099511627776)))
def l34 : List (FuncId × Spec) := [(36, s36), (28, s28)]
def k34 : Code → Keep := keepOf [(4, ⟨[2, 3, 4, 7, 8], [], []⟩)]
noncomputable def h34_0 (fl : Nat) (t2 : Int) (t7 : Int) (t8 : Int) (m0_0 : Int) (m0_1 : Int) (m0_2 : Int) (m0_3 : Int) (m0_4 : Int) (m0_5 : Int) (m0_6 : Int) (m0_7 : Int) (m1_0 : Int) (m1_1 : Int) (m1_2 : Int) (m1_3 : Int) : Option (AV × List Ob) := (evalH (env l34) Try.f34 k34 0 fl (stkF Try.f34 [1, 1, 1, 0, 0]) ⟨[.one (.undef), .one (.undef), .one (.int .i64 t2), .one (.ptr 0 0), .one (.ptr 1 0), .one (.undef), .one (.undef), .one (.int .i64 t7), .one (.int .i64 t8), .one (.undef), .one (.undef), .one (.undef), .one (.undef), .one (.undef), .one (.undef), .one (.undef), .one (.undef), .one (.undef), .one (.undef), .one (.undef), .one (.undef), .one (.undef), .one (.undef), .one (.undef), .one (.undef), .one (.undef), .one (.undef), .one (.undef), .one (.undef), .one (.undef), .one (.undef), .one (.undef), .one (.undef), .one (.undef), .one (.undef), .one (.undef), .one (.undef), .one (.undef), .one (.undef), .one (.undef), .one (.undef), .one (.undef), .one (.undef), .one (.undef), .one (.undef), .one (.undef)], [((0, 0), some (.cell (.int .i64 m0_0))), ((0, 1), some (.cell (.int .i64 m0_1))), ((0, 2), some (.cell (.int .i64 m0_2))), ((0, 3), some (.cell (.int .i64 m0_3))), ((0, 4), some (.cell (.int .i64 m0_4))), ((0, 5), some (.cell (.int .i64 m0_5))), ((0, 6), some (.cell (.int .i64 m0_6))), ((0, 7), some (.cell (.int .i64 m0_7))), ((1, 0), some (.cell (.int .i64 m1_0))), ((1, 1), some (.cell (.int .i64 m1_1))), ((1, 2), some (.cell (.int .i64 m1_2))), ((1, 3), some (.cell (.int .i64 m1_3)))], 2⟩).den
noncomputable def h34 (fl : Nat) (a b c d e f g h s m lo hi v : Int) : Option (AV × List Ob) := (evalF (env l34) Try.f34 k34 fl [.agg [.int .i64 a, .int .i64 b, .int .i64 c, .int .i64 d, .int .i64 e, .int .i64 f, .int .i64 g, .int .i64 h], .agg [.int .i64 s, .int .i64 m, .int .i64 lo, .int .i64 hi], .one (.int .i64 v)] []).den
theorem h34_eq (fl : Nat) (a b c d e f g h s m lo hi v : Int) : h34 (fl + 1) a b c d e f g h s m lo hi v =
    if (above { lo := (atI { addr := a, kind := b, target := c, offset := d, scale := e, error := f, drift := g, life := h } { sensor := s, time := m, lo := lo, hi := hi } m).lo, hi := (atI { addr := a, kind := b, target := c, offset := d, scale := e, error := f, drift := g, life := h } { sensor := s, time := m, lo := lo, hi := hi } m).hi } v != -1) = true then some (.one (.int .i64 (-1)), [])
    else h34_0 fl v m (IntKind.i64.wrap (m + h)) a b c d e f g h s m lo hi := by kernel_rfl
theorem h34_0_eq (fl : Nat) (t2 : Int) (t7 : Int) (t8 : Int) (m0_0 : Int) (m0_1 : Int) (m0_2 : Int) (m0_3 : Int) (m0_4 : Int) (m0_5 : Int) (m0_6 : Int) (m0_7 : Int) (m1_0 : Int) (m1_1 : Int) (m1_2 : Int) (m1_3 : Int) : h34_0 (fl + 1) t2 t7 t8 m0_0 m0_1 m0_2 m0_3 m0_4 m0_5 m0_6 m0_7 m1_0 m1_1 m1_2 m1_3 =
    if (decide (t7 < t8)) = true then if (above { lo := (atI { addr := m0_0, kind := m0_1, target := m0_2, offset := m0_3, scale := m0_4, error := m0_5, drift := m0_6, life := m0_7 } { sensor := m1_0, time := m1_1, lo := m1_2, hi := m1_3 } (IntKind.i64.wrap (t7 + IntKind.i64.wrap ((IntKind.i64.wrap (IntKind.i64.wrap (t8 - t7) + 1)).tdiv 2)))).lo, hi := (atI { addr := m0_0, kind := m0_1, target := m0_2, offset := m0_3, scale := m0_4, error := m0_5, drift := m0_6, life := m0_7 } { sensor := m1_0, time := m1_1, lo := m1_2, hi := m1_3 } (IntKind.i64.wrap (t7 + IntKind.i64.wrap ((IntKind.i64.wrap (IntKind.i64.wrap (t8 - t7) + 1)).tdiv 2)))).hi } t2 == -1) = true then h34_0 fl t2 (IntKind.i64.wrap (t7 + IntKind.i64.wrap ((IntKind.i64.wrap (IntKind.i64.wrap (t8 - t7) + 1)).tdiv 2))) t8 m0_0 m0_1 m0_2 m0_3 m0_4 m0_5 m0_6 m0_7 m1_0 m1_1 m1_2 m1_3
      else h34_0 fl t2 t7 (IntKind.i64.wrap (IntKind.i64.wrap (t7 + IntKind.i64.wrap ((IntKind.i64.wrap (IntKind.i64.wrap (t8 - t7) + 1)).tdiv 2)) - 1)) m0_0 m0_1 m0_2 m0_3 m0_4 m0_5 m0_6 m0_7 m1_0 m1_1 m1_2 m1_3
    else some (.one (.int .i64 t7), []) := by kernel_rfl
def s34 : Spec := ⟨false, fun av ob => match av, ob with
  | [.agg [.int .i64 a, .int .i64 b, .int .i64 c, .int .i64 d, .int .i64 e, .int .i64 f, .int .i64 g, .int .i64 h], .agg [.int .i64 s, .int .i64 m, .int .i64 lo, .int .i64 hi], .one (.int .i64 v)], [] => .need (untilOk ⟨a, b, c, d, e, f, g, h⟩ ⟨s, m, lo, hi⟩) (.ret (.one (.int .i64 (untilI ⟨a, b, c, d, e, f, g, h⟩ ⟨s, m, lo, hi⟩ v)), []))
  | _, _ => .fail⟩
theorem v34_0 (a b c d e f g h s m lo hi v : Int) : ∀ (n : Nat) (x y : Int), 0 ≤ x → y ≤ 4398046511104 → x ≤ y + 1 → y - x < 2 ^ n →
    h34_0 (n + 1) v x y a b c d e f g h s m lo hi = some (.one (.int .i64 (bs (lessAt ⟨a, b, c, d, e, f, g, h⟩ ⟨s, m, lo, hi⟩ v) n x y)), [])
  | n, x, y, h0, h1, hxy, hn => by
    rw [h34_0_eq]
    by_cases hc : x < y
    · cases n with
      | zero => exfalso; simp at hn; omega
      | succ n =>
        have e1 : IntKind.i64.wrap (y - x) = y - x := wid (by omega) (by omega)
        have e2 : IntKind.i64.wrap (y - x + 1) = y - x + 1 := wid (by omega) (by omega)
        have e0 : (y - x + 1).tdiv 2 = (y - x + 1) / 2 := Int.tdiv_eq_ediv_of_nonneg (by omega)
        have e3 : IntKind.i64.wrap ((y - x + 1).tdiv 2) = (y - x + 1).tdiv 2 := by rw [e0]; exact wid (by omega) (by omega)
        have e4 : IntKind.i64.wrap (x + (y - x + 1).tdiv 2) = x + (y - x + 1).tdiv 2 := by rw [e0]; exact wid (by omega) (by omega)
        have e5 : IntKind.i64.wrap (x + (y - x + 1).tdiv 2 - 1) = x + (y - x + 1).tdiv 2 - 1 := by rw [e0]; exact wid (by omega) (by omega)
        have hp : (2 : Int) ^ (n + 1) = 2 * 2 ^ n := by rw [Int.pow_succ]; omega
        have hc' : decide (x < y) = true := by simpa using hc
        simp only [hc', e1, e2, e3, e4, e5, if_true]
        rw [bs, if_pos hc]
        unfold lessAt
        by_cases hf : (above (atI ⟨a, b, c, d, e, f, g, h⟩ ⟨s, m, lo, hi⟩ (x + (y - x + 1).tdiv 2)) v == -1) = true
        · rw [if_pos hf, if_pos hf]
          exact v34_0 a b c d e f g h s m lo hi v n _ _ (by rw [e0]; omega) h1 (by rw [e0]; omega) (by rw [e0]; omega)
        · rw [if_neg hf, if_neg hf]
          exact v34_0 a b c d e f g h s m lo hi v n _ _ h0 (by rw [e0]; omega) (by rw [e0]; omega) (by rw [e0]; omega)
    · have hc' : ¬ decide (x < y) = true := by simpa using hc
      rw [if_neg hc']
      cases n with
      | zero => rfl
      | succ n => rw [bs, if_neg hc]
theorem v34 (a b c d e f g h s m lo hi v : Int) (hg : untilOk ⟨a, b, c, d, e, f, g, h⟩ ⟨s, m, lo, hi⟩ = true) : h34 44 a b c d e f g h s m lo hi v = some (.one (.int .i64 (untilI ⟨a, b, c, d, e, f, g, h⟩ ⟨s, m, lo, hi⟩ v)), []) := by
  simp only [untilOk, Bool.and_eq_true, decide_eq_true_eq] at hg
  obtain ⟨g1, g2, g3, g4⟩ := hg
  rw [h34_eq]
  unfold untilI
  split
  · rfl
  · have e1 : IntKind.i64.wrap (m + h) = m + h := wid (by omega) (by omega)
    rw [e1]
    exact v34_0 a b c d e f g h s m lo hi v 42 _ _ g1 (by omega) (by omega) (by have : (2 : Int) ^ 42 = 4398046511104 := rfl; omega)
theorem p34 : SpecOK Try.prog 34 s34 := by
  refine specOK_of (env_ok (l := l34) ⟨⟨p36, f36⟩, ⟨⟨p28, f28⟩, trivial⟩⟩) mixed_ok Try.func34 k34 fun av ob r os hrn => ?_
  simp only [s34] at hrn
  split at hrn
  · rename_i a b c d e f g h s m lo hi v
    obtain ⟨hg, hrn⟩ := need_den hrn
    cases hrn
    have hv := v34 a b c d e f g h s m lo hi v hg
    unfold h34 at hv
    exact ⟨44, hv⟩
  · cases hrn
theorem f34 : FnOK Try.prog 34 := fnOK_of Try.func34 rfl (by kernel_rfl)
end Go.Proofs.Ytipfipnhgpbceaa.Sx
