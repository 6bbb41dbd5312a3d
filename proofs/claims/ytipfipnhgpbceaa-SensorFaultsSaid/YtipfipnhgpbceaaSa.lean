/- What raw numbers say (plain theorems). -/
import Derived.Test.YtipfipnhgpbceaaCa
set_option linter.unusedVariables false
set_option linter.unusedSimpArgs false
set_option maxRecDepth 100000
namespace Go.Proofs.Ytipfipnhgpbceaa.Sx
open Go Go.RowKit
def l113 : List (FuncId × Spec) := []
def k113 : Code → Keep := keepOf []
noncomputable def h113 (fl : Nat) (n : Int) : Option (AV × List Ob) := (evalF (env l113) Try.f113 k113 fl [.one (.int .i64 n)] []).den
theorem h113_eq (fl : Nat) (n : Int) : h113 (fl + 1) n =
    if (decide (n.tmod 1000 < 0)) = true then some (.one (.int .i64 (IntKind.i64.wrap (IntKind.i64.wrap (n.tdiv 1000) - 1))), [])
    else some (.one (.int .i64 (IntKind.i64.wrap (n.tdiv 1000))), []) := by kernel_rfl
def s113 : Spec := ⟨false, fun av ob => match av, ob with
  | [.one (.int .i64 n)], [] => .ret (.one (.int .i64 (flo n 1000)), [])
  | _, _ => .fail⟩
theorem v113 (n : Int) : h113 1 n = some (.one (.int .i64 (flo n 1000)), []) := by
  rw [h113_eq]
  unfold flo
  by_cases c : n.tmod 1000 < 0 <;> simp [c, wr64]
theorem p113 : SpecOK Try.prog 113 s113 := by
  refine specOK_of (env_ok (l := l113) trivial) mixed_ok Try.func113 k113 fun av ob r os hrn => ?_
  simp only [s113] at hrn
  split at hrn
  · rename_i n
    cases hrn
    have hv := v113 n
    unfold h113 at hv
    exact ⟨1, hv⟩
  · cases hrn
theorem f113 : FnOK Try.prog 113 := fnOK_of Try.func113 rfl (by kernel_rfl)
def l90 : List (FuncId × Spec) := [(54, s54), (113, s113)]
def k90 : Code → Keep := keepOf []
noncomputable def h90 (fl : Nat) (a b c d e f g h n : Int) : Option (AV × List Ob) := (evalF (env l90) Try.f90 k90 fl [.agg [.int .i64 a, .int .i64 b, .int .i64 c, .int .i64 d, .int .i64 e, .int .i64 f, .int .i64 g, .int .i64 h], .one (.int .i64 n)] []).den
theorem h90_eq (fl : Nat) (a b c d e f g h n : Int) : h90 (fl + 1) a b c d e f g h n =
    if (decide (n < 0)) = true then some (.agg [.int .i64 (-1125899906842624), .int .i64 1125899906842624], [])
    else if (decide (n > 65535)) = true then some (.agg [.int .i64 (-1125899906842624), .int .i64 1125899906842624], [])
      else if (b == 4) = true then if (decide (n > 1)) = true then some (.agg [.int .i64 (-1125899906842624), .int .i64 1125899906842624], [])
          else some (.agg [.int .i64 n, .int .i64 n], [])
        else if (b == 5) = true then if (decide (n > 2)) = true then some (.agg [.int .i64 (-1125899906842624), .int .i64 1125899906842624], [])
            else some (.agg [.int .i64 n, .int .i64 n], [])
          else if (b == 6) = true then if (decide (n > 5)) = true then some (.agg [.int .i64 (-1125899906842624), .int .i64 1125899906842624], [])
              else some (.agg [.int .i64 n, .int .i64 n], [])
            else if (b == 1) = true then some (.agg [.int .i64 (mx (IntKind.i64.wrap (IntKind.i64.wrap (d + flo (IntKind.i64.wrap (e * n)) 1000) - f)) 0), .int .i64 (mx (IntKind.i64.wrap (IntKind.i64.wrap (d - flo (IntKind.i64.wrap (0 - IntKind.i64.wrap (e * n))) 1000) + f)) 0)], [])
              else if (b == 2) = true then some (.agg [.int .i64 (mx (IntKind.i64.wrap (IntKind.i64.wrap (d + flo (IntKind.i64.wrap (e * n)) 1000) - f)) 0), .int .i64 (mx (IntKind.i64.wrap (IntKind.i64.wrap (d - flo (IntKind.i64.wrap (0 - IntKind.i64.wrap (e * n))) 1000) + f)) 0)], [])
                else some (.agg [.int .i64 (IntKind.i64.wrap (IntKind.i64.wrap (d + flo (IntKind.i64.wrap (e * n)) 1000) - f)), .int .i64 (IntKind.i64.wrap (IntKind.i64.wrap (d - flo (IntKind.i64.wrap (0 - IntKind.i64.wrap (e * n))) 1000) + f))], []) := by kernel_rfl
def valSpan (s : Sensor) (n : Int) : Span := ⟨wr64 (wr64 (s.offset + flo (wr64 (s.scale * n)) 1000) - s.error), wr64 (wr64 (s.offset - flo (wr64 (0 - wr64 (s.scale * n))) 1000) + s.error)⟩
def valT (s : Sensor) (n : Int) : Span :=
  if n < 0 ∨ n > 65535 then nothing
  else if s.kind = 4 then (if n > 1 then nothing else ⟨n, n⟩)
  else if s.kind = 5 then (if n > 2 then nothing else ⟨n, n⟩)
  else if s.kind = 6 then (if n > 5 then nothing else ⟨n, n⟩)
  else if s.kind = 1 ∨ s.kind = 2 then ⟨mx (valSpan s n).lo 0, mx (valSpan s n).hi 0⟩
  else valSpan s n
def s90 : Spec := ⟨false, fun av ob => match av, ob with
  | [.agg [.int .i64 a, .int .i64 b, .int .i64 c, .int .i64 d, .int .i64 e, .int .i64 f, .int .i64 g, .int .i64 h], .one (.int .i64 n)], [] => .ret (.agg [.int .i64 (valT ⟨a, b, c, d, e, f, g, h⟩ n).lo, .int .i64 (valT ⟨a, b, c, d, e, f, g, h⟩ n).hi], [])
  | _, _ => .fail⟩
theorem v90 (a b c d e f g h n : Int) : h90 1 a b c d e f g h n = some (.agg [.int .i64 (valT ⟨a, b, c, d, e, f, g, h⟩ n).lo, .int .i64 (valT ⟨a, b, c, d, e, f, g, h⟩ n).hi], []) := by
  rw [h90_eq]
  unfold valT valSpan
  simp only [decide_eq_true_eq, beq_iff_eq]
  by_cases c1 : n < 0
  · simp only [c1, true_or, if_true]
  by_cases c2 : n > 65535
  · simp only [c1, c2, or_true, if_true, if_false]
  simp only [c1, c2, or_self, if_false]
  by_cases c4 : b = 4
  · subst c4
    by_cases k : n > 1 <;> simp [k]
  by_cases c5 : b = 5
  · subst c5
    by_cases k : n > 2 <;> simp [k]
  by_cases c6 : b = 6
  · subst c6
    by_cases k : n > 5 <;> simp [k]
  by_cases c7 : b = 1
  · subst c7
    simp [wr64]
  by_cases c8 : b = 2
  · subst c8
    simp [wr64]
  simp [c4, c5, c6, c7, c8, wr64]
theorem p90 : SpecOK Try.prog 90 s90 := by
  refine specOK_of (env_ok (l := l90) ⟨⟨p54, f54⟩, ⟨⟨p113, f113⟩, trivial⟩⟩) mixed_ok Try.func90 k90 fun av ob r os hrn => ?_
  simp only [s90] at hrn
  split at hrn
  · rename_i a b c d e f g h n
    cases hrn
    have hv := v90 a b c d e f g h n
    unfold h90 at hv
    exact ⟨1, hv⟩
  · cases hrn
theorem f90 : FnOK Try.prog 90 := fnOK_of Try.func90 rfl (by kernel_rfl)
end Go.Proofs.Ytipfipnhgpbceaa.Sx
