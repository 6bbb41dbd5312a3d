/- Whether a span is above a number; until when a value is surely less; a measurement widens (plain theorems). -/
import Derived.Test.YtipfipnhgpbceaaFg
import Derived.Test.YtipfipnhgpbceaaSxArgs
set_option linter.unusedVariables false
set_option linter.unusedSimpArgs false
set_option maxRecDepth 100000
namespace Go.Proofs.Ytipfipnhgpbceaa.Sx
open Go Go.RowKit
theorem cok0 {l : List Int} (h : l.all u8B = true) : cok (l.take 300) 0 = true := by
  rw [cok_iff]
  refine ⟨by omega, by omega, by rw [List.length_take]; omega, fun x hx => ?_⟩
  have := List.all_eq_true.1 h x (List.mem_of_mem_take hx)
  rw [u8B_iff] at this
  omega
def l3 : List (FuncId × Spec) := [(26, s26), (25, s25), (27, s27), (28, s28), (29, s29), (30, s30)]
def k3 : Code → Keep := keepOf []
noncomputable def h3 (fl : Nat) (l : List Int) (lo hi v : Int) : Option (AV × List Ob) := (evalF (env l3) Try.f3 k3 fl [.one (.vec false .u8 l), .agg [.int .i64 lo, .int .i64 hi], .one (.int .i64 v)] []).den
theorem h3_eq (fl : Nat) (l : List Int) (lo hi v : Int) : h3 (fl + 1) l lo hi v =
    if (cok (List.take 300 l) 0) = true then if (above { lo := lo, hi := hi } v == above { lo := lo, hi := hi } v) = true then if (above { lo := (spanM (List.take 300 l) 0).lo, hi := (spanM (List.take 300 l) 0).hi } (IntKind.i64.wrap (modz v 200 - 60)) == above { lo := (spanM (List.take 300 l) 0).lo, hi := (spanM (List.take 300 l) 0).hi } (IntKind.i64.wrap (modz v 200 - 60))) = true then if (above { lo := (spanM (List.take 300 l) 0).lo, hi := (spanM (List.take 300 l) 0).hi } (spanM (List.take 300 l) 0).lo == above { lo := (spanM (List.take 300 l) 0).lo, hi := (spanM (List.take 300 l) 0).hi } (spanM (List.take 300 l) 0).lo) = true then if (above { lo := (spanM (List.take 300 l) 0).lo, hi := (spanM (List.take 300 l) 0).hi } (spanM (List.take 300 l) 0).hi == above { lo := (spanM (List.take 300 l) 0).lo, hi := (spanM (List.take 300 l) 0).hi } (spanM (List.take 300 l) 0).hi) = true then some (.one (.bool true), [])
            else some (.one (.bool false), [])
          else some (.one (.bool false), [])
        else some (.one (.bool false), [])
      else some (.one (.bool false), [])
    else none := by kernel_rfl
theorem v3 (l : List Int) (lo hi v : Int) (h : l.all u8B = true) : h3 1 l lo hi v = some (.one (.bool true), []) := by
  rw [h3_eq, if_pos (cok0 h)]
  simp only [beq_self_eq_true, if_true]
def s3 : Spec := ⟨false, fun av ob => match av, ob with
  | [.one (.vec false .u8 l), .agg [.int .i64 lo, .int .i64 hi], .one (.int .i64 v)], [] => .need (l.all u8B && (i64B lo && (i64B hi && (i64B v)))) (.ret (.one (.bool true), []))
  | _, _ => .fail⟩
theorem p3 : SpecOK Try.prog 3 s3 := by
  refine specOK_of (env_ok (l := l3) ⟨⟨p26, f26⟩, ⟨⟨p25, f25⟩, ⟨⟨p27, f27⟩, ⟨⟨p28, f28⟩, ⟨⟨p29, f29⟩, ⟨⟨p30, f30⟩, trivial⟩⟩⟩⟩⟩⟩) mixed_ok Try.func3 k3 fun av ob r os hrn => ?_
  simp only [s3] at hrn
  split at hrn
  · rename_i l lo hi v
    obtain ⟨hg, hrn⟩ := need_den hrn
    cases hrn
    simp only [Bool.and_eq_true] at hg
    obtain ⟨q1, q2, q2b, q3⟩ := hg
    have hv := v3 l lo hi v q1
    unfold h3 at hv
    exact ⟨1, hv⟩
  · cases hrn
theorem law3 (av : List AV) (h : AVs [RBytes, RSpan, RInt] av) : (s3.run av []).den = some (.one (.bool true), []) := by
  obtain ⟨_, _, rfl, ⟨l, rfl, q1⟩, k1⟩ := h.cons
  obtain ⟨_, _, rfl, ⟨lo, hi, rfl, q2, q2b⟩, k2⟩ := k1.cons
  obtain ⟨_, _, rfl, ⟨v, rfl, q3⟩, k3⟩ := k2.cons
  rw [k3.nil]
  refine den_need ?_
  simp only [Bool.and_eq_true]
  exact ⟨q1, q2, q2b, q3⟩
end Go.Proofs.Ytipfipnhgpbceaa.Sx
