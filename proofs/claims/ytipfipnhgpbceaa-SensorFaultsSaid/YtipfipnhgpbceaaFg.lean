/- Sensors out of codes; the chapter's example (plain theorems). -/
import Derived.Test.YtipfipnhgpbceaaFf
set_option linter.unusedVariables false
set_option linter.unusedSimpArgs false
set_option maxRecDepth 100000
namespace Go.Proofs.Ytipfipnhgpbceaa.Sx
open Go Go.RowKit
def l31 : List (FuncId × Spec) := [(32, s32), (84, s84), (46, s46)]
def k31 : Code → Keep := keepOf []
noncomputable def h31 (fl : Nat) (l : List Int) (p a b c : Int) : Option (AV × List Ob) := (evalF (env l31) Try.f31 k31 fl [.one (.ptr 0 0), .one (.int .i64 a), .one (.int .i64 b), .one (.int .i64 c)] [.box [.vec false .u8 l, .int .i64 p]]).den
theorem h31_eq (fl : Nat) (l : List Int) (p a b c : Int) : h31 (fl + 1) l p a b c =
    if (cok l p) = true then if (!decide (a ≥ 4)) = true then if (cok l (nextP l p 200)) = true then if (cok l (nextP l (nextP l p 200) 71)) = true then if (cok l (nextP l (nextP l (nextP l p 200) 71) 1701)) = true then if (cok l (nextP l (nextP l (nextP l (nextP l p 200) 71) 1701) 6)) = true then some (.agg [.int .i64 b, .int .i64 a, .int .i64 c, .int .i64 (wr64 (-50 + nextV l (nextP l p 200) 71)), .int .i64 (wr64 (300 + nextV l (nextP l (nextP l p 200) 71) 1701)), .int .i64 (nextV l (nextP l (nextP l (nextP l p 200) 71) 1701) 6), .int .i64 (nextV l (nextP l (nextP l (nextP l (nextP l p 200) 71) 1701) 6) 700), .int .i64 (wr64 (1 + nextV l p 200))], [.box [.vec false .u8 l, .int .i64 (nextP l (nextP l (nextP l (nextP l (nextP l p 200) 71) 1701) 6) 700)]])
              else none
            else none
          else none
        else none
      else some (.agg [.int .i64 b, .int .i64 a, .int .i64 c, .int .i64 0, .int .i64 1000, .int .i64 0, .int .i64 0, .int .i64 (wr64 (1 + nextV l p 200))], [.box [.vec false .u8 l, .int .i64 (nextP l p 200)]])
    else none := by kernel_rfl
def sensP (l : List Int) (p a : Int) : Int := if a ≥ 4 then nextP l p 200 else nextP l (nextP l (nextP l (nextP l (nextP l p 200) 71) 1701) 6) 700
def sensV (l : List Int) (p a b c : Int) : Sensor :=
  if a ≥ 4 then ⟨b, a, c, 0, 1000, 0, 0, wr64 (1 + nextV l p 200)⟩
  else ⟨b, a, c, wr64 (-50 + nextV l (nextP l p 200) 71), wr64 (300 + nextV l (nextP l (nextP l p 200) 71) 1701), nextV l (nextP l (nextP l (nextP l p 200) 71) 1701) 6, nextV l (nextP l (nextP l (nextP l (nextP l p 200) 71) 1701) 6) 700, wr64 (1 + nextV l p 200)⟩
def s31 : Spec := ⟨false, fun av ob => match av, ob with
  | [.one (.ptr 0 0), .one (.int .i64 a), .one (.int .i64 b), .one (.int .i64 c)], [.box [.vec false .u8 l, .int .i64 p]] => .need (cok l p) (.ret (.agg (enc .sensor (sensV l p a b c)), [.box [.vec false .u8 l, .int .i64 (sensP l p a)]]))
  | _, _ => .fail⟩
theorem v31 (l : List Int) (p a b c : Int) (h : cok l p = true) : h31 1 l p a b c = some (.agg (enc .sensor (sensV l p a b c)), [.box [.vec false .u8 l, .int .i64 (sensP l p a)]]) := by
  rw [h31_eq]
  have k1 := cok_next (n := 200) h
  have k2 := cok_next (n := 71) k1
  have k3 := cok_next (n := 1701) k2
  have k4 := cok_next (n := 6) k3
  simp only [h, k1, k2, k3, k4, if_true]
  unfold sensV sensP
  by_cases hc : a ≥ 4 <;> simp [hc, enc]
theorem p31 : SpecOK Try.prog 31 s31 := by
  refine specOK_of (env_ok (l := l31) ⟨⟨p32, f32⟩, ⟨⟨p84, f84⟩, ⟨⟨p46, f46⟩, trivial⟩⟩⟩) mixed_ok Try.func31 k31 fun av ob r os hrn => ?_
  simp only [s31] at hrn
  split at hrn
  · rename_i a b c l p
    obtain ⟨hg, hrn⟩ := need_den hrn
    cases hrn
    have hv := v31 l p a b c hg
    unfold h31 at hv
    exact ⟨1, hv⟩
  · cases hrn
theorem f31 : FnOK Try.prog 31 := fnOK_of Try.func31 rfl (by kernel_rfl)
def l30 : List (FuncId × Spec) := [(56, s56), (36, s36), (35, s35), (28, s28), (34, s34)]
def k30 : Code → Keep := keepOf []
noncomputable def h30 (fl : Nat)  : Option (AV × List Ob) := (evalF (env l30) Try.f30 k30 fl [] []).den
theorem h30_eq (fl : Nat)  : h30 (fl + 1)  =
    some (.one (.bool true), []) := by kernel_rfl
def s30 : Spec := ⟨false, fun av ob => match av, ob with
  | [], [] => .ret (.one (.bool true), [])
  | _, _ => .fail⟩
theorem v30 : h30 1 = some (.one (.bool true), []) := by
  rw [h30_eq]
theorem p30 : SpecOK Try.prog 30 s30 := by
  refine specOK_of (env_ok (l := l30) ⟨⟨p56, f56⟩, ⟨⟨p36, f36⟩, ⟨⟨p35, f35⟩, ⟨⟨p28, f28⟩, ⟨⟨p34, f34⟩, trivial⟩⟩⟩⟩⟩) mixed_ok Try.func30 k30 fun av ob r os hrn => ?_
  simp only [s30] at hrn
  split at hrn
  · skip
    cases hrn
    have hv := v30
    unfold h30 at hv
    exact ⟨1, hv⟩
  · cases hrn
theorem f30 : FnOK Try.prog 30 := fnOK_of Try.func30 rfl (by kernel_rfl)
end Go.Proofs.Ytipfipnhgpbceaa.Sx
