/- What the program's functions of sensors and windows do (plain theorems). -/
import Derived.Test.YtipfipnhgpbceaaFb
set_option linter.unusedVariables false
set_option linter.unusedSimpArgs false
set_option maxRecDepth 100000
namespace Go.Proofs.Ytipfipnhgpbceaa.Sx
open Go Go.RowKit
def checkS (s : Sensor) : Int :=
  if ¬ (1 ≤ s.kind ∧ s.kind ≤ 6) then 5 else
  if (0 ≤ s.addr ∧ s.addr ≤ 255) ∧ 0 ≤ s.target ∧ (-1000000 ≤ s.offset ∧ s.offset ≤ 1000000) ∧ (-1000000 ≤ s.scale ∧ s.scale ≤ 1000000) ∧ (0 ≤ s.error ∧ s.error ≤ 1000000) ∧ (0 ≤ s.drift ∧ s.drift ≤ 1000000) ∧ (1 ≤ s.life ∧ s.life ≤ 1000000) then 0 else 1
def l38 : List (FuncId × Spec) := [(88, s88)]
def k38 : Code → Keep := keepOf []
noncomputable def h38 (fl : Nat) (a b c d e f g h : Int) : Option (AV × List Ob) := (evalF (env l38) Try.f38 k38 fl [.agg [.int .i64 a, .int .i64 b, .int .i64 c, .int .i64 d, .int .i64 e, .int .i64 f, .int .i64 g, .int .i64 h]] []).den
theorem h38_eq (fl : Nat) (a b c d e f g h : Int) : h38 (fl + 1) a b c d e f g h =
    if (decide ([b].length ≤ 1000000)) = true then if (!inAll 1 6 [b]) = true then some (.one (.int .i64 5), [])
      else if (decide ([a].length ≤ 1000000)) = true then if (!inAll 0 255 [a]) = true then some (.one (.int .i64 1), [])
          else if (decide (c < 0)) = true then some (.one (.int .i64 1), [])
            else if (decide ([d, e].length ≤ 1000000)) = true then if (!inAll (-1000000) 1000000 [d, e]) = true then some (.one (.int .i64 1), [])
                else if (decide ([f, g].length ≤ 1000000)) = true then if (!inAll 0 1000000 [f, g]) = true then some (.one (.int .i64 1), [])
                    else if (decide ([h].length ≤ 1000000)) = true then if (!inAll 1 1000000 [h]) = true then some (.one (.int .i64 1), [])
                        else some (.one (.int .i64 0), [])
                      else none
                  else none
              else none
        else none
    else none := by kernel_rfl
def s38 : Spec := ⟨false, fun av ob => match av, ob with
  | [.agg [.int .i64 a, .int .i64 b, .int .i64 c, .int .i64 d, .int .i64 e, .int .i64 f, .int .i64 g, .int .i64 h]], [] => .ret (.one (.int .i64 (checkS ⟨a, b, c, d, e, f, g, h⟩)), [])
  | _, _ => .fail⟩
theorem inAll1 (lo hi a : Int) : inAll lo hi [a] = (decide (lo ≤ a) && decide (a ≤ hi)) := by simp [inAll]
theorem inAll2 (lo hi a b : Int) : inAll lo hi [a, b] = ((decide (lo ≤ a) && decide (a ≤ hi)) && (decide (lo ≤ b) && decide (b ≤ hi))) := by simp [inAll]
theorem v38 (a b c d e f g h : Int) : h38 1 a b c d e f g h = some (.one (.int .i64 (checkS ⟨a, b, c, d, e, f, g, h⟩)), []) := by
  rw [h38_eq]
  simp only [inAll1, inAll2]
  have l1 : ∀ x : Int, decide ([x].length ≤ 1000000) = true := fun x => by simp
  have l2 : ∀ x y : Int, decide ([x, y].length ≤ 1000000) = true := fun x y => by simp
  simp only [l1, l2, if_true]
  unfold checkS
  simp only [Bool.not_eq_true', Bool.and_eq_false_iff, decide_eq_false_iff_not, decide_eq_true_eq]
  repeat' split
  all_goals first | rfl | (exfalso; omega)
theorem p38 : SpecOK Try.prog 38 s38 := by
  refine specOK_of (env_ok (l := l38) ⟨⟨p88, f88⟩, trivial⟩) mixed_ok Try.func38 k38 fun av ob r os h => ?_
  simp only [s38] at h
  split at h
  · rename_i a b c d e f g h
    cases h
    have hv := v38 a b c d e f g h
    unfold h38 at hv
    exact ⟨1, hv⟩
  · cases h
theorem f38 : FnOK Try.prog 38 := fnOK_of Try.func38 rfl (by kernel_rfl)
def l39 : List (FuncId × Spec) := [(89, s89)]
def k39 : Code → Keep := keepOf []
noncomputable def h39 (fl : Nat) (a b c d e f g h : Int) : Option (AV × List Ob) := (evalF (env l39) Try.f39 k39 fl [.agg [.int .i64 a, .int .i64 b, .int .i64 c, .int .i64 d, .int .i64 e, .int .i64 f, .int .i64 g, .int .i64 h]] []).den
theorem h39_eq (fl : Nat) (a b c d e f g h : Int) : h39 (fl + 1) a b c d e f g h =
    if (!(decide (1 ≤ b) && decide (b ≤ 6))) = true then some (.one (.int .i64 5), [])
    else if (!(decide (0 ≤ a) && decide (a ≤ 255))) = true then some (.one (.int .i64 1), [])
      else if (decide (c < 0)) = true then some (.one (.int .i64 1), [])
        else if (!(decide (-1000000 ≤ d) && decide (d ≤ 1000000))) = true then some (.one (.int .i64 1), [])
          else if (!(decide (-1000000 ≤ e) && decide (e ≤ 1000000))) = true then some (.one (.int .i64 1), [])
            else if (!(decide (0 ≤ f) && decide (f ≤ 1000000))) = true then some (.one (.int .i64 1), [])
              else if (!(decide (0 ≤ g) && decide (g ≤ 1000000))) = true then some (.one (.int .i64 1), [])
                else if (!(decide (1 ≤ h) && decide (h ≤ 1000000))) = true then some (.one (.int .i64 1), [])
                  else some (.one (.int .i64 0), []) := by kernel_rfl
def s39 : Spec := ⟨false, fun av ob => match av, ob with
  | [.agg [.int .i64 a, .int .i64 b, .int .i64 c, .int .i64 d, .int .i64 e, .int .i64 f, .int .i64 g, .int .i64 h]], [] => .ret (.one (.int .i64 (checkS ⟨a, b, c, d, e, f, g, h⟩)), [])
  | _, _ => .fail⟩
theorem v39 (a b c d e f g h : Int) : h39 1 a b c d e f g h = some (.one (.int .i64 (checkS ⟨a, b, c, d, e, f, g, h⟩)), []) := by
  rw [h39_eq]
  unfold checkS
  simp only [Bool.not_eq_true', Bool.and_eq_false_iff, decide_eq_false_iff_not, decide_eq_true_eq]
  repeat' split
  all_goals first | rfl | (exfalso; omega)
theorem p39 : SpecOK Try.prog 39 s39 := by
  refine specOK_of (env_ok (l := l39) ⟨⟨p89, f89⟩, trivial⟩) mixed_ok Try.func39 k39 fun av ob r os h => ?_
  simp only [s39] at h
  split at h
  · rename_i a b c d e f g h
    cases h
    have hv := v39 a b c d e f g h
    unfold h39 at hv
    exact ⟨1, hv⟩
  · cases h
theorem f39 : FnOK Try.prog 39 := fnOK_of Try.func39 rfl (by kernel_rfl)
def l85 : List (FuncId × Spec) := [(53, s53)]
def k85 : Code → Keep := keepOf []
noncomputable def h85 (fl : Nat) (a b : Int) : Option (AV × List Ob) := (evalF (env l85) Try.f85 k85 fl [.one (.int .i64 a), .one (.int .i64 b)] []).den
theorem h85_eq (fl : Nat) (a b : Int) : h85 (fl + 1) a b =
    if (b != 0) = true then some (.one (.int .i64 (IntKind.i64.wrap (0 - flo (IntKind.i64.wrap (0 - a)) b))), [])
    else none := by kernel_rfl
def cei (a b : Int) : Int := wr64 (0 - flo (wr64 (0 - a)) b)
def s85 : Spec := ⟨false, fun av ob => match av, ob with
  | [.one (.int .i64 a), .one (.int .i64 b)], [] => .need (b != 0) (.ret (.one (.int .i64 (cei a b)), []))
  | _, _ => .fail⟩
theorem v85 (a b : Int) (h : (b != 0) = true) : h85 1 a b = some (.one (.int .i64 (cei a b)), []) := by
  rw [h85_eq, if_pos h]; rfl
theorem p85 : SpecOK Try.prog 85 s85 := by
  refine specOK_of (env_ok (l := l85) ⟨⟨p53, f53⟩, trivial⟩) mixed_ok Try.func85 k85 fun av ob r os h => ?_
  simp only [s85] at h
  split at h
  · rename_i a b
    obtain ⟨hg, h⟩ := need_den h
    cases h
    have hv := v85 a b hg
    unfold h85 at hv
    exact ⟨1, hv⟩
  · cases h
theorem f85 : FnOK Try.prog 85 := fnOK_of Try.func85 rfl (by kernel_rfl)
/-! ### A measurement out of codes -/
def l25 : List (FuncId × Spec) := [(46, s46), (32, s32), (55, s55), (35, s35)]
def k25 : Code → Keep := keepOf []
noncomputable def h25 (fl : Nat) (l : List Int) (p : Int) : Option (AV × List Ob) := (evalF (env l25) Try.f25 k25 fl [.one (.ptr 0 0)] [.box [.vec false .u8 l, .int .i64 p]]).den
theorem h25_eq (fl : Nat) (l : List Int) (p : Int) : h25 (fl + 1) l p =
    if (cok l p) = true then if (cok l (nextP l p 3)) = true then if (cok l (nextP l (nextP l p 3) 200)) = true then if (cok l (nextP l (nextP l (nextP l p 3) 200) 121)) = true then if (cok l (nextP l (nextP l (nextP l (nextP l p 3) 200) 121) 40)) = true then if (nextV l (nextP l (nextP l (nextP l (nextP l p 3) 200) 121) 40) 8 == 7) = true then if (cok l (nextP l (nextP l (nextP l (nextP l (nextP l p 3) 200) 121) 40) 8)) = true then if (nextV l (nextP l (nextP l (nextP l (nextP l (nextP l p 3) 200) 121) 40) 8) 12 == 11) = true then some (.agg [.int .i64 (-1), .int .i64 (nextV l (nextP l p 3) 200), .int .i64 (-1125899906842624), .int .i64 1125899906842624], [.box [.vec false .u8 l, .int .i64 (nextP l (nextP l (nextP l (nextP l (nextP l (nextP l p 3) 200) 121) 40) 8) 12)]])
                  else some (.agg [.int .i64 (nextV l p 3), .int .i64 (nextV l (nextP l p 3) 200), .int .i64 (-1125899906842624), .int .i64 1125899906842624], [.box [.vec false .u8 l, .int .i64 (nextP l (nextP l (nextP l (nextP l (nextP l (nextP l p 3) 200) 121) 40) 8) 12)]])
                else none
              else if (cok l (nextP l (nextP l (nextP l (nextP l (nextP l p 3) 200) 121) 40) 8)) = true then if (nextV l (nextP l (nextP l (nextP l (nextP l (nextP l p 3) 200) 121) 40) 8) 12 == 11) = true then some (.agg [.int .i64 (-1), .int .i64 (nextV l (nextP l p 3) 200), .int .i64 (wr64 (-30 + nextV l (nextP l (nextP l p 3) 200) 121)), .int .i64 (IntKind.i64.wrap (wr64 (-30 + nextV l (nextP l (nextP l p 3) 200) 121) + nextV l (nextP l (nextP l (nextP l p 3) 200) 121) 40))], [.box [.vec false .u8 l, .int .i64 (nextP l (nextP l (nextP l (nextP l (nextP l (nextP l p 3) 200) 121) 40) 8) 12)]])
                  else some (.agg [.int .i64 (nextV l p 3), .int .i64 (nextV l (nextP l p 3) 200), .int .i64 (wr64 (-30 + nextV l (nextP l (nextP l p 3) 200) 121)), .int .i64 (IntKind.i64.wrap (wr64 (-30 + nextV l (nextP l (nextP l p 3) 200) 121) + nextV l (nextP l (nextP l (nextP l p 3) 200) 121) 40))], [.box [.vec false .u8 l, .int .i64 (nextP l (nextP l (nextP l (nextP l (nextP l (nextP l p 3) 200) 121) 40) 8) 12)]])
                else none
            else none
          else none
        else none
      else none
    else none := by kernel_rfl
def after6 (l : List Int) (p : Int) : Int := nextP l (nextP l (nextP l (nextP l (nextP l (nextP l p 3) 200) 121) 40) 8) 12
def spanM (l : List Int) (p : Int) : Span :=
  let q := nextP l (nextP l p 3) 200
  if nextV l (nextP l (nextP l q 121) 40) 8 = 7 then ⟨-1125899906842624, 1125899906842624⟩
  else ⟨wr64 (-30 + nextV l q 121), wr64 (wr64 (-30 + nextV l q 121) + nextV l (nextP l q 121) 40)⟩
def sensM (l : List Int) (p : Int) : Int := if nextV l (nextP l (nextP l (nextP l (nextP l (nextP l p 3) 200) 121) 40) 8) 12 = 11 then -1 else nextV l p 3
def timeM (l : List Int) (p : Int) : Int := nextV l (nextP l p 3) 200
def s25 : Spec := ⟨false, fun av ob => match av, ob with
  | [.one (.ptr 0 0)], [.box [.vec false .u8 l, .int .i64 p]] => .need (cok l p) (.ret (.agg [.int .i64 (sensM l p), .int .i64 (timeM l p), .int .i64 (spanM l p).lo, .int .i64 (spanM l p).hi], [.box [.vec false .u8 l, .int .i64 (after6 l p)]]))
  | _, _ => .fail⟩
theorem v25 (l : List Int) (p : Int) (h : cok l p = true) : h25 1 l p = some (.agg [.int .i64 (sensM l p), .int .i64 (timeM l p), .int .i64 (spanM l p).lo, .int .i64 (spanM l p).hi], [.box [.vec false .u8 l, .int .i64 (after6 l p)]]) := by
  rw [h25_eq]
  have k1 := cok_next (n := 3) h
  have k2 := cok_next (n := 200) k1
  have k3 := cok_next (n := 121) k2
  have k4 := cok_next (n := 40) k3
  have k5 := cok_next (n := 8) k4
  simp only [h, k1, k2, k3, k4, k5, if_true, beq_iff_eq]
  unfold sensM timeM spanM after6
  dsimp only
  split <;> split <;> rfl
theorem p25 : SpecOK Try.prog 25 s25 := by
  refine specOK_of (env_ok (l := l25) ⟨⟨p46, f46⟩, ⟨⟨p32, f32⟩, ⟨⟨p55, f55⟩, ⟨⟨p35, f35⟩, trivial⟩⟩⟩⟩) mixed_ok Try.func25 k25 fun av ob r os h => ?_
  simp only [s25] at h
  split at h
  · rename_i l p
    obtain ⟨hg, h⟩ := need_den h
    cases h
    have hv := v25 l p hg
    unfold h25 at hv
    exact ⟨1, hv⟩
  · cases h
theorem f25 : FnOK Try.prog 25 := fnOK_of Try.func25 rfl (by kernel_rfl)
end Go.Proofs.Ytipfipnhgpbceaa.Sx
