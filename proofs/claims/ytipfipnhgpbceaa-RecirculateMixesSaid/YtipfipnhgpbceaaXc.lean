/- Plain theorems and definitions for the claim, put together out of several texts. -/
import Derived.Test.YtipfipnhgpbceaaXp
import Derived.Test.YtipfipnhgpbceaaXb
/- What the program's small functions do (plain theorems). -/

set_option linter.unusedVariables false
set_option linter.unusedSimpArgs false
set_option maxRecDepth 100000
namespace Go.Proofs.Ytipfipnhgpbceaa.Sx
open Go Go.RowKit
abbrev wr64 (x : Int) : Int := IntKind.i64.wrap x
/-! ### Mod -/
def l27 : List (FuncId × Spec) := []
def k27 : Code → Keep := keepOf []
noncomputable def h27 (fl : Nat) (k n : Int) : Option (AV × List Ob) := (evalF (env l27) Try.f27 k27 fl [.one (.int .i64 k), .one (.int .i64 n)] []).den
theorem h27_eq (fl : Nat) (k n : Int) : h27 (fl + 1) k n =
    if (decide (n < 1)) = true then some (.one (.int .i64 0), [])
    else if (n != 0) = true then if (decide (k.tmod n < 0)) = true then some (.one (.int .i64 (IntKind.i64.wrap (k.tmod n + n))), [])
        else some (.one (.int .i64 (k.tmod n)), [])
      else none := by kernel_rfl
def modz (k n : Int) : Int := if n < 1 then 0 else if k.tmod n < 0 then wr64 (k.tmod n + n) else k.tmod n
def s27 : Spec := ⟨false, fun av ob => match av, ob with
  | [.one (.int .i64 k), .one (.int .i64 n)], [] => .ret (.one (.int .i64 (modz k n)), [])
  | _, _ => .fail⟩
theorem v27 (k n : Int) : h27 1 k n = some (.one (.int .i64 (modz k n)), []) := by
  rw [h27_eq]
  unfold modz
  by_cases h1 : n < 1
  · simp [h1]
  · have h2 : n ≠ 0 := by omega
    by_cases h3 : k.tmod n < 0 <;> simp [h1, h2, h3]
theorem p27 : SpecOK Try.prog 27 s27 := by
  refine specOK_of (env_ok (l := l27) trivial) mixed_ok Try.func27 k27 fun av ob r os h => ?_
  simp only [s27] at h
  split at h
  · rename_i k n
    cases h
    have hv := v27 k n
    unfold h27 at hv
    exact ⟨1, hv⟩
  · cases h
theorem f27 : FnOK Try.prog 27 := fnOK_of Try.func27 rfl (by kernel_rfl)
/-! ### Above -/
def l28 : List (FuncId × Spec) := []
def k28 : Code → Keep := keepOf []
noncomputable def h28 (fl : Nat) (lo hi v : Int) : Option (AV × List Ob) := (evalF (env l28) Try.f28 k28 fl [.agg [.int .i64 lo, .int .i64 hi], .one (.int .i64 v)] []).den
theorem h28_eq (fl : Nat) (lo hi v : Int) : h28 (fl + 1) lo hi v =
    if (decide (lo > hi)) = true then some (.one (.int .i64 0), [])
    else if (decide (lo ≥ v)) = true then some (.one (.int .i64 1), [])
      else if (decide (hi < v)) = true then some (.one (.int .i64 (-1)), [])
        else some (.one (.int .i64 0), []) := by kernel_rfl
def l29 : List (FuncId × Spec) := []
def k29 : Code → Keep := keepOf []
noncomputable def h29 (fl : Nat) (lo hi v : Int) : Option (AV × List Ob) := (evalF (env l29) Try.f29 k29 fl [.agg [.int .i64 lo, .int .i64 hi], .one (.int .i64 v)] []).den
theorem h29_eq (fl : Nat) (lo hi v : Int) : h29 (fl + 1) lo hi v =
    if (decide (lo > hi)) = true then some (.one (.int .i64 0), [])
    else if (decide (lo ≥ v)) = true then some (.one (.int .i64 1), [])
      else if (decide (hi < v)) = true then some (.one (.int .i64 (-1)), [])
        else some (.one (.int .i64 0), []) := by kernel_rfl
def above (s : Span) (v : Int) : Int := if s.lo > s.hi then 0 else if s.lo ≥ v then 1 else if s.hi < v then -1 else 0
def s28 : Spec := ⟨false, fun av ob => match av, ob with
  | [.agg [.int .i64 lo, .int .i64 hi], .one (.int .i64 v)], [] => .ret (.one (.int .i64 (above ⟨lo, hi⟩ v)), [])
  | _, _ => .fail⟩
def s29 : Spec := ⟨false, fun av ob => match av, ob with
  | [.agg [.int .i64 lo, .int .i64 hi], .one (.int .i64 v)], [] => .ret (.one (.int .i64 (above ⟨lo, hi⟩ v)), [])
  | _, _ => .fail⟩
theorem v28 (lo hi v : Int) : h28 1 lo hi v = some (.one (.int .i64 (above ⟨lo, hi⟩ v)), []) := by
  rw [h28_eq]
  unfold above
  simp only [decide_eq_true_eq]
  split
  · rfl
  · split
    · rfl
    · split <;> rfl
theorem v29 (lo hi v : Int) : h29 1 lo hi v = some (.one (.int .i64 (above ⟨lo, hi⟩ v)), []) := by
  rw [h29_eq]
  unfold above
  simp only [decide_eq_true_eq]
  split
  · rfl
  · split
    · rfl
    · split <;> rfl
theorem p28 : SpecOK Try.prog 28 s28 := by
  refine specOK_of (env_ok (l := l28) trivial) mixed_ok Try.func28 k28 fun av ob r os h => ?_
  simp only [s28] at h
  split at h
  · rename_i lo hi v
    cases h
    have hv := v28 lo hi v
    unfold h28 at hv
    exact ⟨1, hv⟩
  · cases h
theorem f28 : FnOK Try.prog 28 := fnOK_of Try.func28 rfl (by kernel_rfl)
theorem p29 : SpecOK Try.prog 29 s29 := by
  refine specOK_of (env_ok (l := l29) trivial) mixed_ok Try.func29 k29 fun av ob r os h => ?_
  simp only [s29] at h
  split at h
  · rename_i lo hi v
    cases h
    have hv := v29 lo hi v
    unfold h29 at hv
    exact ⟨1, hv⟩
  · cases h
theorem f29 : FnOK Try.prog 29 := fnOK_of Try.func29 rfl (by kernel_rfl)

theorem wid {n : Int} (h0 : -9223372036854775808 ≤ n) (h1 : n ≤ 9223372036854775807) : IntKind.i64.wrap n = n := by rw [IntKind.wrap_i64]; omega
theorem modz_range {k n : Int} (h : 1 ≤ n) (h2 : n ≤ 4611686018427387904) : 0 ≤ modz k n ∧ modz k n < n := by
  unfold modz
  rw [if_neg (by omega)]
  have h3 := Int.tmod_lt_of_pos k (b := n) (by omega)
  have h4 : -n < k.tmod n := by
    have := Int.lt_tmod_of_pos k (b := n) (by omega)
    omega
  split
  · rw [wr64, wid (by omega) (by omega)]; omega
  · omega

/-! ### Codes -/
def l26 : List (FuncId × Spec) := []
def k26 : Code → Keep := keepOf []
noncomputable def h26 (fl : Nat) (l : List Int) : Option (AV × List Ob) := (evalF (env l26) Try.f26 k26 fl [.one (.vec false .u8 l)] []).den
theorem h26_eq (fl : Nat) (l : List Int) : h26 (fl + 1) l =
    if (true && (decide (0 ≤ mn (↑(AnyL.of false K.u8 l).len) 300) && decide (mn (↑(AnyL.of false K.u8 l).len) 300 ≤ ↑l.length))) = true then some (.one (.ptr 0 0), [.box [.vec false .u8 (List.drop (Int.toNat 0) (List.take (mn (↑(AnyL.of false K.u8 l).len) 300).toNat l)), .int .i64 0]])
    else none := by kernel_rfl
def s26 : Spec := ⟨false, fun av ob => match av, ob with
  | [.one (.vec false .u8 l)], [] => .ret (.one (.ptr 0 0), [.box [.vec false .u8 (List.take 300 l), .int .i64 0]])
  | _, _ => .fail⟩
theorem v26 (l : List Int) : h26 1 l = some (.one (.ptr 0 0), [.box [.vec false .u8 (List.take 300 l), .int .i64 0]]) := by
  rw [h26_eq]
  have hm : mn (↑(AnyL.of false K.u8 l).len) 300 = ((min l.length 300 : Nat) : Int) := by
    unfold mn AnyL.len
    dsimp only
    split <;> omega
  rw [hm]
  have h1 : (true && (decide ((0 : Int) ≤ ((min l.length 300 : Nat) : Int)) && decide (((min l.length 300 : Nat) : Int) ≤ (l.length : Int)))) = true := by
    simp only [Bool.true_and, Bool.and_eq_true, decide_eq_true_eq]
    omega
  rw [if_pos h1]
  have h2 : List.drop (Int.toNat 0) (List.take ((min l.length 300 : Nat) : Int).toNat l) = List.take 300 l := by
    simp only [Int.toNat_natCast, Int.toNat_zero, List.drop_zero]
    rw [List.take_eq_take_iff]
    omega
  rw [h2]
theorem p26 : SpecOK Try.prog 26 s26 := by
  refine specOK_of (env_ok (l := l26) trivial) mixed_ok Try.func26 k26 fun av ob r os h => ?_
  simp only [s26] at h
  split at h
  · rename_i l
    cases h
    have hv := v26 l
    unfold h26 at hv
    exact ⟨1, hv⟩
  · cases h
theorem f26 : FnOK Try.prog 26 := fnOK_of Try.func26 rfl (by kernel_rfl)
def cok (l : List Int) (p : Int) : Bool := decide (0 ≤ p) && (decide (p ≤ l.length) && (decide (l.length ≤ 300) && l.all fun x => decide (0 ≤ x) && decide (x < 256)))
def nextP (l : List Int) (p n : Int) : Int := if n < 1 then p else if p ≥ l.length then p else if n > 256 ∧ p + 1 < l.length then p + 2 else p + 1
def nextV (l : List Int) (p n : Int) : Int := if n < 1 then 0 else if p ≥ l.length then 0 else if n > 256 ∧ p + 1 < l.length then (l.getD p.toNat 0 * 256 + l.getD (p + 1).toNat 0).tmod n else (l.getD p.toNat 0).tmod n
theorem cok_iff {l : List Int} {p : Int} : cok l p = true ↔ 0 ≤ p ∧ p ≤ l.length ∧ l.length ≤ 300 ∧ ∀ x ∈ l, 0 ≤ x ∧ x < 256 := by
  unfold cok
  simp only [Bool.and_eq_true, decide_eq_true_eq, List.all_eq_true]
theorem getD_in {l : List Int} (h : ∀ x ∈ l, 0 ≤ x ∧ x < 256) (i : Nat) : 0 ≤ l.getD i 0 ∧ l.getD i 0 < 256 := by
  rw [List.getD_eq_getElem?_getD]
  cases hh : l[i]? with
  | none => simp
  | some x => exact h x (List.mem_of_getElem? hh)
theorem cok_next {l : List Int} {p n : Int} (h : cok l p = true) : cok l (nextP l p n) = true := by
  rw [cok_iff] at *
  obtain ⟨h1, h2, h3, h4⟩ := h
  have hb : 0 ≤ nextP l p n ∧ nextP l p n ≤ l.length := by
    unfold nextP
    split
    · omega
    · split
      · omega
      · split <;> omega
  exact ⟨hb.1, hb.2, h3, h4⟩
theorem nextV_range {l : List Int} {p n : Int} (h : cok l p = true) (hn : 1 ≤ n) : 0 ≤ nextV l p n ∧ nextV l p n < n := by
  rw [cok_iff] at h
  obtain ⟨h1, h2, h3, h4⟩ := h
  have g := getD_in h4
  unfold nextV
  rw [if_neg (by omega)]
  split
  · omega
  · split
    · have a := g p.toNat
      have b := g (p + 1).toNat
      exact ⟨Int.tmod_nonneg _ (by omega), Int.tmod_lt_of_pos _ (by omega)⟩
    · have a := g p.toNat
      exact ⟨Int.tmod_nonneg _ (by omega), Int.tmod_lt_of_pos _ (by omega)⟩
def l46 : List (FuncId × Spec) := []
def k46 : Code → Keep := keepOf []
noncomputable def h46 (fl : Nat) (l : List Int) (p n : Int) : Option (AV × List Ob) := (evalF (env l46) Try.f46 k46 fl [.one (.ptr 0 0), .one (.int .i64 n)] [.box [.vec false .u8 l, .int .i64 p]]).den
theorem h46_eq (fl : Nat) (l : List Int) (p n : Int) : h46 (fl + 1) l p n =
    if (decide (n < 1)) = true then some (.one (.int .i64 0), [.box [.vec false .u8 l, .int .i64 p]])
    else if (decide (p ≥ ↑(AnyL.of false K.u8 l).len)) = true then some (.one (.int .i64 0), [.box [.vec false .u8 l, .int .i64 p]])
      else if (idx l.length (IntKind.i64.wrap (IntKind.i64.wrap (p + 1) - 1))) = true then if (decide (n > 256)) = true then if (decide (IntKind.i64.wrap (p + 1) < ↑(AnyL.of false K.u8 l).len)) = true then if (idx l.length (IntKind.i64.wrap (p + 1))) = true then if (n != 0) = true then some (.one (.int .i64 ((IntKind.i64.wrap (IntKind.i64.wrap (IntKind.i64.wrap (l.getD (IntKind.i64.wrap (IntKind.i64.wrap (p + 1) - 1)).toNat (dflt K.u8)) * 256) + IntKind.i64.wrap (l.getD (IntKind.i64.wrap (p + 1)).toNat (dflt K.u8)))).tmod n)), [.box [.vec false .u8 l, .int .i64 (IntKind.i64.wrap (IntKind.i64.wrap (p + 1) + 1))]])
                else none
              else none
            else if (n != 0) = true then some (.one (.int .i64 ((IntKind.i64.wrap (l.getD (IntKind.i64.wrap (IntKind.i64.wrap (p + 1) - 1)).toNat (dflt K.u8))).tmod n)), [.box [.vec false .u8 l, .int .i64 (IntKind.i64.wrap (p + 1))]])
              else none
          else if (n != 0) = true then some (.one (.int .i64 ((IntKind.i64.wrap (l.getD (IntKind.i64.wrap (IntKind.i64.wrap (p + 1) - 1)).toNat (dflt K.u8))).tmod n)), [.box [.vec false .u8 l, .int .i64 (IntKind.i64.wrap (p + 1))]])
            else none
        else none := by kernel_rfl
def s46 : Spec := ⟨false, fun av ob => match av, ob with
  | [.one (.ptr 0 0), .one (.int .i64 n)], [.box [.vec false .u8 l, .int .i64 p]] => .need (cok l p) (.ret (.one (.int .i64 (nextV l p n)), [.box [.vec false .u8 l, .int .i64 (nextP l p n)]]))
  | _, _ => .fail⟩
theorem v46 (l : List Int) (p n : Int) (h : cok l p = true) : h46 1 l p n = some (.one (.int .i64 (nextV l p n)), [.box [.vec false .u8 l, .int .i64 (nextP l p n)]]) := by
  rw [h46_eq]
  rw [cok_iff] at h
  obtain ⟨h1, h2, h3, h4⟩ := h
  have g := getD_in h4
  have e1 : IntKind.i64.wrap (p + 1) = p + 1 := wid (by omega) (by omega)
  have e2 : IntKind.i64.wrap (p + 1 - 1) = p := by rw [wid (by omega) (by omega)]; omega
  have e3 : IntKind.i64.wrap (p + 1 + 1) = p + 2 := by rw [wid (by omega) (by omega)]; omega
  have gd : ∀ i : Nat, l.getD i (dflt K.u8) = l.getD i 0 := fun _ => rfl
  have g0 := g p.toNat
  have g1 := g (p + 1).toNat
  have e4 : IntKind.i64.wrap (l.getD p.toNat 0) = l.getD p.toNat 0 := wid (by omega) (by omega)
  have e5 : IntKind.i64.wrap (l.getD (p + 1).toNat 0) = l.getD (p + 1).toNat 0 := wid (by omega) (by omega)
  have e6 : IntKind.i64.wrap (l.getD p.toNat 0 * 256) = l.getD p.toNat 0 * 256 := wid (by omega) (by omega)
  have e7 : IntKind.i64.wrap (l.getD p.toNat 0 * 256 + l.getD (p + 1).toNat 0) = l.getD p.toNat 0 * 256 + l.getD (p + 1).toNat 0 := wid (by omega) (by omega)
  have el : ((AnyL.of false K.u8 l).len : Int) = (l.length : Int) := rfl
  simp only [gd, e1, e2, e3, e4, e5, e6, e7, el, decide_eq_true_eq, idx, Bool.and_eq_true]
  unfold nextV nextP
  by_cases c1 : n < 1
  · simp only [c1, if_true]
  · by_cases c2 : p ≥ l.length
    · simp only [c1, c2, if_true, if_false]
    · have c3 : n ≠ 0 := by omega
      have c4 : (n != 0) = true := by simpa using c3
      by_cases c5 : n > 256
      · by_cases c6 : p + 1 < l.length
        · simp only [c1, c2, c4, c5, c6, if_true, if_false, and_self]
          have c7 : 0 ≤ p ∧ p < l.length := by omega
          have c8 : 0 ≤ p + 1 ∧ p + 1 < l.length := by omega
          simp only [c7, c8, and_self, if_true]
        · simp only [c1, c2, c4, c5, c6, if_true, if_false, and_false]
          rw [if_pos (by omega)]
      · simp only [c1, c2, c4, c5, if_true, if_false, false_and]
        rw [if_pos (by omega)]
theorem p46 : SpecOK Try.prog 46 s46 := by
  refine specOK_of (env_ok (l := l46) trivial) mixed_ok Try.func46 k46 fun av ob r os h => ?_
  simp only [s46] at h
  split at h
  · rename_i n l p
    obtain ⟨hg, h⟩ := need_den h
    cases h
    have hv := v46 l p n hg
    unfold h46 at hv
    exact ⟨1, hv⟩
  · cases h
theorem f46 : FnOK Try.prog 46 := fnOK_of Try.func46 rfl (by kernel_rfl)
end Go.Proofs.Ytipfipnhgpbceaa.Sx
/- What the program's small functions do, continued (plain theorems). -/

set_option linter.unusedVariables false
set_option linter.unusedSimpArgs false
set_option maxRecDepth 100000
namespace Go.Proofs.Ytipfipnhgpbceaa.Sx
open Go Go.RowKit
def l55 : List (FuncId × Spec) := [(46, s46)]
def k55 : Code → Keep := keepOf []
noncomputable def h55 (fl : Nat) (l : List Int) (p n : Int) : Option (AV × List Ob) := (evalF (env l55) Try.f55 k55 fl [.one (.ptr 0 0), .one (.int .i64 n)] [.box [.vec false .u8 l, .int .i64 p]]).den
theorem h55_eq (fl : Nat) (l : List Int) (p n : Int) : h55 (fl + 1) l p n =
    if (cok l p) = true then some (.one (.bool (nextV l p n == IntKind.i64.wrap (n - 1))), [.box [.vec false .u8 l, .int .i64 (nextP l p n)]])
    else none := by kernel_rfl
def s55 : Spec := ⟨false, fun av ob => match av, ob with
  | [.one (.ptr 0 0), .one (.int .i64 n)], [.box [.vec false .u8 l, .int .i64 p]] => .need (cok l p) (.ret (.one (.bool (nextV l p n == wr64 (n - 1))), [.box [.vec false .u8 l, .int .i64 (nextP l p n)]]))
  | _, _ => .fail⟩
theorem v55 (l : List Int) (p n : Int) (h : cok l p = true) : h55 1 l p n = some (.one (.bool (nextV l p n == wr64 (n - 1))), [.box [.vec false .u8 l, .int .i64 (nextP l p n)]]) := by
  rw [h55_eq, if_pos h]
theorem p55 : SpecOK Try.prog 55 s55 := by
  refine specOK_of (env_ok (l := l55) ⟨⟨p46, f46⟩, trivial⟩) mixed_ok Try.func55 k55 fun av ob r os h => ?_
  simp only [s55] at h
  split at h
  · rename_i n l p
    obtain ⟨hg, h⟩ := need_den h
    cases h
    have hv := v55 l p n hg
    unfold h55 at hv
    exact ⟨1, hv⟩
  · cases h
theorem f55 : FnOK Try.prog 55 := fnOK_of Try.func55 rfl (by kernel_rfl)
def l32 : List (FuncId × Spec) := [(46, s46)]
def k32 : Code → Keep := keepOf []
noncomputable def h32 (fl : Nat) (l : List Int) (p lo hi : Int) : Option (AV × List Ob) := (evalF (env l32) Try.f32 k32 fl [.one (.ptr 0 0), .one (.int .i64 lo), .one (.int .i64 hi)] [.box [.vec false .u8 l, .int .i64 p]]).den
theorem h32_eq (fl : Nat) (l : List Int) (p lo hi : Int) : h32 (fl + 1) l p lo hi =
    if (cok l p) = true then some (.one (.int .i64 (IntKind.i64.wrap (lo + nextV l p (IntKind.i64.wrap (IntKind.i64.wrap (hi - lo) + 1))))), [.box [.vec false .u8 l, .int .i64 (nextP l p (IntKind.i64.wrap (IntKind.i64.wrap (hi - lo) + 1)))]])
    else none := by kernel_rfl
def rangeN (lo hi : Int) : Int := wr64 (wr64 (hi - lo) + 1)
def s32 : Spec := ⟨false, fun av ob => match av, ob with
  | [.one (.ptr 0 0), .one (.int .i64 lo), .one (.int .i64 hi)], [.box [.vec false .u8 l, .int .i64 p]] => .need (cok l p) (.ret (.one (.int .i64 (wr64 (lo + nextV l p (rangeN lo hi)))), [.box [.vec false .u8 l, .int .i64 (nextP l p (rangeN lo hi))]]))
  | _, _ => .fail⟩
theorem v32 (l : List Int) (p lo hi : Int) (h : cok l p = true) : h32 1 l p lo hi = some (.one (.int .i64 (wr64 (lo + nextV l p (rangeN lo hi)))), [.box [.vec false .u8 l, .int .i64 (nextP l p (rangeN lo hi))]]) := by
  rw [h32_eq, if_pos h]; rfl
theorem p32 : SpecOK Try.prog 32 s32 := by
  refine specOK_of (env_ok (l := l32) ⟨⟨p46, f46⟩, trivial⟩) mixed_ok Try.func32 k32 fun av ob r os h => ?_
  simp only [s32] at h
  split at h
  · rename_i lo hi l p
    obtain ⟨hg, h⟩ := need_den h
    cases h
    have hv := v32 l p lo hi hg
    unfold h32 at hv
    exact ⟨1, hv⟩
  · cases h
theorem f32 : FnOK Try.prog 32 := fnOK_of Try.func32 rfl (by kernel_rfl)
def l35 : List (FuncId × Spec) := []
def k35 : Code → Keep := keepOf []
noncomputable def h35 (fl : Nat)  : Option (AV × List Ob) := (evalF (env l35) Try.f35 k35 fl [] []).den
theorem h35_eq (fl : Nat)  : h35 (fl + 1)  =
    some (.agg [.int .i64 (-1125899906842624), .int .i64 1125899906842624], []) := by kernel_rfl
def s35 : Spec := ⟨false, fun av ob => match av, ob with
  | [], [] => .ret (.agg [.int .i64 (-1125899906842624), .int .i64 1125899906842624], [])
  | _, _ => .fail⟩
theorem p35 : SpecOK Try.prog 35 s35 := by
  refine specOK_of (env_ok (l := l35) trivial) mixed_ok Try.func35 k35 fun av ob r os h => ?_
  simp only [s35] at h
  split at h
  · skip
    cases h
    have hv := h35_eq 0
    unfold h35 at hv
    exact ⟨1, hv⟩
  · cases h
theorem f35 : FnOK Try.prog 35 := fnOK_of Try.func35 rfl (by kernel_rfl)
def l54 : List (FuncId × Spec) := []
def k54 : Code → Keep := keepOf []
noncomputable def h54 (fl : Nat)  : Option (AV × List Ob) := (evalF (env l54) Try.f54 k54 fl [] []).den
theorem h54_eq (fl : Nat)  : h54 (fl + 1)  =
    some (.agg [.int .i64 (-1125899906842624), .int .i64 1125899906842624], []) := by kernel_rfl
def s54 : Spec := ⟨false, fun av ob => match av, ob with
  | [], [] => .ret (.agg [.int .i64 (-1125899906842624), .int .i64 1125899906842624], [])
  | _, _ => .fail⟩
theorem p54 : SpecOK Try.prog 54 s54 := by
  refine specOK_of (env_ok (l := l54) trivial) mixed_ok Try.func54 k54 fun av ob r os h => ?_
  simp only [s54] at h
  split at h
  · skip
    cases h
    have hv := h54_eq 0
    unfold h54 at hv
    exact ⟨1, hv⟩
  · cases h
theorem f54 : FnOK Try.prog 54 := fnOK_of Try.func54 rfl (by kernel_rfl)
def l84 : List (FuncId × Spec) := []
def k84 : Code → Keep := keepOf []
noncomputable def h84 (fl : Nat) (k : Int) : Option (AV × List Ob) := (evalF (env l84) Try.f84 k84 fl [.one (.int .i64 k)] []).den
theorem h84_eq (fl : Nat) (k : Int) : h84 (fl + 1) k =
    some (.one (.bool (decide (k ≥ 4))), []) := by kernel_rfl
def s84 : Spec := ⟨false, fun av ob => match av, ob with
  | [.one (.int .i64 k)], [] => .ret (.one (.bool (decide (k ≥ 4))), [])
  | _, _ => .fail⟩
theorem p84 : SpecOK Try.prog 84 s84 := by
  refine specOK_of (env_ok (l := l84) trivial) mixed_ok Try.func84 k84 fun av ob r os h => ?_
  simp only [s84] at h
  split at h
  · rename_i k
    cases h
    have hv := h84_eq 0 k
    unfold h84 at hv
    exact ⟨1, hv⟩
  · cases h
theorem f84 : FnOK Try.prog 84 := fnOK_of Try.func84 rfl (by kernel_rfl)
def l86 : List (FuncId × Spec) := []
def k86 : Code → Keep := keepOf []
noncomputable def h86 (fl : Nat) (k : Int) : Option (AV × List Ob) := (evalF (env l86) Try.f86 k86 fl [.one (.int .i64 k)] []).den
theorem h86_eq (fl : Nat) (k : Int) : h86 (fl + 1) k =
    if (k == 1) = true then some (.one (.bool true), [])
    else some (.one (.bool (k == 2)), []) := by kernel_rfl
def s86 : Spec := ⟨false, fun av ob => match av, ob with
  | [.one (.int .i64 k)], [] => .ret (.one (.bool (k == 1 || k == 2)), [])
  | _, _ => .fail⟩
theorem v86 (k : Int) : h86 1 k = some (.one (.bool (k == 1 || k == 2)), []) := by
  rw [h86_eq]; cases h : k == 1 <;> rfl
theorem p86 : SpecOK Try.prog 86 s86 := by
  refine specOK_of (env_ok (l := l86) trivial) mixed_ok Try.func86 k86 fun av ob r os h => ?_
  simp only [s86] at h
  split at h
  · rename_i k
    cases h
    have hv := v86 k
    unfold h86 at hv
    exact ⟨1, hv⟩
  · cases h
theorem f86 : FnOK Try.prog 86 := fnOK_of Try.func86 rfl (by kernel_rfl)
def l87 : List (FuncId × Spec) := []
def k87 : Code → Keep := keepOf []
noncomputable def h87 (fl : Nat) (k : Int) : Option (AV × List Ob) := (evalF (env l87) Try.f87 k87 fl [.one (.int .i64 k)] []).den
theorem h87_eq (fl : Nat) (k : Int) : h87 (fl + 1) k =
    if (k == 4) = true then some (.one (.bool true), [])
    else if (k == 5) = true then some (.one (.bool true), [])
      else some (.one (.bool (k == 6)), []) := by kernel_rfl
def s87 : Spec := ⟨false, fun av ob => match av, ob with
  | [.one (.int .i64 k)], [] => .ret (.one (.bool (k == 4 || (k == 5 || k == 6))), [])
  | _, _ => .fail⟩
theorem v87 (k : Int) : h87 1 k = some (.one (.bool (k == 4 || (k == 5 || k == 6))), []) := by
  rw [h87_eq]; cases h : k == 4 <;> cases h2 : k == 5 <;> rfl
theorem p87 : SpecOK Try.prog 87 s87 := by
  refine specOK_of (env_ok (l := l87) trivial) mixed_ok Try.func87 k87 fun av ob r os h => ?_
  simp only [s87] at h
  split at h
  · rename_i k
    cases h
    have hv := v87 k
    unfold h87 at hv
    exact ⟨1, hv⟩
  · cases h
theorem f87 : FnOK Try.prog 87 := fnOK_of Try.func87 rfl (by kernel_rfl)
def l53 : List (FuncId × Spec) := []
def k53 : Code → Keep := keepOf []
noncomputable def h53 (fl : Nat) (a b : Int) : Option (AV × List Ob) := (evalF (env l53) Try.f53 k53 fl [.one (.int .i64 a), .one (.int .i64 b)] []).den
theorem h53_eq (fl : Nat) (a b : Int) : h53 (fl + 1) a b =
    if (b != 0) = true then if (b != 0) = true then if (decide (a.tmod b < 0)) = true then some (.one (.int .i64 (IntKind.i64.wrap (IntKind.i64.wrap (a.tdiv b) - 1))), [])
        else some (.one (.int .i64 (IntKind.i64.wrap (a.tdiv b))), [])
      else none
    else none := by kernel_rfl
def flo (a b : Int) : Int := if a.tmod b < 0 then wr64 (wr64 (a.tdiv b) - 1) else wr64 (a.tdiv b)
def s53 : Spec := ⟨false, fun av ob => match av, ob with
  | [.one (.int .i64 a), .one (.int .i64 b)], [] => .need (b != 0) (.ret (.one (.int .i64 (flo a b)), []))
  | _, _ => .fail⟩
theorem v53 (a b : Int) (h : (b != 0) = true) : h53 1 a b = some (.one (.int .i64 (flo a b)), []) := by
  rw [h53_eq, if_pos h, if_pos h]; unfold flo
  by_cases c : a.tmod b < 0 <;> simp [c, wr64]
theorem p53 : SpecOK Try.prog 53 s53 := by
  refine specOK_of (env_ok (l := l53) trivial) mixed_ok Try.func53 k53 fun av ob r os h => ?_
  simp only [s53] at h
  split at h
  · rename_i a b
    obtain ⟨hg, h⟩ := need_den h
    cases h
    have hv := v53 a b hg
    unfold h53 at hv
    exact ⟨1, hv⟩
  · cases h
theorem f53 : FnOK Try.prog 53 := fnOK_of Try.func53 rfl (by kernel_rfl)
def l89 : List (FuncId × Spec) := []
def k89 : Code → Keep := keepOf []
noncomputable def h89 (fl : Nat) (n lo hi : Int) : Option (AV × List Ob) := (evalF (env l89) Try.f89 k89 fl [.one (.int .i64 n), .one (.int .i64 lo), .one (.int .i64 hi)] []).den
theorem h89_eq (fl : Nat) (n lo hi : Int) : h89 (fl + 1) n lo hi =
    if (decide (lo ≤ n)) = true then some (.one (.bool (decide (n ≤ hi))), [])
    else some (.one (.bool false), []) := by kernel_rfl
def s89 : Spec := ⟨false, fun av ob => match av, ob with
  | [.one (.int .i64 n), .one (.int .i64 lo), .one (.int .i64 hi)], [] => .ret (.one (.bool (decide (lo ≤ n) && decide (n ≤ hi))), [])
  | _, _ => .fail⟩
theorem v89 (n lo hi : Int) : h89 1 n lo hi = some (.one (.bool (decide (lo ≤ n) && decide (n ≤ hi))), []) := by
  rw [h89_eq]; cases h : decide (lo ≤ n) <;> rfl
theorem p89 : SpecOK Try.prog 89 s89 := by
  refine specOK_of (env_ok (l := l89) trivial) mixed_ok Try.func89 k89 fun av ob r os h => ?_
  simp only [s89] at h
  split at h
  · rename_i n lo hi
    cases h
    have hv := v89 n lo hi
    unfold h89 at hv
    exact ⟨1, hv⟩
  · cases h
theorem f89 : FnOK Try.prog 89 := fnOK_of Try.func89 rfl (by kernel_rfl)
def l88 : List (FuncId × Spec) := []
def k88 : Code → Keep := keepOf [(2, ⟨[0, 1, 9, 10, 11], [], []⟩)]
noncomputable def h88_0 (fl : Nat) (t0 : Int) (t1 : Int) (t9 : List Int) (t10 : Int) (t11 : Int) : Option (AV × List Ob) := (evalH (env l88) Try.f88 k88 0 fl (stkF Try.f88 [1, 0, 1, 0]) ⟨[.one (.int .i64 t0), .one (.int .i64 t1), .one (.undef), .one (.undef), .one (.undef), .one (.undef), .one (.undef), .one (.undef), .one (.undef), .one (.vec true .int t9), .one (.int .i64 t10), .one (.int .i64 t11), .one (.undef), .one (.undef), .one (.undef), .one (.undef), .one (.undef), .one (.undef), .one (.undef), .one (.undef), .one (.undef), .one (.undef), .one (.undef), .one (.undef)], [], 0⟩).den
noncomputable def h88 (fl : Nat) (lo hi : Int) (l : List Int) : Option (AV × List Ob) := (evalF (env l88) Try.f88 k88 fl [.one (.int .i64 lo), .one (.int .i64 hi), .one (.vec true .int l)] []).den
theorem h88_eq (fl : Nat) (lo hi : Int) (l : List Int) : h88 (fl + 1) lo hi l =
    h88_0 fl lo hi l (↑(AnyL.of true K.int l).len) 0 := by kernel_rfl
theorem h88_0_eq (fl : Nat) (t0 : Int) (t1 : Int) (t9 : List Int) (t10 : Int) (t11 : Int) : h88_0 (fl + 1) t0 t1 t9 t10 t11 =
    if (decide (t11 < t10)) = true then if (idx t9.length t11) = true then if (decide (t9.getD t11.toNat (dflt K.int) < t0)) = true then some (.one (.bool false), [])
        else if (decide (t9.getD t11.toNat (dflt K.int) > t1)) = true then some (.one (.bool false), [])
          else h88_0 fl t0 t1 t9 t10 (IntKind.i64.wrap (t11 + 1))
      else none
    else some (.one (.bool true), []) := by kernel_rfl
def inAll (lo hi : Int) (l : List Int) : Bool := l.all fun n => decide (lo ≤ n) && decide (n ≤ hi)
def s88 : Spec := ⟨false, fun av ob => match av, ob with
  | [.one (.int .i64 lo), .one (.int .i64 hi), .one (.vec true .int l)], [] => .need (decide (l.length ≤ 1000000)) (.ret (.one (.bool (inAll lo hi l)), []))
  | _, _ => .fail⟩
theorem v88_0 (lo hi : Int) (l : List Int) (hl : l.length ≤ 1000000) : ∀ (fl : Nat) (i : Nat), l.length < fl + i → i ≤ l.length → h88_0 fl lo hi l l.length i = some (.one (.bool (inAll lo hi (l.drop i))), [])
  | 0, i, h, hi' => by omega
  | fl + 1, i, h, hi' => by
    rw [h88_0_eq]
    by_cases hlt : i < l.length
    · have e1 : decide ((i : Int) < (l.length : Int)) = true := by simpa using hlt
      have e2 : idx l.length (i : Int) = true := by simp [idx]; omega
      have e3 : IntKind.i64.wrap ((i : Int) + 1) = ((i + 1 : Nat) : Int) := by rw [wid (by omega) (by omega)]; rfl
      have e4 : l.getD (i : Int).toNat (dflt K.int) = l[i] := by
        rw [Int.toNat_natCast, List.getD_eq_getElem?_getD, List.getElem?_eq_getElem hlt]; rfl
      have e5 : l.drop i = l[i] :: l.drop (i + 1) := List.drop_eq_getElem_cons hlt
      rw [if_pos e1, if_pos e2, e3, e4, e5, v88_0 lo hi l hl fl (i + 1) (by omega) (by omega)]
      unfold inAll
      rw [List.all_cons]
      by_cases c1 : l[i] < lo
      · have : decide (lo ≤ l[i]) = false := by simp; omega
        simp [c1, this]
      · have t1 : decide (lo ≤ l[i]) = true := by simp; omega
        by_cases c2 : l[i] > hi
        · have : decide (l[i] ≤ hi) = false := by simp; omega
          simp [c1, c2, t1, this]
        · have t2 : decide (l[i] ≤ hi) = true := by simp; omega
          simp [c1, c2, t1, t2]
    · have e1 : ¬ decide ((i : Int) < (l.length : Int)) = true := by simpa using hlt
      rw [if_neg e1, List.drop_eq_nil_of_le (by omega)]
      rfl
theorem v88 (lo hi : Int) (l : List Int) (h : decide (l.length ≤ 1000000) = true) : h88 (l.length + 2) lo hi l = some (.one (.bool (inAll lo hi l)), []) := by
  rw [h88_eq]
  exact v88_0 lo hi l (of_decide_eq_true h) (l.length + 1) 0 (by omega) (by omega)
theorem p88 : SpecOK Try.prog 88 s88 := by
  refine specOK_of (env_ok (l := l88) trivial) mixed_ok Try.func88 k88 fun av ob r os h => ?_
  simp only [s88] at h
  split at h
  · rename_i lo hi l
    obtain ⟨hg, h⟩ := need_den h
    cases h
    have hv := v88 lo hi l hg
    unfold h88 at hv
    exact ⟨l.length + 2, hv⟩
  · cases h
theorem f88 : FnOK Try.prog 88 := fnOK_of Try.func88 rfl (by kernel_rfl)
end Go.Proofs.Ytipfipnhgpbceaa.Sx
/- What the program's functions of sensors and windows do (plain theorems). -/

set_option linter.unusedVariables false
set_option linter.unusedSimpArgs false
set_option maxRecDepth 100000
namespace Go.Proofs.Ytipfipnhgpbceaa.Sx
open Go Go.RowKit
def checkS (s : Sensor) : Int :=
  if ¬ (1 ≤ s.kind ∧ s.kind ≤ 6) then 5 else
  if (0 ≤ s.addr ∧ s.addr ≤ 255) ∧ 0 ≤ s.target ∧ (-1000000 ≤ s.offset ∧ s.offset ≤ 1000000) ∧ (-1000000 ≤ s.scale ∧ s.scale ≤ 1000000) ∧ (0 ≤ s.error ∧ s.error ≤ 1000000) ∧ (0 ≤ s.drift ∧ s.drift ≤ 1000000) ∧ (1 ≤ s.life ∧ s.life ≤ 1000000) then 0 else 1
def l38 : List (FuncId × Spec) := [(88, s88)]
def k38 : Code → Keep := keepOf []
noncomputable def h38 (fl : Nat) (a b c d e f g h : Int) : Option (AV × List Ob) := (evalF (env l38) Try.f38 k38 fl [.agg [.int .i64 a, .int .i64 b, .int .i64 c, .int .i64 d, .int .i64 e, .int .i64 f, .int .i64 g, .int .i64 h]] []).den
theorem h38_eq (fl : Nat) (a b c d e f g h : Int) : h38 (fl + 1) a b c d e f g h =
    if (decide ([b].length ≤ 1000000)) = true then if (!inAll 1 6 [b]) = true then some (.one (.int .i64 5), [])
      else if (decide ([a].length ≤ 1000000)) = true then if (!inAll 0 255 [a]) = true then some (.one (.int .i64 1), [])
          else if (decide (c < 0)) = true then some (.one (.int .i64 1), [])
            else if (decide ([d, e].length ≤ 1000000)) = true then if (!inAll (-1000000) 1000000 [d, e]) = true then some (.one (.int .i64 1), [])
                else if (decide ([f, g].length ≤ 1000000)) = true then if (!inAll 0 1000000 [f, g]) = true then some (.one (.int .i64 1), [])
                    else if (decide ([h].length ≤ 1000000)) = true then if (!inAll 1 1000000 [h]) = true then some (.one (.int .i64 1), [])
                        else some (.one (.int .i64 0), [])
                      else none
                  else none
              else none
        else none
    else none := by kernel_rfl
def s38 : Spec := ⟨false, fun av ob => match av, ob with
  | [.agg [.int .i64 a, .int .i64 b, .int .i64 c, .int .i64 d, .int .i64 e, .int .i64 f, .int .i64 g, .int .i64 h]], [] => .ret (.one (.int .i64 (checkS ⟨a, b, c, d, e, f, g, h⟩)), [])
  | _, _ => .fail⟩
theorem inAll1 (lo hi a : Int) : inAll lo hi [a] = (decide (lo ≤ a) && decide (a ≤ hi)) := by simp [inAll]
theorem inAll2 (lo hi a b : Int) : inAll lo hi [a, b] = ((decide (lo ≤ a) && decide (a ≤ hi)) && (decide (lo ≤ b) && decide (b ≤ hi))) := by simp [inAll]
theorem v38 (a b c d e f g h : Int) : h38 1 a b c d e f g h = some (.one (.int .i64 (checkS ⟨a, b, c, d, e, f, g, h⟩)), []) := by
  rw [h38_eq]
  simp only [inAll1, inAll2]
  have l1 : ∀ x : Int, decide ([x].length ≤ 1000000) = true := fun x => by simp
  have l2 : ∀ x y : Int, decide ([x, y].length ≤ 1000000) = true := fun x y => by simp
  simp only [l1, l2, if_true]
  unfold checkS
  simp only [Bool.not_eq_true', Bool.and_eq_false_iff, decide_eq_false_iff_not, decide_eq_true_eq]
  repeat' split
  all_goals first | rfl | (exfalso; omega)
theorem p38 : SpecOK Try.prog 38 s38 := by
  refine specOK_of (env_ok (l := l38) ⟨⟨p88, f88⟩, trivial⟩) mixed_ok Try.func38 k38 fun av ob r os h => ?_
  simp only [s38] at h
  split at h
  · rename_i a b c d e f g h
    cases h
    have hv := v38 a b c d e f g h
    unfold h38 at hv
    exact ⟨1, hv⟩
  · cases h
theorem f38 : FnOK Try.prog 38 := fnOK_of Try.func38 rfl (by kernel_rfl)
def l39 : List (FuncId × Spec) := [(89, s89)]
def k39 : Code → Keep := keepOf []
noncomputable def h39 (fl : Nat) (a b c d e f g h : Int) : Option (AV × List Ob) := (evalF (env l39) Try.f39 k39 fl [.agg [.int .i64 a, .int .i64 b, .int .i64 c, .int .i64 d, .int .i64 e, .int .i64 f, .int .i64 g, .int .i64 h]] []).den
theorem h39_eq (fl : Nat) (a b c d e f g h : Int) : h39 (fl + 1) a b c d e f g h =
    if (!(decide (1 ≤ b) && decide (b ≤ 6))) = true then some (.one (.int .i64 5), [])
    else if (!(decide (0 ≤ a) && decide (a ≤ 255))) = true then some (.one (.int .i64 1), [])
      else if (decide (c < 0)) = true then some (.one (.int .i64 1), [])
        else if (!(decide (-1000000 ≤ d) && decide (d ≤ 1000000))) = true then some (.one (.int .i64 1), [])
          else if (!(decide (-1000000 ≤ e) && decide (e ≤ 1000000))) = true then some (.one (.int .i64 1), [])
            else if (!(decide (0 ≤ f) && decide (f ≤ 1000000))) = true then some (.one (.int .i64 1), [])
              else if (!(decide (0 ≤ g) && decide (g ≤ 1000000))) = true then some (.one (.int .i64 1), [])
                else if (!(decide (1 ≤ h) && decide (h ≤ 1000000))) = true then some (.one (.int .i64 1), [])
                  else some (.one (.int .i64 0), []) := by kernel_rfl
def s39 : Spec := ⟨false, fun av ob => match av, ob with
  | [.agg [.int .i64 a, .int .i64 b, .int .i64 c, .int .i64 d, .int .i64 e, .int .i64 f, .int .i64 g, .int .i64 h]], [] => .ret (.one (.int .i64 (checkS ⟨a, b, c, d, e, f, g, h⟩)), [])
  | _, _ => .fail⟩
theorem v39 (a b c d e f g h : Int) : h39 1 a b c d e f g h = some (.one (.int .i64 (checkS ⟨a, b, c, d, e, f, g, h⟩)), []) := by
  rw [h39_eq]
  unfold checkS
  simp only [Bool.not_eq_true', Bool.and_eq_false_iff, decide_eq_false_iff_not, decide_eq_true_eq]
  repeat' split
  all_goals first | rfl | (exfalso; omega)
theorem p39 : SpecOK Try.prog 39 s39 := by
  refine specOK_of (env_ok (l := l39) ⟨⟨p89, f89⟩, trivial⟩) mixed_ok Try.func39 k39 fun av ob r os h => ?_
  simp only [s39] at h
  split at h
  · rename_i a b c d e f g h
    cases h
    have hv := v39 a b c d e f g h
    unfold h39 at hv
    exact ⟨1, hv⟩
  · cases h
theorem f39 : FnOK Try.prog 39 := fnOK_of Try.func39 rfl (by kernel_rfl)
def l85 : List (FuncId × Spec) := [(53, s53)]
def k85 : Code → Keep := keepOf []
noncomputable def h85 (fl : Nat) (a b : Int) : Option (AV × List Ob) := (evalF (env l85) Try.f85 k85 fl [.one (.int .i64 a), .one (.int .i64 b)] []).den
theorem h85_eq (fl : Nat) (a b : Int) : h85 (fl + 1) a b =
    if (b != 0) = true then some (.one (.int .i64 (IntKind.i64.wrap (0 - flo (IntKind.i64.wrap (0 - a)) b))), [])
    else none := by kernel_rfl
def cei (a b : Int) : Int := wr64 (0 - flo (wr64 (0 - a)) b)
def s85 : Spec := ⟨false, fun av ob => match av, ob with
  | [.one (.int .i64 a), .one (.int .i64 b)], [] => .need (b != 0) (.ret (.one (.int .i64 (cei a b)), []))
  | _, _ => .fail⟩
theorem v85 (a b : Int) (h : (b != 0) = true) : h85 1 a b = some (.one (.int .i64 (cei a b)), []) := by
  rw [h85_eq, if_pos h]; rfl
theorem p85 : SpecOK Try.prog 85 s85 := by
  refine specOK_of (env_ok (l := l85) ⟨⟨p53, f53⟩, trivial⟩) mixed_ok Try.func85 k85 fun av ob r os h => ?_
  simp only [s85] at h
  split at h
  · rename_i a b
    obtain ⟨hg, h⟩ := need_den h
    cases h
    have hv := v85 a b hg
    unfold h85 at hv
    exact ⟨1, hv⟩
  · cases h
theorem f85 : FnOK Try.prog 85 := fnOK_of Try.func85 rfl (by kernel_rfl)
/-! ### A measurement out of codes -/
def l25 : List (FuncId × Spec) := [(46, s46), (32, s32), (55, s55), (35, s35)]
def k25 : Code → Keep := keepOf []
noncomputable def h25 (fl : Nat) (l : List Int) (p : Int) : Option (AV × List Ob) := (evalF (env l25) Try.f25 k25 fl [.one (.ptr 0 0)] [.box [.vec false .u8 l, .int .i64 p]]).den
theorem h25_eq (fl : Nat) (l : List Int) (p : Int) : h25 (fl + 1) l p =
    if (cok l p) = true then if (cok l (nextP l p 3)) = true then if (cok l (nextP l (nextP l p 3) 200)) = true then if (cok l (nextP l (nextP l (nextP l p 3) 200) 121)) = true then if (cok l (nextP l (nextP l (nextP l (nextP l p 3) 200) 121) 40)) = true then if (nextV l (nextP l (nextP l (nextP l (nextP l p 3) 200) 121) 40) 8 == 7) = true then if (cok l (nextP l (nextP l (nextP l (nextP l (nextP l p 3) 200) 121) 40) 8)) = true then if (nextV l (nextP l (nextP l (nextP l (nextP l (nextP l p 3) 200) 121) 40) 8) 12 == 11) = true then some (.agg [.int .i64 (-1), .int .i64 (nextV l (nextP l p 3) 200), .int .i64 (-1125899906842624), .int .i64 1125899906842624], [.box [.vec false .u8 l, .int .i64 (nextP l (nextP l (nextP l (nextP l (nextP l (nextP l p 3) 200) 121) 40) 8) 12)]])
                  else some (.agg [.int .i64 (nextV l p 3), .int .i64 (nextV l (nextP l p 3) 200), .int .i64 (-1125899906842624), .int .i64 1125899906842624], [.box [.vec false .u8 l, .int .i64 (nextP l (nextP l (nextP l (nextP l (nextP l (nextP l p 3) 200) 121) 40) 8) 12)]])
                else none
              else if (cok l (nextP l (nextP l (nextP l (nextP l (nextP l p 3) 200) 121) 40) 8)) = true then if (nextV l (nextP l (nextP l (nextP l (nextP l (nextP l p 3) 200) 121) 40) 8) 12 == 11) = true then some (.agg [.int .i64 (-1), .int .i64 (nextV l (nextP l p 3) 200), .int .i64 (wr64 (-30 + nextV l (nextP l (nextP l p 3) 200) 121)), .int .i64 (IntKind.i64.wrap (wr64 (-30 + nextV l (nextP l (nextP l p 3) 200) 121) + nextV l (nextP l (nextP l (nextP l p 3) 200) 121) 40))], [.box [.vec false .u8 l, .int .i64 (nextP l (nextP l (nextP l (nextP l (nextP l (nextP l p 3) 200) 121) 40) 8) 12)]])
                  else some (.agg [.int .i64 (nextV l p 3), .int .i64 (nextV l (nextP l p 3) 200), .int .i64 (wr64 (-30 + nextV l (nextP l (nextP l p 3) 200) 121)), .int .i64 (IntKind.i64.wrap (wr64 (-30 + nextV l (nextP l (nextP l p 3) 200) 121) + nextV l (nextP l (nextP l (nextP l p 3) 200) 121) 40))], [.box [.vec false .u8 l, .int .i64 (nextP l (nextP l (nextP l (nextP l (nextP l (nextP l p 3) 200) 121) 40) 8) 12)]])
                else none
            else none
          else none
        else none
      else none
    else none := by kernel_rfl
def after6 (l : List Int) (p : Int) : Int := nextP l (nextP l (nextP l (nextP l (nextP l (nextP l p 3) 200) 121) 40) 8) 12
def spanM (l : List Int) (p : Int) : Span :=
  let q := nextP l (nextP l p 3) 200
  if nextV l (nextP l (nextP l q 121) 40) 8 = 7 then ⟨-1125899906842624, 1125899906842624⟩
  else ⟨wr64 (-30 + nextV l q 121), wr64 (wr64 (-30 + nextV l q 121) + nextV l (nextP l q 121) 40)⟩
def sensM (l : List Int) (p : Int) : Int := if nextV l (nextP l (nextP l (nextP l (nextP l (nextP l p 3) 200) 121) 40) 8) 12 = 11 then -1 else nextV l p 3
def timeM (l : List Int) (p : Int) : Int := nextV l (nextP l p 3) 200
def s25 : Spec := ⟨false, fun av ob => match av, ob with
  | [.one (.ptr 0 0)], [.box [.vec false .u8 l, .int .i64 p]] => .need (cok l p) (.ret (.agg [.int .i64 (sensM l p), .int .i64 (timeM l p), .int .i64 (spanM l p).lo, .int .i64 (spanM l p).hi], [.box [.vec false .u8 l, .int .i64 (after6 l p)]]))
  | _, _ => .fail⟩
theorem v25 (l : List Int) (p : Int) (h : cok l p = true) : h25 1 l p = some (.agg [.int .i64 (sensM l p), .int .i64 (timeM l p), .int .i64 (spanM l p).lo, .int .i64 (spanM l p).hi], [.box [.vec false .u8 l, .int .i64 (after6 l p)]]) := by
  rw [h25_eq]
  have k1 := cok_next (n := 3) h
  have k2 := cok_next (n := 200) k1
  have k3 := cok_next (n := 121) k2
  have k4 := cok_next (n := 40) k3
  have k5 := cok_next (n := 8) k4
  simp only [h, k1, k2, k3, k4, k5, if_true, beq_iff_eq]
  unfold sensM timeM spanM after6
  dsimp only
  split <;> split <;> rfl
theorem p25 : SpecOK Try.prog 25 s25 := by
  refine specOK_of (env_ok (l := l25) ⟨⟨p46, f46⟩, ⟨⟨p32, f32⟩, ⟨⟨p55, f55⟩, ⟨⟨p35, f35⟩, trivial⟩⟩⟩⟩) mixed_ok Try.func25 k25 fun av ob r os h => ?_
  simp only [s25] at h
  split at h
  · rename_i l p
    obtain ⟨hg, h⟩ := need_den h
    cases h
    have hv := v25 l p hg
    unfold h25 at hv
    exact ⟨1, hv⟩
  · cases h
theorem f25 : FnOK Try.prog 25 := fnOK_of Try.func25 rfl (by kernel_rfl)
end Go.Proofs.Ytipfipnhgpbceaa.Sx
/- What measurements say at a time (plain theorems). -/

set_option linter.unusedVariables false
set_option linter.unusedSimpArgs false
set_option maxRecDepth 100000
namespace Go.Proofs.Ytipfipnhgpbceaa.Sx
open Go Go.RowKit
abbrev nothing : Span := ⟨-1125899906842624, 1125899906842624⟩
def atDead (s : Sensor) (m : Measure) (t : Int) : Bool :=
  checkS s != 0 || (decide (m.sensor < 0) || ((m.lo == -1125899906842624 && m.hi == 1125899906842624) || (decide (t < m.time) || decide (wr64 (t - m.time) > s.life))))
def moreI (s : Sensor) (m : Measure) (t : Int) : Int := wr64 ((wr64 (wr64 (s.drift * wr64 (t - m.time)) + 999)).tdiv 1000)
def moreR (s : Sensor) (m : Measure) (t : Int) : Int := cei (wr64 (s.drift * wr64 (t - m.time))) 1000
def widen (gassy : Bool) (m : Measure) (w : Int) : Span :=
  if gassy then ⟨mx (wr64 (m.lo - w)) 0, mx (wr64 (m.hi + w)) 0⟩ else ⟨wr64 (m.lo - w), wr64 (m.hi + w)⟩
def atI (s : Sensor) (m : Measure) (t : Int) : Span :=
  if atDead s m t then nothing else if s.kind == 4 || (s.kind == 5 || s.kind == 6) then ⟨m.lo, m.hi⟩ else widen (s.kind == 1 || s.kind == 2) m (moreI s m t)
def atR (s : Sensor) (m : Measure) (t : Int) : Span :=
  if atDead s m t then nothing else if decide (s.kind ≥ 4) then ⟨m.lo, m.hi⟩ else widen (s.kind == 1 || s.kind == 2) m (moreR s m t)
def l36 : List (FuncId × Spec) := [(54, s54), (38, s38), (87, s87)]
def k36 : Code → Keep := keepOf []
noncomputable def h36 (fl : Nat) (a b c d e f g h s m lo hi t : Int) : Option (AV × List Ob) := (evalF (env l36) Try.f36 k36 fl [.agg [.int .i64 a, .int .i64 b, .int .i64 c, .int .i64 d, .int .i64 e, .int .i64 f, .int .i64 g, .int .i64 h], .agg [.int .i64 s, .int .i64 m, .int .i64 lo, .int .i64 hi], .one (.int .i64 t)] []).den
theorem h36_eq (fl : Nat) (a b c d e f g h s m lo hi t : Int) : h36 (fl + 1) a b c d e f g h s m lo hi t =
    if (checkS { addr := a, kind := b, target := c, offset := d, scale := e, error := f, drift := g, life := h } != 0) = true then some (.agg [.int .i64 (-1125899906842624), .int .i64 1125899906842624], [])
    else if (decide (s < 0)) = true then some (.agg [.int .i64 (-1125899906842624), .int .i64 1125899906842624], [])
      else if (lo == -1125899906842624 && hi == 1125899906842624) = true then some (.agg [.int .i64 (-1125899906842624), .int .i64 1125899906842624], [])
        else if (decide (t < m)) = true then some (.agg [.int .i64 (-1125899906842624), .int .i64 1125899906842624], [])
          else if (decide (IntKind.i64.wrap (t - m) > h)) = true then some (.agg [.int .i64 (-1125899906842624), .int .i64 1125899906842624], [])
            else if (b == 4 || (b == 5 || b == 6)) = true then some (.agg [.int .i64 lo, .int .i64 hi], [])
              else if (b == 1) = true then some (.agg [.int .i64 (mx (IntKind.i64.wrap (lo - IntKind.i64.wrap ((IntKind.i64.wrap (IntKind.i64.wrap (g * IntKind.i64.wrap (t - m)) + 999)).tdiv 1000))) 0), .int .i64 (mx (IntKind.i64.wrap (hi + IntKind.i64.wrap ((IntKind.i64.wrap (IntKind.i64.wrap (g * IntKind.i64.wrap (t - m)) + 999)).tdiv 1000))) 0)], [])
                else if (b == 2) = true then some (.agg [.int .i64 (mx (IntKind.i64.wrap (lo - IntKind.i64.wrap ((IntKind.i64.wrap (IntKind.i64.wrap (g * IntKind.i64.wrap (t - m)) + 999)).tdiv 1000))) 0), .int .i64 (mx (IntKind.i64.wrap (hi + IntKind.i64.wrap ((IntKind.i64.wrap (IntKind.i64.wrap (g * IntKind.i64.wrap (t - m)) + 999)).tdiv 1000))) 0)], [])
                  else some (.agg [.int .i64 (IntKind.i64.wrap (lo - IntKind.i64.wrap ((IntKind.i64.wrap (IntKind.i64.wrap (g * IntKind.i64.wrap (t - m)) + 999)).tdiv 1000))), .int .i64 (IntKind.i64.wrap (hi + IntKind.i64.wrap ((IntKind.i64.wrap (IntKind.i64.wrap (g * IntKind.i64.wrap (t - m)) + 999)).tdiv 1000)))], []) := by kernel_rfl
def s36 : Spec := ⟨false, fun av ob => match av, ob with
  | [.agg [.int .i64 a, .int .i64 b, .int .i64 c, .int .i64 d, .int .i64 e, .int .i64 f, .int .i64 g, .int .i64 h], .agg [.int .i64 s, .int .i64 m, .int .i64 lo, .int .i64 hi], .one (.int .i64 t)], [] => .ret (.agg [.int .i64 (atI ⟨a, b, c, d, e, f, g, h⟩ ⟨s, m, lo, hi⟩ t).lo, .int .i64 (atI ⟨a, b, c, d, e, f, g, h⟩ ⟨s, m, lo, hi⟩ t).hi], [])
  | _, _ => .fail⟩
theorem v36 (a b c d e f g h s m lo hi t : Int) : h36 1 a b c d e f g h s m lo hi t = some (.agg [.int .i64 (atI ⟨a, b, c, d, e, f, g, h⟩ ⟨s, m, lo, hi⟩ t).lo, .int .i64 (atI ⟨a, b, c, d, e, f, g, h⟩ ⟨s, m, lo, hi⟩ t).hi], []) := by
  rw [h36_eq]
  unfold atI atDead moreI widen
  dsimp only
  cases k1 : (checkS ⟨a, b, c, d, e, f, g, h⟩ != 0)
  · cases k2 : decide (s < 0)
    · cases k3 : (lo == -1125899906842624 && hi == 1125899906842624)
      · cases k4 : decide (t < m)
        · cases k5 : decide (IntKind.i64.wrap (t - m) > h)
          · cases k6 : (b == 4 || (b == 5 || b == 6))
            · cases k7 : b == 1 <;> cases k8 : b == 2 <;> simp [wr64]
            · simp [wr64]
          · simp [wr64]
        · simp
      · simp
    · simp
  · simp
theorem p36 : SpecOK Try.prog 36 s36 := by
  refine specOK_of (env_ok (l := l36) ⟨⟨p54, f54⟩, ⟨⟨p38, f38⟩, ⟨⟨p87, f87⟩, trivial⟩⟩⟩) mixed_ok Try.func36 k36 fun av ob r os h => ?_
  simp only [s36] at h
  split at h
  · rename_i a b c d e f g h s m lo hi t
    cases h
    have hv := v36 a b c d e f g h s m lo hi t
    unfold h36 at hv
    exact ⟨1, hv⟩
  · cases h
theorem f36 : FnOK Try.prog 36 := fnOK_of Try.func36 rfl (by kernel_rfl)
def l33 : List (FuncId × Spec) := [(39, s39), (35, s35), (84, s84), (85, s85), (86, s86)]
def k33 : Code → Keep := keepOf []
noncomputable def h33 (fl : Nat) (a b c d e f g h s m lo hi t : Int) : Option (AV × List Ob) := (evalF (env l33) Try.f33 k33 fl [.agg [.int .i64 a, .int .i64 b, .int .i64 c, .int .i64 d, .int .i64 e, .int .i64 f, .int .i64 g, .int .i64 h], .agg [.int .i64 s, .int .i64 m, .int .i64 lo, .int .i64 hi], .one (.int .i64 t)] []).den
theorem h33_eq (fl : Nat) (a b c d e f g h s m lo hi t : Int) : h33 (fl + 1) a b c d e f g h s m lo hi t =
    if (checkS { addr := a, kind := b, target := c, offset := d, scale := e, error := f, drift := g, life := h } != 0) = true then some (.agg [.int .i64 (-1125899906842624), .int .i64 1125899906842624], [])
    else if (decide (s < 0)) = true then some (.agg [.int .i64 (-1125899906842624), .int .i64 1125899906842624], [])
      else if (lo == -1125899906842624 && hi == 1125899906842624) = true then some (.agg [.int .i64 (-1125899906842624), .int .i64 1125899906842624], [])
        else if (decide (t < m)) = true then some (.agg [.int .i64 (-1125899906842624), .int .i64 1125899906842624], [])
          else if (decide (IntKind.i64.wrap (t - m) > h)) = true then some (.agg [.int .i64 (-1125899906842624), .int .i64 1125899906842624], [])
            else if (decide (b ≥ 4)) = true then some (.agg [.int .i64 lo, .int .i64 hi], [])
              else if (b == 1 || b == 2) = true then some (.agg [.int .i64 (mx (IntKind.i64.wrap (lo - cei (IntKind.i64.wrap (g * IntKind.i64.wrap (t - m))) 1000)) 0), .int .i64 (mx (IntKind.i64.wrap (hi + cei (IntKind.i64.wrap (g * IntKind.i64.wrap (t - m))) 1000)) 0)], [])
                else some (.agg [.int .i64 (IntKind.i64.wrap (lo - cei (IntKind.i64.wrap (g * IntKind.i64.wrap (t - m))) 1000)), .int .i64 (IntKind.i64.wrap (hi + cei (IntKind.i64.wrap (g * IntKind.i64.wrap (t - m))) 1000))], []) := by kernel_rfl
def s33 : Spec := ⟨false, fun av ob => match av, ob with
  | [.agg [.int .i64 a, .int .i64 b, .int .i64 c, .int .i64 d, .int .i64 e, .int .i64 f, .int .i64 g, .int .i64 h], .agg [.int .i64 s, .int .i64 m, .int .i64 lo, .int .i64 hi], .one (.int .i64 t)], [] => .ret (.agg [.int .i64 (atR ⟨a, b, c, d, e, f, g, h⟩ ⟨s, m, lo, hi⟩ t).lo, .int .i64 (atR ⟨a, b, c, d, e, f, g, h⟩ ⟨s, m, lo, hi⟩ t).hi], [])
  | _, _ => .fail⟩
theorem v33 (a b c d e f g h s m lo hi t : Int) : h33 1 a b c d e f g h s m lo hi t = some (.agg [.int .i64 (atR ⟨a, b, c, d, e, f, g, h⟩ ⟨s, m, lo, hi⟩ t).lo, .int .i64 (atR ⟨a, b, c, d, e, f, g, h⟩ ⟨s, m, lo, hi⟩ t).hi], []) := by
  rw [h33_eq]
  unfold atR atDead moreR widen
  dsimp only
  cases k1 : (checkS ⟨a, b, c, d, e, f, g, h⟩ != 0)
  · cases k2 : decide (s < 0)
    · cases k3 : (lo == -1125899906842624 && hi == 1125899906842624)
      · cases k4 : decide (t < m)
        · cases k5 : decide (IntKind.i64.wrap (t - m) > h)
          · cases k6 : decide (b ≥ 4)
            · cases k7 : (b == 1 || b == 2) <;> simp [wr64]
            · simp [wr64]
          · simp [wr64]
        · simp
      · simp
    · simp
  · simp
theorem p33 : SpecOK Try.prog 33 s33 := by
  refine specOK_of (env_ok (l := l33) ⟨⟨p39, f39⟩, ⟨⟨p35, f35⟩, ⟨⟨p84, f84⟩, ⟨⟨p85, f85⟩, ⟨⟨p86, f86⟩, trivial⟩⟩⟩⟩⟩) mixed_ok Try.func33 k33 fun av ob r os h => ?_
  simp only [s33] at h
  split at h
  · rename_i a b c d e f g h s m lo hi t
    cases h
    have hv := v33 a b c d e f g h s m lo hi t
    unfold h33 at hv
    exact ⟨1, hv⟩
  · cases h
theorem f33 : FnOK Try.prog 33 := fnOK_of Try.func33 rfl (by kernel_rfl)
end Go.Proofs.Ytipfipnhgpbceaa.Sx
/- The last time at which a value is surely less (plain theorems). -/

set_option linter.unusedVariables false
set_option linter.unusedSimpArgs false
set_option maxRecDepth 100000
namespace Go.Proofs.Ytipfipnhgpbceaa.Sx
open Go Go.RowKit
/-- A search by halves. -/
def bs (f : Int → Bool) : Nat → Int → Int → Int
  | 0, lo, _ => lo
  | n + 1, lo, hi => if lo < hi then (if f (lo + (hi - lo + 1).tdiv 2) then bs f n (lo + (hi - lo + 1).tdiv 2) hi else bs f n lo (lo + (hi - lo + 1).tdiv 2 - 1)) else lo
def lessAt (s : Sensor) (m : Measure) (v t : Int) : Bool := above (atI s m t) v == -1
def untilI (s : Sensor) (m : Measure) (v : Int) : Int := if above (atI s m m.time) v != -1 then -1 else bs (lessAt s m v) 42 m.time (m.time + s.life)
def untilOk (s : Sensor) (m : Measure) : Bool := decide (0 ≤ m.time) && (decide (m.time ≤ 1099511627776) && (decide (0 ≤ s.life) && decide (s.life ≤ 1099511627776)))
def l34 : List (FuncId × Spec) := [(36, s36), (28, s28)]
def k34 : Code → Keep := keepOf [(4, ⟨[2, 3, 4, 7, 8], [], []⟩)]
noncomputable def h34_0 (fl : Nat) (t2 : Int) (t7 : Int) (t8 : Int) (m0_0 : Int) (m0_1 : Int) (m0_2 : Int) (m0_3 : Int) (m0_4 : Int) (m0_5 : Int) (m0_6 : Int) (m0_7 : Int) (m1_0 : Int) (m1_1 : Int) (m1_2 : Int) (m1_3 : Int) : Option (AV × List Ob) := (evalH (env l34) Try.f34 k34 0 fl (stkF Try.f34 [1, 1, 1, 0, 0]) ⟨[.one (.undef), .one (.undef), .one (.int .i64 t2), .one (.ptr 0 0), .one (.ptr 1 0), .one (.undef), .one (.undef), .one (.int .i64 t7), .one (.int .i64 t8), .one (.undef), .one (.undef), .one (.undef), .one (.undef), .one (.undef), .one (.undef), .one (.undef), .one (.undef), .one (.undef), .one (.undef), .one (.undef), .one (.undef), .one (.undef), .one (.undef), .one (.undef), .one (.undef), .one (.undef), .one (.undef), .one (.undef), .one (.undef), .one (.undef), .one (.undef), .one (.undef), .one (.undef), .one (.undef), .one (.undef), .one (.undef), .one (.undef), .one (.undef), .one (.undef), .one (.undef), .one (.undef), .one (.undef), .one (.undef), .one (.undef), .one (.undef), .one (.undef)], [((0, 0), some (.cell (.int .i64 m0_0))), ((0, 1), some (.cell (.int .i64 m0_1))), ((0, 2), some (.cell (.int .i64 m0_2))), ((0, 3), some (.cell (.int .i64 m0_3))), ((0, 4), some (.cell (.int .i64 m0_4))), ((0, 5), some (.cell (.int .i64 m0_5))), ((0, 6), some (.cell (.int .i64 m0_6))), ((0, 7), some (.cell (.int .i64 m0_7))), ((1, 0), some (.cell (.int .i64 m1_0))), ((1, 1), some (.cell (.int .i64 m1_1))), ((1, 2), some (.cell (.int .i64 m1_2))), ((1, 3), some (.cell (.int .i64 m1_3)))], 2⟩).den
noncomputable def h34 (fl : Nat) (a b c d e f g h s m lo hi v : Int) : Option (AV × List Ob) := (evalF (env l34) Try.f34 k34 fl [.agg [.int .i64 a, .int .i64 b, .int .i64 c, .int .i64 d, .int .i64 e, .int .i64 f, .int .i64 g, .int .i64 h], .agg [.int .i64 s, .int .i64 m, .int .i64 lo, .int .i64 hi], .one (.int .i64 v)] []).den
theorem h34_eq (fl : Nat) (a b c d e f g h s m lo hi v : Int) : h34 (fl + 1) a b c d e f g h s m lo hi v =
    if (above { lo := (atI { addr := a, kind := b, target := c, offset := d, scale := e, error := f, drift := g, life := h } { sensor := s, time := m, lo := lo, hi := hi } m).lo, hi := (atI { addr := a, kind := b, target := c, offset := d, scale := e, error := f, drift := g, life := h } { sensor := s, time := m, lo := lo, hi := hi } m).hi } v != -1) = true then some (.one (.int .i64 (-1)), [])
    else h34_0 fl v m (IntKind.i64.wrap (m + h)) a b c d e f g h s m lo hi := by kernel_rfl
theorem h34_0_eq (fl : Nat) (t2 : Int) (t7 : Int) (t8 : Int) (m0_0 : Int) (m0_1 : Int) (m0_2 : Int) (m0_3 : Int) (m0_4 : Int) (m0_5 : Int) (m0_6 : Int) (m0_7 : Int) (m1_0 : Int) (m1_1 : Int) (m1_2 : Int) (m1_3 : Int) : h34_0 (fl + 1) t2 t7 t8 m0_0 m0_1 m0_2 m0_3 m0_4 m0_5 m0_6 m0_7 m1_0 m1_1 m1_2 m1_3 =
    if (decide (t7 < t8)) = true then if (above { lo := (atI { addr := m0_0, kind := m0_1, target := m0_2, offset := m0_3, scale := m0_4, error := m0_5, drift := m0_6, life := m0_7 } { sensor := m1_0, time := m1_1, lo := m1_2, hi := m1_3 } (IntKind.i64.wrap (t7 + IntKind.i64.wrap ((IntKind.i64.wrap (IntKind.i64.wrap (t8 - t7) + 1)).tdiv 2)))).lo, hi := (atI { addr := m0_0, kind := m0_1, target := m0_2, offset := m0_3, scale := m0_4, error := m0_5, drift := m0_6, life := m0_7 } { sensor := m1_0, time := m1_1, lo := m1_2, hi := m1_3 } (IntKind.i64.wrap (t7 + IntKind.i64.wrap ((IntKind.i64.wrap (IntKind.i64.wrap (t8 - t7) + 1)).tdiv 2)))).hi } t2 == -1) = true then h34_0 fl t2 (IntKind.i64.wrap (t7 + IntKind.i64.wrap ((IntKind.i64.wrap (IntKind.i64.wrap (t8 - t7) + 1)).tdiv 2))) t8 m0_0 m0_1 m0_2 m0_3 m0_4 m0_5 m0_6 m0_7 m1_0 m1_1 m1_2 m1_3
      else h34_0 fl t2 t7 (IntKind.i64.wrap (IntKind.i64.wrap (t7 + IntKind.i64.wrap ((IntKind.i64.wrap (IntKind.i64.wrap (t8 - t7) + 1)).tdiv 2)) - 1)) m0_0 m0_1 m0_2 m0_3 m0_4 m0_5 m0_6 m0_7 m1_0 m1_1 m1_2 m1_3
    else some (.one (.int .i64 t7), []) := by kernel_rfl
def s34 : Spec := ⟨false, fun av ob => match av, ob with
  | [.agg [.int .i64 a, .int .i64 b, .int .i64 c, .int .i64 d, .int .i64 e, .int .i64 f, .int .i64 g, .int .i64 h], .agg [.int .i64 s, .int .i64 m, .int .i64 lo, .int .i64 hi], .one (.int .i64 v)], [] => .need (untilOk ⟨a, b, c, d, e, f, g, h⟩ ⟨s, m, lo, hi⟩) (.ret (.one (.int .i64 (untilI ⟨a, b, c, d, e, f, g, h⟩ ⟨s, m, lo, hi⟩ v)), []))
  | _, _ => .fail⟩
theorem v34_0 (a b c d e f g h s m lo hi v : Int) : ∀ (n : Nat) (x y : Int), 0 ≤ x → y ≤ 4398046511104 → x ≤ y + 1 → y - x < 2 ^ n →
    h34_0 (n + 1) v x y a b c d e f g h s m lo hi = some (.one (.int .i64 (bs (lessAt ⟨a, b, c, d, e, f, g, h⟩ ⟨s, m, lo, hi⟩ v) n x y)), [])
  | n, x, y, h0, h1, hxy, hn => by
    rw [h34_0_eq]
    by_cases hc : x < y
    · cases n with
      | zero => exfalso; simp at hn; omega
      | succ n =>
        have e1 : IntKind.i64.wrap (y - x) = y - x := wid (by omega) (by omega)
        have e2 : IntKind.i64.wrap (y - x + 1) = y - x + 1 := wid (by omega) (by omega)
        have e0 : (y - x + 1).tdiv 2 = (y - x + 1) / 2 := Int.tdiv_eq_ediv_of_nonneg (by omega)
        have e3 : IntKind.i64.wrap ((y - x + 1).tdiv 2) = (y - x + 1).tdiv 2 := by rw [e0]; exact wid (by omega) (by omega)
        have e4 : IntKind.i64.wrap (x + (y - x + 1).tdiv 2) = x + (y - x + 1).tdiv 2 := by rw [e0]; exact wid (by omega) (by omega)
        have e5 : IntKind.i64.wrap (x + (y - x + 1).tdiv 2 - 1) = x + (y - x + 1).tdiv 2 - 1 := by rw [e0]; exact wid (by omega) (by omega)
        have hp : (2 : Int) ^ (n + 1) = 2 * 2 ^ n := by rw [Int.pow_succ]; omega
        have hc' : decide (x < y) = true := by simpa using hc
        simp only [hc', e1, e2, e3, e4, e5, if_true]
        rw [bs, if_pos hc]
        unfold lessAt
        by_cases hf : (above (atI ⟨a, b, c, d, e, f, g, h⟩ ⟨s, m, lo, hi⟩ (x + (y - x + 1).tdiv 2)) v == -1) = true
        · rw [if_pos hf, if_pos hf]
          exact v34_0 a b c d e f g h s m lo hi v n _ _ (by rw [e0]; omega) h1 (by rw [e0]; omega) (by rw [e0]; omega)
        · rw [if_neg hf, if_neg hf]
          exact v34_0 a b c d e f g h s m lo hi v n _ _ h0 (by rw [e0]; omega) (by rw [e0]; omega) (by rw [e0]; omega)
    · have hc' : ¬ decide (x < y) = true := by simpa using hc
      rw [if_neg hc']
      cases n with
      | zero => rfl
      | succ n => rw [bs, if_neg hc]
theorem v34 (a b c d e f g h s m lo hi v : Int) (hg : untilOk ⟨a, b, c, d, e, f, g, h⟩ ⟨s, m, lo, hi⟩ = true) : h34 44 a b c d e f g h s m lo hi v = some (.one (.int .i64 (untilI ⟨a, b, c, d, e, f, g, h⟩ ⟨s, m, lo, hi⟩ v)), []) := by
  simp only [untilOk, Bool.and_eq_true, decide_eq_true_eq] at hg
  obtain ⟨g1, g2, g3, g4⟩ := hg
  rw [h34_eq]
  unfold untilI
  split
  · rfl
  · have e1 : IntKind.i64.wrap (m + h) = m + h := wid (by omega) (by omega)
    rw [e1]
    exact v34_0 a b c d e f g h s m lo hi v 42 _ _ g1 (by omega) (by omega) (by have : (2 : Int) ^ 42 = 4398046511104 := rfl; omega)
theorem p34 : SpecOK Try.prog 34 s34 := by
  refine specOK_of (env_ok (l := l34) ⟨⟨p36, f36⟩, ⟨⟨p28, f28⟩, trivial⟩⟩) mixed_ok Try.func34 k34 fun av ob r os hrn => ?_
  simp only [s34] at hrn
  split at hrn
  · rename_i a b c d e f g h s m lo hi v
    obtain ⟨hg, hrn⟩ := need_den hrn
    cases hrn
    have hv := v34 a b c d e f g h s m lo hi v hg
    unfold h34 at hv
    exact ⟨44, hv⟩
  · cases hrn
theorem f34 : FnOK Try.prog 34 := fnOK_of Try.func34 rfl (by kernel_rfl)
end Go.Proofs.Ytipfipnhgpbceaa.Sx
/- The meeting and the hull of spans (plain theorems). -/

set_option linter.unusedVariables false
set_option linter.unusedSimpArgs false
set_option maxRecDepth 100000
namespace Go.Proofs.Ytipfipnhgpbceaa.Sx
open Go Go.RowKit
/-! ### An element at an index -/
theorem at_lt {α : Type} {l : List α} {i : Nat} (h : i < l.length) (d : α) : l.getD (i : Int).toNat d = l[i] := by
  rw [Int.toNat_natCast, List.getD_eq_getElem?_getD, List.getElem?_eq_getElem h]; rfl
theorem idx_nat {n i : Nat} (h : i < n) : idx n (i : Int) = true := by simp [idx]; omega
theorem wr_succ {i : Nat} (h : i ≤ 2000000) : IntKind.i64.wrap ((i : Int) + 1) = ((i + 1 : Nat) : Int) := by rw [wid (by omega) (by omega)]; rfl
theorem lt_nat {i n : Nat} (h : i < n) : decide ((i : Int) < (n : Int)) = true := by simpa using h
theorem nlt_nat {i n : Nat} (h : ¬ i < n) : ¬ decide ((i : Int) < (n : Int)) = true := by simpa using h

def meet1 (o x : Span) : Span := ⟨mx o.lo x.lo, mn o.hi x.hi⟩
def meetEnd (o : Span) : Span × Bool := if o.lo > o.hi then (nothing, false) else (o, true)
def meetI (l : List Span) : Span × Bool := match l with
  | [] => (nothing, true)
  | x :: r => meetEnd ((x :: r).foldl meet1 x)
def meetR (l : List Span) : Span × Bool := match l with
  | [] => (nothing, true)
  | x :: r => meetEnd (r.foldl meet1 x)
def l56 : List (FuncId × Spec) := [(54, s54)]
def k56 : Code → Keep := keepOf [(5, ⟨[2, 4, 14, 15, 16], [], []⟩)]
noncomputable def h56_0 (fl : Nat) (t14b : Bool) (t14 : List Span) (t15 : Int) (t16 : Int) (m0_0 : Int) (m0_1 : Int) (m1_0 : Int) (m1_1 : Int) : Option (AV × List Ob) := (evalH (env l56) Try.f56 k56 0 fl (stkF Try.f56 [1, 1, 1, 0, 1, 0]) ⟨[.one (.undef), .one (.undef), .one (.ptr 0 0), .one (.undef), .one (.ptr 1 0), .one (.undef), .one (.undef), .one (.undef), .one (.undef), .one (.undef), .one (.undef), .one (.undef), .one (.undef), .one (.undef), .one (.vec t14b .span t14), .one (.int .i64 t15), .one (.int .i64 t16), .one (.undef), .one (.undef), .one (.undef), .one (.undef), .one (.undef), .one (.undef), .one (.undef), .one (.undef), .one (.undef), .one (.undef), .one (.undef), .one (.undef), .one (.undef), .one (.undef), .one (.undef), .one (.undef), .one (.undef), .one (.undef), .one (.undef), .one (.undef), .one (.undef), .one (.undef), .one (.undef)], [((0, 0), some (.cell (.int .i64 m0_0))), ((0, 1), some (.cell (.int .i64 m0_1))), ((1, 0), some (.cell (.int .i64 m1_0))), ((1, 1), some (.cell (.int .i64 m1_1)))], 2⟩).den
noncomputable def h56 (fl : Nat) (bo : Bool) (l : List Span) : Option (AV × List Ob) := (evalF (env l56) Try.f56 k56 fl [.one (.vec bo .span l)] []).den
theorem h56_eq (fl : Nat) (bo : Bool) (l : List Span) : h56 (fl + 1) bo l =
    if ((↑l.length : Int) == 0) = true then some (.tup [(true, [.int .i64 (-1125899906842624), .int .i64 1125899906842624]), (false, [.bool true])], [])
    else if (idx l.length 0) = true then h56_0 fl bo l ((↑l.length : Int)) 0 0 0 ((l.getD (Int.toNat 0) (dflt K.span)).lo) ((l.getD (Int.toNat 0) (dflt K.span)).hi)
      else none := by kernel_rfl
theorem h56_0_eq (fl : Nat) (t14b : Bool) (t14 : List Span) (t15 : Int) (t16 : Int) (m0_0 : Int) (m0_1 : Int) (m1_0 : Int) (m1_1 : Int) : h56_0 (fl + 1) t14b t14 t15 t16 m0_0 m0_1 m1_0 m1_1 =
    if (decide (t16 < t15)) = true then if (idx t14.length t16) = true then h56_0 fl t14b t14 t15 (IntKind.i64.wrap (t16 + 1)) m0_0 m0_1 (mx m1_0 (t14.getD t16.toNat (dflt K.span)).lo) (mn m1_1 (t14.getD t16.toNat (dflt K.span)).hi)
      else none
    else if (decide (m1_0 > m1_1)) = true then some (.tup [(true, [.int .i64 (-1125899906842624), .int .i64 1125899906842624]), (false, [.bool false])], [])
      else some (.tup [(true, [.int .i64 m1_0, .int .i64 m1_1]), (false, [.bool true])], []) := by kernel_rfl
def s56 : Spec := ⟨false, fun av ob => match av, ob with
  | [.one (.vec bo .span l)], [] => .need (decide (l.length ≤ 1000000)) (.ret (.tup [(true, [.int .i64 (meetI l).1.lo, .int .i64 (meetI l).1.hi]), (false, [.bool (meetI l).2])], []))
  | _, _ => .fail⟩
theorem v56_0 (bo : Bool) (l : List Span) (hl : l.length ≤ 1000000) (z0 z1 : Int) : ∀ (fl : Nat) (i : Nat) (o : Span), l.length < fl + i → i ≤ l.length →
    h56_0 fl bo l l.length i z0 z1 o.lo o.hi = some (.tup [(true, [.int .i64 (meetEnd ((l.drop i).foldl meet1 o)).1.lo, .int .i64 (meetEnd ((l.drop i).foldl meet1 o)).1.hi]), (false, [.bool (meetEnd ((l.drop i).foldl meet1 o)).2])], [])
  | 0, i, o, h, hi' => by omega
  | fl + 1, i, o, h, hi' => by
    rw [h56_0_eq]
    by_cases hlt : i < l.length
    · rw [if_pos (lt_nat hlt), if_pos (idx_nat hlt), wr_succ (by omega), at_lt hlt, List.drop_eq_getElem_cons hlt, List.foldl_cons]
      exact v56_0 bo l hl z0 z1 fl (i + 1) (meet1 o l[i]) (by omega) (by omega)
    · rw [if_neg (nlt_nat hlt), List.drop_eq_nil_of_le (by omega), List.foldl_nil]
      unfold meetEnd
      by_cases hc : o.lo > o.hi <;> simp [hc, nothing]
theorem v56 (bo : Bool) (l : List Span) (hg : decide (l.length ≤ 1000000) = true) : h56 (l.length + 2) bo l = some (.tup [(true, [.int .i64 (meetI l).1.lo, .int .i64 (meetI l).1.hi]), (false, [.bool (meetI l).2])], []) := by
  rw [h56_eq]
  cases l with
  | nil => rfl
  | cons x r =>
    have h1 : ¬ (((x :: r).length : Int) == 0) = true := by simp; omega
    have h2 : idx (x :: r).length 0 = true := by simp [idx]
    rw [if_neg h1, if_pos h2]
    exact v56_0 bo (x :: r) (of_decide_eq_true hg) 0 0 ((x :: r).length + 1) 0 x (by omega) (by omega)
theorem p56 : SpecOK Try.prog 56 s56 := by
  refine specOK_of (env_ok (l := l56) ⟨⟨p54, f54⟩, trivial⟩) mixed_ok Try.func56 k56 fun av ob r os hrn => ?_
  simp only [s56] at hrn
  split at hrn
  · rename_i bo l
    obtain ⟨hg, hrn⟩ := need_den hrn
    cases hrn
    have hv := v56 bo l hg
    unfold h56 at hv
    exact ⟨l.length + 2, hv⟩
  · cases hrn
theorem f56 : FnOK Try.prog 56 := fnOK_of Try.func56 rfl (by kernel_rfl)
def l57 : List (FuncId × Spec) := [(35, s35)]
def k57 : Code → Keep := keepOf [(5, ⟨[0, 2, 4, 5], [], []⟩)]
noncomputable def h57_0 (fl : Nat) (t0b : Bool) (t0 : List Span) (t5 : Int) (m0_0 : Int) (m0_1 : Int) (m1_0 : Int) (m1_1 : Int) : Option (AV × List Ob) := (evalH (env l57) Try.f57 k57 0 fl (stkF Try.f57 [1, 1, 1, 0, 1, 0]) ⟨[.one (.vec t0b .span t0), .one (.undef), .one (.ptr 0 0), .one (.undef), .one (.ptr 1 0), .one (.int .i64 t5), .one (.undef), .one (.undef), .one (.undef), .one (.undef), .one (.undef), .one (.undef), .one (.undef), .one (.undef), .one (.undef), .one (.undef), .one (.undef), .one (.undef), .one (.undef), .one (.undef), .one (.undef), .one (.undef), .one (.undef), .one (.undef), .one (.undef), .one (.undef), .one (.undef), .one (.undef), .one (.undef), .one (.undef), .one (.undef), .one (.undef), .one (.undef), .one (.undef), .one (.undef), .one (.undef), .one (.undef), .one (.undef), .one (.undef), .one (.undef), .one (.undef), .one (.undef), .one (.undef), .one (.undef)], [((0, 0), some (.cell (.int .i64 m0_0))), ((0, 1), some (.cell (.int .i64 m0_1))), ((1, 0), some (.cell (.int .i64 m1_0))), ((1, 1), some (.cell (.int .i64 m1_1)))], 2⟩).den
noncomputable def h57 (fl : Nat) (bo : Bool) (l : List Span) : Option (AV × List Ob) := (evalF (env l57) Try.f57 k57 fl [.one (.vec bo .span l)] []).den
theorem h57_eq (fl : Nat) (bo : Bool) (l : List Span) : h57 (fl + 1) bo l =
    if ((↑l.length : Int) == 0) = true then some (.tup [(true, [.int .i64 (-1125899906842624), .int .i64 1125899906842624]), (false, [.bool true])], [])
    else if (idx l.length 0) = true then h57_0 fl bo l 1 0 0 ((l.getD (Int.toNat 0) (dflt K.span)).lo) ((l.getD (Int.toNat 0) (dflt K.span)).hi)
      else none := by kernel_rfl
theorem h57_0_eq (fl : Nat) (t0b : Bool) (t0 : List Span) (t5 : Int) (m0_0 : Int) (m0_1 : Int) (m1_0 : Int) (m1_1 : Int) : h57_0 (fl + 1) t0b t0 t5 m0_0 m0_1 m1_0 m1_1 =
    if (decide (t5 < (↑t0.length : Int))) = true then if (idx t0.length t5) = true then if (idx t0.length t5) = true then h57_0 fl t0b t0 (IntKind.i64.wrap (t5 + 1)) m0_0 m0_1 (mx m1_0 (t0.getD t5.toNat (dflt K.span)).lo) (mn m1_1 (t0.getD t5.toNat (dflt K.span)).hi)
        else none
      else none
    else if (decide (m1_0 > m1_1)) = true then some (.tup [(true, [.int .i64 (-1125899906842624), .int .i64 1125899906842624]), (false, [.bool false])], [])
      else some (.tup [(true, [.int .i64 m1_0, .int .i64 m1_1]), (false, [.bool true])], []) := by kernel_rfl
def s57 : Spec := ⟨false, fun av ob => match av, ob with
  | [.one (.vec bo .span l)], [] => .need (decide (l.length ≤ 1000000)) (.ret (.tup [(true, [.int .i64 (meetR l).1.lo, .int .i64 (meetR l).1.hi]), (false, [.bool (meetR l).2])], []))
  | _, _ => .fail⟩
theorem v57_0 (bo : Bool) (l : List Span) (hl : l.length ≤ 1000000) (z0 z1 : Int) : ∀ (fl : Nat) (i : Nat) (o : Span), l.length < fl + i → i ≤ l.length →
    h57_0 fl bo l i z0 z1 o.lo o.hi = some (.tup [(true, [.int .i64 (meetEnd ((l.drop i).foldl meet1 o)).1.lo, .int .i64 (meetEnd ((l.drop i).foldl meet1 o)).1.hi]), (false, [.bool (meetEnd ((l.drop i).foldl meet1 o)).2])], [])
  | 0, i, o, h, hi' => by omega
  | fl + 1, i, o, h, hi' => by
    rw [h57_0_eq]
    by_cases hlt : i < l.length
    · rw [if_pos (lt_nat hlt), if_pos (idx_nat hlt), if_pos (idx_nat hlt), wr_succ (by omega), at_lt hlt, List.drop_eq_getElem_cons hlt, List.foldl_cons]
      exact v57_0 bo l hl z0 z1 fl (i + 1) (meet1 o l[i]) (by omega) (by omega)
    · rw [if_neg (nlt_nat hlt), List.drop_eq_nil_of_le (by omega), List.foldl_nil]
      unfold meetEnd
      by_cases hc : o.lo > o.hi <;> simp [hc, nothing]
theorem v57 (bo : Bool) (l : List Span) (hg : decide (l.length ≤ 1000000) = true) : h57 (l.length + 2) bo l = some (.tup [(true, [.int .i64 (meetR l).1.lo, .int .i64 (meetR l).1.hi]), (false, [.bool (meetR l).2])], []) := by
  rw [h57_eq]
  cases l with
  | nil => rfl
  | cons x r =>
    have h1 : ¬ (((x :: r).length : Int) == 0) = true := by simp; omega
    have h2 : idx (x :: r).length 0 = true := by simp [idx]
    rw [if_neg h1, if_pos h2]
    exact v57_0 bo (x :: r) (of_decide_eq_true hg) 0 0 ((x :: r).length + 1) 1 x (by omega) (by simp)
theorem p57 : SpecOK Try.prog 57 s57 := by
  refine specOK_of (env_ok (l := l57) ⟨⟨p35, f35⟩, trivial⟩) mixed_ok Try.func57 k57 fun av ob r os hrn => ?_
  simp only [s57] at hrn
  split at hrn
  · rename_i bo l
    obtain ⟨hg, hrn⟩ := need_den hrn
    cases hrn
    have hv := v57 bo l hg
    unfold h57 at hv
    exact ⟨l.length + 2, hv⟩
  · cases hrn
theorem f57 : FnOK Try.prog 57 := fnOK_of Try.func57 rfl (by kernel_rfl)

/-! ### The hull -/
def hullI1 (a : Bool × Span) (x : Span) : Bool × Span := if x.lo > x.hi then a else if a.1 = false then (true, x) else (a.1, ⟨mn a.2.lo x.lo, mx a.2.hi x.hi⟩)
def hullI (l : List Span) : Span := (l.foldl hullI1 (false, nothing)).2
def hullR1 (a : Bool × Span) (x : Span) : Bool × Span := if x.lo > x.hi then a else if a.1 = false then (true, ⟨mn x.lo x.lo, mx x.hi x.hi⟩) else (a.1, ⟨mn a.2.lo x.lo, mx a.2.hi x.hi⟩)
def hullR (l : List Span) : Span := (l.foldl hullR1 (false, nothing)).2
def l58 : List (FuncId × Spec) := [(54, s54)]
def k58 : Code → Keep := keepOf [(3, ⟨[2, 3, 4, 8, 9, 10], [], []⟩)]
noncomputable def h58_0 (fl : Nat) (t4 : Bool) (t8b : Bool) (t8 : List Span) (t9 : Int) (t10 : Int) (m0_0 : Int) (m0_1 : Int) (m1_0 : Int) (m1_1 : Int) : Option (AV × List Ob) := (evalH (env l58) Try.f58 k58 0 fl (stkF Try.f58 [1, 1, 0, 1, 0]) ⟨[.one (.undef), .one (.undef), .one (.ptr 0 0), .one (.ptr 1 0), .one (.bool t4), .one (.undef), .one (.undef), .one (.undef), .one (.vec t8b .span t8), .one (.int .i64 t9), .one (.int .i64 t10), .one (.undef), .one (.undef), .one (.undef), .one (.undef), .one (.undef), .one (.undef), .one (.undef), .one (.undef), .one (.undef), .one (.undef), .one (.undef), .one (.undef), .one (.undef), .one (.undef), .one (.undef), .one (.undef), .one (.undef), .one (.undef), .one (.undef), .one (.undef), .one (.undef), .one (.undef), .one (.undef), .one (.undef), .one (.undef), .one (.undef), .one (.undef)], [((0, 0), some (.cell (.int .i64 m0_0))), ((0, 1), some (.cell (.int .i64 m0_1))), ((1, 0), some (.cell (.int .i64 m1_0))), ((1, 1), some (.cell (.int .i64 m1_1)))], 2⟩).den
noncomputable def h58 (fl : Nat) (bo : Bool) (l : List Span) : Option (AV × List Ob) := (evalF (env l58) Try.f58 k58 fl [.one (.vec bo .span l)] []).den
theorem h58_eq (fl : Nat) (bo : Bool) (l : List Span) : h58 (fl + 1) bo l =
    h58_0 fl false bo l ((↑l.length : Int)) 0 0 0 (-1125899906842624) 1125899906842624 := by kernel_rfl
theorem h58_0_eq (fl : Nat) (t4 : Bool) (t8b : Bool) (t8 : List Span) (t9 : Int) (t10 : Int) (m0_0 : Int) (m0_1 : Int) (m1_0 : Int) (m1_1 : Int) : h58_0 (fl + 1) t4 t8b t8 t9 t10 m0_0 m0_1 m1_0 m1_1 =
    if (decide (t10 < t9)) = true then if (idx t8.length t10) = true then if (decide ((t8.getD t10.toNat (dflt K.span)).lo > (t8.getD t10.toNat (dflt K.span)).hi)) = true then h58_0 fl t4 t8b t8 t9 (IntKind.i64.wrap (t10 + 1)) m0_0 m0_1 m1_0 m1_1
        else if (!t4) = true then h58_0 fl true t8b t8 t9 (IntKind.i64.wrap (t10 + 1)) m0_0 m0_1 ((t8.getD t10.toNat (dflt K.span)).lo) ((t8.getD t10.toNat (dflt K.span)).hi)
          else h58_0 fl t4 t8b t8 t9 (IntKind.i64.wrap (t10 + 1)) m0_0 m0_1 (mn m1_0 (t8.getD t10.toNat (dflt K.span)).lo) (mx m1_1 (t8.getD t10.toNat (dflt K.span)).hi)
      else none
    else some (.agg [.int .i64 m1_0, .int .i64 m1_1], []) := by kernel_rfl
def s58 : Spec := ⟨false, fun av ob => match av, ob with
  | [.one (.vec bo .span l)], [] => .need (decide (l.length ≤ 1000000)) (.ret (.agg [.int .i64 (hullI l).lo, .int .i64 (hullI l).hi], []))
  | _, _ => .fail⟩
theorem v58_0 (bo : Bool) (l : List Span) (hl : l.length ≤ 1000000) (z0 z1 : Int) : ∀ (fl : Nat) (i : Nat) (a : Bool × Span), l.length < fl + i → i ≤ l.length →
    h58_0 fl a.1 bo l l.length i z0 z1 a.2.lo a.2.hi = some (.agg [.int .i64 ((l.drop i).foldl hullI1 a).2.lo, .int .i64 ((l.drop i).foldl hullI1 a).2.hi], [])
  | 0, i, a, h, hi' => by omega
  | fl + 1, i, a, h, hi' => by
    rw [h58_0_eq]
    by_cases hlt : i < l.length
    · rw [if_pos (lt_nat hlt), if_pos (idx_nat hlt), wr_succ (by omega), at_lt hlt, List.drop_eq_getElem_cons hlt, List.foldl_cons]
      have ih := v58_0 bo l hl z0 z1 fl (i + 1) (hullI1 a l[i]) (by omega) (by omega)
      obtain ⟨b, o⟩ := a
      rw [← ih]
      unfold hullI1
      by_cases c1 : l[i].lo > l[i].hi
      · simp [c1]
      · cases b <;> simp [c1]
    · rw [if_neg (nlt_nat hlt), List.drop_eq_nil_of_le (by omega), List.foldl_nil]
theorem v58 (bo : Bool) (l : List Span) (hg : decide (l.length ≤ 1000000) = true) : h58 (l.length + 2) bo l = some (.agg [.int .i64 (hullI l).lo, .int .i64 (hullI l).hi], []) := by
  rw [h58_eq]
  exact v58_0 bo l (of_decide_eq_true hg) _ _ (l.length + 1) 0 (false, nothing) (by omega) (by omega)
theorem p58 : SpecOK Try.prog 58 s58 := by
  refine specOK_of (env_ok (l := l58) ⟨⟨p54, f54⟩, trivial⟩) mixed_ok Try.func58 k58 fun av ob r os hrn => ?_
  simp only [s58] at hrn
  split at hrn
  · rename_i bo l
    obtain ⟨hg, hrn⟩ := need_den hrn
    cases hrn
    have hv := v58 bo l hg
    unfold h58 at hv
    exact ⟨l.length + 2, hv⟩
  · cases hrn
theorem f58 : FnOK Try.prog 58 := fnOK_of Try.func58 rfl (by kernel_rfl)
def l59 : List (FuncId × Spec) := [(35, s35)]
def k59 : Code → Keep := keepOf [(3, ⟨[0, 2, 3, 4, 5], [], []⟩)]
noncomputable def h59_0 (fl : Nat) (t0b : Bool) (t0 : List Span) (t4 : Bool) (t5 : Int) (m0_0 : Int) (m0_1 : Int) (m1_0 : Int) (m1_1 : Int) : Option (AV × List Ob) := (evalH (env l59) Try.f59 k59 0 fl (stkF Try.f59 [1, 1, 0, 1, 0]) ⟨[.one (.vec t0b .span t0), .one (.undef), .one (.ptr 0 0), .one (.ptr 1 0), .one (.bool t4), .one (.int .i64 t5), .one (.undef), .one (.undef), .one (.undef), .one (.undef), .one (.undef), .one (.undef), .one (.undef), .one (.undef), .one (.undef), .one (.undef), .one (.undef), .one (.undef), .one (.undef), .one (.undef), .one (.undef), .one (.undef), .one (.undef), .one (.undef), .one (.undef), .one (.undef), .one (.undef), .one (.undef), .one (.undef), .one (.undef), .one (.undef), .one (.undef), .one (.undef), .one (.undef), .one (.undef), .one (.undef), .one (.undef), .one (.undef), .one (.undef), .one (.undef), .one (.undef), .one (.undef), .one (.undef), .one (.undef), .one (.undef), .one (.undef), .one (.undef), .one (.undef), .one (.undef)], [((0, 0), some (.cell (.int .i64 m0_0))), ((0, 1), some (.cell (.int .i64 m0_1))), ((1, 0), some (.cell (.int .i64 m1_0))), ((1, 1), some (.cell (.int .i64 m1_1)))], 2⟩).den
noncomputable def h59 (fl : Nat) (bo : Bool) (l : List Span) : Option (AV × List Ob) := (evalF (env l59) Try.f59 k59 fl [.one (.vec bo .span l)] []).den
theorem h59_eq (fl : Nat) (bo : Bool) (l : List Span) : h59 (fl + 1) bo l =
    h59_0 fl bo l false 0 0 0 (-1125899906842624) 1125899906842624 := by kernel_rfl
theorem h59_0_eq (fl : Nat) (t0b : Bool) (t0 : List Span) (t4 : Bool) (t5 : Int) (m0_0 : Int) (m0_1 : Int) (m1_0 : Int) (m1_1 : Int) : h59_0 (fl + 1) t0b t0 t4 t5 m0_0 m0_1 m1_0 m1_1 =
    if (decide (t5 < (↑t0.length : Int))) = true then if (idx t0.length t5) = true then if (idx t0.length t5) = true then if (decide ((t0.getD t5.toNat (dflt K.span)).lo > (t0.getD t5.toNat (dflt K.span)).hi)) = true then h59_0 fl t0b t0 t4 (IntKind.i64.wrap (t5 + 1)) m0_0 m0_1 m1_0 m1_1
          else if (!t4) = true then if (idx t0.length t5) = true then if (idx t0.length t5) = true then if (idx t0.length t5) = true then h59_0 fl t0b t0 true (IntKind.i64.wrap (t5 + 1)) m0_0 m0_1 (mn (t0.getD t5.toNat (dflt K.span)).lo (t0.getD t5.toNat (dflt K.span)).lo) (mx (t0.getD t5.toNat (dflt K.span)).hi (t0.getD t5.toNat (dflt K.span)).hi)
                  else none
                else none
              else none
            else if (idx t0.length t5) = true then if (idx t0.length t5) = true then h59_0 fl t0b t0 t4 (IntKind.i64.wrap (t5 + 1)) m0_0 m0_1 (mn m1_0 (t0.getD t5.toNat (dflt K.span)).lo) (mx m1_1 (t0.getD t5.toNat (dflt K.span)).hi)
                else none
              else none
        else none
      else none
    else some (.agg [.int .i64 m1_0, .int .i64 m1_1], []) := by kernel_rfl
def s59 : Spec := ⟨false, fun av ob => match av, ob with
  | [.one (.vec bo .span l)], [] => .need (decide (l.length ≤ 1000000)) (.ret (.agg [.int .i64 (hullR l).lo, .int .i64 (hullR l).hi], []))
  | _, _ => .fail⟩
theorem v59_0 (bo : Bool) (l : List Span) (hl : l.length ≤ 1000000) (z0 z1 : Int) : ∀ (fl : Nat) (i : Nat) (a : Bool × Span), l.length < fl + i → i ≤ l.length →
    h59_0 fl bo l a.1 i z0 z1 a.2.lo a.2.hi = some (.agg [.int .i64 ((l.drop i).foldl hullR1 a).2.lo, .int .i64 ((l.drop i).foldl hullR1 a).2.hi], [])
  | 0, i, a, h, hi' => by omega
  | fl + 1, i, a, h, hi' => by
    rw [h59_0_eq]
    by_cases hlt : i < l.length
    · rw [if_pos (lt_nat hlt)]
      simp only [if_pos (idx_nat hlt)]
      rw [wr_succ (by omega), at_lt hlt, List.drop_eq_getElem_cons hlt, List.foldl_cons]
      have ih := v59_0 bo l hl z0 z1 fl (i + 1) (hullR1 a l[i]) (by omega) (by omega)
      obtain ⟨b, o⟩ := a
      rw [← ih]
      unfold hullR1
      by_cases c1 : l[i].lo > l[i].hi
      · simp [c1]
      · cases b <;> simp [c1]
    · rw [if_neg (nlt_nat hlt), List.drop_eq_nil_of_le (by omega), List.foldl_nil]
theorem v59 (bo : Bool) (l : List Span) (hg : decide (l.length ≤ 1000000) = true) : h59 (l.length + 2) bo l = some (.agg [.int .i64 (hullR l).lo, .int .i64 (hullR l).hi], []) := by
  rw [h59_eq]
  exact v59_0 bo l (of_decide_eq_true hg) _ _ (l.length + 1) 0 (false, nothing) (by omega) (by omega)
theorem p59 : SpecOK Try.prog 59 s59 := by
  refine specOK_of (env_ok (l := l59) ⟨⟨p35, f35⟩, trivial⟩) mixed_ok Try.func59 k59 fun av ob r os hrn => ?_
  simp only [s59] at hrn
  split at hrn
  · rename_i bo l
    obtain ⟨hg, hrn⟩ := need_den hrn
    cases hrn
    have hv := v59 bo l hg
    unfold h59 at hv
    exact ⟨l.length + 2, hv⟩
  · cases hrn
theorem f59 : FnOK Try.prog 59 := fnOK_of Try.func59 rfl (by kernel_rfl)
end Go.Proofs.Ytipfipnhgpbceaa.Sx
/- Sensors out of codes; the chapter's example (plain theorems). -/

set_option linter.unusedVariables false
set_option linter.unusedSimpArgs false
set_option maxRecDepth 100000
namespace Go.Proofs.Ytipfipnhgpbceaa.Sx
open Go Go.RowKit
def l31 : List (FuncId × Spec) := [(32, s32), (84, s84), (46, s46)]
def k31 : Code → Keep := keepOf []
noncomputable def h31 (fl : Nat) (l : List Int) (p a b c : Int) : Option (AV × List Ob) := (evalF (env l31) Try.f31 k31 fl [.one (.ptr 0 0), .one (.int .i64 a), .one (.int .i64 b), .one (.int .i64 c)] [.box [.vec false .u8 l, .int .i64 p]]).den
theorem h31_eq (fl : Nat) (l : List Int) (p a b c : Int) : h31 (fl + 1) l p a b c =
    if (cok l p) = true then if (!decide (a ≥ 4)) = true then if (cok l (nextP l p 200)) = true then if (cok l (nextP l (nextP l p 200) 71)) = true then if (cok l (nextP l (nextP l (nextP l p 200) 71) 1701)) = true then if (cok l (nextP l (nextP l (nextP l (nextP l p 200) 71) 1701) 6)) = true then some (.agg [.int .i64 b, .int .i64 a, .int .i64 c, .int .i64 (wr64 (-50 + nextV l (nextP l p 200) 71)), .int .i64 (wr64 (300 + nextV l (nextP l (nextP l p 200) 71) 1701)), .int .i64 (nextV l (nextP l (nextP l (nextP l p 200) 71) 1701) 6), .int .i64 (nextV l (nextP l (nextP l (nextP l (nextP l p 200) 71) 1701) 6) 700), .int .i64 (wr64 (1 + nextV l p 200))], [.box [.vec false .u8 l, .int .i64 (nextP l (nextP l (nextP l (nextP l (nextP l p 200) 71) 1701) 6) 700)]])
              else none
            else none
          else none
        else none
      else some (.agg [.int .i64 b, .int .i64 a, .int .i64 c, .int .i64 0, .int .i64 1000, .int .i64 0, .int .i64 0, .int .i64 (wr64 (1 + nextV l p 200))], [.box [.vec false .u8 l, .int .i64 (nextP l p 200)]])
    else none := by kernel_rfl
def sensP (l : List Int) (p a : Int) : Int := if a ≥ 4 then nextP l p 200 else nextP l (nextP l (nextP l (nextP l (nextP l p 200) 71) 1701) 6) 700
def sensV (l : List Int) (p a b c : Int) : Sensor :=
  if a ≥ 4 then ⟨b, a, c, 0, 1000, 0, 0, wr64 (1 + nextV l p 200)⟩
  else ⟨b, a, c, wr64 (-50 + nextV l (nextP l p 200) 71), wr64 (300 + nextV l (nextP l (nextP l p 200) 71) 1701), nextV l (nextP l (nextP l (nextP l p 200) 71) 1701) 6, nextV l (nextP l (nextP l (nextP l (nextP l p 200) 71) 1701) 6) 700, wr64 (1 + nextV l p 200)⟩
def s31 : Spec := ⟨false, fun av ob => match av, ob with
  | [.one (.ptr 0 0), .one (.int .i64 a), .one (.int .i64 b), .one (.int .i64 c)], [.box [.vec false .u8 l, .int .i64 p]] => .need (cok l p) (.ret (.agg (enc .sensor (sensV l p a b c)), [.box [.vec false .u8 l, .int .i64 (sensP l p a)]]))
  | _, _ => .fail⟩
theorem v31 (l : List Int) (p a b c : Int) (h : cok l p = true) : h31 1 l p a b c = some (.agg (enc .sensor (sensV l p a b c)), [.box [.vec false .u8 l, .int .i64 (sensP l p a)]]) := by
  rw [h31_eq]
  have k1 := cok_next (n := 200) h
  have k2 := cok_next (n := 71) k1
  have k3 := cok_next (n := 1701) k2
  have k4 := cok_next (n := 6) k3
  simp only [h, k1, k2, k3, k4, if_true]
  unfold sensV sensP
  by_cases hc : a ≥ 4 <;> simp [hc, enc]
theorem p31 : SpecOK Try.prog 31 s31 := by
  refine specOK_of (env_ok (l := l31) ⟨⟨p32, f32⟩, ⟨⟨p84, f84⟩, ⟨⟨p46, f46⟩, trivial⟩⟩⟩) mixed_ok Try.func31 k31 fun av ob r os hrn => ?_
  simp only [s31] at hrn
  split at hrn
  · rename_i a b c l p
    obtain ⟨hg, hrn⟩ := need_den hrn
    cases hrn
    have hv := v31 l p a b c hg
    unfold h31 at hv
    exact ⟨1, hv⟩
  · cases hrn
theorem f31 : FnOK Try.prog 31 := fnOK_of Try.func31 rfl (by kernel_rfl)
def l30 : List (FuncId × Spec) := [(56, s56), (36, s36), (35, s35), (28, s28), (34, s34)]
def k30 : Code → Keep := keepOf []
noncomputable def h30 (fl : Nat)  : Option (AV × List Ob) := (evalF (env l30) Try.f30 k30 fl [] []).den
theorem h30_eq (fl : Nat)  : h30 (fl + 1)  =
    some (.one (.bool true), []) := by kernel_rfl
def s30 : Spec := ⟨false, fun av ob => match av, ob with
  | [], [] => .ret (.one (.bool true), [])
  | _, _ => .fail⟩
theorem v30 : h30 1 = some (.one (.bool true), []) := by
  rw [h30_eq]
theorem p30 : SpecOK Try.prog 30 s30 := by
  refine specOK_of (env_ok (l := l30) ⟨⟨p56, f56⟩, ⟨⟨p36, f36⟩, ⟨⟨p35, f35⟩, ⟨⟨p28, f28⟩, ⟨⟨p34, f34⟩, trivial⟩⟩⟩⟩⟩) mixed_ok Try.func30 k30 fun av ob r os hrn => ?_
  simp only [s30] at hrn
  split at hrn
  · skip
    cases hrn
    have hv := v30
    unfold h30 at hv
    exact ⟨1, hv⟩
  · cases hrn
theorem f30 : FnOK Try.prog 30 := fnOK_of Try.func30 rfl (by kernel_rfl)
end Go.Proofs.Ytipfipnhgpbceaa.Sx
/- Whether a span is above a number; until when a value is surely less; a measurement widens (plain theorems). -/


set_option linter.unusedVariables false
set_option linter.unusedSimpArgs false
set_option maxRecDepth 100000
namespace Go.Proofs.Ytipfipnhgpbceaa.Sx
open Go Go.RowKit
theorem cok0 {l : List Int} (h : l.all u8B = true) : cok (l.take 300) 0 = true := by
  rw [cok_iff]
  refine ⟨by omega, by omega, by rw [List.length_take]; omega, fun x hx => ?_⟩
  have := List.all_eq_true.1 h x (List.mem_of_mem_take hx)
  rw [u8B_iff] at this
  omega
def l3 : List (FuncId × Spec) := [(26, s26), (25, s25), (27, s27), (28, s28), (29, s29), (30, s30)]
def k3 : Code → Keep := keepOf []
noncomputable def h3 (fl : Nat) (l : List Int) (lo hi v : Int) : Option (AV × List Ob) := (evalF (env l3) Try.f3 k3 fl [.one (.vec false .u8 l), .agg [.int .i64 lo, .int .i64 hi], .one (.int .i64 v)] []).den
theorem h3_eq (fl : Nat) (l : List Int) (lo hi v : Int) : h3 (fl + 1) l lo hi v =
    if (cok (List.take 300 l) 0) = true then if (above { lo := lo, hi := hi } v == above { lo := lo, hi := hi } v) = true then if (above { lo := (spanM (List.take 300 l) 0).lo, hi := (spanM (List.take 300 l) 0).hi } (IntKind.i64.wrap (modz v 200 - 60)) == above { lo := (spanM (List.take 300 l) 0).lo, hi := (spanM (List.take 300 l) 0).hi } (IntKind.i64.wrap (modz v 200 - 60))) = true then if (above { lo := (spanM (List.take 300 l) 0).lo, hi := (spanM (List.take 300 l) 0).hi } (spanM (List.take 300 l) 0).lo == above { lo := (spanM (List.take 300 l) 0).lo, hi := (spanM (List.take 300 l) 0).hi } (spanM (List.take 300 l) 0).lo) = true then if (above { lo := (spanM (List.take 300 l) 0).lo, hi := (spanM (List.take 300 l) 0).hi } (spanM (List.take 300 l) 0).hi == above { lo := (spanM (List.take 300 l) 0).lo, hi := (spanM (List.take 300 l) 0).hi } (spanM (List.take 300 l) 0).hi) = true then some (.one (.bool true), [])
            else some (.one (.bool false), [])
          else some (.one (.bool false), [])
        else some (.one (.bool false), [])
      else some (.one (.bool false), [])
    else none := by kernel_rfl
theorem v3 (l : List Int) (lo hi v : Int) (h : l.all u8B = true) : h3 1 l lo hi v = some (.one (.bool true), []) := by
  rw [h3_eq, if_pos (cok0 h)]
  simp only [beq_self_eq_true, if_true]
def s3 : Spec := ⟨false, fun av ob => match av, ob with
  | [.one (.vec false .u8 l), .agg [.int .i64 lo, .int .i64 hi], .one (.int .i64 v)], [] => .need (l.all u8B && (i64B lo && (i64B hi && (i64B v)))) (.ret (.one (.bool true), []))
  | _, _ => .fail⟩
theorem p3 : SpecOK Try.prog 3 s3 := by
  refine specOK_of (env_ok (l := l3) ⟨⟨p26, f26⟩, ⟨⟨p25, f25⟩, ⟨⟨p27, f27⟩, ⟨⟨p28, f28⟩, ⟨⟨p29, f29⟩, ⟨⟨p30, f30⟩, trivial⟩⟩⟩⟩⟩⟩) mixed_ok Try.func3 k3 fun av ob r os hrn => ?_
  simp only [s3] at hrn
  split at hrn
  · rename_i l lo hi v
    obtain ⟨hg, hrn⟩ := need_den hrn
    cases hrn
    simp only [Bool.and_eq_true] at hg
    obtain ⟨q1, q2, q2b, q3⟩ := hg
    have hv := v3 l lo hi v q1
    unfold h3 at hv
    exact ⟨1, hv⟩
  · cases hrn
theorem law3 (av : List AV) (h : AVs [RBytes, RSpan, RInt] av) : (s3.run av []).den = some (.one (.bool true), []) := by
  obtain ⟨_, _, rfl, ⟨l, rfl, q1⟩, k1⟩ := h.cons
  obtain ⟨_, _, rfl, ⟨lo, hi, rfl, q2, q2b⟩, k2⟩ := k1.cons
  obtain ⟨_, _, rfl, ⟨v, rfl, q3⟩, k3⟩ := k2.cons
  rw [k3.nil]
  refine den_need ?_
  simp only [Bool.and_eq_true]
  exact ⟨q1, q2, q2b, q3⟩
end Go.Proofs.Ytipfipnhgpbceaa.Sx
/- What a made sensor and a made measurement are; what is said at a time, by both texts; until when a value is surely less (plain theorems). -/

set_option linter.unusedVariables false
set_option linter.unusedSimpArgs false
set_option maxRecDepth 100000
namespace Go.Proofs.Ytipfipnhgpbceaa.Sx
open Go Go.RowKit
theorem sensor_eta (s : Sensor) : (⟨s.addr, s.kind, s.target, s.offset, s.scale, s.error, s.drift, s.life⟩ : Sensor) = s := rfl
theorem span_eta (s : Span) : (⟨s.lo, s.hi⟩ : Span) = s := rfl
structure SB (s : Sensor) : Prop where
  kind : 1 ≤ s.kind ∧ s.kind ≤ 6
  offset : -50 ≤ s.offset ∧ s.offset ≤ 20
  scale : 300 ≤ s.scale ∧ s.scale ≤ 2000
  error : 0 ≤ s.error ∧ s.error ≤ 5
  drift : 0 ≤ s.drift ∧ s.drift ≤ 699
  life : 1 ≤ s.life ∧ s.life ≤ 200
theorem sensV_ok {l : List Int} {p a b c : Int} (h : cok l p = true) (ha : 1 ≤ a ∧ a ≤ 6) : SB (sensV l p a b c) ∧ (sensV l p a b c).kind = a ∧ (sensV l p a b c).addr = b ∧ (sensV l p a b c).target = c := by
  have k1 := cok_next (n := 200) h
  have k2 := cok_next (n := 71) k1
  have k3 := cok_next (n := 1701) k2
  have k4 := cok_next (n := 6) k3
  have r0 := nextV_range (n := 200) h (by omega)
  have r1 := nextV_range (n := 71) k1 (by omega)
  have r2 := nextV_range (n := 1701) k2 (by omega)
  have r3 := nextV_range (n := 6) k3 (by omega)
  have r4 := nextV_range (n := 700) k4 (by omega)
  have e0 : wr64 (1 + nextV l p 200) = 1 + nextV l p 200 := wid (by omega) (by omega)
  have e1 : wr64 (-50 + nextV l (nextP l p 200) 71) = -50 + nextV l (nextP l p 200) 71 := wid (by omega) (by omega)
  have e2 : wr64 (300 + nextV l (nextP l (nextP l p 200) 71) 1701) = 300 + nextV l (nextP l (nextP l p 200) 71) 1701 := wid (by omega) (by omega)
  unfold sensV
  split
  · exact ⟨⟨ha, ⟨by dsimp only; omega, by dsimp only; omega⟩, ⟨by dsimp only; omega, by dsimp only; omega⟩, ⟨by dsimp only; omega, by dsimp only; omega⟩, ⟨by dsimp only; omega, by dsimp only; omega⟩, ⟨by dsimp only; omega, by dsimp only; omega⟩⟩, rfl, rfl, rfl⟩
  · exact ⟨⟨ha, ⟨by dsimp only; omega, by dsimp only; omega⟩, ⟨by dsimp only; omega, by dsimp only; omega⟩, ⟨by dsimp only; omega, by dsimp only; omega⟩, ⟨by dsimp only; omega, by dsimp only; omega⟩, ⟨by dsimp only; omega, by dsimp only; omega⟩⟩, rfl, rfl, rfl⟩
def measV (l : List Int) (p : Int) : Measure := ⟨sensM l p, timeM l p, (spanM l p).lo, (spanM l p).hi⟩
structure MB (m : Measure) : Prop where
  time : 0 ≤ m.time ∧ m.time < 200
  lo : -1125899906842624 ≤ m.lo ∧ m.lo ≤ 90
  hi : m.lo ≤ m.hi ∧ m.hi ≤ 1125899906842624
  some : m.lo = -1125899906842624 ∧ m.hi = 1125899906842624 ∨ -30 ≤ m.lo ∧ m.hi ≤ 129
theorem cok_sensP {l : List Int} {p a : Int} (h : cok l p = true) : cok l (sensP l p a) = true := by
  unfold sensP
  split
  · exact cok_next h
  · exact cok_next (cok_next (cok_next (cok_next (cok_next h))))
theorem cok_after6 {l : List Int} {p : Int} (h : cok l p = true) : cok l (after6 l p) = true := cok_next (cok_next (cok_next (cok_next (cok_next (cok_next h)))))
theorem measV_ok {l : List Int} {p : Int} (h : cok l p = true) : MB (measV l p) := by
  have k1 := cok_next (n := 3) h
  have k2 := cok_next (n := 200) k1
  have k3 := cok_next (n := 121) k2
  have r1 := nextV_range (n := 200) k1 (by omega)
  have r2 := nextV_range (n := 121) k2 (by omega)
  have r3 := nextV_range (n := 40) k3 (by omega)
  have e1 : wr64 (-30 + nextV l (nextP l (nextP l p 3) 200) 121) = -30 + nextV l (nextP l (nextP l p 3) 200) 121 := wid (by omega) (by omega)
  have e2 : wr64 (-30 + nextV l (nextP l (nextP l p 3) 200) 121 + nextV l (nextP l (nextP l (nextP l p 3) 200) 121) 40) = -30 + nextV l (nextP l (nextP l p 3) 200) 121 + nextV l (nextP l (nextP l (nextP l p 3) 200) 121) 40 := wid (by omega) (by omega)
  have ht : (measV l p).time = nextV l (nextP l p 3) 200 := rfl
  have hs : ((measV l p).lo = -1125899906842624 ∧ (measV l p).hi = 1125899906842624) ∨ ((measV l p).lo = -30 + nextV l (nextP l (nextP l p 3) 200) 121 ∧ (measV l p).hi = -30 + nextV l (nextP l (nextP l p 3) 200) 121 + nextV l (nextP l (nextP l (nextP l p 3) 200) 121) 40) := by
    unfold measV spanM
    dsimp only
    split
    · exact .inl ⟨rfl, rfl⟩
    · exact .inr ⟨by dsimp only; rw [e1], by dsimp only; rw [e1, e2]⟩
  rw [← ht] at r1
  generalize measV l p = m at *
  rcases hs with ⟨h1, h2⟩ | ⟨h1, h2⟩
  · exact ⟨r1, ⟨by omega, by omega⟩, ⟨by omega, by omega⟩, .inl ⟨h1, h2⟩⟩
  · exact ⟨r1, ⟨by omega, by omega⟩, ⟨by omega, by omega⟩, .inr ⟨by omega, by omega⟩⟩

/-! ### Quotients -/
theorem flo_neg {x b : Int} (h0 : 0 ≤ x) (h1 : x ≤ 4611686018427387904) (hb : 1 ≤ b) : cei x b = (x + (b - 1)) / b := by
  have hx : wr64 (0 - x) = -x := by rw [wr64, wid (by omega) (by omega)]; omega
  have hd0 : 0 ≤ x / b := Int.ediv_nonneg h0 (by omega)
  have hd1 : x / b ≤ x := Int.ediv_le_self _ h0
  have hm0 := Int.emod_nonneg x (b := b) (by omega)
  have hm1 := Int.emod_lt_of_pos x (b := b) (by omega)
  have hmd := Int.mul_ediv_add_emod x b
  unfold cei
  rw [hx]
  unfold flo
  rw [Int.neg_tmod, Int.neg_tdiv, Int.tmod_eq_emod_of_nonneg h0, Int.tdiv_eq_ediv_of_nonneg h0]
  have q1 : wr64 (-(x / b)) = -(x / b) := wid (by omega) (by omega)
  have q2 : wr64 (-(x / b) - 1) = -(x / b) - 1 := wid (by omega) (by omega)
  rw [q1, q2]
  have key : ∀ k : Int, 0 ≤ k → k < b → (x + (b - 1)) / b = x / b + (x % b + (b - 1)) / b := by
    intro k _ _
    have : x + (b - 1) = x % b + (b - 1) + b * (x / b) := by omega
    rw [this, Int.add_mul_ediv_left _ _ (by omega)]
    omega
  rw [key 0 (by omega) (by omega)]
  by_cases hz : x % b = 0
  · rw [if_neg (by omega), hz]
    have : (0 + (b - 1)) / b = 0 := Int.ediv_eq_zero_of_lt (by omega) (by omega)
    rw [this]
    have q3 : wr64 (0 - -(x / b)) = x / b := by rw [wr64, wid (by omega) (by omega)]; omega
    rw [q3]; omega
  · rw [if_pos (by omega)]
    have : (x % b + (b - 1)) / b = 1 := by
      have : x % b + (b - 1) = (x % b - 1) + b * 1 := by omega
      rw [this, Int.add_mul_ediv_left _ _ (by omega), Int.ediv_eq_zero_of_lt (by omega) (by omega)]
      rfl
    rw [this]
    have q3 : wr64 (0 - (-(x / b) - 1)) = x / b + 1 := by rw [wr64, wid (by omega) (by omega)]; omega
    rw [q3]
theorem mul_le_of {a b A B : Int} (ha : 0 ≤ a) (hA : a ≤ A) (hb : 0 ≤ b) (hB : b ≤ B) : 0 ≤ a * b ∧ a * b ≤ A * B :=
  ⟨Int.mul_nonneg ha hb, Int.mul_le_mul hA hB hb (by omega)⟩
/-- By how much a span has widened. -/
def moreT (s : Sensor) (m : Measure) (t : Int) : Int := (s.drift * (t - m.time) + 999) / 1000
theorem more_both {s : Sensor} {m : Measure} {t : Int} (hs : 0 ≤ s.drift ∧ s.drift ≤ 1000000) (h0 : m.time ≤ t) (h1 : t - m.time ≤ 1000000) : moreI s m t = moreT s m t ∧ moreR s m t = moreT s m t ∧ 0 ≤ moreT s m t ∧ moreT s m t ≤ 1000000001 := by
  have e1 : wr64 (t - m.time) = t - m.time := wid (by omega) (by omega)
  have hp := mul_le_of hs.1 hs.2 (show 0 ≤ t - m.time by omega) h1
  unfold moreI moreR moreT
  rw [e1]
  generalize s.drift * (t - m.time) = d at *
  have e2 : wr64 d = d := wid (by omega) (by omega)
  have e3 : wr64 (d + 999) = d + 999 := wid (by omega) (by omega)
  rw [e2, e3, flo_neg hp.1 (by omega) (by omega), Int.tdiv_eq_ediv_of_nonneg (by omega)]
  refine ⟨wid (by omega) (by omega), rfl, by omega, by omega⟩
theorem checkS_drift {s : Sensor} (h : checkS s = 0) : (1 ≤ s.kind ∧ s.kind ≤ 6) ∧ (0 ≤ s.addr ∧ s.addr ≤ 255) ∧ 0 ≤ s.target ∧ (-1000000 ≤ s.offset ∧ s.offset ≤ 1000000) ∧ (-1000000 ≤ s.scale ∧ s.scale ≤ 1000000) ∧ (0 ≤ s.error ∧ s.error ≤ 1000000) ∧ (0 ≤ s.drift ∧ s.drift ≤ 1000000) ∧ (1 ≤ s.life ∧ s.life ≤ 1000000) := by
  unfold checkS at h
  split at h
  · omega
  · split at h
    · rename_i h1 h2
      exact ⟨by omega, h2⟩
    · omega
theorem dead_false {s : Sensor} {m : Measure} {t : Int} (h : atDead s m t = false) (hm : 0 ≤ m.time ∧ m.time ≤ 4611686018427387904) (ht : t ≤ 4611686018427387904) : checkS s = 0 ∧ 0 ≤ m.sensor ∧ ¬ (m.lo = -1125899906842624 ∧ m.hi = 1125899906842624) ∧ m.time ≤ t ∧ t - m.time ≤ s.life := by
  unfold atDead at h
  simp only [Bool.or_eq_false_iff, bne_eq_false_iff_eq, decide_eq_false_iff_not, Bool.and_eq_false_iff, beq_eq_false_iff_ne, ne_eq] at h
  obtain ⟨h1, h2, h3, h4, h5⟩ := h
  have h4' : m.time ≤ t := by omega
  rw [wr64, wid (by omega) (by omega)] at h5
  exact ⟨h1, by omega, by omega, h4', by omega⟩
theorem at_both {s : Sensor} {m : Measure} {t : Int} (hm : 0 ≤ m.time ∧ m.time ≤ 4611686018427387904) (ht : t ≤ 4611686018427387904) : atI s m t = atR s m t := by
  unfold atI atR
  cases hd : atDead s m t with
  | true => rfl
  | false =>
    obtain ⟨h1, h2, h3, h4, h5⟩ := dead_false hd hm ht
    have hc := checkS_drift h1
    obtain ⟨m1, m2, _⟩ := more_both (s := s) (m := m) (t := t) hc.2.2.2.2.2.2.1 h4 (by omega)
    rw [m1, m2]
    simp only [Bool.false_eq_true, if_false]
    have : (s.kind == 4 || (s.kind == 5 || s.kind == 6)) = decide (s.kind ≥ 4) := by
      have := hc.1
      rw [Bool.eq_iff_iff]
      simp only [Bool.or_eq_true, beq_iff_eq, decide_eq_true_eq]
      omega
    rw [this]
theorem mx_eq (a b : Int) : mx a b = max a b := by unfold mx; split <;> omega
theorem mn_eq (a b : Int) : mn a b = min a b := by unfold mn; split <;> omega
/-- What is said at a time, in plain numbers. -/
theorem at_plain {s : Sensor} {m : Measure} {t : Int} (hm : 0 ≤ m.time ∧ m.time ≤ 4611686018427387904) (ht : t ≤ 4611686018427387904) (hlo : -1125899906842624 ≤ m.lo) (hhi : m.hi ≤ 1125899906842624) (hlh : m.lo ≤ m.hi) :
    atI s m t = (if atDead s m t then nothing else if s.kind ≥ 4 then ⟨m.lo, m.hi⟩ else if s.kind ≤ 2 then ⟨max (m.lo - moreT s m t) 0, max (m.hi + moreT s m t) 0⟩ else ⟨m.lo - moreT s m t, m.hi + moreT s m t⟩) := by
  rw [at_both hm ht]
  unfold atR
  cases hd : atDead s m t with
  | true => rfl
  | false =>
    obtain ⟨h1, h2, h3, h4, h5⟩ := dead_false hd hm ht
    have hc := checkS_drift h1
    obtain ⟨m1, m2, m3, m4⟩ := more_both (s := s) (m := m) (t := t) hc.2.2.2.2.2.2.1 h4 (by omega)
    rw [m2]
    simp only [Bool.false_eq_true, if_false, decide_eq_true_eq]
    have hg : (s.kind == 1 || s.kind == 2) = decide (s.kind ≤ 2) := by
      have := hc.1
      rw [Bool.eq_iff_iff]
      simp only [Bool.or_eq_true, beq_iff_eq, decide_eq_true_eq]
      omega
    rw [hg]
    unfold widen
    have e1 : wr64 (m.lo - moreT s m t) = m.lo - moreT s m t := wid (by omega) (by omega)
    have e2 : wr64 (m.hi + moreT s m t) = m.hi + moreT s m t := wid (by omega) (by omega)
    rw [e1, e2, mx_eq, mx_eq]
    simp only [decide_eq_true_eq]
theorem more_mono {s : Sensor} {m : Measure} {t t' : Int} (hs : 0 ≤ s.drift) (h : t ≤ t') : moreT s m t ≤ moreT s m t' := by
  unfold moreT
  have : s.drift * (t - m.time) ≤ s.drift * (t' - m.time) := Int.mul_le_mul_of_nonneg_left (by omega) hs
  omega
theorem dead_mono {s : Sensor} {m : Measure} {t t' : Int} (hm : 0 ≤ m.time ∧ m.time ≤ 4611686018427387904) (h0 : m.time ≤ t) (h : t ≤ t') (ht : t' ≤ 4611686018427387904) (hd : atDead s m t' = false) : atDead s m t = false := by
  obtain ⟨h1, h2, h3, h4, h5⟩ := dead_false hd hm ht
  unfold atDead
  simp only [Bool.or_eq_false_iff, bne_eq_false_iff_eq, decide_eq_false_iff_not, Bool.and_eq_false_iff, beq_eq_false_iff_ne, ne_eq]
  rw [wr64, wid (by omega) (by omega)]
  refine ⟨h1, by omega, by omega, by omega, by omega⟩
theorem less_iff {sp : Span} {v : Int} : (above sp v == -1) = true ↔ sp.lo ≤ sp.hi ∧ sp.lo < v ∧ sp.hi < v := by
  unfold above
  simp only [beq_iff_eq]
  split
  · constructor
    · intro h; omega
    · intro h; omega
  · split
    · constructor
      · intro h; omega
      · intro h; omega
    · split
      · constructor
        · intro h; omega
        · intro h; rfl
      · constructor
        · intro h; omega
        · intro h; omega
theorem less_mono {s : Sensor} {m : Measure} {v t t' : Int} (hm : 0 ≤ m.time ∧ m.time ≤ 4611686018427387904) (hlo : -1125899906842624 ≤ m.lo) (hhi : m.hi ≤ 1125899906842624) (hlh : m.lo ≤ m.hi) (hv : v ≤ 1125899906842624)
    (h0 : m.time ≤ t) (h : t ≤ t') (ht : t' ≤ 4611686018427387904) (hl : lessAt s m v t' = true) : lessAt s m v t = true := by
  unfold lessAt at *
  rw [less_iff] at *
  rw [at_plain hm ht hlo hhi hlh] at hl
  rw [at_plain hm (by omega) hlo hhi hlh]
  cases hd : atDead s m t' with
  | true =>
    rw [hd] at hl
    simp only [if_true, nothing] at hl
    omega
  | false =>
    have hd' := dead_mono hm h0 h ht hd
    rw [hd] at hl
    rw [hd']
    simp only [Bool.false_eq_true, if_false] at hl ⊢
    obtain ⟨h1, _⟩ := dead_false hd hm ht
    have hc := checkS_drift h1
    have hmm := more_mono (s := s) (m := m) hc.2.2.2.2.2.2.1.1 h
    obtain ⟨_, _, m3, m4⟩ := more_both (s := s) (m := m) (t := t) hc.2.2.2.2.2.2.1 h0 (by have := dead_false hd' hm (by omega); omega)
    by_cases k1 : s.kind ≥ 4
    · simp only [k1, if_true] at hl ⊢
      exact hl
    · by_cases k2 : s.kind ≤ 2
      · simp only [k1, k2, if_true, if_false] at hl ⊢
        omega
      · simp only [k1, k2, if_false] at hl ⊢
        omega
theorem bs_spec {f : Int → Bool} : ∀ (n : Nat) (lo hi : Int), lo ≤ hi → hi - lo < 2 ^ n → f lo = true → (∀ x y, lo ≤ x → x ≤ y → y ≤ hi → f y = true → f x = true) →
    lo ≤ bs f n lo hi ∧ bs f n lo hi ≤ hi ∧ f (bs f n lo hi) = true ∧ ∀ x, bs f n lo hi < x → x ≤ hi → f x = false
  | 0, lo, hi, h, hn, h0, ha => by
    have : hi = lo := by simp at hn; omega
    subst this
    exact ⟨by simp [bs], by simp [bs], h0, fun x h1 h2 => by simp [bs] at h1; omega⟩
  | n + 1, lo, hi, h, hn, h0, ha => by
    unfold bs
    have hp : (2 : Int) ^ (n + 1) = 2 * 2 ^ n := by rw [Int.pow_succ]; omega
    by_cases hc : lo < hi
    · rw [if_pos hc]
      have e0 : (hi - lo + 1).tdiv 2 = (hi - lo + 1) / 2 := Int.tdiv_eq_ediv_of_nonneg (by omega)
      rw [e0]
      by_cases hf : f (lo + (hi - lo + 1) / 2) = true
      · rw [if_pos hf]
        obtain ⟨g1, g2, g3, g4⟩ := bs_spec n (lo + (hi - lo + 1) / 2) hi (by omega) (by omega) hf (fun x y hx hxy hy => ha x y (by omega) hxy hy)
        exact ⟨by omega, g2, g3, g4⟩
      · rw [if_neg hf]
        obtain ⟨g1, g2, g3, g4⟩ := bs_spec n lo (lo + (hi - lo + 1) / 2 - 1) (by omega) (by omega) h0 (fun x y hx hxy hy => ha x y hx hxy (by omega))
        refine ⟨g1, by omega, g3, fun x h1 h2 => ?_⟩
        by_cases hx : x ≤ lo + (hi - lo + 1) / 2 - 1
        · exact g4 x h1 hx
        · cases hfx : f x with
          | false => rfl
          | true => exact absurd (ha _ _ (by omega) (show lo + (hi - lo + 1) / 2 ≤ x by omega) h2 hfx) hf
    · rw [if_neg hc]
      exact ⟨by omega, by omega, h0, fun x h1 h2 => by omega⟩
def l4 : List (FuncId × Spec) := [(26, s26), (32, s32), (31, s31), (25, s25), (27, s27), (33, s33), (29, s29), (34, s34), (30, s30)]
def k4 : Code → Keep := keepOf [(6, ⟨[6, 7, 8, 9, 10], [], []⟩)]
noncomputable def h4_0 (fl : Nat) (t8 : Int) (t9 : Int) (t10 : Int) (m0_0 : Int) (m0_1 : Int) (m0_2 : Int) (m0_3 : Int) (m0_4 : Int) (m0_5 : Int) (m0_6 : Int) (m0_7 : Int) (m1_0 : Int) (m1_1 : Int) (m1_2 : Int) (m1_3 : Int) : Option (AV × List Ob) := (evalH (env l4) Try.f4 k4 0 fl (stkF Try.f4 [1, 1, 1, 1, 1, 0, 1, 0]) ⟨[.one (.undef), .one (.undef), .one (.undef), .one (.undef), .one (.undef), .one (.undef), .one (.ptr 0 0), .one (.ptr 1 0), .one (.int .i64 t8), .one (.int .i64 t9), .one (.int .i64 t10), .one (.undef), .one (.undef), .one (.undef), .one (.undef), .one (.undef), .one (.undef), .one (.undef), .one (.undef), .one (.undef), .one (.undef), .one (.undef), .one (.undef), .one (.undef), .one (.undef), .one (.undef), .one (.undef), .one (.undef), .one (.undef), .one (.undef), .one (.undef), .one (.undef), .one (.undef), .one (.undef), .one (.undef), .one (.undef), .one (.undef), .one (.undef), .one (.undef), .one (.undef), .one (.undef), .one (.undef), .one (.undef), .one (.undef), .one (.undef), .one (.undef), .one (.undef), .one (.undef), .one (.undef), .one (.undef)], [((0, 0), some (.cell (.int .i64 m0_0))), ((0, 1), some (.cell (.int .i64 m0_1))), ((0, 2), some (.cell (.int .i64 m0_2))), ((0, 3), some (.cell (.int .i64 m0_3))), ((0, 4), some (.cell (.int .i64 m0_4))), ((0, 5), some (.cell (.int .i64 m0_5))), ((0, 6), some (.cell (.int .i64 m0_6))), ((0, 7), some (.cell (.int .i64 m0_7))), ((1, 0), some (.cell (.int .i64 m1_0))), ((1, 1), some (.cell (.int .i64 m1_1))), ((1, 2), some (.cell (.int .i64 m1_2))), ((1, 3), some (.cell (.int .i64 m1_3)))], 2⟩).den
noncomputable def h4 (fl : Nat) (l : List Int) (v : Int) : Option (AV × List Ob) := (evalF (env l4) Try.f4 k4 fl [.one (.vec false .u8 l), .one (.int .i64 v)] []).den
theorem h4_eq (fl : Nat) (l : List Int) (v : Int) : h4 (fl + 1) l v =
    if (cok (List.take 300 l) 0) = true then if (cok (List.take 300 l) (nextP (List.take 300 l) 0 6)) = true then if (cok (List.take 300 l) (sensP (List.take 300 l) (nextP (List.take 300 l) 0 6) (wr64 (1 + nextV (List.take 300 l) 0 6)))) = true then h4_0 fl (IntKind.i64.wrap (modz v 260 - 60)) (-1) (timeM (List.take 300 l) (sensP (List.take 300 l) (nextP (List.take 300 l) 0 6) (wr64 (1 + nextV (List.take 300 l) 0 6)))) ((sensV (List.take 300 l) (nextP (List.take 300 l) 0 6) (wr64 (1 + nextV (List.take 300 l) 0 6)) 0 0).addr) ((sensV (List.take 300 l) (nextP (List.take 300 l) 0 6) (wr64 (1 + nextV (List.take 300 l) 0 6)) 0 0).kind) ((sensV (List.take 300 l) (nextP (List.take 300 l) 0 6) (wr64 (1 + nextV (List.take 300 l) 0 6)) 0 0).target) ((sensV (List.take 300 l) (nextP (List.take 300 l) 0 6) (wr64 (1 + nextV (List.take 300 l) 0 6)) 0 0).offset) ((sensV (List.take 300 l) (nextP (List.take 300 l) 0 6) (wr64 (1 + nextV (List.take 300 l) 0 6)) 0 0).scale) ((sensV (List.take 300 l) (nextP (List.take 300 l) 0 6) (wr64 (1 + nextV (List.take 300 l) 0 6)) 0 0).error) ((sensV (List.take 300 l) (nextP (List.take 300 l) 0 6) (wr64 (1 + nextV (List.take 300 l) 0 6)) 0 0).drift) ((sensV (List.take 300 l) (nextP (List.take 300 l) 0 6) (wr64 (1 + nextV (List.take 300 l) 0 6)) 0 0).life) (sensM (List.take 300 l) (sensP (List.take 300 l) (nextP (List.take 300 l) 0 6) (wr64 (1 + nextV (List.take 300 l) 0 6)))) (timeM (List.take 300 l) (sensP (List.take 300 l) (nextP (List.take 300 l) 0 6) (wr64 (1 + nextV (List.take 300 l) 0 6)))) ((spanM (List.take 300 l) (sensP (List.take 300 l) (nextP (List.take 300 l) 0 6) (wr64 (1 + nextV (List.take 300 l) 0 6)))).lo) ((spanM (List.take 300 l) (sensP (List.take 300 l) (nextP (List.take 300 l) 0 6) (wr64 (1 + nextV (List.take 300 l) 0 6)))).hi)
        else none
      else none
    else none := by kernel_rfl
theorem h4_0_eq (fl : Nat) (t8 : Int) (t9 : Int) (t10 : Int) (m0_0 : Int) (m0_1 : Int) (m0_2 : Int) (m0_3 : Int) (m0_4 : Int) (m0_5 : Int) (m0_6 : Int) (m0_7 : Int) (m1_0 : Int) (m1_1 : Int) (m1_2 : Int) (m1_3 : Int) : h4_0 (fl + 1) t8 t9 t10 m0_0 m0_1 m0_2 m0_3 m0_4 m0_5 m0_6 m0_7 m1_0 m1_1 m1_2 m1_3 =
    if (decide (t10 ≤ IntKind.i64.wrap (m1_1 + m0_7))) = true then if (above { lo := (atR { addr := m0_0, kind := m0_1, target := m0_2, offset := m0_3, scale := m0_4, error := m0_5, drift := m0_6, life := m0_7 } { sensor := m1_0, time := m1_1, lo := m1_2, hi := m1_3 } t10).lo, hi := (atR { addr := m0_0, kind := m0_1, target := m0_2, offset := m0_3, scale := m0_4, error := m0_5, drift := m0_6, life := m0_7 } { sensor := m1_0, time := m1_1, lo := m1_2, hi := m1_3 } t10).hi } t8 != -1) = true then if (untilOk { addr := m0_0, kind := m0_1, target := m0_2, offset := m0_3, scale := m0_4, error := m0_5, drift := m0_6, life := m0_7 } { sensor := m1_0, time := m1_1, lo := m1_2, hi := m1_3 }) = true then if (untilI { addr := m0_0, kind := m0_1, target := m0_2, offset := m0_3, scale := m0_4, error := m0_5, drift := m0_6, life := m0_7 } { sensor := m1_0, time := m1_1, lo := m1_2, hi := m1_3 } t8 == t9) = true then some (.one (.bool true), [])
          else some (.one (.bool false), [])
        else none
      else h4_0 fl t8 t10 (IntKind.i64.wrap (t10 + 1)) m0_0 m0_1 m0_2 m0_3 m0_4 m0_5 m0_6 m0_7 m1_0 m1_1 m1_2 m1_3
    else if (untilOk { addr := m0_0, kind := m0_1, target := m0_2, offset := m0_3, scale := m0_4, error := m0_5, drift := m0_6, life := m0_7 } { sensor := m1_0, time := m1_1, lo := m1_2, hi := m1_3 }) = true then if (untilI { addr := m0_0, kind := m0_1, target := m0_2, offset := m0_3, scale := m0_4, error := m0_5, drift := m0_6, life := m0_7 } { sensor := m1_0, time := m1_1, lo := m1_2, hi := m1_3 } t8 == t9) = true then some (.one (.bool true), [])
        else some (.one (.bool false), [])
      else none := by kernel_rfl
theorem v4_0 (v : Int) (s : Sensor) (m : Measure) (hS : SB s) (hM : MB m) (hv : v ≤ 1125899906842624) : ∀ (n fl : Nat) (t last : Int), m.time + s.life + 1 - t = n → n < fl → m.time ≤ t → (∀ x, m.time ≤ x → x < t → lessAt s m v x = true) → last = (if t = m.time then -1 else t - 1) →
    h4_0 fl v last t s.addr s.kind s.target s.offset s.scale s.error s.drift s.life m.sensor m.time m.lo m.hi = some (.one (.bool true), []) := by
  have hm : 0 ≤ m.time ∧ m.time ≤ 4611686018427387904 := by have := hM.time; omega
  have ha : ∀ x y, m.time ≤ x → x ≤ y → y ≤ m.time + s.life → lessAt s m v y = true → lessAt s m v x = true := fun x y h1 h2 h3 h4 =>
    less_mono hm hM.lo.1 hM.hi.2 hM.hi.1 hv h1 h2 (by have := hM.time; have := hS.life; omega) h4
  have hT := hM.time
  have hL := hS.life
  have hok : untilOk s m = true := by
    simp only [untilOk, Bool.and_eq_true, decide_eq_true_eq]
    omega
  have hun : ∀ t last : Int, m.time ≤ t → t ≤ m.time + s.life + 1 → (∀ x, m.time ≤ x → x < t → lessAt s m v x = true) → (t ≤ m.time + s.life → lessAt s m v t = false) → last = (if t = m.time then -1 else t - 1) → untilI s m v = last := by
    intro t last h1 h2 h3 h4 h5
    unfold untilI
    by_cases hz : t = m.time
    · have := h4 (by omega)
      rw [hz] at this
      have h6 : (above (atI s m m.time) v != -1) = true := by
        unfold lessAt at this
        simpa using this
      rw [if_pos h6, h5, if_pos hz]
    · have h6 : lessAt s m v m.time = true := h3 _ (by omega) (by omega)
      have h7 : ¬ (above (atI s m m.time) v != -1) = true := by
        unfold lessAt at h6
        simpa using h6
      rw [if_neg h7]
      obtain ⟨g1, g2, g3, g4⟩ := bs_spec (f := lessAt s m v) 42 m.time (m.time + s.life) (by omega) (by have : (2 : Int) ^ 42 = 4398046511104 := rfl; omega) h6 ha
      rw [if_neg hz] at h5
      generalize bs (lessAt s m v) 42 m.time (m.time + s.life) = r at *
      have a1 : ¬ r < t - 1 := fun hr => by
        have := g4 (t - 1) hr (by omega)
        rw [h3 (t - 1) (by omega) (by omega)] at this
        cases this
      have a2 : ¬ t ≤ r := fun hr => by
        have h8 := h4 (by omega)
        rw [ha t r h1 hr g2 g3] at h8
        cases h8
      omega
  have fin : ∀ t last : Int, untilI s m v = last → (if untilOk s m = true then if (untilI s m v == last) = true then some (AV.one (Sc.bool true), []) else some (AV.one (Sc.bool false), []) else (none : Option (AV × List Ob))) = some (.one (.bool true), []) := by
    intro t last h
    rw [if_pos hok, if_pos (by simpa using h)]
  intro n
  induction n with
  | zero =>
    intro fl t last hn hfl ht hall hlast
    obtain ⟨fl, rfl⟩ : ∃ k, fl = k + 1 := ⟨fl - 1, by omega⟩
    rw [h4_0_eq]
    have e1 : IntKind.i64.wrap (m.time + s.life) = m.time + s.life := wid (by omega) (by omega)
    rw [e1, if_neg (by simp only [decide_eq_true_eq]; omega)]
    exact fin t last (hun t last ht (by omega) hall (fun h => by omega) hlast)
  | succ n ih =>
    intro fl t last hn hfl ht hall hlast
    obtain ⟨fl, rfl⟩ : ∃ k, fl = k + 1 := ⟨fl - 1, by omega⟩
    rw [h4_0_eq]
    have e1 : IntKind.i64.wrap (m.time + s.life) = m.time + s.life := wid (by omega) (by omega)
    have e2 : IntKind.i64.wrap (t + 1) = t + 1 := wid (by omega) (by omega)
    rw [e1, if_pos (by simp only [decide_eq_true_eq]; omega), e2]
    have hR : above (atR s m t) v = above (atI s m t) v := by rw [at_both hm (by omega)]
    by_cases hf : lessAt s m v t = true
    · have h6 : ¬ (above (atR s m t) v != -1) = true := by
        rw [hR]
        unfold lessAt at hf
        simpa using hf
      rw [if_neg h6]
      refine ih fl (t + 1) t (by omega) (by omega) (by omega) (fun x h1 h2 => ?_) (by rw [if_neg (by omega)]; omega)
      by_cases hx : x = t
      · rw [hx]; exact hf
      · exact hall x h1 (by omega)
    · have h6 : (above (atR s m t) v != -1) = true := by
        rw [hR]
        unfold lessAt at hf
        simpa using hf
      rw [if_pos h6]
      exact fin t last (hun t last ht (by omega) hall (fun h => by simpa using hf) hlast)
theorem v4 (l : List Int) (v : Int) (h : l.all u8B = true) : h4 1000 l v = some (.one (.bool true), []) := by
  have k0 := cok0 h
  have k1 := cok_next (n := 6) k0
  have r0 := nextV_range (n := 6) k0 (by omega)
  rw [h4_eq, if_pos k0, if_pos k1]
  have e1 : wr64 (1 + nextV (List.take 300 l) 0 6) = 1 + nextV (List.take 300 l) 0 6 := wid (by omega) (by omega)
  rw [e1]
  generalize hA : 1 + nextV (List.take 300 l) 0 6 = A
  have k2 := cok_sensP (a := A) k1
  rw [if_pos k2]
  obtain ⟨hS, _⟩ := sensV_ok (a := A) (b := 0) (c := 0) k1 (by omega)
  have hM := measV_ok k2
  have rv := modz_range (k := v) (n := 260) (by omega) (by omega)
  have e2 : IntKind.i64.wrap (modz v 260 - 60) = modz v 260 - 60 := wid (by omega) (by omega)
  rw [e2]
  have hT := hM.time
  have hL := hS.life
  exact v4_0 (modz v 260 - 60) _ _ hS hM (by omega) ((sensV (List.take 300 l) (nextP (List.take 300 l) 0 6) A 0 0).life + 1).toNat 999 (measV (List.take 300 l) (sensP (List.take 300 l) (nextP (List.take 300 l) 0 6) A)).time (-1) (by omega) (by omega) (by omega) (fun x h1 h2 => by omega) (by rw [if_pos rfl])
def s4 : Spec := ⟨false, fun av ob => match av, ob with
  | [.one (.vec false .u8 l), .one (.int .i64 v)], [] => .need (l.all u8B && (i64B v)) (.ret (.one (.bool true), []))
  | _, _ => .fail⟩
theorem p4 : SpecOK Try.prog 4 s4 := by
  refine specOK_of (env_ok (l := l4) ⟨⟨p26, f26⟩, ⟨⟨p32, f32⟩, ⟨⟨p31, f31⟩, ⟨⟨p25, f25⟩, ⟨⟨p27, f27⟩, ⟨⟨p33, f33⟩, ⟨⟨p29, f29⟩, ⟨⟨p34, f34⟩, ⟨⟨p30, f30⟩, trivial⟩⟩⟩⟩⟩⟩⟩⟩⟩) mixed_ok Try.func4 k4 fun av ob r os hrn => ?_
  simp only [s4] at hrn
  split at hrn
  · rename_i l v
    obtain ⟨hg, hrn⟩ := need_den hrn
    cases hrn
    simp only [Bool.and_eq_true] at hg
    obtain ⟨q1, q2⟩ := hg
    have hv := v4 l v q1
    unfold h4 at hv
    exact ⟨1000, hv⟩
  · cases hrn
theorem law4 (av : List AV) (h : AVs [RBytes, RInt] av) : (s4.run av []).den = some (.one (.bool true), []) := by
  obtain ⟨_, _, rfl, ⟨l, rfl, q1⟩, k1⟩ := h.cons
  obtain ⟨_, _, rfl, ⟨v, rfl, q2⟩, k2⟩ := k1.cons
  rw [k2.nil]
  refine den_need ?_
  simp only [Bool.and_eq_true]
  exact ⟨q1, q2⟩
end Go.Proofs.Ytipfipnhgpbceaa.Sx
/- Draws, in the form in which a caller goes on with what was drawn (plain theorems). -/

set_option linter.unusedVariables false
set_option linter.unusedSimpArgs false
set_option maxRecDepth 100000
namespace Go.Proofs.Ytipfipnhgpbceaa.Sx
open Go Go.RowKit
theorem spec_le {P : Program} {f : FuncId} {a b : Spec} (h : ∀ av ob r os, (b.run av ob).den = some (r, os) → (a.run av ob).den = some (r, os)) (ha : SpecOK P f a) : SpecOK P f b :=
  fun w ρ ok vs av obs r os h1 h2 h3 h4 => ha w ρ ok vs av obs r os h1 h2 h3 (h _ _ _ _ h4)
def nextO (l : List Int) (p n : Int) : Option (Int × Int) := if cok l p = true then some (nextV l p n, nextP l p n) else none
theorem next_ok {l : List Int} {p n : Int} (h : cok l p = true) (hn : 1 ≤ n) : ∃ v q, nextO l p n = some (v, q) ∧ 0 ≤ v ∧ v < n ∧ cok l q = true :=
  ⟨_, _, if_pos h, (nextV_range h hn).1, (nextV_range h hn).2, cok_next h⟩
def c46 : Spec := ⟨false, fun av ob => match av, ob with
  | [.one (.ptr 0 0), .one (.int .i64 n)], [.box [.vec false .u8 l, .int .i64 p]] => .call (nextO l p n) fun x => .ret (.one (.int .i64 x.1), [.box [.vec false .u8 l, .int .i64 x.2]])
  | _, _ => .fail⟩
theorem pc46 : SpecOK Try.prog 46 c46 := by
  refine spec_le (fun av ob r os h => ?_) p46
  simp only [c46] at h
  split at h
  · rename_i n l p
    obtain ⟨x, hx, hr⟩ := Option.bind_eq_some_iff.1 h
    unfold nextO at hx
    split at hx
    · rename_i hc
      cases hx
      cases hr
      exact den_need hc
    · cases hx
  · cases h
def oneO (l : List Int) (p n : Int) : Option (Bool × Int) := if cok l p = true then some (nextV l p n == wr64 (n - 1), nextP l p n) else none
theorem one_ok {l : List Int} {p n : Int} (h : cok l p = true) : ∃ v q, oneO l p n = some (v, q) ∧ cok l q = true :=
  ⟨_, _, if_pos h, cok_next h⟩
def c55 : Spec := ⟨false, fun av ob => match av, ob with
  | [.one (.ptr 0 0), .one (.int .i64 n)], [.box [.vec false .u8 l, .int .i64 p]] => .call (oneO l p n) fun x => .ret (.one (.bool x.1), [.box [.vec false .u8 l, .int .i64 x.2]])
  | _, _ => .fail⟩
theorem pc55 : SpecOK Try.prog 55 c55 := by
  refine spec_le (fun av ob r os h => ?_) p55
  simp only [c55] at h
  split at h
  · rename_i n l p
    obtain ⟨x, hx, hr⟩ := Option.bind_eq_some_iff.1 h
    unfold oneO at hx
    split at hx
    · rename_i hc
      cases hx
      cases hr
      exact den_need hc
    · cases hx
  · cases h
def rangeO (l : List Int) (p lo hi : Int) : Option (Int × Int) := if cok l p = true then some (wr64 (lo + nextV l p (rangeN lo hi)), nextP l p (rangeN lo hi)) else none
theorem range_ok {l : List Int} {p lo hi : Int} (h : cok l p = true) (h1 : lo ≤ hi) (h2 : -1152921504606846976 ≤ lo) (h3 : hi ≤ 1152921504606846976) : ∃ v q, rangeO l p lo hi = some (v, q) ∧ lo ≤ v ∧ v ≤ hi ∧ cok l q = true := by
  have e1 : rangeN lo hi = hi - lo + 1 := by
    unfold rangeN
    rw [wr64, wr64, wid (n := hi - lo) (by omega) (by omega), wid (by omega) (by omega)]
  have r := nextV_range (n := hi - lo + 1) h (by omega)
  refine ⟨_, _, if_pos h, ?_, ?_, cok_next h⟩
  · rw [e1, wr64, wid (by omega) (by omega)]; omega
  · rw [e1, wr64, wid (by omega) (by omega)]; omega
def c32 : Spec := ⟨false, fun av ob => match av, ob with
  | [.one (.ptr 0 0), .one (.int .i64 lo), .one (.int .i64 hi)], [.box [.vec false .u8 l, .int .i64 p]] => .call (rangeO l p lo hi) fun x => .ret (.one (.int .i64 x.1), [.box [.vec false .u8 l, .int .i64 x.2]])
  | _, _ => .fail⟩
theorem pc32 : SpecOK Try.prog 32 c32 := by
  refine spec_le (fun av ob r os h => ?_) p32
  simp only [c32] at h
  split at h
  · rename_i lo hi l p
    obtain ⟨x, hx, hr⟩ := Option.bind_eq_some_iff.1 h
    unfold rangeO at hx
    split at hx
    · rename_i hc
      cases hx
      cases hr
      exact den_need hc
    · cases hx
  · cases h
def measO (l : List Int) (p : Int) : Option (Measure × Int) := if cok l p = true then some (measV l p, after6 l p) else none
theorem meas_ok {l : List Int} {p : Int} (h : cok l p = true) : ∃ m q, measO l p = some (m, q) ∧ MB m ∧ cok l q = true :=
  ⟨_, _, if_pos h, measV_ok h, cok_after6 h⟩
def c25 : Spec := ⟨false, fun av ob => match av, ob with
  | [.one (.ptr 0 0)], [.box [.vec false .u8 l, .int .i64 p]] => .call (measO l p) fun x => .ret (.agg [.int .i64 x.1.sensor, .int .i64 x.1.time, .int .i64 x.1.lo, .int .i64 x.1.hi], [.box [.vec false .u8 l, .int .i64 x.2]])
  | _, _ => .fail⟩
theorem pc25 : SpecOK Try.prog 25 c25 := by
  refine spec_le (fun av ob r os h => ?_) p25
  simp only [c25] at h
  split at h
  · rename_i l p
    obtain ⟨x, hx, hr⟩ := Option.bind_eq_some_iff.1 h
    unfold measO at hx
    split at hx
    · rename_i hc
      cases hx
      cases hr
      exact den_need hc
    · cases hx
  · cases h
def sensO (l : List Int) (p a b c : Int) : Option (Sensor × Int) := if cok l p = true then some (sensV l p a b c, sensP l p a) else none
theorem sens_ok {l : List Int} {p a b c : Int} (h : cok l p = true) (ha : 1 ≤ a ∧ a ≤ 6) : ∃ s q, sensO l p a b c = some (s, q) ∧ SB s ∧ s.kind = a ∧ s.addr = b ∧ s.target = c ∧ cok l q = true := by
  obtain ⟨h1, h2, h3, h4⟩ := sensV_ok (b := b) (c := c) h ha
  exact ⟨_, _, if_pos h, h1, h2, h3, h4, cok_sensP h⟩
def c31 : Spec := ⟨false, fun av ob => match av, ob with
  | [.one (.ptr 0 0), .one (.int .i64 a), .one (.int .i64 b), .one (.int .i64 c)], [.box [.vec false .u8 l, .int .i64 p]] => .call (sensO l p a b c) fun x => .ret (.agg [.int .i64 x.1.addr, .int .i64 x.1.kind, .int .i64 x.1.target, .int .i64 x.1.offset, .int .i64 x.1.scale, .int .i64 x.1.error, .int .i64 x.1.drift, .int .i64 x.1.life], [.box [.vec false .u8 l, .int .i64 x.2]])
  | _, _ => .fail⟩
theorem pc31 : SpecOK Try.prog 31 c31 := by
  refine spec_le (fun av ob r os h => ?_) p31
  simp only [c31] at h
  split at h
  · rename_i a b c l p
    obtain ⟨x, hx, hr⟩ := Option.bind_eq_some_iff.1 h
    unfold sensO at hx
    split at hx
    · rename_i hc
      cases hx
      cases hr
      exact den_need hc
    · cases hx
  · cases h
end Go.Proofs.Ytipfipnhgpbceaa.Sx
/- What raw numbers say (plain theorems). -/

set_option linter.unusedVariables false
set_option linter.unusedSimpArgs false
set_option maxRecDepth 100000
namespace Go.Proofs.Ytipfipnhgpbceaa.Sx
open Go Go.RowKit
def l113 : List (FuncId × Spec) := []
def k113 : Code → Keep := keepOf []
noncomputable def h113 (fl : Nat) (n : Int) : Option (AV × List Ob) := (evalF (env l113) Try.f113 k113 fl [.one (.int .i64 n)] []).den
theorem h113_eq (fl : Nat) (n : Int) : h113 (fl + 1) n =
    if (decide (n.tmod 1000 < 0)) = true then some (.one (.int .i64 (IntKind.i64.wrap (IntKind.i64.wrap (n.tdiv 1000) - 1))), [])
    else some (.one (.int .i64 (IntKind.i64.wrap (n.tdiv 1000))), []) := by kernel_rfl
def s113 : Spec := ⟨false, fun av ob => match av, ob with
  | [.one (.int .i64 n)], [] => .ret (.one (.int .i64 (flo n 1000)), [])
  | _, _ => .fail⟩
theorem v113 (n : Int) : h113 1 n = some (.one (.int .i64 (flo n 1000)), []) := by
  rw [h113_eq]
  unfold flo
  by_cases c : n.tmod 1000 < 0 <;> simp [c, wr64]
theorem p113 : SpecOK Try.prog 113 s113 := by
  refine specOK_of (env_ok (l := l113) trivial) mixed_ok Try.func113 k113 fun av ob r os hrn => ?_
  simp only [s113] at hrn
  split at hrn
  · rename_i n
    cases hrn
    have hv := v113 n
    unfold h113 at hv
    exact ⟨1, hv⟩
  · cases hrn
theorem f113 : FnOK Try.prog 113 := fnOK_of Try.func113 rfl (by kernel_rfl)
def l90 : List (FuncId × Spec) := [(54, s54), (113, s113)]
def k90 : Code → Keep := keepOf []
noncomputable def h90 (fl : Nat) (a b c d e f g h n : Int) : Option (AV × List Ob) := (evalF (env l90) Try.f90 k90 fl [.agg [.int .i64 a, .int .i64 b, .int .i64 c, .int .i64 d, .int .i64 e, .int .i64 f, .int .i64 g, .int .i64 h], .one (.int .i64 n)] []).den
theorem h90_eq (fl : Nat) (a b c d e f g h n : Int) : h90 (fl + 1) a b c d e f g h n =
    if (decide (n < 0)) = true then some (.agg [.int .i64 (-1125899906842624), .int .i64 1125899906842624], [])
    else if (decide (n > 65535)) = true then some (.agg [.int .i64 (-1125899906842624), .int .i64 1125899906842624], [])
      else if (b == 4) = true then if (decide (n > 1)) = true then some (.agg [.int .i64 (-1125899906842624), .int .i64 1125899906842624], [])
          else some (.agg [.int .i64 n, .int .i64 n], [])
        else if (b == 5) = true then if (decide (n > 2)) = true then some (.agg [.int .i64 (-1125899906842624), .int .i64 1125899906842624], [])
            else some (.agg [.int .i64 n, .int .i64 n], [])
          else if (b == 6) = true then if (decide (n > 5)) = true then some (.agg [.int .i64 (-1125899906842624), .int .i64 1125899906842624], [])
              else some (.agg [.int .i64 n, .int .i64 n], [])
            else if (b == 1) = true then some (.agg [.int .i64 (mx (IntKind.i64.wrap (IntKind.i64.wrap (d + flo (IntKind.i64.wrap (e * n)) 1000) - f)) 0), .int .i64 (mx (IntKind.i64.wrap (IntKind.i64.wrap (d - flo (IntKind.i64.wrap (0 - IntKind.i64.wrap (e * n))) 1000) + f)) 0)], [])
              else if (b == 2) = true then some (.agg [.int .i64 (mx (IntKind.i64.wrap (IntKind.i64.wrap (d + flo (IntKind.i64.wrap (e * n)) 1000) - f)) 0), .int .i64 (mx (IntKind.i64.wrap (IntKind.i64.wrap (d - flo (IntKind.i64.wrap (0 - IntKind.i64.wrap (e * n))) 1000) + f)) 0)], [])
                else some (.agg [.int .i64 (IntKind.i64.wrap (IntKind.i64.wrap (d + flo (IntKind.i64.wrap (e * n)) 1000) - f)), .int .i64 (IntKind.i64.wrap (IntKind.i64.wrap (d - flo (IntKind.i64.wrap (0 - IntKind.i64.wrap (e * n))) 1000) + f))], []) := by kernel_rfl
def valSpan (s : Sensor) (n : Int) : Span := ⟨wr64 (wr64 (s.offset + flo (wr64 (s.scale * n)) 1000) - s.error), wr64 (wr64 (s.offset - flo (wr64 (0 - wr64 (s.scale * n))) 1000) + s.error)⟩
def valT (s : Sensor) (n : Int) : Span :=
  if n < 0 ∨ n > 65535 then nothing
  else if s.kind = 4 then (if n > 1 then nothing else ⟨n, n⟩)
  else if s.kind = 5 then (if n > 2 then nothing else ⟨n, n⟩)
  else if s.kind = 6 then (if n > 5 then nothing else ⟨n, n⟩)
  else if s.kind = 1 ∨ s.kind = 2 then ⟨mx (valSpan s n).lo 0, mx (valSpan s n).hi 0⟩
  else valSpan s n
def s90 : Spec := ⟨false, fun av ob => match av, ob with
  | [.agg [.int .i64 a, .int .i64 b, .int .i64 c, .int .i64 d, .int .i64 e, .int .i64 f, .int .i64 g, .int .i64 h], .one (.int .i64 n)], [] => .ret (.agg [.int .i64 (valT ⟨a, b, c, d, e, f, g, h⟩ n).lo, .int .i64 (valT ⟨a, b, c, d, e, f, g, h⟩ n).hi], [])
  | _, _ => .fail⟩
theorem v90 (a b c d e f g h n : Int) : h90 1 a b c d e f g h n = some (.agg [.int .i64 (valT ⟨a, b, c, d, e, f, g, h⟩ n).lo, .int .i64 (valT ⟨a, b, c, d, e, f, g, h⟩ n).hi], []) := by
  rw [h90_eq]
  unfold valT valSpan
  simp only [decide_eq_true_eq, beq_iff_eq]
  by_cases c1 : n < 0
  · simp only [c1, true_or, if_true]
  by_cases c2 : n > 65535
  · simp only [c1, c2, or_true, if_true, if_false]
  simp only [c1, c2, or_self, if_false]
  by_cases c4 : b = 4
  · subst c4
    by_cases k : n > 1 <;> simp [k]
  by_cases c5 : b = 5
  · subst c5
    by_cases k : n > 2 <;> simp [k]
  by_cases c6 : b = 6
  · subst c6
    by_cases k : n > 5 <;> simp [k]
  by_cases c7 : b = 1
  · subst c7
    simp [wr64]
  by_cases c8 : b = 2
  · subst c8
    simp [wr64]
  simp [c4, c5, c6, c7, c8, wr64]
theorem p90 : SpecOK Try.prog 90 s90 := by
  refine specOK_of (env_ok (l := l90) ⟨⟨p54, f54⟩, ⟨⟨p113, f113⟩, trivial⟩⟩) mixed_ok Try.func90 k90 fun av ob r os hrn => ?_
  simp only [s90] at hrn
  split at hrn
  · rename_i a b c d e f g h n
    cases hrn
    have hv := v90 a b c d e f g h n
    unfold h90 at hv
    exact ⟨1, hv⟩
  · cases hrn
theorem f90 : FnOK Try.prog 90 := fnOK_of Try.func90 rfl (by kernel_rfl)
end Go.Proofs.Ytipfipnhgpbceaa.Sx
/- What raw numbers say, by both texts; the least raw number for a value (plain theorems). -/

set_option linter.unusedVariables false
set_option linter.unusedSimpArgs false
set_option maxRecDepth 100000
namespace Go.Proofs.Ytipfipnhgpbceaa.Sx
open Go Go.RowKit
theorem flo_eq {y : Int} (h0 : -4611686018427387904 ≤ y) (h1 : y ≤ 4611686018427387904) : flo y 1000 = y / 1000 := by
  unfold flo
  by_cases hy : 0 ≤ y
  · rw [Int.tmod_eq_emod_of_nonneg hy, Int.tdiv_eq_ediv_of_nonneg hy, if_neg (by omega)]
    exact wid (by omega) (by omega)
  · obtain ⟨z, rfl⟩ : ∃ z, y = -z := ⟨-y, by omega⟩
    rw [Int.neg_tmod, Int.neg_tdiv, Int.tmod_eq_emod_of_nonneg (by omega), Int.tdiv_eq_ediv_of_nonneg (by omega)]
    have q1 : wr64 (-(z / 1000)) = -(z / 1000) := wid (by omega) (by omega)
    rw [q1]
    split
    · rw [wr64, wid (by omega) (by omega)]; omega
    · omega
theorem scaled {s : Sensor} {n : Int} (h : checkS s = 0) (hn : 0 ≤ n ∧ n ≤ 65535) : -65535000000 ≤ s.scale * n ∧ s.scale * n ≤ 65535000000 := by
  have hc := checkS_drift h
  have h1 := Int.mul_le_mul_of_nonneg_right hc.2.2.2.2.1.2 hn.1
  have h2 := Int.mul_le_mul_of_nonneg_right hc.2.2.2.2.1.1 hn.1
  omega
theorem valSpan_eq {s : Sensor} {n : Int} (h : checkS s = 0) (hn : 0 ≤ n ∧ n ≤ 65535) : valSpan s n = ⟨s.offset + s.scale * n / 1000 - s.error, s.offset - (-(s.scale * n)) / 1000 + s.error⟩ := by
  have hc := checkS_drift h
  have hx := scaled h hn
  unfold valSpan
  generalize s.scale * n = x at *
  have e1 : wr64 x = x := wid (by omega) (by omega)
  have e2 : wr64 (0 - x) = -x := by rw [wr64, wid (by omega) (by omega)]; omega
  rw [e1, e2, flo_eq (by omega) (by omega), flo_eq (by omega) (by omega)]
  have e3 : wr64 (s.offset + x / 1000) = s.offset + x / 1000 := wid (by omega) (by omega)
  have e4 : wr64 (s.offset + x / 1000 - s.error) = s.offset + x / 1000 - s.error := wid (by omega) (by omega)
  have e5 : wr64 (s.offset - -x / 1000) = s.offset - -x / 1000 := wid (by omega) (by omega)
  have e6 : wr64 (s.offset - -x / 1000 + s.error) = s.offset - -x / 1000 + s.error := wid (by omega) (by omega)
  rw [e3, e4, e5, e6]
def valueC (s : Sensor) (n : Int) : Span := if checkS s != 0 then nothing else valT s n
def l41 : List (FuncId × Spec) := [(38, s38), (54, s54), (90, s90)]
def k41 : Code → Keep := keepOf []
noncomputable def h41 (fl : Nat) (a b c d e f g h n : Int) : Option (AV × List Ob) := (evalF (env l41) Try.f41 k41 fl [.agg [.int .i64 a, .int .i64 b, .int .i64 c, .int .i64 d, .int .i64 e, .int .i64 f, .int .i64 g, .int .i64 h], .one (.int .i64 n)] []).den
theorem h41_eq (fl : Nat) (a b c d e f g h n : Int) : h41 (fl + 1) a b c d e f g h n =
    if (checkS { addr := a, kind := b, target := c, offset := d, scale := e, error := f, drift := g, life := h : Sensor } != 0) = true then some (.agg [.int .i64 (-1125899906842624), .int .i64 1125899906842624], [])
    else some (.agg [.int .i64 ((valT { addr := a, kind := b, target := c, offset := d, scale := e, error := f, drift := g, life := h : Sensor } n).lo), .int .i64 ((valT { addr := a, kind := b, target := c, offset := d, scale := e, error := f, drift := g, life := h : Sensor } n).hi)], []) := by kernel_rfl
def s41 : Spec := ⟨false, fun av ob => match av, ob with
  | [.agg [.int .i64 a, .int .i64 b, .int .i64 c, .int .i64 d, .int .i64 e, .int .i64 f, .int .i64 g, .int .i64 h], .one (.int .i64 n)], [] => .ret (.agg [.int .i64 (valueC ⟨a, b, c, d, e, f, g, h⟩ n).lo, .int .i64 (valueC ⟨a, b, c, d, e, f, g, h⟩ n).hi], [])
  | _, _ => .fail⟩
theorem v41 (a b c d e f g h n : Int) : h41 1 a b c d e f g h n = some (.agg [.int .i64 (valueC ⟨a, b, c, d, e, f, g, h⟩ n).lo, .int .i64 (valueC ⟨a, b, c, d, e, f, g, h⟩ n).hi], []) := by
  rw [h41_eq]
  unfold valueC
  split <;> rfl
theorem p41 : SpecOK Try.prog 41 s41 := by
  refine specOK_of (env_ok (l := l41) ⟨⟨p38, f38⟩, ⟨⟨p54, f54⟩, ⟨⟨p90, f90⟩, trivial⟩⟩⟩) mixed_ok Try.func41 k41 fun av ob r os hrn => ?_
  simp only [s41] at hrn
  split at hrn
  · rename_i a b c d e f g h n
    cases hrn
    have hv := v41 a b c d e f g h n
    unfold h41 at hv
    exact ⟨1, hv⟩
  · cases hrn
theorem f41 : FnOK Try.prog 41 := fnOK_of Try.func41 rfl (by kernel_rfl)
def l42 : List (FuncId × Spec) := [(39, s39), (89, s89), (35, s35), (84, s84), (53, s53), (85, s85), (86, s86)]
def k42 : Code → Keep := keepOf []
noncomputable def h42 (fl : Nat) (a b c d e f g h n : Int) : Option (AV × List Ob) := (evalF (env l42) Try.f42 k42 fl [.agg [.int .i64 a, .int .i64 b, .int .i64 c, .int .i64 d, .int .i64 e, .int .i64 f, .int .i64 g, .int .i64 h], .one (.int .i64 n)] []).den
theorem h42_eq (fl : Nat) (a b c d e f g h n : Int) : h42 (fl + 1) a b c d e f g h n =
    if (checkS { addr := a, kind := b, target := c, offset := d, scale := e, error := f, drift := g, life := h : Sensor } != 0) = true then some (.agg [.int .i64 (-1125899906842624), .int .i64 1125899906842624], [])
    else if (!(decide (0 ≤ n) && decide (n ≤ 65535))) = true then some (.agg [.int .i64 (-1125899906842624), .int .i64 1125899906842624], [])
      else if (decide (b ≥ 4)) = true then if (b == 5) = true then if (b == 6) = true then if (decide (n > 5)) = true then some (.agg [.int .i64 (-1125899906842624), .int .i64 1125899906842624], [])
              else some (.agg [.int .i64 n, .int .i64 n], [])
            else if (decide (n > 2)) = true then some (.agg [.int .i64 (-1125899906842624), .int .i64 1125899906842624], [])
              else some (.agg [.int .i64 n, .int .i64 n], [])
          else if (b == 6) = true then if (decide (n > 5)) = true then some (.agg [.int .i64 (-1125899906842624), .int .i64 1125899906842624], [])
              else some (.agg [.int .i64 n, .int .i64 n], [])
            else if (decide (n > 1)) = true then some (.agg [.int .i64 (-1125899906842624), .int .i64 1125899906842624], [])
              else some (.agg [.int .i64 n, .int .i64 n], [])
        else if (b == 1 || b == 2) = true then some (.agg [.int .i64 (mx (IntKind.i64.wrap (IntKind.i64.wrap (d + flo (IntKind.i64.wrap (e * n)) 1000) - f)) 0), .int .i64 (mx (IntKind.i64.wrap (IntKind.i64.wrap (d + cei (IntKind.i64.wrap (e * n)) 1000) + f)) 0)], [])
          else some (.agg [.int .i64 (IntKind.i64.wrap (IntKind.i64.wrap (d + flo (IntKind.i64.wrap (e * n)) 1000) - f)), .int .i64 (IntKind.i64.wrap (IntKind.i64.wrap (d + cei (IntKind.i64.wrap (e * n)) 1000) + f))], []) := by kernel_rfl
def s42 : Spec := ⟨false, fun av ob => match av, ob with
  | [.agg [.int .i64 a, .int .i64 b, .int .i64 c, .int .i64 d, .int .i64 e, .int .i64 f, .int .i64 g, .int .i64 h], .one (.int .i64 n)], [] => .ret (.agg [.int .i64 (valueC ⟨a, b, c, d, e, f, g, h⟩ n).lo, .int .i64 (valueC ⟨a, b, c, d, e, f, g, h⟩ n).hi], [])
  | _, _ => .fail⟩
theorem v42 (a b c d e f g h n : Int) : h42 1 a b c d e f g h n = some (.agg [.int .i64 (valueC ⟨a, b, c, d, e, f, g, h⟩ n).lo, .int .i64 (valueC ⟨a, b, c, d, e, f, g, h⟩ n).hi], []) := by
  rw [h42_eq]
  unfold valueC
  by_cases hc : checkS ⟨a, b, c, d, e, f, g, h⟩ = 0
  · have hc' : ¬ (checkS ⟨a, b, c, d, e, f, g, h⟩ != 0) = true := by simp [hc]
    rw [if_neg hc', if_neg hc']
    have hk := (checkS_drift hc).1
    dsimp only at hk
    by_cases hn : 0 ≤ n ∧ n ≤ 65535
    · rw [if_neg (by simp; omega)]
      unfold valT
      dsimp only
      rw [if_neg (by omega : ¬ (n < 0 ∨ n > 65535))]
      simp only [decide_eq_true_eq, beq_iff_eq, Bool.or_eq_true]
      by_cases c4 : b = 4
      · subst c4
        by_cases k : n > 1 <;> simp [k]
      by_cases c5 : b = 5
      · subst c5
        by_cases k : n > 2 <;> simp [k]
      by_cases c6 : b = 6
      · subst c6
        by_cases k : n > 5 <;> simp [k]
      rw [if_neg (by omega : ¬ b ≥ 4), if_neg c4, if_neg c5, if_neg c6, valSpan_eq hc hn]
      have hx := scaled hc hn
      have hcc := checkS_drift hc
      dsimp only at hx hcc ⊢
      have e1 : IntKind.i64.wrap (e * n) = e * n := wid (by omega) (by omega)
      rw [e1]
      generalize e * n = x at *
      have e2 : wr64 (0 - x) = -x := by rw [wr64, wid (by omega) (by omega)]; omega
      have e0 : cei x 1000 = -(-x / 1000) := by
        unfold cei
        rw [e2, flo_eq (by omega) (by omega), wr64, wid (by omega) (by omega)]; omega
      rw [e0, flo_eq (by omega) (by omega)]
      have e3 : IntKind.i64.wrap (d + x / 1000) = d + x / 1000 := wid (by omega) (by omega)
      have e4 : IntKind.i64.wrap (d + x / 1000 - f) = d + x / 1000 - f := wid (by omega) (by omega)
      have e5 : IntKind.i64.wrap (d + -(-x / 1000)) = d - -x / 1000 := by rw [wid (by omega) (by omega)]; omega
      have e6 : IntKind.i64.wrap (d - -x / 1000 + f) = d - -x / 1000 + f := wid (by omega) (by omega)
      rw [e3, e4, e5, e6]
      split <;> rfl
    · rw [if_pos (by simp; omega)]
      unfold valT
      rw [if_pos (by omega : n < 0 ∨ n > 65535)]
  · have hc' : (checkS ⟨a, b, c, d, e, f, g, h⟩ != 0) = true := by simp [hc]
    rw [if_pos hc', if_pos hc']
theorem p42 : SpecOK Try.prog 42 s42 := by
  refine specOK_of (env_ok (l := l42) ⟨⟨p39, f39⟩, ⟨⟨p89, f89⟩, ⟨⟨p35, f35⟩, ⟨⟨p84, f84⟩, ⟨⟨p53, f53⟩, ⟨⟨p85, f85⟩, ⟨⟨p86, f86⟩, trivial⟩⟩⟩⟩⟩⟩⟩) mixed_ok Try.func42 k42 fun av ob r os hrn => ?_
  simp only [s42] at hrn
  split at hrn
  · rename_i a b c d e f g h n
    cases hrn
    have hv := v42 a b c d e f g h n
    unfold h42 at hv
    exact ⟨1, hv⟩
  · cases hrn
theorem f42 : FnOK Try.prog 42 := fnOK_of Try.func42 rfl (by kernel_rfl)

/-! ### The least raw number -/
def findR (f : Int → Bool) : Nat → Int → Option Int
  | 0, _ => none
  | k + 1, i => if f i = true then some i else findR f k (i + 1)
def hasRaw (s : Sensor) (v n : Int) : Bool := !((valT s n).lo == -1125899906842624 && (valT s n).hi == 1125899906842624) && (decide ((valT s n).lo ≤ v) && decide (v ≤ (valT s n).hi))
def rawO (s : Sensor) (v : Int) : Option Int := if checkS s != 0 then none else findR (hasRaw s v) 65536 0
def rawN (o : Option Int) : Int := match o with | some i => i | none => 0
def rawB (o : Option Int) : Bool := match o with | some _ => true | none => false
def l60 : List (FuncId × Spec) := [(38, s38), (90, s90), (54, s54)]
def k60 : Code → Keep := keepOf [(4, ⟨[1, 2, 6], [], []⟩)]
noncomputable def h60_0 (fl : Nat) (t1 : Int) (t6 : Int) (m0_0 : Int) (m0_1 : Int) (m0_2 : Int) (m0_3 : Int) (m0_4 : Int) (m0_5 : Int) (m0_6 : Int) (m0_7 : Int) : Option (AV × List Ob) := (evalH (env l60) Try.f60 k60 0 fl (stkF Try.f60 [1, 1, 0, 1, 0]) ⟨[.one (.undef), .one (.int .i64 t1), .one (.ptr 0 0), .one (.undef), .one (.undef), .one (.undef), .one (.int .i64 t6), .one (.undef), .one (.undef), .one (.undef), .one (.undef), .one (.undef), .one (.undef), .one (.undef), .one (.undef), .one (.undef), .one (.undef), .one (.undef), .one (.undef), .one (.undef), .one (.undef), .one (.undef), .one (.undef), .one (.undef), .one (.undef), .one (.undef), .one (.undef), .one (.undef), .one (.undef), .one (.undef), .one (.undef), .one (.undef), .one (.undef), .one (.undef)], [((0, 0), some (.cell (.int .i64 m0_0))), ((0, 1), some (.cell (.int .i64 m0_1))), ((0, 2), some (.cell (.int .i64 m0_2))), ((0, 3), some (.cell (.int .i64 m0_3))), ((0, 4), some (.cell (.int .i64 m0_4))), ((0, 5), some (.cell (.int .i64 m0_5))), ((0, 6), some (.cell (.int .i64 m0_6))), ((0, 7), some (.cell (.int .i64 m0_7)))], 1⟩).den
noncomputable def h60 (fl : Nat) (a b c d e f g h n : Int) : Option (AV × List Ob) := (evalF (env l60) Try.f60 k60 fl [.agg [.int .i64 a, .int .i64 b, .int .i64 c, .int .i64 d, .int .i64 e, .int .i64 f, .int .i64 g, .int .i64 h], .one (.int .i64 n)] []).den
theorem h60_eq (fl : Nat) (a b c d e f g h n : Int) : h60 (fl + 1) a b c d e f g h n =
    if (checkS { addr := a, kind := b, target := c, offset := d, scale := e, error := f, drift := g, life := h : Sensor } != 0) = true then some (.tup [(false, [.int .i64 0]), (false, [.bool false])], [])
    else h60_0 fl n 0 a b c d e f g h := by kernel_rfl
theorem h60_0_eq (fl : Nat) (t1 : Int) (t6 : Int) (m0_0 : Int) (m0_1 : Int) (m0_2 : Int) (m0_3 : Int) (m0_4 : Int) (m0_5 : Int) (m0_6 : Int) (m0_7 : Int) : h60_0 (fl + 1) t1 t6 m0_0 m0_1 m0_2 m0_3 m0_4 m0_5 m0_6 m0_7 =
    if (decide (t6 ≤ 65535)) = true then if (!((valT { addr := m0_0, kind := m0_1, target := m0_2, offset := m0_3, scale := m0_4, error := m0_5, drift := m0_6, life := m0_7 : Sensor } t6).lo == -1125899906842624 && (valT { addr := m0_0, kind := m0_1, target := m0_2, offset := m0_3, scale := m0_4, error := m0_5, drift := m0_6, life := m0_7 : Sensor } t6).hi == 1125899906842624)) = true then if (decide ((valT { addr := m0_0, kind := m0_1, target := m0_2, offset := m0_3, scale := m0_4, error := m0_5, drift := m0_6, life := m0_7 : Sensor } t6).lo ≤ t1)) = true then if (decide (t1 ≤ (valT { addr := m0_0, kind := m0_1, target := m0_2, offset := m0_3, scale := m0_4, error := m0_5, drift := m0_6, life := m0_7 : Sensor } t6).hi)) = true then some (.tup [(false, [.int .i64 t6]), (false, [.bool true])], [])
          else h60_0 fl t1 (IntKind.i64.wrap (t6 + 1)) m0_0 m0_1 m0_2 m0_3 m0_4 m0_5 m0_6 m0_7
        else h60_0 fl t1 (IntKind.i64.wrap (t6 + 1)) m0_0 m0_1 m0_2 m0_3 m0_4 m0_5 m0_6 m0_7
      else h60_0 fl t1 (IntKind.i64.wrap (t6 + 1)) m0_0 m0_1 m0_2 m0_3 m0_4 m0_5 m0_6 m0_7
    else some (.tup [(false, [.int .i64 0]), (false, [.bool false])], []) := by kernel_rfl
def s60 : Spec := ⟨false, fun av ob => match av, ob with
  | [.agg [.int .i64 a, .int .i64 b, .int .i64 c, .int .i64 d, .int .i64 e, .int .i64 f, .int .i64 g, .int .i64 h], .one (.int .i64 v)], [] => .ret (.tup [(false, [.int .i64 (rawN (rawO ⟨a, b, c, d, e, f, g, h⟩ v))]), (false, [.bool (rawB (rawO ⟨a, b, c, d, e, f, g, h⟩ v))])], [])
  | _, _ => .fail⟩
theorem v60_0 (a b c d e f g h v : Int) : ∀ (k : Nat) (i : Int), 0 ≤ i → i + k = 65536 → h60_0 (k + 1) v i a b c d e f g h = some (.tup [(false, [.int .i64 (rawN (findR (hasRaw ⟨a, b, c, d, e, f, g, h⟩ v) k i))]), (false, [.bool (rawB (findR (hasRaw ⟨a, b, c, d, e, f, g, h⟩ v) k i))])], [])
  | 0, i, h0, hk => by
    rw [h60_0_eq, if_neg (by simp; omega)]; rfl
  | k + 1, i, h0, hk => by
    have ih := v60_0 a b c d e f g h v k (i + 1) (by omega) (by omega)
    have e1 : IntKind.i64.wrap (i + 1) = i + 1 := wid (by omega) (by omega)
    rw [h60_0_eq, if_pos (show decide (i ≤ 65535) = true by simp only [decide_eq_true_eq]; omega), e1, ih, findR]
    unfold hasRaw
    cases k1 : ((valT ⟨a, b, c, d, e, f, g, h⟩ i).lo == -1125899906842624 && (valT ⟨a, b, c, d, e, f, g, h⟩ i).hi == 1125899906842624)
    · cases k2 : decide ((valT ⟨a, b, c, d, e, f, g, h⟩ i).lo ≤ v)
      · simp
      · cases k3 : decide (v ≤ (valT ⟨a, b, c, d, e, f, g, h⟩ i).hi) <;> simp [rawN, rawB]
    · simp
theorem v60 (a b c d e f g h v : Int) : h60 65538 a b c d e f g h v = some (.tup [(false, [.int .i64 (rawN (rawO ⟨a, b, c, d, e, f, g, h⟩ v))]), (false, [.bool (rawB (rawO ⟨a, b, c, d, e, f, g, h⟩ v))])], []) := by
  rw [h60_eq]
  unfold rawO
  split
  · rfl
  · exact v60_0 a b c d e f g h v 65536 0 (by omega) (by omega)
theorem p60 : SpecOK Try.prog 60 s60 := by
  refine specOK_of (env_ok (l := l60) ⟨⟨p38, f38⟩, ⟨⟨p90, f90⟩, ⟨⟨p54, f54⟩, trivial⟩⟩⟩) mixed_ok Try.func60 k60 fun av ob r os hrn => ?_
  simp only [s60] at hrn
  split at hrn
  · rename_i a b c d e f g h v
    cases hrn
    have hv := v60 a b c d e f g h v
    unfold h60 at hv
    exact ⟨65538, hv⟩
  · cases hrn
theorem f60 : FnOK Try.prog 60 := fnOK_of Try.func60 rfl (by kernel_rfl)
end Go.Proofs.Ytipfipnhgpbceaa.Sx
/- The least raw number by the other text; the measurement of a telegram, by both texts (plain theorems). -/

set_option linter.unusedVariables false
set_option linter.unusedSimpArgs false
set_option maxRecDepth 100000
namespace Go.Proofs.Ytipfipnhgpbceaa.Sx
open Go Go.RowKit
def l61 : List (FuncId × Spec) := [(42, s42), (35, s35)]
def k61 : Code → Keep := keepOf [(2, ⟨[1, 2, 6], [], []⟩)]
noncomputable def h61_0 (fl : Nat) (t1 : Int) (t6 : Int) (m0_0 : Int) (m0_1 : Int) (m0_2 : Int) (m0_3 : Int) (m0_4 : Int) (m0_5 : Int) (m0_6 : Int) (m0_7 : Int) : Option (AV × List Ob) := (evalH (env l61) Try.f61 k61 0 fl (stkF Try.f61 [1, 0, 1, 0]) ⟨[.one (.undef), .one (.int .i64 t1), .one (.ptr 0 0), .one (.undef), .one (.undef), .one (.undef), .one (.int .i64 t6), .one (.undef), .one (.undef), .one (.undef), .one (.undef), .one (.undef), .one (.undef), .one (.undef), .one (.undef), .one (.undef), .one (.undef), .one (.undef), .one (.undef), .one (.undef), .one (.undef), .one (.undef), .one (.undef), .one (.undef), .one (.undef), .one (.undef), .one (.undef), .one (.undef), .one (.undef), .one (.undef), .one (.undef)], [((0, 0), some (.cell (.int .i64 m0_0))), ((0, 1), some (.cell (.int .i64 m0_1))), ((0, 2), some (.cell (.int .i64 m0_2))), ((0, 3), some (.cell (.int .i64 m0_3))), ((0, 4), some (.cell (.int .i64 m0_4))), ((0, 5), some (.cell (.int .i64 m0_5))), ((0, 6), some (.cell (.int .i64 m0_6))), ((0, 7), some (.cell (.int .i64 m0_7)))], 1⟩).den
noncomputable def h61 (fl : Nat) (a b c d e f g h n : Int) : Option (AV × List Ob) := (evalF (env l61) Try.f61 k61 fl [.agg [.int .i64 a, .int .i64 b, .int .i64 c, .int .i64 d, .int .i64 e, .int .i64 f, .int .i64 g, .int .i64 h], .one (.int .i64 n)] []).den
theorem h61_eq (fl : Nat) (a b c d e f g h n : Int) : h61 (fl + 1) a b c d e f g h n =
    h61_0 fl n 0 a b c d e f g h := by kernel_rfl
theorem h61_0_eq (fl : Nat) (t1 : Int) (t6 : Int) (m0_0 : Int) (m0_1 : Int) (m0_2 : Int) (m0_3 : Int) (m0_4 : Int) (m0_5 : Int) (m0_6 : Int) (m0_7 : Int) : h61_0 (fl + 1) t1 t6 m0_0 m0_1 m0_2 m0_3 m0_4 m0_5 m0_6 m0_7 =
    if (decide (t6 ≤ 65535)) = true then if (!((valueC { addr := m0_0, kind := m0_1, target := m0_2, offset := m0_3, scale := m0_4, error := m0_5, drift := m0_6, life := m0_7 : Sensor } t6).lo == -1125899906842624 && (valueC { addr := m0_0, kind := m0_1, target := m0_2, offset := m0_3, scale := m0_4, error := m0_5, drift := m0_6, life := m0_7 : Sensor } t6).hi == 1125899906842624)) = true then if (decide ((valueC { addr := m0_0, kind := m0_1, target := m0_2, offset := m0_3, scale := m0_4, error := m0_5, drift := m0_6, life := m0_7 : Sensor } t6).lo ≤ t1)) = true then if (decide (t1 ≤ (valueC { addr := m0_0, kind := m0_1, target := m0_2, offset := m0_3, scale := m0_4, error := m0_5, drift := m0_6, life := m0_7 : Sensor } t6).hi)) = true then some (.tup [(false, [.int .i64 t6]), (false, [.bool true])], [])
          else h61_0 fl t1 (IntKind.i64.wrap (t6 + 1)) m0_0 m0_1 m0_2 m0_3 m0_4 m0_5 m0_6 m0_7
        else h61_0 fl t1 (IntKind.i64.wrap (t6 + 1)) m0_0 m0_1 m0_2 m0_3 m0_4 m0_5 m0_6 m0_7
      else h61_0 fl t1 (IntKind.i64.wrap (t6 + 1)) m0_0 m0_1 m0_2 m0_3 m0_4 m0_5 m0_6 m0_7
    else some (.tup [(false, [.int .i64 0]), (false, [.bool false])], []) := by kernel_rfl
def s61 : Spec := ⟨false, fun av ob => match av, ob with
  | [.agg [.int .i64 a, .int .i64 b, .int .i64 c, .int .i64 d, .int .i64 e, .int .i64 f, .int .i64 g, .int .i64 h], .one (.int .i64 v)], [] => .ret (.tup [(false, [.int .i64 (rawN (rawO ⟨a, b, c, d, e, f, g, h⟩ v))]), (false, [.bool (rawB (rawO ⟨a, b, c, d, e, f, g, h⟩ v))])], [])
  | _, _ => .fail⟩
theorem v61_0 (a b c d e f g h v : Int) (hc : checkS ⟨a, b, c, d, e, f, g, h⟩ = 0) : ∀ (k : Nat) (i : Int), 0 ≤ i → i + k = 65536 → h61_0 (k + 1) v i a b c d e f g h = some (.tup [(false, [.int .i64 (rawN (findR (hasRaw ⟨a, b, c, d, e, f, g, h⟩ v) k i))]), (false, [.bool (rawB (findR (hasRaw ⟨a, b, c, d, e, f, g, h⟩ v) k i))])], [])
  | 0, i, h0, hk => by
    rw [h61_0_eq, if_neg (by simp; omega)]; rfl
  | k + 1, i, h0, hk => by
    have ih := v61_0 a b c d e f g h v hc k (i + 1) (by omega) (by omega)
    have e1 : IntKind.i64.wrap (i + 1) = i + 1 := wid (by omega) (by omega)
    have e2 : valueC ⟨a, b, c, d, e, f, g, h⟩ i = valT ⟨a, b, c, d, e, f, g, h⟩ i := by
      unfold valueC
      rw [if_neg (by simp [hc])]
    rw [h61_0_eq, if_pos (show decide (i ≤ 65535) = true by simp only [decide_eq_true_eq]; omega), e1, ih, findR, e2]
    unfold hasRaw
    cases k1 : ((valT ⟨a, b, c, d, e, f, g, h⟩ i).lo == -1125899906842624 && (valT ⟨a, b, c, d, e, f, g, h⟩ i).hi == 1125899906842624)
    · cases k2 : decide ((valT ⟨a, b, c, d, e, f, g, h⟩ i).lo ≤ v)
      · simp
      · cases k3 : decide (v ≤ (valT ⟨a, b, c, d, e, f, g, h⟩ i).hi) <;> simp [rawN, rawB]
    · simp
theorem v61_1 (a b c d e f g h v : Int) (hc : checkS ⟨a, b, c, d, e, f, g, h⟩ ≠ 0) : ∀ (k : Nat) (i : Int), 0 ≤ i → i + k = 65536 → h61_0 (k + 1) v i a b c d e f g h = some (.tup [(false, [.int .i64 0]), (false, [.bool false])], [])
  | 0, i, h0, hk => by
    rw [h61_0_eq, if_neg (by simp; omega)]
  | k + 1, i, h0, hk => by
    have ih := v61_1 a b c d e f g h v hc k (i + 1) (by omega) (by omega)
    have e1 : IntKind.i64.wrap (i + 1) = i + 1 := wid (by omega) (by omega)
    have e2 : valueC ⟨a, b, c, d, e, f, g, h⟩ i = nothing := by
      unfold valueC
      rw [if_pos (by simp [hc])]
    rw [h61_0_eq, if_pos (show decide (i ≤ 65535) = true by simp only [decide_eq_true_eq]; omega), e1, ih, e2]
    simp [nothing]
theorem v61 (a b c d e f g h v : Int) : h61 65538 a b c d e f g h v = some (.tup [(false, [.int .i64 (rawN (rawO ⟨a, b, c, d, e, f, g, h⟩ v))]), (false, [.bool (rawB (rawO ⟨a, b, c, d, e, f, g, h⟩ v))])], []) := by
  rw [h61_eq]
  unfold rawO
  by_cases hc : checkS ⟨a, b, c, d, e, f, g, h⟩ = 0
  · rw [if_neg (by simp [hc])]
    exact v61_0 a b c d e f g h v hc 65536 0 (by omega) (by omega)
  · rw [if_pos (by simp [hc])]
    exact v61_1 a b c d e f g h v hc 65536 0 (by omega) (by omega)
theorem p61 : SpecOK Try.prog 61 s61 := by
  refine specOK_of (env_ok (l := l61) ⟨⟨p42, f42⟩, ⟨⟨p35, f35⟩, trivial⟩⟩) mixed_ok Try.func61 k61 fun av ob r os hrn => ?_
  simp only [s61] at hrn
  split at hrn
  · rename_i a b c d e f g h v
    cases hrn
    have hv := v61 a b c d e f g h v
    unfold h61 at hv
    exact ⟨65538, hv⟩
  · cases hrn
theorem f61 : FnOK Try.prog 61 := fnOK_of Try.func61 rfl (by kernel_rfl)

/-! ### Telegrams -/
def sensAt (l : List Sensor) (i : Int) : Sensor := l.getD i.toNat (dflt K.sensor)
def goAt (l : List Sensor) (a : Int) : Nat → Int → Int
  | 0, acc => acc
  | i + 1, acc => goAt l a i (if (sensAt l i).addr == a then (i : Int) else acc)
def rawOf (dat : List Int) : Int := bits BinOp.or IntKind.i64 (IntKind.i64.wrap (IntKind.i64.wrap (dat.getD (Int.toNat 0) (dflt K.u8)) * 256)) (IntKind.i64.wrap (dat.getD (Int.toNat 1) (dflt K.u8)))
def decEnd (l : List Sensor) (k : Int) (dat : List Int) (t ix : Int) : Measure × Int :=
  if ix < 0 then (⟨0, 0, 0, 0⟩, 9)
  else if checkS (sensAt l ix) ≠ 0 then (⟨0, 0, 0, 0⟩, 9)
  else if k = 1 then (if (dat.length : Int) ≠ 2 then (⟨0, 0, 0, 0⟩, 6) else (⟨ix, t, (valT (sensAt l ix) (rawOf dat)).lo, (valT (sensAt l ix) (rawOf dat)).hi⟩, 0))
  else if k = 2 then (if (dat.length : Int) ≠ 0 then (⟨0, 0, 0, 0⟩, 6) else (⟨ix, t, -1125899906842624, 1125899906842624⟩, 0))
  else (⟨0, 0, 0, 0⟩, 5)
def decT (l : List Sensor) (a k : Int) (dat : List Int) (t : Int) : Measure × Int :=
  if t < 0 ∨ t > 2147483648 then (⟨0, 0, 0, 0⟩, 8) else decEnd l k dat t (goAt l a l.length (-1))
theorem idx_of {n : Nat} {i : Int} (h0 : 0 ≤ i) (h1 : i < n) : idx n i = true := by simp [idx]; omega
theorem goAt_lt (l : List Sensor) (a : Int) : ∀ (i : Nat) (acc : Int), i ≤ l.length → acc < l.length → goAt l a i acc < l.length
  | 0, acc, _, h => h
  | i + 1, acc, hi, h => goAt_lt l a i _ (by omega) (by split <;> omega)
def l49 : List (FuncId × Spec) := [(38, s38), (54, s54), (90, s90)]
def k49 : Code → Keep := keepOf [(5, ⟨[0, 2, 4, 6, 8, 9], [], []⟩)]
noncomputable def h49_0 (fl : Nat) (t0b : Bool) (t0 : List Sensor) (t2 : Int) (t8 : Int) (t9 : Int) (m0_0 : Int) (m0_1 : Int) (m0_2b : Bool) (m0_2 : List Int) (m1_0 : Int) (m1_1 : Int) (m1_2 : Int) (m1_3 : Int) : Option (AV × List Ob) := (evalH (env l49) Try.f49 k49 0 fl (stkF Try.f49 [1, 1, 1, 0, 1, 0]) ⟨[.one (.vec t0b .sensor t0), .one (.undef), .one (.int .i64 t2), .one (.undef), .one (.ptr 0 0), .one (.undef), .one (.ptr 1 0), .one (.undef), .one (.int .i64 t8), .one (.int .i64 t9), .one (.undef), .one (.undef), .one (.undef), .one (.undef), .one (.undef), .one (.undef), .one (.undef), .one (.undef), .one (.undef), .one (.undef), .one (.undef), .one (.undef), .one (.undef), .one (.undef), .one (.undef), .one (.undef), .one (.undef), .one (.undef), .one (.undef), .one (.undef), .one (.undef), .one (.undef), .one (.undef), .one (.undef), .one (.undef), .one (.undef), .one (.undef), .one (.undef), .one (.undef), .one (.undef), .one (.undef), .one (.undef), .one (.undef), .one (.undef), .one (.undef), .one (.undef), .one (.undef), .one (.undef), .one (.undef), .one (.undef), .one (.undef), .one (.undef), .one (.undef), .one (.undef), .one (.undef), .one (.undef), .one (.undef), .one (.undef), .one (.undef), .one (.undef), .one (.undef), .one (.undef), .one (.undef), .one (.undef), .one (.undef), .one (.undef), .one (.undef), .one (.undef), .one (.undef), .one (.undef), .one (.undef), .one (.undef), .one (.undef), .one (.undef), .one (.undef), .one (.undef), .one (.undef), .one (.undef), .one (.undef), .one (.undef), .one (.undef), .one (.undef), .one (.undef), .one (.undef), .one (.undef)], [((0, 0), some (.cell (.int .i64 m0_0))), ((0, 1), some (.cell (.int .i64 m0_1))), ((0, 2), some (.cell (.vec m0_2b .u8 m0_2))), ((1, 0), some (.cell (.int .i64 m1_0))), ((1, 1), some (.cell (.int .i64 m1_1))), ((1, 2), some (.cell (.int .i64 m1_2))), ((1, 3), some (.cell (.int .i64 m1_3)))], 2⟩).den
noncomputable def h49 (fl : Nat) (b1 b2 : Bool) (l : List Sensor) (a k : Int) (dat : List Int) (t : Int) : Option (AV × List Ob) := (evalF (env l49) Try.f49 k49 fl [.one (.vec b1 .sensor l), .agg [.int .i64 a, .int .i64 k, .vec b2 .u8 dat], .one (.int .i64 t)] []).den
theorem h49_eq (fl : Nat) (b1 b2 : Bool) (l : List Sensor) (a k : Int) (dat : List Int) (t : Int) : h49 (fl + 1) b1 b2 l a k dat t =
    if (decide (t < 0)) = true then some (.tup [(true, [.int .i64 0, .int .i64 0, .int .i64 0, .int .i64 0]), (false, [.int .i64 8])], [])
    else if (decide (t > 2147483648)) = true then some (.tup [(true, [.int .i64 0, .int .i64 0, .int .i64 0, .int .i64 0]), (false, [.int .i64 8])], [])
      else h49_0 fl b1 l t (-1) (IntKind.i64.wrap ((↑l.length : Int) - 1)) a k b2 dat 0 0 0 0 := by kernel_rfl
theorem h49_0_eq (fl : Nat) (t0b : Bool) (t0 : List Sensor) (t2 : Int) (t8 : Int) (t9 : Int) (m0_0 : Int) (m0_1 : Int) (m0_2b : Bool) (m0_2 : List Int) (m1_0 : Int) (m1_1 : Int) (m1_2 : Int) (m1_3 : Int) : h49_0 (fl + 1) t0b t0 t2 t8 t9 m0_0 m0_1 m0_2b m0_2 m1_0 m1_1 m1_2 m1_3 =
    if (decide (t9 ≥ 0)) = true then if (idx t0.length t9) = true then if ((t0.getD t9.toNat (dflt K.sensor)).addr == m0_0) = true then h49_0 fl t0b t0 t2 t9 (IntKind.i64.wrap (t9 - 1)) m0_0 m0_1 m0_2b m0_2 m1_0 m1_1 m1_2 m1_3
        else h49_0 fl t0b t0 t2 t8 (IntKind.i64.wrap (t9 - 1)) m0_0 m0_1 m0_2b m0_2 m1_0 m1_1 m1_2 m1_3
      else none
    else if (decide (t8 < 0)) = true then some (.tup [(true, [.int .i64 0, .int .i64 0, .int .i64 0, .int .i64 0]), (false, [.int .i64 9])], [])
      else if (idx t0.length t8) = true then if (checkS { addr := (t0.getD t8.toNat (dflt K.sensor)).addr, kind := (t0.getD t8.toNat (dflt K.sensor)).kind, target := (t0.getD t8.toNat (dflt K.sensor)).target, offset := (t0.getD t8.toNat (dflt K.sensor)).offset, scale := (t0.getD t8.toNat (dflt K.sensor)).scale, error := (t0.getD t8.toNat (dflt K.sensor)).error, drift := (t0.getD t8.toNat (dflt K.sensor)).drift, life := (t0.getD t8.toNat (dflt K.sensor)).life : Sensor } != 0) = true then some (.tup [(true, [.int .i64 0, .int .i64 0, .int .i64 0, .int .i64 0]), (false, [.int .i64 9])], [])
          else if (m0_1 == 1) = true then if ((↑m0_2.length : Int) != 2) = true then some (.tup [(true, [.int .i64 0, .int .i64 0, .int .i64 0, .int .i64 0]), (false, [.int .i64 6])], [])
              else if (idx t0.length t8) = true then if (idx m0_2.length 0) = true then if (idx m0_2.length 1) = true then some (.tup [(true, [.int .i64 t8, .int .i64 t2, .int .i64 ((valT { addr := (t0.getD t8.toNat (dflt K.sensor)).addr, kind := (t0.getD t8.toNat (dflt K.sensor)).kind, target := (t0.getD t8.toNat (dflt K.sensor)).target, offset := (t0.getD t8.toNat (dflt K.sensor)).offset, scale := (t0.getD t8.toNat (dflt K.sensor)).scale, error := (t0.getD t8.toNat (dflt K.sensor)).error, drift := (t0.getD t8.toNat (dflt K.sensor)).drift, life := (t0.getD t8.toNat (dflt K.sensor)).life : Sensor } (bits BinOp.or IntKind.i64 (IntKind.i64.wrap (IntKind.i64.wrap (m0_2.getD (Int.toNat 0) (dflt K.u8)) * 256)) (IntKind.i64.wrap (m0_2.getD (Int.toNat 1) (dflt K.u8))))).lo), .int .i64 ((valT { addr := (t0.getD t8.toNat (dflt K.sensor)).addr, kind := (t0.getD t8.toNat (dflt K.sensor)).kind, target := (t0.getD t8.toNat (dflt K.sensor)).target, offset := (t0.getD t8.toNat (dflt K.sensor)).offset, scale := (t0.getD t8.toNat (dflt K.sensor)).scale, error := (t0.getD t8.toNat (dflt K.sensor)).error, drift := (t0.getD t8.toNat (dflt K.sensor)).drift, life := (t0.getD t8.toNat (dflt K.sensor)).life : Sensor } (bits BinOp.or IntKind.i64 (IntKind.i64.wrap (IntKind.i64.wrap (m0_2.getD (Int.toNat 0) (dflt K.u8)) * 256)) (IntKind.i64.wrap (m0_2.getD (Int.toNat 1) (dflt K.u8))))).hi)]), (false, [.int .i64 0])], [])
                    else none
                  else none
                else none
            else if (m0_1 == 2) = true then if ((↑m0_2.length : Int) != 0) = true then some (.tup [(true, [.int .i64 0, .int .i64 0, .int .i64 0, .int .i64 0]), (false, [.int .i64 6])], [])
                else some (.tup [(true, [.int .i64 t8, .int .i64 t2, .int .i64 (-1125899906842624), .int .i64 1125899906842624]), (false, [.int .i64 0])], [])
              else some (.tup [(true, [.int .i64 0, .int .i64 0, .int .i64 0, .int .i64 0]), (false, [.int .i64 5])], [])
        else none := by kernel_rfl
def s49 : Spec := ⟨false, fun av ob => match av, ob with
  | [.one (.vec b1 .sensor l), .agg [.int .i64 a, .int .i64 k, .vec b2 .u8 dat], .one (.int .i64 t)], [] => .need (decide (l.length ≤ 1000000)) (.ret (.tup [(true, [.int .i64 (decT l a k dat t).1.sensor, .int .i64 (decT l a k dat t).1.time, .int .i64 (decT l a k dat t).1.lo, .int .i64 (decT l a k dat t).1.hi]), (false, [.int .i64 (decT l a k dat t).2])], []))
  | _, _ => .fail⟩
theorem v49_0 (b1 b2 : Bool) (l : List Sensor) (a k : Int) (dat : List Int) (t : Int) (hl : l.length ≤ 1000000) : ∀ (i fl : Nat) (ix : Int), i ≤ l.length → i < fl → ix < l.length →
    h49_0 fl b1 l t ix ((i : Int) - 1) a k b2 dat 0 0 0 0 = some (.tup [(true, [.int .i64 (decEnd l k dat t (goAt l a i ix)).1.sensor, .int .i64 (decEnd l k dat t (goAt l a i ix)).1.time, .int .i64 (decEnd l k dat t (goAt l a i ix)).1.lo, .int .i64 (decEnd l k dat t (goAt l a i ix)).1.hi]), (false, [.int .i64 (decEnd l k dat t (goAt l a i ix)).2])], [])
  | 0, fl, ix, hi, hf, hx => by
    obtain ⟨fl, rfl⟩ : ∃ q, fl = q + 1 := ⟨fl - 1, by omega⟩
    rw [h49_0_eq, if_neg (by simp)]
    unfold goAt decEnd
    by_cases c0 : ix < 0
    · simp [c0]
    have i0 : idx l.length ix = true := idx_of (by omega) hx
    simp only [c0, i0, if_true, if_false, decide_eq_true_eq]
    show (if (checkS (sensAt l ix) != 0) = true then _ else _) = _
    by_cases c1 : checkS (sensAt l ix) = 0
    · simp only [c1, bne_self_eq_false, Bool.false_eq_true, ne_eq, not_true_eq_false, if_false]
      by_cases k1 : k = 1
      · subst k1
        by_cases d2 : (dat.length : Int) = 2
        · have j0 : idx dat.length 0 = true := idx_of (by omega) (by omega)
          have j1 : idx dat.length 1 = true := idx_of (by omega) (by omega)
          simp only [d2, j0, j1, beq_self_eq_true, bne_self_eq_false, Bool.false_eq_true, not_true_eq_false, if_true, if_false]
          rfl
        · have d2' : ((dat.length : Int) != 2) = true := by simpa using d2
          simp [d2', d2]
      · by_cases k2 : k = 2
        · subst k2
          by_cases d0 : (dat.length : Int) = 0
          · simp [d0]
          · have d0' : ((dat.length : Int) != 0) = true := by simpa using d0
            have d0n : dat ≠ [] := fun e0 => d0 (by rw [e0]; rfl)
            simp [d0', d0, d0n]
        · simp [k1, k2]
    · have c1' : (checkS (sensAt l ix) != 0) = true := by simpa using c1
      simp [c1', c1]
  | i + 1, fl, ix, hi, hf, hx => by
    obtain ⟨fl, rfl⟩ : ∃ q, fl = q + 1 := ⟨fl - 1, by omega⟩
    have e1 : ((i + 1 : Nat) : Int) - 1 = (i : Int) := by omega
    have e2 : IntKind.i64.wrap ((i : Int) - 1) = (i : Int) - 1 := wid (by omega) (by omega)
    rw [e1, h49_0_eq, if_pos (show decide ((i : Int) ≥ 0) = true by simp), if_pos (idx_nat (by omega)), e2, goAt]
    show (if ((sensAt l (i : Int)).addr == a) = true then _ else _) = _
    by_cases c : ((sensAt l (i : Int)).addr == a) = true
    · rw [if_pos c, if_pos c]
      exact v49_0 b1 b2 l a k dat t hl i fl i (by omega) (by omega) (by omega)
    · rw [if_neg c, if_neg c]
      exact v49_0 b1 b2 l a k dat t hl i fl ix (by omega) (by omega) hx
theorem v49 (b1 b2 : Bool) (l : List Sensor) (a k : Int) (dat : List Int) (t : Int) (hl : decide (l.length ≤ 1000000) = true) : h49 (l.length + 2) b1 b2 l a k dat t = some (.tup [(true, [.int .i64 (decT l a k dat t).1.sensor, .int .i64 (decT l a k dat t).1.time, .int .i64 (decT l a k dat t).1.lo, .int .i64 (decT l a k dat t).1.hi]), (false, [.int .i64 (decT l a k dat t).2])], []) := by
  have hl := of_decide_eq_true hl
  rw [h49_eq]
  unfold decT
  by_cases c1 : t < 0
  · simp [c1]
  by_cases c2 : t > 2147483648
  · simp [c1, c2]
  have e1 : IntKind.i64.wrap ((l.length : Int) - 1) = (l.length : Int) - 1 := wid (by omega) (by omega)
  rw [if_neg (by simpa using c1), if_neg (by simpa using c2), if_neg (by omega), e1]
  exact v49_0 b1 b2 l a k dat t hl l.length (l.length + 1) (-1) (by omega) (by omega) (by omega)
theorem p49 : SpecOK Try.prog 49 s49 := by
  refine specOK_of (env_ok (l := l49) ⟨⟨p38, f38⟩, ⟨⟨p54, f54⟩, ⟨⟨p90, f90⟩, trivial⟩⟩⟩) mixed_ok Try.func49 k49 fun av ob r os hrn => ?_
  simp only [s49] at hrn
  split at hrn
  · rename_i b1 l a k b2 dat t
    obtain ⟨hg, hrn⟩ := need_den hrn
    cases hrn
    have hv := v49 b1 b2 l a k dat t hg
    unfold h49 at hv
    exact ⟨l.length + 2, hv⟩
  · cases hrn
theorem f49 : FnOK Try.prog 49 := fnOK_of Try.func49 rfl (by kernel_rfl)
def l50 : List (FuncId × Spec) := [(89, s89), (39, s39), (35, s35), (42, s42)]
def k50 : Code → Keep := keepOf [(5, ⟨[0, 2, 4, 6, 8, 9], [], []⟩)]
noncomputable def h50_0 (fl : Nat) (t0b : Bool) (t0 : List Sensor) (t2 : Int) (t8 : Int) (t9 : Int) (m0_0 : Int) (m0_1 : Int) (m0_2b : Bool) (m0_2 : List Int) (m1_0 : Int) (m1_1 : Int) (m1_2 : Int) (m1_3 : Int) : Option (AV × List Ob) := (evalH (env l50) Try.f50 k50 0 fl (stkF Try.f50 [1, 1, 1, 0, 1, 0]) ⟨[.one (.vec t0b .sensor t0), .one (.undef), .one (.int .i64 t2), .one (.undef), .one (.ptr 0 0), .one (.undef), .one (.ptr 1 0), .one (.undef), .one (.int .i64 t8), .one (.int .i64 t9), .one (.undef), .one (.undef), .one (.undef), .one (.undef), .one (.undef), .one (.undef), .one (.undef), .one (.undef), .one (.undef), .one (.undef), .one (.undef), .one (.undef), .one (.undef), .one (.undef), .one (.undef), .one (.undef), .one (.undef), .one (.undef), .one (.undef), .one (.undef), .one (.undef), .one (.undef), .one (.undef), .one (.undef), .one (.undef), .one (.undef), .one (.undef), .one (.undef), .one (.undef), .one (.undef), .one (.undef), .one (.undef), .one (.undef), .one (.undef), .one (.undef), .one (.undef), .one (.undef), .one (.undef), .one (.undef), .one (.undef), .one (.undef), .one (.undef), .one (.undef), .one (.undef), .one (.undef), .one (.undef), .one (.undef), .one (.undef), .one (.undef), .one (.undef), .one (.undef), .one (.undef), .one (.undef), .one (.undef), .one (.undef), .one (.undef), .one (.undef), .one (.undef), .one (.undef), .one (.undef), .one (.undef), .one (.undef), .one (.undef), .one (.undef), .one (.undef), .one (.undef), .one (.undef), .one (.undef), .one (.undef), .one (.undef), .one (.undef), .one (.undef), .one (.undef), .one (.undef), .one (.undef), .one (.undef), .one (.undef), .one (.undef), .one (.undef), .one (.undef), .one (.undef), .one (.undef), .one (.undef), .one (.undef), .one (.undef), .one (.undef), .one (.undef), .one (.undef)], [((0, 0), some (.cell (.int .i64 m0_0))), ((0, 1), some (.cell (.int .i64 m0_1))), ((0, 2), some (.cell (.vec m0_2b .u8 m0_2))), ((1, 0), some (.cell (.int .i64 m1_0))), ((1, 1), some (.cell (.int .i64 m1_1))), ((1, 2), some (.cell (.int .i64 m1_2))), ((1, 3), some (.cell (.int .i64 m1_3)))], 2⟩).den
noncomputable def h50 (fl : Nat) (b1 b2 : Bool) (l : List Sensor) (a k : Int) (dat : List Int) (t : Int) : Option (AV × List Ob) := (evalF (env l50) Try.f50 k50 fl [.one (.vec b1 .sensor l), .agg [.int .i64 a, .int .i64 k, .vec b2 .u8 dat], .one (.int .i64 t)] []).den
theorem h50_eq (fl : Nat) (b1 b2 : Bool) (l : List Sensor) (a k : Int) (dat : List Int) (t : Int) : h50 (fl + 1) b1 b2 l a k dat t =
    if (!(decide (0 ≤ t) && decide (t ≤ 2147483648))) = true then some (.tup [(true, [.int .i64 0, .int .i64 0, .int .i64 0, .int .i64 0]), (false, [.int .i64 8])], [])
    else h50_0 fl b1 l t (-1) (IntKind.i64.wrap ((↑l.length : Int) - 1)) a k b2 dat 0 0 0 0 := by kernel_rfl
theorem h50_0_eq (fl : Nat) (t0b : Bool) (t0 : List Sensor) (t2 : Int) (t8 : Int) (t9 : Int) (m0_0 : Int) (m0_1 : Int) (m0_2b : Bool) (m0_2 : List Int) (m1_0 : Int) (m1_1 : Int) (m1_2 : Int) (m1_3 : Int) : h50_0 (fl + 1) t0b t0 t2 t8 t9 m0_0 m0_1 m0_2b m0_2 m1_0 m1_1 m1_2 m1_3 =
    if (decide (t9 ≥ 0)) = true then if (idx t0.length t9) = true then if ((t0.getD t9.toNat (dflt K.sensor)).addr == m0_0) = true then h50_0 fl t0b t0 t2 t9 (IntKind.i64.wrap (t9 - 1)) m0_0 m0_1 m0_2b m0_2 m1_0 m1_1 m1_2 m1_3
        else h50_0 fl t0b t0 t2 t8 (IntKind.i64.wrap (t9 - 1)) m0_0 m0_1 m0_2b m0_2 m1_0 m1_1 m1_2 m1_3
      else none
    else if (decide (t8 < 0)) = true then some (.tup [(true, [.int .i64 0, .int .i64 0, .int .i64 0, .int .i64 0]), (false, [.int .i64 9])], [])
      else if (idx t0.length t8) = true then if (checkS { addr := (t0.getD t8.toNat (dflt K.sensor)).addr, kind := (t0.getD t8.toNat (dflt K.sensor)).kind, target := (t0.getD t8.toNat (dflt K.sensor)).target, offset := (t0.getD t8.toNat (dflt K.sensor)).offset, scale := (t0.getD t8.toNat (dflt K.sensor)).scale, error := (t0.getD t8.toNat (dflt K.sensor)).error, drift := (t0.getD t8.toNat (dflt K.sensor)).drift, life := (t0.getD t8.toNat (dflt K.sensor)).life : Sensor } != 0) = true then some (.tup [(true, [.int .i64 0, .int .i64 0, .int .i64 0, .int .i64 0]), (false, [.int .i64 9])], [])
          else if (m0_1 != 1) = true then if (m0_1 != 2) = true then some (.tup [(true, [.int .i64 0, .int .i64 0, .int .i64 0, .int .i64 0]), (false, [.int .i64 5])], [])
              else if (m0_1 == 1) = true then if ((↑m0_2.length : Int) != 2) = true then some (.tup [(true, [.int .i64 0, .int .i64 0, .int .i64 0, .int .i64 0]), (false, [.int .i64 6])], [])
                  else if (m0_1 == 2) = true then if ((↑m0_2.length : Int) != 0) = true then some (.tup [(true, [.int .i64 0, .int .i64 0, .int .i64 0, .int .i64 0]), (false, [.int .i64 6])], [])
                      else if (m0_1 == 1) = true then if (idx t0.length t8) = true then if (idx m0_2.length 0) = true then if (idx m0_2.length 1) = true then some (.tup [(true, [.int .i64 t8, .int .i64 t2, .int .i64 ((valueC { addr := (t0.getD t8.toNat (dflt K.sensor)).addr, kind := (t0.getD t8.toNat (dflt K.sensor)).kind, target := (t0.getD t8.toNat (dflt K.sensor)).target, offset := (t0.getD t8.toNat (dflt K.sensor)).offset, scale := (t0.getD t8.toNat (dflt K.sensor)).scale, error := (t0.getD t8.toNat (dflt K.sensor)).error, drift := (t0.getD t8.toNat (dflt K.sensor)).drift, life := (t0.getD t8.toNat (dflt K.sensor)).life : Sensor } (bits BinOp.or IntKind.i64 (IntKind.i64.wrap (IntKind.i64.wrap (m0_2.getD (Int.toNat 0) (dflt K.u8)) * 256)) (IntKind.i64.wrap (m0_2.getD (Int.toNat 1) (dflt K.u8))))).lo), .int .i64 ((valueC { addr := (t0.getD t8.toNat (dflt K.sensor)).addr, kind := (t0.getD t8.toNat (dflt K.sensor)).kind, target := (t0.getD t8.toNat (dflt K.sensor)).target, offset := (t0.getD t8.toNat (dflt K.sensor)).offset, scale := (t0.getD t8.toNat (dflt K.sensor)).scale, error := (t0.getD t8.toNat (dflt K.sensor)).error, drift := (t0.getD t8.toNat (dflt K.sensor)).drift, life := (t0.getD t8.toNat (dflt K.sensor)).life : Sensor } (bits BinOp.or IntKind.i64 (IntKind.i64.wrap (IntKind.i64.wrap (m0_2.getD (Int.toNat 0) (dflt K.u8)) * 256)) (IntKind.i64.wrap (m0_2.getD (Int.toNat 1) (dflt K.u8))))).hi)]), (false, [.int .i64 0])], [])
                              else none
                            else none
                          else none
                        else some (.tup [(true, [.int .i64 t8, .int .i64 t2, .int .i64 (-1125899906842624), .int .i64 1125899906842624]), (false, [.int .i64 0])], [])
                    else if (m0_1 == 1) = true then if (idx t0.length t8) = true then if (idx m0_2.length 0) = true then if (idx m0_2.length 1) = true then some (.tup [(true, [.int .i64 t8, .int .i64 t2, .int .i64 ((valueC { addr := (t0.getD t8.toNat (dflt K.sensor)).addr, kind := (t0.getD t8.toNat (dflt K.sensor)).kind, target := (t0.getD t8.toNat (dflt K.sensor)).target, offset := (t0.getD t8.toNat (dflt K.sensor)).offset, scale := (t0.getD t8.toNat (dflt K.sensor)).scale, error := (t0.getD t8.toNat (dflt K.sensor)).error, drift := (t0.getD t8.toNat (dflt K.sensor)).drift, life := (t0.getD t8.toNat (dflt K.sensor)).life : Sensor } (bits BinOp.or IntKind.i64 (IntKind.i64.wrap (IntKind.i64.wrap (m0_2.getD (Int.toNat 0) (dflt K.u8)) * 256)) (IntKind.i64.wrap (m0_2.getD (Int.toNat 1) (dflt K.u8))))).lo), .int .i64 ((valueC { addr := (t0.getD t8.toNat (dflt K.sensor)).addr, kind := (t0.getD t8.toNat (dflt K.sensor)).kind, target := (t0.getD t8.toNat (dflt K.sensor)).target, offset := (t0.getD t8.toNat (dflt K.sensor)).offset, scale := (t0.getD t8.toNat (dflt K.sensor)).scale, error := (t0.getD t8.toNat (dflt K.sensor)).error, drift := (t0.getD t8.toNat (dflt K.sensor)).drift, life := (t0.getD t8.toNat (dflt K.sensor)).life : Sensor } (bits BinOp.or IntKind.i64 (IntKind.i64.wrap (IntKind.i64.wrap (m0_2.getD (Int.toNat 0) (dflt K.u8)) * 256)) (IntKind.i64.wrap (m0_2.getD (Int.toNat 1) (dflt K.u8))))).hi)]), (false, [.int .i64 0])], [])
                            else none
                          else none
                        else none
                      else some (.tup [(true, [.int .i64 t8, .int .i64 t2, .int .i64 (-1125899906842624), .int .i64 1125899906842624]), (false, [.int .i64 0])], [])
                else if (m0_1 == 2) = true then if ((↑m0_2.length : Int) != 0) = true then some (.tup [(true, [.int .i64 0, .int .i64 0, .int .i64 0, .int .i64 0]), (false, [.int .i64 6])], [])
                    else if (m0_1 == 1) = true then if (idx t0.length t8) = true then if (idx m0_2.length 0) = true then if (idx m0_2.length 1) = true then some (.tup [(true, [.int .i64 t8, .int .i64 t2, .int .i64 ((valueC { addr := (t0.getD t8.toNat (dflt K.sensor)).addr, kind := (t0.getD t8.toNat (dflt K.sensor)).kind, target := (t0.getD t8.toNat (dflt K.sensor)).target, offset := (t0.getD t8.toNat (dflt K.sensor)).offset, scale := (t0.getD t8.toNat (dflt K.sensor)).scale, error := (t0.getD t8.toNat (dflt K.sensor)).error, drift := (t0.getD t8.toNat (dflt K.sensor)).drift, life := (t0.getD t8.toNat (dflt K.sensor)).life : Sensor } (bits BinOp.or IntKind.i64 (IntKind.i64.wrap (IntKind.i64.wrap (m0_2.getD (Int.toNat 0) (dflt K.u8)) * 256)) (IntKind.i64.wrap (m0_2.getD (Int.toNat 1) (dflt K.u8))))).lo), .int .i64 ((valueC { addr := (t0.getD t8.toNat (dflt K.sensor)).addr, kind := (t0.getD t8.toNat (dflt K.sensor)).kind, target := (t0.getD t8.toNat (dflt K.sensor)).target, offset := (t0.getD t8.toNat (dflt K.sensor)).offset, scale := (t0.getD t8.toNat (dflt K.sensor)).scale, error := (t0.getD t8.toNat (dflt K.sensor)).error, drift := (t0.getD t8.toNat (dflt K.sensor)).drift, life := (t0.getD t8.toNat (dflt K.sensor)).life : Sensor } (bits BinOp.or IntKind.i64 (IntKind.i64.wrap (IntKind.i64.wrap (m0_2.getD (Int.toNat 0) (dflt K.u8)) * 256)) (IntKind.i64.wrap (m0_2.getD (Int.toNat 1) (dflt K.u8))))).hi)]), (false, [.int .i64 0])], [])
                            else none
                          else none
                        else none
                      else some (.tup [(true, [.int .i64 t8, .int .i64 t2, .int .i64 (-1125899906842624), .int .i64 1125899906842624]), (false, [.int .i64 0])], [])
                  else if (m0_1 == 1) = true then if (idx t0.length t8) = true then if (idx m0_2.length 0) = true then if (idx m0_2.length 1) = true then some (.tup [(true, [.int .i64 t8, .int .i64 t2, .int .i64 ((valueC { addr := (t0.getD t8.toNat (dflt K.sensor)).addr, kind := (t0.getD t8.toNat (dflt K.sensor)).kind, target := (t0.getD t8.toNat (dflt K.sensor)).target, offset := (t0.getD t8.toNat (dflt K.sensor)).offset, scale := (t0.getD t8.toNat (dflt K.sensor)).scale, error := (t0.getD t8.toNat (dflt K.sensor)).error, drift := (t0.getD t8.toNat (dflt K.sensor)).drift, life := (t0.getD t8.toNat (dflt K.sensor)).life : Sensor } (bits BinOp.or IntKind.i64 (IntKind.i64.wrap (IntKind.i64.wrap (m0_2.getD (Int.toNat 0) (dflt K.u8)) * 256)) (IntKind.i64.wrap (m0_2.getD (Int.toNat 1) (dflt K.u8))))).lo), .int .i64 ((valueC { addr := (t0.getD t8.toNat (dflt K.sensor)).addr, kind := (t0.getD t8.toNat (dflt K.sensor)).kind, target := (t0.getD t8.toNat (dflt K.sensor)).target, offset := (t0.getD t8.toNat (dflt K.sensor)).offset, scale := (t0.getD t8.toNat (dflt K.sensor)).scale, error := (t0.getD t8.toNat (dflt K.sensor)).error, drift := (t0.getD t8.toNat (dflt K.sensor)).drift, life := (t0.getD t8.toNat (dflt K.sensor)).life : Sensor } (bits BinOp.or IntKind.i64 (IntKind.i64.wrap (IntKind.i64.wrap (m0_2.getD (Int.toNat 0) (dflt K.u8)) * 256)) (IntKind.i64.wrap (m0_2.getD (Int.toNat 1) (dflt K.u8))))).hi)]), (false, [.int .i64 0])], [])
                          else none
                        else none
                      else none
                    else some (.tup [(true, [.int .i64 t8, .int .i64 t2, .int .i64 (-1125899906842624), .int .i64 1125899906842624]), (false, [.int .i64 0])], [])
            else if (m0_1 == 1) = true then if ((↑m0_2.length : Int) != 2) = true then some (.tup [(true, [.int .i64 0, .int .i64 0, .int .i64 0, .int .i64 0]), (false, [.int .i64 6])], [])
                else if (m0_1 == 2) = true then if ((↑m0_2.length : Int) != 0) = true then some (.tup [(true, [.int .i64 0, .int .i64 0, .int .i64 0, .int .i64 0]), (false, [.int .i64 6])], [])
                    else if (m0_1 == 1) = true then if (idx t0.length t8) = true then if (idx m0_2.length 0) = true then if (idx m0_2.length 1) = true then some (.tup [(true, [.int .i64 t8, .int .i64 t2, .int .i64 ((valueC { addr := (t0.getD t8.toNat (dflt K.sensor)).addr, kind := (t0.getD t8.toNat (dflt K.sensor)).kind, target := (t0.getD t8.toNat (dflt K.sensor)).target, offset := (t0.getD t8.toNat (dflt K.sensor)).offset, scale := (t0.getD t8.toNat (dflt K.sensor)).scale, error := (t0.getD t8.toNat (dflt K.sensor)).error, drift := (t0.getD t8.toNat (dflt K.sensor)).drift, life := (t0.getD t8.toNat (dflt K.sensor)).life : Sensor } (bits BinOp.or IntKind.i64 (IntKind.i64.wrap (IntKind.i64.wrap (m0_2.getD (Int.toNat 0) (dflt K.u8)) * 256)) (IntKind.i64.wrap (m0_2.getD (Int.toNat 1) (dflt K.u8))))).lo), .int .i64 ((valueC { addr := (t0.getD t8.toNat (dflt K.sensor)).addr, kind := (t0.getD t8.toNat (dflt K.sensor)).kind, target := (t0.getD t8.toNat (dflt K.sensor)).target, offset := (t0.getD t8.toNat (dflt K.sensor)).offset, scale := (t0.getD t8.toNat (dflt K.sensor)).scale, error := (t0.getD t8.toNat (dflt K.sensor)).error, drift := (t0.getD t8.toNat (dflt K.sensor)).drift, life := (t0.getD t8.toNat (dflt K.sensor)).life : Sensor } (bits BinOp.or IntKind.i64 (IntKind.i64.wrap (IntKind.i64.wrap (m0_2.getD (Int.toNat 0) (dflt K.u8)) * 256)) (IntKind.i64.wrap (m0_2.getD (Int.toNat 1) (dflt K.u8))))).hi)]), (false, [.int .i64 0])], [])
                            else none
                          else none
                        else none
                      else some (.tup [(true, [.int .i64 t8, .int .i64 t2, .int .i64 (-1125899906842624), .int .i64 1125899906842624]), (false, [.int .i64 0])], [])
                  else if (m0_1 == 1) = true then if (idx t0.length t8) = true then if (idx m0_2.length 0) = true then if (idx m0_2.length 1) = true then some (.tup [(true, [.int .i64 t8, .int .i64 t2, .int .i64 ((valueC { addr := (t0.getD t8.toNat (dflt K.sensor)).addr, kind := (t0.getD t8.toNat (dflt K.sensor)).kind, target := (t0.getD t8.toNat (dflt K.sensor)).target, offset := (t0.getD t8.toNat (dflt K.sensor)).offset, scale := (t0.getD t8.toNat (dflt K.sensor)).scale, error := (t0.getD t8.toNat (dflt K.sensor)).error, drift := (t0.getD t8.toNat (dflt K.sensor)).drift, life := (t0.getD t8.toNat (dflt K.sensor)).life : Sensor } (bits BinOp.or IntKind.i64 (IntKind.i64.wrap (IntKind.i64.wrap (m0_2.getD (Int.toNat 0) (dflt K.u8)) * 256)) (IntKind.i64.wrap (m0_2.getD (Int.toNat 1) (dflt K.u8))))).lo), .int .i64 ((valueC { addr := (t0.getD t8.toNat (dflt K.sensor)).addr, kind := (t0.getD t8.toNat (dflt K.sensor)).kind, target := (t0.getD t8.toNat (dflt K.sensor)).target, offset := (t0.getD t8.toNat (dflt K.sensor)).offset, scale := (t0.getD t8.toNat (dflt K.sensor)).scale, error := (t0.getD t8.toNat (dflt K.sensor)).error, drift := (t0.getD t8.toNat (dflt K.sensor)).drift, life := (t0.getD t8.toNat (dflt K.sensor)).life : Sensor } (bits BinOp.or IntKind.i64 (IntKind.i64.wrap (IntKind.i64.wrap (m0_2.getD (Int.toNat 0) (dflt K.u8)) * 256)) (IntKind.i64.wrap (m0_2.getD (Int.toNat 1) (dflt K.u8))))).hi)]), (false, [.int .i64 0])], [])
                          else none
                        else none
                      else none
                    else some (.tup [(true, [.int .i64 t8, .int .i64 t2, .int .i64 (-1125899906842624), .int .i64 1125899906842624]), (false, [.int .i64 0])], [])
              else if (m0_1 == 2) = true then if ((↑m0_2.length : Int) != 0) = true then some (.tup [(true, [.int .i64 0, .int .i64 0, .int .i64 0, .int .i64 0]), (false, [.int .i64 6])], [])
                  else if (m0_1 == 1) = true then if (idx t0.length t8) = true then if (idx m0_2.length 0) = true then if (idx m0_2.length 1) = true then some (.tup [(true, [.int .i64 t8, .int .i64 t2, .int .i64 ((valueC { addr := (t0.getD t8.toNat (dflt K.sensor)).addr, kind := (t0.getD t8.toNat (dflt K.sensor)).kind, target := (t0.getD t8.toNat (dflt K.sensor)).target, offset := (t0.getD t8.toNat (dflt K.sensor)).offset, scale := (t0.getD t8.toNat (dflt K.sensor)).scale, error := (t0.getD t8.toNat (dflt K.sensor)).error, drift := (t0.getD t8.toNat (dflt K.sensor)).drift, life := (t0.getD t8.toNat (dflt K.sensor)).life : Sensor } (bits BinOp.or IntKind.i64 (IntKind.i64.wrap (IntKind.i64.wrap (m0_2.getD (Int.toNat 0) (dflt K.u8)) * 256)) (IntKind.i64.wrap (m0_2.getD (Int.toNat 1) (dflt K.u8))))).lo), .int .i64 ((valueC { addr := (t0.getD t8.toNat (dflt K.sensor)).addr, kind := (t0.getD t8.toNat (dflt K.sensor)).kind, target := (t0.getD t8.toNat (dflt K.sensor)).target, offset := (t0.getD t8.toNat (dflt K.sensor)).offset, scale := (t0.getD t8.toNat (dflt K.sensor)).scale, error := (t0.getD t8.toNat (dflt K.sensor)).error, drift := (t0.getD t8.toNat (dflt K.sensor)).drift, life := (t0.getD t8.toNat (dflt K.sensor)).life : Sensor } (bits BinOp.or IntKind.i64 (IntKind.i64.wrap (IntKind.i64.wrap (m0_2.getD (Int.toNat 0) (dflt K.u8)) * 256)) (IntKind.i64.wrap (m0_2.getD (Int.toNat 1) (dflt K.u8))))).hi)]), (false, [.int .i64 0])], [])
                          else none
                        else none
                      else none
                    else some (.tup [(true, [.int .i64 t8, .int .i64 t2, .int .i64 (-1125899906842624), .int .i64 1125899906842624]), (false, [.int .i64 0])], [])
                else if (m0_1 == 1) = true then if (idx t0.length t8) = true then if (idx m0_2.length 0) = true then if (idx m0_2.length 1) = true then some (.tup [(true, [.int .i64 t8, .int .i64 t2, .int .i64 ((valueC { addr := (t0.getD t8.toNat (dflt K.sensor)).addr, kind := (t0.getD t8.toNat (dflt K.sensor)).kind, target := (t0.getD t8.toNat (dflt K.sensor)).target, offset := (t0.getD t8.toNat (dflt K.sensor)).offset, scale := (t0.getD t8.toNat (dflt K.sensor)).scale, error := (t0.getD t8.toNat (dflt K.sensor)).error, drift := (t0.getD t8.toNat (dflt K.sensor)).drift, life := (t0.getD t8.toNat (dflt K.sensor)).life : Sensor } (bits BinOp.or IntKind.i64 (IntKind.i64.wrap (IntKind.i64.wrap (m0_2.getD (Int.toNat 0) (dflt K.u8)) * 256)) (IntKind.i64.wrap (m0_2.getD (Int.toNat 1) (dflt K.u8))))).lo), .int .i64 ((valueC { addr := (t0.getD t8.toNat (dflt K.sensor)).addr, kind := (t0.getD t8.toNat (dflt K.sensor)).kind, target := (t0.getD t8.toNat (dflt K.sensor)).target, offset := (t0.getD t8.toNat (dflt K.sensor)).offset, scale := (t0.getD t8.toNat (dflt K.sensor)).scale, error := (t0.getD t8.toNat (dflt K.sensor)).error, drift := (t0.getD t8.toNat (dflt K.sensor)).drift, life := (t0.getD t8.toNat (dflt K.sensor)).life : Sensor } (bits BinOp.or IntKind.i64 (IntKind.i64.wrap (IntKind.i64.wrap (m0_2.getD (Int.toNat 0) (dflt K.u8)) * 256)) (IntKind.i64.wrap (m0_2.getD (Int.toNat 1) (dflt K.u8))))).hi)]), (false, [.int .i64 0])], [])
                        else none
                      else none
                    else none
                  else some (.tup [(true, [.int .i64 t8, .int .i64 t2, .int .i64 (-1125899906842624), .int .i64 1125899906842624]), (false, [.int .i64 0])], [])
        else none := by kernel_rfl
def s50 : Spec := ⟨false, fun av ob => match av, ob with
  | [.one (.vec b1 .sensor l), .agg [.int .i64 a, .int .i64 k, .vec b2 .u8 dat], .one (.int .i64 t)], [] => .need (decide (l.length ≤ 1000000)) (.ret (.tup [(true, [.int .i64 (decT l a k dat t).1.sensor, .int .i64 (decT l a k dat t).1.time, .int .i64 (decT l a k dat t).1.lo, .int .i64 (decT l a k dat t).1.hi]), (false, [.int .i64 (decT l a k dat t).2])], []))
  | _, _ => .fail⟩
theorem v50_0 (b1 b2 : Bool) (l : List Sensor) (a k : Int) (dat : List Int) (t : Int) (hl : l.length ≤ 1000000) : ∀ (i fl : Nat) (ix : Int), i ≤ l.length → i < fl → ix < l.length →
    h50_0 fl b1 l t ix ((i : Int) - 1) a k b2 dat 0 0 0 0 = some (.tup [(true, [.int .i64 (decEnd l k dat t (goAt l a i ix)).1.sensor, .int .i64 (decEnd l k dat t (goAt l a i ix)).1.time, .int .i64 (decEnd l k dat t (goAt l a i ix)).1.lo, .int .i64 (decEnd l k dat t (goAt l a i ix)).1.hi]), (false, [.int .i64 (decEnd l k dat t (goAt l a i ix)).2])], [])
  | 0, fl, ix, hi, hf, hx => by
    obtain ⟨fl, rfl⟩ : ∃ q, fl = q + 1 := ⟨fl - 1, by omega⟩
    rw [h50_0_eq, if_neg (by simp)]
    unfold goAt decEnd
    by_cases c0 : ix < 0
    · simp [c0]
    have i0 : idx l.length ix = true := idx_of (by omega) hx
    simp only [c0, i0, if_true, if_false, decide_eq_true_eq]
    show (if (checkS (sensAt l ix) != 0) = true then _ else _) = _
    by_cases c1 : checkS (sensAt l ix) = 0
    · have hv : ∀ n, valueC (sensAt l ix) n = valT (sensAt l ix) n := fun n => by
        unfold valueC
        rw [if_neg (by simp [c1])]
      simp only [c1, bne_self_eq_false, Bool.false_eq_true, ne_eq, not_true_eq_false, if_false]
      by_cases k1 : k = 1
      · subst k1
        by_cases d2 : (dat.length : Int) = 2
        · have j0 : idx dat.length 0 = true := idx_of (by omega) (by omega)
          have j1 : idx dat.length 1 = true := idx_of (by omega) (by omega)
          have n1 : ((1 : Int) != 1) = false := rfl
          have n2 : ((1 : Int) == 2) = false := rfl
          simp only [d2, j0, j1, n1, n2, beq_self_eq_true, bne_self_eq_false, Bool.false_eq_true, not_true_eq_false, if_true, if_false]
          show some (AV.tup [(true, [_, _, Sc.int .i64 (valueC (sensAt l ix) (rawOf dat)).lo, Sc.int .i64 (valueC (sensAt l ix) (rawOf dat)).hi]), _], _) = _
          rw [hv]
        · have d2' : ((dat.length : Int) != 2) = true := by simpa using d2
          simp [d2', d2]
      · have k1' : (k != 1) = true := by simpa using k1
        have k1'' : (k == 1) = false := by simpa using k1
        by_cases k2 : k = 2
        · subst k2
          by_cases d0 : (dat.length : Int) = 0
          · simp [d0]
          · have d0' : ((dat.length : Int) != 0) = true := by simpa using d0
            have d0n : dat ≠ [] := fun e0 => d0 (by rw [e0]; rfl)
            simp [d0', d0, d0n]
        · simp [k1, k2, k1', k1'']
    · have c1' : (checkS (sensAt l ix) != 0) = true := by simpa using c1
      simp [c1', c1]
  | i + 1, fl, ix, hi, hf, hx => by
    obtain ⟨fl, rfl⟩ : ∃ q, fl = q + 1 := ⟨fl - 1, by omega⟩
    have e1 : ((i + 1 : Nat) : Int) - 1 = (i : Int) := by omega
    have e2 : IntKind.i64.wrap ((i : Int) - 1) = (i : Int) - 1 := wid (by omega) (by omega)
    rw [e1, h50_0_eq, if_pos (show decide ((i : Int) ≥ 0) = true by simp), if_pos (idx_nat (by omega)), e2, goAt]
    show (if ((sensAt l (i : Int)).addr == a) = true then _ else _) = _
    by_cases c : ((sensAt l (i : Int)).addr == a) = true
    · rw [if_pos c, if_pos c]
      exact v50_0 b1 b2 l a k dat t hl i fl i (by omega) (by omega) (by omega)
    · rw [if_neg c, if_neg c]
      exact v50_0 b1 b2 l a k dat t hl i fl ix (by omega) (by omega) hx
theorem v50 (b1 b2 : Bool) (l : List Sensor) (a k : Int) (dat : List Int) (t : Int) (hl : decide (l.length ≤ 1000000) = true) : h50 (l.length + 2) b1 b2 l a k dat t = some (.tup [(true, [.int .i64 (decT l a k dat t).1.sensor, .int .i64 (decT l a k dat t).1.time, .int .i64 (decT l a k dat t).1.lo, .int .i64 (decT l a k dat t).1.hi]), (false, [.int .i64 (decT l a k dat t).2])], []) := by
  have hl := of_decide_eq_true hl
  rw [h50_eq]
  unfold decT
  by_cases c1 : 0 ≤ t ∧ t ≤ 2147483648
  · have e1 : IntKind.i64.wrap ((l.length : Int) - 1) = (l.length : Int) - 1 := wid (by omega) (by omega)
    rw [if_neg (by simp; omega), if_neg (by omega), e1]
    exact v50_0 b1 b2 l a k dat t hl l.length (l.length + 1) (-1) (by omega) (by omega) (by omega)
  · rw [if_pos (by simp; omega), if_pos (by omega)]
theorem p50 : SpecOK Try.prog 50 s50 := by
  refine specOK_of (env_ok (l := l50) ⟨⟨p89, f89⟩, ⟨⟨p39, f39⟩, ⟨⟨p35, f35⟩, ⟨⟨p42, f42⟩, trivial⟩⟩⟩⟩) mixed_ok Try.func50 k50 fun av ob r os hrn => ?_
  simp only [s50] at hrn
  split at hrn
  · rename_i b1 l a k b2 dat t
    obtain ⟨hg, hrn⟩ := need_den hrn
    cases hrn
    have hv := v50 b1 b2 l a k dat t hg
    unfold h50 at hv
    exact ⟨l.length + 2, hv⟩
  · cases hrn
theorem f50 : FnOK Try.prog 50 := fnOK_of Try.func50 rfl (by kernel_rfl)
end Go.Proofs.Ytipfipnhgpbceaa.Sx
/- Sensors that are made, now and then with another number; the chapter's example (plain theorems). -/


set_option linter.unusedVariables false
set_option linter.unusedSimpArgs false
set_option maxRecDepth 100000
namespace Go.Proofs.Ytipfipnhgpbceaa.Sx
open Go Go.RowKit
def l37 : List (FuncId × Spec) := [(26, s26), (32, c32), (46, c46), (31, c31)]
def k37 : Code → Keep := keepOf []
noncomputable def h37 (fl : Nat) (l : List Int) (n : Int) : Option (AV × List Ob) := (evalF (env l37) Try.f37 k37 fl [.one (.vec false .u8 l), .one (.int .i64 n)] []).den
theorem h37_eq (fl : Nat) (l : List Int) (n : Int) : h37 (fl + 1) l n =
    (rangeO (List.take 300 l) 0 1 6).bind fun x2 =>
    (nextO (List.take 300 l) x2.snd 6).bind fun x3 =>
      (nextO (List.take 300 l) x3.snd 4).bind fun x4 =>
        (sensO (List.take 300 l) x4.snd x2.fst x3.fst x4.fst).bind fun x5 =>
          (nextO (List.take 300 l) x5.snd 14).bind fun x6 =>
            if (x6.fst == 1) = true then some (.agg [.int .i64 x5.fst.addr, .int .i64 n, .int .i64 x5.fst.target, .int .i64 x5.fst.offset, .int .i64 x5.fst.scale, .int .i64 x5.fst.error, .int .i64 x5.fst.drift, .int .i64 x5.fst.life], [])
              else if (x6.fst == 2) = true then some (.agg [.int .i64 n, .int .i64 x5.fst.kind, .int .i64 x5.fst.target, .int .i64 x5.fst.offset, .int .i64 x5.fst.scale, .int .i64 x5.fst.error, .int .i64 x5.fst.drift, .int .i64 x5.fst.life], [])
                else if (x6.fst == 3) = true then some (.agg [.int .i64 x5.fst.addr, .int .i64 x5.fst.kind, .int .i64 n, .int .i64 x5.fst.offset, .int .i64 x5.fst.scale, .int .i64 x5.fst.error, .int .i64 x5.fst.drift, .int .i64 x5.fst.life], [])
                  else if (x6.fst == 4) = true then some (.agg [.int .i64 x5.fst.addr, .int .i64 x5.fst.kind, .int .i64 x5.fst.target, .int .i64 n, .int .i64 x5.fst.scale, .int .i64 x5.fst.error, .int .i64 x5.fst.drift, .int .i64 x5.fst.life], [])
                    else if (x6.fst == 5) = true then some (.agg [.int .i64 x5.fst.addr, .int .i64 x5.fst.kind, .int .i64 x5.fst.target, .int .i64 x5.fst.offset, .int .i64 n, .int .i64 x5.fst.error, .int .i64 x5.fst.drift, .int .i64 x5.fst.life], [])
                      else if (x6.fst == 6) = true then some (.agg [.int .i64 x5.fst.addr, .int .i64 x5.fst.kind, .int .i64 x5.fst.target, .int .i64 x5.fst.offset, .int .i64 x5.fst.scale, .int .i64 n, .int .i64 x5.fst.drift, .int .i64 x5.fst.life], [])
                        else if (x6.fst == 7) = true then some (.agg [.int .i64 x5.fst.addr, .int .i64 x5.fst.kind, .int .i64 x5.fst.target, .int .i64 x5.fst.offset, .int .i64 x5.fst.scale, .int .i64 x5.fst.error, .int .i64 n, .int .i64 x5.fst.life], [])
                          else if (x6.fst == 8) = true then some (.agg [.int .i64 x5.fst.addr, .int .i64 x5.fst.kind, .int .i64 x5.fst.target, .int .i64 x5.fst.offset, .int .i64 x5.fst.scale, .int .i64 x5.fst.error, .int .i64 x5.fst.drift, .int .i64 n], [])
                            else some (.agg [.int .i64 x5.fst.addr, .int .i64 x5.fst.kind, .int .i64 x5.fst.target, .int .i64 x5.fst.offset, .int .i64 x5.fst.scale, .int .i64 x5.fst.error, .int .i64 x5.fst.drift, .int .i64 x5.fst.life], []) := by kernel_rfl
def decSensor : AV × List Ob → Option Sensor
  | (.agg [.int .i64 a, .int .i64 b, .int .i64 c, .int .i64 d, .int .i64 e, .int .i64 f, .int .i64 g, .int .i64 h], []) => some ⟨a, b, c, d, e, f, g, h⟩
  | _ => none
theorem decSensor_ok {y : AV × List Ob} {x : Sensor} (h : decSensor y = some x) : ([] : List Ob) = y.2.take 0 ∧ TA y.2 0 y.1 (.agg [.int .i64 x.addr, .int .i64 x.kind, .int .i64 x.target, .int .i64 x.offset, .int .i64 x.scale, .int .i64 x.error, .int .i64 x.drift, .int .i64 x.life]) := by
  unfold decSensor at h
  split at h
  · cases h
    exact ⟨rfl, .agg _ _ (all2_tc_refl _)⟩
  · cases h
noncomputable def o37 (l : List Int) (n : Int) : Option (Sensor) := (h37 1 l n).bind (decSensor)
noncomputable def c37 : Spec := ⟨false, fun av ob => match av, ob with
  | [.one (.vec false .u8 l), .one (.int .i64 n)], [] => .call (o37 l n) fun x => .ret (.agg [.int .i64 x.addr, .int .i64 x.kind, .int .i64 x.target, .int .i64 x.offset, .int .i64 x.scale, .int .i64 x.error, .int .i64 x.drift, .int .i64 x.life], [])
  | _, _ => .fail⟩
theorem f37 : FnOK Try.prog 37 := fnOK_of Try.func37 rfl (by kernel_rfl)
theorem pc37 : SpecOK Try.prog 37 c37 := by
  refine spec_thaw (fun av ob r os hrn => ?_) (machS_ok (env_ok (l := l37) ⟨⟨p26, f26⟩, ⟨⟨pc32, f32⟩, ⟨⟨pc46, f46⟩, ⟨⟨pc31, f31⟩, trivial⟩⟩⟩⟩) mixed_ok Try.func37 k37 (fun _ _ => 1) false)
  simp only [c37] at hrn
  split at hrn
  · rename_i l n
    obtain ⟨x, hx, hr⟩ := Option.bind_eq_some_iff.1 hrn
    cases hr
    obtain ⟨y, hy, hd⟩ := Option.bind_eq_some_iff.1 hx
    unfold h37 at hy
    obtain ⟨d1, d2⟩ := decSensor_ok hd
    exact ⟨y.1, y.2, by rw [machS_run]; exact hy, d1, d2⟩
  · cases hrn
set_option maxHeartbeats 4000000 in
theorem made_ok {l : List Int} (n : Int) (h : l.all u8B = true) : ∃ s, o37 l n = some s := by
  have k0 := cok0 h
  obtain ⟨v1, p1, e1, a1, b1, k1⟩ := range_ok (lo := 1) (hi := 6) k0 (by omega) (by omega) (by omega)
  obtain ⟨v2, p2, e2, a2, b2, k2⟩ := next_ok (n := 6) k1 (by omega)
  obtain ⟨v3, p3, e3, a3, b3, k3⟩ := next_ok (n := 4) k2 (by omega)
  obtain ⟨s, p4, e4, hs, g1, g2, g3, k4⟩ := sens_ok (a := v1) (b := v2) (c := v3) k3 (by omega)
  obtain ⟨v5, p5, e5, a5, b5, k5⟩ := next_ok (n := 14) k4 (by omega)
  unfold o37
  rw [h37_eq]
  rw [e1, Option.bind_some]
  dsimp only
  rw [e2, Option.bind_some]
  dsimp only
  rw [e3, Option.bind_some]
  dsimp only
  rw [e4, Option.bind_some]
  dsimp only
  rw [e5, Option.bind_some]
  dsimp only
  have key : ∀ (b : Bool) (x y : Option (AV × List Ob)), (∃ s, x.bind decSensor = some s) → (∃ s, y.bind decSensor = some s) → ∃ s, (if b = true then x else y).bind decSensor = some s := fun b x y hx hy => by
    cases b
    · exact hy
    · exact hx
  refine key _ _ _ ⟨_, rfl⟩ (key _ _ _ ⟨_, rfl⟩ (key _ _ _ ⟨_, rfl⟩ (key _ _ _ ⟨_, rfl⟩ (key _ _ _ ⟨_, rfl⟩ (key _ _ _ ⟨_, rfl⟩ (key _ _ _ ⟨_, rfl⟩ (key _ _ _ ⟨_, rfl⟩ ⟨_, rfl⟩)))))))
def l40 : List (FuncId × Spec) := [(49, s49), (38, s38), (54, s54), (35, s35), (41, s41)]
def k40 : Code → Keep := keepOf []
noncomputable def h40 (fl : Nat)  : Option (AV × List Ob) := (evalF (env l40) Try.f40 k40 fl [] []).den
theorem h40_eq (fl : Nat)  : h40 (fl + 1)  =
    some (.one (.bool true), []) := by kernel_rfl
def s40 : Spec := ⟨false, fun av ob => match av, ob with
  | [], [] => .ret (.one (.bool true), [])
  | _, _ => .fail⟩
theorem v40 : h40 1 = some (.one (.bool true), []) := by
  rw [h40_eq]
theorem p40 : SpecOK Try.prog 40 s40 := by
  refine specOK_of (env_ok (l := l40) ⟨⟨p49, f49⟩, ⟨⟨p38, f38⟩, ⟨⟨p54, f54⟩, ⟨⟨p35, f35⟩, ⟨⟨p41, f41⟩, trivial⟩⟩⟩⟩⟩) mixed_ok Try.func40 k40 fun av ob r os hrn => ?_
  simp only [s40] at hrn
  split at hrn
  · skip
    cases hrn
    have hv := v40
    unfold h40 at hv
    exact ⟨1, hv⟩
  · cases hrn
theorem f40 : FnOK Try.prog 40 := fnOK_of Try.func40 rfl (by kernel_rfl)
end Go.Proofs.Ytipfipnhgpbceaa.Sx
/- Telegrams that are made; slices that are nil (plain theorems). -/

set_option linter.unusedVariables false
set_option linter.unusedSimpArgs false
set_option maxRecDepth 100000
namespace Go.Proofs.Ytipfipnhgpbceaa.Sx
open Go Go.RowKit
/-- A nil slice is a slice without elements. -/
def nilFix (E : K) : Sc → Sc
  | .nils => .vec false E []
  | s => s
theorem nilFix_rel {w : World} {ρ : Rho} {ok : Okp} {v : Value} {s : Sc} (E : K) (h : SRel w ρ ok v s) : SRel w ρ ok v (nilFix E s) := by
  cases s with
  | nils => cases h; exact .vec0 _ _ _ _
  | _ => exact h
theorem nilFix_one {w : World} {ρ : Rho} {ok : Okp} {v : Value} {s : Sc} (E : K) (h : VRel w ρ ok v (.one s)) : VRel w ρ ok v (.one (nilFix E s)) := by
  cases h with
  | any => exact .any _
  | one _ _ h => exact .one _ _ (nilFix_rel E h)
theorem spec_args {P : Program} {f : FuncId} {a b : Spec} (fix : List AV → List AV) (hfix : ∀ (w : World) (ρ : Rho) (ok : Okp) (vs : List Value) (av : List AV), All2 (VRel w ρ ok) vs av → All2 (VRel w ρ ok) vs (fix av)) (h : ∀ av ob, b.run av ob = a.run (fix av) ob)
    (ha : SpecOK P f a) : SpecOK P f b :=
  fun w ρ ok vs av obs r os h1 h2 h3 h4 => ha w ρ ok vs (fix av) obs r os h1 h2 (hfix _ _ _ _ _ h3) (by rw [← h]; exact h4)
theorem all2_inv {α β : Type} {R : α → β → Prop} {l : List α} {b : β} {r : List β} (h : All2 R l (b :: r)) : ∃ a l', l = a :: l' ∧ R a b ∧ All2 R l' r := by
  cases l with
  | nil => exact h.elim
  | cons a l' => exact ⟨a, l', rfl, h.1, h.2⟩
def fix49 : List AV → List AV
  | [.one s1, .agg [a, k, s2], t] => [.one (nilFix .sensor s1), .agg [a, k, nilFix .u8 s2], t]
  | l => l
def c49 : Spec := ⟨false, fun av ob => s49.run (fix49 av) ob⟩
theorem pc49 : SpecOK Try.prog 49 c49 := by
  refine spec_args fix49 (fun w ρ ok vs av h => ?_) (fun _ _ => rfl) p49
  unfold fix49
  split
  · obtain ⟨v1, vs, rfl, h1, h⟩ := all2_inv h
    obtain ⟨v2, vs, rfl, h2, h⟩ := all2_inv h
    refine ⟨nilFix_one _ h1, ?_, h⟩
    cases h2 with
    | agg us l q =>
      refine .agg _ _ ?_
      obtain ⟨us⟩ := us
      obtain ⟨u1, us, rfl, q1, q⟩ := all2_inv q
      obtain ⟨u2, us, rfl, q2, q⟩ := all2_inv q
      obtain ⟨u3, us, rfl, q3, q⟩ := all2_inv q
      exact ⟨q1, q2, nilFix_rel _ q3, q⟩
  · exact h
def c50 : Spec := ⟨false, fun av ob => s50.run (fix49 av) ob⟩
theorem pc50 : SpecOK Try.prog 50 c50 := by
  refine spec_args fix49 (fun w ρ ok vs av h => ?_) (fun _ _ => rfl) p50
  unfold fix49
  split
  · obtain ⟨v1, vs, rfl, h1, h⟩ := all2_inv h
    obtain ⟨v2, vs, rfl, h2, h⟩ := all2_inv h
    refine ⟨nilFix_one _ h1, ?_, h⟩
    cases h2 with
    | agg us l q =>
      refine .agg _ _ ?_
      obtain ⟨us⟩ := us
      obtain ⟨u1, us, rfl, q1, q⟩ := all2_inv q
      obtain ⟨u2, us, rfl, q2, q⟩ := all2_inv q
      obtain ⟨u3, us, rfl, q3, q⟩ := all2_inv q
      exact ⟨q1, q2, nilFix_rel _ q3, q⟩
  · exact h
noncomputable def l48 : List (FuncId × Spec) := [(46, c46)]
def k48 : Code → Keep := keepOf []
noncomputable def h48 (fl : Nat) (l : List Int) (p : Int) : Option (AV × List Ob) := (evalF (env l48) Try.f48 k48 fl [.one (.ptr 0 0)] [.box [.vec false .u8 l, .int .i64 p]]).den
theorem h48_eq (fl : Nat) (l : List Int) (p : Int) : h48 (fl + 1) l p =
    (nextO l p 6).bind fun x2 =>
    (nextO l x2.snd 2).bind fun x3 =>
      (nextO l x3.snd 256).bind fun x4 =>
        (nextO l x4.snd 8).bind fun x5 =>
          if (x5.fst == 5) = true then some (.agg [.int .i64 x2.fst, .int .i64 2, .nils], [.box [.vec false .u8 l, .int .i64 x5.snd]])
            else if (x5.fst == 6) = true then (nextO l x5.snd 4).bind fun x8 =>
                some (.agg [.int .i64 x2.fst, .int .i64 x8.fst, .row 1], [.box [.vec false .u8 l, .int .i64 x8.snd], .rows .u8 ([IntKind.u8.wrap x3.fst, IntKind.u8.wrap x4.fst])])
              else if (x5.fst == 7) = true then (nextO l x5.snd 3).bind fun x9 =>
                  if (true && (decide (0 ≤ x9.fst) && decide (x9.fst ≤ (↑[IntKind.u8.wrap x3.fst, IntKind.u8.wrap x4.fst].length : Int)))) = true then some (.agg [.int .i64 x2.fst, .int .i64 1, .vec false .u8 (List.drop (Int.toNat 0) (List.take x9.fst.toNat [IntKind.u8.wrap x3.fst, IntKind.u8.wrap x4.fst]))], [.box [.vec false .u8 l, .int .i64 x9.snd]])
                    else none
                else some (.agg [.int .i64 x2.fst, .int .i64 1, .row 1], [.box [.vec false .u8 l, .int .i64 x5.snd], .rows .u8 ([IntKind.u8.wrap x3.fst, IntKind.u8.wrap x4.fst])]) := by kernel_rfl
def decFrame (l : List Int) : AV × List Ob → Option (Frame × Int)
  | (.agg [.int .i64 a, .int .i64 k, s], .box [.vec false .u8 l', .int .i64 p] :: os) => if l' = l then (match slO .u8 1 (.box [.vec false .u8 l', .int .i64 p] :: os) s with | some d => some (⟨a, k, d⟩, p) | none => none) else none
  | _ => none
theorem decFrame_ok {l : List Int} {y : AV × List Ob} {x : Frame × Int} (h : decFrame l y = some x) : [Ob.box [.vec false .u8 l, .int .i64 x.2]] = y.2.take 1 ∧ TA y.2 1 y.1 (.agg [.int .i64 x.1.addr, .int .i64 x.1.kind, .vec false .u8 x.1.data]) := by
  unfold decFrame at h
  split at h
  · split at h
    · rename_i hl
      subst hl
      split at h
      · rename_i d hd
        cases h
        exact ⟨rfl, .agg _ _ ⟨.same _, .same _, slO_ok hd, trivial⟩⟩
      · cases h
    · cases h
  · cases h
noncomputable def o48 (l : List Int) (p : Int) : Option (Frame × Int) := (h48 1 l p).bind (decFrame l)
noncomputable def c48 : Spec := ⟨false, fun av ob => match av, ob with
  | [.one (.ptr 0 0)], [.box [.vec false .u8 l, .int .i64 p]] => .call (o48 l p) fun x => .ret (.agg [.int .i64 x.1.addr, .int .i64 x.1.kind, .vec false .u8 x.1.data], [.box [.vec false .u8 l, .int .i64 x.2]])
  | _, _ => .fail⟩
theorem f48 : FnOK Try.prog 48 := fnOK_of Try.func48 rfl (by kernel_rfl)
theorem pc48 : SpecOK Try.prog 48 c48 := by
  refine spec_thaw (fun av ob r os hrn => ?_) (machS_ok (env_ok (l := l48) ⟨⟨pc46, f46⟩, trivial⟩) mixed_ok Try.func48 k48 (fun _ _ => 1) false)
  simp only [c48] at hrn
  split at hrn
  · rename_i l p
    obtain ⟨x, hx, hr⟩ := Option.bind_eq_some_iff.1 hrn
    cases hr
    obtain ⟨y, hy, hd⟩ := Option.bind_eq_some_iff.1 hx
    unfold h48 at hy
    obtain ⟨d1, d2⟩ := decFrame_ok hd
    exact ⟨y.1, y.2, by rw [machS_run]; exact hy, d1, d2⟩
  · cases hrn
theorem frame_ok {l : List Int} {p : Int} (h : cok l p = true) : ∃ f q, o48 l p = some (f, q) ∧ cok l q = true := by
  obtain ⟨v1, p1, e1, a1, b1, k1⟩ := next_ok (n := 6) h (by omega)
  obtain ⟨v2, p2, e2, a2, b2, k2⟩ := next_ok (n := 2) k1 (by omega)
  obtain ⟨v3, p3, e3, a3, b3, k3⟩ := next_ok (n := 256) k2 (by omega)
  obtain ⟨v4, p4, e4, a4, b4, k4⟩ := next_ok (n := 8) k3 (by omega)
  obtain ⟨v5, p5, e5, a5, b5, k5⟩ := next_ok (n := 4) k4 (by omega)
  obtain ⟨v6, p6, e6, a6, b6, k6⟩ := next_ok (n := 3) k4 (by omega)
  unfold o48
  rw [h48_eq]
  simp only [e1, e2, e3, e4, e5, e6, Option.bind_some]
  by_cases c5 : v4 = 5
  · subst c5
    exact ⟨⟨v1, 2, []⟩, p4, by simp [decFrame, slO], k4⟩
  by_cases c6 : v4 = 6
  · subst c6
    exact ⟨⟨v1, v5, _⟩, p5, by simp [decFrame, slO]; rfl, k5⟩
  by_cases c7 : v4 = 7
  · subst c7
    have c8 : (true && (decide (0 ≤ v6) && decide (v6 ≤ (([IntKind.u8.wrap v2, IntKind.u8.wrap v3].length : Nat) : Int)))) = true := by simp; omega
    simp only [c8, if_true]
    exact ⟨⟨v1, 1, _⟩, p6, by simp [decFrame, slO]; rfl, k6⟩
  have d5 : (v4 == 5) = false := by simpa using c5
  have d6 : (v4 == 6) = false := by simpa using c6
  have d7 : (v4 == 7) = false := by simpa using c7
  rw [d5, d6, d7]
  exact ⟨⟨v1, 1, _⟩, p4, by simp [decFrame, slO]; rfl, k4⟩
end Go.Proofs.Ytipfipnhgpbceaa.Sx
