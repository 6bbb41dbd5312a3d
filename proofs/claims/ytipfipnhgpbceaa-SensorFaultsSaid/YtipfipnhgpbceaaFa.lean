/- What the program's small functions do (plain theorems). -/
import Derived.Test.YtipfipnhgpbceaaSxProg
set_option linter.unusedVariables false
set_option linter.unusedSimpArgs false
set_option maxRecDepth 100000
namespace Go.Proofs.Ytipfipnhgpbceaa.Sx
open Go Go.RowKit
abbrev wr64 (x : Int) : Int := IntKind.i64.wrap x
/-! ### Mod -/
def l27 : List (FuncId × Spec) := []
def k27 : Code → Keep := keepOf []
noncomputable def h27 (fl : Nat) (k n : Int) : Option (AV × List Ob) := (evalF (env l27) Try.f27 k27 fl [.one (.int .i64 k), .one (.int .i64 n)] []).den
theorem h27_eq (fl : Nat) (k n : Int) : h27 (fl + 1) k n =
    if (decide (n < 1)) = true then some (.one (.int .i64 0), [])
    else if (n != 0) = true then if (decide (k.tmod n < 0)) = true then some (.one (.int .i64 (IntKind.i64.wrap (k.tmod n + n))), [])
        else some (.one (.int .i64 (k.tmod n)), [])
      else none := by kernel_rfl
def modz (k n : Int) : Int := if n < 1 then 0 else if k.tmod n < 0 then wr64 (k.tmod n + n) else k.tmod n
def s27 : Spec := ⟨false, fun av ob => match av, ob with
  | [.one (.int .i64 k), .one (.int .i64 n)], [] => .ret (.one (.int .i64 (modz k n)), [])
  | _, _ => .fail⟩
theorem v27 (k n : Int) : h27 1 k n = some (.one (.int .i64 (modz k n)), []) := by
  rw [h27_eq]
  unfold modz
  by_cases h1 : n < 1
  · simp [h1]
  · have h2 : n ≠ 0 := by omega
    by_cases h3 : k.tmod n < 0 <;> simp [h1, h2, h3]
theorem p27 : SpecOK Try.prog 27 s27 := by
  refine specOK_of (env_ok (l := l27) trivial) mixed_ok Try.func27 k27 fun av ob r os h => ?_
  simp only [s27] at h
  split at h
  · rename_i k n
    cases h
    have hv := v27 k n
    unfold h27 at hv
    exact ⟨1, hv⟩
  · cases h
theorem f27 : FnOK Try.prog 27 := fnOK_of Try.func27 rfl (by kernel_rfl)
/-! ### Above -/
def l28 : List (FuncId × Spec) := []
def k28 : Code → Keep := keepOf []
noncomputable def h28 (fl : Nat) (lo hi v : Int) : Option (AV × List Ob) := (evalF (env l28) Try.f28 k28 fl [.agg [.int .i64 lo, .int .i64 hi], .one (.int .i64 v)] []).den
theorem h28_eq (fl : Nat) (lo hi v : Int) : h28 (fl + 1) lo hi v =
    if (decide (lo > hi)) = true then some (.one (.int .i64 0), [])
    else if (decide (lo ≥ v)) = true then some (.one (.int .i64 1), [])
      else if (decide (hi < v)) = true then some (.one (.int .i64 (-1)), [])
        else some (.one (.int .i64 0), []) := by kernel_rfl
def l29 : List (FuncId × Spec) := []
def k29 : Code → Keep := keepOf []
noncomputable def h29 (fl : Nat) (lo hi v : Int) : Option (AV × List Ob) := (evalF (env l29) Try.f29 k29 fl [.agg [.int .i64 lo, .int .i64 hi], .one (.int .i64 v)] []).den
theorem h29_eq (fl : Nat) (lo hi v : Int) : h29 (fl + 1) lo hi v =
    if (decide (lo > hi)) = true then some (.one (.int .i64 0), [])
    else if (decide (lo ≥ v)) = true then some (.one (.int .i64 1), [])
      else if (decide (hi < v)) = true then some (.one (.int .i64 (-1)), [])
        else some (.one (.int .i64 0), []) := by kernel_rfl
def above (s : Span) (v : Int) : Int := if s.lo > s.hi then 0 else if s.lo ≥ v then 1 else if s.hi < v then -1 else 0
def s28 : Spec := ⟨false, fun av ob => match av, ob with
  | [.agg [.int .i64 lo, .int .i64 hi], .one (.int .i64 v)], [] => .ret (.one (.int .i64 (above ⟨lo, hi⟩ v)), [])
  | _, _ => .fail⟩
def s29 : Spec := ⟨false, fun av ob => match av, ob with
  | [.agg [.int .i64 lo, .int .i64 hi], .one (.int .i64 v)], [] => .ret (.one (.int .i64 (above ⟨lo, hi⟩ v)), [])
  | _, _ => .fail⟩
theorem v28 (lo hi v : Int) : h28 1 lo hi v = some (.one (.int .i64 (above ⟨lo, hi⟩ v)), []) := by
  rw [h28_eq]
  unfold above
  simp only [decide_eq_true_eq]
  split
  · rfl
  · split
    · rfl
    · split <;> rfl
theorem v29 (lo hi v : Int) : h29 1 lo hi v = some (.one (.int .i64 (above ⟨lo, hi⟩ v)), []) := by
  rw [h29_eq]
  unfold above
  simp only [decide_eq_true_eq]
  split
  · rfl
  · split
    · rfl
    · split <;> rfl
theorem p28 : SpecOK Try.prog 28 s28 := by
  refine specOK_of (env_ok (l := l28) trivial) mixed_ok Try.func28 k28 fun av ob r os h => ?_
  simp only [s28] at h
  split at h
  · rename_i lo hi v
    cases h
    have hv := v28 lo hi v
    unfold h28 at hv
    exact ⟨1, hv⟩
  · cases h
theorem f28 : FnOK Try.prog 28 := fnOK_of Try.func28 rfl (by kernel_rfl)
theorem p29 : SpecOK Try.prog 29 s29 := by
  refine specOK_of (env_ok (l := l29) trivial) mixed_ok Try.func29 k29 fun av ob r os h => ?_
  simp only [s29] at h
  split at h
  · rename_i lo hi v
    cases h
    have hv := v29 lo hi v
    unfold h29 at hv
    exact ⟨1, hv⟩
  · cases h
theorem f29 : FnOK Try.prog 29 := fnOK_of Try.func29 rfl (by kernel_rfl)

theorem wid {n : Int} (h0 : -9223372036854775808 ≤ n) (h1 : n ≤ 9223372036854775807) : IntKind.i64.wrap n = n := by rw [IntKind.wrap_i64]; omega
theorem modz_range {k n : Int} (h : 1 ≤ n) (h2 : n ≤ 4611686018427387904) : 0 ≤ modz k n ∧ modz k n < n := by
  unfold modz
  rw [if_neg (by omega)]
  have h3 := Int.tmod_lt_of_pos k (b := n) (by omega)
  have h4 : -n < k.tmod n := by
    have := Int.lt_tmod_of_pos k (b := n) (by omega)
    omega
  split
  · rw [wr64, wid (by omega) (by omega)]; omega
  · omega

/-! ### Codes -/
def l26 : List (FuncId × Spec) := []
def k26 : Code → Keep := keepOf []
noncomputable def h26 (fl : Nat) (l : List Int) : Option (AV × List Ob) := (evalF (env l26) Try.f26 k26 fl [.one (.vec false .u8 l)] []).den
theorem h26_eq (fl : Nat) (l : List Int) : h26 (fl + 1) l =
    if (true && (decide (0 ≤ mn (↑(AnyL.of false K.u8 l).len) 300) && decide (mn (↑(AnyL.of false K.u8 l).len) 300 ≤ ↑l.length))) = true then some (.one (.ptr 0 0), [.box [.vec false .u8 (List.drop (Int.toNat 0) (List.take (mn (↑(AnyL.of false K.u8 l).len) 300).toNat l)), .int .i64 0]])
    else none := by kernel_rfl
def s26 : Spec := ⟨false, fun av ob => match av, ob with
  | [.one (.vec false .u8 l)], [] => .ret (.one (.ptr 0 0), [.box [.vec false .u8 (List.take 300 l), .int .i64 0]])
  | _, _ => .fail⟩
theorem v26 (l : List Int) : h26 1 l = some (.one (.ptr 0 0), [.box [.vec false .u8 (List.take 300 l), .int .i64 0]]) := by
  rw [h26_eq]
  have hm : mn (↑(AnyL.of false K.u8 l).len) 300 = ((min l.length 300 : Nat) : Int) := by
    unfold mn AnyL.len
    dsimp only
    split <;> omega
  rw [hm]
  have h1 : (true && (decide ((0 : Int) ≤ ((min l.length 300 : Nat) : Int)) && decide (((min l.length 300 : Nat) : Int) ≤ (l.length : Int)))) = true := by
    simp only [Bool.true_and, Bool.and_eq_true, decide_eq_true_eq]
    omega
  rw [if_pos h1]
  have h2 : List.drop (Int.toNat 0) (List.take ((min l.length 300 : Nat) : Int).toNat l) = List.take 300 l := by
    simp only [Int.toNat_natCast, Int.toNat_zero, List.drop_zero]
    rw [List.take_eq_take_iff]
    omega
  rw [h2]
theorem p26 : SpecOK Try.prog 26 s26 := by
  refine specOK_of (env_ok (l := l26) trivial) mixed_ok Try.func26 k26 fun av ob r os h => ?_
  simp only [s26] at h
  split at h
  · rename_i l
    cases h
    have hv := v26 l
    unfold h26 at hv
    exact ⟨1, hv⟩
  · cases h
theorem f26 : FnOK Try.prog 26 := fnOK_of Try.func26 rfl (by kernel_rfl)
def cok (l : List Int) (p : Int) : Bool := decide (0 ≤ p) && (decide (p ≤ l.length) && (decide (l.length ≤ 300) && l.all fun x => decide (0 ≤ x) && decide (x < 256)))
def nextP (l : List Int) (p n : Int) : Int := if n < 1 then p else if p ≥ l.length then p else if n > 256 ∧ p + 1 < l.length then p + 2 else p + 1
def nextV (l : List Int) (p n : Int) : Int := if n < 1 then 0 else if p ≥ l.length then 0 else if n > 256 ∧ p + 1 < l.length then (l.getD p.toNat 0 * 256 + l.getD (p + 1).toNat 0).tmod n else (l.getD p.toNat 0).tmod n
theorem cok_iff {l : List Int} {p : Int} : cok l p = true ↔ 0 ≤ p ∧ p ≤ l.length ∧ l.length ≤ 300 ∧ ∀ x ∈ l, 0 ≤ x ∧ x < 256 := by
  unfold cok
  simp only [Bool.and_eq_true, decide_eq_true_eq, List.all_eq_true]
theorem getD_in {l : List Int} (h : ∀ x ∈ l, 0 ≤ x ∧ x < 256) (i : Nat) : 0 ≤ l.getD i 0 ∧ l.getD i 0 < 256 := by
  rw [List.getD_eq_getElem?_getD]
  cases hh : l[i]? with
  | none => simp
  | some x => exact h x (List.mem_of_getElem? hh)
theorem cok_next {l : List Int} {p n : Int} (h : cok l p = true) : cok l (nextP l p n) = true := by
  rw [cok_iff] at *
  obtain ⟨h1, h2, h3, h4⟩ := h
  have hb : 0 ≤ nextP l p n ∧ nextP l p n ≤ l.length := by
    unfold nextP
    split
    · omega
    · split
      · omega
      · split <;> omega
  exact ⟨hb.1, hb.2, h3, h4⟩
theorem nextV_range {l : List Int} {p n : Int} (h : cok l p = true) (hn : 1 ≤ n) : 0 ≤ nextV l p n ∧ nextV l p n < n := by
  rw [cok_iff] at h
  obtain ⟨h1, h2, h3, h4⟩ := h
  have g := getD_in h4
  unfold nextV
  rw [if_neg (by omega)]
  split
  · omega
  · split
    · have a := g p.toNat
      have b := g (p + 1).toNat
      exact ⟨Int.tmod_nonneg _ (by omega), Int.tmod_lt_of_pos _ (by omega)⟩
    · have a := g p.toNat
      exact ⟨Int.tmod_nonneg _ (by omega), Int.tmod_lt_of_pos _ (by omega)⟩
def l46 : List (FuncId × Spec) := []
def k46 : Code → Keep := keepOf []
noncomputable def h46 (fl : Nat) (l : List Int) (p n : Int) : Option (AV × List Ob) := (evalF (env l46) Try.f46 k46 fl [.one (.ptr 0 0), .one (.int .i64 n)] [.box [.vec false .u8 l, .int .i64 p]]).den
theorem h46_eq (fl : Nat) (l : List Int) (p n : Int) : h46 (fl + 1) l p n =
    if (decide (n < 1)) = true then some (.one (.int .i64 0), [.box [.vec false .u8 l, .int .i64 p]])
    else if (decide (p ≥ ↑(AnyL.of false K.u8 l).len)) = true then some (.one (.int .i64 0), [.box [.vec false .u8 l, .int .i64 p]])
      else if (idx l.length (IntKind.i64.wrap (IntKind.i64.wrap (p + 1) - 1))) = true then if (decide (n > 256)) = true then if (decide (IntKind.i64.wrap (p + 1) < ↑(AnyL.of false K.u8 l).len)) = true then if (idx l.length (IntKind.i64.wrap (p + 1))) = true then if (n != 0) = true then some (.one (.int .i64 ((IntKind.i64.wrap (IntKind.i64.wrap (IntKind.i64.wrap (l.getD (IntKind.i64.wrap (IntKind.i64.wrap (p + 1) - 1)).toNat (dflt K.u8)) * 256) + IntKind.i64.wrap (l.getD (IntKind.i64.wrap (p + 1)).toNat (dflt K.u8)))).tmod n)), [.box [.vec false .u8 l, .int .i64 (IntKind.i64.wrap (IntKind.i64.wrap (p + 1) + 1))]])
                else none
              else none
            else if (n != 0) = true then some (.one (.int .i64 ((IntKind.i64.wrap (l.getD (IntKind.i64.wrap (IntKind.i64.wrap (p + 1) - 1)).toNat (dflt K.u8))).tmod n)), [.box [.vec false .u8 l, .int .i64 (IntKind.i64.wrap (p + 1))]])
              else none
          else if (n != 0) = true then some (.one (.int .i64 ((IntKind.i64.wrap (l.getD (IntKind.i64.wrap (IntKind.i64.wrap (p + 1) - 1)).toNat (dflt K.u8))).tmod n)), [.box [.vec false .u8 l, .int .i64 (IntKind.i64.wrap (p + 1))]])
            else none
        else none := by kernel_rfl
def s46 : Spec := ⟨false, fun av ob => match av, ob with
  | [.one (.ptr 0 0), .one (.int .i64 n)], [.box [.vec false .u8 l, .int .i64 p]] => .need (cok l p) (.ret (.one (.int .i64 (nextV l p n)), [.box [.vec false .u8 l, .int .i64 (nextP l p n)]]))
  | _, _ => .fail⟩
theorem v46 (l : List Int) (p n : Int) (h : cok l p = true) : h46 1 l p n = some (.one (.int .i64 (nextV l p n)), [.box [.vec false .u8 l, .int .i64 (nextP l p n)]]) := by
  rw [h46_eq]
  rw [cok_iff] at h
  obtain ⟨h1, h2, h3, h4⟩ := h
  have g := getD_in h4
  have e1 : IntKind.i64.wrap (p + 1) = p + 1 := wid (by omega) (by omega)
  have e2 : IntKind.i64.wrap (p + 1 - 1) = p := by rw [wid (by omega) (by omega)]; omega
  have e3 : IntKind.i64.wrap (p + 1 + 1) = p + 2 := by rw [wid (by omega) (by omega)]; omega
  have gd : ∀ i : Nat, l.getD i (dflt K.u8) = l.getD i 0 := fun _ => rfl
  have g0 := g p.toNat
  have g1 := g (p + 1).toNat
  have e4 : IntKind.i64.wrap (l.getD p.toNat 0) = l.getD p.toNat 0 := wid (by omega) (by omega)
  have e5 : IntKind.i64.wrap (l.getD (p + 1).toNat 0) = l.getD (p + 1).toNat 0 := wid (by omega) (by omega)
  have e6 : IntKind.i64.wrap (l.getD p.toNat 0 * 256) = l.getD p.toNat 0 * 256 := wid (by omega) (by omega)
  have e7 : IntKind.i64.wrap (l.getD p.toNat 0 * 256 + l.getD (p + 1).toNat 0) = l.getD p.toNat 0 * 256 + l.getD (p + 1).toNat 0 := wid (by omega) (by omega)
  have el : ((AnyL.of false K.u8 l).len : Int) = (l.length : Int) := rfl
  simp only [gd, e1, e2, e3, e4, e5, e6, e7, el, decide_eq_true_eq, idx, Bool.and_eq_true]
  unfold nextV nextP
  by_cases c1 : n < 1
  · simp only [c1, if_true]
  · by_cases c2 : p ≥ l.length
    · simp only [c1, c2, if_true, if_false]
    · have c3 : n ≠ 0 := by omega
      have c4 : (n != 0) = true := by simpa using c3
      by_cases c5 : n > 256
      · by_cases c6 : p + 1 < l.length
        · simp only [c1, c2, c4, c5, c6, if_true, if_false, and_self]
          have c7 : 0 ≤ p ∧ p < l.length := by omega
          have c8 : 0 ≤ p + 1 ∧ p + 1 < l.length := by omega
          simp only [c7, c8, and_self, if_true]
        · simp only [c1, c2, c4, c5, c6, if_true, if_false, and_false]
          rw [if_pos (by omega)]
      · simp only [c1, c2, c4, c5, if_true, if_false, false_and]
        rw [if_pos (by omega)]
theorem p46 : SpecOK Try.prog 46 s46 := by
  refine specOK_of (env_ok (l := l46) trivial) mixed_ok Try.func46 k46 fun av ob r os h => ?_
  simp only [s46] at h
  split at h
  · rename_i n l p
    obtain ⟨hg, h⟩ := need_den h
    cases h
    have hv := v46 l p n hg
    unfold h46 at hv
    exact ⟨1, hv⟩
  · cases h
theorem f46 : FnOK Try.prog 46 := fnOK_of Try.func46 rfl (by kernel_rfl)
end Go.Proofs.Ytipfipnhgpbceaa.Sx
