/- What the program's small functions do, continued (plain theorems). -/
import Derived.Test.YtipfipnhgpbceaaFa
set_option linter.unusedVariables false
set_option linter.unusedSimpArgs false
set_option maxRecDepth 100000
namespace Go.Proofs.Ytipfipnhgpbceaa.Sx
open Go Go.RowKit
def l55 : List (FuncId × Spec) := [(46, s46)]
def k55 : Code → Keep := keepOf []
noncomputable def h55 (fl : Nat) (l : List Int) (p n : Int) : Option (AV × List Ob) := (evalF (env l55) Try.f55 k55 fl [.one (.ptr 0 0), .one (.int .i64 n)] [.box [.vec false .u8 l, .int .i64 p]]).den
theorem h55_eq (fl : Nat) (l : List Int) (p n : Int) : h55 (fl + 1) l p n =
    if (cok l p) = true then some (.one (.bool (nextV l p n == IntKind.i64.wrap (n - 1))), [.box [.vec false .u8 l, .int .i64 (nextP l p n)]])
    else none := by kernel_rfl
def s55 : Spec := ⟨false, fun av ob => match av, ob with
  | [.one (.ptr 0 0), .one (.int .i64 n)], [.box [.vec false .u8 l, .int .i64 p]] => .need (cok l p) (.ret (.one (.bool (nextV l p n == wr64 (n - 1))), [.box [.vec false .u8 l, .int .i64 (nextP l p n)]]))
  | _, _ => .fail⟩
theorem v55 (l : List Int) (p n : Int) (h : cok l p = true) : h55 1 l p n = some (.one (.bool (nextV l p n == wr64 (n - 1))), [.box [.vec false .u8 l, .int .i64 (nextP l p n)]]) := by
  rw [h55_eq, if_pos h]
theorem p55 : SpecOK Try.prog 55 s55 := by
  refine specOK_of (env_ok (l := l55) ⟨⟨p46, f46⟩, trivial⟩) mixed_ok Try.func55 k55 fun av ob r os h => ?_
  simp only [s55] at h
  split at h
  · rename_i n l p
    obtain ⟨hg, h⟩ := need_den h
    cases h
    have hv := v55 l p n hg
    unfold h55 at hv
    exact ⟨1, hv⟩
  · cases h
theorem f55 : FnOK Try.prog 55 := fnOK_of Try.func55 rfl (by kernel_rfl)
def l32 : List (FuncId × Spec) := [(46, s46)]
def k32 : Code → Keep := keepOf []
noncomputable def h32 (fl : Nat) (l : List Int) (p lo hi : Int) : Option (AV × List Ob) := (evalF (env l32) Try.f32 k32 fl [.one (.ptr 0 0), .one (.int .i64 lo), .one (.int .i64 hi)] [.box [.vec false .u8 l, .int .i64 p]]).den
theorem h32_eq (fl : Nat) (l : List Int) (p lo hi : Int) : h32 (fl + 1) l p lo hi =
    if (cok l p) = true then some (.one (.int .i64 (IntKind.i64.wrap (lo + nextV l p (IntKind.i64.wrap (IntKind.i64.wrap (hi - lo) + 1))))), [.box [.vec false .u8 l, .int .i64 (nextP l p (IntKind.i64.wrap (IntKind.i64.wrap (hi - lo) + 1)))]])
    else none := by kernel_rfl
def rangeN (lo hi : Int) : Int := wr64 (wr64 (hi - lo) + 1)
def s32 : Spec := ⟨false, fun av ob => match av, ob with
  | [.one (.ptr 0 0), .one (.int .i64 lo), .one (.int .i64 hi)], [.box [.vec false .u8 l, .int .i64 p]] => .need (cok l p) (.ret (.one (.int .i64 (wr64 (lo + nextV l p (rangeN lo hi)))), [.box [.vec false .u8 l, .int .i64 (nextP l p (rangeN lo hi))]]))
  | _, _ => .fail⟩
theorem v32 (l : List Int) (p lo hi : Int) (h : cok l p = true) : h32 1 l p lo hi = some (.one (.int .i64 (wr64 (lo + nextV l p (rangeN lo hi)))), [.box [.vec false .u8 l, .int .i64 (nextP l p (rangeN lo hi))]]) := by
  rw [h32_eq, if_pos h]; rfl
theorem p32 : SpecOK Try.prog 32 s32 := by
  refine specOK_of (env_ok (l := l32) ⟨⟨p46, f46⟩, trivial⟩) mixed_ok Try.func32 k32 fun av ob r os h => ?_
  simp only [s32] at h
  split at h
  · rename_i lo hi l p
    obtain ⟨hg, h⟩ := need_den h
    cases h
    have hv := v32 l p lo hi hg
    unfold h32 at hv
    exact ⟨1, hv⟩
  · cases h
theorem f32 : FnOK Try.prog 32 := fnOK_of Try.func32 rfl (by kernel_rfl)
def l35 : List (FuncId × Spec) := []
def k35 : Code → Keep := keepOf []
noncomputable def h35 (fl : Nat)  : Option (AV × List Ob) := (evalF (env l35) Try.f35 k35 fl [] []).den
theorem h35_eq (fl : Nat)  : h35 (fl + 1)  =
    some (.agg [.int .i64 (-1125899906842624), .int .i64 1125899906842624], []) := by kernel_rfl
def s35 : Spec := ⟨false, fun av ob => match av, ob with
  | [], [] => .ret (.agg [.int .i64 (-1125899906842624), .int .i64 1125899906842624], [])
  | _, _ => .fail⟩
theorem p35 : SpecOK Try.prog 35 s35 := by
  refine specOK_of (env_ok (l := l35) trivial) mixed_ok Try.func35 k35 fun av ob r os h => ?_
  simp only [s35] at h
  split at h
  · skip
    cases h
    have hv := h35_eq 0
    unfold h35 at hv
    exact ⟨1, hv⟩
  · cases h
theorem f35 : FnOK Try.prog 35 := fnOK_of Try.func35 rfl (by kernel_rfl)
def l54 : List (FuncId × Spec) := []
def k54 : Code → Keep := keepOf []
noncomputable def h54 (fl : Nat)  : Option (AV × List Ob) := (evalF (env l54) Try.f54 k54 fl [] []).den
theorem h54_eq (fl : Nat)  : h54 (fl + 1)  =
    some (.agg [.int .i64 (-1125899906842624), .int .i64 1125899906842624], []) := by kernel_rfl
def s54 : Spec := ⟨false, fun av ob => match av, ob with
  | [], [] => .ret (.agg [.int .i64 (-1125899906842624), .int .i64 1125899906842624], [])
  | _, _ => .fail⟩
theorem p54 : SpecOK Try.prog 54 s54 := by
  refine specOK_of (env_ok (l := l54) trivial) mixed_ok Try.func54 k54 fun av ob r os h => ?_
  simp only [s54] at h
  split at h
  · skip
    cases h
    have hv := h54_eq 0
    unfold h54 at hv
    exact ⟨1, hv⟩
  · cases h
theorem f54 : FnOK Try.prog 54 := fnOK_of Try.func54 rfl (by kernel_rfl)
def l84 : List (FuncId × Spec) := []
def k84 : Code → Keep := keepOf []
noncomputable def h84 (fl : Nat) (k : Int) : Option (AV × List Ob) := (evalF (env l84) Try.f84 k84 fl [.one (.int .i64 k)] []).den
theorem h84_eq (fl : Nat) (k : Int) : h84 (fl + 1) k =
    some (.one (.bool (decide (k ≥ 4))), []) := by kernel_rfl
def s84 : Spec := ⟨false, fun av ob => match av, ob with
  | [.one (.int .i64 k)], [] => .ret (.one (.bool (decide (k ≥ 4))), [])
  | _, _ => .fail⟩
theorem p84 : SpecOK Try.prog 84 s84 := by
  refine specOK_of (env_ok (l := l84) trivial) mixed_ok Try.func84 k84 fun av ob r os h => ?_
  simp only [s84] at h
  split at h
  · rename_i k
    cases h
    have hv := h84_eq 0 k
    unfold h84 at hv
    exact ⟨1, hv⟩
  · cases h
theorem f84 : FnOK Try.prog 84 := fnOK_of Try.func84 rfl (by kernel_rfl)
def l86 : List (FuncId × Spec) := []
def k86 : Code → Keep := keepOf []
noncomputable def h86 (fl : Nat) (k : Int) : Option (AV × List Ob) := (evalF (env l86) Try.f86 k86 fl [.one (.int .i64 k)] []).den
theorem h86_eq (fl : Nat) (k : Int) : h86 (fl + 1) k =
    if (k == 1) = true then some (.one (.bool true), [])
    else some (.one (.bool (k == 2)), []) := by kernel_rfl
def s86 : Spec := ⟨false, fun av ob => match av, ob with
  | [.one (.int .i64 k)], [] => .ret (.one (.bool (k == 1 || k == 2)), [])
  | _, _ => .fail⟩
theorem v86 (k : Int) : h86 1 k = some (.one (.bool (k == 1 || k == 2)), []) := by
  rw [h86_eq]; cases h : k == 1 <;> rfl
theorem p86 : SpecOK Try.prog 86 s86 := by
  refine specOK_of (env_ok (l := l86) trivial) mixed_ok Try.func86 k86 fun av ob r os h => ?_
  simp only [s86] at h
  split at h
  · rename_i k
    cases h
    have hv := v86 k
    unfold h86 at hv
    exact ⟨1, hv⟩
  · cases h
theorem f86 : FnOK Try.prog 86 := fnOK_of Try.func86 rfl (by kernel_rfl)
def l87 : List (FuncId × Spec) := []
def k87 : Code → Keep := keepOf []
noncomputable def h87 (fl : Nat) (k : Int) : Option (AV × List Ob) := (evalF (env l87) Try.f87 k87 fl [.one (.int .i64 k)] []).den
theorem h87_eq (fl : Nat) (k : Int) : h87 (fl + 1) k =
    if (k == 4) = true then some (.one (.bool true), [])
    else if (k == 5) = true then some (.one (.bool true), [])
      else some (.one (.bool (k == 6)), []) := by kernel_rfl
def s87 : Spec := ⟨false, fun av ob => match av, ob with
  | [.one (.int .i64 k)], [] => .ret (.one (.bool (k == 4 || (k == 5 || k == 6))), [])
  | _, _ => .fail⟩
theorem v87 (k : Int) : h87 1 k = some (.one (.bool (k == 4 || (k == 5 || k == 6))), []) := by
  rw [h87_eq]; cases h : k == 4 <;> cases h2 : k == 5 <;> rfl
theorem p87 : SpecOK Try.prog 87 s87 := by
  refine specOK_of (env_ok (l := l87) trivial) mixed_ok Try.func87 k87 fun av ob r os h => ?_
  simp only [s87] at h
  split at h
  · rename_i k
    cases h
    have hv := v87 k
    unfold h87 at hv
    exact ⟨1, hv⟩
  · cases h
theorem f87 : FnOK Try.prog 87 := fnOK_of Try.func87 rfl (by kernel_rfl)
def l53 : List (FuncId × Spec) := []
def k53 : Code → Keep := keepOf []
noncomputable def h53 (fl : Nat) (a b : Int) : Option (AV × List Ob) := (evalF (env l53) Try.f53 k53 fl [.one (.int .i64 a), .one (.int .i64 b)] []).den
theorem h53_eq (fl : Nat) (a b : Int) : h53 (fl + 1) a b =
    if (b != 0) = true then if (b != 0) = true then if (decide (a.tmod b < 0)) = true then some (.one (.int .i64 (IntKind.i64.wrap (IntKind.i64.wrap (a.tdiv b) - 1))), [])
        else some (.one (.int .i64 (IntKind.i64.wrap (a.tdiv b))), [])
      else none
    else none := by kernel_rfl
def flo (a b : Int) : Int := if a.tmod b < 0 then wr64 (wr64 (a.tdiv b) - 1) else wr64 (a.tdiv b)
def s53 : Spec := ⟨false, fun av ob => match av, ob with
  | [.one (.int .i64 a), .one (.int .i64 b)], [] => .need (b != 0) (.ret (.one (.int .i64 (flo a b)), []))
  | _, _ => .fail⟩
theorem v53 (a b : Int) (h : (b != 0) = true) : h53 1 a b = some (.one (.int .i64 (flo a b)), []) := by
  rw [h53_eq, if_pos h, if_pos h]; unfold flo
  by_cases c : a.tmod b < 0 <;> simp [c, wr64]
theorem p53 : SpecOK Try.prog 53 s53 := by
  refine specOK_of (env_ok (l := l53) trivial) mixed_ok Try.func53 k53 fun av ob r os h => ?_
  simp only [s53] at h
  split at h
  · rename_i a b
    obtain ⟨hg, h⟩ := need_den h
    cases h
    have hv := v53 a b hg
    unfold h53 at hv
    exact ⟨1, hv⟩
  · cases h
theorem f53 : FnOK Try.prog 53 := fnOK_of Try.func53 rfl (by kernel_rfl)
def l89 : List (FuncId × Spec) := []
def k89 : Code → Keep := keepOf []
noncomputable def h89 (fl : Nat) (n lo hi : Int) : Option (AV × List Ob) := (evalF (env l89) Try.f89 k89 fl [.one (.int .i64 n), .one (.int .i64 lo), .one (.int .i64 hi)] []).den
theorem h89_eq (fl : Nat) (n lo hi : Int) : h89 (fl + 1) n lo hi =
    if (decide (lo ≤ n)) = true then some (.one (.bool (decide (n ≤ hi))), [])
    else some (.one (.bool false), []) := by kernel_rfl
def s89 : Spec := ⟨false, fun av ob => match av, ob with
  | [.one (.int .i64 n), .one (.int .i64 lo), .one (.int .i64 hi)], [] => .ret (.one (.bool (decide (lo ≤ n) && decide (n ≤ hi))), [])
  | _, _ => .fail⟩
theorem v89 (n lo hi : Int) : h89 1 n lo hi = some (.one (.bool (decide (lo ≤ n) && decide (n ≤ hi))), []) := by
  rw [h89_eq]; cases h : decide (lo ≤ n) <;> rfl
theorem p89 : SpecOK Try.prog 89 s89 := by
  refine specOK_of (env_ok (l := l89) trivial) mixed_ok Try.func89 k89 fun av ob r os h => ?_
  simp only [s89] at h
  split at h
  · rename_i n lo hi
    cases h
    have hv := v89 n lo hi
    unfold h89 at hv
    exact ⟨1, hv⟩
  · cases h
theorem f89 : FnOK Try.prog 89 := fnOK_of Try.func89 rfl (by kernel_rfl)
def l88 : List (FuncId × Spec) := []
def k88 : Code → Keep := keepOf [(2, ⟨[0, 1, 9, 10, 11], [], []⟩)]
noncomputable def h88_0 (fl : Nat) (t0 : Int) (t1 : Int) (t9 : List Int) (t10 : Int) (t11 : Int) : Option (AV × List Ob) := (evalH (env l88) Try.f88 k88 0 fl (stkF Try.f88 [1, 0, 1, 0]) ⟨[.one (.int .i64 t0), .one (.int .i64 t1), .one (.undef), .one (.undef), .one (.undef), .one (.undef), .one (.undef), .one (.undef), .one (.undef), .one (.vec true .int t9), .one (.int .i64 t10), .one (.int .i64 t11), .one (.undef), .one (.undef), .one (.undef), .one (.undef), .one (.undef), .one (.undef), .one (.undef), .one (.undef), .one (.undef), .one (.undef), .one (.undef), .one (.undef)], [], 0⟩).den
noncomputable def h88 (fl : Nat) (lo hi : Int) (l : List Int) : Option (AV × List Ob) := (evalF (env l88) Try.f88 k88 fl [.one (.int .i64 lo), .one (.int .i64 hi), .one (.vec true .int l)] []).den
theorem h88_eq (fl : Nat) (lo hi : Int) (l : List Int) : h88 (fl + 1) lo hi l =
    h88_0 fl lo hi l (↑(AnyL.of true K.int l).len) 0 := by kernel_rfl
theorem h88_0_eq (fl : Nat) (t0 : Int) (t1 : Int) (t9 : List Int) (t10 : Int) (t11 : Int) : h88_0 (fl + 1) t0 t1 t9 t10 t11 =
    if (decide (t11 < t10)) = true then if (idx t9.length t11) = true then if (decide (t9.getD t11.toNat (dflt K.int) < t0)) = true then some (.one (.bool false), [])
        else if (decide (t9.getD t11.toNat (dflt K.int) > t1)) = true then some (.one (.bool false), [])
          else h88_0 fl t0 t1 t9 t10 (IntKind.i64.wrap (t11 + 1))
      else none
    else some (.one (.bool true), []) := by kernel_rfl
def inAll (lo hi : Int) (l : List Int) : Bool := l.all fun n => decide (lo ≤ n) && decide (n ≤ hi)
def s88 : Spec := ⟨false, fun av ob => match av, ob with
  | [.one (.int .i64 lo), .one (.int .i64 hi), .one (.vec true .int l)], [] => .need (decide (l.length ≤ 1000000)) (.ret (.one (.bool (inAll lo hi l)), []))
  | _, _ => .fail⟩
theorem v88_0 (lo hi : Int) (l : List Int) (hl : l.length ≤ 1000000) : ∀ (fl : Nat) (i : Nat), l.length < fl + i → i ≤ l.length → h88_0 fl lo hi l l.length i = some (.one (.bool (inAll lo hi (l.drop i))), [])
  | 0, i, h, hi' => by omega
  | fl + 1, i, h, hi' => by
    rw [h88_0_eq]
    by_cases hlt : i < l.length
    · have e1 : decide ((i : Int) < (l.length : Int)) = true := by simpa using hlt
      have e2 : idx l.length (i : Int) = true := by simp [idx]; omega
      have e3 : IntKind.i64.wrap ((i : Int) + 1) = ((i + 1 : Nat) : Int) := by rw [wid (by omega) (by omega)]; rfl
      have e4 : l.getD (i : Int).toNat (dflt K.int) = l[i] := by
        rw [Int.toNat_natCast, List.getD_eq_getElem?_getD, List.getElem?_eq_getElem hlt]; rfl
      have e5 : l.drop i = l[i] :: l.drop (i + 1) := List.drop_eq_getElem_cons hlt
      rw [if_pos e1, if_pos e2, e3, e4, e5, v88_0 lo hi l hl fl (i + 1) (by omega) (by omega)]
      unfold inAll
      rw [List.all_cons]
      by_cases c1 : l[i] < lo
      · have : decide (lo ≤ l[i]) = false := by simp; omega
        simp [c1, this]
      · have t1 : decide (lo ≤ l[i]) = true := by simp; omega
        by_cases c2 : l[i] > hi
        · have : decide (l[i] ≤ hi) = false := by simp; omega
          simp [c1, c2, t1, this]
        · have t2 : decide (l[i] ≤ hi) = true := by simp; omega
          simp [c1, c2, t1, t2]
    · have e1 : ¬ decide ((i : Int) < (l.length : Int)) = true := by simpa using hlt
      rw [if_neg e1, List.drop_eq_nil_of_le (by omega)]
      rfl
theorem v88 (lo hi : Int) (l : List Int) (h : decide (l.length ≤ 1000000) = true) : h88 (l.length + 2) lo hi l = some (.one (.bool (inAll lo hi l)), []) := by
  rw [h88_eq]
  exact v88_0 lo hi l (of_decide_eq_true h) (l.length + 1) 0 (by omega) (by omega)
theorem p88 : SpecOK Try.prog 88 s88 := by
  refine specOK_of (env_ok (l := l88) trivial) mixed_ok Try.func88 k88 fun av ob r os h => ?_
  simp only [s88] at h
  split at h
  · rename_i lo hi l
    obtain ⟨hg, h⟩ := need_den h
    cases h
    have hv := v88 lo hi l hg
    unfold h88 at hv
    exact ⟨l.length + 2, hv⟩
  · cases h
theorem f88 : FnOK Try.prog 88 := fnOK_of Try.func88 rfl (by kernel_rfl)
end Go.Proofs.Ytipfipnhgpbceaa.Sx
