/- The meeting and the hull of spans (plain theorems). -/
import Derived.Test.YtipfipnhgpbceaaFe
set_option linter.unusedVariables false
set_option linter.unusedSimpArgs false
set_option maxRecDepth 100000
namespace Go.Proofs.Ytipfipnhgpbceaa.Sx
open Go Go.RowKit
/-! ### An element at an index -/
theorem at_lt {α : Type} {l : List α} {i : Nat} (h : i < l.length) (d : α) : l.getD (i : Int).toNat d = l[i] := by
  rw [Int.toNat_natCast, List.getD_eq_getElem?_getD, List.getElem?_eq_getElem h]; rfl
theorem idx_nat {n i : Nat} (h : i < n) : idx n (i : Int) = true := by simp [idx]; omega
theorem wr_succ {i : Nat} (h : i ≤ 2000000) : IntKind.i64.wrap ((i : Int) + 1) = ((i + 1 : Nat) : Int) := by rw [wid (by omega) (by omega)]; rfl
theorem lt_nat {i n : Nat} (h : i < n) : decide ((i : Int) < (n : Int)) = true := by simpa using h
theorem nlt_nat {i n : Nat} (h : ¬ i < n) : ¬ decide ((i : Int) < (n : Int)) = true := by simpa using h

def meet1 (o x : Span) : Span := ⟨mx o.lo x.lo, mn o.hi x.hi⟩
def meetEnd (o : Span) : Span × Bool := if o.lo > o.hi then (nothing, false) else (o, true)
def meetI (l : List Span) : Span × Bool := match l with
  | [] => (nothing, true)
  | x :: r => meetEnd ((x :: r).foldl meet1 x)
def meetR (l : List Span) : Span × Bool := match l with
  | [] => (nothing, true)
  | x :: r => meetEnd (r.foldl meet1 x)
def l56 : List (FuncId × Spec) := [(54, s54)]
def k56 : Code → Keep := keepOf [(5, ⟨[2, 4, 14, 15, 16], [], []⟩)]
noncomputable def h56_0 (fl : Nat) (t14b : Bool) (t14 : List Span) (t15 : Int) (t16 : Int) (m0_0 : Int) (m0_1 : Int) (m1_0 : Int) (m1_1 : Int) : Option (AV × List Ob) := (evalH (env l56) Try.f56 k56 0 fl (stkF Try.f56 [1, 1, 1, 0, 1, 0]) ⟨[.one (.undef), .one (.undef), .one (.ptr 0 0), .one (.undef), .one (.ptr 1 0), .one (.undef), .one (.undef), .one (.undef), .one (.undef), .one (.undef), .one (.undef), .one (.undef), .one (.undef), .one (.undef), .one (.vec t14b .span t14), .one (.int .i64 t15), .one (.int .i64 t16), .one (.undef), .one (.undef), .one (.undef), .one (.undef), .one (.undef), .one (.undef), .one (.undef), .one (.undef), .one (.undef), .one (.undef), .one (.undef), .one (.undef), .one (.undef), .one (.undef), .one (.undef), .one (.undef), .one (.undef), .one (.undef), .one (.undef), .one (.undef), .one (.undef), .one (.undef), .one (.undef)], [((0, 0), some (.cell (.int .i64 m0_0))), ((0, 1), some (.cell (.int .i64 m0_1))), ((1, 0), some (.cell (.int .i64 m1_0))), ((1, 1), some (.cell (.int .i64 m1_1)))], 2⟩).den
noncomputable def h56 (fl : Nat) (bo : Bool) (l : List Span) : Option (AV × List Ob) := (evalF (env l56) Try.f56 k56 fl [.one (.vec bo .span l)] []).den
theorem h56_eq (fl : Nat) (bo : Bool) (l : List Span) : h56 (fl + 1) bo l =
    if ((↑l.length : Int) == 0) = true then some (.tup [(true, [.int .i64 (-1125899906842624), .int .i64 1125899906842624]), (false, [.bool true])], [])
    else if (idx l.length 0) = true then h56_0 fl bo l ((↑l.length : Int)) 0 0 0 ((l.getD (Int.toNat 0) (dflt K.span)).lo) ((l.getD (Int.toNat 0) (dflt K.span)).hi)
      else none := by kernel_rfl
theorem h56_0_eq (fl : Nat) (t14b : Bool) (t14 : List Span) (t15 : Int) (t16 : Int) (m0_0 : Int) (m0_1 : Int) (m1_0 : Int) (m1_1 : Int) : h56_0 (fl + 1) t14b t14 t15 t16 m0_0 m0_1 m1_0 m1_1 =
    if (decide (t16 < t15)) = true then if (idx t14.length t16) = true then h56_0 fl t14b t14 t15 (IntKind.i64.wrap (t16 + 1)) m0_0 m0_1 (mx m1_0 (t14.getD t16.toNat (dflt K.span)).lo) (mn m1_1 (t14.getD t16.toNat (dflt K.span)).hi)
      else none
    else if (decide (m1_0 > m1_1)) = true then some (.tup [(true, [.int .i64 (-1125899906842624), .int .i64 1125899906842624]), (false, [.bool false])], [])
      else some (.tup [(true, [.int .i64 m1_0, .int .i64 m1_1]), (false, [.bool true])], []) := by kernel_rfl
def s56 : Spec := ⟨false, fun av ob => match av, ob with
  | [.one (.vec bo .span l)], [] => .need (decide (l.length ≤ 1000000)) (.ret (.tup [(true, [.int .i64 (meetI l).1.lo, .int .i64 (meetI l).1.hi]), (false, [.bool (meetI l).2])], []))
  | _, _ => .fail⟩
theorem v56_0 (bo : Bool) (l : List Span) (hl : l.length ≤ 1000000) (z0 z1 : Int) : ∀ (fl : Nat) (i : Nat) (o : Span), l.length < fl + i → i ≤ l.length →
    h56_0 fl bo l l.length i z0 z1 o.lo o.hi = some (.tup [(true, [.int .i64 (meetEnd ((l.drop i).foldl meet1 o)).1.lo, .int .i64 (meetEnd ((l.drop i).foldl meet1 o)).1.hi]), (false, [.bool (meetEnd ((l.drop i).foldl meet1 o)).2])], [])
  | 0, i, o, h, hi' => by omega
  | fl + 1, i, o, h, hi' => by
    rw [h56_0_eq]
    by_cases hlt : i < l.length
    · rw [if_pos (lt_nat hlt), if_pos (idx_nat hlt), wr_succ (by omega), at_lt hlt, List.drop_eq_getElem_cons hlt, List.foldl_cons]
      exact v56_0 bo l hl z0 z1 fl (i + 1) (meet1 o l[i]) (by omega) (by omega)
    · rw [if_neg (nlt_nat hlt), List.drop_eq_nil_of_le (by omega), List.foldl_nil]
      unfold meetEnd
      by_cases hc : o.lo > o.hi <;> simp [hc, nothing]
theorem v56 (bo : Bool) (l : List Span) (hg : decide (l.length ≤ 1000000) = true) : h56 (l.length + 2) bo l = some (.tup [(true, [.int .i64 (meetI l).1.lo, .int .i64 (meetI l).1.hi]), (false, [.bool (meetI l).2])], []) := by
  rw [h56_eq]
  cases l with
  | nil => rfl
  | cons x r =>
    have h1 : ¬ (((x :: r).length : Int) == 0) = true := by simp; omega
    have h2 : idx (x :: r).length 0 = true := by simp [idx]
    rw [if_neg h1, if_pos h2]
    exact v56_0 bo (x :: r) (of_decide_eq_true hg) 0 0 ((x :: r).length + 1) 0 x (by omega) (by omega)
theorem p56 : SpecOK Try.prog 56 s56 := by
  refine specOK_of (env_ok (l := l56) ⟨⟨p54, f54⟩, trivial⟩) mixed_ok Try.func56 k56 fun av ob r os hrn => ?_
  simp only [s56] at hrn
  split at hrn
  · rename_i bo l
    obtain ⟨hg, hrn⟩ := need_den hrn
    cases hrn
    have hv := v56 bo l hg
    unfold h56 at hv
    exact ⟨l.length + 2, hv⟩
  · cases hrn
theorem f56 : FnOK Try.prog 56 := fnOK_of Try.func56 rfl (by kernel_rfl)
def l57 : List (FuncId × Spec) := [(35, s35)]
def k57 : Code → Keep := keepOf [(5, ⟨[0, 2, 4, 5], [], []⟩)]
noncomputable def h57_0 (fl : Nat) (t0b : Bool) (t0 : List Span) (t5 : Int) (m0_0 : Int) (m0_1 : Int) (m1_0 : Int) (m1_1 : Int) : Option (AV × List Ob) := (evalH (env l57) Try.f57 k57 0 fl (stkF Try.f57 [1, 1, 1, 0, 1, 0]) ⟨[.one (.vec t0b .span t0), .one (.undef), .one (.ptr 0 0), .one (.undef), .one (.ptr 1 0), .one (.int .i64 t5), .one (.undef), .one (.undef), .one (.undef), .one (.undef), .one (.undef), .one (.undef), .one (.undef), .one (.undef), .one (.undef), .one (.undef), .one (.undef), .one (.undef), .one (.undef), .one (.undef), .one (.undef), .one (.undef), .one (.undef), .one (.undef), .one (.undef), .one (.undef), .one (.undef), .one (.undef), .one (.undef), .one (.undef), .one (.undef), .one (.undef), .one (.undef), .one (.undef), .one (.undef), .one (.undef), .one (.undef), .one (.undef), .one (.undef), .one (.undef), .one (.undef), .one (.undef), .one (.undef), .one (.undef)], [((0, 0), some (.cell (.int .i64 m0_0))), ((0, 1), some (.cell (.int .i64 m0_1))), ((1, 0), some (.cell (.int .i64 m1_0))), ((1, 1), some (.cell (.int .i64 m1_1)))], 2⟩).den
noncomputable def h57 (fl : Nat) (bo : Bool) (l : List Span) : Option (AV × List Ob) := (evalF (env l57) Try.f57 k57 fl [.one (.vec bo .span l)] []).den
theorem h57_eq (fl : Nat) (bo : Bool) (l : List Span) : h57 (fl + 1) bo l =
    if ((↑l.length : Int) == 0) = true then some (.tup [(true, [.int .i64 (-1125899906842624), .int .i64 1125899906842624]), (false, [.bool true])], [])
    else if (idx l.length 0) = true then h57_0 fl bo l 1 0 0 ((l.getD (Int.toNat 0) (dflt K.span)).lo) ((l.getD (Int.toNat 0) (dflt K.span)).hi)
      else none := by kernel_rfl
theorem h57_0_eq (fl : Nat) (t0b : Bool) (t0 : List Span) (t5 : Int) (m0_0 : Int) (m0_1 : Int) (m1_0 : Int) (m1_1 : Int) : h57_0 (fl + 1) t0b t0 t5 m0_0 m0_1 m1_0 m1_1 =
    if (decide (t5 < (↑t0.length : Int))) = true then if (idx t0.length t5) = true then if (idx t0.length t5) = true then h57_0 fl t0b t0 (IntKind.i64.wrap (t5 + 1)) m0_0 m0_1 (mx m1_0 (t0.getD t5.toNat (dflt K.span)).lo) (mn m1_1 (t0.getD t5.toNat (dflt K.span)).hi)
        else none
      else none
    else if (decide (m1_0 > m1_1)) = true then some (.tup [(true, [.int .i64 (-1125899906842624), .int .i64 1125899906842624]), (false, [.bool false])], [])
      else some (.tup [(true, [.int .i64 m1_0, .int .i64 m1_1]), (false, [.bool true])], []) := by kernel_rfl
def s57 : Spec := ⟨false, fun av ob => match av, ob with
  | [.one (.vec bo .span l)], [] => .need (decide (l.length ≤ 1000000)) (.ret (.tup [(true, [.int .i64 (meetR l).1.lo, .int .i64 (meetR l).1.hi]), (false, [.bool (meetR l).2])], []))
  | _, _ => .fail⟩
theorem v57_0 (bo : Bool) (l : List Span) (hl : l.length ≤ 1000000) (z0 z1 : Int) : ∀ (fl : Nat) (i : Nat) (o : Span), l.length < fl + i → i ≤ l.length →
    h57_0 fl bo l i z0 z1 o.lo o.hi = some (.tup [(true, [.int .i64 (meetEnd ((l.drop i).foldl meet1 o)).1.lo, .int .i64 (meetEnd ((l.drop i).foldl meet1 o)).1.hi]), (false, [.bool (meetEnd ((l.drop i).foldl meet1 o)).2])], [])
  | 0, i, o, h, hi' => by omega
  | fl + 1, i, o, h, hi' => by
    rw [h57_0_eq]
    by_cases hlt : i < l.length
    · rw [if_pos (lt_nat hlt), if_pos (idx_nat hlt), if_pos (idx_nat hlt), wr_succ (by omega), at_lt hlt, List.drop_eq_getElem_cons hlt, List.foldl_cons]
      exact v57_0 bo l hl z0 z1 fl (i + 1) (meet1 o l[i]) (by omega) (by omega)
    · rw [if_neg (nlt_nat hlt), List.drop_eq_nil_of_le (by omega), List.foldl_nil]
      unfold meetEnd
      by_cases hc : o.lo > o.hi <;> simp [hc, nothing]
theorem v57 (bo : Bool) (l : List Span) (hg : decide (l.length ≤ 1000000) = true) : h57 (l.length + 2) bo l = some (.tup [(true, [.int .i64 (meetR l).1.lo, .int .i64 (meetR l).1.hi]), (false, [.bool (meetR l).2])], []) := by
  rw [h57_eq]
  cases l with
  | nil => rfl
  | cons x r =>
    have h1 : ¬ (((x :: r).length : Int) == 0) = true := by simp; omega
    have h2 : idx (x :: r).length 0 = true := by simp [idx]
    rw [if_neg h1, if_pos h2]
    exact v57_0 bo (x :: r) (of_decide_eq_true hg) 0 0 ((x :: r).length + 1) 1 x (by omega) (by simp)
theorem p57 : SpecOK Try.prog 57 s57 := by
  refine specOK_of (env_ok (l := l57) ⟨⟨p35, f35⟩, trivial⟩) mixed_ok Try.func57 k57 fun av ob r os hrn => ?_
  simp only [s57] at hrn
  split at hrn
  · rename_i bo l
    obtain ⟨hg, hrn⟩ := need_den hrn
    cases hrn
    have hv := v57 bo l hg
    unfold h57 at hv
    exact ⟨l.length + 2, hv⟩
  · cases hrn
theorem f57 : FnOK Try.prog 57 := fnOK_of Try.func57 rfl (by kernel_rfl)

/-! ### The hull -/
def hullI1 (a : Bool × Span) (x : Span) : Bool × Span := if x.lo > x.hi then a else if a.1 = false then (true, x) else (a.1, ⟨mn a.2.lo x.lo, mx a.2.hi x.hi⟩)
def hullI (l : List Span) : Span := (l.foldl hullI1 (false, nothing)).2
def hullR1 (a : Bool × Span) (x : Span) : Bool × Span := if x.lo > x.hi then a else if a.1 = false then (true, ⟨mn x.lo x.lo, mx x.hi x.hi⟩) else (a.1, ⟨mn a.2.lo x.lo, mx a.2.hi x.hi⟩)
def hullR (l : List Span) : Span := (l.foldl hullR1 (false, nothing)).2
def l58 : List (FuncId × Spec) := [(54, s54)]
def k58 : Code → Keep := keepOf [(3, ⟨[2, 3, 4, 8, 9, 10], [], []⟩)]
noncomputable def h58_0 (fl : Nat) (t4 : Bool) (t8b : Bool) (t8 : List Span) (t9 : Int) (t10 : Int) (m0_0 : Int) (m0_1 : Int) (m1_0 : Int) (m1_1 : Int) : Option (AV × List Ob) := (evalH (env l58) Try.f58 k58 0 fl (stkF Try.f58 [1, 1, 0, 1, 0]) ⟨[.one (.undef), .one (.undef), .one (.ptr 0 0), .one (.ptr 1 0), .one (.bool t4), .one (.undef), .one (.undef), .one (.undef), .one (.vec t8b .span t8), .one (.int .i64 t9), .one (.int .i64 t10), .one (.undef), .one (.undef), .one (.undef), .one (.undef), .one (.undef), .one (.undef), .one (.undef), .one (.undef), .one (.undef), .one (.undef), .one (.undef), .one (.undef), .one (.undef), .one (.undef), .one (.undef), .one (.undef), .one (.undef), .one (.undef), .one (.undef), .one (.undef), .one (.undef), .one (.undef), .one (.undef), .one (.undef), .one (.undef), .one (.undef), .one (.undef)], [((0, 0), some (.cell (.int .i64 m0_0))), ((0, 1), some (.cell (.int .i64 m0_1))), ((1, 0), some (.cell (.int .i64 m1_0))), ((1, 1), some (.cell (.int .i64 m1_1)))], 2⟩).den
noncomputable def h58 (fl : Nat) (bo : Bool) (l : List Span) : Option (AV × List Ob) := (evalF (env l58) Try.f58 k58 fl [.one (.vec bo .span l)] []).den
theorem h58_eq (fl : Nat) (bo : Bool) (l : List Span) : h58 (fl + 1) bo l =
    h58_0 fl false bo l ((↑l.length : Int)) 0 0 0 (-1125899906842624) 1125899906842624 := by kernel_rfl
theorem h58_0_eq (fl : Nat) (t4 : Bool) (t8b : Bool) (t8 : List Span) (t9 : Int) (t10 : Int) (m0_0 : Int) (m0_1 : Int) (m1_0 : Int) (m1_1 : Int) : h58_0 (fl + 1) t4 t8b t8 t9 t10 m0_0 m0_1 m1_0 m1_1 =
    if (decide (t10 < t9)) = true then if (idx t8.length t10) = true then if (decide ((t8.getD t10.toNat (dflt K.span)).lo > (t8.getD t10.toNat (dflt K.span)).hi)) = true then h58_0 fl t4 t8b t8 t9 (IntKind.i64.wrap (t10 + 1)) m0_0 m0_1 m1_0 m1_1
        else if (!t4) = true then h58_0 fl true t8b t8 t9 (IntKind.i64.wrap (t10 + 1)) m0_0 m0_1 ((t8.getD t10.toNat (dflt K.span)).lo) ((t8.getD t10.toNat (dflt K.span)).hi)
          else h58_0 fl t4 t8b t8 t9 (IntKind.i64.wrap (t10 + 1)) m0_0 m0_1 (mn m1_0 (t8.getD t10.toNat (dflt K.span)).lo) (mx m1_1 (t8.getD t10.toNat (dflt K.span)).hi)
      else none
    else some (.agg [.int .i64 m1_0, .int .i64 m1_1], []) := by kernel_rfl
def s58 : Spec := ⟨false, fun av ob => match av, ob with
  | [.one (.vec bo .span l)], [] => .need (decide (l.length ≤ 1000000)) (.ret (.agg [.int .i64 (hullI l).lo, .int .i64 (hullI l).hi], []))
  | _, _ => .fail⟩
theorem v58_0 (bo : Bool) (l : List Span) (hl : l.length ≤ 1000000) (z0 z1 : Int) : ∀ (fl : Nat) (i : Nat) (a : Bool × Span), l.length < fl + i → i ≤ l.length →
    h58_0 fl a.1 bo l l.length i z0 z1 a.2.lo a.2.hi = some (.agg [.int .i64 ((l.drop i).foldl hullI1 a).2.lo, .int .i64 ((l.drop i).foldl hullI1 a).2.hi], [])
  | 0, i, a, h, hi' => by omega
  | fl + 1, i, a, h, hi' => by
    rw [h58_0_eq]
    by_cases hlt : i < l.length
    · rw [if_pos (lt_nat hlt), if_pos (idx_nat hlt), wr_succ (by omega), at_lt hlt, List.drop_eq_getElem_cons hlt, List.foldl_cons]
      have ih := v58_0 bo l hl z0 z1 fl (i + 1) (hullI1 a l[i]) (by omega) (by omega)
      obtain ⟨b, o⟩ := a
      rw [← ih]
      unfold hullI1
      by_cases c1 : l[i].lo > l[i].hi
      · simp [c1]
      · cases b <;> simp [c1]
    · rw [if_neg (nlt_nat hlt), List.drop_eq_nil_of_le (by omega), List.foldl_nil]
theorem v58 (bo : Bool) (l : List Span) (hg : decide (l.length ≤ 1000000) = true) : h58 (l.length + 2) bo l = some (.agg [.int .i64 (hullI l).lo, .int .i64 (hullI l).hi], []) := by
  rw [h58_eq]
  exact v58_0 bo l (of_decide_eq_true hg) _ _ (l.length + 1) 0 (false, nothing) (by omega) (by omega)
theorem p58 : SpecOK Try.prog 58 s58 := by
  refine specOK_of (env_ok (l := l58) ⟨⟨p54, f54⟩, trivial⟩) mixed_ok Try.func58 k58 fun av ob r os hrn => ?_
  simp only [s58] at hrn
  split at hrn
  · rename_i bo l
    obtain ⟨hg, hrn⟩ := need_den hrn
    cases hrn
    have hv := v58 bo l hg
    unfold h58 at hv
    exact ⟨l.length + 2, hv⟩
  · cases hrn
theorem f58 : FnOK Try.prog 58 := fnOK_of Try.func58 rfl (by kernel_rfl)
def l59 : List (FuncId × Spec) := [(35, s35)]
def k59 : Code → Keep := keepOf [(3, ⟨[0, 2, 3, 4, 5], [], []⟩)]
noncomputable def h59_0 (fl : Nat) (t0b : Bool) (t0 : List Span) (t4 : Bool) (t5 : Int) (m0_0 : Int) (m0_1 : Int) (m1_0 : Int) (m1_1 : Int) : Option (AV × List Ob) := (evalH (env l59) Try.f59 k59 0 fl (stkF Try.f59 [1, 1, 0, 1, 0]) ⟨[.one (.vec t0b .span t0), .one (.undef), .one (.ptr 0 0), .one (.ptr 1 0), .one (.bool t4), .one (.int .i64 t5), .one (.undef), .one (.undef), .one (.undef), .one (.undef), .one (.undef), .one (.undef), .one (.undef), .one (.undef), .one (.undef), .one (.undef), .one (.undef), .one (.undef), .one (.undef), .one (.undef), .one (.undef), .one (.undef), .one (.undef), .one (.undef), .one (.undef), .one (.undef), .one (.undef), .one (.undef), .one (.undef), .one (.undef), .one (.undef), .one (.undef), .one (.undef), .one (.undef), .one (.undef), .one (.undef), .one (.undef), .one (.undef), .one (.undef), .one (.undef), .one (.undef), .one (.undef), .one (.undef), .one (.undef), .one (.undef), .one (.undef), .one (.undef), .one (.undef), .one (.undef)], [((0, 0), some (.cell (.int .i64 m0_0))), ((0, 1), some (.cell (.int .i64 m0_1))), ((1, 0), some (.cell (.int .i64 m1_0))), ((1, 1), some (.cell (.int .i64 m1_1)))], 2⟩).den
noncomputable def h59 (fl : Nat) (bo : Bool) (l : List Span) : Option (AV × List Ob) := (evalF (env l59) Try.f59 k59 fl [.one (.vec bo .span l)] []).den
theorem h59_eq (fl : Nat) (bo : Bool) (l : List Span) : h59 (fl + 1) bo l =
    h59_0 fl bo l false 0 0 0 (-1125899906842624) 1125899906842624 := by kernel_rfl
theorem h59_0_eq (fl : Nat) (t0b : Bool) (t0 : List Span) (t4 : Bool) (t5 : Int) (m0_0 : Int) (m0_1 : Int) (m1_0 : Int) (m1_1 : Int) : h59_0 (fl + 1) t0b t0 t4 t5 m0_0 m0_1 m1_0 m1_1 =
    if (decide (t5 < (↑t0.length : Int))) = true then if (idx t0.length t5) = true then if (idx t0.length t5) = true then if (decide ((t0.getD t5.toNat (dflt K.span)).lo > (t0.getD t5.toNat (dflt K.span)).hi)) = true then h59_0 fl t0b t0 t4 (IntKind.i64.wrap (t5 + 1)) m0_0 m0_1 m1_0 m1_1
          else if (!t4) = true then if (idx t0.length t5) = true then if (idx t0.length t5) = true then if (idx t0.length t5) = true then h59_0 fl t0b t0 true (IntKind.i64.wrap (t5 + 1)) m0_0 m0_1 (mn (t0.getD t5.toNat (dflt K.span)).lo (t0.getD t5.toNat (dflt K.span)).lo) (mx (t0.getD t5.toNat (dflt K.span)).hi (t0.getD t5.toNat (dflt K.span)).hi)
                  else none
                else none
              else none
            else if (idx t0.length t5) = true then if (idx t0.length t5) = true then h59_0 fl t0b t0 t4 (IntKind.i64.wrap (t5 + 1)) m0_0 m0_1 (mn m1_0 (t0.getD t5.toNat (dflt K.span)).lo) (mx m1_1 (t0.getD t5.toNat (dflt K.span)).hi)
                else none
              else none
        else none
      else none
    else some (.agg [.int .i64 m1_0, .int .i64 m1_1], []) := by kernel_rfl
def s59 : Spec := ⟨false, fun av ob => match av, ob with
  | [.one (.vec bo .span l)], [] => .need (decide (l.length ≤ 1000000)) (.ret (.agg [.int .i64 (hullR l).lo, .int .i64 (hullR l).hi], []))
  | _, _ => .fail⟩
theorem v59_0 (bo : Bool) (l : List Span) (hl : l.length ≤ 1000000) (z0 z1 : Int) : ∀ (fl : Nat) (i : Nat) (a : Bool × Span), l.length < fl + i → i ≤ l.length →
    h59_0 fl bo l a.1 i z0 z1 a.2.lo a.2.hi = some (.agg [.int .i64 ((l.drop i).foldl hullR1 a).2.lo, .int .i64 ((l.drop i).foldl hullR1 a).2.hi], [])
  | 0, i, a, h, hi' => by omega
  | fl + 1, i, a, h, hi' => by
    rw [h59_0_eq]
    by_cases hlt : i < l.length
    · rw [if_pos (lt_nat hlt)]
      simp only [if_pos (idx_nat hlt)]
      rw [wr_succ (by omega), at_lt hlt, List.drop_eq_getElem_cons hlt, List.foldl_cons]
      have ih := v59_0 bo l hl z0 z1 fl (i + 1) (hullR1 a l[i]) (by omega) (by omega)
      obtain ⟨b, o⟩ := a
      rw [← ih]
      unfold hullR1
      by_cases c1 : l[i].lo > l[i].hi
      · simp [c1]
      · cases b <;> simp [c1]
    · rw [if_neg (nlt_nat hlt), List.drop_eq_nil_of_le (by omega), List.foldl_nil]
theorem v59 (bo : Bool) (l : List Span) (hg : decide (l.length ≤ 1000000) = true) : h59 (l.length + 2) bo l = some (.agg [.int .i64 (hullR l).lo, .int .i64 (hullR l).hi], []) := by
  rw [h59_eq]
  exact v59_0 bo l (of_decide_eq_true hg) _ _ (l.length + 1) 0 (false, nothing) (by omega) (by omega)
theorem p59 : SpecOK Try.prog 59 s59 := by
  refine specOK_of (env_ok (l := l59) ⟨⟨p35, f35⟩, trivial⟩) mixed_ok Try.func59 k59 fun av ob r os hrn => ?_
  simp only [s59] at hrn
  split at hrn
  · rename_i bo l
    obtain ⟨hg, hrn⟩ := need_den hrn
    cases hrn
    have hv := v59 bo l hg
    unfold h59 at hv
    exact ⟨l.length + 2, hv⟩
  · cases hrn
theorem f59 : FnOK Try.prog 59 := fnOK_of Try.func59 rfl (by kernel_rfl)
end Go.Proofs.Ytipfipnhgpbceaa.Sx
