/- Plain theorems and definitions for the claim, put together out of several texts. -/
import Derived.Test.YtipfipnhgpbceaaXd
import Derived.Test.YtipfipnhgpbceaaXc
import Derived.Test.YtipfipnhgpbceaaXp
/- Spans within limits; where air can go along a road (plain theorems). -/

set_option linter.unusedVariables false
set_option linter.unusedSimpArgs false
set_option maxRecDepth 100000
namespace Go.Proofs.Ytipfipnhgpbceaa.Sx
open Go Go.RowKit
def spanIn (a b lo hi : Int) : Bool := decide (lo ≤ a) && (decide (a ≤ b) && decide (b ≤ hi))
noncomputable def l122 : List (FuncId × Spec) := []
def k122 : Code → Keep := keepOf []
noncomputable def h122 (fl : Nat) (a b lo hi : Int) : Option (AV × List Ob) := (evalF (env l122) Try.f122 k122 fl [.agg [.int .i64 a, .int .i64 b], .one (.int .i64 lo), .one (.int .i64 hi)] []).den
theorem h122_eq (fl : Nat) (a b lo hi : Int) : h122 (fl + 1) a b lo hi =
    if (decide (lo ≤ a)) = true then if (decide (a ≤ b)) = true then some (.one (.bool (decide (b ≤ hi))), [])
      else some (.one (.bool false), [])
    else some (.one (.bool false), []) := by kernel_rfl
def s122 : Spec := ⟨false, fun av ob => match av, ob with
  | [.agg [.int .i64 a, .int .i64 b], .one (.int .i64 lo), .one (.int .i64 hi)], [] => .ret (.one (.bool (spanIn a b lo hi)), [])
  | _, _ => .fail⟩
theorem v122 (a b lo hi : Int) : h122 1 a b lo hi = some (.one (.bool (spanIn a b lo hi)), []) := by
  rw [h122_eq]
  unfold spanIn
  cases decide (lo ≤ a) <;> cases decide (a ≤ b) <;> rfl
theorem p122 : SpecOK Try.prog 122 s122 := by
  refine specOK_of (env_ok (l := l122) trivial) mixed_ok Try.func122 k122 fun av ob r os hrn => ?_
  simp only [s122] at hrn
  split at hrn
  · rename_i a b lo hi
    cases hrn
    have hv := v122 a b lo hi
    unfold h122 at hv
    exact ⟨1, hv⟩
  · cases hrn
theorem f122 : FnOK Try.prog 122 := fnOK_of Try.func122 rfl (by kernel_rfl)
noncomputable def l107 : List (FuncId × Spec) := []
def k107 : Code → Keep := keepOf []
noncomputable def h107 (fl : Nat) (a b lo hi : Int) : Option (AV × List Ob) := (evalF (env l107) Try.f107 k107 fl [.agg [.int .i64 a, .int .i64 b], .one (.int .i64 lo), .one (.int .i64 hi)] []).den
theorem h107_eq (fl : Nat) (a b lo hi : Int) : h107 (fl + 1) a b lo hi =
    if (decide (lo ≤ a)) = true then if (decide (a ≤ b)) = true then some (.one (.bool (decide (b ≤ hi))), [])
      else some (.one (.bool false), [])
    else some (.one (.bool false), []) := by kernel_rfl
def s107 : Spec := ⟨false, fun av ob => match av, ob with
  | [.agg [.int .i64 a, .int .i64 b], .one (.int .i64 lo), .one (.int .i64 hi)], [] => .ret (.one (.bool (spanIn a b lo hi)), [])
  | _, _ => .fail⟩
theorem v107 (a b lo hi : Int) : h107 1 a b lo hi = some (.one (.bool (spanIn a b lo hi)), []) := by
  rw [h107_eq]
  unfold spanIn
  cases decide (lo ≤ a) <;> cases decide (a ≤ b) <;> rfl
theorem p107 : SpecOK Try.prog 107 s107 := by
  refine specOK_of (env_ok (l := l107) trivial) mixed_ok Try.func107 k107 fun av ob r os hrn => ?_
  simp only [s107] at hrn
  split at hrn
  · rename_i a b lo hi
    cases hrn
    have hv := v107 a b lo hi
    unfold h107 at hv
    exact ⟨1, hv⟩
  · cases hrn
theorem f107 : FnOK Try.prog 107 := fnOK_of Try.func107 rfl (by kernel_rfl)
/-- Whether air can go along a road, or back. -/
def can (R : List Road) (f : List Span) (i : Int) (bk : Bool) : Bool := !(R.getD i.toNat road0).closed && (if bk then decide ((f.getD i.toNat ⟨0, 0⟩).lo < 0) else decide ((f.getD i.toNat ⟨0, 0⟩).hi > 0))
noncomputable def l99 : List (FuncId × Spec) := []
def k99 : Code → Keep := keepOf []
noncomputable def h99 (fl : Nat) (b1 : Bool) (P : List Place) (b2 : Bool) (R : List Road) (b3 : Bool) (f : List Span) (i : Int) (bk : Bool) : Option (AV × List Ob) := (evalF (env l99) Try.f99 k99 fl [.agg [.vec b1 .place P, .vec b2 .road R], .one (.vec b3 .span f), .one (.int .i64 i), .one (.bool bk)] []).den
theorem h99_eq (fl : Nat) (b1 : Bool) (P : List Place) (b2 : Bool) (R : List Road) (b3 : Bool) (f : List Span) (i : Int) (bk : Bool) : h99 (fl + 1) b1 P b2 R b3 f i bk =
    if (idx R.length i) = true then if ((R.getD i.toNat (dflt K.road)).closed) = true then some (.one (.bool false), [])
      else if bk = true then if (idx f.length i) = true then some (.one (.bool (decide ((f.getD i.toNat (dflt K.span)).lo < 0))), [])
          else none
        else if (idx f.length i) = true then some (.one (.bool (decide ((f.getD i.toNat (dflt K.span)).hi > 0))), [])
          else none
    else none := by kernel_rfl
def s99 : Spec := ⟨false, fun av ob => match av, ob with
  | [.agg [.vec b1 .place P, .vec b2 .road R], .one (.vec b3 .span f), .one (.int .i64 i), .one (.bool bk)], [] => .need (idx R.length i && idx f.length i) (.ret (.one (.bool (can R f i bk)), []))
  | _, _ => .fail⟩
theorem v99 (b1 : Bool) (P : List Place) (b2 : Bool) (R : List Road) (b3 : Bool) (f : List Span) (i : Int) (bk : Bool) (hg : (idx R.length i && idx f.length i) = true) : h99 1 b1 P b2 R b3 f i bk = some (.one (.bool (can R f i bk)), []) := by
  rw [Bool.and_eq_true] at hg
  have hd : dflt K.road = road0 := rfl
  have hd2 : dflt K.span = (⟨0, 0⟩ : Span) := rfl
  rw [h99_eq, if_pos hg.1, if_pos hg.2, if_pos hg.2, hd, hd2]
  unfold can
  cases (R.getD i.toNat road0).closed <;> cases bk <;> rfl
theorem p99 : SpecOK Try.prog 99 s99 := by
  refine specOK_of (env_ok (l := l99) trivial) mixed_ok Try.func99 k99 fun av ob r os hrn => ?_
  simp only [s99] at hrn
  split at hrn
  · rename_i b1 P b2 R b3 f i bk
    obtain ⟨hg, hrn⟩ := need_den hrn
    cases hrn
    have hv := v99 b1 P b2 R b3 f i bk hg
    unfold h99 at hv
    exact ⟨1, hv⟩
  · cases hrn
theorem f99 : FnOK Try.prog 99 := fnOK_of Try.func99 rfl (by kernel_rfl)
def endA (R : List Road) (i : Int) (bk : Bool) : Int := if bk then (R.getD i.toNat road0).to else (R.getD i.toNat road0).frm
def endB (R : List Road) (i : Int) (bk : Bool) : Int := if bk then (R.getD i.toNat road0).frm else (R.getD i.toNat road0).to
noncomputable def l100 : List (FuncId × Spec) := []
def k100 : Code → Keep := keepOf []
noncomputable def h100 (fl : Nat) (b1 : Bool) (P : List Place) (b2 : Bool) (R : List Road) (i : Int) (bk : Bool) : Option (AV × List Ob) := (evalF (env l100) Try.f100 k100 fl [.agg [.vec b1 .place P, .vec b2 .road R], .one (.int .i64 i), .one (.bool bk)] []).den
theorem h100_eq (fl : Nat) (b1 : Bool) (P : List Place) (b2 : Bool) (R : List Road) (i : Int) (bk : Bool) : h100 (fl + 1) b1 P b2 R i bk =
    if bk = true then if (idx R.length i) = true then if (idx R.length i) = true then some (.tup [(false, [.int .i64 ((R.getD i.toNat (dflt K.road)).to)]), (false, [.int .i64 ((R.getD i.toNat (dflt K.road)).frm)])], [])
        else none
      else none
    else if (idx R.length i) = true then if (idx R.length i) = true then some (.tup [(false, [.int .i64 ((R.getD i.toNat (dflt K.road)).frm)]), (false, [.int .i64 ((R.getD i.toNat (dflt K.road)).to)])], [])
        else none
      else none := by kernel_rfl
def s100 : Spec := ⟨false, fun av ob => match av, ob with
  | [.agg [.vec b1 .place P, .vec b2 .road R], .one (.int .i64 i), .one (.bool bk)], [] => .need (idx R.length i) (.ret (.tup [(false, [.int .i64 (endA R i bk)]), (false, [.int .i64 (endB R i bk)])], []))
  | _, _ => .fail⟩
theorem v100 (b1 : Bool) (P : List Place) (b2 : Bool) (R : List Road) (i : Int) (bk : Bool) (hg : idx R.length i = true) : h100 1 b1 P b2 R i bk = some (.tup [(false, [.int .i64 (endA R i bk)]), (false, [.int .i64 (endB R i bk)])], []) := by
  rw [h100_eq, if_pos hg, if_pos hg, if_pos hg, if_pos hg]
  unfold endA endB
  cases bk <;> rfl
theorem p100 : SpecOK Try.prog 100 s100 := by
  refine specOK_of (env_ok (l := l100) trivial) mixed_ok Try.func100 k100 fun av ob r os hrn => ?_
  simp only [s100] at hrn
  split at hrn
  · rename_i b1 P b2 R i bk
    obtain ⟨hg, hrn⟩ := need_den hrn
    cases hrn
    have hv := v100 b1 P b2 R i bk hg
    unfold h100 at hv
    exact ⟨1, hv⟩
  · cases hrn
theorem f100 : FnOK Try.prog 100 := fnOK_of Try.func100 rfl (by kernel_rfl)
end Go.Proofs.Ytipfipnhgpbceaa.Sx
/- The first error of a mine, by both texts (plain theorems). -/

set_option linter.unusedVariables false
set_option linter.unusedSimpArgs false
set_option maxRecDepth 100000
namespace Go.Proofs.Ytipfipnhgpbceaa.Sx
open Go Go.RowKit
def roadErr (n : Int) (r : Road) : Int :=
  if r.frm < 0 ∨ r.frm ≥ n ∨ r.to < 0 ∨ r.to ≥ n ∨ r.frm = r.to then 4
  else if r.len < 1 ∨ r.len > 100000 ∨ r.area < 1 ∨ r.area > 1000 ∨ ¬ (1 ≤ r.restLo ∧ r.restLo ≤ r.restHi ∧ r.restHi ≤ 262144) ∨ ¬ (-2199023255552 ≤ r.liftLo ∧ r.liftLo ≤ r.liftHi ∧ r.liftHi ≤ 2199023255552) then 1
  else 0
def roadsErr (n : Int) : List Road → Int
  | [] => 0
  | r :: R => if roadErr n r = 0 then roadsErr n R else roadErr n r
def placesErr : List Place → Int
  | [] => 0
  | p :: P => if p.height < -10000 ∨ p.height > 10000 then 1 else placesErr P
def checkM (P : List Place) (R : List Road) : Int :=
  if P.length > 64 then 2 else if R.length > 128 then 2 else if placesErr P = 0 then roadsErr P.length R else placesErr P
noncomputable def l105 : List (FuncId × Spec) := [(122, s122)]
def k105 : Code → Keep := keepOf [(4, ⟨[1, 19, 20, 21], [], []⟩), (11, ⟨[5, 38, 39, 40], [], []⟩)]
noncomputable def h105_0 (fl : Nat) (t19b : Bool) (t19 : List Place) (t20 : Int) (t21 : Int) (m0_0b : Bool) (m0_0 : List Place) (m0_1b : Bool) (m0_1 : List Road) : Option (AV × List Ob) := (evalH (env l105) Try.f105 k105 0 fl (stkF Try.f105 [1, 1, 0, 1, 0]) ⟨[.one (.undef), .one (.ptr 0 0), .one (.undef), .one (.undef), .one (.undef), .one (.undef), .one (.undef), .one (.undef), .one (.undef), .one (.undef), .one (.undef), .one (.undef), .one (.undef), .one (.undef), .one (.undef), .one (.undef), .one (.undef), .one (.undef), .one (.undef), .one (.vec t19b .place t19), .one (.int .i64 t20), .one (.int .i64 t21), .one (.undef), .one (.undef), .one (.undef), .one (.undef), .one (.undef), .one (.undef), .one (.undef), .one (.undef), .one (.undef), .one (.undef), .one (.undef), .one (.undef), .one (.undef), .one (.undef), .one (.undef), .one (.undef), .one (.undef), .one (.undef), .one (.undef), .one (.undef), .one (.undef), .one (.undef), .one (.undef), .one (.undef), .one (.undef), .one (.undef), .one (.undef), .one (.undef), .one (.undef), .one (.undef), .one (.undef), .one (.undef), .one (.undef), .one (.undef), .one (.undef), .one (.undef), .one (.undef), .one (.undef), .one (.undef), .one (.undef), .one (.undef), .one (.undef), .one (.undef), .one (.undef), .one (.undef), .one (.undef), .one (.undef), .one (.undef), .one (.undef), .one (.undef), .one (.undef), .one (.undef), .one (.undef), .one (.undef), .one (.undef), .one (.undef), .one (.undef), .one (.undef), .one (.undef), .one (.undef), .one (.undef), .one (.undef), .one (.undef), .one (.undef), .one (.undef), .one (.undef), .one (.undef), .one (.undef), .one (.undef), .one (.undef), .one (.undef), .one (.undef), .one (.undef), .one (.undef), .one (.undef), .one (.undef), .one (.undef), .one (.undef)], [((0, 0), some (.cell (.vec m0_0b .place m0_0))), ((0, 1), some (.cell (.vec m0_1b .road m0_1)))], 1⟩).den
noncomputable def h105_1 (fl : Nat) (t5 : Int) (t38b : Bool) (t38 : List Road) (t39 : Int) (t40 : Int) : Option (AV × List Ob) := (evalH (env l105) Try.f105 k105 0 fl (stkF Try.f105 [1, 1, 1, 1, 0, 1, 0]) ⟨[.one (.undef), .one (.undef), .one (.undef), .one (.undef), .one (.undef), .one (.int .i64 t5), .one (.undef), .one (.undef), .one (.undef), .one (.undef), .one (.undef), .one (.undef), .one (.undef), .one (.undef), .one (.undef), .one (.undef), .one (.undef), .one (.undef), .one (.undef), .one (.undef), .one (.undef), .one (.undef), .one (.undef), .one (.undef), .one (.undef), .one (.undef), .one (.undef), .one (.undef), .one (.undef), .one (.undef), .one (.undef), .one (.undef), .one (.undef), .one (.undef), .one (.undef), .one (.undef), .one (.undef), .one (.undef), .one (.vec t38b .road t38), .one (.int .i64 t39), .one (.int .i64 t40), .one (.undef), .one (.undef), .one (.undef), .one (.undef), .one (.undef), .one (.undef), .one (.undef), .one (.undef), .one (.undef), .one (.undef), .one (.undef), .one (.undef), .one (.undef), .one (.undef), .one (.undef), .one (.undef), .one (.undef), .one (.undef), .one (.undef), .one (.undef), .one (.undef), .one (.undef), .one (.undef), .one (.undef), .one (.undef), .one (.undef), .one (.undef), .one (.undef), .one (.undef), .one (.undef), .one (.undef), .one (.undef), .one (.undef), .one (.undef), .one (.undef), .one (.undef), .one (.undef), .one (.undef), .one (.undef), .one (.undef), .one (.undef), .one (.undef), .one (.undef), .one (.undef), .one (.undef), .one (.undef), .one (.undef), .one (.undef), .one (.undef), .one (.undef), .one (.undef), .one (.undef), .one (.undef), .one (.undef), .one (.undef), .one (.undef), .one (.undef), .one (.undef), .one (.undef)], [], 0⟩).den
noncomputable def h105 (fl : Nat) (b1 : Bool) (P : List Place) (b2 : Bool) (R : List Road) : Option (AV × List Ob) := (evalF (env l105) Try.f105 k105 fl [.agg [.vec b1 .place P, .vec b2 .road R]] []).den
theorem h105_eq (fl : Nat) (b1 : Bool) (P : List Place) (b2 : Bool) (R : List Road) : h105 (fl + 1) b1 P b2 R =
    if (decide ((↑P.length : Int) > 64)) = true then some (.one (.int .i64 2), [])
    else if (decide ((↑R.length : Int) > 128)) = true then some (.one (.int .i64 2), [])
      else h105_0 fl b1 P ((↑P.length : Int)) 0 b1 P b2 R := by kernel_rfl
theorem h105_0_eq (fl : Nat) (t19b : Bool) (t19 : List Place) (t20 : Int) (t21 : Int) (m0_0b : Bool) (m0_0 : List Place) (m0_1b : Bool) (m0_1 : List Road) : h105_0 (fl + 1) t19b t19 t20 t21 m0_0b m0_0 m0_1b m0_1 =
    if (decide (t21 < t20)) = true then if (idx t19.length t21) = true then if (decide ((t19.getD t21.toNat (dflt K.place)).height < -10000)) = true then some (.one (.int .i64 1), [])
        else if (decide ((t19.getD t21.toNat (dflt K.place)).height > 10000)) = true then some (.one (.int .i64 1), [])
          else h105_0 fl t19b t19 t20 (IntKind.i64.wrap (t21 + 1)) m0_0b m0_0 m0_1b m0_1
      else none
    else h105_1 fl ((↑m0_0.length : Int)) m0_1b m0_1 ((↑m0_1.length : Int)) 0 := by kernel_rfl
theorem h105_1_eq (fl : Nat) (t5 : Int) (t38b : Bool) (t38 : List Road) (t39 : Int) (t40 : Int) : h105_1 (fl + 1) t5 t38b t38 t39 t40 =
    if (decide (t40 < t39)) = true then if (idx t38.length t40) = true then if (decide ((t38.getD t40.toNat (dflt K.road)).frm < 0)) = true then some (.one (.int .i64 4), [])
        else if (decide ((t38.getD t40.toNat (dflt K.road)).frm ≥ t5)) = true then some (.one (.int .i64 4), [])
          else if (decide ((t38.getD t40.toNat (dflt K.road)).to < 0)) = true then some (.one (.int .i64 4), [])
            else if (decide ((t38.getD t40.toNat (dflt K.road)).to ≥ t5)) = true then some (.one (.int .i64 4), [])
              else if ((t38.getD t40.toNat (dflt K.road)).frm == (t38.getD t40.toNat (dflt K.road)).to) = true then some (.one (.int .i64 4), [])
                else if (decide ((t38.getD t40.toNat (dflt K.road)).len < 1)) = true then some (.one (.int .i64 1), [])
                  else if (decide ((t38.getD t40.toNat (dflt K.road)).len > 100000)) = true then some (.one (.int .i64 1), [])
                    else if (decide ((t38.getD t40.toNat (dflt K.road)).area < 1)) = true then some (.one (.int .i64 1), [])
                      else if (decide ((t38.getD t40.toNat (dflt K.road)).area > 1000)) = true then some (.one (.int .i64 1), [])
                        else if (!spanIn (t38.getD t40.toNat (dflt K.road)).restLo (t38.getD t40.toNat (dflt K.road)).restHi 1 262144) = true then some (.one (.int .i64 1), [])
                          else if (!spanIn (t38.getD t40.toNat (dflt K.road)).liftLo (t38.getD t40.toNat (dflt K.road)).liftHi (-2199023255552) 2199023255552) = true then some (.one (.int .i64 1), [])
                            else h105_1 fl t5 t38b t38 t39 (IntKind.i64.wrap (t40 + 1))
      else none
    else some (.one (.int .i64 0), []) := by kernel_rfl
def s105 : Spec := ⟨false, fun av ob => match av, ob with
  | [.agg [.vec b1 .place P, .vec b2 .road R]], [] => .ret (.one (.int .i64 (checkM P R)), [])
  | _, _ => .fail⟩
theorem v105_1 (b : Bool) (n : Int) (R : List Road) (hR : R.length ≤ 128) : ∀ (d fl i : Nat), R.length - i = d → i ≤ R.length → d < fl → h105_1 fl n b R R.length i = some (.one (.int .i64 (roadsErr n (R.drop i))), [])
  | d, fl, i, hd, hi, hf => by
    obtain ⟨fl, rfl⟩ : ∃ q, fl = q + 1 := ⟨fl - 1, by omega⟩
    rw [h105_1_eq]
    by_cases hlt : i < R.length
    · rw [if_pos (lt_nat hlt), if_pos (idx_nat hlt), wr_succ (by omega), at_lt hlt, List.drop_eq_getElem_cons hlt, roadsErr]
      cases d with
      | zero => omega
      | succ d =>
        rw [v105_1 b n R hR d fl (i + 1) (by omega) (by omega) (by omega)]
        generalize R[i] = r
        simp only [spanIn, Bool.not_eq_true', Bool.and_eq_false_iff, decide_eq_false_iff_not, decide_eq_true_eq, beq_iff_eq]
        have hR1 : (¬1 ≤ r.restLo ∨ ¬r.restLo ≤ r.restHi ∨ ¬r.restHi ≤ 262144) ↔ ¬ (1 ≤ r.restLo ∧ r.restLo ≤ r.restHi ∧ r.restHi ≤ 262144) := by omega
        have hR2 : (¬-2199023255552 ≤ r.liftLo ∨ ¬r.liftLo ≤ r.liftHi ∨ ¬r.liftHi ≤ 2199023255552) ↔ ¬ (-2199023255552 ≤ r.liftLo ∧ r.liftLo ≤ r.liftHi ∧ r.liftHi ≤ 2199023255552) := by omega
        simp only [hR1, hR2]
        have four : ∀ {α : Sort 1} (x y : α), (if (4 : Int) = 0 then x else y) = y := fun x y => if_neg (by omega)
        have one : ∀ {α : Sort 1} (x y : α), (if (1 : Int) = 0 then x else y) = y := fun x y => if_neg (by omega)
        by_cases c1 : r.frm < 0
        · have e : roadErr n r = 4 := if_pos (.inl c1)
          rw [if_pos c1, e]
          rfl
        by_cases c2 : r.frm ≥ n
        · have e : roadErr n r = 4 := if_pos (.inr (.inl c2))
          rw [if_neg c1, if_pos c2, e]
          rfl
        by_cases c3 : r.to < 0
        · have e : roadErr n r = 4 := if_pos (.inr (.inr (.inl c3)))
          rw [if_neg c1, if_neg c2, if_pos c3, e]
          rfl
        by_cases c4 : r.to ≥ n
        · have e : roadErr n r = 4 := if_pos (.inr (.inr (.inr (.inl c4))))
          rw [if_neg c1, if_neg c2, if_neg c3, if_pos c4, e]
          rfl
        by_cases c5 : r.frm = r.to
        · have e : roadErr n r = 4 := if_pos (.inr (.inr (.inr (.inr (c5)))))
          rw [if_neg c1, if_neg c2, if_neg c3, if_neg c4, if_pos c5, e]
          rfl
        by_cases c6 : r.len < 1
        · have e : roadErr n r = 1 := by unfold roadErr; rw [if_neg (by omega), if_pos (.inl c6)]
          rw [if_neg c1, if_neg c2, if_neg c3, if_neg c4, if_neg c5, if_pos c6, e]
          rfl
        by_cases c7 : r.len > 100000
        · have e : roadErr n r = 1 := by unfold roadErr; rw [if_neg (by omega), if_pos (.inr (.inl c7))]
          rw [if_neg c1, if_neg c2, if_neg c3, if_neg c4, if_neg c5, if_neg c6, if_pos c7, e]
          rfl
        by_cases c8 : r.area < 1
        · have e : roadErr n r = 1 := by unfold roadErr; rw [if_neg (by omega), if_pos (.inr (.inr (.inl c8)))]
          rw [if_neg c1, if_neg c2, if_neg c3, if_neg c4, if_neg c5, if_neg c6, if_neg c7, if_pos c8, e]
          rfl
        by_cases c9 : r.area > 1000
        · have e : roadErr n r = 1 := by unfold roadErr; rw [if_neg (by omega), if_pos (.inr (.inr (.inr (.inl c9))))]
          rw [if_neg c1, if_neg c2, if_neg c3, if_neg c4, if_neg c5, if_neg c6, if_neg c7, if_neg c8, if_pos c9, e]
          rfl
        by_cases c10 : ¬ (1 ≤ r.restLo ∧ r.restLo ≤ r.restHi ∧ r.restHi ≤ 262144)
        · have e : roadErr n r = 1 := by unfold roadErr; rw [if_neg (by omega), if_pos (.inr (.inr (.inr (.inr (.inl c10)))))]
          rw [if_neg c1, if_neg c2, if_neg c3, if_neg c4, if_neg c5, if_neg c6, if_neg c7, if_neg c8, if_neg c9, if_pos c10, e]
          rfl
        by_cases c11 : ¬ (-2199023255552 ≤ r.liftLo ∧ r.liftLo ≤ r.liftHi ∧ r.liftHi ≤ 2199023255552)
        · have e : roadErr n r = 1 := by unfold roadErr; rw [if_neg (by omega), if_pos (.inr (.inr (.inr (.inr (.inr (c11))))))]
          rw [if_neg c1, if_neg c2, if_neg c3, if_neg c4, if_neg c5, if_neg c6, if_neg c7, if_neg c8, if_neg c9, if_neg c10, if_pos c11, e]
          rfl
        have e : roadErr n r = 0 := by unfold roadErr; rw [if_neg (by omega), if_neg (by omega)]
        rw [if_neg c1, if_neg c2, if_neg c3, if_neg c4, if_neg c5, if_neg c6, if_neg c7, if_neg c8, if_neg c9, if_neg c10, if_neg c11, e]
        rfl
    · rw [if_neg (nlt_nat hlt), List.drop_eq_nil_of_le (by omega)]; rfl
theorem v105_0 (b1 b2 : Bool) (P : List Place) (R : List Road) (hP : P.length ≤ 64) (hR : R.length ≤ 128) : ∀ (d fl i : Nat), P.length - i = d → i ≤ P.length → d + 200 < fl → h105_0 fl b1 P P.length i b1 P b2 R = some (.one (.int .i64 (if placesErr (P.drop i) = 0 then roadsErr P.length R else placesErr (P.drop i))), [])
  | d, fl, i, hd, hi, hf => by
    obtain ⟨fl, rfl⟩ : ∃ q, fl = q + 1 := ⟨fl - 1, by omega⟩
    rw [h105_0_eq]
    by_cases hlt : i < P.length
    · rw [if_pos (lt_nat hlt), if_pos (idx_nat hlt), wr_succ (by omega), at_lt hlt, List.drop_eq_getElem_cons hlt, placesErr]
      cases d with
      | zero => omega
      | succ d =>
        rw [v105_0 b1 b2 P R hP hR d fl (i + 1) (by omega) (by omega) (by omega)]
        generalize P[i] = r
        simp only [decide_eq_true_eq]
        by_cases c1 : r.height < -10000
        · simp [c1]
        by_cases c2 : r.height > 10000
        · simp [c1, c2]
        simp [c1, c2]
    · rw [if_neg (nlt_nat hlt), List.drop_eq_nil_of_le (by omega)]
      have := v105_1 b2 P.length R hR R.length fl 0 (by omega) (by omega) (by omega)
      rw [List.drop_zero] at this
      exact this
theorem v105 (b1 b2 : Bool) (P : List Place) (R : List Road) : h105 400 b1 P b2 R = some (.one (.int .i64 (checkM P R)), []) := by
  rw [h105_eq]
  unfold checkM
  by_cases c1 : P.length > 64
  · rw [if_pos (by simp only [decide_eq_true_eq]; omega), if_pos c1]
  rw [if_neg (by simp only [decide_eq_true_eq]; omega), if_neg c1]
  by_cases c2 : R.length > 128
  · rw [if_pos (by simp only [decide_eq_true_eq]; omega), if_pos c2]
  rw [if_neg (by simp only [decide_eq_true_eq]; omega), if_neg c2]
  have := v105_0 b1 b2 P R (by omega) (by omega) P.length 399 0 (by omega) (by omega) (by omega)
  rw [List.drop_zero] at this
  exact this
theorem p105 : SpecOK Try.prog 105 s105 := by
  refine specOK_of (env_ok (l := l105) ⟨⟨p122, f122⟩, trivial⟩) mixed_ok Try.func105 k105 fun av ob r os hrn => ?_
  simp only [s105] at hrn
  split at hrn
  · rename_i b1 P b2 R
    cases hrn
    have hv := v105 b1 b2 P R
    unfold h105 at hv
    exact ⟨400, hv⟩
  · cases hrn
theorem f105 : FnOK Try.prog 105 := fnOK_of Try.func105 rfl (by kernel_rfl)
noncomputable def l106 : List (FuncId × Spec) := [(107, s107)]
def k106 : Code → Keep := keepOf [(4, ⟨[1, 3], [], []⟩), (10, ⟨[1, 5], [], []⟩)]
noncomputable def h106_0 (fl : Nat) (t3 : Int) (m0_0b : Bool) (m0_0 : List Place) (m0_1b : Bool) (m0_1 : List Road) : Option (AV × List Ob) := (evalH (env l106) Try.f106 k106 0 fl (stkF Try.f106 [1, 1, 0, 1, 0]) ⟨[.one (.undef), .one (.ptr 0 0), .one (.undef), .one (.int .i64 t3), .one (.undef), .one (.undef), .one (.undef), .one (.undef), .one (.undef), .one (.undef), .one (.undef), .one (.undef), .one (.undef), .one (.undef), .one (.undef), .one (.undef), .one (.undef), .one (.undef), .one (.undef), .one (.undef), .one (.undef), .one (.undef), .one (.undef), .one (.undef), .one (.undef), .one (.undef), .one (.undef), .one (.undef), .one (.undef), .one (.undef), .one (.undef), .one (.undef), .one (.undef), .one (.undef), .one (.undef), .one (.undef), .one (.undef), .one (.undef), .one (.undef), .one (.undef), .one (.undef), .one (.undef), .one (.undef), .one (.undef), .one (.undef), .one (.undef), .one (.undef), .one (.undef), .one (.undef), .one (.undef), .one (.undef), .one (.undef), .one (.undef), .one (.undef), .one (.undef), .one (.undef), .one (.undef), .one (.undef), .one (.undef), .one (.undef), .one (.undef), .one (.undef), .one (.undef), .one (.undef), .one (.undef), .one (.undef), .one (.undef), .one (.undef), .one (.undef), .one (.undef), .one (.undef), .one (.undef), .one (.undef), .one (.undef), .one (.undef), .one (.undef), .one (.undef), .one (.undef), .one (.undef), .one (.undef), .one (.undef), .one (.undef), .one (.undef), .one (.undef), .one (.undef), .one (.undef), .one (.undef), .one (.undef), .one (.undef), .one (.undef), .one (.undef), .one (.undef), .one (.undef), .one (.undef), .one (.undef), .one (.undef), .one (.undef), .one (.undef), .one (.undef), .one (.undef), .one (.undef), .one (.undef), .one (.undef), .one (.undef), .one (.undef), .one (.undef), .one (.undef), .one (.undef), .one (.undef)], [((0, 0), some (.cell (.vec m0_0b .place m0_0))), ((0, 1), some (.cell (.vec m0_1b .road m0_1)))], 1⟩).den
noncomputable def h106_1 (fl : Nat) (t5 : Int) (m0_0b : Bool) (m0_0 : List Place) (m0_1b : Bool) (m0_1 : List Road) : Option (AV × List Ob) := (evalH (env l106) Try.f106 k106 0 fl (stkF Try.f106 [1, 1, 1, 0, 1, 0]) ⟨[.one (.undef), .one (.ptr 0 0), .one (.undef), .one (.undef), .one (.undef), .one (.int .i64 t5), .one (.undef), .one (.undef), .one (.undef), .one (.undef), .one (.undef), .one (.undef), .one (.undef), .one (.undef), .one (.undef), .one (.undef), .one (.undef), .one (.undef), .one (.undef), .one (.undef), .one (.undef), .one (.undef), .one (.undef), .one (.undef), .one (.undef), .one (.undef), .one (.undef), .one (.undef), .one (.undef), .one (.undef), .one (.undef), .one (.undef), .one (.undef), .one (.undef), .one (.undef), .one (.undef), .one (.undef), .one (.undef), .one (.undef), .one (.undef), .one (.undef), .one (.undef), .one (.undef), .one (.undef), .one (.undef), .one (.undef), .one (.undef), .one (.undef), .one (.undef), .one (.undef), .one (.undef), .one (.undef), .one (.undef), .one (.undef), .one (.undef), .one (.undef), .one (.undef), .one (.undef), .one (.undef), .one (.undef), .one (.undef), .one (.undef), .one (.undef), .one (.undef), .one (.undef), .one (.undef), .one (.undef), .one (.undef), .one (.undef), .one (.undef), .one (.undef), .one (.undef), .one (.undef), .one (.undef), .one (.undef), .one (.undef), .one (.undef), .one (.undef), .one (.undef), .one (.undef), .one (.undef), .one (.undef), .one (.undef), .one (.undef), .one (.undef), .one (.undef), .one (.undef), .one (.undef), .one (.undef), .one (.undef), .one (.undef), .one (.undef), .one (.undef), .one (.undef), .one (.undef), .one (.undef), .one (.undef), .one (.undef), .one (.undef), .one (.undef), .one (.undef), .one (.undef), .one (.undef), .one (.undef), .one (.undef), .one (.undef), .one (.undef), .one (.undef), .one (.undef)], [((0, 0), some (.cell (.vec m0_0b .place m0_0))), ((0, 1), some (.cell (.vec m0_1b .road m0_1)))], 1⟩).den
noncomputable def h106 (fl : Nat) (b1 : Bool) (P : List Place) (b2 : Bool) (R : List Road) : Option (AV × List Ob) := (evalF (env l106) Try.f106 k106 fl [.agg [.vec b1 .place P, .vec b2 .road R]] []).den
theorem h106_eq (fl : Nat) (b1 : Bool) (P : List Place) (b2 : Bool) (R : List Road) : h106 (fl + 1) b1 P b2 R =
    if (decide ((↑P.length : Int) > 64)) = true then some (.one (.int .i64 2), [])
    else if (decide ((↑R.length : Int) > 128)) = true then some (.one (.int .i64 2), [])
      else h106_0 fl 0 b1 P b2 R := by kernel_rfl
theorem h106_0_eq (fl : Nat) (t3 : Int) (m0_0b : Bool) (m0_0 : List Place) (m0_1b : Bool) (m0_1 : List Road) : h106_0 (fl + 1) t3 m0_0b m0_0 m0_1b m0_1 =
    if (decide (t3 < (↑m0_0.length : Int))) = true then if (idx m0_0.length t3) = true then if (decide ((m0_0.getD t3.toNat (dflt K.place)).height < -10000)) = true then some (.one (.int .i64 1), [])
        else if (decide ((m0_0.getD t3.toNat (dflt K.place)).height > 10000)) = true then some (.one (.int .i64 1), [])
          else h106_0 fl (IntKind.i64.wrap (t3 + 1)) m0_0b m0_0 m0_1b m0_1
      else none
    else h106_1 fl 0 m0_0b m0_0 m0_1b m0_1 := by kernel_rfl
theorem h106_1_eq (fl : Nat) (t5 : Int) (m0_0b : Bool) (m0_0 : List Place) (m0_1b : Bool) (m0_1 : List Road) : h106_1 (fl + 1) t5 m0_0b m0_0 m0_1b m0_1 =
    if (decide (t5 < (↑m0_1.length : Int))) = true then if (idx m0_1.length t5) = true then if (decide ((m0_1.getD t5.toNat (dflt K.road)).frm < 0)) = true then some (.one (.int .i64 4), [])
        else if (decide ((m0_1.getD t5.toNat (dflt K.road)).frm ≥ (↑m0_0.length : Int))) = true then some (.one (.int .i64 4), [])
          else if (decide ((m0_1.getD t5.toNat (dflt K.road)).to < 0)) = true then some (.one (.int .i64 4), [])
            else if (decide ((m0_1.getD t5.toNat (dflt K.road)).to ≥ (↑m0_0.length : Int))) = true then some (.one (.int .i64 4), [])
              else if ((m0_1.getD t5.toNat (dflt K.road)).frm == (m0_1.getD t5.toNat (dflt K.road)).to) = true then some (.one (.int .i64 4), [])
                else if (decide ((m0_1.getD t5.toNat (dflt K.road)).len < 1)) = true then some (.one (.int .i64 1), [])
                  else if (decide ((m0_1.getD t5.toNat (dflt K.road)).len > 100000)) = true then some (.one (.int .i64 1), [])
                    else if (decide ((m0_1.getD t5.toNat (dflt K.road)).area < 1)) = true then some (.one (.int .i64 1), [])
                      else if (decide ((m0_1.getD t5.toNat (dflt K.road)).area > 1000)) = true then some (.one (.int .i64 1), [])
                        else if (!spanIn (m0_1.getD t5.toNat (dflt K.road)).restLo (m0_1.getD t5.toNat (dflt K.road)).restHi 1 262144) = true then some (.one (.int .i64 1), [])
                          else if (!spanIn (m0_1.getD t5.toNat (dflt K.road)).liftLo (m0_1.getD t5.toNat (dflt K.road)).liftHi (-2199023255552) 2199023255552) = true then some (.one (.int .i64 1), [])
                            else h106_1 fl (IntKind.i64.wrap (t5 + 1)) m0_0b m0_0 m0_1b m0_1
      else none
    else some (.one (.int .i64 0), []) := by kernel_rfl
def s106 : Spec := ⟨false, fun av ob => match av, ob with
  | [.agg [.vec b1 .place P, .vec b2 .road R]], [] => .ret (.one (.int .i64 (checkM P R)), [])
  | _, _ => .fail⟩
theorem v106_1 (b1 b2 : Bool) (P : List Place) (R : List Road) (hR : R.length ≤ 128) : ∀ (d fl i : Nat), R.length - i = d → i ≤ R.length → d < fl → h106_1 fl i b1 P b2 R = some (.one (.int .i64 (roadsErr P.length (R.drop i))), [])
  | d, fl, i, hd, hi, hf => by
    obtain ⟨fl, rfl⟩ : ∃ q, fl = q + 1 := ⟨fl - 1, by omega⟩
    rw [h106_1_eq]
    by_cases hlt : i < R.length
    · rw [if_pos (lt_nat hlt), if_pos (idx_nat hlt), wr_succ (by omega), at_lt hlt, List.drop_eq_getElem_cons hlt, roadsErr]
      cases d with
      | zero => omega
      | succ d =>
        rw [v106_1 b1 b2 P R hR d fl (i + 1) (by omega) (by omega) (by omega)]
        generalize R[i] = r
        simp only [spanIn, Bool.not_eq_true', Bool.and_eq_false_iff, decide_eq_false_iff_not, decide_eq_true_eq, beq_iff_eq]
        have hR1 : (¬1 ≤ r.restLo ∨ ¬r.restLo ≤ r.restHi ∨ ¬r.restHi ≤ 262144) ↔ ¬ (1 ≤ r.restLo ∧ r.restLo ≤ r.restHi ∧ r.restHi ≤ 262144) := by omega
        have hR2 : (¬-2199023255552 ≤ r.liftLo ∨ ¬r.liftLo ≤ r.liftHi ∨ ¬r.liftHi ≤ 2199023255552) ↔ ¬ (-2199023255552 ≤ r.liftLo ∧ r.liftLo ≤ r.liftHi ∧ r.liftHi ≤ 2199023255552) := by omega
        simp only [hR1, hR2]
        have four : ∀ {α : Sort 1} (x y : α), (if (4 : Int) = 0 then x else y) = y := fun x y => if_neg (by omega)
        have one : ∀ {α : Sort 1} (x y : α), (if (1 : Int) = 0 then x else y) = y := fun x y => if_neg (by omega)
        by_cases c1 : r.frm < 0
        · have e : roadErr P.length r = 4 := if_pos (.inl c1)
          rw [if_pos c1, e]
          rfl
        by_cases c2 : r.frm ≥ P.length
        · have e : roadErr P.length r = 4 := if_pos (.inr (.inl c2))
          rw [if_neg c1, if_pos c2, e]
          rfl
        by_cases c3 : r.to < 0
        · have e : roadErr P.length r = 4 := if_pos (.inr (.inr (.inl c3)))
          rw [if_neg c1, if_neg c2, if_pos c3, e]
          rfl
        by_cases c4 : r.to ≥ P.length
        · have e : roadErr P.length r = 4 := if_pos (.inr (.inr (.inr (.inl c4))))
          rw [if_neg c1, if_neg c2, if_neg c3, if_pos c4, e]
          rfl
        by_cases c5 : r.frm = r.to
        · have e : roadErr P.length r = 4 := if_pos (.inr (.inr (.inr (.inr (c5)))))
          rw [if_neg c1, if_neg c2, if_neg c3, if_neg c4, if_pos c5, e]
          rfl
        by_cases c6 : r.len < 1
        · have e : roadErr P.length r = 1 := by unfold roadErr; rw [if_neg (by omega), if_pos (.inl c6)]
          rw [if_neg c1, if_neg c2, if_neg c3, if_neg c4, if_neg c5, if_pos c6, e]
          rfl
        by_cases c7 : r.len > 100000
        · have e : roadErr P.length r = 1 := by unfold roadErr; rw [if_neg (by omega), if_pos (.inr (.inl c7))]
          rw [if_neg c1, if_neg c2, if_neg c3, if_neg c4, if_neg c5, if_neg c6, if_pos c7, e]
          rfl
        by_cases c8 : r.area < 1
        · have e : roadErr P.length r = 1 := by unfold roadErr; rw [if_neg (by omega), if_pos (.inr (.inr (.inl c8)))]
          rw [if_neg c1, if_neg c2, if_neg c3, if_neg c4, if_neg c5, if_neg c6, if_neg c7, if_pos c8, e]
          rfl
        by_cases c9 : r.area > 1000
        · have e : roadErr P.length r = 1 := by unfold roadErr; rw [if_neg (by omega), if_pos (.inr (.inr (.inr (.inl c9))))]
          rw [if_neg c1, if_neg c2, if_neg c3, if_neg c4, if_neg c5, if_neg c6, if_neg c7, if_neg c8, if_pos c9, e]
          rfl
        by_cases c10 : ¬ (1 ≤ r.restLo ∧ r.restLo ≤ r.restHi ∧ r.restHi ≤ 262144)
        · have e : roadErr P.length r = 1 := by unfold roadErr; rw [if_neg (by omega), if_pos (.inr (.inr (.inr (.inr (.inl c10)))))]
          rw [if_neg c1, if_neg c2, if_neg c3, if_neg c4, if_neg c5, if_neg c6, if_neg c7, if_neg c8, if_neg c9, if_pos c10, e]
          rfl
        by_cases c11 : ¬ (-2199023255552 ≤ r.liftLo ∧ r.liftLo ≤ r.liftHi ∧ r.liftHi ≤ 2199023255552)
        · have e : roadErr P.length r = 1 := by unfold roadErr; rw [if_neg (by omega), if_pos (.inr (.inr (.inr (.inr (.inr (c11))))))]
          rw [if_neg c1, if_neg c2, if_neg c3, if_neg c4, if_neg c5, if_neg c6, if_neg c7, if_neg c8, if_neg c9, if_neg c10, if_pos c11, e]
          rfl
        have e : roadErr P.length r = 0 := by unfold roadErr; rw [if_neg (by omega), if_neg (by omega)]
        rw [if_neg c1, if_neg c2, if_neg c3, if_neg c4, if_neg c5, if_neg c6, if_neg c7, if_neg c8, if_neg c9, if_neg c10, if_neg c11, e]
        rfl
    · rw [if_neg (nlt_nat hlt), List.drop_eq_nil_of_le (by omega)]; rfl
theorem v106_0 (b1 b2 : Bool) (P : List Place) (R : List Road) (hP : P.length ≤ 64) (hR : R.length ≤ 128) : ∀ (d fl i : Nat), P.length - i = d → i ≤ P.length → d + 200 < fl → h106_0 fl i b1 P b2 R = some (.one (.int .i64 (if placesErr (P.drop i) = 0 then roadsErr P.length R else placesErr (P.drop i))), [])
  | d, fl, i, hd, hi, hf => by
    obtain ⟨fl, rfl⟩ : ∃ q, fl = q + 1 := ⟨fl - 1, by omega⟩
    rw [h106_0_eq]
    by_cases hlt : i < P.length
    · rw [if_pos (lt_nat hlt), if_pos (idx_nat hlt), wr_succ (by omega), at_lt hlt, List.drop_eq_getElem_cons hlt, placesErr]
      cases d with
      | zero => omega
      | succ d =>
        rw [v106_0 b1 b2 P R hP hR d fl (i + 1) (by omega) (by omega) (by omega)]
        generalize P[i] = r
        simp only [decide_eq_true_eq]
        by_cases c1 : r.height < -10000
        · simp [c1]
        by_cases c2 : r.height > 10000
        · simp [c1, c2]
        simp [c1, c2]
    · rw [if_neg (nlt_nat hlt), List.drop_eq_nil_of_le (by omega)]
      have := v106_1 b1 b2 P R hR R.length fl 0 (by omega) (by omega) (by omega)
      rw [List.drop_zero] at this
      exact this
theorem v106 (b1 b2 : Bool) (P : List Place) (R : List Road) : h106 400 b1 P b2 R = some (.one (.int .i64 (checkM P R)), []) := by
  rw [h106_eq]
  unfold checkM
  by_cases c1 : P.length > 64
  · rw [if_pos (by simp only [decide_eq_true_eq]; omega), if_pos c1]
  rw [if_neg (by simp only [decide_eq_true_eq]; omega), if_neg c1]
  by_cases c2 : R.length > 128
  · rw [if_pos (by simp only [decide_eq_true_eq]; omega), if_pos c2]
  rw [if_neg (by simp only [decide_eq_true_eq]; omega), if_neg c2]
  have := v106_0 b1 b2 P R (by omega) (by omega) P.length 399 0 (by omega) (by omega) (by omega)
  rw [List.drop_zero] at this
  exact this
theorem p106 : SpecOK Try.prog 106 s106 := by
  refine specOK_of (env_ok (l := l106) ⟨⟨p107, f107⟩, trivial⟩) mixed_ok Try.func106 k106 fun av ob r os hrn => ?_
  simp only [s106] at hrn
  split at hrn
  · rename_i b1 P b2 R
    cases hrn
    have hv := v106 b1 b2 P R
    unfold h106 at hv
    exact ⟨400, hv⟩
  · cases hrn
theorem f106 : FnOK Try.prog 106 := fnOK_of Try.func106 rfl (by kernel_rfl)
theorem placesErr_ok : ∀ (P : List Place), (∀ k, k < P.length → -100 ≤ (P.getD k place0).height ∧ (P.getD k place0).height ≤ 100) → placesErr P = 0
  | [], _ => rfl
  | p :: P, h => by
    have h0 : -100 ≤ p.height ∧ p.height ≤ 100 := h 0 (by simp)
    rw [placesErr, if_neg (by omega)]
    exact placesErr_ok P fun k hk => h (k + 1) (by simp; omega)
theorem roadsErr_ok (n : Nat) : ∀ (R : List Road), (∀ k, k < R.length → RoadM n (R.getD k road0)) → roadsErr n R = 0
  | [], _ => rfl
  | r :: R, h => by
    have h0 : RoadM n r := h 0 (by simp)
    have h1 := h0.frm
    have h2 := h0.to
    have h3 := h0.ne
    have h4 := h0.len
    have h5 := h0.area
    have h6 := h0.rest
    have h7 := h0.lift
    have e : roadErr n r = 0 := by
      unfold roadErr
      rw [if_neg (by omega), if_neg (by omega)]
    rw [roadsErr, if_pos e]
    exact roadsErr_ok n R fun k hk => h (k + 1) (by simp; omega)
theorem MineB.check {x : MineX} (h : MineB x) : checkM x.P x.R = 0 := by
  have h1 := h.n
  have h2 := h.m
  unfold checkM
  rw [if_neg (by omega), if_neg (by omega), if_pos (placesErr_ok _ h.h), roadsErr_ok _ _ h.road]
theorem roadsErr_inv {n : Int} : ∀ {R : List Road}, roadsErr n R = 0 → ∀ k, k < R.length → 0 ≤ (R.getD k road0).frm ∧ (R.getD k road0).frm < n ∧ 0 ≤ (R.getD k road0).to ∧ (R.getD k road0).to < n ∧ (R.getD k road0).frm ≠ (R.getD k road0).to
  | [], _, k, hk => by simp at hk
  | r :: R, h, k, hk => by
    rw [roadsErr] at h
    by_cases he : roadErr n r = 0
    · rw [if_pos he] at h
      cases k with
      | zero =>
        show 0 ≤ r.frm ∧ r.frm < n ∧ 0 ≤ r.to ∧ r.to < n ∧ r.frm ≠ r.to
        unfold roadErr at he
        split at he
        · cases he
        · omega
      | succ k => exact roadsErr_inv h k (by simp at hk; omega)
    · rw [if_neg he] at h
      exact absurd h he
/-- What a mine without error is. -/
theorem checkM_roads {P : List Place} {R : List Road} (h : checkM P R = 0) : P.length ≤ 64 ∧ R.length ≤ 128 ∧ ∀ k, k < R.length → 0 ≤ (R.getD k road0).frm ∧ (R.getD k road0).frm < P.length ∧ 0 ≤ (R.getD k road0).to ∧ (R.getD k road0).to < P.length ∧ (R.getD k road0).frm ≠ (R.getD k road0).to := by
  unfold checkM at h
  split at h
  · cases h
  · split at h
    · cases h
    · split at h
      · refine ⟨by omega, by omega, ?_⟩
        exact roadsErr_inv h
      · rename_i hne
        exact absurd h hne
end Go.Proofs.Ytipfipnhgpbceaa.Sx
/- Whether a mine is right, and has a flow for each road (plain theorems). -/

set_option linter.unusedVariables false
set_option linter.unusedSimpArgs false
set_option maxRecDepth 100000
namespace Go.Proofs.Ytipfipnhgpbceaa.Sx
open Go Go.RowKit
noncomputable def l120 : List (FuncId × Spec) := [(105, s105)]
def k120 : Code → Keep := keepOf []
noncomputable def h120 (fl : Nat) (b1 : Bool) (P : List Place) (b2 : Bool) (R : List Road) : Option (AV × List Ob) := (evalF (env l120) Try.f120 k120 fl [.agg [.vec b1 .place P, .vec b2 .road R]] []).den
theorem h120_eq (fl : Nat) (b1 : Bool) (P : List Place) (b2 : Bool) (R : List Road) : h120 (fl + 1) b1 P b2 R =
    some (.one (.bool (checkM P R == 0)), []) := by kernel_rfl
def s120 : Spec := ⟨false, fun av ob => match av, ob with
  | [.agg [.vec b1 .place P, .vec b2 .road R]], [] => .ret (.one (.bool (checkM P R == 0)), [])
  | _, _ => .fail⟩
theorem p120 : SpecOK Try.prog 120 s120 := by
  refine specOK_of (env_ok (l := l120) ⟨⟨p105, f105⟩, trivial⟩) mixed_ok Try.func120 k120 fun av ob r os hrn => ?_
  simp only [s120] at hrn
  split at hrn
  · rename_i b1 P b2 R
    cases hrn
    have hv := h120_eq 0 b1 P b2 R
    unfold h120 at hv
    exact ⟨1, hv⟩
  · cases hrn
theorem f120 : FnOK Try.prog 120 := fnOK_of Try.func120 rfl (by kernel_rfl)
def rightM (P : List Place) (R : List Road) (f : List Span) : Bool := checkM P R == 0 && ((f.length : Int) == (R.length : Int))
noncomputable def l98 : List (FuncId × Spec) := [(106, s106)]
def k98 : Code → Keep := keepOf []
noncomputable def h98 (fl : Nat) (b1 : Bool) (P : List Place) (b2 : Bool) (R : List Road) (b3 : Bool) (f : List Span) : Option (AV × List Ob) := (evalF (env l98) Try.f98 k98 fl [.agg [.vec b1 .place P, .vec b2 .road R], .one (.vec b3 .span f)] []).den
theorem h98_eq (fl : Nat) (b1 : Bool) (P : List Place) (b2 : Bool) (R : List Road) (b3 : Bool) (f : List Span) : h98 (fl + 1) b1 P b2 R b3 f =
    if (checkM P R == 0) = true then some (.one (.bool ((↑f.length : Int) == (↑R.length : Int))), [])
    else some (.one (.bool false), []) := by kernel_rfl
def s98 : Spec := ⟨false, fun av ob => match av, ob with
  | [.agg [.vec b1 .place P, .vec b2 .road R], .one (.vec b3 .span f)], [] => .ret (.one (.bool (rightM P R f)), [])
  | _, _ => .fail⟩
theorem v98 (b1 : Bool) (P : List Place) (b2 : Bool) (R : List Road) (b3 : Bool) (f : List Span) : h98 1 b1 P b2 R b3 f = some (.one (.bool (rightM P R f)), []) := by
  rw [h98_eq]
  unfold rightM
  cases checkM P R == 0 <;> rfl
theorem p98 : SpecOK Try.prog 98 s98 := by
  refine specOK_of (env_ok (l := l98) ⟨⟨p106, f106⟩, trivial⟩) mixed_ok Try.func98 k98 fun av ob r os hrn => ?_
  simp only [s98] at hrn
  split at hrn
  · rename_i b1 P b2 R b3 f
    cases hrn
    have hv := v98 b1 P b2 R b3 f
    unfold h98 at hv
    exact ⟨1, hv⟩
  · cases hrn
theorem f98 : FnOK Try.prog 98 := fnOK_of Try.func98 rfl (by kernel_rfl)
theorem rightM_iff {P : List Place} {R : List Road} {f : List Span} : rightM P R f = true ↔ checkM P R = 0 ∧ f.length = R.length := by
  unfold rightM
  simp only [Bool.and_eq_true, beq_iff_eq]
  omega
end Go.Proofs.Ytipfipnhgpbceaa.Sx
/- The ways of air, by both texts (plain theorems). -/

set_option linter.unusedVariables false
set_option linter.unusedSimpArgs false
set_option maxRecDepth 100000
namespace Go.Proofs.Ytipfipnhgpbceaa.Sx
open Go Go.RowKit
/-- The ways of air along a road, and back. -/
def arcs1 (R : List Road) (f : List Span) (i : Nat) : List Arc :=
  (if can R f i false = true then [⟨i, (R.getD i road0).frm, (R.getD i road0).to⟩] else []) ++ (if can R f i true = true then [⟨i, (R.getD i road0).to, (R.getD i road0).frm⟩] else [])
def arcsF (R : List Road) (f : List Span) : Nat → Nat → List Arc
  | 0, _ => []
  | m + 1, i => arcs1 R f i ++ arcsF R f m (i + 1)
def arcsOf (R : List Road) (f : List Span) : List Arc := arcsF R f R.length 0
theorem arcs1_len (R : List Road) (f : List Span) (i : Nat) : (arcs1 R f i).length ≤ 2 := by
  unfold arcs1
  split <;> split <;> simp
theorem arcsF_len (R : List Road) (f : List Span) : ∀ m i, (arcsF R f m i).length ≤ 2 * m
  | 0, _ => by simp [arcsF]
  | m + 1, i => by
    have h1 := arcs1_len R f i
    have h2 := arcsF_len R f m (i + 1)
    rw [arcsF, List.length_append]; omega
noncomputable def l97 : List (FuncId × Spec) := [(120, s120)]
def k97 : Code → Keep := keepOf [(5, ⟨[1, 6, 21, 22, 23], [(6, .arc)], []⟩)]
noncomputable def h97_0 (fl : Nat) (t1b : Bool) (t1 : List Span) (t21b : Bool) (t21 : List Road) (t22 : Int) (t23 : Int) (m0 : List Arc) : Option (AV × List Ob) := (evalH (env l97) Try.f97 k97 0 fl (stkF Try.f97 [1, 1, 1, 0, 1, 0]) ⟨[.one (.undef), .one (.vec t1b .span t1), .one (.undef), .one (.undef), .one (.undef), .one (.undef), .one (.row 0), .one (.undef), .one (.undef), .one (.undef), .one (.undef), .one (.undef), .one (.undef), .one (.undef), .one (.undef), .one (.undef), .one (.undef), .one (.undef), .one (.undef), .one (.undef), .one (.undef), .one (.vec t21b .road t21), .one (.int .i64 t22), .one (.int .i64 t23), .one (.undef), .one (.undef), .one (.undef), .one (.undef), .one (.undef), .one (.undef), .one (.undef), .one (.undef), .one (.undef), .one (.undef), .one (.undef), .one (.undef), .one (.undef), .one (.undef), .one (.undef), .one (.undef), .one (.undef), .one (.undef), .one (.undef), .one (.undef), .one (.undef), .one (.undef), .one (.undef), .one (.undef), .one (.undef), .one (.undef), .one (.undef), .one (.undef), .one (.undef), .one (.undef), .one (.undef), .one (.undef), .one (.undef), .one (.undef), .one (.undef), .one (.undef), .one (.undef), .one (.undef)], [((0, 0), some (.rows .arc m0))], 1⟩).den
noncomputable def h97 (fl : Nat) (b1 : Bool) (P : List Place) (b2 : Bool) (R : List Road) (b3 : Bool) (f : List Span) : Option (AV × List Ob) := (evalF (env l97) Try.f97 k97 fl [.agg [.vec b1 .place P, .vec b2 .road R], .one (.vec b3 .span f)] []).den
theorem h97_eq (fl : Nat) (b1 : Bool) (P : List Place) (b2 : Bool) (R : List Road) (b3 : Bool) (f : List Span) : h97 (fl + 1) b1 P b2 R b3 f =
    if (!checkM P R == 0) = true then some (.tup [(false, [.nils]), (false, [.bool false])], [])
    else if ((↑f.length : Int) != (↑R.length : Int)) = true then some (.tup [(false, [.nils]), (false, [.bool false])], [])
      else h97_0 fl b3 f b2 R ((↑R.length : Int)) 0 [] := by kernel_rfl
theorem h97_0_eq (fl : Nat) (t1b : Bool) (t1 : List Span) (t21b : Bool) (t21 : List Road) (t22 : Int) (t23 : Int) (m0 : List Arc) : h97_0 (fl + 1) t1b t1 t21b t21 t22 t23 m0 =
    if (decide (t23 < t22)) = true then if (idx t21.length t23) = true then if ((t21.getD t23.toNat (dflt K.road)).closed) = true then h97_0 fl t1b t1 t21b t21 t22 (IntKind.i64.wrap (t23 + 1)) m0
        else if (idx t1.length t23) = true then if (decide ((t1.getD t23.toNat (dflt K.span)).hi > 0)) = true then if (decide ((m0).length + ([{ road := t23, frm := (t21.getD t23.toNat (dflt K.road)).frm, to := (t21.getD t23.toNat (dflt K.road)).to : Arc }]).length ≤ lim)) = true then if (idx t1.length t23) = true then if (decide ((t1.getD t23.toNat (dflt K.span)).lo < 0)) = true then if (decide (((m0 ++ [{ road := t23, frm := (t21.getD t23.toNat (dflt K.road)).frm, to := (t21.getD t23.toNat (dflt K.road)).to : Arc }])).length + ([{ road := t23, frm := (t21.getD t23.toNat (dflt K.road)).to, to := (t21.getD t23.toNat (dflt K.road)).frm : Arc }]).length ≤ lim)) = true then h97_0 fl t1b t1 t21b t21 t22 (IntKind.i64.wrap (t23 + 1)) (m0 ++ [{ road := t23, frm := (t21.getD t23.toNat (dflt K.road)).frm, to := (t21.getD t23.toNat (dflt K.road)).to : Arc }] ++ [{ road := t23, frm := (t21.getD t23.toNat (dflt K.road)).to, to := (t21.getD t23.toNat (dflt K.road)).frm : Arc }])
                    else none
                  else h97_0 fl t1b t1 t21b t21 t22 (IntKind.i64.wrap (t23 + 1)) (m0 ++ [{ road := t23, frm := (t21.getD t23.toNat (dflt K.road)).frm, to := (t21.getD t23.toNat (dflt K.road)).to : Arc }])
                else none
              else none
            else if (idx t1.length t23) = true then if (decide ((t1.getD t23.toNat (dflt K.span)).lo < 0)) = true then if (decide ((m0).length + ([{ road := t23, frm := (t21.getD t23.toNat (dflt K.road)).to, to := (t21.getD t23.toNat (dflt K.road)).frm : Arc }]).length ≤ lim)) = true then h97_0 fl t1b t1 t21b t21 t22 (IntKind.i64.wrap (t23 + 1)) (m0 ++ [{ road := t23, frm := (t21.getD t23.toNat (dflt K.road)).to, to := (t21.getD t23.toNat (dflt K.road)).frm : Arc }])
                  else none
                else h97_0 fl t1b t1 t21b t21 t22 (IntKind.i64.wrap (t23 + 1)) m0
              else none
          else none
      else none
    else some (.tup [(false, [.row 0]), (false, [.bool true])], [.rows .arc m0]) := by kernel_rfl
def decArcs : AV × List Ob → Option (List Arc × Bool)
  | (.tup [(false, [s]), (false, [.bool b])], os) => (match slO .arc 0 os s with | some d => some (d, b) | none => none)
  | _ => none
theorem decArcs_ok {y : AV × List Ob} {x : List Arc × Bool} (h : decArcs y = some x) : ([] : List Ob) = y.2.take 0 ∧ TA y.2 0 y.1 (.tup [(false, [.vec false .arc x.1]), (false, [.bool x.2])]) := by
  unfold decArcs at h
  split at h
  · split at h
    · rename_i d hd
      cases h
      exact ⟨rfl, .tup _ _ ⟨⟨rfl, slO_ok hd, trivial⟩, ⟨rfl, .same _, trivial⟩, trivial⟩⟩
    · cases h
  · cases h
noncomputable def o97 (b1 : Bool) (P : List Place) (b2 : Bool) (R : List Road) (b3 : Bool) (f : List Span) : Option (List Arc × Bool) := (h97 200 b1 P b2 R b3 f).bind (decArcs)
noncomputable def c97 : Spec := ⟨false, fun av ob => match av, ob with
  | [.agg [.vec b1 .place P, .vec b2 .road R], .one (.vec b3 .span f)], [] => .call (o97 b1 P b2 R b3 f) fun x => .ret (.tup [(false, [.vec false .arc x.1]), (false, [.bool x.2])], [])
  | _, _ => .fail⟩
theorem f97 : FnOK Try.prog 97 := fnOK_of Try.func97 rfl (by kernel_rfl)
theorem pc97 : SpecOK Try.prog 97 c97 := by
  refine spec_thaw (fun av ob r os hrn => ?_) (machS_ok (env_ok (l := l97) ⟨⟨p120, f120⟩, trivial⟩) mixed_ok Try.func97 k97 (fun _ _ => 200) false)
  simp only [c97] at hrn
  split at hrn
  · rename_i b1 P b2 R b3 f
    obtain ⟨x, hx, hr⟩ := Option.bind_eq_some_iff.1 hrn
    cases hr
    obtain ⟨y, hy, hd⟩ := Option.bind_eq_some_iff.1 hx
    unfold h97 at hy
    obtain ⟨d1, d2⟩ := decArcs_ok hd
    exact ⟨y.1, y.2, by rw [machS_run]; exact hy, d1, d2⟩
  · cases hrn
theorem arcs_loop (b3 b2 : Bool) (R : List Road) (f : List Span) (hR : R.length ≤ 128) (hf : f.length = R.length) : ∀ (d fl i : Nat) (A : List Arc), R.length - i = d → i ≤ R.length → d < fl → A.length ≤ 2 * i →
    h97_0 fl b3 f b2 R R.length i A = some (.tup [(false, [.row 0]), (false, [.bool true])], [.rows .arc (A ++ arcsF R f d i)])
  | d, fl, i, A, hd, hi, hfl, hA => by
    obtain ⟨fl, rfl⟩ : ∃ q, fl = q + 1 := ⟨fl - 1, by omega⟩
    rw [h97_0_eq]
    by_cases hlt : i < R.length
    · have e1 : ((i : Int)).toNat = i := Int.toNat_natCast i
      have hd0 : dflt K.road = road0 := rfl
      have hd2 : dflt K.span = (⟨0, 0⟩ : Span) := rfl
      have i1 : idx f.length (i : Int) = true := idx_nat (by omega)
      have hl : ∀ (B : List Arc) (z : Arc), B.length ≤ 2 * i + 1 → decide (B.length + [z].length ≤ lim) = true := fun B z hB => by simp [lim]; omega
      cases d with
      | zero => omega
      | succ d =>
        have ih := fun (B : List Arc) (hB : B.length ≤ 2 * (i + 1)) => arcs_loop b3 b2 R f hR hf d fl (i + 1) B (by omega) (by omega) (by omega) hB
        rw [if_pos (lt_nat hlt), if_pos (idx_nat hlt), e1, hd0, hd2, wr_succ (by omega), arcsF]
        unfold arcs1 can
        rw [e1]
        cases hc : (R.getD i road0).closed
        · rw [if_neg (by simp), if_pos i1]
          simp only [Bool.not_false, Bool.true_and, Bool.false_eq_true, if_false, if_true]
          by_cases h1 : (f.getD i ⟨0, 0⟩).hi > 0
          · have h1' : decide ((f.getD i ⟨0, 0⟩).hi > 0) = true := by simpa using h1
            rw [if_pos h1', if_pos h1', if_pos (hl A _ (by omega)), if_pos i1]
            by_cases h2 : (f.getD i ⟨0, 0⟩).lo < 0
            · have h2' : decide ((f.getD i ⟨0, 0⟩).lo < 0) = true := by simpa using h2
              rw [if_pos h2', if_pos h2', if_pos (hl _ _ (by simp; omega)), ih _ (by simp; omega)]
              simp
            · have h2' : ¬ decide ((f.getD i ⟨0, 0⟩).lo < 0) = true := by simpa using h2
              rw [if_neg h2', if_neg h2', ih _ (by simp; omega)]
              simp
          · have h1' : ¬ decide ((f.getD i ⟨0, 0⟩).hi > 0) = true := by simpa using h1
            rw [if_neg h1', if_neg h1', if_pos i1]
            by_cases h2 : (f.getD i ⟨0, 0⟩).lo < 0
            · have h2' : decide ((f.getD i ⟨0, 0⟩).lo < 0) = true := by simpa using h2
              rw [if_pos h2', if_pos h2', if_pos (hl A _ (by omega)), ih _ (by simp; omega)]
              simp
            · have h2' : ¬ decide ((f.getD i ⟨0, 0⟩).lo < 0) = true := by simpa using h2
              rw [if_neg h2', if_neg h2', ih _ (by omega)]
              simp
        · rw [if_pos rfl, ih _ (by omega)]
          simp
    · have : d = 0 := by omega
      subst this
      rw [if_neg (nlt_nat hlt)]
      simp [arcsF]
theorem arcs_eq (b1 : Bool) (P : List Place) (b2 : Bool) (R : List Road) (b3 : Bool) (f : List Span) : o97 b1 P b2 R b3 f = some (if rightM P R f = true then (arcsOf R f, true) else ([], false)) := by
  unfold o97
  rw [h97_eq]
  by_cases hr : rightM P R f = true
  · obtain ⟨h1, h2⟩ := rightM_iff.1 hr
    have h3 := checkM_roads h1
    have e := arcs_loop b3 b2 R f h3.2.1 h2 R.length 199 0 [] (by omega) (by omega) (by omega) (by simp)
    have e' : h97_0 199 b3 f b2 R R.length 0 [] = _ := e
    rw [if_pos hr, h1, if_neg (by simp), if_neg (by simp; omega), e', Option.bind_some]
    simp [decArcs, slO, arcsOf]
  · rw [if_neg hr]
    by_cases h1 : checkM P R = 0
    · have h2 : f.length ≠ R.length := fun e => hr (rightM_iff.2 ⟨h1, e⟩)
      rw [h1, if_neg (by simp), if_pos (by simp; omega)]
      simp [decArcs, slO]
    · rw [if_pos (by simpa using h1)]
      simp [decArcs, slO]
end Go.Proofs.Ytipfipnhgpbceaa.Sx
/- The ways of air as pairs of places, by both texts (plain theorems). -/

set_option linter.unusedVariables false
set_option linter.unusedSimpArgs false
set_option maxRecDepth 100000
namespace Go.Proofs.Ytipfipnhgpbceaa.Sx
open Go Go.RowKit
def pairOf (a : Arc) : Pair := ⟨a.frm, a.to⟩
def waysOf (P : List Place) (R : List Road) (f : List Span) : List Pair := if rightM P R f = true then (arcsOf R f).map pairOf else []
def decPairs : AV × List Ob → Option (List Pair)
  | (.one s, os) => slO .pair 0 os s
  | _ => none
theorem decPairs_ok {y : AV × List Ob} {x : List Pair} (h : decPairs y = some x) : ([] : List Ob) = y.2.take 0 ∧ TA y.2 0 y.1 (.one (.vec false .pair x)) := by
  unfold decPairs at h
  split at h
  · exact ⟨rfl, .one _ _ (slO_ok h) (slO_undef h)⟩
  · cases h
noncomputable def l63 : List (FuncId × Spec) := [(97, c97)]
def k63 : Code → Keep := keepOf [(4, ⟨[7, 16, 17, 18], [(7, .pair)], []⟩)]
noncomputable def h63_0 (fl : Nat) (t16 : List Arc) (t17 : Int) (t18 : Int) (m0 : List Pair) : Option (AV × List Ob) := (evalH (env l63) Try.f63 k63 0 fl (stkF Try.f63 [1, 1, 1, 0, 1, 0]) ⟨[.one (.undef), .one (.undef), .one (.undef), .one (.undef), .one (.undef), .one (.undef), .one (.undef), .one (.row 0), .one (.undef), .one (.undef), .one (.undef), .one (.undef), .one (.undef), .one (.undef), .one (.undef), .one (.undef), .one (.vec false .arc t16), .one (.int .i64 t17), .one (.int .i64 t18), .one (.undef), .one (.undef), .one (.undef), .one (.undef), .one (.undef), .one (.undef), .one (.undef), .one (.undef), .one (.undef), .one (.undef), .one (.undef), .one (.undef), .one (.undef)], [((0, 0), some (.rows .pair m0))], 1⟩).den
noncomputable def h63 (fl : Nat) (b1 : Bool) (P : List Place) (b2 : Bool) (R : List Road) (b3 : Bool) (f : List Span) : Option (AV × List Ob) := (evalF (env l63) Try.f63 k63 fl [.agg [.vec b1 .place P, .vec b2 .road R], .one (.vec b3 .span f)] []).den
theorem h63_eq (fl : Nat) (b1 : Bool) (P : List Place) (b2 : Bool) (R : List Road) (b3 : Bool) (f : List Span) : h63 (fl + 1) b1 P b2 R b3 f =
    (o97 b1 P b2 R b3 f).bind fun x2 =>
    h63_0 fl x2.fst ((↑x2.fst.length : Int)) 0 [] := by kernel_rfl
theorem h63_0_eq (fl : Nat) (t16 : List Arc) (t17 : Int) (t18 : Int) (m0 : List Pair) : h63_0 (fl + 1) t16 t17 t18 m0 =
    if (decide (t18 < t17)) = true then if (idx t16.length t18) = true then if (decide ((m0).length + ([{ a := (t16.getD t18.toNat (dflt K.arc)).frm, b := (t16.getD t18.toNat (dflt K.arc)).to : Pair }]).length ≤ lim)) = true then h63_0 fl t16 t17 (IntKind.i64.wrap (t18 + 1)) (m0 ++ [{ a := (t16.getD t18.toNat (dflt K.arc)).frm, b := (t16.getD t18.toNat (dflt K.arc)).to : Pair }])
        else none
      else none
    else some (.one (.row 0), [.rows .pair m0]) := by kernel_rfl
noncomputable def o63 (b1 : Bool) (P : List Place) (b2 : Bool) (R : List Road) (b3 : Bool) (f : List Span) : Option (List Pair) := (h63 300 b1 P b2 R b3 f).bind (decPairs)
noncomputable def c63 : Spec := ⟨false, fun av ob => match av, ob with
  | [.agg [.vec b1 .place P, .vec b2 .road R], .one (.vec b3 .span f)], [] => .call (o63 b1 P b2 R b3 f) fun x => .ret (.one (.vec false .pair x), [])
  | _, _ => .fail⟩
theorem f63 : FnOK Try.prog 63 := fnOK_of Try.func63 rfl (by kernel_rfl)
theorem pc63 : SpecOK Try.prog 63 c63 := by
  refine spec_thaw (fun av ob r os hrn => ?_) (machS_ok (env_ok (l := l63) ⟨⟨pc97, f97⟩, trivial⟩) mixed_ok Try.func63 k63 (fun _ _ => 300) false)
  simp only [c63] at hrn
  split at hrn
  · rename_i b1 P b2 R b3 f
    obtain ⟨x, hx, hr⟩ := Option.bind_eq_some_iff.1 hrn
    cases hr
    obtain ⟨y, hy, hd⟩ := Option.bind_eq_some_iff.1 hx
    unfold h63 at hy
    obtain ⟨d1, d2⟩ := decPairs_ok hd
    exact ⟨y.1, y.2, by rw [machS_run]; exact hy, d1, d2⟩
  · cases hrn
theorem ways_loop (A : List Arc) (hA : A.length ≤ 256) : ∀ (d fl i : Nat) (p : List Pair), A.length - i = d → i ≤ A.length → d < fl → p.length = i → h63_0 fl A A.length i p = some (.one (.row 0), [.rows .pair (p ++ (A.drop i).map pairOf)])
  | d, fl, i, p, hd, hi, hf, hp => by
    obtain ⟨fl, rfl⟩ : ∃ q, fl = q + 1 := ⟨fl - 1, by omega⟩
    rw [h63_0_eq]
    by_cases hlt : i < A.length
    · rw [if_pos (lt_nat hlt), if_pos (idx_nat hlt), if_pos (show decide (p.length + [_].length ≤ lim) = true by simp [lim]; omega), wr_succ (by omega), at_lt hlt]
      cases d with
      | zero => omega
      | succ d =>
        rw [ways_loop A hA d fl (i + 1) _ (by omega) (by omega) (by omega) (by simp; omega), List.drop_eq_getElem_cons hlt]
        simp only [List.map_cons, List.append_assoc, List.cons_append, List.nil_append]
        rfl
    · rw [if_neg (nlt_nat hlt), List.drop_eq_nil_of_le (by omega)]
      simp
theorem ways_eq (b1 : Bool) (P : List Place) (b2 : Bool) (R : List Road) (b3 : Bool) (f : List Span) : o63 b1 P b2 R b3 f = some (waysOf P R f) := by
  unfold o63 waysOf
  rw [h63_eq, arcs_eq, Option.bind_some]
  by_cases hr : rightM P R f = true
  · have h3 := checkM_roads (rightM_iff.1 hr).1
    have hl := arcsF_len R f R.length 0
    rw [if_pos hr, if_pos hr]
    have e := ways_loop (arcsOf R f) (by unfold arcsOf; omega) (arcsOf R f).length 299 0 [] (by omega) (by omega) (by unfold arcsOf; omega) rfl
    have e' : h63_0 299 (arcsOf R f) (arcsOf R f).length 0 [] = _ := e
    rw [e', Option.bind_some]
    simp [decPairs, slO]
  · rw [if_neg hr, if_neg hr]
    have e := ways_loop [] (by simp) 0 299 0 [] rfl (by simp) (by omega) rfl
    have e' : h63_0 299 [] (([] : List Arc).length : Int) 0 [] = _ := e
    rw [e', Option.bind_some]
    simp [decPairs, slO]
noncomputable def l64 : List (FuncId × Spec) := [(98, s98), (99, s99), (100, s100)]
def k64 : Code → Keep := keepOf [(5, ⟨[1, 2, 5, 6], [(5, .pair)], []⟩), (8, ⟨[1, 2, 5, 6, 7], [(5, .pair)], []⟩)]
noncomputable def h64_0 (fl : Nat) (t1b : Bool) (t1 : List Span) (t6 : Int) (m0_0b : Bool) (m0_0 : List Place) (m0_1b : Bool) (m0_1 : List Road) (m1 : List Pair) : Option (AV × List Ob) := (evalH (env l64) Try.f64 k64 0 fl (stkF Try.f64 [1, 1, 1, 0, 1, 0]) ⟨[.one (.undef), .one (.vec t1b .span t1), .one (.ptr 0 0), .one (.undef), .one (.undef), .one (.row 1), .one (.int .i64 t6), .one (.undef), .one (.undef), .one (.undef), .one (.undef), .one (.undef), .one (.undef), .one (.undef), .one (.undef), .one (.undef), .one (.undef), .one (.undef), .one (.undef), .one (.undef), .one (.undef), .one (.undef), .one (.undef), .one (.undef), .one (.undef), .one (.undef), .one (.undef), .one (.undef), .one (.undef), .one (.undef), .one (.undef), .one (.undef), .one (.undef), .one (.undef), .one (.undef), .one (.undef), .one (.undef), .one (.undef), .one (.undef), .one (.undef), .one (.undef), .one (.undef), .one (.undef), .one (.undef), .one (.undef), .one (.undef)], [((0, 0), some (.cell (.vec m0_0b .place m0_0))), ((0, 1), some (.cell (.vec m0_1b .road m0_1))), ((1, 0), some (.rows .pair m1))], 2⟩).den
noncomputable def h64_1 (fl : Nat) (t1b : Bool) (t1 : List Span) (t6 : Int) (t7 : Int) (m0_0b : Bool) (m0_0 : List Place) (m0_1b : Bool) (m0_1 : List Road) (m1 : List Pair) : Option (AV × List Ob) := (evalH (env l64) Try.f64 k64 0 fl (stkF Try.f64 [1, 1, 1, 0, 1, 0, 0, 1, 0, 0, 1, 0]) ⟨[.one (.undef), .one (.vec t1b .span t1), .one (.ptr 0 0), .one (.undef), .one (.undef), .one (.row 1), .one (.int .i64 t6), .one (.int .i64 t7), .one (.undef), .one (.undef), .one (.undef), .one (.undef), .one (.undef), .one (.undef), .one (.undef), .one (.undef), .one (.undef), .one (.undef), .one (.undef), .one (.undef), .one (.undef), .one (.undef), .one (.undef), .one (.undef), .one (.undef), .one (.undef), .one (.undef), .one (.undef), .one (.undef), .one (.undef), .one (.undef), .one (.undef), .one (.undef), .one (.undef), .one (.undef), .one (.undef), .one (.undef), .one (.undef), .one (.undef), .one (.undef), .one (.undef), .one (.undef), .one (.undef), .one (.undef), .one (.undef), .one (.undef)], [((0, 0), some (.cell (.vec m0_0b .place m0_0))), ((0, 1), some (.cell (.vec m0_1b .road m0_1))), ((1, 0), some (.rows .pair m1))], 2⟩).den
noncomputable def h64 (fl : Nat) (b1 : Bool) (P : List Place) (b2 : Bool) (R : List Road) (b3 : Bool) (f : List Span) : Option (AV × List Ob) := (evalF (env l64) Try.f64 k64 fl [.agg [.vec b1 .place P, .vec b2 .road R], .one (.vec b3 .span f)] []).den
theorem h64_eq (fl : Nat) (b1 : Bool) (P : List Place) (b2 : Bool) (R : List Road) (b3 : Bool) (f : List Span) : h64 (fl + 1) b1 P b2 R b3 f =
    if (!rightM P R f) = true then some (.one (.nils), [])
    else h64_0 fl b3 f 0 b1 P b2 R [] := by kernel_rfl
theorem h64_0_eq (fl : Nat) (t1b : Bool) (t1 : List Span) (t6 : Int) (m0_0b : Bool) (m0_0 : List Place) (m0_1b : Bool) (m0_1 : List Road) (m1 : List Pair) : h64_0 (fl + 1) t1b t1 t6 m0_0b m0_0 m0_1b m0_1 m1 =
    if (decide (t6 < (↑m0_1.length : Int))) = true then h64_1 fl t1b t1 t6 0 m0_0b m0_0 m0_1b m0_1 m1
    else some (.one (.row 0), [.rows .pair m1]) := by kernel_rfl
theorem h64_1_eq (fl : Nat) (t1b : Bool) (t1 : List Span) (t6 : Int) (t7 : Int) (m0_0b : Bool) (m0_0 : List Place) (m0_1b : Bool) (m0_1 : List Road) (m1 : List Pair) : h64_1 (fl + 1) t1b t1 t6 t7 m0_0b m0_0 m0_1b m0_1 m1 =
    if (decide (t7 < 2)) = true then if (idx m0_1.length t6 && idx t1.length t6) = true then if (can m0_1 t1 t6 (t7 == 1)) = true then if (idx m0_1.length t6) = true then if (decide ((m1).length + ([{ a := endA m0_1 t6 (t7 == 1), b := endB m0_1 t6 (t7 == 1) : Pair }]).length ≤ lim)) = true then h64_1 fl t1b t1 t6 (IntKind.i64.wrap (t7 + 1)) m0_0b m0_0 m0_1b m0_1 (m1 ++ [{ a := endA m0_1 t6 (t7 == 1), b := endB m0_1 t6 (t7 == 1) : Pair }])
            else none
          else none
        else h64_1 fl t1b t1 t6 (IntKind.i64.wrap (t7 + 1)) m0_0b m0_0 m0_1b m0_1 m1
      else none
    else h64_0 fl t1b t1 (IntKind.i64.wrap (t6 + 1)) m0_0b m0_0 m0_1b m0_1 m1 := by kernel_rfl
noncomputable def o64 (b1 : Bool) (P : List Place) (b2 : Bool) (R : List Road) (b3 : Bool) (f : List Span) : Option (List Pair) := (h64 1000 b1 P b2 R b3 f).bind (decPairs)
noncomputable def c64 : Spec := ⟨false, fun av ob => match av, ob with
  | [.agg [.vec b1 .place P, .vec b2 .road R], .one (.vec b3 .span f)], [] => .call (o64 b1 P b2 R b3 f) fun x => .ret (.one (.vec false .pair x), [])
  | _, _ => .fail⟩
theorem f64 : FnOK Try.prog 64 := fnOK_of Try.func64 rfl (by kernel_rfl)
theorem pc64 : SpecOK Try.prog 64 c64 := by
  refine spec_thaw (fun av ob r os hrn => ?_) (machS_ok (env_ok (l := l64) ⟨⟨p98, f98⟩, ⟨⟨p99, f99⟩, ⟨⟨p100, f100⟩, trivial⟩⟩⟩) mixed_ok Try.func64 k64 (fun _ _ => 1000) false)
  simp only [c64] at hrn
  split at hrn
  · rename_i b1 P b2 R b3 f
    obtain ⟨x, hx, hr⟩ := Option.bind_eq_some_iff.1 hrn
    cases hr
    obtain ⟨y, hy, hd⟩ := Option.bind_eq_some_iff.1 hx
    unfold h64 at hy
    obtain ⟨d1, d2⟩ := decPairs_ok hd
    exact ⟨y.1, y.2, by rw [machS_run]; exact hy, d1, d2⟩
  · cases hrn
theorem arcs1_pairs (R : List Road) (f : List Span) (i : Nat) : (arcs1 R f i).map pairOf = (if can R f i false = true then [⟨endA R i false, endB R i false⟩] else []) ++ (if can R f i true = true then [⟨endA R i true, endB R i true⟩] else []) := by
  unfold arcs1 endA endB
  cases can R f i false <;> cases can R f i true <;> simp [pairOf]
theorem rways_loop (b1 b2 b3 : Bool) (P : List Place) (R : List Road) (f : List Span) (hR : R.length ≤ 128) (hf : f.length = R.length) : ∀ (d fl i : Nat) (p : List Pair), R.length - i = d → i ≤ R.length → 4 * d < fl → p.length ≤ 2 * i →
    h64_0 fl b3 f i b1 P b2 R p = some (.one (.row 0), [.rows .pair (p ++ (arcsF R f d i).map pairOf)])
  | d, fl, i, p, hd, hi, hfl, hp => by
    obtain ⟨fl, rfl⟩ : ∃ q, fl = q + 1 := ⟨fl - 1, by omega⟩
    rw [h64_0_eq]
    by_cases hlt : i < R.length
    · rw [if_pos (lt_nat hlt)]
      cases d with
      | zero => omega
      | succ d =>
        obtain ⟨fl, rfl⟩ : ∃ q, fl = q + 3 := ⟨fl - 3, by omega⟩
        have ih := fun (B : List Pair) (hB : B.length ≤ 2 * (i + 1)) => rways_loop b1 b2 b3 P R f hR hf d fl (i + 1) B (by omega) (by omega) (by omega) hB
        have i1 : (idx R.length (i : Int) && idx f.length (i : Int)) = true := by rw [idx_nat hlt, idx_nat (by omega)]; rfl
        have i2 : idx R.length (i : Int) = true := idx_nat hlt
        have hl : ∀ (B : List Pair) (z : Pair), B.length ≤ 2 * i + 1 → decide (B.length + [z].length ≤ lim) = true := fun B z hB => by simp [lim]; omega
        have z1 : ((0 : Int) == 1) = false := rfl
        have z2 : ((1 : Int) == 1) = true := rfl
        have w1 : IntKind.i64.wrap ((0 : Int) + 1) = 1 := rfl
        have w2 : IntKind.i64.wrap ((1 : Int) + 1) = 2 := rfl
        have last : ∀ (B : List Pair), B.length ≤ 2 * (i + 1) → h64_1 (fl + 1) b3 f i 2 b1 P b2 R B = some (.one (.row 0), [.rows .pair (B ++ (arcsF R f d (i + 1)).map pairOf)]) := fun B hB => by
          rw [h64_1_eq, if_neg (by simp), wr_succ (by omega)]
          exact ih B hB
        have second : ∀ (B : List Pair), B.length ≤ 2 * i + 1 → h64_1 (fl + 2) b3 f i 1 b1 P b2 R B = some (.one (.row 0), [.rows .pair (B ++ (if can R f i true = true then [⟨endA R i true, endB R i true⟩] else []) ++ (arcsF R f d (i + 1)).map pairOf)]) := fun B hB => by
          rw [h64_1_eq, if_pos (by simp), if_pos i1, z2, w2]
          by_cases c : can R f i true = true
          · rw [if_pos c, if_pos i2, if_pos (hl B _ hB), if_pos c, last _ (by simp; omega)]
          · rw [if_neg c, if_neg c, last _ (by omega), List.append_nil]
        rw [h64_1_eq, if_pos (by simp), if_pos i1, z1, w1, arcsF, List.map_append, arcs1_pairs]
        by_cases c : can R f i false = true
        · rw [if_pos c, if_pos i2, if_pos (hl p _ (by omega)), if_pos c, second _ (by simp; omega)]
          simp
        · rw [if_neg c, if_neg c, second _ (by omega)]
          simp
    · have : d = 0 := by omega
      subst this
      rw [if_neg (nlt_nat hlt)]
      simp [arcsF]
theorem rways_eq (b1 : Bool) (P : List Place) (b2 : Bool) (R : List Road) (b3 : Bool) (f : List Span) : o64 b1 P b2 R b3 f = some (waysOf P R f) := by
  unfold o64 waysOf
  rw [h64_eq]
  by_cases hr : rightM P R f = true
  · obtain ⟨h1, h2⟩ := rightM_iff.1 hr
    have h3 := checkM_roads h1
    have e := rways_loop b1 b2 b3 P R f h3.2.1 h2 R.length 999 0 [] (by omega) (by omega) (by omega) (by simp)
    have e' : h64_0 999 b3 f 0 b1 P b2 R [] = _ := e
    rw [if_neg (by simp [hr]), if_pos hr, e', Option.bind_some]
    simp [decPairs, slO, arcsOf]
  · rw [if_pos (by simpa using hr), if_neg hr]
    simp [decPairs, slO]
end Go.Proofs.Ytipfipnhgpbceaa.Sx
/- Where air comes to: the least places that hold some and are closed under the ways of air (plain theorems). -/

set_option linter.unusedVariables false
set_option linter.unusedSimpArgs false
set_option maxRecDepth 100000
namespace Go.Proofs.Ytipfipnhgpbceaa.Sx
open Go Go.RowKit
abbrev bt (s : List Bool) (i : Nat) : Bool := s.getD i false
/-- The least list of places that holds some and is closed. -/
structure LeastC (n : Nat) (E : Nat → Nat → Prop) (s r : List Bool) : Prop where
  len : r.length = n
  sub : ∀ i, bt s i = true → bt r i = true
  closed : ∀ a b, E a b → bt r a = true → bt r b = true
  least : ∀ T : Nat → Prop, (∀ i, bt s i = true → T i) → (∀ a b, E a b → T a → T b) → ∀ i, bt r i = true → T i
theorem LeastC.uni {n : Nat} {E E' : Nat → Nat → Prop} {s r r' : List Bool} (h : LeastC n E s r) (h' : LeastC n E' s r') (hE : ∀ a b, E a b → bt r' a = true → bt r' b = true) (hE' : ∀ a b, E' a b → bt r a = true → bt r b = true) : r = r' := by
  refine List.ext_getElem (by rw [h.len, h'.len]) (fun i h1 h2 => ?_)
  have g1 : r[i] = bt r i := by unfold bt; rw [List.getD_eq_getElem?_getD, List.getElem?_eq_getElem h1]; rfl
  have g2 : r'[i] = bt r' i := by unfold bt; rw [List.getD_eq_getElem?_getD, List.getElem?_eq_getElem h2]; rfl
  rw [g1, g2]
  have k1 := h.least (fun i => bt r' i = true) h'.sub hE i
  have k2 := h'.least (fun i => bt r i = true) h.sub hE' i
  cases e1 : bt r i <;> cases e2 : bt r' i
  · rfl
  · rw [k2 e2] at e1; cases e1
  · rw [k1 e1] at e2; cases e2
  · rfl
/-- A list on the way there. -/
structure GoodC (n : Nat) (E : Nat → Nat → Prop) (s m : List Bool) : Prop where
  len : m.length = n
  sub : ∀ i, bt s i = true → bt m i = true
  least : ∀ T : Nat → Prop, (∀ i, bt s i = true → T i) → (∀ a b, E a b → T a → T b) → ∀ i, bt m i = true → T i
theorem bt_set (m : List Bool) {j : Nat} (hj : j < m.length) (i : Nat) : bt (m.set j true) i = if i = j then true else bt m i := by
  unfold bt
  by_cases h : i = j
  · subst h; rw [if_pos rfl, getD_set_eq hj]
  · rw [if_neg h, getD_set_ne2 (fun e => h e.symm)]
theorem GoodC.step {n : Nat} {E : Nat → Nat → Prop} {s m : List Bool} (h : GoodC n E s m) {a b : Nat} (hE : E a b) (ha : bt m a = true) (hb : b < n) : GoodC n E s (m.set b true) := by
  have hl := h.len
  refine ⟨by rw [List.length_set, hl], fun i hi => ?_, fun T h1 h2 i hi => ?_⟩
  · rw [bt_set m (by omega)]
    split
    · rfl
    · exact h.sub i hi
  · rw [bt_set m (by omega)] at hi
    split at hi
    · rename_i e
      rw [e]
      exact h2 a b hE (h.least T h1 h2 a ha)
    · exact h.least T h1 h2 i hi
/-- How many hold. -/
def cnt : List Bool → Nat
  | [] => 0
  | b :: l => (if b = true then 1 else 0) + cnt l
theorem cnt_le : ∀ l : List Bool, cnt l ≤ l.length
  | [] => Nat.le_refl _
  | b :: l => by have := cnt_le l; simp only [cnt, List.length_cons]; split <;> omega
theorem cnt_set : ∀ (l : List Bool) (i : Nat), i < l.length → bt l i = false → cnt (l.set i true) = cnt l + 1
  | b :: l, 0, _, h => by
    have : b = false := h
    subst this
    simp [cnt]; omega
  | b :: l, i + 1, hi, h => by
    have := cnt_set l i (by simpa using hi) h
    simp only [List.set_cons_succ, cnt, this]; omega
def surf (P : List Place) (i : Nat) : Bool := (P.getD i place0).surface
def Esp (P : List Place) (L : List Arc) (w : Int) (a b : Nat) : Prop := ∃ x ∈ L, x.road ≠ w ∧ x.frm = a ∧ x.to = b ∧ surf P b = false
def ArcsIn (n : Nat) (L : List Arc) : Prop := ∀ x ∈ L, 0 ≤ x.frm ∧ x.frm < n ∧ 0 ≤ x.to ∧ x.to < n
def decBools : AV × List Ob → Option (List Bool)
  | (.one s, os) => slO .bool 0 os s
  | _ => none
theorem decBools_ok {y : AV × List Ob} {x : List Bool} (h : decBools y = some x) : ([] : List Ob) = y.2.take 0 ∧ TA y.2 0 y.1 (.one (.vec false .bool x)) := by
  unfold decBools at h
  split at h
  · exact ⟨rfl, .one _ _ (slO_ok h) (slO_undef h)⟩
  · cases h
noncomputable def l103 : List (FuncId × Spec) := []
def k103 : Code → Keep := keepOf [(3, ⟨[1, 3, 4, 9, 10], [], []⟩), (6, ⟨[1, 3, 4, 9, 10, 16, 17, 18], [], []⟩)]
noncomputable def h103_0 (fl : Nat) (t1b : Bool) (t1 : List Arc) (t3 : Int) (t10 : Bool) (m0_0b : Bool) (m0_0 : List Place) (m0_1b : Bool) (m0_1 : List Road) (m1 : List Bool) : Option (AV × List Ob) := (evalH (env l103) Try.f103 k103 0 fl (stkF Try.f103 [1, 1, 0, 1, 0]) ⟨[.one (.undef), .one (.vec t1b .arc t1), .one (.undef), .one (.int .i64 t3), .one (.ptr 0 0), .one (.undef), .one (.undef), .one (.undef), .one (.undef), .one (.row 1), .one (.bool t10), .one (.undef), .one (.undef), .one (.undef), .one (.undef), .one (.undef), .one (.undef), .one (.undef), .one (.undef), .one (.undef), .one (.undef), .one (.undef), .one (.undef), .one (.undef), .one (.undef), .one (.undef), .one (.undef), .one (.undef), .one (.undef), .one (.undef), .one (.undef), .one (.undef), .one (.undef), .one (.undef), .one (.undef), .one (.undef), .one (.undef), .one (.undef), .one (.undef), .one (.undef), .one (.undef), .one (.undef), .one (.undef), .one (.undef), .one (.undef), .one (.undef), .one (.undef), .one (.undef), .one (.undef), .one (.undef), .one (.undef), .one (.undef), .one (.undef), .one (.undef), .one (.undef), .one (.undef), .one (.undef)], [((0, 0), some (.cell (.vec m0_0b .place m0_0))), ((0, 1), some (.cell (.vec m0_1b .road m0_1))), ((1, 0), some (.rows .bool m1))], 2⟩).den
noncomputable def h103_1 (fl : Nat) (t1b : Bool) (t1 : List Arc) (t3 : Int) (t10 : Bool) (t16b : Bool) (t16 : List Arc) (t17 : Int) (t18 : Int) (m0_0b : Bool) (m0_0 : List Place) (m0_1b : Bool) (m0_1 : List Road) (m1 : List Bool) : Option (AV × List Ob) := (evalH (env l103) Try.f103 k103 0 fl (stkF Try.f103 [1, 1, 0, 1, 0, 0, 1, 0, 1, 1, 0]) ⟨[.one (.undef), .one (.vec t1b .arc t1), .one (.undef), .one (.int .i64 t3), .one (.ptr 0 0), .one (.undef), .one (.undef), .one (.undef), .one (.undef), .one (.row 1), .one (.bool t10), .one (.undef), .one (.undef), .one (.undef), .one (.undef), .one (.undef), .one (.vec t16b .arc t16), .one (.int .i64 t17), .one (.int .i64 t18), .one (.undef), .one (.undef), .one (.undef), .one (.undef), .one (.undef), .one (.undef), .one (.undef), .one (.undef), .one (.undef), .one (.undef), .one (.undef), .one (.undef), .one (.undef), .one (.undef), .one (.undef), .one (.undef), .one (.undef), .one (.undef), .one (.undef), .one (.undef), .one (.undef), .one (.undef), .one (.undef), .one (.undef), .one (.undef), .one (.undef), .one (.undef), .one (.undef), .one (.undef), .one (.undef), .one (.undef), .one (.undef), .one (.undef), .one (.undef), .one (.undef), .one (.undef), .one (.undef), .one (.undef)], [((0, 0), some (.cell (.vec m0_0b .place m0_0))), ((0, 1), some (.cell (.vec m0_1b .road m0_1))), ((1, 0), some (.rows .bool m1))], 2⟩).den
noncomputable def h103 (fl : Nat) (b1 : Bool) (P : List Place) (b2 : Bool) (R : List Road) (b3 : Bool) (L : List Arc) (b4 : Bool) (s : List Bool) (w : Int) : Option (AV × List Ob) := (evalF (env l103) Try.f103 k103 fl [.agg [.vec b1 .place P, .vec b2 .road R], .one (.vec b3 .arc L), .one (.vec b4 .bool s), .one (.int .i64 w)] []).den
theorem h103_eq (fl : Nat) (b1 : Bool) (P : List Place) (b2 : Bool) (R : List Road) (b3 : Bool) (L : List Arc) (b4 : Bool) (s : List Bool) (w : Int) : h103 (fl + 1) b1 P b2 R b3 L b4 s w =
    if (decide ((0 : Nat) + (s).length ≤ lim)) = true then h103_0 fl b3 L w true b1 P b2 R ([] ++ s)
    else none := by kernel_rfl
theorem h103_0_eq (fl : Nat) (t1b : Bool) (t1 : List Arc) (t3 : Int) (t10 : Bool) (m0_0b : Bool) (m0_0 : List Place) (m0_1b : Bool) (m0_1 : List Road) (m1 : List Bool) : h103_0 (fl + 1) t1b t1 t3 t10 m0_0b m0_0 m0_1b m0_1 m1 =
    if t10 = true then h103_1 fl t1b t1 t3 false t1b t1 ((↑t1.length : Int)) 0 m0_0b m0_0 m0_1b m0_1 m1
    else some (.one (.row 0), [.rows .bool m1]) := by kernel_rfl
theorem h103_1_eq (fl : Nat) (t1b : Bool) (t1 : List Arc) (t3 : Int) (t10 : Bool) (t16b : Bool) (t16 : List Arc) (t17 : Int) (t18 : Int) (m0_0b : Bool) (m0_0 : List Place) (m0_1b : Bool) (m0_1 : List Road) (m1 : List Bool) : h103_1 (fl + 1) t1b t1 t3 t10 t16b t16 t17 t18 m0_0b m0_0 m0_1b m0_1 m1 =
    if (decide (t18 < t17)) = true then if (idx t16.length t18) = true then if ((t16.getD t18.toNat (dflt K.arc)).road != t3) = true then if (idx m1.length (t16.getD t18.toNat (dflt K.arc)).frm) = true then if (m1.getD (t16.getD t18.toNat (dflt K.arc)).frm.toNat (dflt K.bool)) = true then if (idx m1.length (t16.getD t18.toNat (dflt K.arc)).to) = true then if (!m1.getD (t16.getD t18.toNat (dflt K.arc)).to.toNat (dflt K.bool)) = true then if (idx m0_0.length (t16.getD t18.toNat (dflt K.arc)).to) = true then if (!(m0_0.getD (t16.getD t18.toNat (dflt K.arc)).to.toNat (dflt K.place)).surface) = true then if (idx m1.length (t16.getD t18.toNat (dflt K.arc)).to) = true then h103_1 fl t1b t1 t3 true t16b t16 t17 (IntKind.i64.wrap (t18 + 1)) m0_0b m0_0 m0_1b m0_1 (m1.set (t16.getD t18.toNat (dflt K.arc)).to.toNat true)
                      else none
                    else h103_1 fl t1b t1 t3 t10 t16b t16 t17 (IntKind.i64.wrap (t18 + 1)) m0_0b m0_0 m0_1b m0_1 m1
                  else none
                else h103_1 fl t1b t1 t3 t10 t16b t16 t17 (IntKind.i64.wrap (t18 + 1)) m0_0b m0_0 m0_1b m0_1 m1
              else none
            else h103_1 fl t1b t1 t3 t10 t16b t16 t17 (IntKind.i64.wrap (t18 + 1)) m0_0b m0_0 m0_1b m0_1 m1
          else none
        else h103_1 fl t1b t1 t3 t10 t16b t16 t17 (IntKind.i64.wrap (t18 + 1)) m0_0b m0_0 m0_1b m0_1 m1
      else none
    else h103_0 fl t1b t1 t3 t10 m0_0b m0_0 m0_1b m0_1 m1 := by kernel_rfl
noncomputable def o103 (b1 : Bool) (P : List Place) (b2 : Bool) (R : List Road) (b3 : Bool) (L : List Arc) (b4 : Bool) (s : List Bool) (w : Int) : Option (List Bool) := (h103 20000 b1 P b2 R b3 L b4 s w).bind (decBools)
noncomputable def c103 : Spec := ⟨false, fun av ob => match av, ob with
  | [.agg [.vec b1 .place P, .vec b2 .road R], .one (.vec b3 .arc L), .one (.vec b4 .bool s), .one (.int .i64 w)], [] => .call (o103 b1 P b2 R b3 L b4 s w) fun x => .ret (.one (.vec false .bool x), [])
  | _, _ => .fail⟩
theorem f103 : FnOK Try.prog 103 := fnOK_of Try.func103 rfl (by kernel_rfl)
theorem pc103 : SpecOK Try.prog 103 c103 := by
  refine spec_thaw (fun av ob r os hrn => ?_) (machS_ok (env_ok (l := l103) trivial) mixed_ok Try.func103 k103 (fun _ _ => 20000) false)
  simp only [c103] at hrn
  split at hrn
  · rename_i b1 P b2 R b3 L b4 s w
    obtain ⟨x, hx, hr⟩ := Option.bind_eq_some_iff.1 hrn
    cases hr
    obtain ⟨y, hy, hd⟩ := Option.bind_eq_some_iff.1 hx
    unfold h103 at hy
    obtain ⟨d1, d2⟩ := decBools_ok hd
    exact ⟨y.1, y.2, by rw [machS_run]; exact hy, d1, d2⟩
  · cases hrn
def EndC (n : Nat) (E : Nat → Nat → Prop) (s : List Bool) (o : Option (AV × List Ob)) : Prop := ∃ r, o = some (.one (.row 0), [.rows .bool r]) ∧ LeastC n E s r
theorem spread1 (b1 b2 b3 : Bool) (P : List Place) (R : List Road) (L : List Arc) (w : Int) (s : List Bool) (hL : ArcsIn P.length L) (hLl : L.length ≤ 300) (m0 : List Bool) (F : Nat)
    (hlater : ∀ (fl : Nat) (m : List Bool), F ≤ fl → GoodC P.length (Esp P L w) s m → cnt m0 < cnt m → EndC P.length (Esp P L w) s (h103_0 fl b3 L w true b1 P b2 R m)) :
    ∀ (d fl k : Nat) (again : Bool) (m : List Bool), L.length - k = d → k ≤ L.length → F + d + 2 < fl → GoodC P.length (Esp P L w) s m → (again = true → cnt m0 < cnt m) → (again = false → m = m0 ∧ ∀ j (hj : j < L.length), j < k → (L[j]).road ≠ w → surf P (L[j]).to.toNat = false → bt m0 (L[j]).frm.toNat = true → bt m0 (L[j]).to.toNat = true) →
    EndC P.length (Esp P L w) s (h103_1 fl b3 L w again b3 L L.length k b1 P b2 R m)
  | d, fl, k, again, m, hd, hk, hfl, hG, ht, hf => by
    obtain ⟨fl, rfl⟩ : ∃ q, fl = q + 1 := ⟨fl - 1, by omega⟩
    rw [h103_1_eq]
    by_cases hlt : k < L.length
    · have hx := hL _ (List.getElem_mem hlt)
      have hb0 : dflt K.bool = false := rfl
      have hp0 : dflt K.place = place0 := rfl
      rw [if_pos (lt_nat hlt), if_pos (idx_nat hlt), at_lt hlt, wr_succ (by omega), hb0, hp0]
      cases d with
      | zero => omega
      | succ d =>
        have ih := fun (again : Bool) (m : List Bool) => spread1 b1 b2 b3 P R L w s hL hLl m0 F hlater d fl (k + 1) again m (by omega) (by omega) (by omega)
        -- this arc adds nothing
        have none_ : (∀ (_ : again = false), (L[k]).road ≠ w → surf P (L[k]).to.toNat = false → bt m0 (L[k]).frm.toNat = true → bt m0 (L[k]).to.toNat = true) → EndC P.length (Esp P L w) s (h103_1 fl b3 L w again b3 L L.length ((k + 1 : Nat) : Int) b1 P b2 R m) := fun hn => by
          refine ih again m hG ht (fun ha => ⟨(hf ha).1, fun j hj hjk => ?_⟩)
          by_cases e : j = k
          · subst e; exact hn ha
          · exact (hf ha).2 j hj (by omega)
        generalize hX : L[k] = x at *
        by_cases c1 : x.road = w
        · rw [if_neg (by simpa using c1)]
          exact none_ (fun _ h => absurd c1 h)
        have i1 : idx m.length x.frm = true := idx_of hx.1 (by rw [hG.len]; exact hx.2.1)
        have i2 : idx m.length x.to = true := idx_of hx.2.2.1 (by rw [hG.len]; exact hx.2.2.2)
        have i3 : idx P.length x.to = true := idx_of hx.2.2.1 hx.2.2.2
        rw [if_pos (by simpa using c1), if_pos i1]
        by_cases c2 : bt m x.frm.toNat = true
        · rw [if_pos c2, if_pos i2]
          by_cases c3 : bt m x.to.toNat = true
          · rw [if_neg (show ¬ (!m.getD x.to.toNat false) = true by show ¬ (!bt m x.to.toNat) = true; rw [c3]; simp)]
            exact none_ (fun ha _ _ _ => by rw [← (hf ha).1]; exact c3)
          · rw [if_pos (show (!m.getD x.to.toNat false) = true by show (!bt m x.to.toNat) = true; simpa using c3), if_pos i3]
            by_cases c4 : surf P x.to.toNat = true
            · rw [if_neg (show ¬ (!(P.getD x.to.toNat place0).surface) = true by show ¬ (!surf P x.to.toNat) = true; rw [c4]; simp)]
              exact none_ (fun ha _ h _ => by rw [c4] at h; cases h)
            · have c4' : surf P x.to.toNat = false := by simpa using c4
              rw [if_pos (show (!(P.getD x.to.toNat place0).surface) = true by show (!surf P x.to.toNat) = true; rw [c4']; rfl), if_pos i2]
              have hE : Esp P L w x.frm.toNat x.to.toNat := ⟨x, by rw [← hX]; exact List.getElem_mem hlt, c1, by omega, by omega, c4'⟩
              have hlen := hG.len
              have hc := cnt_set m x.to.toNat (by omega) (by simpa using c3)
              refine ih true _ (hG.step hE c2 (by omega)) (fun _ => ?_) (fun e => by cases e)
              rw [hc]
              cases again with
              | true => have := ht rfl; omega
              | false => rw [(hf rfl).1]; omega
        · rw [if_neg c2]
          exact none_ (fun ha _ _ h => by rw [← (hf ha).1] at h; exact absurd h c2)
    · rw [if_neg (nlt_nat hlt)]
      cases again with
      | true => exact hlater fl m (by omega) hG (ht rfl)
      | false =>
        obtain ⟨e, hcl⟩ := hf rfl
        obtain ⟨fl, rfl⟩ : ∃ q, fl = q + 1 := ⟨fl - 1, by omega⟩
        rw [h103_0_eq, if_neg (by simp)]
        refine ⟨m, rfl, hG.len, hG.sub, fun a b hE ha => ?_, hG.least⟩
        obtain ⟨x, hxm, g1, g2, g3, g4⟩ := hE
        obtain ⟨j, hj, hxe⟩ := List.getElem_of_mem hxm
        have := hcl j hj (by omega)
        rw [hxe, g2, g3, Int.toNat_natCast, Int.toNat_natCast, ← e] at this
        exact this g1 g4 ha
theorem spread0 (b1 b2 b3 : Bool) (P : List Place) (R : List Road) (L : List Arc) (w : Int) (s : List Bool) (hL : ArcsIn P.length L) (hLl : L.length ≤ 300) : ∀ (c fl : Nat) (m : List Bool), P.length - cnt m ≤ c → (c + 1) * (L.length + 5) < fl → GoodC P.length (Esp P L w) s m → EndC P.length (Esp P L w) s (h103_0 fl b3 L w true b1 P b2 R m)
  | c, fl, m, hc, hfl, hG => by
    obtain ⟨fl, rfl⟩ : ∃ q, fl = q + 1 := ⟨fl - 1, by omega⟩
    rw [h103_0_eq, if_pos rfl]
    have hle := cnt_le m
    rw [hG.len] at hle
    refine spread1 b1 b2 b3 P R L w s hL hLl m (c * (L.length + 5) + 1) (fun fl' m' hf' hG' hcnt => ?_) L.length fl 0 false m (by omega) (by omega) (by rw [Nat.succ_mul] at hfl; omega) hG (fun e => by cases e) (fun _ => ⟨rfl, fun j hj h => by omega⟩)
    have hle' := cnt_le m'
    rw [hG'.len] at hle'
    cases c with
    | zero => omega
    | succ c => exact spread0 b1 b2 b3 P R L w s hL hLl c fl' m' (by omega) (by omega) hG'
theorem spread_ok (b1 : Bool) {P : List Place} (b2 : Bool) (R : List Road) (b3 : Bool) {L : List Arc} (b4 : Bool) {s : List Bool} (w : Int) (hL : ArcsIn P.length L) (hLl : L.length ≤ 256) (hP : P.length ≤ 64) (hs : s.length = P.length) :
    ∃ r, o103 b1 P b2 R b3 L b4 s w = some r ∧ LeastC P.length (Esp P L w) s r := by
  have h65 : (64 + 1) * (L.length + 5) < 19999 := by
    have := Nat.mul_le_mul_left 65 (show L.length + 5 ≤ 261 by omega)
    omega
  obtain ⟨r, e, h⟩ := spread0 b1 b2 b3 P R L w s hL (by omega) 64 19999 s (by omega) h65 ⟨hs, fun _ h => h, fun T h1 _ i hi => h1 i hi⟩
  unfold o103
  rw [h103_eq, if_pos (by simp [lim]; omega), List.nil_append, e, Option.bind_some]
  exact ⟨r, by simp [decBools, slO], h⟩
end Go.Proofs.Ytipfipnhgpbceaa.Sx
/- Where air comes to, by the other text (plain theorems). -/

set_option linter.unusedVariables false
set_option linter.unusedSimpArgs false
set_option maxRecDepth 100000
namespace Go.Proofs.Ytipfipnhgpbceaa.Sx
open Go Go.RowKit
def Ere (P : List Place) (R : List Road) (f : List Span) (w : Int) (a b : Nat) : Prop := ∃ (i : Nat) (d : Bool), i < R.length ∧ (i : Int) ≠ w ∧ can R f i d = true ∧ endA R i d = a ∧ endB R i d = b ∧ surf P a = false ∧ surf P b = false
def RoadsIn (n : Nat) (R : List Road) : Prop := ∀ i, i < R.length → 0 ≤ (R.getD i road0).frm ∧ (R.getD i road0).frm < n ∧ 0 ≤ (R.getD i road0).to ∧ (R.getD i road0).to < n
theorem ends_in {n : Nat} {R : List Road} (h : RoadsIn n R) {i : Nat} (hi : i < R.length) (d : Bool) : 0 ≤ endA R i d ∧ endA R i d < n ∧ 0 ≤ endB R i d ∧ endB R i d < n := by
  have := h i hi
  unfold endA endB
  rw [Int.toNat_natCast]
  cases d
  · exact ⟨this.1, this.2.1, this.2.2.1, this.2.2.2⟩
  · exact ⟨this.2.2.1, this.2.2.2, this.1, this.2.1⟩
noncomputable def l102 : List (FuncId × Spec) := [(100, s100), (99, s99)]
def k102 : Code → Keep := keepOf [(3, ⟨[1, 3, 4, 9, 10], [], []⟩), (6, ⟨[1, 3, 4, 9, 10, 11], [], []⟩), (9, ⟨[1, 3, 4, 9, 10, 11, 12], [], []⟩)]
noncomputable def h102_0 (fl : Nat) (t1b : Bool) (t1 : List Span) (t3 : Int) (t10 : Bool) (m0_0b : Bool) (m0_0 : List Place) (m0_1b : Bool) (m0_1 : List Road) (m1 : List Bool) : Option (AV × List Ob) := (evalH (env l102) Try.f102 k102 0 fl (stkF Try.f102 [1, 1, 0, 1, 0]) ⟨[.one (.undef), .one (.vec t1b .span t1), .one (.undef), .one (.int .i64 t3), .one (.ptr 0 0), .one (.undef), .one (.undef), .one (.undef), .one (.undef), .one (.row 1), .one (.bool t10), .one (.undef), .one (.undef), .one (.undef), .one (.undef), .one (.undef), .one (.undef), .one (.undef), .one (.undef), .one (.undef), .one (.undef), .one (.undef), .one (.undef), .one (.undef), .one (.undef), .one (.undef), .one (.undef), .one (.undef), .one (.undef), .one (.undef), .one (.undef), .one (.undef), .one (.undef), .one (.undef), .one (.undef), .one (.undef), .one (.undef), .one (.undef), .one (.undef), .one (.undef), .one (.undef), .one (.undef), .one (.undef), .one (.undef), .one (.undef), .one (.undef), .one (.undef), .one (.undef), .one (.undef), .one (.undef), .one (.undef), .one (.undef), .one (.undef), .one (.undef), .one (.undef), .one (.undef), .one (.undef), .one (.undef), .one (.undef), .one (.undef), .one (.undef), .one (.undef), .one (.undef), .one (.undef), .one (.undef), .one (.undef), .one (.undef), .one (.undef), .one (.undef), .one (.undef), .one (.undef), .one (.undef), .one (.undef), .one (.undef), .one (.undef), .one (.undef), .one (.undef), .one (.undef), .one (.undef), .one (.undef), .one (.undef), .one (.undef), .one (.undef)], [((0, 0), some (.cell (.vec m0_0b .place m0_0))), ((0, 1), some (.cell (.vec m0_1b .road m0_1))), ((1, 0), some (.rows .bool m1))], 2⟩).den
noncomputable def h102_1 (fl : Nat) (t1b : Bool) (t1 : List Span) (t3 : Int) (t10 : Bool) (t11 : Int) (m0_0b : Bool) (m0_0 : List Place) (m0_1b : Bool) (m0_1 : List Road) (m1 : List Bool) : Option (AV × List Ob) := (evalH (env l102) Try.f102 k102 0 fl (stkF Try.f102 [1, 1, 0, 1, 0, 0, 1, 0, 1, 1, 0]) ⟨[.one (.undef), .one (.vec t1b .span t1), .one (.undef), .one (.int .i64 t3), .one (.ptr 0 0), .one (.undef), .one (.undef), .one (.undef), .one (.undef), .one (.row 1), .one (.bool t10), .one (.int .i64 t11), .one (.undef), .one (.undef), .one (.undef), .one (.undef), .one (.undef), .one (.undef), .one (.undef), .one (.undef), .one (.undef), .one (.undef), .one (.undef), .one (.undef), .one (.undef), .one (.undef), .one (.undef), .one (.undef), .one (.undef), .one (.undef), .one (.undef), .one (.undef), .one (.undef), .one (.undef), .one (.undef), .one (.undef), .one (.undef), .one (.undef), .one (.undef), .one (.undef), .one (.undef), .one (.undef), .one (.undef), .one (.undef), .one (.undef), .one (.undef), .one (.undef), .one (.undef), .one (.undef), .one (.undef), .one (.undef), .one (.undef), .one (.undef), .one (.undef), .one (.undef), .one (.undef), .one (.undef), .one (.undef), .one (.undef), .one (.undef), .one (.undef), .one (.undef), .one (.undef), .one (.undef), .one (.undef), .one (.undef), .one (.undef), .one (.undef), .one (.undef), .one (.undef), .one (.undef), .one (.undef), .one (.undef), .one (.undef), .one (.undef), .one (.undef), .one (.undef), .one (.undef), .one (.undef), .one (.undef), .one (.undef), .one (.undef), .one (.undef)], [((0, 0), some (.cell (.vec m0_0b .place m0_0))), ((0, 1), some (.cell (.vec m0_1b .road m0_1))), ((1, 0), some (.rows .bool m1))], 2⟩).den
noncomputable def h102_2 (fl : Nat) (t1b : Bool) (t1 : List Span) (t3 : Int) (t10 : Bool) (t11 : Int) (t12 : Int) (m0_0b : Bool) (m0_0 : List Place) (m0_1b : Bool) (m0_1 : List Road) (m1 : List Bool) : Option (AV × List Ob) := (evalH (env l102) Try.f102 k102 0 fl (stkF Try.f102 [1, 1, 0, 1, 0, 0, 1, 0, 1, 1, 0, 0, 1, 0, 0, 1, 0]) ⟨[.one (.undef), .one (.vec t1b .span t1), .one (.undef), .one (.int .i64 t3), .one (.ptr 0 0), .one (.undef), .one (.undef), .one (.undef), .one (.undef), .one (.row 1), .one (.bool t10), .one (.int .i64 t11), .one (.int .i64 t12), .one (.undef), .one (.undef), .one (.undef), .one (.undef), .one (.undef), .one (.undef), .one (.undef), .one (.undef), .one (.undef), .one (.undef), .one (.undef), .one (.undef), .one (.undef), .one (.undef), .one (.undef), .one (.undef), .one (.undef), .one (.undef), .one (.undef), .one (.undef), .one (.undef), .one (.undef), .one (.undef), .one (.undef), .one (.undef), .one (.undef), .one (.undef), .one (.undef), .one (.undef), .one (.undef), .one (.undef), .one (.undef), .one (.undef), .one (.undef), .one (.undef), .one (.undef), .one (.undef), .one (.undef), .one (.undef), .one (.undef), .one (.undef), .one (.undef), .one (.undef), .one (.undef), .one (.undef), .one (.undef), .one (.undef), .one (.undef), .one (.undef), .one (.undef), .one (.undef), .one (.undef), .one (.undef), .one (.undef), .one (.undef), .one (.undef), .one (.undef), .one (.undef), .one (.undef), .one (.undef), .one (.undef), .one (.undef), .one (.undef), .one (.undef), .one (.undef), .one (.undef), .one (.undef), .one (.undef), .one (.undef), .one (.undef)], [((0, 0), some (.cell (.vec m0_0b .place m0_0))), ((0, 1), some (.cell (.vec m0_1b .road m0_1))), ((1, 0), some (.rows .bool m1))], 2⟩).den
noncomputable def h102 (fl : Nat) (b1 : Bool) (P : List Place) (b2 : Bool) (R : List Road) (b3 : Bool) (f : List Span) (b4 : Bool) (s : List Bool) (w : Int) : Option (AV × List Ob) := (evalF (env l102) Try.f102 k102 fl [.agg [.vec b1 .place P, .vec b2 .road R], .one (.vec b3 .span f), .one (.vec b4 .bool s), .one (.int .i64 w)] []).den
theorem h102_eq (fl : Nat) (b1 : Bool) (P : List Place) (b2 : Bool) (R : List Road) (b3 : Bool) (f : List Span) (b4 : Bool) (s : List Bool) (w : Int) : h102 (fl + 1) b1 P b2 R b3 f b4 s w =
    if (decide ((0 : Nat) + (s).length ≤ lim)) = true then h102_0 fl b3 f w true b1 P b2 R ([] ++ s)
    else none := by kernel_rfl
theorem h102_0_eq (fl : Nat) (t1b : Bool) (t1 : List Span) (t3 : Int) (t10 : Bool) (m0_0b : Bool) (m0_0 : List Place) (m0_1b : Bool) (m0_1 : List Road) (m1 : List Bool) : h102_0 (fl + 1) t1b t1 t3 t10 m0_0b m0_0 m0_1b m0_1 m1 =
    if t10 = true then h102_1 fl t1b t1 t3 false 0 m0_0b m0_0 m0_1b m0_1 m1
    else some (.one (.row 0), [.rows .bool m1]) := by kernel_rfl
theorem h102_1_eq (fl : Nat) (t1b : Bool) (t1 : List Span) (t3 : Int) (t10 : Bool) (t11 : Int) (m0_0b : Bool) (m0_0 : List Place) (m0_1b : Bool) (m0_1 : List Road) (m1 : List Bool) : h102_1 (fl + 1) t1b t1 t3 t10 t11 m0_0b m0_0 m0_1b m0_1 m1 =
    if (decide (t11 < (↑m0_1.length : Int))) = true then h102_2 fl t1b t1 t3 t10 t11 0 m0_0b m0_0 m0_1b m0_1 m1
    else h102_0 fl t1b t1 t3 t10 m0_0b m0_0 m0_1b m0_1 m1 := by kernel_rfl
theorem h102_2_eq (fl : Nat) (t1b : Bool) (t1 : List Span) (t3 : Int) (t10 : Bool) (t11 : Int) (t12 : Int) (m0_0b : Bool) (m0_0 : List Place) (m0_1b : Bool) (m0_1 : List Road) (m1 : List Bool) : h102_2 (fl + 1) t1b t1 t3 t10 t11 t12 m0_0b m0_0 m0_1b m0_1 m1 =
    if (decide (t12 < 2)) = true then if (idx m0_1.length t11) = true then if (t11 != t3) = true then if (idx m0_1.length t11 && idx t1.length t11) = true then if (can m0_1 t1 t11 (t12 == 1)) = true then if (idx m1.length (endA m0_1 t11 (t12 == 1))) = true then if (m1.getD (endA m0_1 t11 (t12 == 1)).toNat (dflt K.bool)) = true then if (idx m1.length (endB m0_1 t11 (t12 == 1))) = true then if (!m1.getD (endB m0_1 t11 (t12 == 1)).toNat (dflt K.bool)) = true then if (idx m0_0.length (endA m0_1 t11 (t12 == 1))) = true then if (!(m0_0.getD (endA m0_1 t11 (t12 == 1)).toNat (dflt K.place)).surface) = true then if (idx m0_0.length (endB m0_1 t11 (t12 == 1))) = true then if (!(m0_0.getD (endB m0_1 t11 (t12 == 1)).toNat (dflt K.place)).surface) = true then if (idx m1.length (endB m0_1 t11 (t12 == 1))) = true then h102_2 fl t1b t1 t3 true t11 (IntKind.i64.wrap (t12 + 1)) m0_0b m0_0 m0_1b m0_1 (m1.set (endB m0_1 t11 (t12 == 1)).toNat true)
                              else none
                            else h102_2 fl t1b t1 t3 t10 t11 (IntKind.i64.wrap (t12 + 1)) m0_0b m0_0 m0_1b m0_1 m1
                          else none
                        else h102_2 fl t1b t1 t3 t10 t11 (IntKind.i64.wrap (t12 + 1)) m0_0b m0_0 m0_1b m0_1 m1
                      else none
                    else h102_2 fl t1b t1 t3 t10 t11 (IntKind.i64.wrap (t12 + 1)) m0_0b m0_0 m0_1b m0_1 m1
                  else none
                else h102_2 fl t1b t1 t3 t10 t11 (IntKind.i64.wrap (t12 + 1)) m0_0b m0_0 m0_1b m0_1 m1
              else none
            else h102_2 fl t1b t1 t3 t10 t11 (IntKind.i64.wrap (t12 + 1)) m0_0b m0_0 m0_1b m0_1 m1
          else none
        else h102_2 fl t1b t1 t3 t10 t11 (IntKind.i64.wrap (t12 + 1)) m0_0b m0_0 m0_1b m0_1 m1
      else none
    else h102_1 fl t1b t1 t3 t10 (IntKind.i64.wrap (t11 + 1)) m0_0b m0_0 m0_1b m0_1 m1 := by kernel_rfl
noncomputable def o102 (b1 : Bool) (P : List Place) (b2 : Bool) (R : List Road) (b3 : Bool) (f : List Span) (b4 : Bool) (s : List Bool) (w : Int) : Option (List Bool) := (h102 60000 b1 P b2 R b3 f b4 s w).bind (decBools)
noncomputable def c102 : Spec := ⟨false, fun av ob => match av, ob with
  | [.agg [.vec b1 .place P, .vec b2 .road R], .one (.vec b3 .span f), .one (.vec b4 .bool s), .one (.int .i64 w)], [] => .call (o102 b1 P b2 R b3 f b4 s w) fun x => .ret (.one (.vec false .bool x), [])
  | _, _ => .fail⟩
theorem f102 : FnOK Try.prog 102 := fnOK_of Try.func102 rfl (by kernel_rfl)
theorem pc102 : SpecOK Try.prog 102 c102 := by
  refine spec_thaw (fun av ob r os hrn => ?_) (machS_ok (env_ok (l := l102) ⟨⟨p100, f100⟩, ⟨⟨p99, f99⟩, trivial⟩⟩) mixed_ok Try.func102 k102 (fun _ _ => 60000) false)
  simp only [c102] at hrn
  split at hrn
  · rename_i b1 P b2 R b3 f b4 s w
    obtain ⟨x, hx, hr⟩ := Option.bind_eq_some_iff.1 hrn
    cases hr
    obtain ⟨y, hy, hd⟩ := Option.bind_eq_some_iff.1 hx
    unfold h102 at hy
    obtain ⟨d1, d2⟩ := decBools_ok hd
    exact ⟨y.1, y.2, by rw [machS_run]; exact hy, d1, d2⟩
  · cases hrn
/-- The state of a pass: so far nothing new, or something. -/
structure PassR (P : List Place) (R : List Road) (f : List Span) (w : Int) (s m0 m : List Bool) (again : Bool) (done : Nat → Bool → Prop) : Prop where
  good : GoodC P.length (Ere P R f w) s m
  more : again = true → cnt m0 < cnt m
  same : again = false → m = m0 ∧ ∀ (i : Nat) (d : Bool), done i d → (i : Int) ≠ w → can R f i d = true → surf P (endA R i d).toNat = false → surf P (endB R i d).toNat = false → bt m0 (endA R i d).toNat = true → bt m0 (endB R i d).toNat = true
theorem reach2 (b1 b2 b3 : Bool) (P : List Place) (R : List Road) (f : List Span) (w : Int) (s : List Bool) (hR : RoadsIn P.length R) (hf : f.length = R.length) (m0 m : List Bool) (i : Nat) (hi : i < R.length) (dn : Int) (d : Bool) (hd : (dn == 1) = d) (hdn : 0 ≤ dn ∧ dn < 2) (again : Bool) (done done' : Nat → Bool → Prop) (hdd : ∀ j e, done' j e → done j e ∨ (j = i ∧ e = d))
    (hP : PassR P R f w s m0 m again done) (fl : Nat) {Q : Option (AV × List Ob) → Prop} (hQ : ∀ again' m', PassR P R f w s m0 m' again' done' → Q (h102_2 fl b3 f w again' i (dn + 1) b1 P b2 R m')) : Q (h102_2 (fl + 1) b3 f w again i dn b1 P b2 R m) := by
  have hx := ends_in hR hi d
  have hb0 : dflt K.bool = false := rfl
  have hp0 : dflt K.place = place0 := rfl
  have w1 : IntKind.i64.wrap (dn + 1) = dn + 1 := wid (by omega) (by omega)
  have i0 : idx R.length (i : Int) = true := idx_nat hi
  have i4 : (idx R.length (i : Int) && idx f.length (i : Int)) = true := by rw [i0, idx_nat (by omega)]; rfl
  have hG := hP.good
  have none_ : (∀ (_ : again = false), (i : Int) ≠ w → can R f i d = true → surf P (endA R i d).toNat = false → surf P (endB R i d).toNat = false → bt m0 (endA R i d).toNat = true → bt m0 (endB R i d).toNat = true) → Q (h102_2 fl b3 f w again i (dn + 1) b1 P b2 R m) := fun hn => by
    refine hQ again m ⟨hG, hP.more, fun ha => ⟨(hP.same ha).1, fun j e he => ?_⟩⟩
    rcases hdd j e he with h | ⟨rfl, rfl⟩
    · exact (hP.same ha).2 j e h
    · exact hn ha
  rw [h102_2_eq, if_pos (show decide (dn < 2) = true by simp only [decide_eq_true_eq]; omega), hd, w1, hb0, hp0]
  rw [if_pos i0]
  by_cases c1 : (i : Int) = w
  · rw [if_neg (by simpa using c1)]
    exact none_ (fun _ h => absurd c1 h)
  rw [if_pos (by simpa using c1), if_pos i4]
  by_cases c2 : can R f i d = true
  · rw [if_pos c2]
    have i1 : idx m.length (endA R i d) = true := idx_of hx.1 (by rw [hG.len]; exact hx.2.1)
    have i2 : idx m.length (endB R i d) = true := idx_of hx.2.2.1 (by rw [hG.len]; exact hx.2.2.2)
    have i3 : idx P.length (endB R i d) = true := idx_of hx.2.2.1 hx.2.2.2
    have i5 : idx P.length (endA R i d) = true := idx_of hx.1 hx.2.1
    rw [if_pos i1]
    by_cases c3 : bt m (endA R i d).toNat = true
    · rw [if_pos c3, if_pos i2]
      by_cases c4 : bt m (endB R i d).toNat = true
      · rw [if_neg (show ¬ (!m.getD (endB R i d).toNat false) = true by show ¬ (!bt m (endB R i d).toNat) = true; rw [c4]; simp)]
        exact none_ (fun ha _ _ _ _ _ => by rw [← (hP.same ha).1]; exact c4)
      · rw [if_pos (show (!m.getD (endB R i d).toNat false) = true by show (!bt m (endB R i d).toNat) = true; simpa using c4), if_pos i5]
        by_cases c5 : surf P (endA R i d).toNat = true
        · rw [if_neg (show ¬ (!(P.getD (endA R i d).toNat place0).surface) = true by show ¬ (!surf P (endA R i d).toNat) = true; rw [c5]; simp)]
          exact none_ (fun ha _ _ h _ _ => by rw [c5] at h; cases h)
        · have c5' : surf P (endA R i d).toNat = false := by simpa using c5
          rw [if_pos (show (!(P.getD (endA R i d).toNat place0).surface) = true by show (!surf P (endA R i d).toNat) = true; rw [c5']; rfl), if_pos i3]
          by_cases c6 : surf P (endB R i d).toNat = true
          · rw [if_neg (show ¬ (!(P.getD (endB R i d).toNat place0).surface) = true by show ¬ (!surf P (endB R i d).toNat) = true; rw [c6]; simp)]
            exact none_ (fun ha _ _ _ h _ => by rw [c6] at h; cases h)
          · have c6' : surf P (endB R i d).toNat = false := by simpa using c6
            rw [if_pos (show (!(P.getD (endB R i d).toNat place0).surface) = true by show (!surf P (endB R i d).toNat) = true; rw [c6']; rfl), if_pos i2]
            have hE : Ere P R f w (endA R i d).toNat (endB R i d).toNat := ⟨i, d, hi, c1, c2, by omega, by omega, c5', c6'⟩
            have hlen := hG.len
            have hc := cnt_set m (endB R i d).toNat (by omega) (by simpa using c4)
            refine hQ true _ ⟨hG.step hE c3 (by omega), fun _ => ?_, fun e => by cases e⟩
            rw [hc]
            cases again with
            | true => have := hP.more rfl; omega
            | false => rw [(hP.same rfl).1]; omega
    · rw [if_neg c3]
      exact none_ (fun ha _ _ _ _ h => by rw [← (hP.same ha).1] at h; exact absurd h c3)
  · rw [if_neg c2]
    exact none_ (fun _ _ h => absurd h c2)
theorem reach1 (b1 b2 b3 : Bool) (P : List Place) (R : List Road) (f : List Span) (w : Int) (s : List Bool) (hR : RoadsIn P.length R) (hf : f.length = R.length) (hRl : R.length ≤ 128) (m0 : List Bool) (F : Nat)
    (hlater : ∀ (fl : Nat) (m : List Bool), F ≤ fl → GoodC P.length (Ere P R f w) s m → cnt m0 < cnt m → EndC P.length (Ere P R f w) s (h102_0 fl b3 f w true b1 P b2 R m)) :
    ∀ (d fl i : Nat) (again : Bool) (m : List Bool), R.length - i = d → i ≤ R.length → F + 4 * d + 2 < fl → PassR P R f w s m0 m again (fun j _ => j < i) →
    EndC P.length (Ere P R f w) s (h102_1 fl b3 f w again i b1 P b2 R m)
  | d, fl, i, again, m, hd, hi, hfl, hP => by
    obtain ⟨fl, rfl⟩ : ∃ q, fl = q + 1 := ⟨fl - 1, by omega⟩
    rw [h102_1_eq]
    by_cases hlt : i < R.length
    · rw [if_pos (lt_nat hlt)]
      cases d with
      | zero => omega
      | succ d =>
        obtain ⟨fl, rfl⟩ : ∃ q, fl = q + 3 := ⟨fl - 3, by omega⟩
        refine reach2 b1 b2 b3 P R f w s hR hf m0 m i hlt 0 false rfl (by omega) again (fun j _ => j < i) (fun j e => j < i ∨ (j = i ∧ e = false)) (fun j e h => h) hP (fl + 2) (Q := EndC P.length (Ere P R f w) s) (fun again' m' hP' => ?_)
        refine reach2 b1 b2 b3 P R f w s hR hf m0 m' i hlt 1 true rfl (by omega) again' _ (fun j _ => j < i + 1) (fun j e h => ?_) hP' (fl + 1) (Q := EndC P.length (Ere P R f w) s) (fun again2 m2 hP2 => ?_)
        · by_cases e1 : j = i
          · cases e
            · exact .inl (.inr ⟨e1, rfl⟩)
            · exact .inr ⟨e1, rfl⟩
          · exact .inl (.inl (by omega))
        · rw [show ((1 : Int) + 1) = 2 from rfl, h102_2_eq, if_neg (by simp), wr_succ (by omega)]
          exact reach1 b1 b2 b3 P R f w s hR hf hRl m0 F hlater d fl (i + 1) again2 m2 (by omega) (by omega) (by omega) hP2
    · rw [if_neg (nlt_nat hlt)]
      cases again with
      | true => exact hlater fl m (by omega) hP.good (hP.more rfl)
      | false =>
        obtain ⟨e, hcl⟩ := hP.same rfl
        obtain ⟨fl, rfl⟩ : ∃ q, fl = q + 1 := ⟨fl - 1, by omega⟩
        rw [h102_0_eq, if_neg (by simp)]
        refine ⟨m, rfl, hP.good.len, hP.good.sub, fun a b hE ha => ?_, hP.good.least⟩
        obtain ⟨j, dd, hj, g1, g2, g3, g4, g5, g6⟩ := hE
        have := hcl j dd (by omega) g1 g2
        rw [g3, g4, Int.toNat_natCast, Int.toNat_natCast, ← e] at this
        exact this g5 g6 ha
theorem reach0 (b1 b2 b3 : Bool) (P : List Place) (R : List Road) (f : List Span) (w : Int) (s : List Bool) (hR : RoadsIn P.length R) (hf : f.length = R.length) (hRl : R.length ≤ 128) : ∀ (c fl : Nat) (m : List Bool), P.length - cnt m ≤ c → (c + 1) * (4 * R.length + 5) < fl → GoodC P.length (Ere P R f w) s m → EndC P.length (Ere P R f w) s (h102_0 fl b3 f w true b1 P b2 R m)
  | c, fl, m, hc, hfl, hG => by
    obtain ⟨fl, rfl⟩ : ∃ q, fl = q + 1 := ⟨fl - 1, by omega⟩
    rw [h102_0_eq, if_pos rfl]
    have hle := cnt_le m
    rw [hG.len] at hle
    refine reach1 b1 b2 b3 P R f w s hR hf hRl m (c * (4 * R.length + 5) + 1) (fun fl' m' hf' hG' hcnt => ?_) R.length fl 0 false m (by omega) (by omega) (by rw [Nat.succ_mul] at hfl; omega) ⟨hG, (fun e => by cases e), (fun _ => ⟨rfl, fun j e h => by omega⟩)⟩
    have hle' := cnt_le m'
    rw [hG'.len] at hle'
    cases c with
    | zero => omega
    | succ c => exact reach0 b1 b2 b3 P R f w s hR hf hRl c fl' m' (by omega) (by omega) hG'
theorem reach_ok (b1 : Bool) {P : List Place} (b2 : Bool) {R : List Road} (b3 : Bool) {f : List Span} (b4 : Bool) {s : List Bool} (w : Int) (hR : RoadsIn P.length R) (hf : f.length = R.length) (hRl : R.length ≤ 128) (hP : P.length ≤ 64) (hs : s.length = P.length) :
    ∃ r, o102 b1 P b2 R b3 f b4 s w = some r ∧ LeastC P.length (Ere P R f w) s r := by
  have h65 : (64 + 1) * (4 * R.length + 5) < 59999 := by
    have := Nat.mul_le_mul_left 65 (show 4 * R.length + 5 ≤ 517 by omega)
    omega
  obtain ⟨r, e, h⟩ := reach0 b1 b2 b3 P R f w s hR hf hRl 64 59999 s (by omega) h65 ⟨hs, fun _ h => h, fun T h1 _ i hi => h1 i hi⟩
  unfold o102
  rw [h102_eq, if_pos (by simp [lim]; omega), List.nil_append, e, Option.bind_some]
  exact ⟨r, by simp [decBools, slO], h⟩
end Go.Proofs.Ytipfipnhgpbceaa.Sx
/- The ways of air that lie on possible circles (plain theorems). -/

set_option linter.unusedVariables false
set_option linter.unusedSimpArgs false
set_option maxRecDepth 100000
namespace Go.Proofs.Ytipfipnhgpbceaa.Sx
open Go Go.RowKit
/-- Air that begins at a place can come to another one. -/
def RchC (E : Nat → Nat → Prop) (b i : Nat) : Prop := ∀ T : Nat → Prop, T b → (∀ a c, E a c → T a → T c) → T i
def single (n b : Nat) : List Bool := (List.replicate n false).set b true
theorem bt_replicate (n i : Nat) : bt (List.replicate n false) i = false := by
  unfold bt
  rw [List.getD_eq_getElem?_getD, List.getElem?_replicate]
  split <;> rfl
theorem bt_single {n b : Nat} (hb : b < n) (i : Nat) : bt (single n b) i = true ↔ i = b := by
  unfold single
  rw [bt_set _ (by simpa using hb)]
  by_cases h : i = b
  · simp [h]
  · rw [if_neg h, bt_replicate]; simp [h]
theorem LeastC.rch {n : Nat} {E : Nat → Nat → Prop} {b : Nat} {r : List Bool} (hb : b < n) (h : LeastC n E (single n b) r) (i : Nat) : bt r i = true ↔ RchC E b i := by
  constructor
  · intro hi T h1 h2
    exact h.least T (fun j hj => by rw [(bt_single hb j).1 hj]; exact h1) h2 i hi
  · intro hr
    exact hr (fun j => bt r j = true) (h.sub b ((bt_single hb b).2 rfl)) h.closed
theorem mem_arcsF {R : List Road} {f : List Span} {x : Arc} : ∀ (m i : Nat), x ∈ arcsF R f m i ↔ ∃ j d, i ≤ j ∧ j < i + m ∧ can R f j d = true ∧ x = ⟨j, endA R j d, endB R j d⟩
  | 0, i => by
    simp only [arcsF, List.not_mem_nil, false_iff]
    rintro ⟨j, d, h1, h2, _⟩
    omega
  | m + 1, i => by
    rw [arcsF, List.mem_append, mem_arcsF m (i + 1)]
    have h1 : x ∈ arcs1 R f i ↔ ∃ d, can R f i d = true ∧ x = ⟨i, endA R i d, endB R i d⟩ := by
      unfold arcs1
      constructor
      · intro h
        rcases List.mem_append.1 h with h | h
        · split at h
          · rename_i c; exact ⟨false, c, by simpa [endA, endB] using h⟩
          · simp at h
        · split at h
          · rename_i c; exact ⟨true, c, by simpa [endA, endB] using h⟩
          · simp at h
      · rintro ⟨d, c, rfl⟩
        cases d
        · exact List.mem_append_left _ (by rw [if_pos c]; simp [endA, endB])
        · exact List.mem_append_right _ (by rw [if_pos c]; simp [endA, endB])
    rw [h1]
    constructor
    · rintro (⟨d, c, e⟩ | ⟨j, d, g1, g2, c, e⟩)
      · exact ⟨i, d, by omega, by omega, c, e⟩
      · exact ⟨j, d, by omega, by omega, c, e⟩
    · rintro ⟨j, d, g1, g2, c, e⟩
      by_cases hj : j = i
      · subst hj; exact .inl ⟨d, c, e⟩
      · exact .inr ⟨j, d, by omega, by omega, c, e⟩
theorem mem_arcsOf {R : List Road} {f : List Span} {x : Arc} : x ∈ arcsOf R f ↔ ∃ (j : Nat) (d : Bool), j < R.length ∧ can R f j d = true ∧ x = ⟨j, endA R j d, endB R j d⟩ := by
  unfold arcsOf
  rw [mem_arcsF]
  constructor
  · rintro ⟨j, d, _, h, c, e⟩; exact ⟨j, d, by omega, c, e⟩
  · rintro ⟨j, d, h, c, e⟩; exact ⟨j, d, by omega, by omega, c, e⟩
theorem arcsOf_in {n : Nat} {R : List Road} (h : RoadsIn n R) (f : List Span) : ArcsIn n (arcsOf R f) := by
  intro x hx
  obtain ⟨j, d, hj, c, rfl⟩ := mem_arcsOf.1 hx
  exact ends_in h hj d
/-- Both texts' steps, from a place below ground. -/
theorem rch_both {P : List Place} {R : List Road} {f : List Span} (hR : RoadsIn P.length R) (w : Int) {b : Nat} (hb : surf P b = false) (i : Nat) : RchC (Esp P (arcsOf R f) w) b i ↔ RchC (Ere P R f w) b i := by
  constructor
  · intro h T h1 h2
    have := h (fun j => T j ∧ surf P j = false) ⟨h1, hb⟩ (fun a c hE ha => by
      obtain ⟨x, hx, g1, g2, g3, g4⟩ := hE
      obtain ⟨j, d, hj, hc, rfl⟩ := mem_arcsOf.1 hx
      exact ⟨h2 a c ⟨j, d, hj, g1, hc, g2, g3, ha.2, g4⟩ ha.1, g4⟩)
    exact this.1
  · intro h T h1 h2
    exact h T h1 (fun a c hE ha => by
      obtain ⟨j, d, hj, g1, hc, g2, g3, g4, g5⟩ := hE
      exact h2 a c ⟨⟨j, endA R j d, endB R j d⟩, mem_arcsOf.2 ⟨j, d, hj, hc, rfl⟩, g1, g2, g3, g5⟩ ha)
theorem rightM_in {P : List Place} {R : List Road} {f : List Span} (h : rightM P R f = true) : RoadsIn P.length R ∧ f.length = R.length ∧ R.length ≤ 128 ∧ P.length ≤ 64 := by
  obtain ⟨h1, h2⟩ := rightM_iff.1 h
  obtain ⟨h3, h4, h5⟩ := checkM_roads h1
  exact ⟨fun i hi => ⟨(h5 i hi).1, (h5 i hi).2.1, (h5 i hi).2.2.1, (h5 i hi).2.2.2.1⟩, h2, h4, h3⟩
/-- A way of air that lies on a possible circle. -/
def onArc (P : List Place) (L : List Arc) (x : Arc) : Prop := surf P x.frm.toNat = false ∧ surf P x.to.toNat = false ∧ RchC (Esp P L x.road) x.to.toNat x.frm.toNat
open Classical in
noncomputable def onArcs (P : List Place) (L : List Arc) : List Arc := L.filter fun x => decide (onArc P L x)
def decArcL : AV × List Ob → Option (List Arc)
  | (.one s, os) => slO .arc 0 os s
  | _ => none
theorem decArcL_ok {y : AV × List Ob} {x : List Arc} (h : decArcL y = some x) : ([] : List Ob) = y.2.take 0 ∧ TA y.2 0 y.1 (.one (.vec false .arc x)) := by
  unfold decArcL at h
  split at h
  · exact ⟨rfl, .one _ _ (slO_ok h) (slO_undef h)⟩
  · cases h
noncomputable def l101 : List (FuncId × Spec) := [(103, c103)]
def k101 : Code → Keep := keepOf [(3, ⟨[1, 2, 5, 9, 10, 11], [(5, .arc)], []⟩)]
noncomputable def h101_0 (fl : Nat) (t1b : Bool) (t1 : List Arc) (t9b : Bool) (t9 : List Arc) (t10 : Int) (t11 : Int) (m0_0b : Bool) (m0_0 : List Place) (m0_1b : Bool) (m0_1 : List Road) (m1 : List Arc) : Option (AV × List Ob) := (evalH (env l101) Try.f101 k101 0 fl (stkF Try.f101 [1, 1, 0, 1, 0]) ⟨[.one (.undef), .one (.vec t1b .arc t1), .one (.ptr 0 0), .one (.undef), .one (.undef), .one (.row 1), .one (.undef), .one (.undef), .one (.undef), .one (.vec t9b .arc t9), .one (.int .i64 t10), .one (.int .i64 t11), .one (.undef), .one (.undef), .one (.undef), .one (.undef), .one (.undef), .one (.undef), .one (.undef), .one (.undef), .one (.undef), .one (.undef), .one (.undef), .one (.undef), .one (.undef), .one (.undef), .one (.undef), .one (.undef), .one (.undef), .one (.undef), .one (.undef), .one (.undef), .one (.undef), .one (.undef), .one (.undef), .one (.undef), .one (.undef), .one (.undef), .one (.undef), .one (.undef), .one (.undef), .one (.undef), .one (.undef), .one (.undef), .one (.undef), .one (.undef), .one (.undef), .one (.undef), .one (.undef), .one (.undef), .one (.undef), .one (.undef), .one (.undef), .one (.undef), .one (.undef)], [((0, 0), some (.cell (.vec m0_0b .place m0_0))), ((0, 1), some (.cell (.vec m0_1b .road m0_1))), ((1, 0), some (.rows .arc m1))], 2⟩).den
noncomputable def h101 (fl : Nat) (b1 : Bool) (P : List Place) (b2 : Bool) (R : List Road) (b3 : Bool) (L : List Arc) : Option (AV × List Ob) := (evalF (env l101) Try.f101 k101 fl [.agg [.vec b1 .place P, .vec b2 .road R], .one (.vec b3 .arc L)] []).den
theorem h101_eq (fl : Nat) (b1 : Bool) (P : List Place) (b2 : Bool) (R : List Road) (b3 : Bool) (L : List Arc) : h101 (fl + 1) b1 P b2 R b3 L =
    h101_0 fl b3 L b3 L ((↑L.length : Int)) 0 b1 P b2 R [] := by kernel_rfl
theorem h101_0_eq (fl : Nat) (t1b : Bool) (t1 : List Arc) (t9b : Bool) (t9 : List Arc) (t10 : Int) (t11 : Int) (m0_0b : Bool) (m0_0 : List Place) (m0_1b : Bool) (m0_1 : List Road) (m1 : List Arc) : h101_0 (fl + 1) t1b t1 t9b t9 t10 t11 m0_0b m0_0 m0_1b m0_1 m1 =
    if (decide (t11 < t10)) = true then if (idx t9.length t11) = true then if (idx m0_0.length (t9.getD t11.toNat (dflt K.arc)).frm) = true then if ((m0_0.getD (t9.getD t11.toNat (dflt K.arc)).frm.toNat (dflt K.place)).surface) = true then h101_0 fl t1b t1 t9b t9 t10 (IntKind.i64.wrap (t11 + 1)) m0_0b m0_0 m0_1b m0_1 m1
          else if (idx m0_0.length (t9.getD t11.toNat (dflt K.arc)).to) = true then if ((m0_0.getD (t9.getD t11.toNat (dflt K.arc)).to.toNat (dflt K.place)).surface) = true then h101_0 fl t1b t1 t9b t9 t10 (IntKind.i64.wrap (t11 + 1)) m0_0b m0_0 m0_1b m0_1 m1
              else if (decide (0 ≤ (↑m0_0.length : Int)) && (decide ((↑m0_0.length : Int) ≤ 1048576) && (↑m0_0.length : Int) == (↑m0_0.length : Int))) = true then if (idx (List.replicate (↑m0_0.length : Int).toNat (dflt K.bool)).length (t9.getD t11.toNat (dflt K.arc)).to) = true then (o103 m0_0b m0_0 m0_1b m0_1 t1b t1 true ((List.replicate (↑m0_0.length : Int).toNat (dflt K.bool)).set (t9.getD t11.toNat (dflt K.arc)).to.toNat true) (t9.getD t11.toNat (dflt K.arc)).road).bind fun x10 =>
                    if (idx x10.length (t9.getD t11.toNat (dflt K.arc)).frm) = true then if (x10.getD (t9.getD t11.toNat (dflt K.arc)).frm.toNat (dflt K.bool)) = true then if (decide ((m1).length + ([{ road := (t9.getD t11.toNat (dflt K.arc)).road, frm := (t9.getD t11.toNat (dflt K.arc)).frm, to := (t9.getD t11.toNat (dflt K.arc)).to : Arc }]).length ≤ lim)) = true then h101_0 fl t1b t1 t9b t9 t10 (IntKind.i64.wrap (t11 + 1)) m0_0b m0_0 m0_1b m0_1 (m1 ++ [{ road := (t9.getD t11.toNat (dflt K.arc)).road, frm := (t9.getD t11.toNat (dflt K.arc)).frm, to := (t9.getD t11.toNat (dflt K.arc)).to : Arc }])
                          else none
                        else h101_0 fl t1b t1 t9b t9 t10 (IntKind.i64.wrap (t11 + 1)) m0_0b m0_0 m0_1b m0_1 m1
                      else none
                  else none
                else none
            else none
        else none
      else none
    else some (.one (.row 0), [.rows .arc m1]) := by kernel_rfl
noncomputable def o101 (b1 : Bool) (P : List Place) (b2 : Bool) (R : List Road) (b3 : Bool) (L : List Arc) : Option (List Arc) := (h101 300 b1 P b2 R b3 L).bind (decArcL)
noncomputable def c101 : Spec := ⟨false, fun av ob => match av, ob with
  | [.agg [.vec b1 .place P, .vec b2 .road R], .one (.vec b3 .arc L)], [] => .call (o101 b1 P b2 R b3 L) fun x => .ret (.one (.vec false .arc x), [])
  | _, _ => .fail⟩
theorem f101 : FnOK Try.prog 101 := fnOK_of Try.func101 rfl (by kernel_rfl)
theorem pc101 : SpecOK Try.prog 101 c101 := by
  refine spec_thaw (fun av ob r os hrn => ?_) (machS_ok (env_ok (l := l101) ⟨⟨pc103, f103⟩, trivial⟩) mixed_ok Try.func101 k101 (fun _ _ => 300) false)
  simp only [c101] at hrn
  split at hrn
  · rename_i b1 P b2 R b3 L
    obtain ⟨x, hx, hr⟩ := Option.bind_eq_some_iff.1 hrn
    cases hr
    obtain ⟨y, hy, hd⟩ := Option.bind_eq_some_iff.1 hx
    unfold h101 at hy
    obtain ⟨d1, d2⟩ := decArcL_ok hd
    exact ⟨y.1, y.2, by rw [machS_run]; exact hy, d1, d2⟩
  · cases hrn
open Classical in
theorem circ_loop (b1 b2 b3 : Bool) (P : List Place) (R : List Road) (L : List Arc) (hL : ArcsIn P.length L) (hLl : L.length ≤ 256) (hP : P.length ≤ 64) : ∀ (d fl k : Nat) (A : List Arc), L.length - k = d → k ≤ L.length → d < fl → A.length ≤ k →
    h101_0 fl b3 L b3 L L.length k b1 P b2 R A = some (.one (.row 0), [.rows .arc (A ++ (L.drop k).filter fun x => decide (onArc P L x))])
  | d, fl, k, A, hd, hk, hfl, hA => by
    obtain ⟨fl, rfl⟩ : ∃ q, fl = q + 1 := ⟨fl - 1, by omega⟩
    rw [h101_0_eq]
    by_cases hlt : k < L.length
    · have hx := hL _ (List.getElem_mem hlt)
      have hb0 : dflt K.bool = false := rfl
      have hp0 : dflt K.place = place0 := rfl
      rw [if_pos (lt_nat hlt), if_pos (idx_nat hlt), at_lt hlt, wr_succ (by omega), hb0, hp0, List.drop_eq_getElem_cons hlt]
      cases d with
      | zero => omega
      | succ d =>
        have ih := fun (A : List Arc) (hA : A.length ≤ k + 1) => circ_loop b1 b2 b3 P R L hL hLl hP d fl (k + 1) A (by omega) (by omega) (by omega) hA
        generalize L[k] = x at *
        have i1 : idx P.length x.frm = true := idx_of hx.1 hx.2.1
        have i2 : idx P.length x.to = true := idx_of hx.2.2.1 hx.2.2.2
        have no : ¬ onArc P L x → h101_0 fl b3 L b3 L L.length ((k + 1 : Nat) : Int) b1 P b2 R A = some (.one (.row 0), [.rows .arc (A ++ (x :: L.drop (k + 1)).filter fun x => decide (onArc P L x))]) := fun hn => by
          rw [ih A (by omega), List.filter_cons_of_neg (by simpa using hn)]
        rw [if_pos i1]
        by_cases c1 : surf P x.frm.toNat = true
        · rw [if_pos (show (P.getD x.frm.toNat place0).surface = true from c1)]
          exact no (fun h => by rw [h.1] at c1; cases c1)
        have c1' : surf P x.frm.toNat = false := by simpa using c1
        rw [if_neg (show ¬ (P.getD x.frm.toNat place0).surface = true from c1), if_pos i2]
        by_cases c2 : surf P x.to.toNat = true
        · rw [if_pos (show (P.getD x.to.toNat place0).surface = true from c2)]
          exact no (fun h => by rw [h.2.1] at c2; cases c2)
        have c2' : surf P x.to.toNat = false := by simpa using c2
        have hrep : (List.replicate ((P.length : Nat) : Int).toNat false).set x.to.toNat true = single P.length x.to.toNat := by rw [Int.toNat_natCast]; rfl
        have i3 : idx (List.replicate ((P.length : Nat) : Int).toNat false).length x.to = true := by rw [Int.toNat_natCast, List.length_replicate]; exact i2
        obtain ⟨r, e, hr⟩ := spread_ok b1 b2 R b3 (L := L) true (s := single P.length x.to.toNat) x.road hL hLl hP (by simp [single])
        rw [if_neg (show ¬ (P.getD x.to.toNat place0).surface = true from c2), if_pos (by simp; omega), if_pos i3, hrep, e, Option.bind_some, if_pos (by rw [hr.len]; exact i1)]
        have hiff := hr.rch (show x.to.toNat < P.length by omega) x.frm.toNat
        by_cases c3 : bt r x.frm.toNat = true
        · have hon : onArc P L x := ⟨c1', c2', hiff.1 c3⟩
          rw [if_pos c3, if_pos (show decide (A.length + [_].length ≤ lim) = true by simp [lim]; omega), ih _ (by simp; omega), List.filter_cons_of_pos (by simpa using hon)]
          simp
        · rw [if_neg c3]
          exact no (fun h => c3 (hiff.2 h.2.2))
    · rw [if_neg (nlt_nat hlt), List.drop_eq_nil_of_le (by omega)]
      simp
theorem circs_eq (b1 : Bool) {P : List Place} (b2 : Bool) (R : List Road) (b3 : Bool) {L : List Arc} (hL : ArcsIn P.length L) (hLl : L.length ≤ 256) (hP : P.length ≤ 64) : o101 b1 P b2 R b3 L = some (onArcs P L) := by
  have e := circ_loop b1 b2 b3 P R L hL hLl hP L.length 299 0 [] (by omega) (by omega) (by omega) (by simp)
  have e' : h101_0 299 b3 L b3 L L.length 0 b1 P b2 R [] = _ := e
  unfold o101
  rw [h101_eq, e', Option.bind_some]
  simp [decArcL, slO, onArcs]
end Go.Proofs.Ytipfipnhgpbceaa.Sx
/- The roads on possible circles (plain theorems). -/

set_option linter.unusedVariables false
set_option linter.unusedSimpArgs false
set_option maxRecDepth 100000
namespace Go.Proofs.Ytipfipnhgpbceaa.Sx
open Go Go.RowKit
def onRoad (P : List Place) (R : List Road) (f : List Span) (i : Nat) : Prop := ∃ d, can R f i d = true ∧ onArc P (arcsOf R f) ⟨i, endA R i d, endB R i d⟩
open Classical in
noncomputable def circF (P : List Place) (R : List Road) (f : List Span) : Nat → Nat → List Int
  | 0, _ => []
  | m + 1, i => (if onRoad P R f i then [(i : Int)] else []) ++ circF P R f m (i + 1)
open Classical in
noncomputable def circM (P : List Place) (R : List Road) (f : List Span) : List Int := if rightM P R f = true then circF P R f R.length 0 else []
def addR (out : List Int) (r : Int) : List Int := if out.length = 0 then out ++ [r] else if out.getD (out.length - 1) 0 ≠ r then out ++ [r] else out
def decInts : AV × List Ob → Option (List Int)
  | (.one s, os) => slO .int 0 os s
  | _ => none
theorem decInts_ok {y : AV × List Ob} {x : List Int} (h : decInts y = some x) : ([] : List Ob) = y.2.take 0 ∧ TA y.2 0 y.1 (.one (.vec false .int x)) := by
  unfold decInts at h
  split at h
  · exact ⟨rfl, .one _ _ (slO_ok h) (slO_undef h)⟩
  · cases h
noncomputable def l65 : List (FuncId × Spec) := [(97, c97), (101, c101)]
def k65 : Code → Keep := keepOf [(4, ⟨[7, 18, 19, 20], [(7, .int)], []⟩)]
noncomputable def h65_0 (fl : Nat) (t18 : List Arc) (t19 : Int) (t20 : Int) (m0 : List Int) : Option (AV × List Ob) := (evalH (env l65) Try.f65 k65 0 fl (stkF Try.f65 [1, 1, 1, 0, 1, 0]) ⟨[.one (.undef), .one (.undef), .one (.undef), .one (.undef), .one (.undef), .one (.undef), .one (.undef), .one (.row 0), .one (.undef), .one (.undef), .one (.undef), .one (.undef), .one (.undef), .one (.undef), .one (.undef), .one (.undef), .one (.undef), .one (.undef), .one (.vec false .arc t18), .one (.int .i64 t19), .one (.int .i64 t20), .one (.undef), .one (.undef), .one (.undef), .one (.undef), .one (.undef), .one (.undef), .one (.undef), .one (.undef), .one (.undef), .one (.undef), .one (.undef), .one (.undef), .one (.undef), .one (.undef), .one (.undef), .one (.undef), .one (.undef), .one (.undef), .one (.undef), .one (.undef), .one (.undef), .one (.undef), .one (.undef), .one (.undef)], [((0, 0), some (.rows .int m0))], 1⟩).den
noncomputable def h65 (fl : Nat) (b1 : Bool) (P : List Place) (b2 : Bool) (R : List Road) (b3 : Bool) (f : List Span) : Option (AV × List Ob) := (evalF (env l65) Try.f65 k65 fl [.agg [.vec b1 .place P, .vec b2 .road R], .one (.vec b3 .span f)] []).den
theorem h65_eq (fl : Nat) (b1 : Bool) (P : List Place) (b2 : Bool) (R : List Road) (b3 : Bool) (f : List Span) : h65 (fl + 1) b1 P b2 R b3 f =
    (o97 b1 P b2 R b3 f).bind fun x2 =>
    (o101 b1 P b2 R false x2.fst).bind fun x3 =>
      h65_0 fl x3 ((↑x3.length : Int)) 0 [] := by kernel_rfl
theorem h65_0_eq (fl : Nat) (t18 : List Arc) (t19 : Int) (t20 : Int) (m0 : List Int) : h65_0 (fl + 1) t18 t19 t20 m0 =
    if (decide (t20 < t19)) = true then if (idx t18.length t20) = true then if ((↑m0.length : Int) == 0) = true then if (decide ((m0).length + ([(t18.getD t20.toNat (dflt K.arc)).road]).length ≤ lim)) = true then h65_0 fl t18 t19 (IntKind.i64.wrap (t20 + 1)) (m0 ++ [(t18.getD t20.toNat (dflt K.arc)).road])
          else none
        else if (idx m0.length (IntKind.i64.wrap ((↑m0.length : Int) - 1))) = true then if (m0.getD (IntKind.i64.wrap ((↑m0.length : Int) - 1)).toNat (dflt K.int) != (t18.getD t20.toNat (dflt K.arc)).road) = true then if (decide ((m0).length + ([(t18.getD t20.toNat (dflt K.arc)).road]).length ≤ lim)) = true then h65_0 fl t18 t19 (IntKind.i64.wrap (t20 + 1)) (m0 ++ [(t18.getD t20.toNat (dflt K.arc)).road])
              else none
            else h65_0 fl t18 t19 (IntKind.i64.wrap (t20 + 1)) m0
          else none
      else none
    else some (.one (.row 0), [.rows .int m0]) := by kernel_rfl
noncomputable def o65 (b1 : Bool) (P : List Place) (b2 : Bool) (R : List Road) (b3 : Bool) (f : List Span) : Option (List Int) := (h65 300 b1 P b2 R b3 f).bind (decInts)
noncomputable def c65 : Spec := ⟨false, fun av ob => match av, ob with
  | [.agg [.vec b1 .place P, .vec b2 .road R], .one (.vec b3 .span f)], [] => .call (o65 b1 P b2 R b3 f) fun x => .ret (.one (.vec false .int x), [])
  | _, _ => .fail⟩
theorem f65 : FnOK Try.prog 65 := fnOK_of Try.func65 rfl (by kernel_rfl)
theorem pc65 : SpecOK Try.prog 65 c65 := by
  refine spec_thaw (fun av ob r os hrn => ?_) (machS_ok (env_ok (l := l65) ⟨⟨pc97, f97⟩, ⟨⟨pc101, f101⟩, trivial⟩⟩) mixed_ok Try.func65 k65 (fun _ _ => 300) false)
  simp only [c65] at hrn
  split at hrn
  · rename_i b1 P b2 R b3 f
    obtain ⟨x, hx, hr⟩ := Option.bind_eq_some_iff.1 hrn
    cases hr
    obtain ⟨y, hy, hd⟩ := Option.bind_eq_some_iff.1 hx
    unfold h65 at hy
    obtain ⟨d1, d2⟩ := decInts_ok hd
    exact ⟨y.1, y.2, by rw [machS_run]; exact hy, d1, d2⟩
  · cases hrn
theorem roads_loop (A : List Arc) (hA : A.length ≤ 256) : ∀ (d fl i : Nat) (o : List Int), A.length - i = d → i ≤ A.length → d < fl → o.length ≤ i → h65_0 fl A A.length i o = some (.one (.row 0), [.rows .int ((A.drop i).foldl (fun o x => addR o x.road) o)])
  | d, fl, i, o, hd, hi, hf, ho => by
    obtain ⟨fl, rfl⟩ : ∃ q, fl = q + 1 := ⟨fl - 1, by omega⟩
    rw [h65_0_eq]
    by_cases hlt : i < A.length
    · have hi0 : dflt K.int = (0 : Int) := rfl
      have hl : ∀ z : Int, decide (o.length + [z].length ≤ lim) = true := fun z => by simp [lim]; omega
      rw [if_pos (lt_nat hlt), if_pos (idx_nat hlt), at_lt hlt, wr_succ (by omega), hi0, List.drop_eq_getElem_cons hlt, List.foldl_cons]
      cases d with
      | zero => omega
      | succ d =>
        have ih := fun (o : List Int) (ho : o.length ≤ i + 1) => roads_loop A hA d fl (i + 1) o (by omega) (by omega) (by omega) ho
        unfold addR
        by_cases c0 : o.length = 0
        · rw [if_pos (by simp only [beq_iff_eq]; omega), if_pos (hl _), if_pos c0, ih _ (by simp; omega)]
          rfl
        · have w0 : IntKind.i64.wrap ((o.length : Int) - 1) = ((o.length - 1 : Nat) : Int) := by rw [wid (by omega) (by omega)]; omega
          rw [if_neg (by simp only [beq_iff_eq]; omega), if_neg c0, w0, if_pos (idx_nat (by omega)), Int.toNat_natCast]
          by_cases c1 : o.getD (o.length - 1) 0 = A[i].road
          · rw [if_neg (by simpa using c1), if_neg (by simpa using c1), ih _ (by omega)]
            rfl
          · rw [if_pos (by simpa using c1), if_pos (hl _), if_pos c1, ih _ (by simp; omega)]
            rfl
    · rw [if_neg (nlt_nat hlt), List.drop_eq_nil_of_le (by omega)]
      rfl
theorem addR_new {o : List Int} {i : Int} (h : ∀ x ∈ o, x < i) : addR o i = o ++ [i] := by
  unfold addR
  by_cases c : o.length = 0
  · rw [if_pos c]
  · rw [if_neg c, if_pos]
    intro e
    have hm : o.getD (o.length - 1) 0 ∈ o := by
      rw [List.getD_eq_getElem?_getD, List.getElem?_eq_getElem (by omega)]
      exact List.getElem_mem _
    have := h _ hm
    omega
theorem addR_same (o : List Int) (i : Int) : addR (o ++ [i]) i = o ++ [i] := by
  unfold addR
  rw [if_neg (by simp)]
  have : (o ++ [i]).getD ((o ++ [i]).length - 1) 0 = i := by
    rw [show (o ++ [i]).length - 1 = o.length by simp]; exact getD_append_len
  rw [this, if_neg (by simp)]
open Classical in
theorem roads_fold (P : List Place) (R : List Road) (f : List Span) : ∀ (m i : Nat) (o : List Int), (∀ x ∈ o, x < (i : Int)) →
    ((arcsF R f m i).filter fun x => decide (onArc P (arcsOf R f) x)).foldl (fun o x => addR o x.road) o = o ++ circF P R f m i
  | 0, i, o, _ => by simp [arcsF, circF]
  | m + 1, i, o, ho => by
    rw [arcsF, List.filter_append, List.foldl_append, circF]
    have ih := fun (o : List Int) (h : ∀ x ∈ o, x < ((i + 1 : Nat) : Int)) => roads_fold P R f m (i + 1) o h
    have step : ((arcs1 R f i).filter fun x => decide (onArc P (arcsOf R f) x)).foldl (fun o x => addR o x.road) o = o ++ (if onRoad P R f i then [(i : Int)] else []) := by
      have ea : ∀ d, (⟨i, endA R i d, endB R i d⟩ : Arc) = if d then ⟨i, (R.getD i road0).to, (R.getD i road0).frm⟩ else ⟨i, (R.getD i road0).frm, (R.getD i road0).to⟩ := fun d => by
        cases d <;> simp [endA, endB]
      have e1 := ea false
      have e2 := ea true
      simp only [Bool.false_eq_true, if_false, if_true] at e1 e2
      unfold arcs1
      rw [← e1, ← e2]
      have hon : onRoad P R f i ↔ (can R f i false = true ∧ onArc P (arcsOf R f) ⟨i, endA R i false, endB R i false⟩) ∨ (can R f i true = true ∧ onArc P (arcsOf R f) ⟨i, endA R i true, endB R i true⟩) := by
        unfold onRoad
        constructor
        · rintro ⟨d, h⟩; cases d
          · exact .inl h
          · exact .inr h
        · rintro (h | h)
          · exact ⟨_, h⟩
          · exact ⟨_, h⟩
      have n1 := addR_new ho
      have n2 := addR_same o (i : Int)
      by_cases p1 : can R f i false = true ∧ onArc P (arcsOf R f) ⟨i, endA R i false, endB R i false⟩
      · rw [if_pos (hon.2 (.inl p1)), if_pos p1.1]
        by_cases p2 : can R f i true = true ∧ onArc P (arcsOf R f) ⟨i, endA R i true, endB R i true⟩
        · rw [if_pos p2.1]
          simp [List.filter_append, p1.2, p2.2, n1, n2]
        · by_cases q : can R f i true = true
          · have q2 : ¬ onArc P (arcsOf R f) ⟨i, endA R i true, endB R i true⟩ := fun h => p2 ⟨q, h⟩
            rw [if_pos q]
            simp [List.filter_append, p1.2, q2, n1]
          · rw [if_neg q]
            simp [List.filter_append, p1.2, n1]
      · have f1 : ((if can R f i false = true then [(⟨i, endA R i false, endB R i false⟩ : Arc)] else []).filter fun x => decide (onArc P (arcsOf R f) x)) = [] := by
          by_cases q : can R f i false = true
          · have q2 : ¬ onArc P (arcsOf R f) ⟨i, endA R i false, endB R i false⟩ := fun h => p1 ⟨q, h⟩
            rw [if_pos q]; simp [q2]
          · rw [if_neg q]; rfl
        rw [List.filter_append, f1, List.nil_append]
        by_cases p2 : can R f i true = true ∧ onArc P (arcsOf R f) ⟨i, endA R i true, endB R i true⟩
        · rw [if_pos (hon.2 (.inr p2)), if_pos p2.1]
          simp [p2.2, n1]
        · rw [if_neg (fun h => (hon.1 h).elim p1 p2)]
          by_cases q : can R f i true = true
          · have q2 : ¬ onArc P (arcsOf R f) ⟨i, endA R i true, endB R i true⟩ := fun h => p2 ⟨q, h⟩
            rw [if_pos q]; simp [q2]
          · rw [if_neg q]; simp
    rw [step, ih _ (fun x hx => by
      rcases List.mem_append.1 hx with h | h
      · have := ho x h; omega
      · split at h
        · have : x = (i : Int) := by simpa using h
          omega
        · simp at h), List.append_assoc]
theorem circles_eq (b1 : Bool) (P : List Place) (b2 : Bool) (R : List Road) (b3 : Bool) (f : List Span) (hP0 : P.length ≤ 64) : o65 b1 P b2 R b3 f = some (circM P R f) := by
  unfold o65 circM
  rw [h65_eq, arcs_eq, Option.bind_some]
  by_cases hr : rightM P R f = true
  · obtain ⟨h1, h2, h3, h4⟩ := rightM_in hr
    have hl := arcsF_len R f R.length 0
    have hl2 : (arcsOf R f).length ≤ 256 := by unfold arcsOf; omega
    have hl3 : (onArcs P (arcsOf R f)).length ≤ (arcsOf R f).length := List.length_filter_le _ _
    rw [if_pos hr, if_pos hr, circs_eq b1 b2 R false (arcsOf_in h1 f) hl2 h4, Option.bind_some]
    have e := roads_loop (onArcs P (arcsOf R f)) (by omega) (onArcs P (arcsOf R f)).length 299 0 [] (by omega) (by omega) (by omega) (by simp)
    have e' : h65_0 299 (onArcs P (arcsOf R f)) (onArcs P (arcsOf R f)).length 0 [] = _ := e
    rw [e', List.drop_zero]
    have e2 : (onArcs P (arcsOf R f)).foldl (fun o x => addR o x.road) [] = circF P R f R.length 0 := by
      have := roads_fold P R f R.length 0 [] (fun x hx => by simp at hx)
      rw [List.nil_append] at this
      exact this
    rw [e2]
    simp [decInts, slO]
  · rw [if_neg hr, if_neg hr, circs_eq b1 b2 R false (L := []) (fun x hx => by simp at hx) (by simp) hP0, Option.bind_some]
    have e := roads_loop [] (by simp) 0 299 0 [] rfl (by simp) (by omega) (by simp)
    have e' : h65_0 299 (onArcs P []) ((onArcs P []).length : Int) 0 [] = _ := e
    rw [e']
    simp [decInts, slO]
end Go.Proofs.Ytipfipnhgpbceaa.Sx
/- The roads on possible circles, by the other text (plain theorems). -/

set_option linter.unusedVariables false
set_option linter.unusedSimpArgs false
set_option maxRecDepth 100000
namespace Go.Proofs.Ytipfipnhgpbceaa.Sx
open Go Go.RowKit
noncomputable def l66 : List (FuncId × Spec) := [(98, s98), (100, s100), (99, s99), (102, c102)]
def k66 : Code → Keep := keepOf [(5, ⟨[1, 2, 5, 6], [(5, .int)], []⟩), (9, ⟨[1, 2, 5, 6, 7, 8], [], []⟩)]
noncomputable def h66_0 (fl : Nat) (t1b : Bool) (t1 : List Span) (t6 : Int) (m0_0b : Bool) (m0_0 : List Place) (m0_1b : Bool) (m0_1 : List Road) (m1 : List Int) : Option (AV × List Ob) := (evalH (env l66) Try.f66 k66 0 fl (stkF Try.f66 [1, 1, 1, 0, 1, 0]) ⟨[.one (.undef), .one (.vec t1b .span t1), .one (.ptr 0 0), .one (.undef), .one (.undef), .one (.row 1), .one (.int .i64 t6), .one (.undef), .one (.undef), .one (.undef), .one (.undef), .one (.undef), .one (.undef), .one (.undef), .one (.undef), .one (.undef), .one (.undef), .one (.undef), .one (.undef), .one (.undef), .one (.undef), .one (.undef), .one (.undef), .one (.undef), .one (.undef), .one (.undef), .one (.undef), .one (.undef), .one (.undef), .one (.undef), .one (.undef), .one (.undef), .one (.undef), .one (.undef), .one (.undef), .one (.undef), .one (.undef), .one (.undef), .one (.undef), .one (.undef), .one (.undef), .one (.undef), .one (.undef), .one (.undef), .one (.undef), .one (.undef), .one (.undef), .one (.undef), .one (.undef), .one (.undef), .one (.undef), .one (.undef), .one (.undef), .one (.undef), .one (.undef), .one (.undef), .one (.undef), .one (.undef), .one (.undef), .one (.undef), .one (.undef), .one (.undef), .one (.undef), .one (.undef), .one (.undef), .one (.undef), .one (.undef), .one (.undef), .one (.undef), .one (.undef), .one (.undef), .one (.undef), .one (.undef), .one (.undef), .one (.undef), .one (.undef), .one (.undef), .one (.undef), .one (.undef), .one (.undef), .one (.undef), .one (.undef)], [((0, 0), some (.cell (.vec m0_0b .place m0_0))), ((0, 1), some (.cell (.vec m0_1b .road m0_1))), ((1, 0), some (.rows .int m1))], 2⟩).den
noncomputable def h66_1 (fl : Nat) (t1b : Bool) (t1 : List Span) (t6 : Int) (t7 : Bool) (t8 : Int) (m0_0b : Bool) (m0_0 : List Place) (m0_1b : Bool) (m0_1 : List Road) (m1 : List Int) : Option (AV × List Ob) := (evalH (env l66) Try.f66 k66 0 fl (stkF Try.f66 [1, 1, 1, 0, 1, 0, 0, 1, 0, 0, 1, 0, 1, 0]) ⟨[.one (.undef), .one (.vec t1b .span t1), .one (.ptr 0 0), .one (.undef), .one (.undef), .one (.row 1), .one (.int .i64 t6), .one (.bool t7), .one (.int .i64 t8), .one (.undef), .one (.undef), .one (.undef), .one (.undef), .one (.undef), .one (.undef), .one (.undef), .one (.undef), .one (.undef), .one (.undef), .one (.undef), .one (.undef), .one (.undef), .one (.undef), .one (.undef), .one (.undef), .one (.undef), .one (.undef), .one (.undef), .one (.undef), .one (.undef), .one (.undef), .one (.undef), .one (.undef), .one (.undef), .one (.undef), .one (.undef), .one (.undef), .one (.undef), .one (.undef), .one (.undef), .one (.undef), .one (.undef), .one (.undef), .one (.undef), .one (.undef), .one (.undef), .one (.undef), .one (.undef), .one (.undef), .one (.undef), .one (.undef), .one (.undef), .one (.undef), .one (.undef), .one (.undef), .one (.undef), .one (.undef), .one (.undef), .one (.undef), .one (.undef), .one (.undef), .one (.undef), .one (.undef), .one (.undef), .one (.undef), .one (.undef), .one (.undef), .one (.undef), .one (.undef), .one (.undef), .one (.undef), .one (.undef), .one (.undef), .one (.undef), .one (.undef), .one (.undef), .one (.undef), .one (.undef), .one (.undef), .one (.undef), .one (.undef), .one (.undef)], [((0, 0), some (.cell (.vec m0_0b .place m0_0))), ((0, 1), some (.cell (.vec m0_1b .road m0_1))), ((1, 0), some (.rows .int m1))], 2⟩).den
noncomputable def h66 (fl : Nat) (b1 : Bool) (P : List Place) (b2 : Bool) (R : List Road) (b3 : Bool) (f : List Span) : Option (AV × List Ob) := (evalF (env l66) Try.f66 k66 fl [.agg [.vec b1 .place P, .vec b2 .road R], .one (.vec b3 .span f)] []).den
theorem h66_eq (fl : Nat) (b1 : Bool) (P : List Place) (b2 : Bool) (R : List Road) (b3 : Bool) (f : List Span) : h66 (fl + 1) b1 P b2 R b3 f =
    if (!rightM P R f) = true then some (.one (.nils), [])
    else h66_0 fl b3 f 0 b1 P b2 R [] := by kernel_rfl
theorem h66_0_eq (fl : Nat) (t1b : Bool) (t1 : List Span) (t6 : Int) (m0_0b : Bool) (m0_0 : List Place) (m0_1b : Bool) (m0_1 : List Road) (m1 : List Int) : h66_0 (fl + 1) t1b t1 t6 m0_0b m0_0 m0_1b m0_1 m1 =
    if (decide (t6 < (↑m0_1.length : Int))) = true then h66_1 fl t1b t1 t6 false 0 m0_0b m0_0 m0_1b m0_1 m1
    else some (.one (.row 0), [.rows .int m1]) := by kernel_rfl
theorem h66_1_eq (fl : Nat) (t1b : Bool) (t1 : List Span) (t6 : Int) (t7 : Bool) (t8 : Int) (m0_0b : Bool) (m0_0 : List Place) (m0_1b : Bool) (m0_1 : List Road) (m1 : List Int) : h66_1 (fl + 1) t1b t1 t6 t7 t8 m0_0b m0_0 m0_1b m0_1 m1 =
    if (decide (t8 < 2)) = true then if (idx m0_1.length t6) = true then if (idx m0_1.length t6 && idx t1.length t6) = true then if (!can m0_1 t1 t6 (t8 == 1)) = true then h66_1 fl t1b t1 t6 t7 (IntKind.i64.wrap (t8 + 1)) m0_0b m0_0 m0_1b m0_1 m1
          else if (idx m0_0.length (endA m0_1 t6 (t8 == 1))) = true then if ((m0_0.getD (endA m0_1 t6 (t8 == 1)).toNat (dflt K.place)).surface) = true then h66_1 fl t1b t1 t6 t7 (IntKind.i64.wrap (t8 + 1)) m0_0b m0_0 m0_1b m0_1 m1
              else if (idx m0_0.length (endB m0_1 t6 (t8 == 1))) = true then if ((m0_0.getD (endB m0_1 t6 (t8 == 1)).toNat (dflt K.place)).surface) = true then h66_1 fl t1b t1 t6 t7 (IntKind.i64.wrap (t8 + 1)) m0_0b m0_0 m0_1b m0_1 m1
                  else if (decide (0 ≤ (↑m0_0.length : Int)) && (decide ((↑m0_0.length : Int) ≤ 1048576) && (↑m0_0.length : Int) == (↑m0_0.length : Int))) = true then if (idx (List.replicate (↑m0_0.length : Int).toNat (dflt K.bool)).length (endB m0_1 t6 (t8 == 1))) = true then if t7 = true then h66_1 fl t1b t1 t6 true (IntKind.i64.wrap (t8 + 1)) m0_0b m0_0 m0_1b m0_1 m1
                        else (o102 m0_0b m0_0 m0_1b m0_1 t1b t1 true ((List.replicate (↑m0_0.length : Int).toNat (dflt K.bool)).set (endB m0_1 t6 (t8 == 1)).toNat true) t6).bind fun x13 =>
                          if (idx x13.length (endA m0_1 t6 (t8 == 1))) = true then h66_1 fl t1b t1 t6 (x13.getD (endA m0_1 t6 (t8 == 1)).toNat (dflt K.bool)) (IntKind.i64.wrap (t8 + 1)) m0_0b m0_0 m0_1b m0_1 m1
                            else none
                      else none
                    else none
                else none
            else none
        else none
      else none
    else if t7 = true then if (decide ((m1).length + ([t6]).length ≤ lim)) = true then h66_0 fl t1b t1 (IntKind.i64.wrap (t6 + 1)) m0_0b m0_0 m0_1b m0_1 (m1 ++ [t6])
        else none
      else h66_0 fl t1b t1 (IntKind.i64.wrap (t6 + 1)) m0_0b m0_0 m0_1b m0_1 m1 := by kernel_rfl
noncomputable def o66 (b1 : Bool) (P : List Place) (b2 : Bool) (R : List Road) (b3 : Bool) (f : List Span) : Option (List Int) := (h66 1000 b1 P b2 R b3 f).bind (decInts)
noncomputable def c66 : Spec := ⟨false, fun av ob => match av, ob with
  | [.agg [.vec b1 .place P, .vec b2 .road R], .one (.vec b3 .span f)], [] => .call (o66 b1 P b2 R b3 f) fun x => .ret (.one (.vec false .int x), [])
  | _, _ => .fail⟩
theorem f66 : FnOK Try.prog 66 := fnOK_of Try.func66 rfl (by kernel_rfl)
theorem pc66 : SpecOK Try.prog 66 c66 := by
  refine spec_thaw (fun av ob r os hrn => ?_) (machS_ok (env_ok (l := l66) ⟨⟨p98, f98⟩, ⟨⟨p100, f100⟩, ⟨⟨p99, f99⟩, ⟨⟨pc102, f102⟩, trivial⟩⟩⟩⟩) mixed_ok Try.func66 k66 (fun _ _ => 1000) false)
  simp only [c66] at hrn
  split at hrn
  · rename_i b1 P b2 R b3 f
    obtain ⟨x, hx, hr⟩ := Option.bind_eq_some_iff.1 hrn
    cases hr
    obtain ⟨y, hy, hd⟩ := Option.bind_eq_some_iff.1 hx
    unfold h66 at hy
    obtain ⟨d1, d2⟩ := decInts_ok hd
    exact ⟨y.1, y.2, by rw [machS_run]; exact hy, d1, d2⟩
  · cases hrn
/-- Whether a road is on a circle, one way or the other. -/
def onDir (P : List Place) (R : List Road) (f : List Span) (i : Nat) (d : Bool) : Prop := can R f i d = true ∧ surf P (endA R i d).toNat = false ∧ surf P (endB R i d).toNat = false ∧ RchC (Ere P R f i) (endB R i d).toNat (endA R i d).toNat
theorem onDir_iff {P : List Place} {R : List Road} {f : List Span} (hR : RoadsIn P.length R) (i : Nat) : onRoad P R f i ↔ ∃ d, onDir P R f i d := by
  unfold onRoad onDir onArc
  constructor
  · rintro ⟨d, h1, h2, h3, h4⟩
    exact ⟨d, h1, h2, h3, (rch_both hR i h3 _).1 h4⟩
  · rintro ⟨d, h1, h2, h3, h4⟩
    exact ⟨d, h1, h2, h3, (rch_both hR i h3 _).2 h4⟩
theorem rcirc2 (b1 b2 b3 : Bool) (P : List Place) (R : List Road) (f : List Span) (hR : RoadsIn P.length R) (hf : f.length = R.length) (hRl : R.length ≤ 128) (hP : P.length ≤ 64) (i : Nat) (hi : i < R.length) (o : List Int) (dn : Int) (d : Bool) (hd : (dn == 1) = d) (hdn : 0 ≤ dn ∧ dn < 2) (on : Bool) (Pd : Prop) (hon : on = true ↔ Pd) (fl : Nat)
    {Q : Option (AV × List Ob) → Prop} (hQ : ∀ on', (on' = true ↔ Pd ∨ onDir P R f i d) → Q (h66_1 fl b3 f i on' (dn + 1) b1 P b2 R o)) : Q (h66_1 (fl + 1) b3 f i on dn b1 P b2 R o) := by
  have hx := ends_in hR hi d
  have hb0 : dflt K.bool = false := rfl
  have hp0 : dflt K.place = place0 := rfl
  have w1 : IntKind.i64.wrap (dn + 1) = dn + 1 := wid (by omega) (by omega)
  have i0 : idx R.length (i : Int) = true := idx_nat hi
  have i4 : (idx R.length (i : Int) && idx f.length (i : Int)) = true := by rw [i0, idx_nat (by omega)]; rfl
  have i1 : idx P.length (endA R i d) = true := idx_of hx.1 hx.2.1
  have i2 : idx P.length (endB R i d) = true := idx_of hx.2.2.1 hx.2.2.2
  have no : ¬ onDir P R f i d → Q (h66_1 fl b3 f i on (dn + 1) b1 P b2 R o) := fun hn => hQ on (by rw [hon]; exact ⟨.inl, fun h => h.resolve_right hn⟩)
  rw [h66_1_eq, if_pos (show decide (dn < 2) = true by simp only [decide_eq_true_eq]; omega), hd, w1, hb0, hp0, if_pos i0, if_pos i4]
  by_cases c1 : can R f i d = true
  · rw [if_neg (by simp [c1]), if_pos i1]
    by_cases c2 : surf P (endA R i d).toNat = true
    · rw [if_pos (show (P.getD (endA R i d).toNat place0).surface = true from c2)]
      exact no (fun h => by rw [h.2.1] at c2; cases c2)
    have c2' : surf P (endA R i d).toNat = false := by simpa using c2
    rw [if_neg (show ¬ (P.getD (endA R i d).toNat place0).surface = true from c2), if_pos i2]
    by_cases c3 : surf P (endB R i d).toNat = true
    · rw [if_pos (show (P.getD (endB R i d).toNat place0).surface = true from c3)]
      exact no (fun h => by rw [h.2.2.1] at c3; cases c3)
    have c3' : surf P (endB R i d).toNat = false := by simpa using c3
    have hrep : (List.replicate ((P.length : Nat) : Int).toNat false).set (endB R i d).toNat true = single P.length (endB R i d).toNat := by rw [Int.toNat_natCast]; rfl
    have i3 : idx (List.replicate ((P.length : Nat) : Int).toNat false).length (endB R i d) = true := by rw [Int.toNat_natCast, List.length_replicate]; exact i2
    rw [if_neg (show ¬ (P.getD (endB R i d).toNat place0).surface = true from c3), if_pos (by simp; omega), if_pos i3]
    cases on with
    | true =>
      rw [if_pos rfl]
      exact hQ true (by rw [hon]; exact ⟨.inl, fun _ => hon.1 rfl⟩)
    | false =>
      obtain ⟨r, e, hr⟩ := reach_ok b1 b2 b3 (f := f) true (s := single P.length (endB R i d).toNat) (i : Int) hR hf hRl hP (by simp [single])
      rw [if_neg (by simp), hrep, e, Option.bind_some, if_pos (by rw [hr.len]; exact i1)]
      have hiff := hr.rch (show (endB R i d).toNat < P.length by omega) (endA R i d).toNat
      refine hQ _ ?_
      show bt r (endA R i d).toNat = true ↔ _
      rw [hiff]
      constructor
      · intro h; exact .inr ⟨c1, c2', c3', h⟩
      · rintro (h | h)
        · have := hon.2 h; cases this
        · exact h.2.2.2
  · rw [if_pos (by simpa using c1)]
    exact no (fun h => c1 h.1)
open Classical in
theorem rcirc1 (b1 b2 b3 : Bool) (P : List Place) (R : List Road) (f : List Span) (hR : RoadsIn P.length R) (hf : f.length = R.length) (hRl : R.length ≤ 128) (hP : P.length ≤ 64) : ∀ (d fl i : Nat) (o : List Int), R.length - i = d → i ≤ R.length → 4 * d < fl → o.length ≤ i →
    h66_0 fl b3 f i b1 P b2 R o = some (.one (.row 0), [.rows .int (o ++ circF P R f d i)])
  | d, fl, i, o, hd, hi, hfl, ho => by
    obtain ⟨fl, rfl⟩ : ∃ q, fl = q + 1 := ⟨fl - 1, by omega⟩
    rw [h66_0_eq]
    by_cases hlt : i < R.length
    · rw [if_pos (lt_nat hlt)]
      cases d with
      | zero => omega
      | succ d =>
        obtain ⟨fl, rfl⟩ : ∃ q, fl = q + 3 := ⟨fl - 3, by omega⟩
        have ih := fun (o : List Int) (ho : o.length ≤ i + 1) => rcirc1 b1 b2 b3 P R f hR hf hRl hP d fl (i + 1) o (by omega) (by omega) (by omega) ho
        refine rcirc2 b1 b2 b3 P R f hR hf hRl hP i hlt o 0 false rfl (by omega) false False (by simp) (fl + 2) (Q := fun z => z = some (.one (.row 0), [.rows .int (o ++ circF P R f (d + 1) i)])) (fun on' hon' => ?_)
        refine rcirc2 b1 b2 b3 P R f hR hf hRl hP i hlt o 1 true rfl (by omega) on' _ hon' (fl + 1) (Q := fun z => z = some (.one (.row 0), [.rows .int (o ++ circF P R f (d + 1) i)])) (fun on2 hon2 => ?_)
        have hr : on2 = true ↔ onRoad P R f i := by
          rw [hon2, onDir_iff hR]
          constructor
          · rintro ((h | h) | h)
            · exact h.elim
            · exact ⟨_, h⟩
            · exact ⟨_, h⟩
          · rintro ⟨dd, h⟩
            cases dd
            · exact .inl (.inr h)
            · exact .inr h
        rw [show ((1 : Int) + 1) = 2 from rfl, h66_1_eq, if_neg (by simp), wr_succ (by omega), circF]
        by_cases c : on2 = true
        · rw [if_pos c, if_pos (show decide (o.length + [_].length ≤ lim) = true by simp [lim]; omega), if_pos (hr.1 c), ih _ (by simp; omega), List.append_assoc]
        · rw [if_neg c, if_neg (fun h => c (hr.2 h)), ih _ (by omega), List.nil_append]
    · have : d = 0 := by omega
      subst this
      rw [if_neg (nlt_nat hlt)]
      simp [circF]
theorem rcircles_eq (b1 : Bool) (P : List Place) (b2 : Bool) (R : List Road) (b3 : Bool) (f : List Span) : o66 b1 P b2 R b3 f = some (circM P R f) := by
  unfold o66 circM
  rw [h66_eq]
  by_cases hr : rightM P R f = true
  · obtain ⟨h1, h2, h3, h4⟩ := rightM_in hr
    have e := rcirc1 b1 b2 b3 P R f h1 h2 h3 h4 R.length 999 0 [] (by omega) (by omega) (by omega) (by simp)
    have e' : h66_0 999 b3 f 0 b1 P b2 R [] = _ := e
    rw [if_neg (by simp [hr]), if_pos hr, e', Option.bind_some]
    simp [decInts, slO]
  · rw [if_pos (by simpa using hr), if_neg hr]
    simp [decInts, slO]
end Go.Proofs.Ytipfipnhgpbceaa.Sx
/- Whether a list has a number, whether two lists are alike (plain theorems). -/

set_option linter.unusedVariables false
set_option linter.unusedSimpArgs false
set_option maxRecDepth 100000
namespace Go.Proofs.Ytipfipnhgpbceaa.Sx
open Go Go.RowKit
def decB : AV × List Ob → Option Bool
  | (.one (.bool b), _) => some b
  | _ => none
theorem decB_ok {y : AV × List Ob} {x : Bool} (h : decB y = some x) : ([] : List Ob) = y.2.take 0 ∧ TA y.2 0 y.1 (.one (.bool x)) := by
  unfold decB at h
  split at h
  · cases h
    exact ⟨rfl, .one _ _ (.same _) (by simp)⟩
  · cases h
noncomputable def l69 : List (FuncId × Spec) := []
def k69 : Code → Keep := keepOf [(2, ⟨[0, 1, 5], [], []⟩)]
noncomputable def h69_0 (fl : Nat) (t0 : List Int) (t1 : Int) (t5 : Int) : Option (AV × List Ob) := (evalH (env l69) Try.f69 k69 0 fl (stkF Try.f69 [1, 0, 1, 0]) ⟨[.one (.vec false .int t0), .one (.int .i64 t1), .one (.undef), .one (.undef), .one (.undef), .one (.int .i64 t5), .one (.undef), .one (.undef), .one (.undef), .one (.undef), .one (.undef), .one (.undef), .one (.undef), .one (.undef), .one (.undef), .one (.undef), .one (.undef), .one (.undef)], [], 0⟩).den
noncomputable def h69 (fl : Nat) (l : List Int) (n : Int) : Option (AV × List Ob) := (evalF (env l69) Try.f69 k69 fl [.one (.vec false .int l), .one (.int .i64 n)] []).den
theorem h69_eq (fl : Nat) (l : List Int) (n : Int) : h69 (fl + 1) l n =
    h69_0 fl l n 0 := by kernel_rfl
theorem h69_0_eq (fl : Nat) (t0 : List Int) (t1 : Int) (t5 : Int) : h69_0 (fl + 1) t0 t1 t5 =
    if (decide (t5 < (↑t0.length : Int))) = true then if (idx t0.length t5) = true then if (t0.getD t5.toNat (dflt K.int) == t1) = true then some (.one (.bool true), [])
        else h69_0 fl t0 t1 (IntKind.i64.wrap (t5 + 1))
      else none
    else some (.one (.bool false), []) := by kernel_rfl
noncomputable def o69 (l : List Int) (n : Int) : Option (Bool) := (h69 2000 l n).bind (decB)
noncomputable def c69 : Spec := ⟨false, fun av ob => match av, ob with
  | [.one (.vec false .int l), .one (.int .i64 n)], [] => .call (o69 l n) fun x => .ret (.one (.bool x), [])
  | _, _ => .fail⟩
theorem f69 : FnOK Try.prog 69 := fnOK_of Try.func69 rfl (by kernel_rfl)
theorem pc69 : SpecOK Try.prog 69 c69 := by
  refine spec_thaw (fun av ob r os hrn => ?_) (machS_ok (env_ok (l := l69) trivial) mixed_ok Try.func69 k69 (fun _ _ => 2000) false)
  simp only [c69] at hrn
  split at hrn
  · rename_i l n
    obtain ⟨x, hx, hr⟩ := Option.bind_eq_some_iff.1 hrn
    cases hr
    obtain ⟨y, hy, hd⟩ := Option.bind_eq_some_iff.1 hx
    unfold h69 at hy
    obtain ⟨d1, d2⟩ := decB_ok hd
    exact ⟨y.1, y.2, by rw [machS_run]; exact hy, d1, d2⟩
  · cases hrn
theorem has1 (l : List Int) (n : Int) (hl : l.length ≤ 1000) : ∀ (d fl i : Nat), l.length - i = d → i ≤ l.length → d < fl → h69_0 fl l n i = some (.one (.bool (decide (n ∈ l.drop i))), [])
  | d, fl, i, hd, hi, hf => by
    obtain ⟨fl, rfl⟩ : ∃ q, fl = q + 1 := ⟨fl - 1, by omega⟩
    rw [h69_0_eq]
    by_cases hlt : i < l.length
    · have hi0 : dflt K.int = (0 : Int) := rfl
      rw [if_pos (lt_nat hlt), if_pos (idx_nat hlt), at_lt hlt, wr_succ (by omega), List.drop_eq_getElem_cons hlt]
      cases d with
      | zero => omega
      | succ d =>
        by_cases c : l[i] = n
        · rw [if_pos (by simpa using c)]; simp [c]
        · rw [if_neg (by simpa using c), has1 l n hl d fl (i + 1) (by omega) (by omega) (by omega)]
          have : n ≠ l[i] := fun h => c h.symm
          simp only [List.mem_cons, this, false_or]
    · rw [if_neg (nlt_nat hlt), List.drop_eq_nil_of_le (by omega)]
      simp
theorem has_eq (l : List Int) (n : Int) (hl : l.length ≤ 1000) : o69 l n = some (decide (n ∈ l)) := by
  unfold o69
  rw [h69_eq]
  have e := has1 l n hl l.length 1999 0 (by omega) (by omega) (by omega)
  rw [List.drop_zero] at e
  have e' : h69_0 1999 l n 0 = _ := e
  rw [e']
  rfl
noncomputable def l52 : List (FuncId × Spec) := []
def k52 : Code → Keep := keepOf [(4, ⟨[0, 1, 5], [], []⟩)]
noncomputable def h52_0 (fl : Nat) (t0b : Bool) (t0 : List Int) (t1b : Bool) (t1 : List Int) (t5 : Int) : Option (AV × List Ob) := (evalH (env l52) Try.f52 k52 0 fl (stkF Try.f52 [1, 1, 0, 1, 0]) ⟨[.one (.vec t0b .int t0), .one (.vec t1b .int t1), .one (.undef), .one (.undef), .one (.undef), .one (.int .i64 t5), .one (.undef), .one (.undef), .one (.undef), .one (.undef), .one (.undef), .one (.undef), .one (.undef), .one (.undef), .one (.undef), .one (.undef), .one (.undef), .one (.undef), .one (.undef), .one (.undef), .one (.undef), .one (.undef), .one (.undef), .one (.undef), .one (.undef), .one (.undef)], [], 0⟩).den
noncomputable def h52 (fl : Nat) (b1 : Bool) (l : List Int) (b2 : Bool) (m : List Int) : Option (AV × List Ob) := (evalF (env l52) Try.f52 k52 fl [.one (.vec b1 .int l), .one (.vec b2 .int m)] []).den
theorem h52_eq (fl : Nat) (b1 : Bool) (l : List Int) (b2 : Bool) (m : List Int) : h52 (fl + 1) b1 l b2 m =
    if ((↑l.length : Int) != (↑m.length : Int)) = true then some (.one (.bool false), [])
    else h52_0 fl b1 l b2 m 0 := by kernel_rfl
theorem h52_0_eq (fl : Nat) (t0b : Bool) (t0 : List Int) (t1b : Bool) (t1 : List Int) (t5 : Int) : h52_0 (fl + 1) t0b t0 t1b t1 t5 =
    if (decide (t5 < (↑t0.length : Int))) = true then if (idx t0.length t5) = true then if (idx t1.length t5) = true then if (t0.getD t5.toNat (dflt K.int) != t1.getD t5.toNat (dflt K.int)) = true then some (.one (.bool false), [])
          else h52_0 fl t0b t0 t1b t1 (IntKind.i64.wrap (t5 + 1))
        else none
      else none
    else some (.one (.bool true), []) := by kernel_rfl
noncomputable def o52 (b1 : Bool) (l : List Int) (b2 : Bool) (m : List Int) : Option (Bool) := (h52 2000 b1 l b2 m).bind (decB)
noncomputable def c52 : Spec := ⟨false, fun av ob => match av, ob with
  | [.one (.vec b1 .int l), .one (.vec b2 .int m)], [] => .call (o52 b1 l b2 m) fun x => .ret (.one (.bool x), [])
  | _, _ => .fail⟩
theorem f52 : FnOK Try.prog 52 := fnOK_of Try.func52 rfl (by kernel_rfl)
theorem pc52 : SpecOK Try.prog 52 c52 := by
  refine spec_thaw (fun av ob r os hrn => ?_) (machS_ok (env_ok (l := l52) trivial) mixed_ok Try.func52 k52 (fun _ _ => 2000) false)
  simp only [c52] at hrn
  split at hrn
  · rename_i b1 l b2 m
    obtain ⟨x, hx, hr⟩ := Option.bind_eq_some_iff.1 hrn
    cases hr
    obtain ⟨y, hy, hd⟩ := Option.bind_eq_some_iff.1 hx
    unfold h52 at hy
    obtain ⟨d1, d2⟩ := decB_ok hd
    exact ⟨y.1, y.2, by rw [machS_run]; exact hy, d1, d2⟩
  · cases hrn
theorem ints1 (b1 b2 : Bool) (l m : List Int) (hl : l.length ≤ 1000) (hm : m.length = l.length) : ∀ (d fl i : Nat), l.length - i = d → i ≤ l.length → d < fl → h52_0 fl b1 l b2 m i = some (.one (.bool (decide (l.drop i = m.drop i))), [])
  | d, fl, i, hd, hi, hf => by
    obtain ⟨fl, rfl⟩ : ∃ q, fl = q + 1 := ⟨fl - 1, by omega⟩
    rw [h52_0_eq]
    by_cases hlt : i < l.length
    · have hlm : i < m.length := by omega
      rw [if_pos (lt_nat hlt), if_pos (idx_nat hlt), if_pos (idx_nat hlm), at_lt hlt, at_lt hlm, wr_succ (by omega), List.drop_eq_getElem_cons hlt, List.drop_eq_getElem_cons hlm]
      cases d with
      | zero => omega
      | succ d =>
        by_cases c : l[i] = m[i]
        · rw [if_neg (by simpa using c), ints1 b1 b2 l m hl hm d fl (i + 1) (by omega) (by omega) (by omega)]
          simp only [List.cons.injEq, c, true_and]
        · rw [if_pos (by simpa using c)]
          simp only [List.cons.injEq, c, false_and, decide_false]
    · rw [if_neg (nlt_nat hlt), List.drop_eq_nil_of_le (by omega), List.drop_eq_nil_of_le (by omega)]
      simp
theorem ints_eq (b1 : Bool) (l : List Int) (b2 : Bool) (m : List Int) (hl : l.length ≤ 1000) : o52 b1 l b2 m = some (decide (l = m)) := by
  unfold o52
  rw [h52_eq]
  by_cases c : l.length = m.length
  · have e := ints1 b1 b2 l m hl c.symm l.length 1999 0 (by omega) (by omega) (by omega)
    rw [List.drop_zero, List.drop_zero] at e
    have e' : h52_0 1999 b1 l b2 m 0 = _ := e
    rw [if_neg (by simp [c]), e']
    rfl
  · rw [if_pos (by simp only [bne_iff_ne, ne_eq]; omega)]
    have : l ≠ m := fun h => c (by rw [h])
    simp [decB, this]
end Go.Proofs.Ytipfipnhgpbceaa.Sx
/- A mine of its own (plain theorem). -/

set_option linter.unusedVariables false
set_option linter.unusedSimpArgs false
set_option maxRecDepth 100000
namespace Go.Proofs.Ytipfipnhgpbceaa.Sx
open Go Go.RowKit
noncomputable def l70 : List (FuncId × Spec) := []
def k70 : Code → Keep := keepOf []
noncomputable def h70 (fl : Nat) (b1 : Bool) (P : List Place) (b2 : Bool) (R : List Road) : Option (AV × List Ob) := (evalF (env l70) Try.f70 k70 fl [.agg [.vec b1 .place P, .vec b2 .road R]] []).den
theorem h70_eq (fl : Nat) (b1 : Bool) (P : List Place) (b2 : Bool) (R : List Road) : h70 (fl + 1) b1 P b2 R =
    if (decide ((0 : Nat) + (P).length ≤ lim)) = true then if (decide ((0 : Nat) + (R).length ≤ lim)) = true then some (.agg [.row 0, .row 1], [.rows .place ([] ++ P), .rows .road ([] ++ R)])
      else none
    else none := by kernel_rfl
def s70 : Spec := ⟨false, fun av ob => match av, ob with
  | [.agg [.vec b1 .place P, .vec b2 .road R]], [] => .need (decide (P.length ≤ lim) && decide (R.length ≤ lim)) (.ret (.agg [.row 0, .row 1], [.rows .place P, .rows .road R]))
  | _, _ => .fail⟩
theorem v70 (b1 : Bool) (P : List Place) (b2 : Bool) (R : List Road) (h : (decide (P.length ≤ lim) && decide (R.length ≤ lim)) = true) : h70 1 b1 P b2 R = some (.agg [.row 0, .row 1], [.rows .place P, .rows .road R]) := by
  simp only [Bool.and_eq_true, decide_eq_true_eq] at h
  rw [h70_eq, if_pos (by simp only [decide_eq_true_eq]; omega), if_pos (by simp only [decide_eq_true_eq]; omega)]
  rfl
theorem p70 : SpecOK Try.prog 70 s70 := by
  refine specOK_of (env_ok (l := l70) trivial) mixed_ok Try.func70 k70 fun av ob r os hrn => ?_
  simp only [s70] at hrn
  split at hrn
  · rename_i b1 P b2 R
    obtain ⟨hg, hrn⟩ := need_den hrn
    cases hrn
    have hv := v70 b1 P b2 R hg
    unfold h70 at hv
    exact ⟨1, hv⟩
  · cases hrn
theorem f70 : FnOK Try.prog 70 := fnOK_of Try.func70 rfl (by kernel_rfl)
end Go.Proofs.Ytipfipnhgpbceaa.Sx
/- The places to which air of circles comes (plain theorems). -/

set_option linter.unusedVariables false
set_option linter.unusedSimpArgs false
set_option maxRecDepth 100000
namespace Go.Proofs.Ytipfipnhgpbceaa.Sx
open Go Go.RowKit
open Classical in
noncomputable def pick (p : Nat → Prop) : Nat → Nat → List Int
  | 0, _ => []
  | m + 1, i => (if p i then [(i : Int)] else []) ++ pick p m (i + 1)
theorem pick_congr {p q : Nat → Prop} : ∀ (m i : Nat), (∀ j, i ≤ j → j < i + m → (p j ↔ q j)) → pick p m i = pick q m i
  | 0, i, h => rfl
  | m + 1, i, h => by
    rw [pick, pick, pick_congr m (i + 1) (fun j h1 h2 => h j (by omega) (by omega))]
    have := h i (by omega) (by omega)
    by_cases c : p i
    · rw [if_pos c, if_pos (this.1 c)]
    · rw [if_neg c, if_neg (fun h => c (this.2 h))]
theorem pick_none {p : Nat → Prop} : ∀ (m i : Nat), (∀ j, ¬ p j) → pick p m i = []
  | 0, i, h => rfl
  | m + 1, i, h => by rw [pick, if_neg (h i), pick_none m (i + 1) h, List.nil_append]
theorem mem_circF {P : List Place} {R : List Road} {f : List Span} {x : Int} : ∀ (m i : Nat), x ∈ circF P R f m i ↔ ∃ j : Nat, i ≤ j ∧ j < i + m ∧ onRoad P R f j ∧ x = j
  | 0, i => by
    simp only [circF, List.not_mem_nil, false_iff]
    rintro ⟨j, h1, h2, _⟩
    omega
  | m + 1, i => by
    rw [circF, List.mem_append, mem_circF m (i + 1)]
    constructor
    · rintro (h | ⟨j, h1, h2, h3, h4⟩)
      · split at h
        · rename_i c; exact ⟨i, by omega, by omega, c, by simpa using h⟩
        · simp at h
      · exact ⟨j, by omega, by omega, h3, h4⟩
    · rintro ⟨j, h1, h2, h3, h4⟩
      by_cases hj : j = i
      · subst hj; left; rw [if_pos h3]; simp [h4]
      · exact .inr ⟨j, by omega, by omega, h3, h4⟩
/-- Air of a circle comes to a place. -/
def MixP (P : List Place) (R : List Road) (f : List Span) (i : Nat) : Prop := ∀ T : Nat → Prop, (∀ k, k < R.length → onRoad P R f k → T (R.getD k road0).frm.toNat ∧ T (R.getD k road0).to.toNat) → (∀ a c, Ere P R f (-1) a c → T a → T c) → T i
noncomputable def mixM (P : List Place) (R : List Road) (f : List Span) : List Int := by classical exact if rightM P R f = true then pick (MixP P R f) P.length 0 else []
theorem set_bt2 {m : List Bool} {n a b : Nat} (hm : m.length = n) (ha : a < n) (hb : b < n) (j : Nat) : bt ((m.set a true).set b true) j = true ↔ bt m j = true ∨ a = j ∨ b = j := by
  rw [bt_set _ (by simp; omega), bt_set _ (by omega)]
  by_cases h1 : j = b
  · simp [h1]
  · by_cases h2 : j = a
    · simp [h2]
    · rw [if_neg h1, if_neg h2]
      have h3 : ¬ a = j := fun h => h2 h.symm
      have h4 : ¬ b = j := fun h => h1 h.symm
      simp [h3, h4]
noncomputable def l72 : List (FuncId × Spec) := [(66, c66), (102, c102)]
def k72 : Code → Keep := keepOf [(4, ⟨[1, 2, 5, 6, 7], [], []⟩), (11, ⟨[6, 8, 9], [(8, .int)], [(6, 0, .bool)]⟩)]
noncomputable def h72_0 (fl : Nat) (t1b : Bool) (t1 : List Span) (t5 : List Int) (t7 : Int) (m0_0b : Bool) (m0_0 : List Place) (m0_1b : Bool) (m0_1 : List Road) (m1 : List Bool) : Option (AV × List Ob) := (evalH (env l72) Try.f72 k72 0 fl (stkF Try.f72 [1, 1, 1, 0, 1, 0]) ⟨[.one (.undef), .one (.vec t1b .span t1), .one (.ptr 0 0), .one (.undef), .one (.undef), .one (.vec false .int t5), .one (.row 1), .one (.int .i64 t7), .one (.undef), .one (.undef), .one (.undef), .one (.undef), .one (.undef), .one (.undef), .one (.undef), .one (.undef), .one (.undef), .one (.undef), .one (.undef), .one (.undef), .one (.undef), .one (.undef), .one (.undef), .one (.undef), .one (.undef), .one (.undef), .one (.undef), .one (.undef), .one (.undef), .one (.undef), .one (.undef), .one (.undef), .one (.undef), .one (.undef), .one (.undef), .one (.undef), .one (.undef), .one (.undef), .one (.undef), .one (.undef), .one (.undef), .one (.undef), .one (.undef), .one (.undef), .one (.undef), .one (.undef), .one (.undef), .one (.undef), .one (.undef), .one (.undef), .one (.undef), .one (.undef), .one (.undef), .one (.undef), .one (.undef), .one (.undef), .one (.undef), .one (.undef), .one (.undef), .one (.undef), .one (.undef), .one (.undef), .one (.undef), .one (.undef), .one (.undef), .one (.undef), .one (.undef)], [((0, 0), some (.cell (.vec m0_0b .place m0_0))), ((0, 1), some (.cell (.vec m0_1b .road m0_1))), ((1, 0), some (.rows .bool m1))], 2⟩).den
noncomputable def h72_1 (fl : Nat) (t6 : List Bool) (t9 : Int) (m0 : List Int) : Option (AV × List Ob) := (evalH (env l72) Try.f72 k72 0 fl (stkF Try.f72 [1, 1, 1, 1, 1, 1, 0, 1, 0]) ⟨[.one (.undef), .one (.undef), .one (.undef), .one (.undef), .one (.undef), .one (.undef), .one (.vec false .bool t6), .one (.undef), .one (.row 0), .one (.int .i64 t9), .one (.undef), .one (.undef), .one (.undef), .one (.undef), .one (.undef), .one (.undef), .one (.undef), .one (.undef), .one (.undef), .one (.undef), .one (.undef), .one (.undef), .one (.undef), .one (.undef), .one (.undef), .one (.undef), .one (.undef), .one (.undef), .one (.undef), .one (.undef), .one (.undef), .one (.undef), .one (.undef), .one (.undef), .one (.undef), .one (.undef), .one (.undef), .one (.undef), .one (.undef), .one (.undef), .one (.undef), .one (.undef), .one (.undef), .one (.undef), .one (.undef), .one (.undef), .one (.undef), .one (.undef), .one (.undef), .one (.undef), .one (.undef), .one (.undef), .one (.undef), .one (.undef), .one (.undef), .one (.undef), .one (.undef), .one (.undef), .one (.undef), .one (.undef), .one (.undef), .one (.undef), .one (.undef), .one (.undef), .one (.undef), .one (.undef), .one (.undef)], [((0, 0), some (.rows .int m0))], 1⟩).den
noncomputable def h72 (fl : Nat) (b1 : Bool) (P : List Place) (b2 : Bool) (R : List Road) (b3 : Bool) (f : List Span) : Option (AV × List Ob) := (evalF (env l72) Try.f72 k72 fl [.agg [.vec b1 .place P, .vec b2 .road R], .one (.vec b3 .span f)] []).den
theorem h72_eq (fl : Nat) (b1 : Bool) (P : List Place) (b2 : Bool) (R : List Road) (b3 : Bool) (f : List Span) : h72 (fl + 1) b1 P b2 R b3 f =
    (o66 b1 P b2 R b3 f).bind fun x2 =>
    if (decide (0 ≤ (↑P.length : Int)) && (decide ((↑P.length : Int) ≤ 1048576) && (↑P.length : Int) == (↑P.length : Int))) = true then h72_0 fl b3 f x2 0 b1 P b2 R (List.replicate (↑P.length : Int).toNat (dflt K.bool))
      else none := by kernel_rfl
theorem h72_0_eq (fl : Nat) (t1b : Bool) (t1 : List Span) (t5 : List Int) (t7 : Int) (m0_0b : Bool) (m0_0 : List Place) (m0_1b : Bool) (m0_1 : List Road) (m1 : List Bool) : h72_0 (fl + 1) t1b t1 t5 t7 m0_0b m0_0 m0_1b m0_1 m1 =
    if (decide (t7 < (↑t5.length : Int))) = true then if (idx t5.length t7) = true then if (idx m0_1.length (t5.getD t7.toNat (dflt K.int))) = true then if (idx t5.length t7) = true then if (idx m0_1.length (t5.getD t7.toNat (dflt K.int))) = true then if (idx m1.length (m0_1.getD (Int.toNat (t5.getD t7.toNat (dflt K.int))) (dflt K.road)).frm) = true then if (idx (m1.set (m0_1.getD (Int.toNat (t5.getD t7.toNat (dflt K.int))) (dflt K.road)).frm.toNat true).length (m0_1.getD (Int.toNat (t5.getD t7.toNat (dflt K.int))) (dflt K.road)).to) = true then h72_0 fl t1b t1 t5 (IntKind.i64.wrap (t7 + 1)) m0_0b m0_0 m0_1b m0_1 ((m1.set (m0_1.getD (Int.toNat (t5.getD t7.toNat (dflt K.int))) (dflt K.road)).frm.toNat true).set (m0_1.getD (Int.toNat (t5.getD t7.toNat (dflt K.int))) (dflt K.road)).to.toNat true)
                else none
              else none
            else none
          else none
        else none
      else none
    else if (decide ((↑t5.length : Int) > 0)) = true then (o102 m0_0b m0_0 m0_1b m0_1 t1b t1 true m1 (-1)).bind fun x4 =>
        h72_1 fl x4 0 []
      else h72_1 fl m1 0 [] := by kernel_rfl
theorem h72_1_eq (fl : Nat) (t6 : List Bool) (t9 : Int) (m0 : List Int) : h72_1 (fl + 1) t6 t9 m0 =
    if (decide (t9 < (↑t6.length : Int))) = true then if (idx t6.length t9) = true then if (t6.getD t9.toNat (dflt K.bool)) = true then if (decide ((m0).length + ([t9]).length ≤ lim)) = true then h72_1 fl t6 (IntKind.i64.wrap (t9 + 1)) (m0 ++ [t9])
          else none
        else h72_1 fl t6 (IntKind.i64.wrap (t9 + 1)) m0
      else none
    else some (.one (.row 0), [.rows .int m0]) := by kernel_rfl
noncomputable def o72 (b1 : Bool) (P : List Place) (b2 : Bool) (R : List Road) (b3 : Bool) (f : List Span) : Option (List Int) := (h72 1000 b1 P b2 R b3 f).bind (decInts)
noncomputable def c72 : Spec := ⟨false, fun av ob => match av, ob with
  | [.agg [.vec b1 .place P, .vec b2 .road R], .one (.vec b3 .span f)], [] => .call (o72 b1 P b2 R b3 f) fun x => .ret (.one (.vec false .int x), [])
  | _, _ => .fail⟩
theorem f72 : FnOK Try.prog 72 := fnOK_of Try.func72 rfl (by kernel_rfl)
theorem pc72 : SpecOK Try.prog 72 c72 := by
  refine spec_thaw (fun av ob r os hrn => ?_) (machS_ok (env_ok (l := l72) ⟨⟨pc66, f66⟩, ⟨⟨pc102, f102⟩, trivial⟩⟩) mixed_ok Try.func72 k72 (fun _ _ => 1000) false)
  simp only [c72] at hrn
  split at hrn
  · rename_i b1 P b2 R b3 f
    obtain ⟨x, hx, hr⟩ := Option.bind_eq_some_iff.1 hrn
    cases hr
    obtain ⟨y, hy, hd⟩ := Option.bind_eq_some_iff.1 hx
    unfold h72 at hy
    obtain ⟨d1, d2⟩ := decInts_ok hd
    exact ⟨y.1, y.2, by rw [machS_run]; exact hy, d1, d2⟩
  · cases hrn
theorem seeds72 (b1 b2 b3 : Bool) (P : List Place) (R : List Road) (f : List Span) (hR : RoadsIn P.length R) (l : List Int) (hl : ∀ x ∈ l, 0 ≤ x ∧ x < (R.length : Int)) (hll : l.length ≤ 256) : ∀ (d fl k : Nat) (m : List Bool), l.length - k = d → k ≤ l.length → m.length = P.length →
    ∃ m', m'.length = P.length ∧ (∀ j, bt m' j = true ↔ bt m j = true ∨ ∃ x ∈ l.drop k, (R.getD x.toNat road0).frm.toNat = j ∨ (R.getD x.toNat road0).to.toNat = j) ∧ h72_0 (fl + d) b3 f l k b1 P b2 R m = h72_0 fl b3 f l l.length b1 P b2 R m'
  | 0, fl, k, m, hd, hk, hm => by
    have : k = l.length := by omega
    subst this
    exact ⟨m, hm, fun j => by simp, rfl⟩
  | d + 1, fl, k, m, hd, hk, hm => by
    have hlt : k < l.length := by omega
    have hx := hl _ (List.getElem_mem hlt)
    have hi0 : dflt K.road = road0 := rfl
    rw [show fl + (d + 1) = (fl + d) + 1 by omega, h72_0_eq, if_pos (lt_nat hlt), if_pos (idx_nat hlt), at_lt hlt, wr_succ (by omega), hi0, List.drop_eq_getElem_cons hlt]
    generalize l[k] = x at *
    have hr := hR x.toNat (by omega)
    have i1 : idx R.length x = true := idx_of hx.1 hx.2
    have i2 : idx m.length (R.getD x.toNat road0).frm = true := idx_of hr.1 (by rw [hm]; exact hr.2.1)
    have i3 : idx (m.set (R.getD x.toNat road0).frm.toNat true).length (R.getD x.toNat road0).to = true := idx_of hr.2.2.1 (by rw [List.length_set, hm]; exact hr.2.2.2)
    rw [if_pos i1, if_pos (idx_nat hlt), if_pos i1, if_pos i2, if_pos i3]
    obtain ⟨m', h1, h2, h3⟩ := seeds72 b1 b2 b3 P R f hR l hl hll d fl (k + 1) _ (by omega) (by omega) (show ((m.set (R.getD x.toNat road0).frm.toNat true).set (R.getD x.toNat road0).to.toNat true).length = P.length by simpa using hm)
    refine ⟨m', h1, fun j => ?_, h3⟩
    rw [h2 j, set_bt2 hm (by omega) (by omega) j]
    simp only [List.mem_cons, exists_eq_or_imp, or_assoc]
theorem out72 (r : List Bool) (hr : r.length ≤ 256) : ∀ (d fl i : Nat) (o : List Int), r.length - i = d → i ≤ r.length → d < fl → o.length ≤ i → h72_1 fl r i o = some (.one (.row 0), [.rows .int (o ++ pick (fun j => bt r j = true) d i)])
  | d, fl, i, o, hd, hi, hf, ho => by
    obtain ⟨fl, rfl⟩ : ∃ q, fl = q + 1 := ⟨fl - 1, by omega⟩
    have hb0 : dflt K.bool = false := rfl
    rw [h72_1_eq]
    by_cases hlt : i < r.length
    · cases d with
      | zero => omega
      | succ d =>
        have ih := fun (o : List Int) (ho : o.length ≤ i + 1) => out72 r hr d fl (i + 1) o (by omega) (by omega) (by omega) ho
        rw [if_pos (lt_nat hlt), if_pos (idx_nat hlt), hb0, Int.toNat_natCast, wr_succ (by omega), pick]
        by_cases c : bt r i = true
        · rw [if_pos (show r.getD i false = true from c), if_pos (show decide (o.length + [_].length ≤ lim) = true by simp [lim]; omega), if_pos c, ih _ (by simp; omega), List.append_assoc]
        · rw [if_neg (show ¬ r.getD i false = true from c), if_neg c, ih _ (by omega), List.nil_append]
    · have : d = 0 := by omega
      subst this
      rw [if_neg (nlt_nat hlt)]
      simp [pick]
theorem mix_least {P : List Place} {R : List Road} {f : List Span} {s r : List Bool} (hs : ∀ j, bt s j = true ↔ ∃ k, k < R.length ∧ onRoad P R f k ∧ ((R.getD k road0).frm.toNat = j ∨ (R.getD k road0).to.toNat = j)) (h : LeastC P.length (Ere P R f (-1)) s r) (j : Nat) : bt r j = true ↔ MixP P R f j := by
  constructor
  · intro hj T h1 h2
    refine h.least T (fun i hi => ?_) h2 j hj
    obtain ⟨k, g1, g2, g3⟩ := (hs i).1 hi
    have := h1 k g1 g2
    rcases g3 with rfl | rfl
    · exact this.1
    · exact this.2
  · intro hm
    exact hm (fun j => bt r j = true) (fun k g1 g2 => ⟨h.sub _ ((hs _).2 ⟨k, g1, g2, .inl rfl⟩), h.sub _ ((hs _).2 ⟨k, g1, g2, .inr rfl⟩)⟩) h.closed
theorem circF_len (P : List Place) (R : List Road) (f : List Span) : ∀ m i, (circF P R f m i).length ≤ m
  | 0, _ => by simp [circF]
  | m + 1, i => by
    have := circF_len P R f m (i + 1)
    rw [circF, List.length_append]
    split <;> simp <;> omega
theorem rmixed_eq (b1 : Bool) (P : List Place) (b2 : Bool) (R : List Road) (b3 : Bool) (f : List Span) (hP : P.length ≤ 64) : o72 b1 P b2 R b3 f = some (mixM P R f) := by
  unfold o72
  rw [h72_eq, rcircles_eq, Option.bind_some, if_pos (by simp; omega)]
  have hrep : (List.replicate ((P.length : Nat) : Int).toNat (dflt K.bool)) = List.replicate P.length false := by rw [Int.toNat_natCast]; rfl
  rw [hrep]
  by_cases hr : rightM P R f = true
  · obtain ⟨h1, h2, h3, h4⟩ := rightM_in hr
    have hc : circM P R f = circF P R f R.length 0 := by unfold circM; rw [if_pos hr]
    have hcl := circF_len P R f R.length 0
    rw [hc]
    have hl : ∀ x ∈ circF P R f R.length 0, 0 ≤ x ∧ x < (R.length : Int) := fun x hx => by
      obtain ⟨j, _, g2, _, rfl⟩ := (mem_circF _ _).1 hx
      omega
    obtain ⟨m', g1, g2, g3⟩ := seeds72 b1 b2 b3 P R f h1 _ hl (by omega) (circF P R f R.length 0).length (999 - (circF P R f R.length 0).length) 0 (List.replicate P.length false) (by omega) (by omega) (by simp)
    rw [show 999 - (circF P R f R.length 0).length + (circF P R f R.length 0).length = 999 by omega] at g3
    obtain ⟨fl, hfl⟩ : ∃ q, 999 - (circF P R f R.length 0).length = q + 1 := ⟨998 - (circF P R f R.length 0).length, by omega⟩
    have e' : h72_0 999 b3 f (circF P R f R.length 0) 0 b1 P b2 R (List.replicate P.length false) = _ := g3
    have hs : ∀ j, bt m' j = true ↔ ∃ k, k < R.length ∧ onRoad P R f k ∧ ((R.getD k road0).frm.toNat = j ∨ (R.getD k road0).to.toNat = j) := fun j => by
      rw [g2 j, bt_replicate, List.drop_zero]
      constructor
      · rintro (h | ⟨x, hx, hh⟩)
        · cases h
        · obtain ⟨k, _, q2, q3, rfl⟩ := (mem_circF _ _).1 hx
          rw [Int.toNat_natCast] at hh
          exact ⟨k, by omega, q3, hh⟩
      · rintro ⟨k, q1, q2, q3⟩
        exact .inr ⟨(k : Int), (mem_circF _ _).2 ⟨k, by omega, by omega, q2, rfl⟩, by rw [Int.toNat_natCast]; exact q3⟩
    obtain ⟨r, e, hL⟩ := reach_ok b1 b2 b3 (f := f) true (s := m') (-1) h1 h2 h3 h4 g1
    have fin : ∀ r : List Bool, r.length = P.length → (∀ j, bt r j = true ↔ MixP P R f j) → h72_1 fl r 0 [] = some (.one (.row 0), [.rows .int (mixM P R f)]) := fun r hrl hri => by
      have := out72 r (by omega) r.length fl 0 [] (by omega) (by omega) (by omega) (by simp)
      rw [show ((0 : Int)) = ((0 : Nat) : Int) from rfl, this, List.nil_append, pick_congr (q := MixP P R f) _ _ (fun j _ _ => hri j), hrl]
      unfold mixM
      rw [if_pos hr]
    have done : h72_0 (fl + 1) b3 f (circF P R f R.length 0) (circF P R f R.length 0).length b1 P b2 R m' = some (.one (.row 0), [.rows .int (mixM P R f)]) := by
      rw [h72_0_eq, if_neg (by simp)]
      by_cases c0 : (circF P R f R.length 0).length > 0
      · rw [if_pos (by simp only [decide_eq_true_eq]; omega), e, Option.bind_some]
        exact fin r hL.len (mix_least hs hL)
      · rw [if_neg (by simp only [decide_eq_true_eq]; omega)]
        have hnil : circF P R f R.length 0 = [] := List.length_eq_zero_iff.1 (by omega)
        have hno : ∀ k, k < R.length → ¬ onRoad P R f k := fun k hk ho => by
          have : (k : Int) ∈ circF P R f R.length 0 := (mem_circF _ _).2 ⟨k, by omega, by omega, ho, rfl⟩
          rw [hnil] at this; cases this
        refine fin m' g1 (fun j => ?_)
        constructor
        · intro h
          obtain ⟨k, q1, q2, _⟩ := (hs j).1 h
          exact absurd q2 (hno k q1)
        · intro h
          exact (h (fun _ => False) (fun k q1 q2 => absurd q2 (hno k q1)) (fun _ _ _ h => h)).elim
    rw [e', hfl, done]
    simp [decInts, slO]
  · have hc : circM P R f = [] := by unfold circM; rw [if_neg hr]
    have e' : h72_0 999 b3 f [] 0 b1 P b2 R (List.replicate P.length false) = h72_1 998 (List.replicate P.length false) 0 [] := by
      rw [show (999 : Nat) = 998 + 1 from rfl, h72_0_eq, if_neg (by simp), if_neg (by simp)]
    have := out72 (List.replicate P.length false) (by simp; omega) P.length 998 0 [] (by simp) (by omega) (by omega) (by simp)
    have e2 : h72_1 998 (List.replicate P.length false) 0 [] = _ := this
    rw [hc, e', e2, pick_none _ _ (fun j h => by rw [bt_replicate] at h; cases h)]
    unfold mixM
    rw [if_neg hr]
    simp [decInts, slO]
end Go.Proofs.Ytipfipnhgpbceaa.Sx
/- The places to which air of circles comes, by the plan's text (plain theorems). -/

set_option linter.unusedVariables false
set_option linter.unusedSimpArgs false
set_option maxRecDepth 100000
namespace Go.Proofs.Ytipfipnhgpbceaa.Sx
open Go Go.RowKit
noncomputable def l71 : List (FuncId × Spec) := [(97, c97), (101, c101), (103, c103)]
def k71 : Code → Keep := keepOf [(6, ⟨[2, 5, 7, 27, 28, 29], [], []⟩), (12, ⟨[10, 45, 46, 47], [(10, .int)], []⟩)]
noncomputable def h71_0 (fl : Nat) (t5 : List Arc) (t27 : List Arc) (t28 : Int) (t29 : Int) (m0_0b : Bool) (m0_0 : List Place) (m0_1b : Bool) (m0_1 : List Road) (m1 : List Bool) : Option (AV × List Ob) := (evalH (env l71) Try.f71 k71 0 fl (stkF Try.f71 [1, 1, 1, 1, 0, 1, 0]) ⟨[.one (.undef), .one (.undef), .one (.ptr 0 0), .one (.undef), .one (.undef), .one (.vec false .arc t5), .one (.undef), .one (.row 1), .one (.undef), .one (.undef), .one (.undef), .one (.undef), .one (.undef), .one (.undef), .one (.undef), .one (.undef), .one (.undef), .one (.undef), .one (.undef), .one (.undef), .one (.undef), .one (.undef), .one (.undef), .one (.undef), .one (.undef), .one (.undef), .one (.undef), .one (.vec false .arc t27), .one (.int .i64 t28), .one (.int .i64 t29), .one (.undef), .one (.undef), .one (.undef), .one (.undef), .one (.undef), .one (.undef), .one (.undef), .one (.undef), .one (.undef), .one (.undef), .one (.undef), .one (.undef), .one (.undef), .one (.undef), .one (.undef), .one (.undef), .one (.undef), .one (.undef), .one (.undef), .one (.undef), .one (.undef), .one (.undef), .one (.undef), .one (.undef), .one (.undef), .one (.undef), .one (.undef), .one (.undef), .one (.undef)], [((0, 0), some (.cell (.vec m0_0b .place m0_0))), ((0, 1), some (.cell (.vec m0_1b .road m0_1))), ((1, 0), some (.rows .bool m1))], 2⟩).den
noncomputable def h71_1 (fl : Nat) (t45 : List Bool) (t46 : Int) (t47 : Int) (m0 : List Int) : Option (AV × List Ob) := (evalH (env l71) Try.f71 k71 0 fl (stkF Try.f71 [1, 1, 1, 1, 1, 1, 0, 1, 0]) ⟨[.one (.undef), .one (.undef), .one (.undef), .one (.undef), .one (.undef), .one (.undef), .one (.undef), .one (.undef), .one (.undef), .one (.undef), .one (.row 0), .one (.undef), .one (.undef), .one (.undef), .one (.undef), .one (.undef), .one (.undef), .one (.undef), .one (.undef), .one (.undef), .one (.undef), .one (.undef), .one (.undef), .one (.undef), .one (.undef), .one (.undef), .one (.undef), .one (.undef), .one (.undef), .one (.undef), .one (.undef), .one (.undef), .one (.undef), .one (.undef), .one (.undef), .one (.undef), .one (.undef), .one (.undef), .one (.undef), .one (.undef), .one (.undef), .one (.undef), .one (.undef), .one (.undef), .one (.undef), .one (.vec false .bool t45), .one (.int .i64 t46), .one (.int .i64 t47), .one (.undef), .one (.undef), .one (.undef), .one (.undef), .one (.undef), .one (.undef), .one (.undef), .one (.undef), .one (.undef), .one (.undef), .one (.undef)], [((0, 0), some (.rows .int m0))], 1⟩).den
noncomputable def h71 (fl : Nat) (b1 : Bool) (P : List Place) (b2 : Bool) (R : List Road) (b3 : Bool) (f : List Span) : Option (AV × List Ob) := (evalF (env l71) Try.f71 k71 fl [.agg [.vec b1 .place P, .vec b2 .road R], .one (.vec b3 .span f)] []).den
theorem h71_eq (fl : Nat) (b1 : Bool) (P : List Place) (b2 : Bool) (R : List Road) (b3 : Bool) (f : List Span) : h71 (fl + 1) b1 P b2 R b3 f =
    (o97 b1 P b2 R b3 f).bind fun x2 =>
    if (!x2.snd) = true then some (.one (.nils), [])
      else if (decide (0 ≤ (↑P.length : Int)) && (decide ((↑P.length : Int) ≤ 1048576) && (↑P.length : Int) == (↑P.length : Int))) = true then (o101 b1 P b2 R false x2.fst).bind fun x5 =>
          h71_0 fl x2.fst x5 ((↑x5.length : Int)) 0 b1 P b2 R (List.replicate (↑P.length : Int).toNat (dflt K.bool))
        else none := by kernel_rfl
theorem h71_0_eq (fl : Nat) (t5 : List Arc) (t27 : List Arc) (t28 : Int) (t29 : Int) (m0_0b : Bool) (m0_0 : List Place) (m0_1b : Bool) (m0_1 : List Road) (m1 : List Bool) : h71_0 (fl + 1) t5 t27 t28 t29 m0_0b m0_0 m0_1b m0_1 m1 =
    if (decide (t29 < t28)) = true then if (idx t27.length t29) = true then if (idx m1.length (t27.getD t29.toNat (dflt K.arc)).frm) = true then if (idx (m1.set (t27.getD t29.toNat (dflt K.arc)).frm.toNat true).length (t27.getD t29.toNat (dflt K.arc)).to) = true then h71_0 fl t5 t27 t28 (IntKind.i64.wrap (t29 + 1)) m0_0b m0_0 m0_1b m0_1 ((m1.set (t27.getD t29.toNat (dflt K.arc)).frm.toNat true).set (t27.getD t29.toNat (dflt K.arc)).to.toNat true)
          else none
        else none
      else none
    else (o103 m0_0b m0_0 m0_1b m0_1 false t5 true m1 (-1)).bind fun x3 =>
      h71_1 fl x3 ((↑x3.length : Int)) 0 [] := by kernel_rfl
theorem h71_1_eq (fl : Nat) (t45 : List Bool) (t46 : Int) (t47 : Int) (m0 : List Int) : h71_1 (fl + 1) t45 t46 t47 m0 =
    if (decide (t47 < t46)) = true then if (idx t45.length t47) = true then if (t45.getD t47.toNat (dflt K.bool)) = true then if (decide ((m0).length + ([t47]).length ≤ lim)) = true then h71_1 fl t45 t46 (IntKind.i64.wrap (t47 + 1)) (m0 ++ [t47])
          else none
        else h71_1 fl t45 t46 (IntKind.i64.wrap (t47 + 1)) m0
      else none
    else some (.one (.row 0), [.rows .int m0]) := by kernel_rfl
noncomputable def o71 (b1 : Bool) (P : List Place) (b2 : Bool) (R : List Road) (b3 : Bool) (f : List Span) : Option (List Int) := (h71 1000 b1 P b2 R b3 f).bind (decInts)
noncomputable def c71 : Spec := ⟨false, fun av ob => match av, ob with
  | [.agg [.vec b1 .place P, .vec b2 .road R], .one (.vec b3 .span f)], [] => .call (o71 b1 P b2 R b3 f) fun x => .ret (.one (.vec false .int x), [])
  | _, _ => .fail⟩
theorem f71 : FnOK Try.prog 71 := fnOK_of Try.func71 rfl (by kernel_rfl)
theorem pc71 : SpecOK Try.prog 71 c71 := by
  refine spec_thaw (fun av ob r os hrn => ?_) (machS_ok (env_ok (l := l71) ⟨⟨pc97, f97⟩, ⟨⟨pc101, f101⟩, ⟨⟨pc103, f103⟩, trivial⟩⟩⟩) mixed_ok Try.func71 k71 (fun _ _ => 1000) false)
  simp only [c71] at hrn
  split at hrn
  · rename_i b1 P b2 R b3 f
    obtain ⟨x, hx, hr⟩ := Option.bind_eq_some_iff.1 hrn
    cases hr
    obtain ⟨y, hy, hd⟩ := Option.bind_eq_some_iff.1 hx
    unfold h71 at hy
    obtain ⟨d1, d2⟩ := decInts_ok hd
    exact ⟨y.1, y.2, by rw [machS_run]; exact hy, d1, d2⟩
  · cases hrn
theorem seeds71 (b1 b2 : Bool) (P : List Place) (R : List Road) (L A : List Arc) (hA : ArcsIn P.length A) (hAl : A.length ≤ 256) : ∀ (d fl k : Nat) (m : List Bool), A.length - k = d → k ≤ A.length → m.length = P.length →
    ∃ m', m'.length = P.length ∧ (∀ j, bt m' j = true ↔ bt m j = true ∨ ∃ x ∈ A.drop k, x.frm.toNat = j ∨ x.to.toNat = j) ∧ h71_0 (fl + d) L A A.length k b1 P b2 R m = h71_0 fl L A A.length A.length b1 P b2 R m'
  | 0, fl, k, m, hd, hk, hm => by
    have : k = A.length := by omega
    subst this
    exact ⟨m, hm, fun j => by simp, rfl⟩
  | d + 1, fl, k, m, hd, hk, hm => by
    have hlt : k < A.length := by omega
    have hx := hA _ (List.getElem_mem hlt)
    rw [show fl + (d + 1) = (fl + d) + 1 by omega, h71_0_eq, if_pos (lt_nat hlt), if_pos (idx_nat hlt), at_lt hlt, wr_succ (by omega), List.drop_eq_getElem_cons hlt]
    generalize A[k] = x at *
    have i2 : idx m.length x.frm = true := idx_of hx.1 (by rw [hm]; exact hx.2.1)
    have i3 : idx (m.set x.frm.toNat true).length x.to = true := idx_of hx.2.2.1 (by rw [List.length_set, hm]; exact hx.2.2.2)
    rw [if_pos i2, if_pos i3]
    obtain ⟨m', h1, h2, h3⟩ := seeds71 b1 b2 P R L A hA hAl d fl (k + 1) _ (by omega) (by omega) (show ((m.set x.frm.toNat true).set x.to.toNat true).length = P.length by simpa using hm)
    refine ⟨m', h1, fun j => ?_, h3⟩
    rw [h2 j, set_bt2 hm (by omega) (by omega) j]
    simp only [List.mem_cons, exists_eq_or_imp, or_assoc]
theorem out71 (r : List Bool) (hr : r.length ≤ 256) : ∀ (d fl i : Nat) (o : List Int), r.length - i = d → i ≤ r.length → d < fl → o.length ≤ i → h71_1 fl r r.length i o = some (.one (.row 0), [.rows .int (o ++ pick (fun j => bt r j = true) d i)])
  | d, fl, i, o, hd, hi, hf, ho => by
    obtain ⟨fl, rfl⟩ : ∃ q, fl = q + 1 := ⟨fl - 1, by omega⟩
    have hb0 : dflt K.bool = false := rfl
    rw [h71_1_eq]
    by_cases hlt : i < r.length
    · cases d with
      | zero => omega
      | succ d =>
        have ih := fun (o : List Int) (ho : o.length ≤ i + 1) => out71 r hr d fl (i + 1) o (by omega) (by omega) (by omega) ho
        rw [if_pos (lt_nat hlt), if_pos (idx_nat hlt), hb0, Int.toNat_natCast, wr_succ (by omega), pick]
        by_cases c : bt r i = true
        · rw [if_pos (show r.getD i false = true from c), if_pos (show decide (o.length + [_].length ≤ lim) = true by simp [lim]; omega), if_pos c, ih _ (by simp; omega), List.append_assoc]
        · rw [if_neg (show ¬ r.getD i false = true from c), if_neg c, ih _ (by omega), List.nil_append]
    · have : d = 0 := by omega
      subst this
      rw [if_neg (nlt_nat hlt)]
      simp [pick]
open Classical in
theorem seed_iff (P : List Place) (R : List Road) (f : List Span) (j : Nat) : (∃ x ∈ onArcs P (arcsOf R f), x.frm.toNat = j ∨ x.to.toNat = j) ↔ ∃ k, k < R.length ∧ onRoad P R f k ∧ ((R.getD k road0).frm.toNat = j ∨ (R.getD k road0).to.toNat = j) := by
  unfold onArcs
  constructor
  · rintro ⟨x, hx, hh⟩
    obtain ⟨hm, ho⟩ := List.mem_filter.1 hx
    have ho := of_decide_eq_true ho
    obtain ⟨k, d, hk, hc, rfl⟩ := mem_arcsOf.1 hm
    refine ⟨k, hk, ⟨d, hc, ho⟩, ?_⟩
    cases d
    · simpa [endA, endB] using hh
    · have : (R.getD k road0).to.toNat = j ∨ (R.getD k road0).frm.toNat = j := by simpa [endA, endB] using hh
      exact this.symm
  · rintro ⟨k, hk, ⟨d, hc, ho⟩, hh⟩
    refine ⟨⟨k, endA R k d, endB R k d⟩, List.mem_filter.2 ⟨mem_arcsOf.2 ⟨k, d, hk, hc, rfl⟩, decide_eq_true ho⟩, ?_⟩
    cases d
    · simpa [endA, endB] using hh
    · have : (R.getD k road0).to.toNat = j ∨ (R.getD k road0).frm.toNat = j := hh.symm
      simpa [endA, endB] using this
theorem onRoad_below {P : List Place} {R : List Road} {f : List Span} {k : Nat} (h : onRoad P R f k) : surf P (R.getD k road0).frm.toNat = false ∧ surf P (R.getD k road0).to.toNat = false := by
  obtain ⟨d, _, h1, h2, _⟩ := h
  cases d
  · exact ⟨by simpa [endA, endB] using h1, by simpa [endA, endB] using h2⟩
  · exact ⟨by simpa [endA, endB] using h2, by simpa [endA, endB] using h1⟩
theorem mix_least2 {P : List Place} {R : List Road} {f : List Span} {s r : List Bool} (hs : ∀ j, bt s j = true ↔ ∃ k, k < R.length ∧ onRoad P R f k ∧ ((R.getD k road0).frm.toNat = j ∨ (R.getD k road0).to.toNat = j)) (h : LeastC P.length (Esp P (arcsOf R f) (-1)) s r) (j : Nat) : bt r j = true ↔ MixP P R f j := by
  constructor
  · intro hj T h1 h2
    refine (h.least (fun i => T i ∧ surf P i = false) (fun i hi => ?_) (fun a c hE ha => ?_) j hj).1
    · obtain ⟨k, g1, g2, g3⟩ := (hs i).1 hi
      have := h1 k g1 g2
      have hb := onRoad_below g2
      rcases g3 with rfl | rfl
      · exact ⟨this.1, hb.1⟩
      · exact ⟨this.2, hb.2⟩
    · obtain ⟨x, hx, g1, g2, g3, g4⟩ := hE
      obtain ⟨k, d, hk, hc, rfl⟩ := mem_arcsOf.1 hx
      exact ⟨h2 a c ⟨k, d, hk, g1, hc, g2, g3, ha.2, g4⟩ ha.1, g4⟩
  · intro hm
    refine hm (fun j => bt r j = true) (fun k g1 g2 => ⟨h.sub _ ((hs _).2 ⟨k, g1, g2, .inl rfl⟩), h.sub _ ((hs _).2 ⟨k, g1, g2, .inr rfl⟩)⟩) (fun a c hE ha => ?_)
    obtain ⟨k, d, hk, g1, hc, g2, g3, g4, g5⟩ := hE
    exact h.closed a c ⟨⟨k, endA R k d, endB R k d⟩, mem_arcsOf.2 ⟨k, d, hk, hc, rfl⟩, g1, g2, g3, g5⟩ ha
open Classical in
theorem mixed_eq (b1 : Bool) (P : List Place) (b2 : Bool) (R : List Road) (b3 : Bool) (f : List Span) : o71 b1 P b2 R b3 f = some (mixM P R f) := by
  unfold o71 mixM
  rw [h71_eq, arcs_eq, Option.bind_some]
  by_cases hr : rightM P R f = true
  · obtain ⟨h1, h2, h3, h4⟩ := rightM_in hr
    have hl := arcsF_len R f R.length 0
    have hl2 : (arcsOf R f).length ≤ 256 := by unfold arcsOf; omega
    have hl3 : (onArcs P (arcsOf R f)).length ≤ (arcsOf R f).length := List.length_filter_le _ _
    have hrep : (List.replicate ((P.length : Nat) : Int).toNat (dflt K.bool)) = List.replicate P.length false := by rw [Int.toNat_natCast]; rfl
    have hin : ArcsIn P.length (onArcs P (arcsOf R f)) := fun x hx => arcsOf_in h1 f x (List.mem_filter.1 hx).1
    rw [if_pos hr, if_pos hr, if_neg (by simp), if_pos (by simp; omega), circs_eq b1 b2 R false (arcsOf_in h1 f) hl2 h4, Option.bind_some, hrep]
    show Option.bind (h71_0 999 (arcsOf R f) (onArcs P (arcsOf R f)) (onArcs P (arcsOf R f)).length 0 b1 P b2 R (List.replicate P.length false)) _ = _
    generalize hA : onArcs P (arcsOf R f) = A at *
    obtain ⟨m', g1, g2, g3⟩ := seeds71 b1 b2 P R (arcsOf R f) A hin (by omega) A.length (999 - A.length) 0 (List.replicate P.length false) (by omega) (by omega) (by simp)
    rw [show 999 - A.length + A.length = 999 by omega] at g3
    obtain ⟨fl, hfl⟩ : ∃ q, 999 - A.length = q + 1 := ⟨998 - A.length, by omega⟩
    have e' : h71_0 999 (arcsOf R f) A A.length 0 b1 P b2 R (List.replicate P.length false) = _ := g3
    have hs : ∀ j, bt m' j = true ↔ ∃ k, k < R.length ∧ onRoad P R f k ∧ ((R.getD k road0).frm.toNat = j ∨ (R.getD k road0).to.toNat = j) := fun j => by
      rw [g2 j, bt_replicate, List.drop_zero, ← seed_iff, hA]
      simp
    obtain ⟨r, e, hL⟩ := spread_ok b1 b2 R false (L := arcsOf R f) true (s := m') (-1) (arcsOf_in h1 f) hl2 h4 g1
    have hrl := hL.len
    have o := out71 r (by omega) r.length fl 0 [] (by omega) (by omega) (by omega) (by simp)
    have o' : h71_1 fl r r.length 0 [] = _ := o
    rw [e', hfl, h71_0_eq, if_neg (by simp), e, Option.bind_some, o', List.nil_append, pick_congr (q := MixP P R f) _ _ (fun j _ _ => mix_least2 hs hL j), hrl]
    simp [decInts, slO]
  · rw [if_neg hr, if_neg hr, if_pos (by simp)]
    simp [decInts, slO]
end Go.Proofs.Ytipfipnhgpbceaa.Sx
/- A mine with spans of flows, now and then of a state (plain theorems). -/



set_option linter.unusedVariables false
set_option linter.unusedSimpArgs false
set_option maxRecDepth 100000
namespace Go.Proofs.Ytipfipnhgpbceaa.Sx
open Go Go.RowKit
structure AirX where
  P : List Place
  R : List Road
  F : List Fan
  D : List Door
  S : List Span
  W : List Int
structure AirB (x : AirX) : Prop where
  mine : MineB ⟨x.P, x.R⟩
  slen : x.S.length = x.R.length
  wlen : x.W.length = x.R.length
  near : ∀ k, k < x.R.length → About (x.S.getD k ⟨0, 0⟩) (x.W.getD k 0)
  flow : ∀ k, k < x.R.length → -300 ≤ x.W.getD k 0 ∧ x.W.getD k 0 ≤ 300
noncomputable def l62 : List (FuncId × Spec) := [(26, s26), (43, c43), (55, c55), (80, c80), (46, c46), (32, c32), (45, c45)]
def k62 : Code → Keep := keepOf [(7, ⟨[2, 5, 6, 8, 33, 34], [], [(8, 1, .int)]⟩)]
noncomputable def h62_0 (fl : Nat) (t33 : Int) (t34 : Int) (m1_0 : List Int) (m1_1 : Int) (m2_0 : List Place) (m2_1 : List Road) (m3_0 : List Int) (m4 : List Fan) (m5 : List Int) : Option (AV × List Ob) := (evalH (env l62) Try.f62 k62 0 fl (stkF Try.f62 [1, 1, 1, 0, 1, 0, 1, 1, 1, 0]) ⟨[.one (.undef), .one (.undef), .one (.ptr 0 0), .one (.undef), .one (.undef), .one (.ptr 1 0), .one (.ptr 2 0), .one (.undef), .one (.ptr 3 0), .one (.undef), .one (.undef), .one (.undef), .one (.undef), .one (.undef), .one (.undef), .one (.undef), .one (.undef), .one (.undef), .one (.undef), .one (.undef), .one (.undef), .one (.undef), .one (.undef), .one (.undef), .one (.undef), .one (.undef), .one (.undef), .one (.undef), .one (.undef), .one (.undef), .one (.undef), .one (.undef), .one (.undef), .one (.int .i64 t33), .one (.int .i64 t34), .one (.undef), .one (.undef), .one (.undef), .one (.undef), .one (.undef), .one (.undef), .one (.undef), .one (.undef), .one (.undef), .one (.undef), .one (.undef), .one (.undef), .one (.undef), .one (.undef), .one (.undef), .one (.undef)], [((0, 0), some (.cell (.nils))), ((0, 1), some (.cell (.nils))), ((0, 2), some (.cell (.nils))), ((0, 3), some (.cell (.nils))), ((1, 0), some (.cell (.vec false .u8 m1_0))), ((1, 1), some (.cell (.int .i64 m1_1))), ((2, 0), some (.cell (.vec false .place m2_0))), ((2, 1), some (.cell (.vec false .road m2_1))), ((2, 2), some (.cell (.row 4))), ((2, 3), some (.cell (.nils))), ((3, 0), some (.cell (.vec false .int m3_0))), ((3, 1), some (.cell (.row 5))), ((4, 0), some (.rows .fan m4)), ((5, 0), some (.rows .int m5))], 6⟩).den
noncomputable def h62 (fl : Nat) (l : List Int) : Option (AV × List Ob) := (evalF (env l62) Try.f62 k62 fl [.one (.vec false .u8 l)] []).den
theorem h62_eq (fl : Nat) (l : List Int) : h62 (fl + 1) l =
    (o43 (List.take 300 l) 0).bind fun x2 =>
    (oneO (List.take 300 l) x2.snd 2).bind fun x3 =>
      if x3.fst = true then (o80 (List.take 300 l) x3.snd).bind fun x5 =>
          (nextO (List.take 300 l) x5.snd 3).bind fun x6 =>
            (nextO (List.take 300 l) x6.snd 3).bind fun x7 =>
              h62_0 fl ((↑x5.fst.R.length : Int)) 0 (List.take 300 l) x7.snd x5.fst.P x5.fst.R x2.fst.pr ([{ road := x6.fst, back := false, aux := true, curve := [] : Fan }, { road := x7.fst, back := false, aux := false, curve := [] : Fan }]) []
        else (o45 false x2.fst.fw (List.take 300 l) x3.snd).bind fun x5 =>
          some (.tup [(true, [.vec false .place x2.fst.P, .vec false .road x2.fst.R, .vec false .fan x2.fst.F, .vec false .door x2.fst.D]), (false, [.vec false .span x5.fst]), (false, [.vec false .int x2.fst.fw])], []) := by kernel_rfl
theorem h62_0_eq (fl : Nat) (t33 : Int) (t34 : Int) (m1_0 : List Int) (m1_1 : Int) (m2_0 : List Place) (m2_1 : List Road) (m3_0 : List Int) (m4 : List Fan) (m5 : List Int) : h62_0 (fl + 1) t33 t34 m1_0 m1_1 m2_0 m2_1 m3_0 m4 m5 =
    if (decide (t34 < t33)) = true then (rangeO m1_0 m1_1 (-9) 9).bind fun x3 =>
      if (decide ((m5).length + ([x3.fst]).length ≤ lim)) = true then h62_0 fl t33 (IntKind.i64.wrap (t34 + 1)) m1_0 x3.snd m2_0 m2_1 m3_0 m4 (m5 ++ [x3.fst])
        else none
    else (o45 true m5 m1_0 m1_1).bind fun x3 =>
      some (.tup [(true, [.vec false .place m2_0, .vec false .road m2_1, .row 0, .nils]), (false, [.vec false .span x3.fst]), (false, [.row 1])], [.rows .fan m4, .rows .int m5]) := by kernel_rfl
def decAir : AV × List Ob → Option AirX
  | (.tup [(true, [s1, s2, s3, s4]), (false, [s5]), (false, [s6])], os) =>
      (match slO .place 0 os s1, slO .road 0 os s2, slO .fan 0 os s3, slO .door 0 os s4, slO .span 0 os s5, slO .int 0 os s6 with
      | some a, some b, some c, some d, some e, some f => some ⟨a, b, c, d, e, f⟩
      | _, _, _, _, _, _ => none)
  | _ => none
theorem decAir_ok {y : AV × List Ob} {x : AirX} (h : decAir y = some x) : ([] : List Ob) = y.2.take 0 ∧ TA y.2 0 y.1 (.tup [(true, [.vec false .place x.P, .vec false .road x.R, .vec false .fan x.F, .vec false .door x.D]), (false, [.vec false .span x.S]), (false, [.vec false .int x.W])]) := by
  unfold decAir at h
  split at h
  · split at h
    · rename_i h1 h2 h3 h4 h5 h6
      cases h
      exact ⟨rfl, .tup _ _ ⟨⟨rfl, slO_ok h1, slO_ok h2, slO_ok h3, slO_ok h4, trivial⟩, ⟨rfl, slO_ok h5, trivial⟩, ⟨rfl, slO_ok h6, trivial⟩, trivial⟩⟩
    · cases h
  · cases h
noncomputable def o62 (l : List Int) : Option (AirX) := (h62 100 l).bind (decAir)
noncomputable def c62 : Spec := ⟨false, fun av ob => match av, ob with
  | [.one (.vec false .u8 l)], [] => .call (o62 l) fun x => .ret (.tup [(true, [.vec false .place x.P, .vec false .road x.R, .vec false .fan x.F, .vec false .door x.D]), (false, [.vec false .span x.S]), (false, [.vec false .int x.W])], [])
  | _, _ => .fail⟩
theorem f62 : FnOK Try.prog 62 := fnOK_of Try.func62 rfl (by kernel_rfl)
theorem pc62 : SpecOK Try.prog 62 c62 := by
  refine spec_thaw (fun av ob r os hrn => ?_) (machS_ok (env_ok (l := l62) ⟨⟨p26, f26⟩, ⟨⟨pc43, f43⟩, ⟨⟨pc55, f55⟩, ⟨⟨pc80, f80⟩, ⟨⟨pc46, f46⟩, ⟨⟨pc32, f32⟩, ⟨⟨pc45, f45⟩, trivial⟩⟩⟩⟩⟩⟩⟩) mixed_ok Try.func62 k62 (fun _ _ => 100) false)
  simp only [c62] at hrn
  split at hrn
  · rename_i l
    obtain ⟨x, hx, hr⟩ := Option.bind_eq_some_iff.1 hrn
    cases hr
    obtain ⟨y, hy, hd⟩ := Option.bind_eq_some_iff.1 hx
    unfold h62 at hy
    obtain ⟨d1, d2⟩ := decAir_ok hd
    exact ⟨y.1, y.2, by rw [machS_run]; exact hy, d1, d2⟩
  · cases hrn
def FlowOK (W : List Int) : Prop := ∀ x ∈ W, -300 ≤ x ∧ x ≤ 300
theorem FlowOK.at {W : List Int} (h : FlowOK W) (k : Nat) : -300 ≤ W.getD k 0 ∧ W.getD k 0 ≤ 300 := by
  rw [List.getD_eq_getElem?_getD]
  by_cases hk : k < W.length
  · rw [List.getElem?_eq_getElem hk]; exact h _ (List.getElem_mem hk)
  · rw [List.getElem?_eq_none (by omega)]; constructor <;> decide
theorem air_loop (l : List Int) (P : List Place) (R : List Road) (hR : R.length ≤ 9) (pr : List Int) (F : List Fan) : ∀ (d fl i : Nat) (p : Int) (W : List Int), R.length - i = d → i ≤ R.length → d < fl → cok l p = true → W.length = i → FlowOK W →
    ∃ W' S, W'.length = R.length ∧ S.length = R.length ∧ FlowOK W' ∧ (∀ k, k < R.length → About (S.getD k ⟨0, 0⟩) (W'.getD k 0)) ∧ h62_0 fl R.length i l p P R pr F W = some (.tup [(true, [.vec false .place P, .vec false .road R, .row 0, .nils]), (false, [.vec false .span S]), (false, [.row 1])], [.rows .fan F, .rows .int W'])
  | d, fl, i, p, W, hd, hi, hf, hk, hW, hF => by
    obtain ⟨fl, rfl⟩ : ∃ q, fl = q + 1 := ⟨fl - 1, by omega⟩
    rw [h62_0_eq]
    by_cases hlt : i < R.length
    · cases d with
      | zero => omega
      | succ d =>
        obtain ⟨v, q, e, a1, a2, k1⟩ := range_ok (lo := -9) (hi := 9) hk (by omega) (by omega) (by omega)
        rw [if_pos (lt_nat hlt), e, Option.bind_some, if_pos (show decide (W.length + [_].length ≤ lim) = true by simp [lim]; omega), wr_succ (by omega)]
        exact air_loop l P R hR pr F d fl (i + 1) q (W ++ [v]) (by omega) (by omega) (by omega) k1 (by simp; omega) (fun x hx => by
          rcases List.mem_append.1 hx with h | h
          · exact hF x h
          · have : x = v := by simpa using h
            omega)
    · obtain ⟨S, q, e, s1, s2, _⟩ := spans_ok true (r := W) (by omega) (fun x hx => by have := hF x hx; omega) hk
      rw [if_neg (nlt_nat hlt), e, Option.bind_some]
      exact ⟨W, S, by omega, by omega, hF, fun k hk => s2 k (by omega), rfl⟩
theorem airs_ok {l : List Int} (hu : l.all u8B = true) : ∃ x, o62 l = some x ∧ AirB x := by
  obtain ⟨x, p, e1, hx, k1⟩ := mades_ok (cok0 hu)
  obtain ⟨v, p2, e2, k2⟩ := one_ok (n := 2) k1
  unfold o62
  rw [h62_eq, e1, Option.bind_some, e2, Option.bind_some]
  have hlen := hx.net.len
  have hm := hx.m
  by_cases c : v = true
  · obtain ⟨y, p3, e3, hy, _, k3⟩ := mine_ok k2
    obtain ⟨a, p4, e4, _, _, k4⟩ := next_ok (n := 3) k3 (by omega)
    obtain ⟨b, p5, e5, _, _, k5⟩ := next_ok (n := 3) k4 (by omega)
    rw [if_pos c, e3, Option.bind_some, e4, Option.bind_some, e5, Option.bind_some]
    have hm2 := hy.m
    obtain ⟨W, S, w1, w2, w3, w4, w5⟩ := air_loop (l.take 300) y.P y.R hy.m x.pr ([⟨a, false, true, []⟩, ⟨b, false, false, []⟩]) y.R.length 99 0 p5 [] (by omega) (by omega) (by omega) k5 rfl (fun x hx => by cases hx)
    have w6 : h62_0 99 y.R.length 0 (l.take 300) p5 y.P y.R x.pr ([⟨a, false, true, []⟩, ⟨b, false, false, []⟩]) [] = _ := w5
    refine ⟨⟨y.P, y.R, [⟨a, false, true, []⟩, ⟨b, false, false, []⟩], [], S, W⟩, ?_, hy, w2, w1, w4, fun k _ => w3.at k⟩
    show Option.bind (h62_0 99 y.R.length 0 (l.take 300) p5 y.P y.R x.pr ([⟨a, false, true, []⟩, ⟨b, false, false, []⟩]) []) decAir = _
    rw [w6]
    simp [decAir, slO]
  · have hfl : ∀ x' ∈ x.fw, -300 ≤ x' ∧ x' ≤ 300 := fun z hz => by
      obtain ⟨k, hk, rfl⟩ := List.getElem_of_mem hz
      have := (hx.net.road k (by omega)).flow
      rw [List.getD_eq_getElem?_getD, List.getElem?_eq_getElem hk] at this
      exact this
    obtain ⟨S, q, e, s1, s2, _⟩ := spans_ok false (r := x.fw) (by omega) (fun z hz => by have := hfl z hz; omega) k2
    rw [if_neg c, e, Option.bind_some]
    refine ⟨⟨x.P, x.R, x.F, x.D, S, x.fw⟩, ?_, hx.mine, by dsimp only; omega, by dsimp only; omega, fun k hk => s2 k (by dsimp only at hk; omega), fun k hk => FlowOK.at hfl k⟩
    simp [decAir, slO]
end Go.Proofs.Ytipfipnhgpbceaa.Sx
/- Two numbers side by side compared: a second environment (plain theorems). -/

set_option linter.unusedVariables false
set_option linter.unusedSimpArgs false
set_option maxRecDepth 100000
namespace Go.Proofs.Ytipfipnhgpbceaa.Sx
open Go Go.RowKit
theorem u103 : Try.prog.underlying 103 = some (.array 2 3) := by kernel_rfl
theorem isAgg3 (w : World) : (isAgg 3).run Try.prog w = .ok false w := by
  unfold isAgg
  simp [run_underlying Try.underlying3]
theorem eq103 (d : Nat) (w : World) (x0 y0 x1 y1 : Int) : (Op.equalIn (d + 2) 103 (.agg #[.int .i64 x0, .int .i64 x1]) (.agg #[.int .i64 y0, .int .i64 y1])).run Try.prog w = .ok (x0 == y0 && (x1 == y1)) w := by
  have e := fun x y => eq_int (P := Try.prog) (d := d) Try.underlying3 x y w
  rw [Op.equalIn]
  simp only [run_underlying u103]
  go_simp
  rw [show List.range' 0 2 = [0, 1] from rfl]
  by_cases c : x0 = y0 <;> by_cases c' : x1 = y1 <;> simp [List.forIn_cons, isAgg3, e, c, c', Result.andThen]
def eqk2 : TypeId → Option K := fun t => if t == 103 then some .pair else eqk t
theorem eqk2_ok : ∀ t E, eqk2 t = some E → QOK Try.prog t E := by
  intro t E h
  unfold eqk2 at h
  split at h
  · rename_i ht
    have : t = 103 := by simpa using ht
    subst this
    cases h
    refine ⟨by kernel_rfl, fun x y r w hr => ?_⟩
    simp only [eqK, Option.some.injEq] at hr
    subst hr
    exact eq103 9998 w _ _ _ _
  · exact eqk_ok t E h
def env2 (l : List (FuncId × Spec)) : Env := ⟨lookT tlist, eqk2, lookF l, fun _ => false, fun t => t == 158⟩
theorem env2_ok {l : List (FuncId × Spec)} (h : FnsOK Try.prog l) : EnvOK Try.prog (env2 l) := ⟨lookT_ok tlist_ok, eqk2_ok, lookF_ok h, maps_ok, mapz_ok⟩
end Go.Proofs.Ytipfipnhgpbceaa.Sx
/- The sanity check of recirculation (plain theorem). -/


set_option linter.unusedVariables false
set_option linter.unusedSimpArgs false
set_option maxRecDepth 100000
namespace Go.Proofs.Ytipfipnhgpbceaa.Sx
open Go Go.RowKit
def aP : List Place := [⟨0, false⟩, ⟨0, false⟩]
def aR : List Road := [⟨0, 1, 1, 1, false, false, 1, 1, 0, 0⟩, ⟨0, 1, 1, 1, false, false, 1, 1, 0, 0⟩]
theorem aIn : RoadsIn aP.length aR := by
  intro i hi
  have : i = 0 ∨ i = 1 := by simp [aR] at hi; omega
  rcases this with rfl | rfl <;> decide
/-- Over one road and back over the other one. -/
theorem on_pair {f : List Span} {i j : Nat} {d e : Bool} (hj : j < 2) (hij : (j : Int) ≠ i) (h1 : can aR f i d = true) (h2 : can aR f j e = true) (hs : ∀ k, surf aP k = false) (hb : endA aR j e = endB aR i d) (ha : endB aR j e = endA aR i d) : onRoad aP aR f i := by
  have hx := ends_in aIn (i := j) (by simpa [aR] using hj) e
  exact (onDir_iff aIn i).2 ⟨d, h1, hs _, hs _, fun T t1 t2 => t2 _ _ ⟨j, e, hj, hij, h2, by rw [← hb]; omega, by rw [← ha]; omega, hs _, hs _⟩ t1⟩
theorem aSurf (k : Nat) : surf aP k = false := by
  unfold surf aP
  rcases k with _ | _ | k <;> simp [place0]
def f1 : List Span := [⟨1, 5⟩, ⟨-5, -1⟩]
def f2 : List Span := [⟨-1, 5⟩, ⟨1, 5⟩]
def f3 : List Span := [⟨1, 5⟩, ⟨1, 5⟩]
theorem on10 : onRoad aP aR f1 0 := on_pair (i := 0) (j := 1) (d := false) (e := true) (by omega) (by omega) (by decide) (by decide) aSurf (by decide) (by decide)
theorem on11 : onRoad aP aR f1 1 := on_pair (i := 1) (j := 0) (d := true) (e := false) (by omega) (by omega) (by decide) (by decide) aSurf (by decide) (by decide)
theorem on20 : onRoad aP aR f2 0 := on_pair (i := 0) (j := 1) (d := true) (e := false) (by omega) (by omega) (by decide) (by decide) aSurf (by decide) (by decide)
theorem on21 : onRoad aP aR f2 1 := on_pair (i := 1) (j := 0) (d := false) (e := true) (by omega) (by omega) (by decide) (by decide) aSurf (by decide) (by decide)
theorem circ1 : circM aP aR f1 = [0, 1] := by
  unfold circM
  rw [if_pos (by decide)]
  simp [aR, circF, show onRoad aP [⟨0, 1, 1, 1, false, false, 1, 1, 0, 0⟩, ⟨0, 1, 1, 1, false, false, 1, 1, 0, 0⟩] f1 0 from on10, show onRoad aP [⟨0, 1, 1, 1, false, false, 1, 1, 0, 0⟩, ⟨0, 1, 1, 1, false, false, 1, 1, 0, 0⟩] f1 1 from on11]
theorem circ2 : circM aP aR f2 = [0, 1] := by
  unfold circM
  rw [if_pos (by decide)]
  simp [aR, circF, show onRoad aP [⟨0, 1, 1, 1, false, false, 1, 1, 0, 0⟩, ⟨0, 1, 1, 1, false, false, 1, 1, 0, 0⟩] f2 0 from on20, show onRoad aP [⟨0, 1, 1, 1, false, false, 1, 1, 0, 0⟩, ⟨0, 1, 1, 1, false, false, 1, 1, 0, 0⟩] f2 1 from on21]
theorem no3 (i : Nat) (hi : i < 2) : ¬ onRoad aP aR f3 i := by
  intro h
  obtain ⟨d, h1, _, _, h4⟩ := (onDir_iff aIn i).1 h
  have hc : ∀ (j : Nat) (e : Bool), j < 2 → can aR f3 j e = true → endA aR j e = 0 ∧ endB aR j e = 1 := by
    intro j e hj
    have : j = 0 ∨ j = 1 := by omega
    rcases this with rfl | rfl <;> cases e <;> decide
  have h0 := h4 (fun k => k = 1) (by rw [(hc i d hi h1).2]; rfl) (fun a c hE _ => by
    obtain ⟨j, e, hj, _, g1, g2, g3, _⟩ := hE
    have := (hc j e (by simpa [aR] using hj) g1).2
    show c = 1
    omega)
  rw [(hc i d hi h1).1] at h0
  cases h0
theorem circ3 : circM aP aR f3 = [] := by
  unfold circM
  rw [if_pos (by decide)]
  simp [aR, circF, show ¬ onRoad aP [⟨0, 1, 1, 1, false, false, 1, 1, 0, 0⟩, ⟨0, 1, 1, 1, false, false, 1, 1, 0, 0⟩] f3 0 from no3 0 (by omega), show ¬ onRoad aP [⟨0, 1, 1, 1, false, false, 1, 1, 0, 0⟩, ⟨0, 1, 1, 1, false, false, 1, 1, 0, 0⟩] f3 1 from no3 1 (by omega)]
theorem mix1 : mixM aP aR f1 = [0, 1] := by
  have m0 : MixP aP aR f1 0 := fun T h _ => (h 0 (by decide) on10).1
  have m1 : MixP aP aR f1 1 := fun T h _ => (h 0 (by decide) on10).2
  unfold mixM
  rw [if_pos (by decide)]
  simp [show aP.length = 2 from rfl, pick, m0, m1]
end Go.Proofs.Ytipfipnhgpbceaa.Sx
/- The sanity check of recirculation is true (plain theorem). -/

set_option linter.unusedVariables false
set_option linter.unusedSimpArgs false
set_option maxRecDepth 100000
namespace Go.Proofs.Ytipfipnhgpbceaa.Sx
open Go Go.RowKit
noncomputable def l67 : List (FuncId × Spec) := [(63, c63), (65, c65), (52, c52), (71, c71)]
def k67 : Code → Keep := keepOf []
noncomputable def h67 (fl : Nat)  : Option (AV × List Ob) := (evalF (env2 l67) Try.f67 k67 fl [] []).den
theorem h67_eq (fl : Nat)  : h67 (fl + 1)  =
    (o63 true [{ height := 0, surface := false : Place }, { height := 0, surface := false : Place }] true [{ frm := 0, to := 1, len := 1, area := 1, walk := false, closed := false, restLo := 1, restHi := 1, liftLo := 0, liftHi := 0 : Road }, { frm := 0, to := 1, len := 1, area := 1, walk := false, closed := false, restLo := 1, restHi := 1, liftLo := 0, liftHi := 0 : Road }] true [{ lo := 1, hi := 5 : Span }, { lo := -5, hi := -1 : Span }]).bind fun x2 =>
    if ((↑x2.length : Int) == 2) = true then if (idx x2.length 1) = true then if ((x2.getD (Int.toNat 1) (dflt K.pair)).a == 1 && (x2.getD (Int.toNat 1) (dflt K.pair)).b == 0) = true then (o65 true [{ height := 0, surface := false : Place }, { height := 0, surface := false : Place }] true [{ frm := 0, to := 1, len := 1, area := 1, walk := false, closed := false, restLo := 1, restHi := 1, liftLo := 0, liftHi := 0 : Road }, { frm := 0, to := 1, len := 1, area := 1, walk := false, closed := false, restLo := 1, restHi := 1, liftLo := 0, liftHi := 0 : Road }] true [{ lo := 1, hi := 5 : Span }, { lo := -5, hi := -1 : Span }]).bind fun x6 =>
            (o52 false x6 true [0, 1]).bind fun x7 =>
              if x7 = true then (o65 true [{ height := 0, surface := false : Place }, { height := 0, surface := false : Place }] true [{ frm := 0, to := 1, len := 1, area := 1, walk := false, closed := false, restLo := 1, restHi := 1, liftLo := 0, liftHi := 0 : Road }, { frm := 0, to := 1, len := 1, area := 1, walk := false, closed := false, restLo := 1, restHi := 1, liftLo := 0, liftHi := 0 : Road }] true [{ lo := -1, hi := 5 : Span }, { lo := 1, hi := 5 : Span }]).bind fun x9 =>
                  if ((↑x9.length : Int) == 2) = true then (o65 true [{ height := 0, surface := false : Place }, { height := 0, surface := false : Place }] true [{ frm := 0, to := 1, len := 1, area := 1, walk := false, closed := false, restLo := 1, restHi := 1, liftLo := 0, liftHi := 0 : Road }, { frm := 0, to := 1, len := 1, area := 1, walk := false, closed := false, restLo := 1, restHi := 1, liftLo := 0, liftHi := 0 : Road }] true [{ lo := 1, hi := 5 : Span }, { lo := 1, hi := 5 : Span }]).bind fun x11 =>
                      if ((↑x11.length : Int) == 0) = true then (o71 true [{ height := 0, surface := false : Place }, { height := 0, surface := false : Place }] true [{ frm := 0, to := 1, len := 1, area := 1, walk := false, closed := false, restLo := 1, restHi := 1, liftLo := 0, liftHi := 0 : Road }, { frm := 0, to := 1, len := 1, area := 1, walk := false, closed := false, restLo := 1, restHi := 1, liftLo := 0, liftHi := 0 : Road }] true [{ lo := 1, hi := 5 : Span }, { lo := -5, hi := -1 : Span }]).bind fun x13 =>
                          (o52 false x13 true [0, 1]).bind fun x14 =>
                            some (.one (.bool x14), [])
                        else some (.one (.bool false), [])
                    else some (.one (.bool false), [])
                else some (.one (.bool false), [])
          else some (.one (.bool false), [])
        else none
      else some (.one (.bool false), []) := by kernel_rfl
def s67 : Spec := ⟨false, fun av ob => match av, ob with
  | [], [] => .ret (.one (.bool true), [])
  | _, _ => .fail⟩
theorem way1 : waysOf aP aR f1 = [⟨0, 1⟩, ⟨1, 0⟩] := by rfl
theorem v67 : h67 1 = some (.one (.bool true), []) := by
  rw [h67_eq]
  show Option.bind (o63 true aP true aR true f1) _ = _
  rw [ways_eq, Option.bind_some, way1, if_pos (by decide), if_pos (by decide), if_pos (by decide)]
  show Option.bind (o65 true aP true aR true f1) _ = _
  rw [circles_eq _ _ _ _ _ _ (by decide), Option.bind_some, circ1, ints_eq _ _ _ _ (by decide), Option.bind_some, if_pos (by decide)]
  show Option.bind (o65 true aP true aR true f2) _ = _
  rw [circles_eq _ _ _ _ _ _ (by decide), Option.bind_some, circ2, if_pos (by decide)]
  show Option.bind (o65 true aP true aR true f3) _ = _
  rw [circles_eq _ _ _ _ _ _ (by decide), Option.bind_some, circ3, if_pos (by decide)]
  show Option.bind (o71 true aP true aR true f1) _ = _
  rw [mixed_eq, Option.bind_some, mix1, ints_eq _ _ _ _ (by decide), Option.bind_some]
  rfl
theorem p67 : SpecOK Try.prog 67 s67 := by
  refine specOK_of (env2_ok (l := l67) ⟨⟨pc63, f63⟩, ⟨⟨pc65, f65⟩, ⟨⟨pc52, f52⟩, ⟨⟨pc71, f71⟩, trivial⟩⟩⟩⟩) mixed_ok Try.func67 k67 fun av ob r os hrn => ?_
  simp only [s67] at hrn
  split at hrn
  · skip
    cases hrn
    have hv := v67
    unfold h67 at hv
    exact ⟨1, hv⟩
  · cases hrn
theorem f67 : FnOK Try.prog 67 := fnOK_of Try.func67 rfl (by kernel_rfl)
end Go.Proofs.Ytipfipnhgpbceaa.Sx
/- Where air can go, and which circles there can be (plain theorems). -/



set_option linter.unusedVariables false
set_option linter.unusedSimpArgs false
set_option maxRecDepth 100000
namespace Go.Proofs.Ytipfipnhgpbceaa.Sx
open Go Go.RowKit
noncomputable def l17 : List (FuncId × Spec) := [(62, c62), (63, c63), (64, c64), (65, c65), (66, c66), (52, c52), (67, s67)]
def k17 : Code → Keep := keepOf [(3, ⟨[5, 21, 22, 23], [], []⟩), (9, ⟨[5, 10, 11, 21, 22, 23, 53, 54], [], []⟩)]
noncomputable def h17_0 (fl : Nat) (t22 : Int) (t23 : Int) (m0_0 : List Place) (m0_1 : List Road) (m0_2 : List Fan) (m0_3 : List Door) (m1 : List (List Span)) : Option (AV × List Ob) := (evalH (env2 l17) Try.f17 k17 0 fl (stkF Try.f17 [1, 1, 0, 1, 0]) ⟨[.one (.undef), .one (.undef), .one (.undef), .one (.undef), .one (.undef), .one (.ptr 0 0), .one (.undef), .one (.undef), .one (.undef), .one (.undef), .one (.undef), .one (.undef), .one (.undef), .one (.undef), .one (.undef), .one (.undef), .one (.undef), .one (.undef), .one (.undef), .one (.undef), .one (.undef), .one (.row 1), .one (.int .i64 t22), .one (.int .i64 t23), .one (.undef), .one (.undef), .one (.undef), .one (.undef), .one (.undef), .one (.undef), .one (.undef), .one (.undef), .one (.undef), .one (.undef), .one (.undef), .one (.undef), .one (.undef), .one (.undef), .one (.undef), .one (.undef), .one (.undef), .one (.undef), .one (.undef), .one (.undef), .one (.undef), .one (.undef), .one (.undef), .one (.undef), .one (.undef), .one (.undef), .one (.undef), .one (.undef), .one (.undef), .one (.undef), .one (.undef), .one (.undef), .one (.undef), .one (.undef), .one (.undef), .one (.undef), .one (.undef), .one (.undef), .one (.undef), .one (.undef), .one (.undef), .one (.undef), .one (.undef), .one (.undef), .one (.undef)], [((0, 0), some (.cell (.vec false .place m0_0))), ((0, 1), some (.cell (.vec false .road m0_1))), ((0, 2), some (.cell (.vec false .fan m0_2))), ((0, 3), some (.cell (.vec false .door m0_3))), ((1, 0), some (.rows .spans m1))], 2⟩).den
noncomputable def h17_1 (fl : Nat) (t10 : List Pair) (t11 : List Pair) (t22 : Int) (t23 : Int) (t53 : Int) (t54 : Int) (m0_0 : List Place) (m0_1 : List Road) (m0_2 : List Fan) (m0_3 : List Door) (m1 : List (List Span)) : Option (AV × List Ob) := (evalH (env2 l17) Try.f17 k17 0 fl (stkF Try.f17 [1, 1, 0, 1, 0, 0, 1, 1, 0, 0, 1, 1, 1, 1, 0]) ⟨[.one (.undef), .one (.undef), .one (.undef), .one (.undef), .one (.undef), .one (.ptr 0 0), .one (.undef), .one (.undef), .one (.undef), .one (.undef), .one (.vec false .pair t10), .one (.vec false .pair t11), .one (.undef), .one (.undef), .one (.undef), .one (.undef), .one (.undef), .one (.undef), .one (.undef), .one (.undef), .one (.undef), .one (.row 1), .one (.int .i64 t22), .one (.int .i64 t23), .one (.undef), .one (.undef), .one (.undef), .one (.undef), .one (.undef), .one (.undef), .one (.undef), .one (.undef), .one (.undef), .one (.undef), .one (.undef), .one (.undef), .one (.undef), .one (.undef), .one (.undef), .one (.undef), .one (.undef), .one (.undef), .one (.undef), .one (.undef), .one (.undef), .one (.undef), .one (.undef), .one (.undef), .one (.undef), .one (.undef), .one (.undef), .one (.undef), .one (.undef), .one (.int .i64 t53), .one (.int .i64 t54), .one (.undef), .one (.undef), .one (.undef), .one (.undef), .one (.undef), .one (.undef), .one (.undef), .one (.undef), .one (.undef), .one (.undef), .one (.undef), .one (.undef), .one (.undef), .one (.undef)], [((0, 0), some (.cell (.vec false .place m0_0))), ((0, 1), some (.cell (.vec false .road m0_1))), ((0, 2), some (.cell (.vec false .fan m0_2))), ((0, 3), some (.cell (.vec false .door m0_3))), ((1, 0), some (.rows .spans m1))], 2⟩).den
noncomputable def h17 (fl : Nat) (l : List Int) (s : List Span) : Option (AV × List Ob) := (evalF (env2 l17) Try.f17 k17 fl [.one (.vec false .u8 l), .one (.vec false .span s)] []).den
theorem h17_eq (fl : Nat) (l : List Int) (s : List Span) : h17 (fl + 1) l s =
    (o62 l).bind fun x2 =>
    h17_0 fl ((↑[x2.S, s].length : Int)) 0 x2.P x2.R x2.F x2.D ([x2.S, s]) := by kernel_rfl
theorem h17_0_eq (fl : Nat) (t22 : Int) (t23 : Int) (m0_0 : List Place) (m0_1 : List Road) (m0_2 : List Fan) (m0_3 : List Door) (m1 : List (List Span)) : h17_0 (fl + 1) t22 t23 m0_0 m0_1 m0_2 m0_3 m1 =
    if (decide (t23 < t22)) = true then if (idx m1.length t23) = true then (o63 false m0_0 false m0_1 false (m1.getD t23.toNat (dflt K.spans))).bind fun x4 =>
        (o64 false m0_0 false m0_1 false (m1.getD t23.toNat (dflt K.spans))).bind fun x5 =>
          if ((↑x4.length : Int) != (↑x5.length : Int)) = true then some (.one (.bool false), [])
            else (o65 false m0_0 false m0_1 false (m1.getD t23.toNat (dflt K.spans))).bind fun x7 =>
              (o66 false m0_0 false m0_1 false (m1.getD t23.toNat (dflt K.spans))).bind fun x8 =>
                (o52 false x7 false x8).bind fun x9 =>
                  if (!x9) = true then some (.one (.bool false), [])
                    else h17_1 fl x4 x5 t22 t23 ((↑x4.length : Int)) 0 m0_0 m0_1 m0_2 m0_3 m1
      else none
    else some (.one (.bool true), []) := by kernel_rfl
theorem h17_1_eq (fl : Nat) (t10 : List Pair) (t11 : List Pair) (t22 : Int) (t23 : Int) (t53 : Int) (t54 : Int) (m0_0 : List Place) (m0_1 : List Road) (m0_2 : List Fan) (m0_3 : List Door) (m1 : List (List Span)) : h17_1 (fl + 1) t10 t11 t22 t23 t53 t54 m0_0 m0_1 m0_2 m0_3 m1 =
    if (decide (t54 < t53)) = true then if (idx t10.length t54) = true then if (idx t11.length t54) = true then if (!((t10.getD t54.toNat (dflt K.pair)).a == (t11.getD t54.toNat (dflt K.pair)).a && (t10.getD t54.toNat (dflt K.pair)).b == (t11.getD t54.toNat (dflt K.pair)).b)) = true then some (.one (.bool false), [])
          else h17_1 fl t10 t11 t22 t23 t53 (IntKind.i64.wrap (t54 + 1)) m0_0 m0_1 m0_2 m0_3 m1
        else none
      else none
    else h17_0 fl t22 (IntKind.i64.wrap (t23 + 1)) m0_0 m0_1 m0_2 m0_3 m1 := by kernel_rfl
theorem loop17 (A : List Pair) (hA : A.length ≤ 256) (a b : Int) (P : List Place) (R : List Road) (F : List Fan) (D : List Door) (m : List (List Span)) : ∀ (d fl k : Nat), A.length - k = d → k ≤ A.length → h17_1 (fl + d + 1) A A a b A.length k P R F D m = h17_0 fl a (IntKind.i64.wrap (b + 1)) P R F D m
  | d, fl, k, hd, hk => by
    rw [h17_1_eq]
    by_cases hlt : k < A.length
    · rw [if_pos (lt_nat hlt), if_pos (idx_nat hlt), if_pos (idx_nat hlt), if_neg (by simp), wr_succ (by omega)]
      cases d with
      | zero => omega
      | succ d => exact loop17 A hA a b P R F D m d fl (k + 1) (by omega) (by omega)
    · rw [if_neg (nlt_nat hlt)]
      have : d = 0 := by omega
      subst this
      rfl
theorem ways_len (P : List Place) (R : List Road) (f : List Span) : (waysOf P R f).length ≤ 256 := by
  unfold waysOf
  split
  · rename_i h
    have h1 := (rightM_in h).2.2.1
    have h2 := arcsF_len R f R.length 0
    rw [List.length_map]
    unfold arcsOf
    omega
  · simp
theorem circM_len (P : List Place) (R : List Road) (f : List Span) : (circM P R f).length ≤ 128 := by
  unfold circM
  split
  · rename_i h
    have h1 := (rightM_in h).2.2.1
    have h2 := circF_len P R f R.length 0
    omega
  · simp
theorem step17 (P : List Place) (hP : P.length ≤ 64) (R : List Road) (F : List Fan) (D : List Door) (m : List (List Span)) (fl j : Nat) (hf : 300 < fl) (hj : j < m.length) (hm : m.length = 2) : ∃ fl', fl ≤ fl' + 300 ∧ h17_0 fl m.length j P R F D m = h17_0 fl' m.length (j + 1 : Nat) P R F D m := by
  obtain ⟨fl, rfl⟩ : ∃ q, fl = q + 1 := ⟨fl - 1, by omega⟩
  have hl := ways_len P R m[j]
  have hc := circM_len P R m[j]
  rw [h17_0_eq, if_pos (lt_nat hj), if_pos (idx_nat hj), at_lt hj, ways_eq, Option.bind_some, rways_eq, Option.bind_some, if_neg (by simp), circles_eq _ _ _ _ _ _ hP, Option.bind_some, rcircles_eq, Option.bind_some, ints_eq _ _ _ _ (by omega), Option.bind_some, if_neg (by simp)]
  refine ⟨fl - (waysOf P R m[j]).length - 1, by omega, ?_⟩
  have h := loop17 (waysOf P R m[j]) hl m.length j P R F D m (waysOf P R m[j]).length (fl - (waysOf P R m[j]).length - 1) 0 (by omega) (by omega)
  rw [show fl - (waysOf P R m[j]).length - 1 + (waysOf P R m[j]).length + 1 = fl by omega, wr_succ (by omega)] at h
  exact h
theorem v17 (l : List Int) (s : List Span) (h : l.all u8B = true) : h17 1000 l s = some (.one (.bool true), []) := by
  obtain ⟨x, hx, hb⟩ := airs_ok h
  have hP : x.P.length ≤ 64 := (checkM_roads hb.mine.check).1
  rw [h17_eq, hx, Option.bind_some]
  obtain ⟨f1, g1, e1⟩ := step17 x.P hP x.R x.F x.D [x.S, s] 999 0 (by omega) (by simp) rfl
  obtain ⟨f2, g2, e2⟩ := step17 x.P hP x.R x.F x.D [x.S, s] f1 1 (by omega) (by simp) rfl
  obtain ⟨f3, rfl⟩ : ∃ q, f2 = q + 1 := ⟨f2 - 1, by omega⟩
  have e1' : h17_0 999 ([x.S, s].length : Int) 0 x.P x.R x.F x.D [x.S, s] = _ := e1
  rw [e1', e2, h17_0_eq, if_neg (by simp)]
def s17 : Spec := ⟨false, fun av ob => match av, ob with
  | [.one (.vec false .u8 l), .one (.vec false .span s)], [] => .need (l.all u8B && (s.all spanB)) (.ret (.one (.bool true), []))
  | _, _ => .fail⟩
theorem p17 : SpecOK Try.prog 17 s17 := by
  refine specOK_of (env2_ok (l := l17) ⟨⟨pc62, f62⟩, ⟨⟨pc63, f63⟩, ⟨⟨pc64, f64⟩, ⟨⟨pc65, f65⟩, ⟨⟨pc66, f66⟩, ⟨⟨pc52, f52⟩, ⟨⟨p67, f67⟩, trivial⟩⟩⟩⟩⟩⟩⟩) mixed_ok Try.func17 k17 fun av ob r os hrn => ?_
  simp only [s17] at hrn
  split at hrn
  · rename_i l s
    obtain ⟨hg, hrn⟩ := need_den hrn
    cases hrn
    simp only [Bool.and_eq_true] at hg
    obtain ⟨q1, q2⟩ := hg
    have hv := v17 l s q1
    unfold h17 at hv
    exact ⟨1000, hv⟩
  · cases hrn
theorem law17 (av : List AV) (h : AVs [RBytes, RSpans] av) : (s17.run av []).den = some (.one (.bool true), []) := by
  obtain ⟨_, _, rfl, ⟨l, rfl, q1⟩, k1⟩ := h.cons
  obtain ⟨_, _, rfl, ⟨s, rfl, q2⟩, k2⟩ := k1.cons
  rw [k2.nil]
  refine den_need ?_
  simp only [Bool.and_eq_true]
  exact ⟨q1, q2⟩
end Go.Proofs.Ytipfipnhgpbceaa.Sx
/- Wider spans, and roads that are closed: what becomes of circles (plain theorems). -/

set_option linter.unusedVariables false
set_option linter.unusedSimpArgs false
set_option maxRecDepth 100000
namespace Go.Proofs.Ytipfipnhgpbceaa.Sx
open Go Go.RowKit
theorem mem_circM {P : List Place} {R : List Road} {f : List Span} {x : Int} : x ∈ circM P R f ↔ rightM P R f = true ∧ ∃ j : Nat, j < R.length ∧ onRoad P R f j ∧ x = j := by
  unfold circM
  split
  · rename_i h
    rw [mem_circF]
    simp [h]
  · rename_i h
    simp [h]
theorem mem_pick {p : Nat → Prop} {x : Int} : ∀ (m i : Nat), x ∈ pick p m i ↔ ∃ j : Nat, i ≤ j ∧ j < i + m ∧ p j ∧ x = j
  | 0, i => by
    simp only [pick, List.not_mem_nil, false_iff]
    rintro ⟨j, h1, h2, _⟩
    omega
  | m + 1, i => by
    rw [pick, List.mem_append, mem_pick m (i + 1)]
    constructor
    · rintro (h | ⟨j, h1, h2, h3, h4⟩)
      · split at h
        · rename_i c
          exact ⟨i, by omega, by omega, c, by simpa using h⟩
        · cases h
      · exact ⟨j, by omega, by omega, h3, h4⟩
    · rintro ⟨j, h1, h2, h3, h4⟩
      by_cases c : j = i
      · subst c
        exact .inl (by rw [if_pos h3]; simpa using h4)
      · exact .inr ⟨j, by omega, by omega, h3, h4⟩
theorem mem_mixM {P : List Place} {R : List Road} {f : List Span} {x : Int} : x ∈ mixM P R f ↔ rightM P R f = true ∧ ∃ j : Nat, j < P.length ∧ MixP P R f j ∧ x = j := by
  unfold mixM
  split
  · rename_i h
    rw [mem_pick]
    simp [h]
  · rename_i h
    simp [h]
theorem mixM_len (P : List Place) (R : List Road) (f : List Span) : (mixM P R f).length ≤ 64 := by
  have hp : ∀ (p : Nat → Prop) m i, (pick p m i).length ≤ m := fun p m => by
    induction m with
    | zero => intro i; simp [pick]
    | succ m ih =>
      intro i
      rw [pick, List.length_append]
      have := ih (i + 1)
      split <;> simp <;> omega
  unfold mixM
  split
  · rename_i h
    have h1 := (rightM_in h).2.2.2
    have h2 := hp (MixP P R f) P.length 0
    omega
  · simp
/-- Where air can go in the first, it can go in the second. -/
structure Sub (R : List Road) (f : List Span) (R' : List Road) (f' : List Span) : Prop where
  len : R.length = R'.length
  a : ∀ (i : Nat) (d : Bool), i < R.length → endA R i d = endA R' i d
  b : ∀ (i : Nat) (d : Bool), i < R.length → endB R i d = endB R' i d
  can : ∀ (i : Nat) (d : Bool), i < R.length → can R f i d = true → can R' f' i d = true
theorem Sub.ere {R R' : List Road} {f f' : List Span} (h : Sub R f R' f') {P : List Place} {w : Int} {a b : Nat} (g : Ere P R f w a b) : Ere P R' f' w a b := by
  obtain ⟨i, d, h1, h2, h3, h4, h5, h6, h7⟩ := g
  exact ⟨i, d, by rw [← h.len]; exact h1, h2, h.can i d h1 h3, by rw [← h.a i d h1, h4], by rw [← h.b i d h1, h5], h6, h7⟩
theorem RchC.mono {E E' : Nat → Nat → Prop} (h : ∀ a c, E a c → E' a c) {b i : Nat} (g : RchC E b i) : RchC E' b i := fun T t1 t2 => g T t1 fun a c e => t2 a c (h a c e)
theorem Sub.on {R R' : List Road} {f f' : List Span} (h : Sub R f R' f') {P : List Place} (hR : RoadsIn P.length R) (hR' : RoadsIn P.length R') {i : Nat} (hi : i < R.length) (g : onRoad P R f i) : onRoad P R' f' i := by
  rw [onDir_iff hR] at g
  rw [onDir_iff hR']
  obtain ⟨d, h1, h2, h3, h4⟩ := g
  refine ⟨d, h.can i d hi h1, by rw [← h.a i d hi]; exact h2, by rw [← h.b i d hi]; exact h3, ?_⟩
  rw [← h.a i d hi, ← h.b i d hi]
  exact h4.mono fun a c e => h.ere e
theorem Sub.mix {R R' : List Road} {f f' : List Span} (h : Sub R f R' f') {P : List Place} (hR : RoadsIn P.length R) (hR' : RoadsIn P.length R') {i : Nat} (g : MixP P R f i) : MixP P R' f' i := fun T t1 t2 => by
  refine g T (fun k hk ho => ?_) (fun a c e => t2 a c (h.ere e))
  have := t1 k (by rw [← h.len]; exact hk) (h.on hR hR' hk ho)
  have ea := h.a k false hk
  have eb := h.b k false hk
  simp only [endA, endB, Int.toNat_natCast, Bool.false_eq_true, if_false] at ea eb
  rw [ea, eb]
  exact this
theorem mix_below {P : List Place} {R : List Road} {f : List Span} {i : Nat} (g : MixP P R f i) : surf P i = false := by
  refine g (fun i => surf P i = false) (fun k _ ho => onRoad_below ho) (fun a c e _ => ?_)
  obtain ⟨j, d, _, _, _, _, _, _, h⟩ := e
  exact h
theorem Sub.circ {R R' : List Road} {f f' : List Span} (h : Sub R f R' f') {P : List Place} (hr' : rightM P R' f' = true) {x : Int} (hx : x ∈ circM P R f) : x ∈ circM P R' f' := by
  rw [mem_circM] at *
  obtain ⟨hr, j, h1, h2, h3⟩ := hx
  exact ⟨hr', j, by rw [← h.len]; exact h1, h.on (rightM_in hr).1 (rightM_in hr').1 h1 h2, h3⟩
theorem Sub.mixs {R R' : List Road} {f f' : List Span} (h : Sub R f R' f') {P : List Place} (hr' : rightM P R' f' = true) {x : Int} (hx : x ∈ mixM P R f) : x ∈ mixM P R' f' := by
  rw [mem_mixM] at *
  obtain ⟨hr, j, h1, h2, h3⟩ := hx
  exact ⟨hr', j, h1, h.mix (rightM_in hr).1 (rightM_in hr').1 h2, h3⟩
theorem sub_wide (R : List Road) (f : List Span) {k : Nat} (hk : k < f.length) {lo hi : Int} (h1 : lo ≤ (f.getD k ⟨0, 0⟩).lo) (h2 : (f.getD k ⟨0, 0⟩).hi ≤ hi) : Sub R f R (f.set k ⟨lo, hi⟩) := by
  refine ⟨rfl, fun _ _ _ => rfl, fun _ _ _ => rfl, fun i d hi' hc => ?_⟩
  unfold can at *
  rw [Bool.and_eq_true] at *
  refine ⟨hc.1, ?_⟩
  have h3 := hc.2
  rw [Int.toNat_natCast] at *
  by_cases e : k = i
  · subst e
    rw [getD_set_eq hk]
    cases d <;> simp at * <;> omega
  · rw [getD_set_ne2 e]
    exact h3
def shutR (r : Road) : Road := ⟨r.frm, r.to, r.len, r.area, r.walk, true, r.restLo, r.restHi, r.liftLo, r.liftHi⟩
theorem sub_shut (R : List Road) (f : List Span) {k : Nat} (hk : k < R.length) : Sub (R.set k (shutR (R.getD k road0))) f R f := by
  have e : ∀ i : Nat, (R.set k (shutR (R.getD k road0))).getD i road0 = if k = i then shutR (R.getD k road0) else R.getD i road0 := fun i => by
    by_cases e : k = i
    · subst e
      rw [getD_set_eq hk, if_pos rfl]
    · rw [getD_set_ne2 e, if_neg e]
  refine ⟨by simp, fun i d _ => ?_, fun i d _ => ?_, fun i d _ hc => ?_⟩
  · unfold endA
    rw [Int.toNat_natCast, e]
    by_cases c : k = i
    · subst c; rw [if_pos rfl]; rfl
    · rw [if_neg c]
  · unfold endB
    rw [Int.toNat_natCast, e]
    by_cases c : k = i
    · subst c; rw [if_pos rfl]; rfl
    · rw [if_neg c]
  · unfold can at *
    rw [Int.toNat_natCast, e] at hc
    rw [Int.toNat_natCast]
    split at hc
    · simp [shutR] at hc
    · exact hc
theorem shut_can (R : List Road) (f : List Span) {k : Nat} (hk : k < R.length) (d : Bool) : can (R.set k (shutR (R.getD k road0))) f k d = false := by
  unfold can
  rw [Int.toNat_natCast, getD_set_eq hk]
  simp [shutR]
theorem shut_mine {P : List Place} {R : List Road} (h : MineB ⟨P, R⟩) {k : Nat} (hk : k < R.length) : MineB ⟨P, R.set k (shutR (R.getD k road0))⟩ := by
  refine ⟨h.n, by simpa using h.m, h.h, h.s0, fun i hi => ?_⟩
  have hi' : i < R.length := by simpa using hi
  show RoadM P.length ((R.set k (shutR (R.getD k road0))).getD i road0)
  by_cases e : k = i
  · subst e
    have g := h.road k hk
    rw [getD_set_eq hk]
    exact ⟨g.frm, g.to, g.ne, g.len, g.area, g.rest, g.lift⟩
  · rw [getD_set_ne2 e]
    exact h.road i hi'
noncomputable def l20 : List (FuncId × Spec) := [(62, c62), (67, s67), (27, s27), (70, s70), (65, c65), (69, c69), (71, c71)]
def k20 : Code → Keep := keepOf [(12, ⟨[8, 10, 11, 12, 14, 15, 16, 81, 82], [], []⟩), (18, ⟨[8, 10, 11, 12, 14, 16, 94, 95], [], []⟩), (25, ⟨[10, 19, 20, 121, 122], [], []⟩)]
noncomputable def h20_0 (fl : Nat) (t8 : List Span) (t12 : Int) (t14 : List Int) (t15 : List Int) (t16 : List Int) (t81 : Int) (t82 : Int) (m0_0 : List Place) (m0_1 : List Road) (m1 : List Span) : Option (AV × List Ob) := (evalH (env2 l20) Try.f20 k20 0 fl (stkF Try.f20 [1, 1, 1, 1, 1, 1, 1, 1, 1, 1, 0, 1, 0]) ⟨[.one (.undef), .one (.undef), .one (.undef), .one (.undef), .one (.undef), .one (.undef), .one (.undef), .one (.undef), .one (.vec false .span t8), .one (.undef), .one (.ptr 0 0), .one (.row 1), .one (.int .i64 t12), .one (.undef), .one (.vec false .int t14), .one (.vec false .int t15), .one (.vec false .int t16), .one (.undef), .one (.undef), .one (.undef), .one (.undef), .one (.undef), .one (.undef), .one (.undef), .one (.undef), .one (.undef), .one (.undef), .one (.undef), .one (.undef), .one (.undef), .one (.undef), .one (.undef), .one (.undef), .one (.undef), .one (.undef), .one (.undef), .one (.undef), .one (.undef), .one (.undef), .one (.undef), .one (.undef), .one (.undef), .one (.undef), .one (.undef), .one (.undef), .one (.undef), .one (.undef), .one (.undef), .one (.undef), .one (.undef), .one (.undef), .one (.undef), .one (.undef), .one (.undef), .one (.undef), .one (.undef), .one (.undef), .one (.undef), .one (.undef), .one (.undef), .one (.undef), .one (.undef), .one (.undef), .one (.undef), .one (.undef), .one (.undef), .one (.undef), .one (.undef), .one (.undef), .one (.undef), .one (.undef), .one (.undef), .one (.undef), .one (.undef), .one (.undef), .one (.undef), .one (.undef), .one (.undef), .one (.undef), .one (.undef), .one (.undef), .one (.int .i64 t81), .one (.int .i64 t82), .one (.undef), .one (.undef), .one (.undef), .one (.undef), .one (.undef), .one (.undef), .one (.undef), .one (.undef), .one (.undef), .one (.undef), .one (.undef), .one (.undef), .one (.undef), .one (.undef), .one (.undef), .one (.undef), .one (.undef), .one (.undef), .one (.undef), .one (.undef), .one (.undef), .one (.undef), .one (.undef), .one (.undef), .one (.undef), .one (.undef), .one (.undef), .one (.undef), .one (.undef), .one (.undef), .one (.undef), .one (.undef), .one (.undef), .one (.undef), .one (.undef), .one (.undef), .one (.undef), .one (.undef), .one (.undef), .one (.undef), .one (.undef), .one (.undef), .one (.undef), .one (.undef), .one (.undef), .one (.undef), .one (.undef), .one (.undef), .one (.undef), .one (.undef), .one (.undef), .one (.undef), .one (.undef), .one (.undef), .one (.undef), .one (.undef), .one (.undef), .one (.undef), .one (.undef), .one (.undef), .one (.undef), .one (.undef)], [((0, 0), some (.cell (.vec false .place m0_0))), ((0, 1), some (.cell (.vec false .road m0_1))), ((1, 0), some (.rows .span m1))], 2⟩).den
noncomputable def h20_1 (fl : Nat) (t8 : List Span) (t12 : Int) (t14 : List Int) (t16 : List Int) (t94 : Int) (t95 : Int) (m0_0 : List Place) (m0_1 : List Road) (m1 : List Span) : Option (AV × List Ob) := (evalH (env2 l20) Try.f20 k20 0 fl (stkF Try.f20 [1, 1, 1, 1, 1, 1, 1, 1, 1, 1, 1, 0, 1, 0]) ⟨[.one (.undef), .one (.undef), .one (.undef), .one (.undef), .one (.undef), .one (.undef), .one (.undef), .one (.undef), .one (.vec false .span t8), .one (.undef), .one (.ptr 0 0), .one (.row 1), .one (.int .i64 t12), .one (.undef), .one (.vec false .int t14), .one (.undef), .one (.vec false .int t16), .one (.undef), .one (.undef), .one (.undef), .one (.undef), .one (.undef), .one (.undef), .one (.undef), .one (.undef), .one (.undef), .one (.undef), .one (.undef), .one (.undef), .one (.undef), .one (.undef), .one (.undef), .one (.undef), .one (.undef), .one (.undef), .one (.undef), .one (.undef), .one (.undef), .one (.undef), .one (.undef), .one (.undef), .one (.undef), .one (.undef), .one (.undef), .one (.undef), .one (.undef), .one (.undef), .one (.undef), .one (.undef), .one (.undef), .one (.undef), .one (.undef), .one (.undef), .one (.undef), .one (.undef), .one (.undef), .one (.undef), .one (.undef), .one (.undef), .one (.undef), .one (.undef), .one (.undef), .one (.undef), .one (.undef), .one (.undef), .one (.undef), .one (.undef), .one (.undef), .one (.undef), .one (.undef), .one (.undef), .one (.undef), .one (.undef), .one (.undef), .one (.undef), .one (.undef), .one (.undef), .one (.undef), .one (.undef), .one (.undef), .one (.undef), .one (.undef), .one (.undef), .one (.undef), .one (.undef), .one (.undef), .one (.undef), .one (.undef), .one (.undef), .one (.undef), .one (.undef), .one (.undef), .one (.undef), .one (.undef), .one (.int .i64 t94), .one (.int .i64 t95), .one (.undef), .one (.undef), .one (.undef), .one (.undef), .one (.undef), .one (.undef), .one (.undef), .one (.undef), .one (.undef), .one (.undef), .one (.undef), .one (.undef), .one (.undef), .one (.undef), .one (.undef), .one (.undef), .one (.undef), .one (.undef), .one (.undef), .one (.undef), .one (.undef), .one (.undef), .one (.undef), .one (.undef), .one (.undef), .one (.undef), .one (.undef), .one (.undef), .one (.undef), .one (.undef), .one (.undef), .one (.undef), .one (.undef), .one (.undef), .one (.undef), .one (.undef), .one (.undef), .one (.undef), .one (.undef), .one (.undef), .one (.undef), .one (.undef), .one (.undef), .one (.undef), .one (.undef), .one (.undef), .one (.undef), .one (.undef), .one (.undef)], [((0, 0), some (.cell (.vec false .place m0_0))), ((0, 1), some (.cell (.vec false .road m0_1))), ((1, 0), some (.rows .span m1))], 2⟩).den
noncomputable def h20_2 (fl : Nat) (t19 : List Int) (t20 : List Int) (t121 : Int) (t122 : Int) (m0_0 : List Place) (m0_1 : List Road) : Option (AV × List Ob) := (evalH (env2 l20) Try.f20 k20 0 fl (stkF Try.f20 [1, 1, 1, 1, 1, 1, 1, 1, 1, 1, 1, 1, 1, 0, 1, 0]) ⟨[.one (.undef), .one (.undef), .one (.undef), .one (.undef), .one (.undef), .one (.undef), .one (.undef), .one (.undef), .one (.undef), .one (.undef), .one (.ptr 0 0), .one (.undef), .one (.undef), .one (.undef), .one (.undef), .one (.undef), .one (.undef), .one (.undef), .one (.undef), .one (.vec false .int t19), .one (.vec false .int t20), .one (.undef), .one (.undef), .one (.undef), .one (.undef), .one (.undef), .one (.undef), .one (.undef), .one (.undef), .one (.undef), .one (.undef), .one (.undef), .one (.undef), .one (.undef), .one (.undef), .one (.undef), .one (.undef), .one (.undef), .one (.undef), .one (.undef), .one (.undef), .one (.undef), .one (.undef), .one (.undef), .one (.undef), .one (.undef), .one (.undef), .one (.undef), .one (.undef), .one (.undef), .one (.undef), .one (.undef), .one (.undef), .one (.undef), .one (.undef), .one (.undef), .one (.undef), .one (.undef), .one (.undef), .one (.undef), .one (.undef), .one (.undef), .one (.undef), .one (.undef), .one (.undef), .one (.undef), .one (.undef), .one (.undef), .one (.undef), .one (.undef), .one (.undef), .one (.undef), .one (.undef), .one (.undef), .one (.undef), .one (.undef), .one (.undef), .one (.undef), .one (.undef), .one (.undef), .one (.undef), .one (.undef), .one (.undef), .one (.undef), .one (.undef), .one (.undef), .one (.undef), .one (.undef), .one (.undef), .one (.undef), .one (.undef), .one (.undef), .one (.undef), .one (.undef), .one (.undef), .one (.undef), .one (.undef), .one (.undef), .one (.undef), .one (.undef), .one (.undef), .one (.undef), .one (.undef), .one (.undef), .one (.undef), .one (.undef), .one (.undef), .one (.undef), .one (.undef), .one (.undef), .one (.undef), .one (.undef), .one (.undef), .one (.undef), .one (.undef), .one (.undef), .one (.undef), .one (.undef), .one (.undef), .one (.undef), .one (.undef), .one (.int .i64 t121), .one (.int .i64 t122), .one (.undef), .one (.undef), .one (.undef), .one (.undef), .one (.undef), .one (.undef), .one (.undef), .one (.undef), .one (.undef), .one (.undef), .one (.undef), .one (.undef), .one (.undef), .one (.undef), .one (.undef), .one (.undef), .one (.undef), .one (.undef), .one (.undef), .one (.undef), .one (.undef), .one (.undef)], [((0, 0), some (.cell (.vec false .place m0_0))), ((0, 1), some (.cell (.vec false .road m0_1)))], 1⟩).den
noncomputable def h20 (fl : Nat) (l : List Int) (road by' : Int) : Option (AV × List Ob) := (evalF (env2 l20) Try.f20 k20 fl [.one (.vec false .u8 l), .one (.int .i64 road), .one (.int .u8 by')] []).den
theorem h20_eq (fl : Nat) (l : List Int) (road by' : Int) : h20 (fl + 1) l road by' =
    (o62 l).bind fun x2 =>
    if ((↑x2.S.length : Int) == 0) = true then some (.one (.bool true), [])
      else if (decide ((0 : Nat) + (x2.S).length ≤ lim)) = true then if (idx ([] ++ x2.S).length (modz road (↑x2.S.length : Int))) = true then if (idx ([] ++ x2.S).length (modz road (↑x2.S.length : Int))) = true then if (idx ([] ++ x2.S).length (modz road (↑x2.S.length : Int))) = true then if (idx (([] ++ x2.S).set (modz road (↑x2.S.length : Int)).toNat { lo := IntKind.i64.wrap ((([] ++ x2.S).getD (modz road (↑x2.S.length : Int)).toNat (dflt K.span)).lo - IntKind.i64.wrap by'), hi := (([] ++ x2.S).getD (modz road (↑x2.S.length : Int)).toNat (dflt K.span)).hi : Span }).length (modz road (↑x2.S.length : Int))) = true then if (decide (x2.P.length ≤ lim) && decide (x2.R.length ≤ lim)) = true then if (idx x2.R.length (modz road (↑x2.S.length : Int))) = true then (o65 false x2.P false x2.R false x2.S).bind fun x11 =>
                      (o65 false x2.P false x2.R true ((([] ++ x2.S).set (modz road (↑x2.S.length : Int)).toNat { lo := IntKind.i64.wrap ((([] ++ x2.S).getD (modz road (↑x2.S.length : Int)).toNat (dflt K.span)).lo - IntKind.i64.wrap by'), hi := (([] ++ x2.S).getD (modz road (↑x2.S.length : Int)).toNat (dflt K.span)).hi : Span }).set (modz road (↑x2.S.length : Int)).toNat { lo := ((([] ++ x2.S).set (modz road (↑x2.S.length : Int)).toNat { lo := IntKind.i64.wrap ((([] ++ x2.S).getD (modz road (↑x2.S.length : Int)).toNat (dflt K.span)).lo - IntKind.i64.wrap by'), hi := (([] ++ x2.S).getD (modz road (↑x2.S.length : Int)).toNat (dflt K.span)).hi : Span }).getD (modz road (↑x2.S.length : Int)).toNat (dflt K.span)).lo, hi := IntKind.i64.wrap ((([] ++ x2.S).getD (modz road (↑x2.S.length : Int)).toNat (dflt K.span)).hi + IntKind.i64.wrap by') : Span })).bind fun x12 =>
                        (o65 true x2.P true (x2.R.set (modz road (↑x2.S.length : Int)).toNat { frm := (x2.R.getD (modz road (↑x2.S.length : Int)).toNat (dflt K.road)).frm, to := (x2.R.getD (modz road (↑x2.S.length : Int)).toNat (dflt K.road)).to, len := (x2.R.getD (modz road (↑x2.S.length : Int)).toNat (dflt K.road)).len, area := (x2.R.getD (modz road (↑x2.S.length : Int)).toNat (dflt K.road)).area, walk := (x2.R.getD (modz road (↑x2.S.length : Int)).toNat (dflt K.road)).walk, closed := true, restLo := (x2.R.getD (modz road (↑x2.S.length : Int)).toNat (dflt K.road)).restLo, restHi := (x2.R.getD (modz road (↑x2.S.length : Int)).toNat (dflt K.road)).restHi, liftLo := (x2.R.getD (modz road (↑x2.S.length : Int)).toNat (dflt K.road)).liftLo, liftHi := (x2.R.getD (modz road (↑x2.S.length : Int)).toNat (dflt K.road)).liftHi : Road }) false x2.S).bind fun x13 =>
                          h20_0 fl x2.S (modz road (↑x2.S.length : Int)) x11 x12 x13 ((↑x11.length : Int)) 0 x2.P x2.R ((([] ++ x2.S).set (modz road (↑x2.S.length : Int)).toNat { lo := IntKind.i64.wrap ((([] ++ x2.S).getD (modz road (↑x2.S.length : Int)).toNat (dflt K.span)).lo - IntKind.i64.wrap by'), hi := (([] ++ x2.S).getD (modz road (↑x2.S.length : Int)).toNat (dflt K.span)).hi : Span }).set (modz road (↑x2.S.length : Int)).toNat { lo := ((([] ++ x2.S).set (modz road (↑x2.S.length : Int)).toNat { lo := IntKind.i64.wrap ((([] ++ x2.S).getD (modz road (↑x2.S.length : Int)).toNat (dflt K.span)).lo - IntKind.i64.wrap by'), hi := (([] ++ x2.S).getD (modz road (↑x2.S.length : Int)).toNat (dflt K.span)).hi : Span }).getD (modz road (↑x2.S.length : Int)).toNat (dflt K.span)).lo, hi := IntKind.i64.wrap ((([] ++ x2.S).getD (modz road (↑x2.S.length : Int)).toNat (dflt K.span)).hi + IntKind.i64.wrap by') : Span })
                    else none
                  else none
                else none
              else none
            else none
          else none
        else none := by kernel_rfl
theorem h20_0_eq (fl : Nat) (t8 : List Span) (t12 : Int) (t14 : List Int) (t15 : List Int) (t16 : List Int) (t81 : Int) (t82 : Int) (m0_0 : List Place) (m0_1 : List Road) (m1 : List Span) : h20_0 (fl + 1) t8 t12 t14 t15 t16 t81 t82 m0_0 m0_1 m1 =
    if (decide (t82 < t81)) = true then if (idx t14.length t82) = true then (o69 t15 (t14.getD t82.toNat (dflt K.int))).bind fun x4 =>
        if (!x4) = true then some (.one (.bool false), [])
          else h20_0 fl t8 t12 t14 t15 t16 t81 (IntKind.i64.wrap (t82 + 1)) m0_0 m0_1 m1
      else none
    else h20_1 fl t8 t12 t14 t16 ((↑t16.length : Int)) 0 m0_0 m0_1 m1 := by kernel_rfl
theorem h20_1_eq (fl : Nat) (t8 : List Span) (t12 : Int) (t14 : List Int) (t16 : List Int) (t94 : Int) (t95 : Int) (m0_0 : List Place) (m0_1 : List Road) (m1 : List Span) : h20_1 (fl + 1) t8 t12 t14 t16 t94 t95 m0_0 m0_1 m1 =
    if (decide (t95 < t94)) = true then if (idx t16.length t95) = true then (o69 t14 (t16.getD t95.toNat (dflt K.int))).bind fun x4 =>
        if (!x4) = true then some (.one (.bool false), [])
          else if (idx t16.length t95) = true then if (t16.getD t95.toNat (dflt K.int) == t12) = true then some (.one (.bool false), [])
              else h20_1 fl t8 t12 t14 t16 t94 (IntKind.i64.wrap (t95 + 1)) m0_0 m0_1 m1
            else none
      else none
    else (o71 false m0_0 false m0_1 false t8).bind fun x3 =>
      (o71 false m0_0 false m0_1 true m1).bind fun x4 =>
        h20_2 fl x3 x4 ((↑x3.length : Int)) 0 m0_0 m0_1 := by kernel_rfl
theorem h20_2_eq (fl : Nat) (t19 : List Int) (t20 : List Int) (t121 : Int) (t122 : Int) (m0_0 : List Place) (m0_1 : List Road) : h20_2 (fl + 1) t19 t20 t121 t122 m0_0 m0_1 =
    if (decide (t122 < t121)) = true then if (idx t19.length t122) = true then (o69 t20 (t19.getD t122.toNat (dflt K.int))).bind fun x4 =>
        if (!x4) = true then some (.one (.bool false), [])
          else if (idx t19.length t122) = true then if (idx m0_0.length (t19.getD t122.toNat (dflt K.int))) = true then if ((m0_0.getD (Int.toNat (t19.getD t122.toNat (dflt K.int))) (dflt K.place)).surface) = true then some (.one (.bool false), [])
                else h20_2 fl t19 t20 t121 (IntKind.i64.wrap (t122 + 1)) m0_0 m0_1
              else none
            else none
      else none
    else some (.one (.bool true), []) := by kernel_rfl
theorem loop20_2 (A B : List Int) (hB : B.length ≤ 1000) (P : List Place) (R : List Road) (h : ∀ x ∈ A, x ∈ B ∧ ∃ j : Nat, j < P.length ∧ surf P j = false ∧ x = j) (hA : A.length ≤ 1000) : ∀ (d fl k : Nat), A.length - k = d → k ≤ A.length → d < fl → h20_2 fl A B A.length k P R = some (.one (.bool true), [])
  | d, fl, k, hd, hk, hf => by
    obtain ⟨fl, rfl⟩ : ∃ q, fl = q + 1 := ⟨fl - 1, by omega⟩
    rw [h20_2_eq]
    by_cases hlt : k < A.length
    · obtain ⟨g1, j, g2, g3, g4⟩ := h _ (List.getElem_mem hlt)
      have hp0 : dflt K.place = place0 := rfl
      rw [if_pos (lt_nat hlt), if_pos (idx_nat hlt), at_lt hlt, has_eq _ _ hB, Option.bind_some, if_neg (by simpa using g1), if_pos (idx_nat hlt), g4, if_pos (idx_nat g2), Int.toNat_natCast, hp0, if_neg (show ¬ (P.getD j place0).surface = true from fun e => by rw [show (P.getD j place0).surface = surf P j from rfl, g3] at e; cases e), wr_succ (by omega)]
      cases d with
      | zero => omega
      | succ d => exact loop20_2 A B hB P R h hA d fl (k + 1) (by omega) (by omega) (by omega)
    · rw [if_neg (nlt_nat hlt)]
theorem loop20_1 (f : List Span) (w : Nat) (A Z : List Int) (hA : A.length ≤ 1000) (hZ : Z.length ≤ 1000) (P : List Place) (hP : P.length ≤ 64) (R : List Road) (W : List Span) (h : ∀ x ∈ Z, x ∈ A ∧ x ≠ w) (hm : ∀ x ∈ mixM P R f, x ∈ mixM P R W) : ∀ (d fl k : Nat), Z.length - k = d → k ≤ Z.length → d + 100 < fl → h20_1 fl f w A Z Z.length k P R W = some (.one (.bool true), [])
  | d, fl, k, hd, hk, hf => by
    obtain ⟨fl, rfl⟩ : ∃ q, fl = q + 1 := ⟨fl - 1, by omega⟩
    rw [h20_1_eq]
    by_cases hlt : k < Z.length
    · have g := h _ (List.getElem_mem hlt)
      rw [if_pos (lt_nat hlt), if_pos (idx_nat hlt), at_lt hlt, has_eq _ _ hA, Option.bind_some, if_neg (by simpa using g.1), if_pos (idx_nat hlt), if_neg (by simpa using g.2), wr_succ (by omega)]
      cases d with
      | zero => omega
      | succ d => exact loop20_1 f w A Z hA hZ P hP R W h hm d fl (k + 1) (by omega) (by omega) (by omega)
    · have l1 := mixM_len P R f
      have l2 := mixM_len P R W
      rw [if_neg (nlt_nat hlt), mixed_eq, Option.bind_some, mixed_eq, Option.bind_some]
      exact loop20_2 (mixM P R f) (mixM P R W) (by omega) P R (fun x hx => ⟨hm x hx, by
        obtain ⟨_, j, h1, h2, h3⟩ := mem_mixM.1 hx
        exact ⟨j, h1, mix_below h2, h3⟩⟩) (by omega) (mixM P R f).length fl 0 (by omega) (by omega) (by omega)
theorem loop20_0 (f : List Span) (w : Nat) (A B Z : List Int) (hA : A.length ≤ 1000) (hB : B.length ≤ 1000) (hZ : Z.length ≤ 1000) (P : List Place) (hP : P.length ≤ 64) (R : List Road) (W : List Span) (hAB : ∀ x ∈ A, x ∈ B) (h : ∀ x ∈ Z, x ∈ A ∧ x ≠ w) (hm : ∀ x ∈ mixM P R f, x ∈ mixM P R W) : ∀ (d fl k : Nat), A.length - k = d → k ≤ A.length → d + Z.length + 200 < fl → h20_0 fl f w A B Z A.length k P R W = some (.one (.bool true), [])
  | d, fl, k, hd, hk, hf => by
    obtain ⟨fl, rfl⟩ : ∃ q, fl = q + 1 := ⟨fl - 1, by omega⟩
    rw [h20_0_eq]
    by_cases hlt : k < A.length
    · have g := hAB _ (List.getElem_mem hlt)
      rw [if_pos (lt_nat hlt), if_pos (idx_nat hlt), at_lt hlt, has_eq _ _ hB, Option.bind_some, if_neg (by simpa using g), wr_succ (by omega)]
      cases d with
      | zero => omega
      | succ d => exact loop20_0 f w A B Z hA hB hZ P hP R W hAB h hm d fl (k + 1) (by omega) (by omega) (by omega)
    · rw [if_neg (nlt_nat hlt)]
      exact loop20_1 f w A Z hA hZ P hP R W h hm Z.length fl 0 (by omega) (by omega) (by omega)
theorem v20 (l : List Int) (road by' : Int) (h : l.all u8B = true) (hb : u8B by' = true) : h20 10000 l road by' = some (.one (.bool true), []) := by
  obtain ⟨x, hx, hbx⟩ := airs_ok h
  have hP : x.P.length ≤ 64 := (checkM_roads hbx.mine.check).1
  have hm : x.R.length ≤ 9 := hbx.mine.m
  have hs := hbx.slen
  rw [u8B_iff] at hb
  rw [h20_eq, hx, Option.bind_some]
  by_cases c : x.S.length = 0
  · rw [if_pos (by simp [c])]
  have hk := modz_range (k := road) (n := x.S.length) (by omega) (by omega)
  obtain ⟨j, hj⟩ : ∃ j : Nat, modz road x.S.length = j := ⟨(modz road x.S.length).toNat, by omega⟩
  rw [hj] at hk
  have hjl : j < x.S.length := by omega
  have hjr : j < x.R.length := by omega
  have e0 : dflt K.span = (⟨0, 0⟩ : Span) := rfl
  have e1 : dflt K.road = road0 := rfl
  have eb : IntKind.i64.wrap by' = by' := wid (by omega) (by omega)
  have hn := hbx.near j hjr
  have hf := hbx.flow j hjr
  obtain ⟨n1, n2, n3, n4⟩ := hn
  simp only [hj, List.nil_append, Int.toNat_natCast, List.length_set, e0, e1, eb, getD_set_eq hjl, List.set_set]
  rw [wid (n := (x.S.getD j ⟨0, 0⟩).lo - by') (by omega) (by omega), wid (n := (x.S.getD j ⟨0, 0⟩).hi + by') (by omega) (by omega)]
  have sh : x.R.set j { frm := (x.R.getD j road0).frm, to := (x.R.getD j road0).to, len := (x.R.getD j road0).len, area := (x.R.getD j road0).area, walk := (x.R.getD j road0).walk, closed := true, restLo := (x.R.getD j road0).restLo, restHi := (x.R.getD j road0).restHi, liftLo := (x.R.getD j road0).liftLo, liftHi := (x.R.getD j road0).liftHi : Road } = x.R.set j (shutR (x.R.getD j road0)) := rfl
  rw [sh]
  have r0 : rightM x.P x.R x.S = true := rightM_iff.2 ⟨hbx.mine.check, hs⟩
  have sw := sub_wide x.R x.S hjl (lo := (x.S.getD j ⟨0, 0⟩).lo - by') (hi := (x.S.getD j ⟨0, 0⟩).hi + by') (by omega) (by omega)
  have r1 : rightM x.P x.R (x.S.set j ⟨(x.S.getD j ⟨0, 0⟩).lo - by', (x.S.getD j ⟨0, 0⟩).hi + by'⟩) = true := rightM_iff.2 ⟨hbx.mine.check, by simpa using hs⟩
  generalize x.S.set j (⟨(x.S.getD j ⟨0, 0⟩).lo - by', (x.S.getD j ⟨0, 0⟩).hi + by'⟩ : Span) = W at *
  have ss := sub_shut x.R x.S hjr
  have sc := shut_can x.R x.S hjr
  rw [if_neg (by simpa using c), if_pos (by simp [lim]; omega), if_pos (idx_nat hjl), if_pos (idx_nat hjl), if_pos (idx_nat hjl), if_pos (idx_nat hjl), if_pos (by rw [Bool.and_eq_true]; exact ⟨decide_eq_true (by unfold lim; omega), decide_eq_true (by unfold lim; omega)⟩), if_pos (idx_nat hjr), circles_eq _ _ _ _ _ _ hP, Option.bind_some, circles_eq _ _ _ _ _ _ hP, Option.bind_some, circles_eq _ _ _ _ _ _ hP, Option.bind_some]
  generalize x.R.set j (shutR (x.R.getD j road0)) = R' at *
  have l1 := circM_len x.P x.R x.S
  have l2 := circM_len x.P x.R W
  have l3 := circM_len x.P R' x.S
  have l4 := hm
  refine loop20_0 x.S j (circM x.P x.R x.S) (circM x.P x.R W) (circM x.P R' x.S) (by omega) (by omega) (by omega) x.P hP x.R W (fun y hy => sw.circ r1 hy) (fun y hy => ⟨ss.circ r0 hy, fun e => ?_⟩) (fun y hy => sw.mixs r1 hy) (circM x.P x.R x.S).length 9999 0 (by omega) (by omega) (by omega)
  obtain ⟨_, i, h1, h2, h3⟩ := mem_circM.1 hy
  obtain ⟨d, h4, _⟩ := h2
  have : i = j := by omega
  subst this
  rw [sc d] at h4
  cases h4
def s20 : Spec := ⟨false, fun av ob => match av, ob with
  | [.one (.vec false .u8 l), .one (.int .i64 road), .one (.int .u8 by')], [] => .need (l.all u8B && (i64B road && (u8B by'))) (.ret (.one (.bool true), []))
  | _, _ => .fail⟩
theorem p20 : SpecOK Try.prog 20 s20 := by
  refine specOK_of (env2_ok (l := l20) ⟨⟨pc62, f62⟩, ⟨⟨p67, f67⟩, ⟨⟨p27, f27⟩, ⟨⟨p70, f70⟩, ⟨⟨pc65, f65⟩, ⟨⟨pc69, f69⟩, ⟨⟨pc71, f71⟩, trivial⟩⟩⟩⟩⟩⟩⟩) mixed_ok Try.func20 k20 fun av ob r os hrn => ?_
  simp only [s20] at hrn
  split at hrn
  · rename_i l road by'
    obtain ⟨hg, hrn⟩ := need_den hrn
    cases hrn
    simp only [Bool.and_eq_true] at hg
    obtain ⟨q1, q2, q3⟩ := hg
    have hv := v20 l road by' q1 q3
    unfold h20 at hv
    exact ⟨10000, hv⟩
  · cases hrn
theorem law20 (av : List AV) (h : AVs [RBytes, RInt, RU8] av) : (s20.run av []).den = some (.one (.bool true), []) := by
  obtain ⟨_, _, rfl, ⟨l, rfl, q1⟩, k1⟩ := h.cons
  obtain ⟨_, _, rfl, ⟨road, rfl, q2⟩, k2⟩ := k1.cons
  obtain ⟨_, _, rfl, ⟨by', rfl, q3⟩, k3⟩ := k2.cons
  rw [k3.nil]
  refine den_need ?_
  simp only [Bool.and_eq_true]
  exact ⟨q1, q2, q3⟩
end Go.Proofs.Ytipfipnhgpbceaa.Sx
