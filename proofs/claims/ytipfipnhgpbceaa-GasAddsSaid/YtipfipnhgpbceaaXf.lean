/- Plain theorems and definitions for the claim, put together out of several texts. -/
import Derived.Test.YtipfipnhgpbceaaXe
import Derived.Test.YtipfipnhgpbceaaXd
/- Sources of gas: their check, directions, several lists compared (plain theorems). -/

set_option linter.unusedVariables false
set_option linter.unusedSimpArgs false
set_option maxRecDepth 100000
namespace Go.Proofs.Ytipfipnhgpbceaa.Sx
open Go Go.RowKit
def source0 : Source := ⟨0, 0, 0⟩
def srcErr (m : Int) : List Source → Int
  | [] => 0
  | s :: l => if s.road < 0 then 4 else if s.road ≥ m then 4 else if s.lo < 0 then 1 else if s.lo > s.hi then 1 else if s.hi > 1099511627776 then 1 else srcErr m l
def checkG (P : List Place) (R : List Road) (L : List Source) : Int := if checkM P R ≠ 0 then checkM P R else if L.length > 32 then 2 else srcErr R.length L
noncomputable def l76 : List (FuncId × Spec) := [(105, s105)]
def k76 : Code → Keep := keepOf [(7, ⟨[2, 16, 17, 18], [], []⟩)]
noncomputable def h76_0 (fl : Nat) (t16b : Bool) (t16 : List Source) (t17 : Int) (t18 : Int) (m0_0b : Bool) (m0_0 : List Place) (m0_1b : Bool) (m0_1 : List Road) : Option (AV × List Ob) := (evalH (env l76) Try.f76 k76 0 fl (stkF Try.f76 [1, 1, 1, 0, 1, 0]) ⟨[.one (.undef), .one (.undef), .one (.ptr 0 0), .one (.undef), .one (.undef), .one (.undef), .one (.undef), .one (.undef), .one (.undef), .one (.undef), .one (.undef), .one (.undef), .one (.undef), .one (.undef), .one (.undef), .one (.undef), .one (.vec t16b .source t16), .one (.int .i64 t17), .one (.int .i64 t18), .one (.undef), .one (.undef), .one (.undef), .one (.undef), .one (.undef), .one (.undef), .one (.undef), .one (.undef), .one (.undef), .one (.undef), .one (.undef), .one (.undef), .one (.undef), .one (.undef), .one (.undef), .one (.undef), .one (.undef), .one (.undef), .one (.undef), .one (.undef), .one (.undef), .one (.undef), .one (.undef), .one (.undef), .one (.undef), .one (.undef), .one (.undef), .one (.undef), .one (.undef), .one (.undef), .one (.undef), .one (.undef), .one (.undef), .one (.undef)], [((0, 0), some (.cell (.vec m0_0b .place m0_0))), ((0, 1), some (.cell (.vec m0_1b .road m0_1)))], 1⟩).den
noncomputable def h76 (fl : Nat) (b1 : Bool) (P : List Place) (b2 : Bool) (R : List Road) (b3 : Bool) (L : List Source) : Option (AV × List Ob) := (evalF (env l76) Try.f76 k76 fl [.agg [.vec b1 .place P, .vec b2 .road R], .one (.vec b3 .source L)] []).den
theorem h76_eq (fl : Nat) (b1 : Bool) (P : List Place) (b2 : Bool) (R : List Road) (b3 : Bool) (L : List Source) : h76 (fl + 1) b1 P b2 R b3 L =
    if (checkM P R != 0) = true then some (.one (.int .i64 (checkM P R)), [])
    else if (decide ((↑L.length : Int) > 32)) = true then some (.one (.int .i64 2), [])
      else h76_0 fl b3 L ((↑L.length : Int)) 0 b1 P b2 R := by kernel_rfl
theorem h76_0_eq (fl : Nat) (t16b : Bool) (t16 : List Source) (t17 : Int) (t18 : Int) (m0_0b : Bool) (m0_0 : List Place) (m0_1b : Bool) (m0_1 : List Road) : h76_0 (fl + 1) t16b t16 t17 t18 m0_0b m0_0 m0_1b m0_1 =
    if (decide (t18 < t17)) = true then if (idx t16.length t18) = true then if (decide ((t16.getD t18.toNat (dflt K.source)).road < 0)) = true then some (.one (.int .i64 4), [])
        else if (decide ((t16.getD t18.toNat (dflt K.source)).road ≥ (↑m0_1.length : Int))) = true then some (.one (.int .i64 4), [])
          else if (decide ((t16.getD t18.toNat (dflt K.source)).lo < 0)) = true then some (.one (.int .i64 1), [])
            else if (decide ((t16.getD t18.toNat (dflt K.source)).lo > (t16.getD t18.toNat (dflt K.source)).hi)) = true then some (.one (.int .i64 1), [])
              else if (decide ((t16.getD t18.toNat (dflt K.source)).hi > 1099511627776)) = true then some (.one (.int .i64 1), [])
                else h76_0 fl t16b t16 t17 (IntKind.i64.wrap (t18 + 1)) m0_0b m0_0 m0_1b m0_1
      else none
    else some (.one (.int .i64 0), []) := by kernel_rfl
def s76 : Spec := ⟨false, fun av ob => match av, ob with
  | [.agg [.vec b1 .place P, .vec b2 .road R], .one (.vec b3 .source L)], [] => .ret (.one (.int .i64 (checkG P R L)), [])
  | _, _ => .fail⟩
theorem v76_0 (b1 b2 b3 : Bool) (P : List Place) (R : List Road) (L : List Source) (hL : L.length ≤ 32) : ∀ (d fl i : Nat), L.length - i = d → i ≤ L.length → d < fl → h76_0 fl b3 L L.length i b1 P b2 R = some (.one (.int .i64 (srcErr R.length (L.drop i))), [])
  | d, fl, i, hd, hi, hf => by
    obtain ⟨fl, rfl⟩ : ∃ q, fl = q + 1 := ⟨fl - 1, by omega⟩
    rw [h76_0_eq]
    by_cases hlt : i < L.length
    · rw [if_pos (lt_nat hlt), if_pos (idx_nat hlt), at_lt hlt, wr_succ (by omega), List.drop_eq_getElem_cons hlt, srcErr]
      cases d with
      | zero => omega
      | succ d =>
        rw [v76_0 b1 b2 b3 P R L hL d fl (i + 1) (by omega) (by omega) (by omega)]
        simp only [decide_eq_true_eq]
        repeat' split
        all_goals first | rfl | omega
    · rw [if_neg (nlt_nat hlt), List.drop_eq_nil_of_le (by omega)]
      rfl
theorem v76 (b1 : Bool) (P : List Place) (b2 : Bool) (R : List Road) (b3 : Bool) (L : List Source) : h76 100 b1 P b2 R b3 L = some (.one (.int .i64 (checkG P R L)), []) := by
  rw [h76_eq]
  unfold checkG
  by_cases c : checkM P R = 0
  · rw [if_neg (show ¬ (checkM P R != 0) = true by simp [c]), if_neg (show ¬ checkM P R ≠ 0 by simp [c])]
    by_cases c2 : L.length > 32
    · rw [if_pos (show decide ((L.length : Int) > 32) = true by simp; omega), if_pos c2]
    · have e := v76_0 b1 b2 b3 P R L (by omega) L.length 99 0 (by omega) (by omega) (by omega)
      rw [List.drop_zero] at e
      rw [if_neg (show ¬ decide ((L.length : Int) > 32) = true by simp; omega), if_neg c2]
      exact e
  · rw [if_pos (by simpa using c), if_pos c]
theorem p76 : SpecOK Try.prog 76 s76 := by
  refine specOK_of (env_ok (l := l76) ⟨⟨p105, f105⟩, trivial⟩) mixed_ok Try.func76 k76 fun av ob r os hrn => ?_
  simp only [s76] at hrn
  split at hrn
  · rename_i b1 P b2 R b3 L
    cases hrn
    have hv := v76 b1 P b2 R b3 L
    unfold h76 at hv
    exact ⟨100, hv⟩
  · cases hrn
theorem f76 : FnOK Try.prog 76 := fnOK_of Try.func76 rfl (by kernel_rfl)
noncomputable def l77 : List (FuncId × Spec) := [(106, s106), (107, s107)]
def k77 : Code → Keep := keepOf [(7, ⟨[1, 2, 6], [], []⟩)]
noncomputable def h77_0 (fl : Nat) (t1b : Bool) (t1 : List Source) (t6 : Int) (m0_0b : Bool) (m0_0 : List Place) (m0_1b : Bool) (m0_1 : List Road) : Option (AV × List Ob) := (evalH (env l77) Try.f77 k77 0 fl (stkF Try.f77 [1, 1, 1, 0, 1, 0]) ⟨[.one (.undef), .one (.vec t1b .source t1), .one (.ptr 0 0), .one (.undef), .one (.undef), .one (.undef), .one (.int .i64 t6), .one (.undef), .one (.undef), .one (.undef), .one (.undef), .one (.undef), .one (.undef), .one (.undef), .one (.undef), .one (.undef), .one (.undef), .one (.undef), .one (.undef), .one (.undef), .one (.undef), .one (.undef), .one (.undef), .one (.undef), .one (.undef), .one (.undef), .one (.undef), .one (.undef), .one (.undef), .one (.undef), .one (.undef), .one (.undef), .one (.undef), .one (.undef), .one (.undef), .one (.undef), .one (.undef), .one (.undef), .one (.undef), .one (.undef), .one (.undef), .one (.undef), .one (.undef), .one (.undef), .one (.undef)], [((0, 0), some (.cell (.vec m0_0b .place m0_0))), ((0, 1), some (.cell (.vec m0_1b .road m0_1)))], 1⟩).den
noncomputable def h77 (fl : Nat) (b1 : Bool) (P : List Place) (b2 : Bool) (R : List Road) (b3 : Bool) (L : List Source) : Option (AV × List Ob) := (evalF (env l77) Try.f77 k77 fl [.agg [.vec b1 .place P, .vec b2 .road R], .one (.vec b3 .source L)] []).den
theorem h77_eq (fl : Nat) (b1 : Bool) (P : List Place) (b2 : Bool) (R : List Road) (b3 : Bool) (L : List Source) : h77 (fl + 1) b1 P b2 R b3 L =
    if (checkM P R != 0) = true then some (.one (.int .i64 (checkM P R)), [])
    else if (decide ((↑L.length : Int) > 32)) = true then some (.one (.int .i64 2), [])
      else h77_0 fl b3 L 0 b1 P b2 R := by kernel_rfl
theorem h77_0_eq (fl : Nat) (t1b : Bool) (t1 : List Source) (t6 : Int) (m0_0b : Bool) (m0_0 : List Place) (m0_1b : Bool) (m0_1 : List Road) : h77_0 (fl + 1) t1b t1 t6 m0_0b m0_0 m0_1b m0_1 =
    if (decide (t6 < (↑t1.length : Int))) = true then if (idx t1.length t6) = true then if (decide ((t1.getD t6.toNat (dflt K.source)).road < 0)) = true then some (.one (.int .i64 4), [])
        else if (idx t1.length t6) = true then if (decide ((t1.getD t6.toNat (dflt K.source)).road ≥ (↑m0_1.length : Int))) = true then some (.one (.int .i64 4), [])
            else if (idx t1.length t6) = true then if (!spanIn (t1.getD t6.toNat (dflt K.source)).lo (t1.getD t6.toNat (dflt K.source)).hi 0 1099511627776) = true then some (.one (.int .i64 1), [])
                else h77_0 fl t1b t1 (IntKind.i64.wrap (t6 + 1)) m0_0b m0_0 m0_1b m0_1
              else none
          else none
      else none
    else some (.one (.int .i64 0), []) := by kernel_rfl
def s77 : Spec := ⟨false, fun av ob => match av, ob with
  | [.agg [.vec b1 .place P, .vec b2 .road R], .one (.vec b3 .source L)], [] => .ret (.one (.int .i64 (checkG P R L)), [])
  | _, _ => .fail⟩
theorem v77_0 (b1 b2 b3 : Bool) (P : List Place) (R : List Road) (L : List Source) (hL : L.length ≤ 32) : ∀ (d fl i : Nat), L.length - i = d → i ≤ L.length → d < fl → h77_0 fl b3 L i b1 P b2 R = some (.one (.int .i64 (srcErr R.length (L.drop i))), [])
  | d, fl, i, hd, hi, hf => by
    obtain ⟨fl, rfl⟩ : ∃ q, fl = q + 1 := ⟨fl - 1, by omega⟩
    rw [h77_0_eq]
    by_cases hlt : i < L.length
    · rw [if_pos (lt_nat hlt), if_pos (idx_nat hlt), if_pos (idx_nat hlt), if_pos (idx_nat hlt), at_lt hlt, wr_succ (by omega), List.drop_eq_getElem_cons hlt, srcErr]
      cases d with
      | zero => omega
      | succ d =>
        rw [v77_0 b1 b2 b3 P R L hL d fl (i + 1) (by omega) (by omega) (by omega)]
        simp only [decide_eq_true_eq, spanIn, Bool.not_eq_true', Bool.and_eq_false_iff, decide_eq_false_iff_not]
        repeat' split
        all_goals first | rfl | omega
    · rw [if_neg (nlt_nat hlt), List.drop_eq_nil_of_le (by omega)]
      rfl
theorem v77 (b1 : Bool) (P : List Place) (b2 : Bool) (R : List Road) (b3 : Bool) (L : List Source) : h77 100 b1 P b2 R b3 L = some (.one (.int .i64 (checkG P R L)), []) := by
  rw [h77_eq]
  unfold checkG
  by_cases c : checkM P R = 0
  · rw [if_neg (show ¬ (checkM P R != 0) = true by simp [c]), if_neg (show ¬ checkM P R ≠ 0 by simp [c])]
    by_cases c2 : L.length > 32
    · rw [if_pos (show decide ((L.length : Int) > 32) = true by simp; omega), if_pos c2]
    · have e := v77_0 b1 b2 b3 P R L (by omega) L.length 99 0 (by omega) (by omega) (by omega)
      rw [List.drop_zero] at e
      rw [if_neg (show ¬ decide ((L.length : Int) > 32) = true by simp; omega), if_neg c2]
      exact e
  · rw [if_pos (by simpa using c), if_pos c]
theorem p77 : SpecOK Try.prog 77 s77 := by
  refine specOK_of (env_ok (l := l77) ⟨⟨p106, f106⟩, ⟨⟨p107, f107⟩, trivial⟩⟩) mixed_ok Try.func77 k77 fun av ob r os hrn => ?_
  simp only [s77] at hrn
  split at hrn
  · rename_i b1 P b2 R b3 L
    cases hrn
    have hv := v77 b1 P b2 R b3 L
    unfold h77 at hv
    exact ⟨100, hv⟩
  · cases hrn
theorem f77 : FnOK Try.prog 77 := fnOK_of Try.func77 rfl (by kernel_rfl)
def dirM (a b : Int) : Int := if a > b then 0 else if a > 0 then 1 else if b < 0 then -1 else 0
noncomputable def l119 : List (FuncId × Spec) := []
def k119 : Code → Keep := keepOf []
noncomputable def h119 (fl : Nat) (a b : Int) : Option (AV × List Ob) := (evalF (env l119) Try.f119 k119 fl [.agg [.int .i64 a, .int .i64 b]] []).den
theorem h119_eq (fl : Nat) (a b : Int) : h119 (fl + 1) a b =
    if (decide (a > b)) = true then some (.one (.int .i64 0), [])
    else if (decide (a > 0)) = true then some (.one (.int .i64 1), [])
      else if (decide (b < 0)) = true then some (.one (.int .i64 (-1)), [])
        else some (.one (.int .i64 0), []) := by kernel_rfl
def s119 : Spec := ⟨false, fun av ob => match av, ob with
  | [.agg [.int .i64 a, .int .i64 b]], [] => .ret (.one (.int .i64 (dirM a b)), [])
  | _, _ => .fail⟩
theorem v119 (a b : Int) : h119 1 a b = some (.one (.int .i64 (dirM a b)), []) := by
  rw [h119_eq]
  unfold dirM
  simp only [decide_eq_true_eq]
  repeat' split
  all_goals rfl
theorem p119 : SpecOK Try.prog 119 s119 := by
  refine specOK_of (env_ok (l := l119) trivial) mixed_ok Try.func119 k119 fun av ob r os hrn => ?_
  simp only [s119] at hrn
  split at hrn
  · rename_i a b
    cases hrn
    have hv := v119 a b
    unfold h119 at hv
    exact ⟨1, hv⟩
  · cases hrn
theorem f119 : FnOK Try.prog 119 := fnOK_of Try.func119 rfl (by kernel_rfl)
noncomputable def l134 : List (FuncId × Spec) := []
def k134 : Code → Keep := keepOf []
noncomputable def h134 (fl : Nat) (a b : Int) : Option (AV × List Ob) := (evalF (env l134) Try.f134 k134 fl [.agg [.int .i64 a, .int .i64 b]] []).den
theorem h134_eq (fl : Nat) (a b : Int) : h134 (fl + 1) a b =
    if (decide (a > b)) = true then some (.one (.int .i64 0), [])
    else if (decide (a > 0)) = true then some (.one (.int .i64 1), [])
      else if (decide (b < 0)) = true then some (.one (.int .i64 (-1)), [])
        else some (.one (.int .i64 0), []) := by kernel_rfl
def s134 : Spec := ⟨false, fun av ob => match av, ob with
  | [.agg [.int .i64 a, .int .i64 b]], [] => .ret (.one (.int .i64 (dirM a b)), [])
  | _, _ => .fail⟩
theorem v134 (a b : Int) : h134 1 a b = some (.one (.int .i64 (dirM a b)), []) := by
  rw [h134_eq]
  unfold dirM
  simp only [decide_eq_true_eq]
  repeat' split
  all_goals rfl
theorem p134 : SpecOK Try.prog 134 s134 := by
  refine specOK_of (env_ok (l := l134) trivial) mixed_ok Try.func134 k134 fun av ob r os hrn => ?_
  simp only [s134] at hrn
  split at hrn
  · rename_i a b
    cases hrn
    have hv := v134 a b
    unfold h134 at hv
    exact ⟨1, hv⟩
  · cases hrn
theorem f134 : FnOK Try.prog 134 := fnOK_of Try.func134 rfl (by kernel_rfl)
noncomputable def l79 : List (FuncId × Spec) := []
def k79 : Code → Keep := keepOf [(4, ⟨[0, 1, 5], [], []⟩)]
noncomputable def h79_0 (fl : Nat) (t0b : Bool) (t0 : List Span) (t1b : Bool) (t1 : List Span) (t5 : Int) : Option (AV × List Ob) := (evalH (env l79) Try.f79 k79 0 fl (stkF Try.f79 [1, 1, 0, 1, 0]) ⟨[.one (.vec t0b .span t0), .one (.vec t1b .span t1), .one (.undef), .one (.undef), .one (.undef), .one (.int .i64 t5), .one (.undef), .one (.undef), .one (.undef), .one (.undef), .one (.undef), .one (.undef), .one (.undef), .one (.undef), .one (.undef), .one (.undef), .one (.undef), .one (.undef), .one (.undef), .one (.undef), .one (.undef), .one (.undef), .one (.undef), .one (.undef), .one (.undef), .one (.undef)], [], 0⟩).den
noncomputable def h79 (fl : Nat) (b1 : Bool) (s : List Span) (b2 : Bool) (t : List Span) : Option (AV × List Ob) := (evalF (env l79) Try.f79 k79 fl [.one (.vec b1 .span s), .one (.vec b2 .span t)] []).den
theorem h79_eq (fl : Nat) (b1 : Bool) (s : List Span) (b2 : Bool) (t : List Span) : h79 (fl + 1) b1 s b2 t =
    if ((↑s.length : Int) != (↑t.length : Int)) = true then some (.one (.bool false), [])
    else h79_0 fl b1 s b2 t 0 := by kernel_rfl
theorem h79_0_eq (fl : Nat) (t0b : Bool) (t0 : List Span) (t1b : Bool) (t1 : List Span) (t5 : Int) : h79_0 (fl + 1) t0b t0 t1b t1 t5 =
    if (decide (t5 < (↑t0.length : Int))) = true then if (idx t0.length t5) = true then if (idx t1.length t5) = true then if (!((t0.getD t5.toNat (dflt K.span)).lo == (t1.getD t5.toNat (dflt K.span)).lo && (t0.getD t5.toNat (dflt K.span)).hi == (t1.getD t5.toNat (dflt K.span)).hi)) = true then some (.one (.bool false), [])
          else h79_0 fl t0b t0 t1b t1 (IntKind.i64.wrap (t5 + 1))
        else none
      else none
    else some (.one (.bool true), []) := by kernel_rfl
noncomputable def o79 (b1 : Bool) (s : List Span) (b2 : Bool) (t : List Span) : Option (Bool) := (h79 2000 b1 s b2 t).bind (decB)
noncomputable def c79 : Spec := ⟨false, fun av ob => match av, ob with
  | [.one (.vec b1 .span s), .one (.vec b2 .span t)], [] => .call (o79 b1 s b2 t) fun x => .ret (.one (.bool x), [])
  | _, _ => .fail⟩
theorem f79 : FnOK Try.prog 79 := fnOK_of Try.func79 rfl (by kernel_rfl)
theorem pc79 : SpecOK Try.prog 79 c79 := by
  refine spec_thaw (fun av ob r os hrn => ?_) (machS_ok (env_ok (l := l79) trivial) mixed_ok Try.func79 k79 (fun _ _ => 2000) false)
  simp only [c79] at hrn
  split at hrn
  · rename_i b1 s b2 t
    obtain ⟨x, hx, hr⟩ := Option.bind_eq_some_iff.1 hrn
    cases hr
    obtain ⟨y, hy, hd⟩ := Option.bind_eq_some_iff.1 hx
    unfold h79 at hy
    obtain ⟨d1, d2⟩ := decB_ok hd
    exact ⟨y.1, y.2, by rw [machS_run]; exact hy, d1, d2⟩
  · cases hrn
theorem spans1 (b1 b2 : Bool) (l m : List Span) (hl : l.length ≤ 1000) (hm : m.length = l.length) : ∀ (d fl i : Nat), l.length - i = d → i ≤ l.length → d < fl → ∃ r, h79_0 fl b1 l b2 m i = some (.one (.bool r), []) ∧ (r = true ↔ l.drop i = m.drop i)
  | d, fl, i, hd, hi, hf => by
    obtain ⟨fl, rfl⟩ : ∃ q, fl = q + 1 := ⟨fl - 1, by omega⟩
    rw [h79_0_eq]
    by_cases hlt : i < l.length
    · have hlm : i < m.length := by omega
      rw [if_pos (lt_nat hlt), if_pos (idx_nat hlt), if_pos (idx_nat hlm), at_lt hlt, at_lt hlm, wr_succ (by omega), List.drop_eq_getElem_cons hlt, List.drop_eq_getElem_cons hlm]
      cases d with
      | zero => omega
      | succ d =>
        obtain ⟨r, e, hr⟩ := spans1 b1 b2 l m hl hm d fl (i + 1) (by omega) (by omega) (by omega)
        generalize l[i] = x
        generalize m[i] = y
        obtain ⟨a, b⟩ := x
        obtain ⟨a', b'⟩ := y
        by_cases c : a = a' ∧ b = b'
        · obtain ⟨rfl, rfl⟩ := c
          rw [if_neg (by simp), e]
          exact ⟨r, rfl, by rw [hr]; simp⟩
        · rw [if_pos (by simp; omega)]
          refine ⟨false, rfl, ?_⟩
          simp only [Bool.false_eq_true, List.cons.injEq, Span.mk.injEq, false_iff]
          exact fun h => c h.1
    · rw [if_neg (nlt_nat hlt), List.drop_eq_nil_of_le (by omega), List.drop_eq_nil_of_le (by omega)]
      exact ⟨true, rfl, by simp⟩
theorem spans_eq (b1 : Bool) (l : List Span) (b2 : Bool) (m : List Span) (hl : l.length ≤ 1000) : ∃ r, o79 b1 l b2 m = some r ∧ (r = true ↔ l = m) := by
  unfold o79
  rw [h79_eq]
  by_cases c : l.length = m.length
  · obtain ⟨r, e, hr⟩ := spans1 b1 b2 l m hl c.symm l.length 1999 0 (by omega) (by omega) (by omega)
    rw [List.drop_zero, List.drop_zero] at hr
    have e' : h79_0 1999 b1 l b2 m 0 = _ := e
    rw [if_neg (by simp [c]), e']
    exact ⟨r, rfl, hr⟩
  · rw [if_pos (by simp only [bne_iff_ne, ne_eq]; omega)]
    exact ⟨false, rfl, by simp only [Bool.false_eq_true, false_iff]; exact fun h => c (by rw [h])⟩
def wide1 (s : Span) : Span := ⟨mn (mx s.lo (-1125899906842624)) 1125899906842624, mn (mx s.hi (-1125899906842624)) 1125899906842624⟩
def decSpansL : AV × List Ob → Option (List Span)
  | (.one s, os) => slO .span 0 os s
  | _ => none
theorem decSpansL_ok {y : AV × List Ob} {x : List Span} (h : decSpansL y = some x) : ([] : List Ob) = y.2.take 0 ∧ TA y.2 0 y.1 (.one (.vec false .span x)) := by
  unfold decSpansL at h
  split at h
  · exact ⟨rfl, .one _ _ (slO_ok h) (slO_undef h)⟩
  · cases h
noncomputable def l78 : List (FuncId × Spec) := []
def k78 : Code → Keep := keepOf [(3, ⟨[0, 3, 6, 7], [(3, .span)], []⟩)]
noncomputable def h78_0 (fl : Nat) (t0b : Bool) (t0 : List Span) (t6 : Int) (t7 : Int) (m0 : List Span) : Option (AV × List Ob) := (evalH (env l78) Try.f78 k78 0 fl (stkF Try.f78 [1, 1, 0, 1, 0]) ⟨[.one (.vec t0b .span t0), .one (.undef), .one (.undef), .one (.row 0), .one (.undef), .one (.undef), .one (.int .i64 t6), .one (.int .i64 t7), .one (.undef), .one (.undef), .one (.undef), .one (.undef), .one (.undef), .one (.undef), .one (.undef), .one (.undef), .one (.undef), .one (.undef), .one (.undef), .one (.undef), .one (.undef), .one (.undef), .one (.undef), .one (.undef), .one (.undef), .one (.undef), .one (.undef), .one (.undef), .one (.undef), .one (.undef)], [((0, 0), some (.rows .span m0))], 1⟩).den
noncomputable def h78 (fl : Nat) (b1 : Bool) (s : List Span) : Option (AV × List Ob) := (evalF (env l78) Try.f78 k78 fl [.one (.vec b1 .span s)] []).den
theorem h78_eq (fl : Nat) (b1 : Bool) (s : List Span) : h78 (fl + 1) b1 s =
    h78_0 fl b1 s ((↑s.length : Int)) 0 [] := by kernel_rfl
theorem h78_0_eq (fl : Nat) (t0b : Bool) (t0 : List Span) (t6 : Int) (t7 : Int) (m0 : List Span) : h78_0 (fl + 1) t0b t0 t6 t7 m0 =
    if (decide (t7 < t6)) = true then if (idx t0.length t7) = true then if (idx t0.length t7) = true then if (decide ((m0).length + ([{ lo := mn (mx (t0.getD t7.toNat (dflt K.span)).lo (-1125899906842624)) 1125899906842624, hi := mn (mx (t0.getD t7.toNat (dflt K.span)).hi (-1125899906842624)) 1125899906842624 : Span }]).length ≤ lim)) = true then h78_0 fl t0b t0 t6 (IntKind.i64.wrap (t7 + 1)) (m0 ++ [{ lo := mn (mx (t0.getD t7.toNat (dflt K.span)).lo (-1125899906842624)) 1125899906842624, hi := mn (mx (t0.getD t7.toNat (dflt K.span)).hi (-1125899906842624)) 1125899906842624 : Span }])
          else none
        else none
      else none
    else some (.one (.row 0), [.rows .span m0]) := by kernel_rfl
noncomputable def o78 (b1 : Bool) (s : List Span) : Option (List Span) := (h78 2000 b1 s).bind (decSpansL)
noncomputable def c78 : Spec := ⟨false, fun av ob => match av, ob with
  | [.one (.vec b1 .span s)], [] => .call (o78 b1 s) fun x => .ret (.one (.vec false .span x), [])
  | _, _ => .fail⟩
theorem f78 : FnOK Try.prog 78 := fnOK_of Try.func78 rfl (by kernel_rfl)
theorem pc78 : SpecOK Try.prog 78 c78 := by
  refine spec_thaw (fun av ob r os hrn => ?_) (machS_ok (env_ok (l := l78) trivial) mixed_ok Try.func78 k78 (fun _ _ => 2000) false)
  simp only [c78] at hrn
  split at hrn
  · rename_i b1 s
    obtain ⟨x, hx, hr⟩ := Option.bind_eq_some_iff.1 hrn
    cases hr
    obtain ⟨y, hy, hd⟩ := Option.bind_eq_some_iff.1 hx
    unfold h78 at hy
    obtain ⟨d1, d2⟩ := decSpansL_ok hd
    exact ⟨y.1, y.2, by rw [machS_run]; exact hy, d1, d2⟩
  · cases hrn
theorem wide_loop (b : Bool) (l : List Span) (hl : l.length ≤ 1000) : ∀ (d fl i : Nat) (c : List Span), l.length - i = d → i ≤ l.length → d < fl → c.length = i → h78_0 fl b l l.length i c = some (.one (.row 0), [.rows .span (c ++ (l.drop i).map wide1)])
  | d, fl, i, c, hd, hi, hf, hc => by
    obtain ⟨fl, rfl⟩ : ∃ q, fl = q + 1 := ⟨fl - 1, by omega⟩
    rw [h78_0_eq]
    by_cases hlt : i < l.length
    · cases d with
      | zero => omega
      | succ d =>
        rw [if_pos (lt_nat hlt), if_pos (idx_nat hlt), if_pos (idx_nat hlt), at_lt hlt, if_pos (show decide (c.length + [_].length ≤ lim) = true by simp [lim]; omega), wr_succ (by omega), List.drop_eq_getElem_cons hlt, wide_loop b l hl d fl (i + 1) _ (by omega) (by omega) (by omega) (by simp; omega), List.map_cons, List.append_assoc]
        rfl
    · rw [if_neg (nlt_nat hlt), List.drop_eq_nil_of_le (by omega)]
      simp
theorem wide_eq (b : Bool) (l : List Span) (hl : l.length ≤ 1000) : o78 b l = some (l.map wide1) := by
  unfold o78
  rw [h78_eq]
  have e := wide_loop b l hl l.length 1999 0 [] (by omega) (by omega) (by omega) rfl
  have e' : h78_0 1999 b l l.length 0 [] = _ := e
  rw [e', List.drop_zero, List.nil_append]
  simp [decSpansL, slO]
end Go.Proofs.Ytipfipnhgpbceaa.Sx
/- By how much gas grows in a road (plain theorems). -/

set_option linter.unusedVariables false
set_option linter.unusedSimpArgs false
set_option maxRecDepth 100000
namespace Go.Proofs.Ytipfipnhgpbceaa.Sx
open Go Go.RowKit
def cdiv (n d : Int) : Int := (n + d - 1) / d
theorem cdiv_le {n d k : Int} (hd : 1 ≤ d) : cdiv n d ≤ k ↔ n ≤ k * d := by
  unfold cdiv
  have h := Int.ediv_lt_iff_lt_mul (a := n + d - 1) (b := k + 1) (c := d) (by omega)
  rw [Int.add_mul, Int.one_mul] at h
  constructor
  · intro h1
    have := h.1 (by omega)
    omega
  · intro h1
    have := h.2 (by omega)
    omega
theorem cdiv_nonneg {n d : Int} (hn : 0 ≤ n) (hd : 1 ≤ d) : 0 ≤ cdiv n d := by
  unfold cdiv
  exact Int.ediv_nonneg (by omega) (by omega)
theorem cdiv_mul {n d : Int} (hd : 1 ≤ d) : n ≤ cdiv n d * d := (cdiv_le hd).1 (Int.le_refl _)
theorem cdiv_lt {n d : Int} (hd : 1 ≤ d) : cdiv n d * d < n + d := by
  unfold cdiv
  have h1 := Int.ediv_mul_add_emod (n + d - 1) d
  have h2 := Int.emod_nonneg (n + d - 1) (by omega : d ≠ 0)
  omega
theorem cdiv_mono {n n' d d' : Int} (hn : n ≤ n') (h0 : 0 ≤ n') (hd : 1 ≤ d') (hdd : d' ≤ d) : cdiv n d ≤ cdiv n' d' := by
  rw [cdiv_le (by omega)]
  have h1 := cdiv_mul (n := n') hd
  have h2 := cdiv_nonneg h0 hd
  have h3 := Int.mul_le_mul_of_nonneg_left hdd h2
  omega
theorem cdiv_self {n d : Int} (hn : 0 ≤ n) (hd : 1 ≤ d) : cdiv n d ≤ n := by
  rw [cdiv_le hd]
  have := Int.mul_le_mul_of_nonneg_left hd hn
  omega
/-- A quotient rounded up, by the rest. -/
theorem cdiv_quot {n d : Int} (hn : 0 ≤ n) (hd : 1 ≤ d) : n.tdiv d + mn (n.tmod d) 1 = cdiv n d := by
  have h1 := Int.mul_tdiv_add_tmod n d
  have h2 := Int.tmod_nonneg d hn
  have h3 := Int.tmod_lt_of_pos n (b := d) (by omega)
  have h4 := cdiv_mul (n := n) hd
  have h5 := cdiv_lt (n := n) hd
  generalize n.tdiv d = q at *
  generalize n.tmod d = r at *
  generalize cdiv n d = c at *
  rw [Int.mul_comm] at h1
  have hm : mn r 1 = if r = 0 then 0 else 1 := by unfold mn; split <;> split <;> omega
  rw [hm]
  split
  · rename_i h
    subst h
    have : q * d = n := by omega
    rw [← this] at h4 h5
    have a1 : q ≤ c := Int.le_of_mul_le_mul_right h4 (by omega)
    have a2 : c < q + 1 := Int.lt_of_mul_lt_mul_right (a := d) (by rw [Int.add_mul, Int.one_mul]; exact h5) (by omega)
    omega
  · have a1 : q < c := Int.lt_of_mul_lt_mul_right (a := d) (by omega) (by omega)
    have a2 : c < q + 2 := Int.lt_of_mul_lt_mul_right (a := d) (by rw [Int.add_mul]; omega) (by omega)
    omega
theorem cdiv_flo {n d : Int} (hn : 0 ≤ n) (hn2 : n ≤ 1125899906842624) (hd : 1 ≤ d) : cei n d = cdiv n d := by
  unfold cei flo wr64
  rw [wid (n := 0 - n) (by omega) (by omega)]
  have h1 := Int.mul_tdiv_add_tmod (0 - n) d
  have h2 : -d < (0 - n).tmod d := by
    have := Int.lt_tmod_of_pos (0 - n) (b := d) (by omega)
    omega
  have h3 : (0 - n).tmod d ≤ 0 := by
    rw [Int.zero_sub, Int.neg_tmod]
    have := Int.tmod_nonneg d hn
    omega
  have h4 := cdiv_mul (n := n) hd
  have h5 := cdiv_lt (n := n) hd
  have h6 := cdiv_nonneg hn hd
  have h7 := cdiv_self hn hd
  generalize (0 - n).tdiv d = q at *
  generalize (0 - n).tmod d = r at *
  generalize cdiv n d = c at *
  rw [Int.mul_comm] at h1
  by_cases hr : r < 0
  · rw [if_pos hr]
    have a1 : -q < c := Int.lt_of_mul_lt_mul_right (a := d) (by rw [Int.neg_mul]; omega) (by omega)
    have a2 : c < -q + 2 := Int.lt_of_mul_lt_mul_right (a := d) (by rw [Int.add_mul, Int.neg_mul]; omega) (by omega)
    rw [wid (n := q) (by omega) (by omega), wid (n := q - 1) (by omega) (by omega), wid (by omega) (by omega)]
    omega
  · rw [if_neg hr]
    have : r = 0 := by omega
    subst this
    have a1 : -q ≤ c := Int.le_of_mul_le_mul_right (a := d) (by rw [Int.neg_mul]; omega) (by omega)
    have a2 : c < -q + 1 := Int.lt_of_mul_lt_mul_right (a := d) (by rw [Int.add_mul, Int.one_mul, Int.neg_mul]; omega) (by omega)
    rw [wid (n := q) (by omega) (by omega), wid (by omega) (by omega)]
    omega
def leastG (b : Int) : Int := mx (wr64 (0 - b)) 1
theorem leastG_pos (b : Int) : 1 ≤ leastG b := by unfold leastG mx; split <;> omega
def addG (a b n : Int) : Int := if dirM a b = 1 then mn (cdiv n a) 1000000 else if dirM a b = -1 then mn (cdiv n (leastG b)) 1000000 else if n > 0 then 1000000 else 0
theorem dir_one {a b : Int} (h : dirM a b = 1) : a ≤ b ∧ 1 ≤ a := by
  unfold dirM at h
  split at h
  · cases h
  · split at h
    · omega
    · split at h <;> cases h
theorem dir_back {a b : Int} (h : dirM a b = -1) : a ≤ b ∧ b < 0 := by
  unfold dirM at h
  split at h
  · cases h
  · split at h
    · cases h
    · split at h
      · omega
      · cases h
noncomputable def l96 : List (FuncId × Spec) := [(119, s119)]
def k96 : Code → Keep := keepOf []
noncomputable def h96 (fl : Nat) (a b n : Int) : Option (AV × List Ob) := (evalF (env l96) Try.f96 k96 fl [.agg [.int .i64 a, .int .i64 b], .one (.int .i64 n)] []).den
theorem h96_eq (fl : Nat) (a b n : Int) : h96 (fl + 1) a b n =
    if (dirM a b == 1) = true then if (a != 0) = true then if (a != 0) = true then some (.one (.int .i64 (mn (IntKind.i64.wrap (IntKind.i64.wrap (n.tdiv a) + mn (n.tmod a) 1)) 1000000)), [])
        else none
      else none
    else if (dirM a b == -1) = true then if (mx (IntKind.i64.wrap (0 - b)) 1 != 0) = true then if (mx (IntKind.i64.wrap (0 - b)) 1 != 0) = true then some (.one (.int .i64 (mn (IntKind.i64.wrap (IntKind.i64.wrap (n.tdiv (mx (IntKind.i64.wrap (0 - b)) 1)) + mn (n.tmod (mx (IntKind.i64.wrap (0 - b)) 1)) 1)) 1000000)), [])
          else none
        else none
      else if (decide (n > 0)) = true then some (.one (.int .i64 1000000), [])
        else some (.one (.int .i64 0), []) := by kernel_rfl
def s96 : Spec := ⟨false, fun av ob => match av, ob with
  | [.agg [.int .i64 a, .int .i64 b], .one (.int .i64 n)], [] => .need (decide (0 ≤ n) && decide (n ≤ 1125899906842624)) (.ret (.one (.int .i64 (addG a b n)), []))
  | _, _ => .fail⟩
theorem quot_in {n d : Int} (hn : 0 ≤ n) (hn2 : n ≤ 1125899906842624) (hd : 1 ≤ d) : IntKind.i64.wrap (IntKind.i64.wrap (n.tdiv d) + mn (n.tmod d) 1) = cdiv n d := by
  have h1 := cdiv_quot hn hd
  have h2 := cdiv_self hn hd
  have h3 := cdiv_nonneg hn hd
  have h4 := Int.tmod_nonneg d hn
  have h5 : 0 ≤ mn (n.tmod d) 1 ∧ mn (n.tmod d) 1 ≤ 1 := by unfold mn; split <;> omega
  rw [wid (n := n.tdiv d) (by omega) (by omega), h1, wid (by omega) (by omega)]
theorem v96 (a b n : Int) (h : (decide (0 ≤ n) && decide (n ≤ 1125899906842624)) = true) : h96 1 a b n = some (.one (.int .i64 (addG a b n)), []) := by
  simp only [Bool.and_eq_true, decide_eq_true_eq] at h
  rw [h96_eq]
  unfold addG
  by_cases c1 : dirM a b = 1
  · have := dir_one c1
    have ha : (a != 0) = true := by simp; omega
    rw [if_pos (by simpa using c1), if_pos ha, if_pos ha, if_pos c1, quot_in h.1 h.2 this.2]
  · rw [if_neg (by simpa using c1), if_neg c1]
    by_cases c2 : dirM a b = -1
    · have hl := leastG_pos b
      have ha : (mx (IntKind.i64.wrap (0 - b)) 1 != 0) = true := by
        have : mx (IntKind.i64.wrap (0 - b)) 1 = leastG b := rfl
        rw [this]; simp; omega
      rw [if_pos (by simpa using c2), if_pos ha, if_pos ha, if_pos c2, quot_in h.1 h.2 (show 1 ≤ mx (IntKind.i64.wrap (0 - b)) 1 from hl)]
      rfl
    · rw [if_neg (by simpa using c2), if_neg c2]
      simp only [decide_eq_true_eq]
      split <;> rfl
theorem p96 : SpecOK Try.prog 96 s96 := by
  refine specOK_of (env_ok (l := l96) ⟨⟨p119, f119⟩, trivial⟩) mixed_ok Try.func96 k96 fun av ob r os hrn => ?_
  simp only [s96] at hrn
  split at hrn
  · rename_i a b n
    obtain ⟨hg, hrn⟩ := need_den hrn
    cases hrn
    have hv := v96 a b n hg
    unfold h96 at hv
    exact ⟨1, hv⟩
  · cases hrn
theorem f96 : FnOK Try.prog 96 := fnOK_of Try.func96 rfl (by kernel_rfl)
noncomputable def l121 : List (FuncId × Spec) := [(134, s134), (85, s85)]
def k121 : Code → Keep := keepOf []
noncomputable def h121 (fl : Nat) (a b n : Int) : Option (AV × List Ob) := (evalF (env l121) Try.f121 k121 fl [.agg [.int .i64 a, .int .i64 b], .one (.int .i64 n)] []).den
theorem h121_eq (fl : Nat) (a b n : Int) : h121 (fl + 1) a b n =
    if (n == 0) = true then some (.one (.int .i64 0), [])
    else if (dirM a b == 1) = true then if (a != 0) = true then some (.one (.int .i64 (mn 1000000 (cei n a))), [])
        else none
      else if (dirM a b == -1) = true then if (IntKind.i64.wrap (0 - b) != 0) = true then some (.one (.int .i64 (mn 1000000 (cei n (IntKind.i64.wrap (0 - b))))), [])
          else none
        else some (.one (.int .i64 1000000), []) := by kernel_rfl
def s121 : Spec := ⟨false, fun av ob => match av, ob with
  | [.agg [.int .i64 a, .int .i64 b], .one (.int .i64 n)], [] => .need (decide (0 ≤ n) && (decide (n ≤ 1125899906842624) && decide (-4611686018427387904 ≤ b))) (.ret (.one (.int .i64 (addG a b n)), []))
  | _, _ => .fail⟩
theorem mn_comm (a b : Int) : mn a b = mn b a := by unfold mn; split <;> split <;> omega
theorem cdiv_zero {d : Int} (hd : 1 ≤ d) : cdiv 0 d = 0 := by
  have := cdiv_self (n := 0) (by omega) hd
  have := cdiv_nonneg (n := 0) (by omega) hd
  omega
theorem addG_zero (a b : Int) : addG a b 0 = 0 := by
  unfold addG
  split
  · rename_i h; rw [cdiv_zero (dir_one h).2]; rfl
  · split
    · rw [cdiv_zero (leastG_pos b)]; rfl
    · rfl
theorem v121 (a b n : Int) (h : (decide (0 ≤ n) && (decide (n ≤ 1125899906842624) && decide (-4611686018427387904 ≤ b))) = true) : h121 1 a b n = some (.one (.int .i64 (addG a b n)), []) := by
  simp only [Bool.and_eq_true, decide_eq_true_eq] at h
  rw [h121_eq]
  by_cases c0 : n = 0
  · subst c0
    rw [if_pos (by rfl), addG_zero]
  rw [if_neg (by simpa using c0)]
  unfold addG
  by_cases c1 : dirM a b = 1
  · have := dir_one c1
    have ha : (a != 0) = true := by simp; omega
    rw [if_pos (by simpa using c1), if_pos ha, if_pos c1, cdiv_flo h.1 h.2.1 this.2, mn_comm]
  · rw [if_neg (by simpa using c1), if_neg c1]
    by_cases c2 : dirM a b = -1
    · have hb := dir_back c2
      have e : IntKind.i64.wrap (0 - b) = -b := by rw [wid (by omega) (by omega)]; omega
      have e2 : leastG b = -b := by unfold leastG wr64 mx; rw [e]; split <;> omega
      rw [if_pos (by simpa using c2), e, if_pos (by simp; omega), if_pos c2, e2, cdiv_flo h.1 h.2.1 (by omega), mn_comm]
    · rw [if_neg (by simpa using c2), if_neg c2, if_pos (by omega)]
theorem p121 : SpecOK Try.prog 121 s121 := by
  refine specOK_of (env_ok (l := l121) ⟨⟨p134, f134⟩, ⟨⟨p85, f85⟩, trivial⟩⟩) mixed_ok Try.func121 k121 fun av ob r os hrn => ?_
  simp only [s121] at hrn
  split at hrn
  · rename_i a b n
    obtain ⟨hg, hrn⟩ := need_den hrn
    cases hrn
    have hv := v121 a b n hg
    unfold h121 at hv
    exact ⟨1, hv⟩
  · cases hrn
theorem f121 : FnOK Try.prog 121 := fnOK_of Try.func121 rfl (by kernel_rfl)
theorem addG_range {a b n : Int} (hn : 0 ≤ n) : 0 ≤ addG a b n ∧ addG a b n ≤ 1000000 := by
  unfold addG
  split
  · rename_i h
    have := cdiv_nonneg hn (dir_one h).2
    unfold mn; split <;> omega
  · split
    · have := cdiv_nonneg hn (leastG_pos b)
      unfold mn; split <;> omega
    · split <;> omega
/-- More inflow, and a wider span, add no less. -/
theorem addG_mono {a b a' b' n n' : Int} (hab : a ≤ b) (h1 : a' ≤ a) (h2 : b ≤ b') (hb : -4611686018427387904 ≤ b) (hn0 : 0 ≤ n) (hn : n ≤ n') : addG a b n ≤ addG a' b' n' := by
  have r := (addG_range (a := a) (b := b) hn0).2
  by_cases c1 : dirM a' b' = 1
  · have hd := dir_one c1
    have c : dirM a b = 1 := by unfold dirM; rw [if_neg (by omega), if_pos (by omega)]
    unfold addG
    rw [if_pos c, if_pos c1]
    have := cdiv_mono (d := a) (d' := a') hn (by omega) hd.2 h1
    unfold mn; split <;> split <;> omega
  · by_cases c2 : dirM a' b' = -1
    · have hd := dir_back c2
      have c : dirM a b = -1 := by unfold dirM; rw [if_neg (by omega), if_neg (by omega), if_pos (by omega)]
      unfold addG
      rw [if_neg (by omega), if_pos c, if_neg c1, if_pos c2]
      have e : ∀ z, -4611686018427387904 ≤ z → z < 0 → leastG z = -z := fun z g1 g2 => by
        unfold leastG wr64 mx; rw [wid (by omega) (by omega)]; split <;> omega
      rw [e b hb (by omega), e b' (by omega) (by omega)]
      have := cdiv_mono (d := -b) (d' := -b') hn (by omega) (by omega) (by omega)
      unfold mn; split <;> split <;> omega
    · by_cases c3 : n' > 0
      · unfold addG at *
        rw [if_neg c1, if_neg c2, if_pos c3]
        exact r
      · have : n = 0 := by omega
        subst this
        rw [addG_zero]
        exact (addG_range (by omega)).1
end Go.Proofs.Ytipfipnhgpbceaa.Sx
/- The least concentrations that are closed under the ways of air (plain theorems). -/

set_option linter.unusedVariables false
set_option linter.unusedSimpArgs false
set_option maxRecDepth 100000
namespace Go.Proofs.Ytipfipnhgpbceaa.Sx
open Go Go.RowKit
abbrev gx (l : List Int) (i : Nat) : Int := l.getD i 0
theorem gx_set {l : List Int} {j : Nat} (hj : j < l.length) (v : Int) (i : Nat) : gx (l.set j v) i = if i = j then v else gx l i := by
  unfold gx
  by_cases h : i = j
  · subst h; rw [if_pos rfl, getD_set_eq hj]
  · rw [if_neg h, getD_set_ne2 (fun e => h e.symm)]
theorem gx_ext {l m : List Int} (h : l.length = m.length) (e : ∀ i, gx l i = gx m i) : l = m := by
  refine List.ext_getElem h (fun i h1 h2 => ?_)
  have := e i
  unfold gx at this
  rw [List.getD_eq_getElem?_getD, List.getElem?_eq_getElem h1, List.getD_eq_getElem?_getD, List.getElem?_eq_getElem h2] at this
  exact this
theorem gx_out {l : List Int} {i : Nat} (h : ¬ i < l.length) : gx l i = 0 := by
  unfold gx
  rw [List.getD_eq_getElem?_getD, List.getElem?_eq_none (by omega)]
  rfl
def tot : List Int → Int
  | [] => 0
  | x :: l => x + tot l
theorem tot_set : ∀ (l : List Int) (j : Nat) (v : Int), j < l.length → tot (l.set j v) = tot l - gx l j + v
  | x :: l, 0, v, _ => by simp [tot, gx]; omega
  | x :: l, j + 1, v, h => by
    have := tot_set l j v (by simpa using h)
    simp only [List.set_cons_succ, tot, this]
    show x + (tot l - gx l j + v) = x + tot l - gx l j + v
    omega
theorem tot_le : ∀ (l : List Int), (∀ i, gx l i ≤ 1000000) → tot l ≤ 1000000 * l.length
  | [], _ => by simp [tot]
  | x :: l, h => by
    have h1 := tot_le l (fun i => h (i + 1))
    have h2 : x ≤ 1000000 := h 0
    simp only [tot, List.length_cons]
    omega
theorem tot_nonneg : ∀ (l : List Int), (∀ i, 0 ≤ gx l i) → 0 ≤ tot l
  | [], _ => by simp [tot]
  | x :: l, h => by
    have h1 := tot_nonneg l (fun i => h (i + 1))
    have h2 : 0 ≤ x := h 0
    simp only [tot]
    omega
/-- Numbers of places and of roads that are closed under the ways of air. -/
structure CloG (P : List Place) (R : List Road) (f : List Span) (mo p r : Nat → Int) : Prop where
  road : ∀ (i : Nat) (d : Bool), i < R.length → can R f i d = true → mn (p (endA R i d).toNat + mo i) 1000000 ≤ r i
  place : ∀ (i : Nat) (d : Bool), i < R.length → can R f i d = true → surf P (endB R i d).toNat = false → r i ≤ p (endB R i d).toNat
def Still (R : List Road) (f : List Span) (i : Nat) : Prop := ∀ d, can R f i d = false
structure AboveG (R : List Road) (f : List Span) (p0 p r : Nat → Int) : Prop where
  p0 : ∀ k, p0 k ≤ p k
  still : ∀ i, i < R.length → Still R f i → 1000000 ≤ r i
  zero : ∀ i, 0 ≤ r i
/-- The least ones. -/
structure LeastG (P : List Place) (R : List Road) (f : List Span) (mo p0 : Nat → Int) (p r : List Int) : Prop where
  plen : p.length = P.length
  rlen : r.length = R.length
  above : AboveG R f p0 (gx p) (gx r)
  clo : CloG P R f mo (gx p) (gx r)
  ptop : ∀ k, gx p k ≤ 1000000
  rtop : ∀ k, gx r k ≤ 1000000
  least : ∀ tp tr : Nat → Int, AboveG R f p0 tp tr → CloG P R f mo tp tr → (∀ k, gx p k ≤ tp k) ∧ ∀ i, gx r i ≤ tr i
theorem LeastG.uni {P : List Place} {R : List Road} {f : List Span} {mo p0 : Nat → Int} {p r p' r' : List Int} (h : LeastG P R f mo p0 p r) (h' : LeastG P R f mo p0 p' r') : p = p' ∧ r = r' := by
  have a := h.least _ _ h'.above h'.clo
  have b := h'.least _ _ h.above h.clo
  exact ⟨gx_ext (by rw [h.plen, h'.plen]) fun i => Int.le_antisymm (a.1 i) (b.1 i), gx_ext (by rw [h.rlen, h'.rlen]) fun i => Int.le_antisymm (a.2 i) (b.2 i)⟩
theorem CloG.congr {P : List Place} {R : List Road} {f : List Span} {mo mo' p r : Nat → Int} (h : ∀ i, i < R.length → mo i = mo' i) (g : CloG P R f mo p r) : CloG P R f mo' p r :=
  ⟨fun i d hi hc => by rw [← h i hi]; exact g.road i d hi hc, g.place⟩
theorem LeastG.congr {P : List Place} {R : List Road} {f : List Span} {mo mo' p0 : Nat → Int} {p r : List Int} (h : ∀ i, i < R.length → mo i = mo' i) (g : LeastG P R f mo p0 p r) : LeastG P R f mo' p0 p r :=
  ⟨g.plen, g.rlen, g.above, g.clo.congr h, g.ptop, g.rtop, fun tp tr a c => g.least tp tr a (c.congr fun i hi => (h i hi).symm)⟩
/-- Numbers on the way there. -/
structure GoodG (P : List Place) (R : List Road) (f : List Span) (mo p0 : Nat → Int) (p r : List Int) : Prop where
  plen : p.length = P.length
  rlen : r.length = R.length
  base : ∀ k, p0 k ≤ gx p k
  pz : ∀ k, 0 ≤ gx p k
  rz : ∀ k, 0 ≤ gx r k
  ptop : ∀ k, gx p k ≤ 1000000
  rtop : ∀ k, gx r k ≤ 1000000
  least : ∀ tp tr : Nat → Int, AboveG R f p0 tp tr → CloG P R f mo tp tr → (∀ k, gx p k ≤ tp k) ∧ ∀ i, gx r i ≤ tr i
theorem GoodG.raiseR {P : List Place} {R : List Road} {f : List Span} {mo p0 : Nat → Int} {p r : List Int} (h : GoodG P R f mo p0 p r) {i : Nat} (hi : i < R.length) {v : Int} (hv : gx r i < v) (ht : v ≤ 1000000) (hl : ∀ tp tr : Nat → Int, AboveG R f p0 tp tr → CloG P R f mo tp tr → (∀ k, gx p k ≤ tp k) → v ≤ tr i) : GoodG P R f mo p0 p (r.set i v) := by
  have hj : i < r.length := by rw [h.rlen]; exact hi
  refine ⟨h.plen, by rw [List.length_set, h.rlen], h.base, h.pz, fun k => ?_, h.ptop, fun k => ?_, fun tp tr a c => ⟨(h.least tp tr a c).1, fun k => ?_⟩⟩
  · rw [gx_set hj]; have := h.rz k; have := h.rz i; split <;> omega
  · rw [gx_set hj]; have := h.rtop k; split <;> omega
  · rw [gx_set hj]
    have g := h.least tp tr a c
    have g1 := g.2 k
    split
    · rename_i e; rw [e]; exact hl tp tr a c g.1
    · exact g1
theorem GoodG.raiseP {P : List Place} {R : List Road} {f : List Span} {mo p0 : Nat → Int} {p r : List Int} (h : GoodG P R f mo p0 p r) {i : Nat} (hi : i < P.length) {v : Int} (hv : gx p i < v) (ht : v ≤ 1000000) (hl : ∀ tp tr : Nat → Int, AboveG R f p0 tp tr → CloG P R f mo tp tr → (∀ k, gx r k ≤ tr k) → v ≤ tp i) : GoodG P R f mo p0 (p.set i v) r := by
  have hj : i < p.length := by rw [h.plen]; exact hi
  refine ⟨by rw [List.length_set, h.plen], h.rlen, fun k => ?_, fun k => ?_, h.rz, fun k => ?_, h.rtop, fun tp tr a c => ⟨fun k => ?_, (h.least tp tr a c).2⟩⟩
  · rw [gx_set hj]
    have := h.base k
    split
    · rename_i e; rw [e] at this ⊢; omega
    · exact this
  · rw [gx_set hj]; have := h.pz k; have := h.pz i; split <;> omega
  · rw [gx_set hj]; have := h.ptop k; split <;> omega
  · rw [gx_set hj]
    have g := h.least tp tr a c
    have g1 := g.1 k
    split
    · rename_i e; rw [e]; exact hl tp tr a c g.2
    · exact g1
theorem GoodG.tot {P : List Place} {R : List Road} {f : List Span} {mo p0 : Nat → Int} {p r : List Int} (h : GoodG P R f mo p0 p r) : 0 ≤ tot p + tot r ∧ tot p + tot r ≤ 1000000 * (P.length + R.length : Nat) := by
  have h1 := tot_le p h.ptop
  have h2 := tot_le r h.rtop
  have h3 := tot_nonneg p h.pz
  have h4 := tot_nonneg r h.rz
  rw [h.plen] at h1
  rw [h.rlen] at h2
  constructor
  · omega
  · rw [Int.natCast_add, Int.mul_add]; omega
/-- With wider spans and more inflow no number gets less that is less than the greatest. -/
theorem LeastG.grows {P : List Place} {R : List Road} {f f' : List Span} {mo mo' p0 p0' : Nat → Int} {p r p' r' : List Int} (h : LeastG P R f mo p0 p r) (h' : LeastG P R f' mo' p0' p' r') (hp0 : ∀ k, p0 k = 0 ∨ p0 k = 1000000) (hz : ∀ k, 0 ≤ gx p' k) (hc : ∀ (i : Nat) (d : Bool), i < R.length → can R f i d = true → can R f' i d = true) (hm : ∀ i, i < R.length → mo i ≤ mo' i) (hm0 : ∀ i, 0 ≤ mo i) :
    (∀ k, gx p k < 1000000 → gx p k ≤ gx p' k) ∧ ∀ i, gx r i < 1000000 → gx r i ≤ gx r' i := by
  let tp : Nat → Int := fun k => if gx p k < 1000000 then mn (gx p k) (gx p' k) else 1000000
  let tr : Nat → Int := fun i => if gx r i < 1000000 then mn (gx r i) (gx r' i) else 1000000
  have pt := h.ptop
  have rt := h.rtop
  have key := h.least tp tr ⟨fun k => ?_, fun i hi hs => ?_, fun i => ?_⟩ ⟨fun i d hi hcn => ?_, fun i d hi hcn hs => ?_⟩
  · refine ⟨fun k hk => ?_, fun i hi => ?_⟩
    · have := key.1 k
      show gx p k ≤ gx p' k
      simp only [tp] at this
      rw [if_pos hk] at this
      unfold mn at this
      split at this <;> omega
    · have := key.2 i
      simp only [tr] at this
      rw [if_pos hi] at this
      unfold mn at this
      split at this <;> omega
  · have h1 := h.above.p0 k
    have h2 := hz k
    simp only [tp]
    rcases hp0 k with e | e
    · rw [e] at h1 ⊢
      unfold mn
      split <;> (try split) <;> omega
    · rw [e] at h1 ⊢
      rw [if_neg (by omega)]
      omega
  · have h1 := h.above.still i hi hs
    simp only [tr]
    rw [if_neg (by omega)]
    omega
  · have h1 := h.above.zero i
    have h2 := h'.above.zero i
    simp only [tr]
    unfold mn
    split <;> (try split) <;> omega
  · have h1 := h.clo.road i d hi hcn
    have h2 := h'.clo.road i d hi (hc i d hi hcn)
    have h3 := hm i hi
    have h4 := pt (endA R i d).toNat
    have h5 := rt i
    have h6 := hm0 i
    simp only [tp, tr]
    unfold mn at *
    by_cases c : gx r i < 1000000
    · rw [if_pos c]
      have c2 : gx p (endA R i d).toNat < 1000000 := by split at h1 <;> omega
      rw [if_pos c2]
      split at h1 <;> split at h2 <;> split <;> split <;> (try split) <;> omega
    · rw [if_neg c]
      split <;> omega
  · have h1 := h.clo.place i d hi hcn hs
    have h2 := h'.clo.place i d hi (hc i d hi hcn) hs
    have h4 := pt (endB R i d).toNat
    simp only [tp, tr]
    unfold mn at *
    by_cases c : gx p (endB R i d).toNat < 1000000
    · rw [if_pos c, if_pos (by omega)]
      split <;> split <;> omega
    · rw [if_neg c]
      have := rt i
      split <;> (try split) <;> omega
/-- Without gas each number is 0 or the greatest. -/
theorem LeastG.none {P : List Place} {R : List Road} {f : List Span} {mo p0 : Nat → Int} {p r : List Int} (h : LeastG P R f mo p0 p r) (hp0 : ∀ k, p0 k = 0 ∨ p0 k = 1000000) (hm : ∀ i, i < R.length → mo i = 0) (hz : ∀ k, 0 ≤ gx p k) : (∀ k, gx p k = 0 ∨ gx p k = 1000000) ∧ ∀ i, gx r i = 0 ∨ gx r i = 1000000 := by
  let tp : Nat → Int := fun k => if gx p k < 1000000 then 0 else 1000000
  let tr : Nat → Int := fun i => if gx r i < 1000000 then 0 else 1000000
  have pt := h.ptop
  have rt := h.rtop
  have key := h.least tp tr ⟨fun k => ?_, fun i hi hs => ?_, fun i => ?_⟩ ⟨fun i d hi hcn => ?_, fun i d hi hcn hs => ?_⟩
  · refine ⟨fun k => ?_, fun i => ?_⟩
    · have h1 := key.1 k
      have h2 := hz k
      have h3 := pt k
      simp only [tp] at h1
      split at h1 <;> omega
    · have h1 := key.2 i
      have h2 := h.above.zero i
      have h3 := rt i
      simp only [tr] at h1
      split at h1 <;> omega
  · have h1 := h.above.p0 k
    simp only [tp]
    rcases hp0 k with e | e <;> rw [e] at h1 ⊢ <;> split <;> omega
  · have h1 := h.above.still i hi hs
    simp only [tr]
    rw [if_neg (by omega)]
    omega
  · simp only [tr]
    split <;> omega
  · have h1 := h.clo.road i d hi hcn
    rw [hm i hi] at *
    have h4 := pt (endA R i d).toNat
    simp only [tp, tr]
    unfold mn at *
    by_cases c : gx r i < 1000000
    · have c2 : gx p (endA R i d).toNat < 1000000 := by split at h1 <;> omega
      rw [if_pos c, if_pos c2, if_neg (by omega)]
      omega
    · rw [if_neg c]
      split <;> omega
  · have h1 := h.clo.place i d hi hcn hs
    have h4 := rt i
    simp only [tp, tr]
    by_cases c : gx p (endB R i d).toNat < 1000000
    · rw [if_pos c, if_pos (by omega)]; omega
    · rw [if_neg c]
      split <;> omega
end Go.Proofs.Ytipfipnhgpbceaa.Sx
/- With which concentrations the search begins (plain theorems). -/

set_option linter.unusedVariables false
set_option linter.unusedSimpArgs false
set_option maxRecDepth 100000
namespace Go.Proofs.Ytipfipnhgpbceaa.Sx
open Go Go.RowKit
/-- What comes into a road. -/
def inflow (i : Nat) : List Source → Int
  | [] => 0
  | s :: l => (if s.road = i then s.hi else 0) + inflow i l
/-- Sources that are right. -/
def SrcOK (m : Nat) (L : List Source) : Prop := L.length ≤ 32 ∧ ∀ s ∈ L, 0 ≤ s.road ∧ s.road < m ∧ 0 ≤ s.lo ∧ s.lo ≤ s.hi ∧ s.hi ≤ 1099511627776
theorem srcErr_ok {m : Int} : ∀ {L : List Source}, srcErr m L = 0 ↔ ∀ s ∈ L, 0 ≤ s.road ∧ s.road < m ∧ 0 ≤ s.lo ∧ s.lo ≤ s.hi ∧ s.hi ≤ 1099511627776
  | [] => by simp [srcErr]
  | s :: l => by
    rw [srcErr]
    have ih := srcErr_ok (m := m) (L := l)
    constructor
    · intro h
      repeat' split at h
      all_goals first | (exfalso; omega) | skip
      intro x hx
      rcases List.mem_cons.1 hx with rfl | hx
      · omega
      · exact ih.1 h x hx
    · intro h
      have h1 := h s (List.mem_cons_self ..)
      rw [if_neg (by omega), if_neg (by omega), if_neg (by omega), if_neg (by omega), if_neg (by omega)]
      exact ih.2 fun x hx => h x (List.mem_cons_of_mem _ hx)
theorem checkG_ok {P : List Place} {R : List Road} {L : List Source} : checkG P R L = 0 ↔ checkM P R = 0 ∧ SrcOK R.length L := by
  unfold checkG SrcOK
  constructor
  · intro h
    split at h
    · exact absurd h (by assumption)
    · split at h
      · cases h
      · exact ⟨by omega, by omega, srcErr_ok.1 h⟩
  · rintro ⟨h1, h2, h3⟩
    rw [if_neg (by omega), if_neg (by omega)]
    exact srcErr_ok.2 h3
theorem inflow_range {m : Nat} (i : Nat) : ∀ {L : List Source}, (∀ s ∈ L, 0 ≤ s.road ∧ s.road < m ∧ 0 ≤ s.lo ∧ s.lo ≤ s.hi ∧ s.hi ≤ 1099511627776) → 0 ≤ inflow i L ∧ inflow i L ≤ 1099511627776 * L.length
  | [], _ => by simp [inflow]
  | s :: l, h => by
    have ih := inflow_range (m := m) i (L := l) fun x hx => h x (List.mem_cons_of_mem _ hx)
    have h1 := h s (List.mem_cons_self ..)
    simp only [inflow, List.length_cons]
    split <;> omega
open Classical in
noncomputable def p0G (P : List Place) (R : List Road) (f : List Span) (k : Nat) : Int := if k < P.length ∧ surf P k = false ∧ ((∀ (i : Nat) (d : Bool), i < R.length → can R f i d = true → endB R i d ≠ k) ∨ MixP P R f k) then 1000000 else 0
theorem p0G_two (P : List Place) (R : List Road) (f : List Span) (k : Nat) : p0G P R f k = 0 ∨ p0G P R f k = 1000000 := by
  unfold p0G; split
  · exact .inr rfl
  · exact .inl rfl
def moG (f : List Span) (L : List Source) (i : Nat) : Int := addG (f.getD i ⟨0, 0⟩).lo (f.getD i ⟨0, 0⟩).hi (inflow i L)
noncomputable def l104 : List (FuncId × Spec) := [(121, s121), (99, s99), (100, s100), (72, c72), (69, c69)]
def k104 : Code → Keep := keepOf [(4, ⟨[1, 2, 3, 9, 10, 11, 12, 13], [], []⟩), (8, ⟨[1, 2, 3, 9, 10, 11, 12, 13, 14, 15], [], []⟩), (15, ⟨[1, 2, 3, 9, 10, 11, 12, 13, 16, 17], [], []⟩), (24, ⟨[3, 9, 10, 11, 12, 20, 21], [], []⟩)]
noncomputable def h104_0 (fl : Nat) (t1b : Bool) (t1 : List Span) (t2b : Bool) (t2 : List Source) (t13 : Int) (m0_0b : Bool) (m0_0 : List Place) (m0_1b : Bool) (m0_1 : List Road) (m1 : List Int) (m2 : List Int) (m3 : List Int) (m4 : List Bool) : Option (AV × List Ob) := (evalH (env l104) Try.f104 k104 0 fl (stkF Try.f104 [1, 1, 1, 0, 1, 0]) ⟨[.one (.undef), .one (.vec t1b .span t1), .one (.vec t2b .source t2), .one (.ptr 0 0), .one (.undef), .one (.undef), .one (.undef), .one (.undef), .one (.undef), .one (.row 1), .one (.row 2), .one (.row 3), .one (.row 4), .one (.int .i64 t13), .one (.undef), .one (.undef), .one (.undef), .one (.undef), .one (.undef), .one (.undef), .one (.undef), .one (.undef), .one (.undef), .one (.undef), .one (.undef), .one (.undef), .one (.undef), .one (.undef), .one (.undef), .one (.undef), .one (.undef), .one (.undef), .one (.undef), .one (.undef), .one (.undef), .one (.undef), .one (.undef), .one (.undef), .one (.undef), .one (.undef), .one (.undef), .one (.undef), .one (.undef), .one (.undef), .one (.undef), .one (.undef), .one (.undef), .one (.undef), .one (.undef), .one (.undef), .one (.undef), .one (.undef), .one (.undef), .one (.undef), .one (.undef), .one (.undef), .one (.undef), .one (.undef), .one (.undef), .one (.undef), .one (.undef), .one (.undef), .one (.undef), .one (.undef), .one (.undef), .one (.undef), .one (.undef), .one (.undef), .one (.undef), .one (.undef), .one (.undef), .one (.undef), .one (.undef), .one (.undef), .one (.undef), .one (.undef), .one (.undef), .one (.undef), .one (.undef), .one (.undef), .one (.undef), .one (.undef), .one (.undef), .one (.undef), .one (.undef), .one (.undef), .one (.undef), .one (.undef), .one (.undef), .one (.undef), .one (.undef), .one (.undef), .one (.undef), .one (.undef), .one (.undef), .one (.undef), .one (.undef), .one (.undef), .one (.undef), .one (.undef), .one (.undef), .one (.undef), .one (.undef), .one (.undef), .one (.undef), .one (.undef), .one (.undef), .one (.undef), .one (.undef), .one (.undef), .one (.undef), .one (.undef), .one (.undef), .one (.undef), .one (.undef), .one (.undef), .one (.undef), .one (.undef), .one (.undef), .one (.undef), .one (.undef), .one (.undef), .one (.undef), .one (.undef), .one (.undef), .one (.undef), .one (.undef), .one (.undef), .one (.undef), .one (.undef), .one (.undef), .one (.undef)], [((0, 0), some (.cell (.vec m0_0b .place m0_0))), ((0, 1), some (.cell (.vec m0_1b .road m0_1))), ((1, 0), some (.rows .int m1)), ((2, 0), some (.rows .int m2)), ((3, 0), some (.rows .int m3)), ((4, 0), some (.rows .bool m4))], 5⟩).den
noncomputable def h104_1 (fl : Nat) (t1b : Bool) (t1 : List Span) (t2b : Bool) (t2 : List Source) (t13 : Int) (t14 : Int) (t15 : Int) (m0_0b : Bool) (m0_0 : List Place) (m0_1b : Bool) (m0_1 : List Road) (m1 : List Int) (m2 : List Int) (m3 : List Int) (m4 : List Bool) : Option (AV × List Ob) := (evalH (env l104) Try.f104 k104 0 fl (stkF Try.f104 [1, 1, 1, 0, 1, 0, 0, 1, 0, 0, 1, 0, 1, 0]) ⟨[.one (.undef), .one (.vec t1b .span t1), .one (.vec t2b .source t2), .one (.ptr 0 0), .one (.undef), .one (.undef), .one (.undef), .one (.undef), .one (.undef), .one (.row 1), .one (.row 2), .one (.row 3), .one (.row 4), .one (.int .i64 t13), .one (.int .i64 t14), .one (.int .i64 t15), .one (.undef), .one (.undef), .one (.undef), .one (.undef), .one (.undef), .one (.undef), .one (.undef), .one (.undef), .one (.undef), .one (.undef), .one (.undef), .one (.undef), .one (.undef), .one (.undef), .one (.undef), .one (.undef), .one (.undef), .one (.undef), .one (.undef), .one (.undef), .one (.undef), .one (.undef), .one (.undef), .one (.undef), .one (.undef), .one (.undef), .one (.undef), .one (.undef), .one (.undef), .one (.undef), .one (.undef), .one (.undef), .one (.undef), .one (.undef), .one (.undef), .one (.undef), .one (.undef), .one (.undef), .one (.undef), .one (.undef), .one (.undef), .one (.undef), .one (.undef), .one (.undef), .one (.undef), .one (.undef), .one (.undef), .one (.undef), .one (.undef), .one (.undef), .one (.undef), .one (.undef), .one (.undef), .one (.undef), .one (.undef), .one (.undef), .one (.undef), .one (.undef), .one (.undef), .one (.undef), .one (.undef), .one (.undef), .one (.undef), .one (.undef), .one (.undef), .one (.undef), .one (.undef), .one (.undef), .one (.undef), .one (.undef), .one (.undef), .one (.undef), .one (.undef), .one (.undef), .one (.undef), .one (.undef), .one (.undef), .one (.undef), .one (.undef), .one (.undef), .one (.undef), .one (.undef), .one (.undef), .one (.undef), .one (.undef), .one (.undef), .one (.undef), .one (.undef), .one (.undef), .one (.undef), .one (.undef), .one (.undef), .one (.undef), .one (.undef), .one (.undef), .one (.undef), .one (.undef), .one (.undef), .one (.undef), .one (.undef), .one (.undef), .one (.undef), .one (.undef), .one (.undef), .one (.undef), .one (.undef), .one (.undef), .one (.undef), .one (.undef), .one (.undef), .one (.undef), .one (.undef), .one (.undef), .one (.undef), .one (.undef), .one (.undef)], [((0, 0), some (.cell (.vec m0_0b .place m0_0))), ((0, 1), some (.cell (.vec m0_1b .road m0_1))), ((1, 0), some (.rows .int m1)), ((2, 0), some (.rows .int m2)), ((3, 0), some (.rows .int m3)), ((4, 0), some (.rows .bool m4))], 5⟩).den
noncomputable def h104_2 (fl : Nat) (t1b : Bool) (t1 : List Span) (t2b : Bool) (t2 : List Source) (t13 : Int) (t16 : Bool) (t17 : Int) (m0_0b : Bool) (m0_0 : List Place) (m0_1b : Bool) (m0_1 : List Road) (m1 : List Int) (m2 : List Int) (m3 : List Int) (m4 : List Bool) : Option (AV × List Ob) := (evalH (env l104) Try.f104 k104 0 fl (stkF Try.f104 [1, 1, 1, 0, 1, 0, 0, 1, 0, 0, 1, 1, 1, 1, 0, 1, 0]) ⟨[.one (.undef), .one (.vec t1b .span t1), .one (.vec t2b .source t2), .one (.ptr 0 0), .one (.undef), .one (.undef), .one (.undef), .one (.undef), .one (.undef), .one (.row 1), .one (.row 2), .one (.row 3), .one (.row 4), .one (.int .i64 t13), .one (.undef), .one (.undef), .one (.bool t16), .one (.int .i64 t17), .one (.undef), .one (.undef), .one (.undef), .one (.undef), .one (.undef), .one (.undef), .one (.undef), .one (.undef), .one (.undef), .one (.undef), .one (.undef), .one (.undef), .one (.undef), .one (.undef), .one (.undef), .one (.undef), .one (.undef), .one (.undef), .one (.undef), .one (.undef), .one (.undef), .one (.undef), .one (.undef), .one (.undef), .one (.undef), .one (.undef), .one (.undef), .one (.undef), .one (.undef), .one (.undef), .one (.undef), .one (.undef), .one (.undef), .one (.undef), .one (.undef), .one (.undef), .one (.undef), .one (.undef), .one (.undef), .one (.undef), .one (.undef), .one (.undef), .one (.undef), .one (.undef), .one (.undef), .one (.undef), .one (.undef), .one (.undef), .one (.undef), .one (.undef), .one (.undef), .one (.undef), .one (.undef), .one (.undef), .one (.undef), .one (.undef), .one (.undef), .one (.undef), .one (.undef), .one (.undef), .one (.undef), .one (.undef), .one (.undef), .one (.undef), .one (.undef), .one (.undef), .one (.undef), .one (.undef), .one (.undef), .one (.undef), .one (.undef), .one (.undef), .one (.undef), .one (.undef), .one (.undef), .one (.undef), .one (.undef), .one (.undef), .one (.undef), .one (.undef), .one (.undef), .one (.undef), .one (.undef), .one (.undef), .one (.undef), .one (.undef), .one (.undef), .one (.undef), .one (.undef), .one (.undef), .one (.undef), .one (.undef), .one (.undef), .one (.undef), .one (.undef), .one (.undef), .one (.undef), .one (.undef), .one (.undef), .one (.undef), .one (.undef), .one (.undef), .one (.undef), .one (.undef), .one (.undef), .one (.undef), .one (.undef), .one (.undef), .one (.undef), .one (.undef), .one (.undef), .one (.undef), .one (.undef), .one (.undef)], [((0, 0), some (.cell (.vec m0_0b .place m0_0))), ((0, 1), some (.cell (.vec m0_1b .road m0_1))), ((1, 0), some (.rows .int m1)), ((2, 0), some (.rows .int m2)), ((3, 0), some (.rows .int m3)), ((4, 0), some (.rows .bool m4))], 5⟩).den
noncomputable def h104_3 (fl : Nat) (t20 : List Int) (t21 : Int) (m0_0b : Bool) (m0_0 : List Place) (m0_1b : Bool) (m0_1 : List Road) (m1 : List Int) (m2 : List Int) (m3 : List Int) (m4 : List Bool) : Option (AV × List Ob) := (evalH (env l104) Try.f104 k104 0 fl (stkF Try.f104 [1, 1, 1, 1, 1, 0, 1, 0]) ⟨[.one (.undef), .one (.undef), .one (.undef), .one (.ptr 0 0), .one (.undef), .one (.undef), .one (.undef), .one (.undef), .one (.undef), .one (.row 1), .one (.row 2), .one (.row 3), .one (.row 4), .one (.undef), .one (.undef), .one (.undef), .one (.undef), .one (.undef), .one (.undef), .one (.undef), .one (.vec false .int t20), .one (.int .i64 t21), .one (.undef), .one (.undef), .one (.undef), .one (.undef), .one (.undef), .one (.undef), .one (.undef), .one (.undef), .one (.undef), .one (.undef), .one (.undef), .one (.undef), .one (.undef), .one (.undef), .one (.undef), .one (.undef), .one (.undef), .one (.undef), .one (.undef), .one (.undef), .one (.undef), .one (.undef), .one (.undef), .one (.undef), .one (.undef), .one (.undef), .one (.undef), .one (.undef), .one (.undef), .one (.undef), .one (.undef), .one (.undef), .one (.undef), .one (.undef), .one (.undef), .one (.undef), .one (.undef), .one (.undef), .one (.undef), .one (.undef), .one (.undef), .one (.undef), .one (.undef), .one (.undef), .one (.undef), .one (.undef), .one (.undef), .one (.undef), .one (.undef), .one (.undef), .one (.undef), .one (.undef), .one (.undef), .one (.undef), .one (.undef), .one (.undef), .one (.undef), .one (.undef), .one (.undef), .one (.undef), .one (.undef), .one (.undef), .one (.undef), .one (.undef), .one (.undef), .one (.undef), .one (.undef), .one (.undef), .one (.undef), .one (.undef), .one (.undef), .one (.undef), .one (.undef), .one (.undef), .one (.undef), .one (.undef), .one (.undef), .one (.undef), .one (.undef), .one (.undef), .one (.undef), .one (.undef), .one (.undef), .one (.undef), .one (.undef), .one (.undef), .one (.undef), .one (.undef), .one (.undef), .one (.undef), .one (.undef), .one (.undef), .one (.undef), .one (.undef), .one (.undef), .one (.undef), .one (.undef), .one (.undef), .one (.undef), .one (.undef), .one (.undef), .one (.undef), .one (.undef), .one (.undef), .one (.undef), .one (.undef), .one (.undef), .one (.undef), .one (.undef), .one (.undef)], [((0, 0), some (.cell (.vec m0_0b .place m0_0))), ((0, 1), some (.cell (.vec m0_1b .road m0_1))), ((1, 0), some (.rows .int m1)), ((2, 0), some (.rows .int m2)), ((3, 0), some (.rows .int m3)), ((4, 0), some (.rows .bool m4))], 5⟩).den
noncomputable def h104 (fl : Nat) (b1 : Bool) (P : List Place) (b2 : Bool) (R : List Road) (b3 : Bool) (f : List Span) (b4 : Bool) (L : List Source) : Option (AV × List Ob) := (evalF (env l104) Try.f104 k104 fl [.agg [.vec b1 .place P, .vec b2 .road R], .one (.vec b3 .span f), .one (.vec b4 .source L)] []).den
theorem h104_eq (fl : Nat) (b1 : Bool) (P : List Place) (b2 : Bool) (R : List Road) (b3 : Bool) (f : List Span) (b4 : Bool) (L : List Source) : h104 (fl + 1) b1 P b2 R b3 f b4 L =
    if (decide (0 ≤ (↑P.length : Int)) && (decide ((↑P.length : Int) ≤ 1048576) && (↑P.length : Int) == (↑P.length : Int))) = true then if (decide (0 ≤ (↑R.length : Int)) && (decide ((↑R.length : Int) ≤ 1048576) && (↑R.length : Int) == (↑R.length : Int))) = true then if (decide (0 ≤ (↑R.length : Int)) && (decide ((↑R.length : Int) ≤ 1048576) && (↑R.length : Int) == (↑R.length : Int))) = true then if (decide (0 ≤ (↑(List.replicate (↑P.length : Int).toNat (dflt K.int)).length : Int)) && (decide ((↑(List.replicate (↑P.length : Int).toNat (dflt K.int)).length : Int) ≤ 1048576) && (↑(List.replicate (↑P.length : Int).toNat (dflt K.int)).length : Int) == (↑(List.replicate (↑P.length : Int).toNat (dflt K.int)).length : Int))) = true then h104_0 fl b3 f b4 L 0 b1 P b2 R (List.replicate (↑P.length : Int).toNat (dflt K.int)) (List.replicate (↑R.length : Int).toNat (dflt K.int)) (List.replicate (↑R.length : Int).toNat (dflt K.int)) (List.replicate (↑(List.replicate (↑P.length : Int).toNat (dflt K.int)).length : Int).toNat (dflt K.bool))
          else none
        else none
      else none
    else none := by kernel_rfl
theorem h104_0_eq (fl : Nat) (t1b : Bool) (t1 : List Span) (t2b : Bool) (t2 : List Source) (t13 : Int) (m0_0b : Bool) (m0_0 : List Place) (m0_1b : Bool) (m0_1 : List Road) (m1 : List Int) (m2 : List Int) (m3 : List Int) (m4 : List Bool) : h104_0 (fl + 1) t1b t1 t2b t2 t13 m0_0b m0_0 m0_1b m0_1 m1 m2 m3 m4 =
    if (decide (t13 < (↑m2.length : Int))) = true then h104_1 fl t1b t1 t2b t2 t13 0 0 m0_0b m0_0 m0_1b m0_1 m1 m2 m3 m4
    else (o72 m0_0b m0_0 m0_1b m0_1 t1b t1).bind fun x3 =>
      h104_3 fl x3 0 m0_0b m0_0 m0_1b m0_1 m1 m2 m3 m4 := by kernel_rfl
theorem h104_1_eq (fl : Nat) (t1b : Bool) (t1 : List Span) (t2b : Bool) (t2 : List Source) (t13 : Int) (t14 : Int) (t15 : Int) (m0_0b : Bool) (m0_0 : List Place) (m0_1b : Bool) (m0_1 : List Road) (m1 : List Int) (m2 : List Int) (m3 : List Int) (m4 : List Bool) : h104_1 (fl + 1) t1b t1 t2b t2 t13 t14 t15 m0_0b m0_0 m0_1b m0_1 m1 m2 m3 m4 =
    if (decide (t15 < (↑t2.length : Int))) = true then if (idx t2.length t15) = true then if ((t2.getD t15.toNat (dflt K.source)).road == t13) = true then if (idx t2.length t15) = true then h104_1 fl t1b t1 t2b t2 t13 (IntKind.i64.wrap (t14 + (t2.getD t15.toNat (dflt K.source)).hi)) (IntKind.i64.wrap (t15 + 1)) m0_0b m0_0 m0_1b m0_1 m1 m2 m3 m4
          else none
        else h104_1 fl t1b t1 t2b t2 t13 t14 (IntKind.i64.wrap (t15 + 1)) m0_0b m0_0 m0_1b m0_1 m1 m2 m3 m4
      else none
    else if (idx t1.length t13) = true then if (decide (0 ≤ t14) && (decide (t14 ≤ 1125899906842624) && decide (-4611686018427387904 ≤ (t1.getD t13.toNat (dflt K.span)).hi))) = true then if (idx m3.length t13) = true then h104_2 fl t1b t1 t2b t2 t13 true 0 m0_0b m0_0 m0_1b m0_1 m1 m2 (m3.set t13.toNat (addG (t1.getD t13.toNat (dflt K.span)).lo (t1.getD t13.toNat (dflt K.span)).hi t14)) m4
          else none
        else none
      else none := by kernel_rfl
theorem h104_3_eq (fl : Nat) (t20 : List Int) (t21 : Int) (m0_0b : Bool) (m0_0 : List Place) (m0_1b : Bool) (m0_1 : List Road) (m1 : List Int) (m2 : List Int) (m3 : List Int) (m4 : List Bool) : h104_3 (fl + 1) t20 t21 m0_0b m0_0 m0_1b m0_1 m1 m2 m3 m4 =
    if (decide (t21 < (↑m1.length : Int))) = true then if (idx m0_0.length t21) = true then if (!(m0_0.getD t21.toNat (dflt K.place)).surface) = true then if (idx m4.length t21) = true then if (!m4.getD t21.toNat (dflt K.bool)) = true then if (idx m1.length t21) = true then h104_3 fl t20 (IntKind.i64.wrap (t21 + 1)) m0_0b m0_0 m0_1b m0_1 (m1.set t21.toNat 1000000) m2 m3 m4
              else none
            else (o69 t20 t21).bind fun x7 =>
              if x7 = true then if (idx m1.length t21) = true then h104_3 fl t20 (IntKind.i64.wrap (t21 + 1)) m0_0b m0_0 m0_1b m0_1 (m1.set t21.toNat 1000000) m2 m3 m4
                  else none
                else h104_3 fl t20 (IntKind.i64.wrap (t21 + 1)) m0_0b m0_0 m0_1b m0_1 m1 m2 m3 m4
          else none
        else h104_3 fl t20 (IntKind.i64.wrap (t21 + 1)) m0_0b m0_0 m0_1b m0_1 m1 m2 m3 m4
      else none
    else some (.tup [(false, [.row 0]), (false, [.row 1]), (false, [.row 2])], [.rows .int m1, .rows .int m2, .rows .int m3]) := by kernel_rfl
theorem h104_2_eq (fl : Nat) (t1b : Bool) (t1 : List Span) (t2b : Bool) (t2 : List Source) (t13 : Int) (t16 : Bool) (t17 : Int) (m0_0b : Bool) (m0_0 : List Place) (m0_1b : Bool) (m0_1 : List Road) (m1 : List Int) (m2 : List Int) (m3 : List Int) (m4 : List Bool) : h104_2 (fl + 1) t1b t1 t2b t2 t13 t16 t17 m0_0b m0_0 m0_1b m0_1 m1 m2 m3 m4 =
    if (decide (t17 < 2)) = true then if (idx m0_1.length t13 && idx t1.length t13) = true then if (can m0_1 t1 t13 (t17 == 1)) = true then if (idx m0_1.length t13) = true then if (idx m4.length (endB m0_1 t13 (t17 == 1))) = true then h104_2 fl t1b t1 t2b t2 t13 false (IntKind.i64.wrap (t17 + 1)) m0_0b m0_0 m0_1b m0_1 m1 m2 m3 (m4.set (endB m0_1 t13 (t17 == 1)).toNat true)
            else none
          else none
        else h104_2 fl t1b t1 t2b t2 t13 t16 (IntKind.i64.wrap (t17 + 1)) m0_0b m0_0 m0_1b m0_1 m1 m2 m3 m4
      else none
    else if t16 = true then if (idx m2.length t13) = true then h104_0 fl t1b t1 t2b t2 (IntKind.i64.wrap (t13 + 1)) m0_0b m0_0 m0_1b m0_1 m1 (m2.set t13.toNat 1000000) m3 m4
        else none
      else h104_0 fl t1b t1 t2b t2 (IntKind.i64.wrap (t13 + 1)) m0_0b m0_0 m0_1b m0_1 m1 m2 m3 m4 := by kernel_rfl
def dec104 : AV × List Ob → Option (List Int × List Int × List Int)
  | (.tup [(false, [.row 0]), (false, [.row 1]), (false, [.row 2])], [.rows .int a, .rows .int b, .rows .int c]) => some (a, b, c)
  | _ => none
theorem dec104_ok {y : AV × List Ob} {x : List Int × List Int × List Int} (h : dec104 y = some x) : (AV.tup [(false, [.row 0]), (false, [.row 1]), (false, [.row 2])], [Ob.rows .int x.1, Ob.rows .int x.2.1, Ob.rows .int x.2.2]) = y := by
  unfold dec104 at h
  split at h
  · cases h; rfl
  · cases h
noncomputable def o104 (b1 : Bool) (P : List Place) (b2 : Bool) (R : List Road) (b3 : Bool) (f : List Span) (b4 : Bool) (L : List Source) : Option (List Int × List Int × List Int) := (h104 20000 b1 P b2 R b3 f b4 L).bind (dec104)
noncomputable def c104 : Spec := ⟨false, fun av ob => match av, ob with
  | [.agg [.vec b1 .place P, .vec b2 .road R], .one (.vec b3 .span f), .one (.vec b4 .source L)], [] => .call (o104 b1 P b2 R b3 f b4 L) fun x => .ret (.tup [(false, [.row 0]), (false, [.row 1]), (false, [.row 2])], [.rows .int x.1, .rows .int x.2.1, .rows .int x.2.2])
  | _, _ => .fail⟩
theorem f104 : FnOK Try.prog 104 := fnOK_of Try.func104 rfl (by kernel_rfl)
theorem pc104 : SpecOK Try.prog 104 c104 := by
  refine spec_le (fun av ob r os hrn => ?_) (machS_ok (env_ok (l := l104) ⟨⟨p121, f121⟩, ⟨⟨p99, f99⟩, ⟨⟨p100, f100⟩, ⟨⟨pc72, f72⟩, ⟨⟨pc69, f69⟩, trivial⟩⟩⟩⟩⟩) mixed_ok Try.func104 k104 (fun _ _ => 20000) false)
  simp only [c104] at hrn
  split at hrn
  · rename_i b1 P b2 R b3 f b4 L
    obtain ⟨x, hx, hr⟩ := Option.bind_eq_some_iff.1 hrn
    cases hr
    obtain ⟨y, hy, hd⟩ := Option.bind_eq_some_iff.1 hx
    unfold h104 at hy
    rw [machS_run, dec104_ok hd]
    exact hy
  · cases hrn
theorem loop104_1 (b1 b2 b3 b4 : Bool) (P : List Place) (R : List Road) (f : List Span) (L : List Source) (m : Nat) (hL : SrcOK m L) (i : Nat) (m1 m2 m3 : List Int) (m4 : List Bool) : ∀ (d fl k : Nat) (acc : Int), L.length - k = d → k ≤ L.length → 0 ≤ acc → acc ≤ 1099511627776 * k → h104_1 (fl + d + 1) b3 f b4 L i acc k b1 P b2 R m1 m2 m3 m4 = h104_1 (fl + 1) b3 f b4 L i (acc + inflow i (L.drop k)) L.length b1 P b2 R m1 m2 m3 m4
  | 0, fl, k, acc, hd, hk, _, _ => by
    have : k = L.length := by omega
    subst this
    rw [List.drop_length]
    simp [inflow]
  | d + 1, fl, k, acc, hd, hk, ha, hb => by
    have hlt : k < L.length := by omega
    have hl := hL.1
    have hs := hL.2 _ (List.getElem_mem hlt)
    rw [h104_1_eq, if_pos (lt_nat hlt), if_pos (idx_nat hlt), if_pos (idx_nat hlt), at_lt hlt, wr_succ (by omega), List.drop_eq_getElem_cons hlt, inflow]
    generalize L[k] = s at *
    by_cases c : s.road = i
    · rw [if_pos (by simpa using c), wid (by omega) (by omega), if_pos c]
      have ih := loop104_1 b1 b2 b3 b4 P R f L m hL i m1 m2 m3 m4 d fl (k + 1) (acc + s.hi) (by omega) (by omega) (by omega) (by omega)
      rw [show acc + (s.hi + inflow i (L.drop (k + 1))) = acc + s.hi + inflow i (L.drop (k + 1)) by omega]
      exact ih
    · rw [if_neg (by simpa using c), if_neg c]
      have ih := loop104_1 b1 b2 b3 b4 P R f L m hL i m1 m2 m3 m4 d fl (k + 1) acc (by omega) (by omega) (by omega) (by omega)
      rw [show acc + (0 + inflow i (L.drop (k + 1))) = acc + inflow i (L.drop (k + 1)) by omega]
      exact ih
/-- To which places air comes by the roads so far. -/
def FedTo (R : List Road) (f : List Span) (n : Nat) (j : Nat) : Prop := ∃ (i : Nat) (d : Bool), i < n ∧ can R f i d = true ∧ endB R i d = j
structure BegG (P : List Place) (R : List Road) (f : List Span) (L : List Source) (n : Nat) (m2 m3 : List Int) (m4 : List Bool) : Prop where
  l2 : m2.length = R.length
  l3 : m3.length = R.length
  l4 : m4.length = P.length
  still : ∀ i, i < n → Still R f i → gx m2 i = 1000000
  moves : ∀ i, (i < n → ¬ Still R f i) → gx m2 i = 0
  more : ∀ i, i < n → gx m3 i = moG f L i
  fed : ∀ j, bt m4 j = true ↔ FedTo R f n j
theorem can_iff_still {R : List Road} {f : List Span} {i : Nat} : Still R f i ↔ can R f i false = false ∧ can R f i true = false :=
  ⟨fun h => ⟨h false, h true⟩, fun h d => by cases d <;> simp [h.1, h.2]⟩
theorem step104 (b1 b2 b3 b4 : Bool) (P : List Place) (R : List Road) (hR : RoadsIn P.length R) (hRl : R.length ≤ 128) (f : List Span) (hf : f.length = R.length) (hfb : ∀ i, i < R.length → -4611686018427387904 ≤ (f.getD i ⟨0, 0⟩).hi) (L : List Source) (hL : SrcOK R.length L) (m1 m2 m3 : List Int) (m4 : List Bool) (i : Nat) (hi : i < R.length) (hB : BegG P R f L i m2 m3 m4) (fl : Nat) :
    ∃ m2' m3' m4', BegG P R f L (i + 1) m2' m3' m4' ∧ h104_0 (fl + L.length + 5) b3 f b4 L i b1 P b2 R m1 m2 m3 m4 = h104_0 fl b3 f b4 L (i + 1 : Nat) b1 P b2 R m1 m2' m3' m4' := by
  have hs0 : dflt K.span = (⟨0, 0⟩ : Span) := rfl
  have hl2 := hB.l2
  have hl3 := hB.l3
  have hl4 := hB.l4
  have hll := hL.1
  have hr := inflow_range (m := R.length) i hL.2
  rw [show fl + L.length + 5 = (fl + 3 + L.length + 1) + 1 by omega, h104_0_eq, if_pos (by simp; omega)]
  have e1 := loop104_1 b1 b2 b3 b4 P R f L R.length hL i m1 m2 m3 m4 L.length (fl + 3) 0 0 (by omega) (by omega) (by omega) (by omega)
  rw [List.drop_zero, Int.zero_add] at e1
  have e1' : h104_1 (fl + 3 + L.length + 1) b3 f b4 L i 0 0 b1 P b2 R m1 m2 m3 m4 = _ := e1
  have i0 : (idx R.length (i : Int) && idx f.length (i : Int)) = true := by rw [idx_nat hi, idx_nat (by omega)]; rfl
  have d0 : ((0 : Int) == 1) = false := rfl
  have d1 : ((1 : Int) == 1) = true := rfl
  have w1 : IntKind.i64.wrap (0 + 1) = 1 := rfl
  have w2 : IntKind.i64.wrap (1 + 1) = 2 := rfl
  have x0 := ends_in hR hi false
  have x1 := ends_in hR hi true
  rw [e1', h104_1_eq, if_neg (by simp), if_pos (idx_nat (by omega)), hs0, Int.toNat_natCast, if_pos (by simp only [Bool.and_eq_true, decide_eq_true_eq]; exact ⟨hr.1, by omega, hfb i hi⟩), if_pos (idx_nat (by omega)), show fl + 3 = fl + 2 + 1 by omega, h104_2_eq, if_pos (by rfl), if_pos i0, d0, w1]
  have hm3 : ∀ k, k < i + 1 → gx (m3.set i (addG (f.getD i ⟨0, 0⟩).lo (f.getD i ⟨0, 0⟩).hi (inflow i L))) k = moG f L k := fun k hk => by
    rw [gx_set (by omega)]
    split
    · rename_i e; subst e; rfl
    · exact hB.more k (by omega)
  -- the end of the round
  have fin : ∀ (st : Bool) (m : List Bool) , (st = true ↔ Still R f i) → m.length = P.length → (∀ j, bt m j = true ↔ FedTo R f (i + 1) j) → ∃ m2' m3' m4', BegG P R f L (i + 1) m2' m3' m4' ∧ h104_2 (fl + 1) b3 f b4 L i st 2 b1 P b2 R m1 m2 (m3.set i (addG (f.getD i ⟨0, 0⟩).lo (f.getD i ⟨0, 0⟩).hi (inflow i L))) m = h104_0 fl b3 f b4 L (i + 1 : Nat) b1 P b2 R m1 m2' m3' m4' := fun st m hst hm hfed => by
    rw [h104_2_eq, if_neg (by simp), wr_succ (by omega)]
    cases st with
    | true =>
      rw [if_pos rfl, if_pos (idx_nat (by omega)), Int.toNat_natCast]
      refine ⟨_, _, _, ⟨by rw [List.length_set, hl2], by rw [List.length_set, hl3], hm, fun k hk hs => ?_, fun k hk => ?_, hm3, hfed⟩, rfl⟩
      · rw [gx_set (by omega)]
        split
        · rfl
        · exact hB.still k (by omega) hs
      · rw [gx_set (by omega)]
        split
        · rename_i e; subst e; exact absurd (hst.1 rfl) (hk (by omega))
        · exact hB.moves k fun h => hk (by omega)
    | false =>
      rw [if_neg (by simp)]
      refine ⟨_, _, _, ⟨hl2, by rw [List.length_set, hl3], hm, fun k hk hs => ?_, fun k hk => hB.moves k fun h => hk (by omega), hm3, hfed⟩, rfl⟩
      by_cases c : k = i
      · subst c; have := hst.2 hs; cases this
      · exact hB.still k (by omega) hs
  have second : ∀ (st : Bool) (m : List Bool), (st = true ↔ can R f i false = false) → m.length = P.length → (∀ j, bt m j = true ↔ FedTo R f i j ∨ (can R f i false = true ∧ endB R i false = j)) → ∃ m2' m3' m4', BegG P R f L (i + 1) m2' m3' m4' ∧ h104_2 (fl + 2) b3 f b4 L i st 1 b1 P b2 R m1 m2 (m3.set i (addG (f.getD i ⟨0, 0⟩).lo (f.getD i ⟨0, 0⟩).hi (inflow i L))) m = h104_0 fl b3 f b4 L (i + 1 : Nat) b1 P b2 R m1 m2' m3' m4' := fun st m hst hm hfed => by
    have hF : ∀ j, FedTo R f (i + 1) j ↔ FedTo R f i j ∨ (can R f i false = true ∧ endB R i false = j) ∨ (can R f i true = true ∧ endB R i true = j) := fun j => by
      constructor
      · rintro ⟨k, d, h1, h2, h3⟩
        by_cases c : k = i
        · subst c
          cases d
          · exact .inr (.inl ⟨h2, h3⟩)
          · exact .inr (.inr ⟨h2, h3⟩)
        · exact .inl ⟨k, d, by omega, h2, h3⟩
      · rintro (⟨k, d, h1, h2, h3⟩ | ⟨h2, h3⟩ | ⟨h2, h3⟩)
        · exact ⟨k, d, by omega, h2, h3⟩
        · exact ⟨i, false, by omega, h2, h3⟩
        · exact ⟨i, true, by omega, h2, h3⟩
    rw [h104_2_eq, if_pos (by rfl), if_pos i0, d1, w2]
    by_cases c : can R f i true = true
    · rw [if_pos c, if_pos (idx_nat hi), if_pos (idx_of x1.2.2.1 (by rw [hm]; exact x1.2.2.2))]
      refine fin false _ ?_ (by rw [List.length_set, hm]) (fun j => ?_)
      · rw [can_iff_still, c]; simp
      · rw [bt_set m (by omega), hF, ← or_assoc, ← hfed]
        by_cases e : j = (endB R i true).toNat
        · rw [if_pos e]
          simp only [true_iff]
          exact .inr ⟨c, by omega⟩
        · rw [if_neg e]
          constructor
          · exact .inl
          · rintro (h | ⟨_, h⟩)
            · exact h
            · exact absurd (by omega) e
    · have c' : can R f i true = false := by simpa using c
      rw [if_neg c]
      refine fin st m ?_ hm (fun j => ?_)
      · rw [can_iff_still, hst, c']; simp
      · rw [hF, ← or_assoc, ← hfed, c']; simp
  by_cases c : can R f i false = true
  · rw [if_pos c, if_pos (idx_nat hi), if_pos (idx_of x0.2.2.1 (by rw [hl4]; exact x0.2.2.2))]
    refine second false _ ?_ (by rw [List.length_set, hl4]) (fun j => ?_)
    · rw [c]; simp
    · rw [bt_set m4 (by omega), ← hB.fed]
      by_cases e : j = (endB R i false).toNat
      · rw [if_pos e]
        simp only [true_iff]
        exact .inr ⟨c, by omega⟩
      · rw [if_neg e]
        constructor
        · exact .inl
        · rintro (h | ⟨_, h⟩)
          · exact h
          · exact absurd (by omega) e
  · have c' : can R f i false = false := by simpa using c
    rw [if_neg c]
    refine second true m4 ?_ hl4 (fun j => ?_)
    · rw [c']; simp
    · rw [← hB.fed, c']; simp
theorem loop104_3 (b1 b2 : Bool) (P : List Place) (hP : P.length ≤ 64) (R : List Road) (f : List Span) (hr : rightM P R f = true) (m2 m3 : List Int) (m4 : List Bool) (h4 : m4.length = P.length) (hfed : ∀ j, bt m4 j = true ↔ FedTo R f R.length j) : ∀ (d fl k : Nat) (m1 : List Int), P.length - k = d → k ≤ P.length → d < fl → m1.length = P.length → (∀ j, gx m1 j = if j < k then p0G P R f j else 0) →
    ∃ m1', m1'.length = P.length ∧ (∀ j, gx m1' j = p0G P R f j) ∧ h104_3 fl (mixM P R f) k b1 P b2 R m1 m2 m3 m4 = some (.tup [(false, [.row 0]), (false, [.row 1]), (false, [.row 2])], [.rows .int m1', .rows .int m2, .rows .int m3])
  | d, fl, k, m1, hd, hk, hfl, hl, hm => by
    obtain ⟨fl, rfl⟩ : ∃ q, fl = q + 1 := ⟨fl - 1, by omega⟩
    have hb0 : dflt K.bool = false := rfl
    have hp0 : dflt K.place = place0 := rfl
    rw [h104_3_eq]
    by_cases hlt : k < P.length
    · obtain ⟨d, rfl⟩ : ∃ q, d = q + 1 := ⟨d - 1, by omega⟩
      have next := fun (m1 : List Int) (h1 : m1.length = P.length) (h2 : ∀ j, gx m1 j = if j < k + 1 then p0G P R f j else 0) => loop104_3 b1 b2 P hP R f hr m2 m3 m4 h4 hfed d fl (k + 1) m1 (by omega) (by omega) (by omega) h1 h2
      have keep : p0G P R f k = 0 → ∀ j, gx m1 j = if j < k + 1 then p0G P R f j else 0 := fun h j => by
        rw [hm j]
        by_cases c : j = k
        · subst c; rw [if_neg (by omega), if_pos (by omega), h]
        · by_cases c2 : j < k
          · rw [if_pos c2, if_pos (by omega)]
          · rw [if_neg c2, if_neg (by omega)]
      have put : p0G P R f k = 1000000 → ∀ j, gx (m1.set k 1000000) j = if j < k + 1 then p0G P R f j else 0 := fun h j => by
        rw [gx_set (by omega), hm j]
        by_cases c : j = k
        · subst c; rw [if_pos rfl, if_pos (by omega), h]
        · rw [if_neg c]
          by_cases c2 : j < k
          · rw [if_pos c2, if_pos (by omega)]
          · rw [if_neg c2, if_neg (by omega)]
      have ik : idx m1.length (k : Int) = true := idx_nat (by omega)
      have hmm : ((k : Int) ∈ mixM P R f) ↔ MixP P R f k := by
        rw [mem_mixM]
        constructor
        · rintro ⟨_, j, h1, h2, h3⟩
          have : j = k := by omega
          subst this; exact h2
        · exact fun h => ⟨hr, k, hlt, h, rfl⟩
      have ml := mixM_len P R f
      have nf : (∀ (i : Nat) (d : Bool), i < R.length → can R f i d = true → endB R i d ≠ k) ↔ ¬ bt m4 k = true := by
        rw [hfed]
        constructor
        · rintro h ⟨i, d, h1, h2, h3⟩; exact h i d h1 h2 h3
        · exact fun h i d h1 h2 h3 => h ⟨i, d, h1, h2, h3⟩
      rw [if_pos (show decide ((k : Int) < (m1.length : Int)) = true by simp; omega), if_pos (idx_nat hlt), hb0, hp0, Int.toNat_natCast, wr_succ (by omega)]
      by_cases c1 : surf P k = true
      · rw [if_neg (show ¬ (!(P.getD k place0).surface) = true by show ¬ (!surf P k) = true; rw [c1]; simp)]
        exact next m1 hl (keep (by unfold p0G; rw [if_neg (by rw [c1]; simp)]))
      have c1' : surf P k = false := by simpa using c1
      rw [if_pos (show (!(P.getD k place0).surface) = true by show (!surf P k) = true; rw [c1']; rfl), if_pos (idx_nat (by omega))]
      by_cases c2 : bt m4 k = true
      · rw [if_neg (show ¬ (!m4.getD k false) = true by show ¬ (!bt m4 k) = true; rw [c2]; simp), has_eq _ _ (by omega), Option.bind_some]
        by_cases c3 : MixP P R f k
        · rw [if_pos (decide_eq_true (hmm.2 c3)), if_pos ik]
          exact next _ (by rw [List.length_set, hl]) (put (by unfold p0G; rw [if_pos ⟨hlt, c1', .inr c3⟩]))
        · rw [if_neg (fun e => c3 (hmm.1 (of_decide_eq_true e)))]
          exact next m1 hl (keep (by unfold p0G; rw [if_neg (fun h => by
            rcases h.2.2 with g | g
            · exact nf.1 g c2
            · exact c3 g)]))
      · rw [if_pos (show (!m4.getD k false) = true by show (!bt m4 k) = true; simpa using c2), if_pos ik]
        exact next _ (by rw [List.length_set, hl]) (put (by unfold p0G; rw [if_pos ⟨hlt, c1', .inl (nf.2 c2)⟩]))
    · rw [if_neg (show ¬ decide ((k : Int) < (m1.length : Int)) = true by simp; omega)]
      refine ⟨m1, hl, fun j => ?_, rfl⟩
      rw [hm j]
      split
      · rfl
      · unfold p0G; rw [if_neg (by omega)]
theorem loop104_0 (b1 b2 b3 b4 : Bool) (P : List Place) (R : List Road) (f : List Span) (hr : rightM P R f = true) (hfb : ∀ i, i < R.length → -4611686018427387904 ≤ (f.getD i ⟨0, 0⟩).hi) (L : List Source) (hL : SrcOK R.length L) (m1 : List Int) (h1 : m1.length = P.length) (hz : ∀ j, gx m1 j = 0) : ∀ (d fl i : Nat) (m2 m3 : List Int) (m4 : List Bool), R.length - i = d → i ≤ R.length → d * 40 + 100 < fl → BegG P R f L i m2 m3 m4 →
    ∃ p r m m4', BegG P R f L R.length r m m4' ∧ p.length = P.length ∧ (∀ j, gx p j = p0G P R f j) ∧ h104_0 fl b3 f b4 L i b1 P b2 R m1 m2 m3 m4 = some (.tup [(false, [.row 0]), (false, [.row 1]), (false, [.row 2])], [.rows .int p, .rows .int r, .rows .int m])
  | d, fl, i, m2, m3, m4, hd, hi, hfl, hB => by
    obtain ⟨g1, g2, g3, g4⟩ := rightM_in hr
    have hll := hL.1
    by_cases hlt : i < R.length
    · obtain ⟨d, rfl⟩ : ∃ q, d = q + 1 := ⟨d - 1, by omega⟩
      obtain ⟨m2', m3', m4', hB', e⟩ := step104 b1 b2 b3 b4 P R g1 g3 f g2 hfb L hL m1 m2 m3 m4 i hlt hB (fl - L.length - 5)
      rw [show fl - L.length - 5 + L.length + 5 = fl by omega] at e
      rw [e]
      exact loop104_0 b1 b2 b3 b4 P R f hr hfb L hL m1 h1 hz d (fl - L.length - 5) (i + 1) m2' m3' m4' (by omega) (by omega) (by omega) hB'
    · obtain ⟨fl, rfl⟩ : ∃ q, fl = q + 1 := ⟨fl - 1, by omega⟩
      have : i = R.length := by omega
      subst this
      rw [h104_0_eq, if_neg (by simp [hB.l2]), rmixed_eq _ _ _ _ _ _ g4, Option.bind_some]
      obtain ⟨p, p1, p2, p3⟩ := loop104_3 b1 b2 P g4 R f hr m2 m3 m4 hB.l4 hB.fed P.length fl 0 m1 (by omega) (by omega) (by omega) h1 (fun j => by rw [hz j, if_neg (by omega)])
      exact ⟨p, m2, m3, m4, hB, p1, p2, p3⟩
theorem gx_replicate (n i : Nat) : gx (List.replicate n 0) i = 0 := by
  unfold gx
  rw [List.getD_eq_getElem?_getD, List.getElem?_replicate]
  split <;> rfl
structure BeginB (P : List Place) (R : List Road) (f : List Span) (L : List Source) (x : List Int × List Int × List Int) : Prop where
  pl : x.1.length = P.length
  rl : x.2.1.length = R.length
  ml : x.2.2.length = R.length
  p : ∀ j, gx x.1 j = p0G P R f j
  still : ∀ i, i < R.length → Still R f i → gx x.2.1 i = 1000000
  moves : ∀ i, (i < R.length → ¬ Still R f i) → gx x.2.1 i = 0
  more : ∀ i, i < R.length → gx x.2.2 i = moG f L i
theorem begin_ok (b1 b2 b3 b4 : Bool) (P : List Place) (R : List Road) (f : List Span) (hr : rightM P R f = true) (hfb : ∀ i, i < R.length → -4611686018427387904 ≤ (f.getD i ⟨0, 0⟩).hi) (L : List Source) (hL : SrcOK R.length L) : ∃ x, o104 b1 P b2 R b3 f b4 L = some x ∧ BeginB P R f L x := by
  obtain ⟨g1, g2, g3, g4⟩ := rightM_in hr
  have hi0 : dflt K.int = (0 : Int) := rfl
  have hb0 : dflt K.bool = false := rfl
  unfold o104
  rw [h104_eq, hi0, hb0]
  simp only [Int.toNat_natCast, List.length_replicate]
  have al : ∀ n : Nat, n ≤ 1000 → (decide (0 ≤ (n : Int)) && (decide ((n : Int) ≤ 1048576) && ((n : Int) == (n : Int)))) = true := fun n hn => by simp; omega
  rw [if_pos (al _ (by omega)), if_pos (al _ (by omega)), if_pos (al _ (by omega)), if_pos (al _ (by omega))]
  obtain ⟨p, r, m, m4, hB, p1, p2, e⟩ := loop104_0 b1 b2 b3 b4 P R f hr hfb L hL (List.replicate P.length 0) (by simp) (gx_replicate _) R.length 19999 0 (List.replicate R.length 0) (List.replicate R.length 0) (List.replicate P.length false) (by omega) (by omega) (by omega)
    ⟨by simp, by simp, by simp, fun i hi => by omega, fun i _ => gx_replicate _ _, fun i hi => by omega, fun j => by
      rw [bt_replicate]
      simp only [Bool.false_eq_true, false_iff]
      rintro ⟨i, _, h, _⟩
      omega⟩
  have e' : h104_0 19999 b3 f b4 L 0 b1 P b2 R (List.replicate P.length 0) (List.replicate R.length 0) (List.replicate R.length 0) (List.replicate P.length false) = _ := e
  rw [e']
  exact ⟨(p, r, m), rfl, p1, hB.l2, hB.l3, p2, hB.still, hB.moves, hB.more⟩
end Go.Proofs.Ytipfipnhgpbceaa.Sx
/- Sources of gas out of choices (plain theorems). -/


set_option linter.unusedVariables false
set_option linter.unusedSimpArgs false
set_option maxRecDepth 100000
namespace Go.Proofs.Ytipfipnhgpbceaa.Sx
open Go Go.RowKit
noncomputable def l51 : List (FuncId × Spec) := [(46, c46), (55, c55)]
def k51 : Code → Keep := keepOf [(3, ⟨[0, 1, 5, 6], [(5, .source)], []⟩)]
noncomputable def h51_0 (fl : Nat) (t1 : Int) (t6 : Int) (m0_0 : List Int) (m0_1 : Int) (m1 : List Source) : Option (AV × List Ob) := (evalH (env l51) Try.f51 k51 1 fl (stkF Try.f51 [1, 1, 0, 1, 0]) ⟨[.one (.ptr 0 0), .one (.int .i64 t1), .one (.undef), .one (.undef), .one (.undef), .one (.row 1), .one (.int .i64 t6), .one (.undef), .one (.undef), .one (.undef), .one (.undef), .one (.undef), .one (.undef), .one (.undef), .one (.undef), .one (.undef), .one (.undef), .one (.undef), .one (.undef), .one (.undef), .one (.undef), .one (.undef), .one (.undef), .one (.undef), .one (.undef), .one (.undef), .one (.undef), .one (.undef), .one (.undef), .one (.undef), .one (.undef), .one (.undef), .one (.undef), .one (.undef), .one (.undef), .one (.undef), .one (.undef), .one (.undef), .one (.undef), .one (.undef), .one (.undef), .one (.undef), .one (.undef)], [((0, 0), some (.cell (.vec false .u8 m0_0))), ((0, 1), some (.cell (.int .i64 m0_1))), ((1, 0), some (.rows .source m1))], 2⟩).den
noncomputable def h51 (fl : Nat) (n : Int) (l : List Int) (p : Int) : Option (AV × List Ob) := (evalF (env l51) Try.f51 k51 fl [.one (.ptr 0 0), .one (.int .i64 n)] [.box [.vec false .u8 l, .int .i64 p]]).den
theorem h51_eq (fl : Nat) (n : Int) (l : List Int) (p : Int) : h51 (fl + 1) n l p =
    (nextO l p 4).bind fun x2 =>
    h51_0 fl n x2.fst l x2.snd [] := by kernel_rfl
theorem h51_0_eq (fl : Nat) (t1 : Int) (t6 : Int) (m0_0 : List Int) (m0_1 : Int) (m1 : List Source) : h51_0 (fl + 1) t1 t6 m0_0 m0_1 m1 =
    if (decide (t6 > 0)) = true then (nextO m0_0 m0_1 (IntKind.i64.wrap (t1 + 1))).bind fun x3 =>
      (nextO m0_0 x3.snd 4000).bind fun x4 =>
        (nextO m0_0 x4.snd 300).bind fun x5 =>
          (oneO m0_0 x5.snd 12).bind fun x6 =>
            if x6.fst = true then if (decide ((m1).length + ([{ road := x3.fst, lo := IntKind.i64.wrap (IntKind.i64.wrap (x4.fst + x5.fst) + 1), hi := IntKind.i64.wrap (x4.fst + x5.fst) : Source }]).length ≤ lim)) = true then h51_0 fl t1 (IntKind.i64.wrap (t6 - 1)) m0_0 x6.snd (m1 ++ [{ road := x3.fst, lo := IntKind.i64.wrap (IntKind.i64.wrap (x4.fst + x5.fst) + 1), hi := IntKind.i64.wrap (x4.fst + x5.fst) : Source }])
                else none
              else if (decide ((m1).length + ([{ road := x3.fst, lo := x4.fst, hi := IntKind.i64.wrap (x4.fst + x5.fst) : Source }]).length ≤ lim)) = true then h51_0 fl t1 (IntKind.i64.wrap (t6 - 1)) m0_0 x6.snd (m1 ++ [{ road := x3.fst, lo := x4.fst, hi := IntKind.i64.wrap (x4.fst + x5.fst) : Source }])
                else none
    else some (.one (.row 1), [.box [.vec false .u8 m0_0, .int .i64 m0_1], .rows .source m1]) := by kernel_rfl
def decSrcs (l : List Int) : AV × List Ob → Option (List Source × Int)
  | (.one s, .box [.vec false .u8 l', .int .i64 p'] :: os) => if l' = l then (slO .source 1 (.box [.vec false .u8 l', .int .i64 p'] :: os) s).map fun x => (x, p') else none
  | _ => none
theorem decSrcs_ok {l : List Int} {y : AV × List Ob} {x : List Source × Int} (h : decSrcs l y = some x) : [Ob.box [.vec false .u8 l, .int .i64 x.2]] = y.2.take 1 ∧ TA y.2 1 y.1 (.one (.vec false .source x.1)) := by
  unfold decSrcs at h
  split at h
  · split at h
    · rename_i e
      subst e
      obtain ⟨z, hz, hx⟩ := Option.map_eq_some_iff.1 h
      subst hx
      exact ⟨rfl, .one _ _ (slO_ok hz) (slO_undef hz)⟩
    · cases h
  · cases h
noncomputable def o51 (n : Int) (l : List Int) (p : Int) : Option (List Source × Int) := (h51 100 n l p).bind (decSrcs l)
noncomputable def c51 : Spec := ⟨false, fun av ob => match av, ob with
  | [.one (.ptr 0 0), .one (.int .i64 n)], [.box [.vec false .u8 l, .int .i64 p]] => .call (o51 n l p) fun x => .ret (.one (.vec false .source x.1), [.box [.vec false .u8 l, .int .i64 x.2]])
  | _, _ => .fail⟩
theorem f51 : FnOK Try.prog 51 := fnOK_of Try.func51 rfl (by kernel_rfl)
theorem pc51 : SpecOK Try.prog 51 c51 := by
  refine spec_thaw (fun av ob r os hrn => ?_) (machS_ok (env_ok (l := l51) ⟨⟨pc46, f46⟩, ⟨⟨pc55, f55⟩, trivial⟩⟩) mixed_ok Try.func51 k51 (fun _ _ => 100) false)
  simp only [c51] at hrn
  split at hrn
  · rename_i n l p
    obtain ⟨x, hx, hr⟩ := Option.bind_eq_some_iff.1 hrn
    cases hr
    obtain ⟨y, hy, hd⟩ := Option.bind_eq_some_iff.1 hx
    unfold h51 at hy
    obtain ⟨d1, d2⟩ := decSrcs_ok hd
    exact ⟨y.1, y.2, by rw [machS_run]; exact hy, d1, d2⟩
  · cases hrn
/-- Sources as they are made: all right, but that the least inflow may be greater than the greatest one by 1. -/
def SrcD (n : Int) (L : List Source) : Prop := ∀ s ∈ L, 0 ≤ s.road ∧ s.road ≤ n ∧ 0 ≤ s.lo ∧ 0 ≤ s.hi ∧ s.hi ≤ 5000
theorem SrcD.add {n : Int} {L : List Source} (h : SrcD n L) {s : Source} (hs : 0 ≤ s.road ∧ s.road ≤ n ∧ 0 ≤ s.lo ∧ 0 ≤ s.hi ∧ s.hi ≤ 5000) : SrcD n (L ++ [s]) := fun x hx => by
  rcases List.mem_append.1 hx with h1 | h1
  · exact h x h1
  · have : x = s := by simpa using h1
    rw [this]; exact hs
theorem sources_loop (l : List Int) (n : Int) (hn : 0 ≤ n ∧ n ≤ 1000) : ∀ (m fl : Nat) (p : Int) (c : List Source), m < fl → cok l p = true → c.length + m ≤ 3 → SrcD n c →
    ∃ c' q, h51_0 fl n m l p c = some (.one (.row 1), [.box [.vec false .u8 l, .int .i64 q], .rows .source c']) ∧ SrcD n c' ∧ c'.length ≤ 3 ∧ cok l q = true
  | 0, fl, p, c, hf, hk, hc, hD => by
    obtain ⟨fl, rfl⟩ : ∃ q, fl = q + 1 := ⟨fl - 1, by omega⟩
    rw [h51_0_eq, if_neg (by simp)]
    exact ⟨c, p, rfl, hD, by omega, hk⟩
  | m + 1, fl, p, c, hf, hk, hc, hD => by
    obtain ⟨fl, rfl⟩ : ∃ q, fl = q + 1 := ⟨fl - 1, by omega⟩
    have hw : IntKind.i64.wrap (n + 1) = n + 1 := wid (by omega) (by omega)
    obtain ⟨v1, p1, e1, a1, b1, k1⟩ := next_ok (n := n + 1) hk (by omega)
    obtain ⟨v2, p2, e2, a2, b2, k2⟩ := next_ok (n := 4000) k1 (by omega)
    obtain ⟨v3, p3, e3, a3, b3, k3⟩ := next_ok (n := 300) k2 (by omega)
    obtain ⟨v4, p4, e4, k4⟩ := one_ok (n := 12) k3
    have h1 : IntKind.i64.wrap (v2 + v3) = v2 + v3 := wid (by omega) (by omega)
    have h2 : IntKind.i64.wrap (v2 + v3 + 1) = v2 + v3 + 1 := wid (by omega) (by omega)
    have h3 : IntKind.i64.wrap (((m + 1 : Nat) : Int) - 1) = (m : Int) := by rw [wid (by omega) (by omega)]; omega
    rw [h51_0_eq, if_pos (show decide (((m + 1 : Nat) : Int) > 0) = true from decide_eq_true (by omega)), hw, e1, Option.bind_some, e2, Option.bind_some, e3, Option.bind_some, e4, Option.bind_some, h1, h2, h3]
    by_cases c4 : v4 = true
    · rw [if_pos c4, if_pos (show decide (c.length + [_].length ≤ lim) = true by simp [lim]; omega)]
      exact sources_loop l n hn m fl p4 (c ++ [⟨v1, v2 + v3 + 1, v2 + v3⟩]) (by omega) k4 (by simp; omega) (hD.add (s := ⟨v1, v2 + v3 + 1, v2 + v3⟩) ⟨a1, by dsimp only; omega, by dsimp only; omega, by dsimp only; omega, by dsimp only; omega⟩)
    · rw [if_neg c4, if_pos (show decide (c.length + [_].length ≤ lim) = true by simp [lim]; omega)]
      exact sources_loop l n hn m fl p4 (c ++ [⟨v1, v2, v2 + v3⟩]) (by omega) k4 (by simp; omega) (hD.add (s := ⟨v1, v2, v2 + v3⟩) ⟨a1, by dsimp only; omega, a2, by dsimp only; omega, by dsimp only; omega⟩)
theorem sources_ok {l : List Int} {p n : Int} (hn : 0 ≤ n ∧ n ≤ 1000) (hk : cok l p = true) : ∃ L q, o51 n l p = some (L, q) ∧ SrcD n L ∧ L.length ≤ 3 ∧ cok l q = true := by
  obtain ⟨v1, p1, e1, a1, b1, k1⟩ := next_ok (n := 4) hk (by omega)
  obtain ⟨m, rfl⟩ : ∃ m : Nat, v1 = m := ⟨v1.toNat, by omega⟩
  obtain ⟨c', q, e, h1, h2, h3⟩ := sources_loop l n hn m 99 p1 [] (by omega) k1 (by show 0 + m ≤ 3; omega) (fun x hx => by cases hx)
  unfold o51
  rw [h51_eq, e1, Option.bind_some]
  exact ⟨c', q, by dsimp only; rw [e]; simp [decSrcs, slO], h1, h2, h3⟩
end Go.Proofs.Ytipfipnhgpbceaa.Sx
/- The greatest concentrations, by the document's text: the least numbers that are closed (plain theorems). -/

set_option linter.unusedVariables false
set_option linter.unusedSimpArgs false
set_option maxRecDepth 100000
namespace Go.Proofs.Ytipfipnhgpbceaa.Sx
open Go Go.RowKit
noncomputable def l75 : List (FuncId × Spec) := [(77, s77), (104, c104), (99, s99), (100, s100)]
def k75 : Code → Keep := keepOf [(8, ⟨[1, 3, 10, 11, 12, 13], [], []⟩), (11, ⟨[1, 3, 10, 11, 12, 13, 14], [], []⟩), (14, ⟨[1, 3, 10, 11, 12, 13, 14, 15], [], []⟩)]
noncomputable def h75_0 (fl : Nat) (t1b : Bool) (t1 : List Span) (t13 : Bool) (m0_0b : Bool) (m0_0 : List Place) (m0_1b : Bool) (m0_1 : List Road) (m1 : List Int) (m2 : List Int) (m3 : List Int) : Option (AV × List Ob) := (evalH (env l75) Try.f75 k75 0 fl (stkF Try.f75 [1, 1, 1, 1, 0, 1, 0]) ⟨[.one (.undef), .one (.vec t1b .span t1), .one (.undef), .one (.ptr 0 0), .one (.undef), .one (.undef), .one (.undef), .one (.undef), .one (.undef), .one (.undef), .one (.row 1), .one (.row 2), .one (.row 3), .one (.bool t13), .one (.undef), .one (.undef), .one (.undef), .one (.undef), .one (.undef), .one (.undef), .one (.undef), .one (.undef), .one (.undef), .one (.undef), .one (.undef), .one (.undef), .one (.undef), .one (.undef), .one (.undef), .one (.undef), .one (.undef), .one (.undef), .one (.undef), .one (.undef), .one (.undef), .one (.undef), .one (.undef), .one (.undef), .one (.undef), .one (.undef), .one (.undef), .one (.undef), .one (.undef), .one (.undef), .one (.undef), .one (.undef), .one (.undef), .one (.undef), .one (.undef), .one (.undef), .one (.undef), .one (.undef), .one (.undef), .one (.undef), .one (.undef), .one (.undef), .one (.undef), .one (.undef), .one (.undef), .one (.undef), .one (.undef), .one (.undef), .one (.undef), .one (.undef), .one (.undef), .one (.undef), .one (.undef), .one (.undef), .one (.undef), .one (.undef), .one (.undef), .one (.undef), .one (.undef), .one (.undef), .one (.undef), .one (.undef), .one (.undef), .one (.undef), .one (.undef), .one (.undef), .one (.undef), .one (.undef), .one (.undef), .one (.undef), .one (.undef), .one (.undef), .one (.undef), .one (.undef), .one (.undef), .one (.undef), .one (.undef), .one (.undef), .one (.undef), .one (.undef), .one (.undef), .one (.undef), .one (.undef), .one (.undef), .one (.undef), .one (.undef), .one (.undef), .one (.undef), .one (.undef), .one (.undef), .one (.undef), .one (.undef), .one (.undef), .one (.undef), .one (.undef), .one (.undef), .one (.undef), .one (.undef)], [((0, 0), some (.cell (.vec m0_0b .place m0_0))), ((0, 1), some (.cell (.vec m0_1b .road m0_1))), ((1, 0), some (.rows .int m1)), ((2, 0), some (.rows .int m2)), ((3, 0), some (.rows .int m3))], 4⟩).den
noncomputable def h75_1 (fl : Nat) (t1b : Bool) (t1 : List Span) (t13 : Bool) (t14 : Int) (m0_0b : Bool) (m0_0 : List Place) (m0_1b : Bool) (m0_1 : List Road) (m1 : List Int) (m2 : List Int) (m3 : List Int) : Option (AV × List Ob) := (evalH (env l75) Try.f75 k75 0 fl (stkF Try.f75 [1, 1, 1, 1, 0, 1, 0, 0, 1, 0, 1, 1, 0]) ⟨[.one (.undef), .one (.vec t1b .span t1), .one (.undef), .one (.ptr 0 0), .one (.undef), .one (.undef), .one (.undef), .one (.undef), .one (.undef), .one (.undef), .one (.row 1), .one (.row 2), .one (.row 3), .one (.bool t13), .one (.int .i64 t14), .one (.undef), .one (.undef), .one (.undef), .one (.undef), .one (.undef), .one (.undef), .one (.undef), .one (.undef), .one (.undef), .one (.undef), .one (.undef), .one (.undef), .one (.undef), .one (.undef), .one (.undef), .one (.undef), .one (.undef), .one (.undef), .one (.undef), .one (.undef), .one (.undef), .one (.undef), .one (.undef), .one (.undef), .one (.undef), .one (.undef), .one (.undef), .one (.undef), .one (.undef), .one (.undef), .one (.undef), .one (.undef), .one (.undef), .one (.undef), .one (.undef), .one (.undef), .one (.undef), .one (.undef), .one (.undef), .one (.undef), .one (.undef), .one (.undef), .one (.undef), .one (.undef), .one (.undef), .one (.undef), .one (.undef), .one (.undef), .one (.undef), .one (.undef), .one (.undef), .one (.undef), .one (.undef), .one (.undef), .one (.undef), .one (.undef), .one (.undef), .one (.undef), .one (.undef), .one (.undef), .one (.undef), .one (.undef), .one (.undef), .one (.undef), .one (.undef), .one (.undef), .one (.undef), .one (.undef), .one (.undef), .one (.undef), .one (.undef), .one (.undef), .one (.undef), .one (.undef), .one (.undef), .one (.undef), .one (.undef), .one (.undef), .one (.undef), .one (.undef), .one (.undef), .one (.undef), .one (.undef), .one (.undef), .one (.undef), .one (.undef), .one (.undef), .one (.undef), .one (.undef), .one (.undef), .one (.undef), .one (.undef), .one (.undef), .one (.undef), .one (.undef), .one (.undef), .one (.undef)], [((0, 0), some (.cell (.vec m0_0b .place m0_0))), ((0, 1), some (.cell (.vec m0_1b .road m0_1))), ((1, 0), some (.rows .int m1)), ((2, 0), some (.rows .int m2)), ((3, 0), some (.rows .int m3))], 4⟩).den
noncomputable def h75_2 (fl : Nat) (t1b : Bool) (t1 : List Span) (t13 : Bool) (t14 : Int) (t15 : Int) (m0_0b : Bool) (m0_0 : List Place) (m0_1b : Bool) (m0_1 : List Road) (m1 : List Int) (m2 : List Int) (m3 : List Int) : Option (AV × List Ob) := (evalH (env l75) Try.f75 k75 0 fl (stkF Try.f75 [1, 1, 1, 1, 0, 1, 0, 0, 1, 0, 1, 1, 0, 0, 1, 0, 0, 1, 0]) ⟨[.one (.undef), .one (.vec t1b .span t1), .one (.undef), .one (.ptr 0 0), .one (.undef), .one (.undef), .one (.undef), .one (.undef), .one (.undef), .one (.undef), .one (.row 1), .one (.row 2), .one (.row 3), .one (.bool t13), .one (.int .i64 t14), .one (.int .i64 t15), .one (.undef), .one (.undef), .one (.undef), .one (.undef), .one (.undef), .one (.undef), .one (.undef), .one (.undef), .one (.undef), .one (.undef), .one (.undef), .one (.undef), .one (.undef), .one (.undef), .one (.undef), .one (.undef), .one (.undef), .one (.undef), .one (.undef), .one (.undef), .one (.undef), .one (.undef), .one (.undef), .one (.undef), .one (.undef), .one (.undef), .one (.undef), .one (.undef), .one (.undef), .one (.undef), .one (.undef), .one (.undef), .one (.undef), .one (.undef), .one (.undef), .one (.undef), .one (.undef), .one (.undef), .one (.undef), .one (.undef), .one (.undef), .one (.undef), .one (.undef), .one (.undef), .one (.undef), .one (.undef), .one (.undef), .one (.undef), .one (.undef), .one (.undef), .one (.undef), .one (.undef), .one (.undef), .one (.undef), .one (.undef), .one (.undef), .one (.undef), .one (.undef), .one (.undef), .one (.undef), .one (.undef), .one (.undef), .one (.undef), .one (.undef), .one (.undef), .one (.undef), .one (.undef), .one (.undef), .one (.undef), .one (.undef), .one (.undef), .one (.undef), .one (.undef), .one (.undef), .one (.undef), .one (.undef), .one (.undef), .one (.undef), .one (.undef), .one (.undef), .one (.undef), .one (.undef), .one (.undef), .one (.undef), .one (.undef), .one (.undef), .one (.undef), .one (.undef), .one (.undef), .one (.undef), .one (.undef), .one (.undef), .one (.undef), .one (.undef), .one (.undef), .one (.undef)], [((0, 0), some (.cell (.vec m0_0b .place m0_0))), ((0, 1), some (.cell (.vec m0_1b .road m0_1))), ((1, 0), some (.rows .int m1)), ((2, 0), some (.rows .int m2)), ((3, 0), some (.rows .int m3))], 4⟩).den
noncomputable def h75 (fl : Nat) (b1 : Bool) (P : List Place) (b2 : Bool) (R : List Road) (b3 : Bool) (f : List Span) (b4 : Bool) (L : List Source) : Option (AV × List Ob) := (evalF (env l75) Try.f75 k75 fl [.agg [.vec b1 .place P, .vec b2 .road R], .one (.vec b3 .span f), .one (.vec b4 .source L)] []).den
theorem h75_eq (fl : Nat) (b1 : Bool) (P : List Place) (b2 : Bool) (R : List Road) (b3 : Bool) (f : List Span) (b4 : Bool) (L : List Source) : h75 (fl + 1) b1 P b2 R b3 f b4 L =
    if (checkG P R L != 0) = true then some (.tup [(false, [.nils]), (false, [.nils]), (false, [.int .i64 (checkG P R L)])], [])
    else if ((↑f.length : Int) != (↑R.length : Int)) = true then some (.tup [(false, [.nils]), (false, [.nils]), (false, [.int .i64 11])], [])
      else (o104 b1 P b2 R b3 f b4 L).bind fun x4 =>
        h75_0 fl b3 f true b1 P b2 R x4.fst x4.snd.fst x4.snd.snd := by kernel_rfl
theorem h75_0_eq (fl : Nat) (t1b : Bool) (t1 : List Span) (t13 : Bool) (m0_0b : Bool) (m0_0 : List Place) (m0_1b : Bool) (m0_1 : List Road) (m1 : List Int) (m2 : List Int) (m3 : List Int) : h75_0 (fl + 1) t1b t1 t13 m0_0b m0_0 m0_1b m0_1 m1 m2 m3 =
    if t13 = true then h75_1 fl t1b t1 false 0 m0_0b m0_0 m0_1b m0_1 m1 m2 m3
    else some (.tup [(false, [.row 0]), (false, [.row 1]), (false, [.int .i64 0])], [.rows .int m1, .rows .int m2]) := by kernel_rfl
theorem h75_1_eq (fl : Nat) (t1b : Bool) (t1 : List Span) (t13 : Bool) (t14 : Int) (m0_0b : Bool) (m0_0 : List Place) (m0_1b : Bool) (m0_1 : List Road) (m1 : List Int) (m2 : List Int) (m3 : List Int) : h75_1 (fl + 1) t1b t1 t13 t14 m0_0b m0_0 m0_1b m0_1 m1 m2 m3 =
    if (decide (t14 < (↑m2.length : Int))) = true then h75_2 fl t1b t1 t13 t14 0 m0_0b m0_0 m0_1b m0_1 m1 m2 m3
    else h75_0 fl t1b t1 t13 m0_0b m0_0 m0_1b m0_1 m1 m2 m3 := by kernel_rfl
theorem h75_2_eq (fl : Nat) (t1b : Bool) (t1 : List Span) (t13 : Bool) (t14 : Int) (t15 : Int) (m0_0b : Bool) (m0_0 : List Place) (m0_1b : Bool) (m0_1 : List Road) (m1 : List Int) (m2 : List Int) (m3 : List Int) : h75_2 (fl + 1) t1b t1 t13 t14 t15 m0_0b m0_0 m0_1b m0_1 m1 m2 m3 =
    if (decide (t15 < 2)) = true then if (idx m0_1.length t14 && idx t1.length t14) = true then if (!can m0_1 t1 t14 (t15 == 1)) = true then h75_2 fl t1b t1 t13 t14 (IntKind.i64.wrap (t15 + 1)) m0_0b m0_0 m0_1b m0_1 m1 m2 m3
        else if (idx m0_1.length t14) = true then if (idx m1.length (endA m0_1 t14 (t15 == 1))) = true then if (idx m3.length t14) = true then if (idx m2.length t14) = true then if (decide (mn 1000000 (IntKind.i64.wrap (m1.getD (endA m0_1 t14 (t15 == 1)).toNat (dflt K.int) + m3.getD t14.toNat (dflt K.int))) > m2.getD t14.toNat (dflt K.int))) = true then if (idx m2.length t14) = true then if (idx m0_0.length (endB m0_1 t14 (t15 == 1))) = true then if (!(m0_0.getD (endB m0_1 t14 (t15 == 1)).toNat (dflt K.place)).surface) = true then if (idx (m2.set t14.toNat (mn 1000000 (IntKind.i64.wrap (m1.getD (endA m0_1 t14 (t15 == 1)).toNat (dflt K.int) + m3.getD t14.toNat (dflt K.int))))).length t14) = true then if (idx m1.length (endB m0_1 t14 (t15 == 1))) = true then if (decide ((m2.set t14.toNat (mn 1000000 (IntKind.i64.wrap (m1.getD (endA m0_1 t14 (t15 == 1)).toNat (dflt K.int) + m3.getD t14.toNat (dflt K.int))))).getD t14.toNat (dflt K.int) > m1.getD (endB m0_1 t14 (t15 == 1)).toNat (dflt K.int))) = true then if (idx (m2.set t14.toNat (mn 1000000 (IntKind.i64.wrap (m1.getD (endA m0_1 t14 (t15 == 1)).toNat (dflt K.int) + m3.getD t14.toNat (dflt K.int))))).length t14) = true then if (idx m1.length (endB m0_1 t14 (t15 == 1))) = true then h75_2 fl t1b t1 true t14 (IntKind.i64.wrap (t15 + 1)) m0_0b m0_0 m0_1b m0_1 (m1.set (endB m0_1 t14 (t15 == 1)).toNat ((m2.set t14.toNat (mn 1000000 (IntKind.i64.wrap (m1.getD (endA m0_1 t14 (t15 == 1)).toNat (dflt K.int) + m3.getD t14.toNat (dflt K.int))))).getD t14.toNat (dflt K.int))) (m2.set t14.toNat (mn 1000000 (IntKind.i64.wrap (m1.getD (endA m0_1 t14 (t15 == 1)).toNat (dflt K.int) + m3.getD t14.toNat (dflt K.int))))) m3
                                  else none
                                else none
                              else h75_2 fl t1b t1 true t14 (IntKind.i64.wrap (t15 + 1)) m0_0b m0_0 m0_1b m0_1 m1 (m2.set t14.toNat (mn 1000000 (IntKind.i64.wrap (m1.getD (endA m0_1 t14 (t15 == 1)).toNat (dflt K.int) + m3.getD t14.toNat (dflt K.int))))) m3
                            else none
                          else none
                        else h75_2 fl t1b t1 true t14 (IntKind.i64.wrap (t15 + 1)) m0_0b m0_0 m0_1b m0_1 m1 (m2.set t14.toNat (mn 1000000 (IntKind.i64.wrap (m1.getD (endA m0_1 t14 (t15 == 1)).toNat (dflt K.int) + m3.getD t14.toNat (dflt K.int))))) m3
                      else none
                    else none
                  else if (idx m0_0.length (endB m0_1 t14 (t15 == 1))) = true then if (!(m0_0.getD (endB m0_1 t14 (t15 == 1)).toNat (dflt K.place)).surface) = true then if (idx m2.length t14) = true then if (idx m1.length (endB m0_1 t14 (t15 == 1))) = true then if (decide (m2.getD t14.toNat (dflt K.int) > m1.getD (endB m0_1 t14 (t15 == 1)).toNat (dflt K.int))) = true then if (idx m2.length t14) = true then if (idx m1.length (endB m0_1 t14 (t15 == 1))) = true then h75_2 fl t1b t1 true t14 (IntKind.i64.wrap (t15 + 1)) m0_0b m0_0 m0_1b m0_1 (m1.set (endB m0_1 t14 (t15 == 1)).toNat (m2.getD t14.toNat (dflt K.int))) m2 m3
                                else none
                              else none
                            else h75_2 fl t1b t1 t13 t14 (IntKind.i64.wrap (t15 + 1)) m0_0b m0_0 m0_1b m0_1 m1 m2 m3
                          else none
                        else none
                      else h75_2 fl t1b t1 t13 t14 (IntKind.i64.wrap (t15 + 1)) m0_0b m0_0 m0_1b m0_1 m1 m2 m3
                    else none
                else none
              else none
            else none
          else none
      else none
    else h75_1 fl t1b t1 t13 (IntKind.i64.wrap (t14 + 1)) m0_0b m0_0 m0_1b m0_1 m1 m2 m3 := by kernel_rfl
def decMost : AV × List Ob → Option (List Int × List Int × Int)
  | (.tup [(false, [s1]), (false, [s2]), (false, [.int .i64 e])], os) =>
      (match slO .int 0 os s1, slO .int 0 os s2 with
      | some a, some b => some (a, b, e)
      | _, _ => none)
  | _ => none
theorem decMost_ok {y : AV × List Ob} {x : List Int × List Int × Int} (h : decMost y = some x) : ([] : List Ob) = y.2.take 0 ∧ TA y.2 0 y.1 (.tup [(false, [.vec false .int x.1]), (false, [.vec false .int x.2.1]), (false, [.int .i64 x.2.2])]) := by
  unfold decMost at h
  split at h
  · split at h
    · rename_i h1 h2
      cases h
      exact ⟨rfl, .tup _ _ ⟨⟨rfl, slO_ok h1, trivial⟩, ⟨rfl, slO_ok h2, trivial⟩, ⟨rfl, .same _, trivial⟩, trivial⟩⟩
    · cases h
  · cases h
noncomputable def o75 (b1 : Bool) (P : List Place) (b2 : Bool) (R : List Road) (b3 : Bool) (f : List Span) (b4 : Bool) (L : List Source) : Option (List Int × List Int × Int) := (h75 200000000000 b1 P b2 R b3 f b4 L).bind (decMost)
noncomputable def c75 : Spec := ⟨false, fun av ob => match av, ob with
  | [.agg [.vec b1 .place P, .vec b2 .road R], .one (.vec b3 .span f), .one (.vec b4 .source L)], [] => .call (o75 b1 P b2 R b3 f b4 L) fun x => .ret (.tup [(false, [.vec false .int x.1]), (false, [.vec false .int x.2.1]), (false, [.int .i64 x.2.2])], [])
  | _, _ => .fail⟩
theorem f75 : FnOK Try.prog 75 := fnOK_of Try.func75 rfl (by kernel_rfl)
theorem pc75 : SpecOK Try.prog 75 c75 := by
  refine spec_thaw (fun av ob r os hrn => ?_) (machS_ok (env_ok (l := l75) ⟨⟨p77, f77⟩, ⟨⟨pc104, f104⟩, ⟨⟨p99, f99⟩, ⟨⟨p100, f100⟩, trivial⟩⟩⟩⟩) mixed_ok Try.func75 k75 (fun _ _ => 200000000000) false)
  simp only [c75] at hrn
  split at hrn
  · rename_i b1 P b2 R b3 f b4 L
    obtain ⟨x, hx, hr⟩ := Option.bind_eq_some_iff.1 hrn
    cases hr
    obtain ⟨y, hy, hd⟩ := Option.bind_eq_some_iff.1 hx
    unfold h75 at hy
    obtain ⟨d1, d2⟩ := decMost_ok hd
    exact ⟨y.1, y.2, by rw [machS_run]; exact hy, d1, d2⟩
  · cases hrn
/-- What is told: an error, or the least numbers. -/
structure MostB (P : List Place) (R : List Road) (f : List Span) (L : List Source) (x : List Int × List Int × Int) : Prop where
  bad : checkG P R L ≠ 0 → x = ([], [], checkG P R L)
  len : checkG P R L = 0 → f.length ≠ R.length → x = ([], [], 11)
  ok : checkG P R L = 0 → f.length = R.length → x.2.2 = 0 ∧ LeastG P R f (moG f L) (p0G P R f) x.1 x.2.1
theorem MostB.uni {P : List Place} {R : List Road} {f : List Span} {L : List Source} {x y : List Int × List Int × Int} (h : MostB P R f L x) (g : MostB P R f L y) : x = y := by
  by_cases c : checkG P R L = 0
  · by_cases c2 : f.length = R.length
    · obtain ⟨h1, h2⟩ := h.ok c c2
      obtain ⟨g1, g2⟩ := g.ok c c2
      obtain ⟨e1, e2⟩ := h2.uni g2
      obtain ⟨a, b, e⟩ := x
      obtain ⟨a', b', e'⟩ := y
      dsimp only at *
      rw [e1, e2, h1, g1]
    · rw [h.len c c2, g.len c c2]
  · rw [h.bad c, g.bad c]
def DoneG (P : List Place) (R : List Road) (f : List Span) (mo p r : Nat → Int) (i : Nat) (d : Bool) : Prop := can R f i d = true → mn (p (endA R i d).toNat + mo i) 1000000 ≤ r i ∧ (surf P (endB R i d).toNat = false → r i ≤ p (endB R i d).toNat)
theorem ref_step (b1 b2 b3 : Bool) (P : List Place) (R : List Road) (hR : RoadsIn P.length R) (f : List Span) (hf : f.length = R.length) (m : List Int) (hm : m.length = R.length) (mo p0 : Nat → Int) (hmo : ∀ i, i < R.length → gx m i = mo i) (hmo2 : ∀ i, 0 ≤ mo i ∧ mo i ≤ 1000000) {p r : List Int} (hG : GoodG P R f mo p0 p r) (i : Nat) (hi : i < R.length) (dn : Int) (d : Bool) (hd : (dn == 1) = d) (hdn : 0 ≤ dn ∧ dn < 2) (again : Bool) (fl : Nat) :
    ∃ again' p' r', h75_2 (fl + 1) b3 f again i dn b1 P b2 R p r m = h75_2 fl b3 f again' i (dn + 1) b1 P b2 R p' r' m ∧ GoodG P R f mo p0 p' r' ∧ (∀ k, gx r k ≤ gx r' k) ∧ ((again' = again ∧ p' = p ∧ r' = r ∧ DoneG P R f mo (gx p) (gx r) i d) ∨ (again' = true ∧ tot p + tot r < tot p' + tot r')) := by
  have hi0 : dflt K.int = (0 : Int) := rfl
  have hp0 : dflt K.place = place0 := rfl
  have hpl := hG.plen
  have hrl := hG.rlen
  have x := ends_in hR hi d
  have i0 : (idx R.length (i : Int) && idx f.length (i : Int)) = true := by rw [idx_nat hi, idx_nat (by omega)]; rfl
  have ia : idx p.length (endA R i d) = true := idx_of x.1 (by rw [hpl]; exact x.2.1)
  have ib : idx p.length (endB R i d) = true := idx_of x.2.2.1 (by rw [hpl]; exact x.2.2.2)
  have iB : idx P.length (endB R i d) = true := idx_of x.2.2.1 x.2.2.2
  have ir : idx r.length (i : Int) = true := idx_nat (by omega)
  have im : idx m.length (i : Int) = true := idx_nat (by omega)
  have hw : IntKind.i64.wrap (dn + 1) = dn + 1 := wid (by omega) (by omega)
  have pa := hG.pz (endA R i d).toNat
  have pa2 := hG.ptop (endA R i d).toNat
  have ha := hmo2 i
  rw [h75_2_eq, if_pos (by simp; omega), if_pos i0, hd, hw, hi0, hp0, Int.toNat_natCast]
  by_cases c : can R f i d = true
  · have e1 : p.getD (endA R i d).toNat 0 = gx p (endA R i d).toNat := rfl
    have e2 : m.getD i 0 = mo i := hmo i hi
    have e3 : r.getD i 0 = gx r i := rfl
    have e4 : p.getD (endB R i d).toNat 0 = gx p (endB R i d).toNat := rfl
    rw [if_neg (by rw [c]; simp), if_pos (idx_nat hi), if_pos ia, if_pos im, if_pos ir, e1, e2, e3, e4, wid (by omega) (by omega), mn_comm 1000000]
    have hv : mn (gx p (endA R i d).toNat + mo i) 1000000 ≤ 1000000 := by unfold mn; split <;> omega
    have hl : ∀ tp tr : Nat → Int, AboveG R f p0 tp tr → CloG P R f mo tp tr → (∀ k, gx p k ≤ tp k) → mn (gx p (endA R i d).toNat + mo i) 1000000 ≤ tr i := fun tp tr a cl hle => by
      have h1 := cl.road i d hi c
      have h2 := hle (endA R i d).toNat
      unfold mn at *
      split at h1 <;> split <;> omega
    have hdone : mn (gx p (endA R i d).toNat + mo i) 1000000 ≤ gx r i → (surf P (endB R i d).toNat = false → gx r i ≤ gx p (endB R i d).toNat) → DoneG P R f mo (gx p) (gx r) i d := fun h1 h2 _ => ⟨h1, h2⟩
    generalize mn (gx p (endA R i d).toNat + mo i) 1000000 = v at *
    by_cases c1 : v > gx r i
    · have hG1 := hG.raiseR hi c1 hv hl
      have hmono : ∀ k, gx r k ≤ gx (r.set i v) k := fun k => by
        rw [gx_set (by omega)]; split
        · rename_i e; rw [e]; omega
        · omega
      have ht : tot (r.set i v) = tot r - gx r i + v := tot_set r i v (by omega)
      have e5 : (r.set i v).getD i 0 = v := by
        have := gx_set (l := r) (j := i) (by omega) v i
        rw [if_pos rfl] at this; exact this
      have ir2 : idx (r.set i v).length (i : Int) = true := idx_nat (by rw [List.length_set]; omega)
      rw [if_pos (decide_eq_true c1), if_pos ir, if_pos iB, e5]
      by_cases c2 : surf P (endB R i d).toNat = true
      · rw [if_neg (show ¬ (!(P.getD (endB R i d).toNat place0).surface) = true by show ¬ (!surf P (endB R i d).toNat) = true; rw [c2]; simp)]
        exact ⟨true, p, _, rfl, hG1, hmono, .inr ⟨rfl, by omega⟩⟩
      · have c2' : surf P (endB R i d).toNat = false := by simpa using c2
        rw [if_pos (show (!(P.getD (endB R i d).toNat place0).surface) = true by show (!surf P (endB R i d).toNat) = true; rw [c2']; rfl), if_pos ir2, if_pos ib]
        by_cases c3 : v > gx p (endB R i d).toNat
        · rw [if_pos (decide_eq_true c3), if_pos ir2, if_pos ib]
          have hG2 := hG1.raiseP (i := (endB R i d).toNat) (by omega) c3 hv (fun tp tr a cl hle => by
            have h1 := cl.place i d hi c c2'
            have h2 := hle i
            rw [gx_set (by omega), if_pos rfl] at h2
            omega)
          have ht2 : tot (p.set (endB R i d).toNat v) = tot p - gx p (endB R i d).toNat + v := tot_set p _ v (by omega)
          exact ⟨true, _, _, rfl, hG2, hmono, .inr ⟨rfl, by omega⟩⟩
        · rw [if_neg (fun e => c3 (of_decide_eq_true e))]
          exact ⟨true, p, _, rfl, hG1, hmono, .inr ⟨rfl, by omega⟩⟩
    · rw [if_neg (fun e => c1 (of_decide_eq_true e)), if_pos iB]
      by_cases c2 : surf P (endB R i d).toNat = true
      · rw [if_neg (show ¬ (!(P.getD (endB R i d).toNat place0).surface) = true by show ¬ (!surf P (endB R i d).toNat) = true; rw [c2]; simp)]
        exact ⟨again, p, r, rfl, hG, fun k => Int.le_refl _, .inl ⟨rfl, rfl, rfl, hdone (by omega) (fun h => by rw [c2] at h; cases h)⟩⟩
      · have c2' : surf P (endB R i d).toNat = false := by simpa using c2
        rw [if_pos (show (!(P.getD (endB R i d).toNat place0).surface) = true by show (!surf P (endB R i d).toNat) = true; rw [c2']; rfl), if_pos ir, if_pos ib]
        by_cases c3 : gx r i > gx p (endB R i d).toNat
        · rw [if_pos (decide_eq_true c3), if_pos ir, if_pos ib]
          have hG2 := hG.raiseP (i := (endB R i d).toNat) (by omega) c3 (hG.rtop i) (fun tp tr a cl hle => by
            have h1 := cl.place i d hi c c2'
            have h2 := hle i
            omega)
          have ht2 : tot (p.set (endB R i d).toNat (gx r i)) = tot p - gx p (endB R i d).toNat + gx r i := tot_set p _ _ (by omega)
          exact ⟨true, _, _, rfl, hG2, fun k => Int.le_refl _, .inr ⟨rfl, by omega⟩⟩
        · rw [if_neg (fun e => c3 (of_decide_eq_true e))]
          exact ⟨again, p, r, rfl, hG, fun k => Int.le_refl _, .inl ⟨rfl, rfl, rfl, hdone (by omega) (fun _ => by omega)⟩⟩
  · rw [if_pos (by simpa using c)]
    exact ⟨again, p, r, rfl, hG, fun k => Int.le_refl _, .inl ⟨rfl, rfl, rfl, fun h => absurd h c⟩⟩
def EndM (P : List Place) (R : List Road) (f : List Span) (mo p0 : Nat → Int) (o : Option (AV × List Ob)) : Prop := ∃ p r, o = some (.tup [(false, [.row 0]), (false, [.row 1]), (false, [.int .i64 0])], [.rows .int p, .rows .int r]) ∧ LeastG P R f mo p0 p r
def StillUp (R : List Road) (f : List Span) (r : List Int) : Prop := ∀ i, i < R.length → Still R f i → 1000000 ≤ gx r i
theorem ref_pass (b1 b2 b3 : Bool) (P : List Place) (R : List Road) (hR : RoadsIn P.length R) (hRl : R.length ≤ 128) (f : List Span) (hf : f.length = R.length) (m : List Int) (hm : m.length = R.length) (mo p0 : Nat → Int) (hmo : ∀ i, i < R.length → gx m i = mo i) (hmo2 : ∀ i, 0 ≤ mo i ∧ mo i ≤ 1000000) (ps rs : List Int) (F : Nat)
    (hlater : ∀ (fl : Nat) (p r : List Int), F ≤ fl → GoodG P R f mo p0 p r → StillUp R f r → tot ps + tot rs < tot p + tot r → EndM P R f mo p0 (h75_0 fl b3 f true b1 P b2 R p r m)) :
    ∀ (d fl i : Nat) (again : Bool) (p r : List Int), R.length - i = d → i ≤ R.length → F + 4 * d + 3 < fl → GoodG P R f mo p0 p r → StillUp R f r → (again = true → tot ps + tot rs < tot p + tot r) → (again = false → p = ps ∧ r = rs ∧ ∀ j e, j < i → DoneG P R f mo (gx ps) (gx rs) j e) → EndM P R f mo p0 (h75_1 fl b3 f again i b1 P b2 R p r m)
  | d, fl, i, again, p, r, hd, hi, hfl, hG, hS, ht, hn => by
    obtain ⟨fl, rfl⟩ : ∃ q, fl = q + 1 := ⟨fl - 1, by omega⟩
    rw [h75_1_eq]
    by_cases hlt : i < R.length
    · obtain ⟨d, rfl⟩ : ∃ q, d = q + 1 := ⟨d - 1, by omega⟩
      obtain ⟨fl, rfl⟩ : ∃ q, fl = q + 3 := ⟨fl - 3, by omega⟩
      rw [if_pos (show decide ((i : Int) < (r.length : Int)) = true by rw [hG.rlen]; exact lt_nat hlt)]
      obtain ⟨a1, p1, r1, e1, g1, u1, w1⟩ := ref_step b1 b2 b3 P R hR f hf m hm mo p0 hmo hmo2 hG i hlt 0 false rfl (by omega) again (fl + 2)
      obtain ⟨a2, p2, r2, e2, g2, u2, w2⟩ := ref_step b1 b2 b3 P R hR f hf m hm mo p0 hmo hmo2 g1 i hlt 1 true rfl (by omega) a1 (fl + 1)
      have e2' : h75_2 (fl + 2) b3 f a1 i (0 + 1) b1 P b2 R p1 r1 m = h75_2 (fl + 1) b3 f a2 i (1 + 1) b1 P b2 R p2 r2 m := e2
      rw [e1, e2', h75_2_eq, if_neg (by simp), wr_succ (by omega)]
      refine ref_pass b1 b2 b3 P R hR hRl f hf m hm mo p0 hmo hmo2 ps rs F hlater d fl (i + 1) a2 p2 r2 (by omega) (by omega) (by omega) g2 (fun k hk hs => ?_) (fun e => ?_) (fun e => ?_)
      · have h1 := hS k hk hs
        have h2 := u1 k
        have h3 := u2 k
        omega
      · rcases w2 with ⟨x1, x2, x3, x4⟩ | ⟨x1, x2⟩
        · rw [x2, x3]
          rcases w1 with ⟨y1, y2, y3, y4⟩ | ⟨y1, y2⟩
          · rw [y2, y3]
            exact ht (by rw [← y1, ← x1]; exact e)
          · cases ha : again with
            | true => have := ht ha; omega
            | false =>
              obtain ⟨z1, z2, _⟩ := hn ha
              rw [z1, z2] at y2; exact y2
        · rcases w1 with ⟨y1, y2, y3, y4⟩ | ⟨y1, y2⟩
          · rw [y2, y3] at x2
            cases ha : again with
            | true => have := ht ha; omega
            | false =>
              obtain ⟨z1, z2, _⟩ := hn ha
              rw [z1, z2] at x2; exact x2
          · cases ha : again with
            | true => have := ht ha; omega
            | false =>
              obtain ⟨z1, z2, _⟩ := hn ha
              rw [z1, z2] at y2; omega
      · rcases w2 with ⟨x1, x2, x3, x4⟩ | ⟨x1, x2⟩
        · rcases w1 with ⟨y1, y2, y3, y4⟩ | ⟨y1, y2⟩
          · obtain ⟨z1, z2, z3⟩ := hn (by rw [← y1, ← x1]; exact e)
            refine ⟨by rw [x2, y2, z1], by rw [x3, y3, z2], fun j e' hj => ?_⟩
            by_cases c : j = i
            · subst c
              cases e'
              · rw [← z1, ← z2]; exact y4
              · rw [y2, y3] at x4; rw [← z1, ← z2]; exact x4
            · exact z3 j e' (by omega)
          · rw [x1, y1] at e; cases e
        · rw [x1] at e; cases e
    · rw [if_neg (show ¬ decide ((i : Int) < (r.length : Int)) = true by rw [hG.rlen]; exact nlt_nat hlt)]
      cases again with
      | true => exact hlater fl p r (by omega) hG hS (ht rfl)
      | false =>
        obtain ⟨z1, z2, z3⟩ := hn rfl
        subst z1; subst z2
        obtain ⟨fl, rfl⟩ : ∃ q, fl = q + 1 := ⟨fl - 1, by omega⟩
        rw [h75_0_eq, if_neg (by simp)]
        exact ⟨p, r, rfl, hG.plen, hG.rlen, ⟨hG.base, hS, hG.rz⟩, ⟨fun j e hj hc => (z3 j e (by omega) hc).1, fun j e hj hc hs => (z3 j e (by omega) hc).2 hs⟩, hG.ptop, hG.rtop, hG.least⟩
theorem ref_all (b1 b2 b3 : Bool) (P : List Place) (R : List Road) (hR : RoadsIn P.length R) (hRl : R.length ≤ 128) (f : List Span) (hf : f.length = R.length) (m : List Int) (hm : m.length = R.length) (mo p0 : Nat → Int) (hmo : ∀ i, i < R.length → gx m i = mo i) (hmo2 : ∀ i, 0 ≤ mo i ∧ mo i ≤ 1000000) : ∀ (c fl : Nat) (p r : List Int), 1000000 * (P.length + R.length : Nat) - (tot p + tot r) ≤ (c : Int) → c * 600 + 600 < fl → GoodG P R f mo p0 p r → StillUp R f r → EndM P R f mo p0 (h75_0 fl b3 f true b1 P b2 R p r m)
  | c, fl, p, r, hc, hfl, hG, hS => by
    obtain ⟨fl, rfl⟩ : ∃ q, fl = q + 1 := ⟨fl - 1, by omega⟩
    rw [h75_0_eq, if_pos rfl]
    refine ref_pass b1 b2 b3 P R hR hRl f hf m hm mo p0 hmo hmo2 p r (c * 600 + 1) (fun fl' p' r' hf' hG' hS' hlt => ?_) R.length fl 0 false p r (by omega) (by omega) (by omega) hG hS (fun e => by cases e) (fun _ => ⟨rfl, rfl, fun j e h => by omega⟩)
    have ht := hG'.tot
    cases c with
    | zero => omega
    | succ c => exact ref_all b1 b2 b3 P R hR hRl f hf m hm mo p0 hmo hmo2 c fl' p' r' (by omega) (by omega) hG' hS'
theorem moG_range {m : Nat} {f : List Span} {L : List Source} (h : SrcOK m L) (i : Nat) : 0 ≤ moG f L i ∧ moG f L i ≤ 1000000 := addG_range (inflow_range (m := m) i h.2).1
theorem rmost_ok (b1 : Bool) (P : List Place) (b2 : Bool) (R : List Road) (b3 : Bool) (f : List Span) (b4 : Bool) (L : List Source) (hfb : ∀ i, i < R.length → -4611686018427387904 ≤ (f.getD i ⟨0, 0⟩).hi) : ∃ x, o75 b1 P b2 R b3 f b4 L = some x ∧ MostB P R f L x := by
  unfold o75
  rw [h75_eq]
  by_cases c : checkG P R L = 0
  · by_cases c2 : f.length = R.length
    · obtain ⟨hm, hs⟩ := checkG_ok.1 c
      have hr : rightM P R f = true := rightM_iff.2 ⟨hm, c2⟩
      obtain ⟨g1, g2, g3, g4⟩ := rightM_in hr
      obtain ⟨x, e, hB⟩ := begin_ok b1 b2 b3 b4 P R f hr hfb L hs
      have e1 : (checkG P R L != 0) = false := by simp [c]
      have e2 : ((f.length : Int) != (R.length : Int)) = false := by simp; omega
      rw [e1, if_neg (by simp), e2, if_neg (by simp), e, Option.bind_some]
      have hpz : ∀ k, 0 ≤ gx x.1 k ∧ gx x.1 k ≤ 1000000 := fun k => by
        rw [hB.p]
        rcases p0G_two P R f k with h | h <;> rw [h] <;> omega
      have hrz : ∀ k, gx x.2.1 k = 0 ∨ (k < R.length ∧ Still R f k ∧ gx x.2.1 k = 1000000) := fun k => by
        by_cases h : k < R.length ∧ Still R f k
        · exact .inr ⟨h.1, h.2, hB.still k h.1 h.2⟩
        · exact .inl (hB.moves k fun h1 h2 => h ⟨h1, h2⟩)
      have hG : GoodG P R f (moG f L) (p0G P R f) x.1 x.2.1 := by
        refine ⟨hB.pl, hB.rl, fun k => by rw [hB.p]; exact Int.le_refl _, fun k => (hpz k).1, fun k => ?_, fun k => (hpz k).2, fun k => ?_, fun tp tr a cl => ⟨fun k => ?_, fun i => ?_⟩⟩
        · rcases hrz k with h | ⟨_, _, h⟩ <;> rw [h] <;> omega
        · rcases hrz k with h | ⟨_, _, h⟩ <;> rw [h] <;> omega
        · rw [hB.p]; exact a.p0 k
        · rcases hrz i with h | ⟨h1, h2, h⟩
          · rw [h]; exact a.zero i
          · rw [h]; exact a.still i h1 h2
      have ht := hG.tot
      obtain ⟨p, r, e3, hL⟩ := ref_all b1 b2 b3 P R g1 g3 f g2 x.2.2 hB.ml (moG f L) (p0G P R f) hB.more (moG_range hs) 200000000 199999999999 x.1 x.2.1 (by omega) (by omega) hG (fun i hi hst => by rw [hB.still i hi hst]; omega)
      rw [e3]
      exact ⟨(p, r, 0), by simp [decMost, slO], fun h => absurd c h, fun _ h => absurd c2 h, fun _ _ => ⟨rfl, hL⟩⟩
    · have e1 : (checkG P R L != 0) = false := by simp [c]
      have e2 : ((f.length : Int) != (R.length : Int)) = true := by simp only [bne_iff_ne, ne_eq]; omega
      rw [e1, if_neg (by simp), e2, if_pos rfl]
      exact ⟨([], [], 11), by simp [decMost, slO], fun h => absurd c h, fun _ _ => rfl, fun _ h => absurd h c2⟩
  · have e1 : (checkG P R L != 0) = true := by simpa using c
    rw [e1, if_pos rfl]
    exact ⟨([], [], checkG P R L), by simp [decMost, slO], fun _ => rfl, fun h => absurd h c, fun h => absurd h c⟩
end Go.Proofs.Ytipfipnhgpbceaa.Sx
/- The greatest concentrations, by the program's text: its contract; what is known of gas; the sanity check (plain theorems). -/

set_option linter.unusedVariables false
set_option linter.unusedSimpArgs false
set_option maxRecDepth 100000
namespace Go.Proofs.Ytipfipnhgpbceaa.Sx
open Go Go.RowKit
noncomputable def l47 : List (FuncId × Spec) := [(76, s76), (63, c63), (71, c71), (96, s96)]
def k47 : Code → Keep := keepOf [(8, ⟨[1, 3, 10, 44, 45, 46], [], []⟩), (15, ⟨[1, 3, 10, 13, 14, 15, 75, 76, 77], [], []⟩), (20, ⟨[1, 3, 10, 13, 14, 15, 87, 88, 89], [], []⟩), (26, ⟨[1, 3, 10, 13, 14, 110, 111, 112], [], []⟩), (32, ⟨[1, 3, 10, 13, 14, 22], [], []⟩), (35, ⟨[1, 3, 10, 13, 14, 22, 129, 130, 131], [], []⟩), (38, ⟨[1, 3, 10, 13, 14, 22, 23, 24, 25, 26, 129, 130, 131], [], []⟩), (46, ⟨[1, 3, 10, 13, 14, 22, 23, 24, 25, 26, 27, 129, 130, 131], [], []⟩), (48, ⟨[1, 3, 10, 13, 14, 22, 24, 25, 26, 27, 129, 130, 131], [], []⟩), (50, ⟨[1, 3, 10, 13, 14, 22, 24, 26, 27, 129, 130, 131], [], []⟩)]
noncomputable def h47 (fl : Nat) (b1 : Bool) (P : List Place) (b2 : Bool) (R : List Road) (b3 : Bool) (f : List Span) (b4 : Bool) (L : List Source) : Option (AV × List Ob) := (evalF (envc l47 [38, 46, 48, 50]) Try.f47 k47 fl [.agg [.vec b1 .place P, .vec b2 .road R], .one (.vec b3 .span f), .one (.vec b4 .source L)] []).den
noncomputable def o47 (b1 : Bool) (P : List Place) (b2 : Bool) (R : List Road) (b3 : Bool) (f : List Span) (b4 : Bool) (L : List Source) : Option (List Int × List Int × Int) := (h47 200000000000 b1 P b2 R b3 f b4 L).bind (decMost)
noncomputable def c47 : Spec := ⟨false, fun av ob => match av, ob with
  | [.agg [.vec b1 .place P, .vec b2 .road R], .one (.vec b3 .span f), .one (.vec b4 .source L)], [] => .call (o47 b1 P b2 R b3 f b4 L) fun x => .ret (.tup [(false, [.vec false .int x.1]), (false, [.vec false .int x.2.1]), (false, [.int .i64 x.2.2])], [])
  | _, _ => .fail⟩
theorem f47 : FnOK Try.prog 47 := fnOK_of Try.func47 rfl (by kernel_rfl)
theorem pc47 : SpecOK Try.prog 47 c47 := by
  refine spec_thaw (fun av ob r os hrn => ?_) (machS_ok (envc_ok (c := [38, 46, 48, 50]) (l := l47) ⟨⟨p76, f76⟩, ⟨⟨pc63, f63⟩, ⟨⟨pc71, f71⟩, ⟨⟨p96, f96⟩, trivial⟩⟩⟩⟩) mixed_ok Try.func47 k47 (fun _ _ => 200000000000) false)
  simp only [c47] at hrn
  split at hrn
  · rename_i b1 P b2 R b3 f b4 L
    obtain ⟨x, hx, hr⟩ := Option.bind_eq_some_iff.1 hrn
    cases hr
    obtain ⟨y, hy, hd⟩ := Option.bind_eq_some_iff.1 hx
    unfold h47 at hy
    obtain ⟨d1, d2⟩ := decMost_ok hd
    exact ⟨y.1, y.2, by rw [machS_run]; exact hy, d1, d2⟩
  · cases hrn
noncomputable def l118 : List (FuncId × Spec) := [(36, s36), (56, s56)]
def k118 : Code → Keep := keepOf [(5, ⟨[2, 3, 5, 7, 14, 15, 16, 33, 34, 35], [], []⟩), (17, ⟨[14, 22, 108, 109, 110], [(22, .int)], []⟩)]
noncomputable def h118 (fl : Nat) (b1 : Bool) (s : List Span) (lo hi kind : Int) (b2 : Bool) (S : List Sensor) (b3 : Bool) (M : List Measure) (t : Int) : Option (AV × List Ob) := (evalF (env l118) Try.f118 k118 fl [.one (.vec b1 .span s), .agg [.int .i64 lo, .int .i64 hi], .one (.int .i64 kind), .one (.vec b2 .sensor S), .one (.vec b3 .measure M), .one (.int .i64 t)] []).den
def decNar : AV × List Ob → Option (List Span × List Int)
  | (.tup [(false, [s1]), (false, [s2])], os) =>
      (match slO .span 0 os s1, slO .int 0 os s2 with
      | some a, some b => some (a, b)
      | _, _ => none)
  | _ => none
theorem decNar_ok {y : AV × List Ob} {x : List Span × List Int} (h : decNar y = some x) : ([] : List Ob) = y.2.take 0 ∧ TA y.2 0 y.1 (.tup [(false, [.vec false .span x.1]), (false, [.vec false .int x.2])]) := by
  unfold decNar at h
  split at h
  · split at h
    · rename_i h1 h2
      cases h
      exact ⟨rfl, .tup _ _ ⟨⟨rfl, slO_ok h1, trivial⟩, ⟨rfl, slO_ok h2, trivial⟩, trivial⟩⟩
    · cases h
  · cases h
noncomputable def o118 (b1 : Bool) (s : List Span) (lo : Int) (hi : Int) (kind : Int) (b2 : Bool) (S : List Sensor) (b3 : Bool) (M : List Measure) (t : Int) : Option (List Span × List Int) := (h118 100 b1 s lo hi kind b2 S b3 M t).bind (decNar)
noncomputable def c118 : Spec := ⟨false, fun av ob => match av, ob with
  | [.one (.vec b1 .span s), .agg [.int .i64 lo, .int .i64 hi], .one (.int .i64 kind), .one (.vec b2 .sensor S), .one (.vec b3 .measure M), .one (.int .i64 t)], [] => .call (o118 b1 s lo hi kind b2 S b3 M t) fun x => .ret (.tup [(false, [.vec false .span x.1]), (false, [.vec false .int x.2])], [])
  | _, _ => .fail⟩
theorem f118 : FnOK Try.prog 118 := fnOK_of Try.func118 rfl (by kernel_rfl)
theorem pc118 : SpecOK Try.prog 118 c118 := by
  refine spec_thaw (fun av ob r os hrn => ?_) (machS_ok (env_ok (l := l118) ⟨⟨p36, f36⟩, ⟨⟨p56, f56⟩, trivial⟩⟩) mixed_ok Try.func118 k118 (fun _ _ => 100) false)
  simp only [c118] at hrn
  split at hrn
  · rename_i b1 s lo hi kind b2 S b3 M t
    obtain ⟨x, hx, hr⟩ := Option.bind_eq_some_iff.1 hrn
    cases hr
    obtain ⟨y, hy, hd⟩ := Option.bind_eq_some_iff.1 hx
    unfold h118 at hy
    obtain ⟨d1, d2⟩ := decNar_ok hd
    exact ⟨y.1, y.2, by rw [machS_run]; exact hy, d1, d2⟩
  · cases hrn
noncomputable def l95 : List (FuncId × Spec) := [(118, c118)]
def k95 : Code → Keep := keepOf [(3, ⟨[1, 2, 3, 10, 16, 17, 18], [], []⟩)]
noncomputable def h95 (fl : Nat) (b1 : Bool) (r : List Int) (b2 : Bool) (S : List Sensor) (b3 : Bool) (M : List Measure) (t : Int) : Option (AV × List Ob) := (evalF (env l95) Try.f95 k95 fl [.one (.vec b1 .int r), .one (.vec b2 .sensor S), .one (.vec b3 .measure M), .one (.int .i64 t)] []).den
noncomputable def o95 (b1 : Bool) (r : List Int) (b2 : Bool) (S : List Sensor) (b3 : Bool) (M : List Measure) (t : Int) : Option (List Span × List Int) := (h95 100 b1 r b2 S b3 M t).bind (decNar)
noncomputable def c95 : Spec := ⟨false, fun av ob => match av, ob with
  | [.one (.vec b1 .int r), .one (.vec b2 .sensor S), .one (.vec b3 .measure M), .one (.int .i64 t)], [] => .call (o95 b1 r b2 S b3 M t) fun x => .ret (.tup [(false, [.vec false .span x.1]), (false, [.vec false .int x.2])], [])
  | _, _ => .fail⟩
theorem f95 : FnOK Try.prog 95 := fnOK_of Try.func95 rfl (by kernel_rfl)
theorem pc95 : SpecOK Try.prog 95 c95 := by
  refine spec_thaw (fun av ob r os hrn => ?_) (machS_ok (env_ok (l := l95) ⟨⟨pc118, f118⟩, trivial⟩) mixed_ok Try.func95 k95 (fun _ _ => 100) false)
  simp only [c95] at hrn
  split at hrn
  · rename_i b1 r b2 S b3 M t
    obtain ⟨x, hx, hr⟩ := Option.bind_eq_some_iff.1 hrn
    cases hr
    obtain ⟨y, hy, hd⟩ := Option.bind_eq_some_iff.1 hx
    unfold h95 at hy
    obtain ⟨d1, d2⟩ := decNar_ok hd
    exact ⟨y.1, y.2, by rw [machS_run]; exact hy, d1, d2⟩
  · cases hrn
theorem vrel_nils {w : World} {ρ : Rho} {ok : Okp} {v : Value} {b : Bool} {E : K} (h : VRel w ρ ok v (.one .nils)) : VRel w ρ ok v (.one (.vec b E [])) := by
  cases h with
  | one _ _ h2 => cases h2; exact .one _ _ (.vec0 _ _ _ _)
/-- A nil list of sources too. -/
noncomputable def c147 : Spec := ⟨false, fun av ob => match av, ob with
  | [.agg [.vec b1 .place P, .vec b2 .road R], .one (.vec b3 .span f), .one (.vec b4 .source L)], [] => .call (o47 b1 P b2 R b3 f b4 L) fun x => .ret (.tup [(false, [.vec false .int x.1]), (false, [.vec false .int x.2.1]), (false, [.int .i64 x.2.2])], [])
  | [.agg [.vec b1 .place P, .vec b2 .road R], .one (.vec b3 .span f), .one .nils], [] => .call (o47 b1 P b2 R b3 f false []) fun x => .ret (.tup [(false, [.vec false .int x.1]), (false, [.vec false .int x.2.1]), (false, [.int .i64 x.2.2])], [])
  | _, _ => .fail⟩
theorem f147 : FnOK Try.prog 47 := f47
theorem pc147 : SpecOK Try.prog 47 c147 := by
  intro w ρ ok vs avs obs r os hH hρ hv hrn
  simp only [c147] at hrn
  split at hrn
  · rename_i b1 P b2 R b3 f b4 L
    exact pc47 w ρ ok vs _ _ r os hH hρ hv hrn
  · rename_i b1 P b2 R b3 f
    refine pc47 w ρ ok vs [.agg [.vec b1 .place P, .vec b2 .road R], .one (.vec b3 .span f), .one (.vec false .source [])] [] r os hH hρ ?_ hrn
    match vs, hv with
    | [v1, v2, v3], hv => exact ⟨hv.1, hv.2.1, vrel_nils hv.2.2.1, trivial⟩
  · cases hrn
noncomputable def l44 : List (FuncId × Spec) := [(47, c47), (95, c95), (52, c52), (79, c79)]
def k44 : Code → Keep := keepOf []
noncomputable def h44 (fl : Nat)  : Option (AV × List Ob) := (evalF (env l44) Try.f44 k44 fl [] []).den
def s44 : Spec := ⟨false, fun av ob => match av, ob with
  | [], [] => .ret (.one (.bool true), [])
  | _, _ => .fail⟩
theorem v44 : h44 1 = some (.one (.bool true), []) := by kernel_rfl
theorem p44 : SpecOK Try.prog 44 s44 := by
  refine specOK_of (env_ok (l := l44) ⟨⟨pc47, f47⟩, ⟨⟨pc95, f95⟩, ⟨⟨pc52, f52⟩, ⟨⟨pc79, f79⟩, trivial⟩⟩⟩⟩) mixed_ok Try.func44 k44 fun av ob r os hrn => ?_
  simp only [s44] at hrn
  split at hrn
  · skip
    cases hrn
    have hv := v44
    unfold h44 at hv
    exact ⟨1, hv⟩
  · cases hrn
theorem f44 : FnOK Try.prog 44 := fnOK_of Try.func44 rfl (by kernel_rfl)
end Go.Proofs.Ytipfipnhgpbceaa.Sx
/- The greatest concentrations, by the program's text: its equations (plain theorems). -/

set_option linter.unusedVariables false
set_option linter.unusedSimpArgs false
set_option maxRecDepth 100000
namespace Go.Proofs.Ytipfipnhgpbceaa.Sx
open Go Go.RowKit
noncomputable def h47_0 (fl : Nat) (t1b : Bool) (t1 : List Span) (t44b : Bool) (t44 : List Source) (t45 : Int) (t46 : Int) (m0_0b : Bool) (m0_0 : List Place) (m0_1b : Bool) (m0_1 : List Road) (m1 : List Int) : Option (AV × List Ob) := (evalH (envc l47 [38, 46, 48, 50]) Try.f47 k47 0 fl (stkF Try.f47 [1, 1, 1, 1, 0, 1, 0]) ⟨[.one (.undef), .one (.vec t1b .span t1), .one (.undef), .one (.ptr 0 0), .one (.undef), .one (.undef), .one (.undef), .one (.undef), .one (.undef), .one (.undef), .one (.row 1), .one (.undef), .one (.undef), .one (.undef), .one (.undef), .one (.undef), .one (.undef), .one (.undef), .one (.undef), .one (.undef), .one (.undef), .one (.undef), .one (.undef), .one (.undef), .one (.undef), .one (.undef), .one (.undef), .one (.undef), .one (.undef), .one (.undef), .one (.undef), .one (.undef), .one (.undef), .one (.undef), .one (.undef), .one (.undef), .one (.undef), .one (.undef), .one (.undef), .one (.undef), .one (.undef), .one (.undef), .one (.undef), .one (.undef), .one (.vec t44b .source t44), .one (.int .i64 t45), .one (.int .i64 t46), .one (.undef), .one (.undef), .one (.undef), .one (.undef), .one (.undef), .one (.undef), .one (.undef), .one (.undef), .one (.undef), .one (.undef), .one (.undef), .one (.undef), .one (.undef), .one (.undef), .one (.undef), .one (.undef), .one (.undef), .one (.undef), .one (.undef), .one (.undef), .one (.undef), .one (.undef), .one (.undef), .one (.undef), .one (.undef), .one (.undef), .one (.undef), .one (.undef), .one (.undef), .one (.undef), .one (.undef), .one (.undef), .one (.undef), .one (.undef), .one (.undef), .one (.undef), .one (.undef), .one (.undef), .one (.undef), .one (.undef), .one (.undef), .one (.undef), .one (.undef), .one (.undef), .one (.undef), .one (.undef), .one (.undef), .one (.undef), .one (.undef), .one (.undef), .one (.undef), .one (.undef), .one (.undef), .one (.undef), .one (.undef), .one (.undef), .one (.undef), .one (.undef), .one (.undef), .one (.undef), .one (.undef), .one (.undef), .one (.undef), .one (.undef), .one (.undef), .one (.undef), .one (.undef), .one (.undef), .one (.undef), .one (.undef), .one (.undef), .one (.undef), .one (.undef), .one (.undef), .one (.undef), .one (.undef), .one (.undef), .one (.undef), .one (.undef), .one (.undef), .one (.undef), .one (.undef), .one (.undef), .one (.undef), .one (.undef), .one (.undef), .one (.undef), .one (.undef), .one (.undef), .one (.undef), .one (.undef), .one (.undef), .one (.undef), .one (.undef), .one (.undef), .one (.undef), .one (.undef), .one (.undef), .one (.undef), .one (.undef), .one (.undef), .one (.undef), .one (.undef), .one (.undef), .one (.undef), .one (.undef), .one (.undef), .one (.undef), .one (.undef), .one (.undef), .one (.undef), .one (.undef), .one (.undef), .one (.undef), .one (.undef), .one (.undef), .one (.undef), .one (.undef), .one (.undef), .one (.undef), .one (.undef), .one (.undef), .one (.undef), .one (.undef), .one (.undef), .one (.undef), .one (.undef), .one (.undef), .one (.undef), .one (.undef), .one (.undef), .one (.undef), .one (.undef), .one (.undef), .one (.undef), .one (.undef), .one (.undef), .one (.undef), .one (.undef), .one (.undef), .one (.undef), .one (.undef), .one (.undef), .one (.undef), .one (.undef), .one (.undef), .one (.undef), .one (.undef), .one (.undef), .one (.undef), .one (.undef), .one (.undef), .one (.undef), .one (.undef), .one (.undef), .one (.undef), .one (.undef), .one (.undef), .one (.undef), .one (.undef), .one (.undef), .one (.undef), .one (.undef), .one (.undef), .one (.undef), .one (.undef), .one (.undef), .one (.undef), .one (.undef), .one (.undef), .one (.undef), .one (.undef), .one (.undef), .one (.undef), .one (.undef), .one (.undef), .one (.undef), .one (.undef), .one (.undef), .one (.undef), .one (.undef), .one (.undef), .one (.undef), .one (.undef), .one (.undef), .one (.undef), .one (.undef), .one (.undef), .one (.undef), .one (.undef), .one (.undef), .one (.undef), .one (.undef), .one (.undef), .one (.undef), .one (.undef), .one (.undef), .one (.undef), .one (.undef), .one (.undef), .one (.undef), .one (.undef), .one (.undef), .one (.undef), .one (.undef), .one (.undef), .one (.undef)], [((0, 0), some (.cell (.vec m0_0b .place m0_0))), ((0, 1), some (.cell (.vec m0_1b .road m0_1))), ((1, 0), some (.rows .int m1))], 2⟩).den
noncomputable def h47_1 (fl : Nat) (t1b : Bool) (t1 : List Span) (t75 : List Pair) (t76 : Int) (t77 : Int) (m0_0b : Bool) (m0_0 : List Place) (m0_1b : Bool) (m0_1 : List Road) (m1 : List Int) (m2 : List Int) (m3 : List Int) (m4 : List Bool) : Option (AV × List Ob) := (evalH (envc l47 [38, 46, 48, 50]) Try.f47 k47 0 fl (stkF Try.f47 [1, 1, 1, 1, 1, 1, 1, 0, 1, 0]) ⟨[.one (.undef), .one (.vec t1b .span t1), .one (.undef), .one (.ptr 0 0), .one (.undef), .one (.undef), .one (.undef), .one (.undef), .one (.undef), .one (.undef), .one (.row 1), .one (.undef), .one (.undef), .one (.row 2), .one (.row 3), .one (.row 4), .one (.undef), .one (.undef), .one (.undef), .one (.undef), .one (.undef), .one (.undef), .one (.undef), .one (.undef), .one (.undef), .one (.undef), .one (.undef), .one (.undef), .one (.undef), .one (.undef), .one (.undef), .one (.undef), .one (.undef), .one (.undef), .one (.undef), .one (.undef), .one (.undef), .one (.undef), .one (.undef), .one (.undef), .one (.undef), .one (.undef), .one (.undef), .one (.undef), .one (.undef), .one (.undef), .one (.undef), .one (.undef), .one (.undef), .one (.undef), .one (.undef), .one (.undef), .one (.undef), .one (.undef), .one (.undef), .one (.undef), .one (.undef), .one (.undef), .one (.undef), .one (.undef), .one (.undef), .one (.undef), .one (.undef), .one (.undef), .one (.undef), .one (.undef), .one (.undef), .one (.undef), .one (.undef), .one (.undef), .one (.undef), .one (.undef), .one (.undef), .one (.undef), .one (.undef), .one (.vec false .pair t75), .one (.int .i64 t76), .one (.int .i64 t77), .one (.undef), .one (.undef), .one (.undef), .one (.undef), .one (.undef), .one (.undef), .one (.undef), .one (.undef), .one (.undef), .one (.undef), .one (.undef), .one (.undef), .one (.undef), .one (.undef), .one (.undef), .one (.undef), .one (.undef), .one (.undef), .one (.undef), .one (.undef), .one (.undef), .one (.undef), .one (.undef), .one (.undef), .one (.undef), .one (.undef), .one (.undef), .one (.undef), .one (.undef), .one (.undef), .one (.undef), .one (.undef), .one (.undef), .one (.undef), .one (.undef), .one (.undef), .one (.undef), .one (.undef), .one (.undef), .one (.undef), .one (.undef), .one (.undef), .one (.undef), .one (.undef), .one (.undef), .one (.undef), .one (.undef), .one (.undef), .one (.undef), .one (.undef), .one (.undef), .one (.undef), .one (.undef), .one (.undef), .one (.undef), .one (.undef), .one (.undef), .one (.undef), .one (.undef), .one (.undef), .one (.undef), .one (.undef), .one (.undef), .one (.undef), .one (.undef), .one (.undef), .one (.undef), .one (.undef), .one (.undef), .one (.undef), .one (.undef), .one (.undef), .one (.undef), .one (.undef), .one (.undef), .one (.undef), .one (.undef), .one (.undef), .one (.undef), .one (.undef), .one (.undef), .one (.undef), .one (.undef), .one (.undef), .one (.undef), .one (.undef), .one (.undef), .one (.undef), .one (.undef), .one (.undef), .one (.undef), .one (.undef), .one (.undef), .one (.undef), .one (.undef), .one (.undef), .one (.undef), .one (.undef), .one (.undef), .one (.undef), .one (.undef), .one (.undef), .one (.undef), .one (.undef), .one (.undef), .one (.undef), .one (.undef), .one (.undef), .one (.undef), .one (.undef), .one (.undef), .one (.undef), .one (.undef), .one (.undef), .one (.undef), .one (.undef), .one (.undef), .one (.undef), .one (.undef), .one (.undef), .one (.undef), .one (.undef), .one (.undef), .one (.undef), .one (.undef), .one (.undef), .one (.undef), .one (.undef), .one (.undef), .one (.undef), .one (.undef), .one (.undef), .one (.undef), .one (.undef), .one (.undef), .one (.undef), .one (.undef), .one (.undef), .one (.undef), .one (.undef), .one (.undef), .one (.undef), .one (.undef), .one (.undef), .one (.undef), .one (.undef), .one (.undef), .one (.undef), .one (.undef), .one (.undef), .one (.undef), .one (.undef), .one (.undef), .one (.undef), .one (.undef), .one (.undef), .one (.undef), .one (.undef), .one (.undef), .one (.undef), .one (.undef), .one (.undef), .one (.undef), .one (.undef), .one (.undef), .one (.undef), .one (.undef), .one (.undef), .one (.undef), .one (.undef), .one (.undef), .one (.undef), .one (.undef), .one (.undef), .one (.undef), .one (.undef)], [((0, 0), some (.cell (.vec m0_0b .place m0_0))), ((0, 1), some (.cell (.vec m0_1b .road m0_1))), ((1, 0), some (.rows .int m1)), ((2, 0), some (.rows .int m2)), ((3, 0), some (.rows .int m3)), ((4, 0), some (.rows .bool m4))], 5⟩).den
noncomputable def h47_2 (fl : Nat) (t1b : Bool) (t1 : List Span) (t87b : Bool) (t87 : List Place) (t88 : Int) (t89 : Int) (m0_0b : Bool) (m0_0 : List Place) (m0_1b : Bool) (m0_1 : List Road) (m1 : List Int) (m2 : List Int) (m3 : List Int) (m4 : List Bool) : Option (AV × List Ob) := (evalH (envc l47 [38, 46, 48, 50]) Try.f47 k47 0 fl (stkF Try.f47 [1, 1, 1, 1, 1, 1, 1, 1, 0, 1, 0]) ⟨[.one (.undef), .one (.vec t1b .span t1), .one (.undef), .one (.ptr 0 0), .one (.undef), .one (.undef), .one (.undef), .one (.undef), .one (.undef), .one (.undef), .one (.row 1), .one (.undef), .one (.undef), .one (.row 2), .one (.row 3), .one (.row 4), .one (.undef), .one (.undef), .one (.undef), .one (.undef), .one (.undef), .one (.undef), .one (.undef), .one (.undef), .one (.undef), .one (.undef), .one (.undef), .one (.undef), .one (.undef), .one (.undef), .one (.undef), .one (.undef), .one (.undef), .one (.undef), .one (.undef), .one (.undef), .one (.undef), .one (.undef), .one (.undef), .one (.undef), .one (.undef), .one (.undef), .one (.undef), .one (.undef), .one (.undef), .one (.undef), .one (.undef), .one (.undef), .one (.undef), .one (.undef), .one (.undef), .one (.undef), .one (.undef), .one (.undef), .one (.undef), .one (.undef), .one (.undef), .one (.undef), .one (.undef), .one (.undef), .one (.undef), .one (.undef), .one (.undef), .one (.undef), .one (.undef), .one (.undef), .one (.undef), .one (.undef), .one (.undef), .one (.undef), .one (.undef), .one (.undef), .one (.undef), .one (.undef), .one (.undef), .one (.undef), .one (.undef), .one (.undef), .one (.undef), .one (.undef), .one (.undef), .one (.undef), .one (.undef), .one (.undef), .one (.undef), .one (.undef), .one (.undef), .one (.vec t87b .place t87), .one (.int .i64 t88), .one (.int .i64 t89), .one (.undef), .one (.undef), .one (.undef), .one (.undef), .one (.undef), .one (.undef), .one (.undef), .one (.undef), .one (.undef), .one (.undef), .one (.undef), .one (.undef), .one (.undef), .one (.undef), .one (.undef), .one (.undef), .one (.undef), .one (.undef), .one (.undef), .one (.undef), .one (.undef), .one (.undef), .one (.undef), .one (.undef), .one (.undef), .one (.undef), .one (.undef), .one (.undef), .one (.undef), .one (.undef), .one (.undef), .one (.undef), .one (.undef), .one (.undef), .one (.undef), .one (.undef), .one (.undef), .one (.undef), .one (.undef), .one (.undef), .one (.undef), .one (.undef), .one (.undef), .one (.undef), .one (.undef), .one (.undef), .one (.undef), .one (.undef), .one (.undef), .one (.undef), .one (.undef), .one (.undef), .one (.undef), .one (.undef), .one (.undef), .one (.undef), .one (.undef), .one (.undef), .one (.undef), .one (.undef), .one (.undef), .one (.undef), .one (.undef), .one (.undef), .one (.undef), .one (.undef), .one (.undef), .one (.undef), .one (.undef), .one (.undef), .one (.undef), .one (.undef), .one (.undef), .one (.undef), .one (.undef), .one (.undef), .one (.undef), .one (.undef), .one (.undef), .one (.undef), .one (.undef), .one (.undef), .one (.undef), .one (.undef), .one (.undef), .one (.undef), .one (.undef), .one (.undef), .one (.undef), .one (.undef), .one (.undef), .one (.undef), .one (.undef), .one (.undef), .one (.undef), .one (.undef), .one (.undef), .one (.undef), .one (.undef), .one (.undef), .one (.undef), .one (.undef), .one (.undef), .one (.undef), .one (.undef), .one (.undef), .one (.undef), .one (.undef), .one (.undef), .one (.undef), .one (.undef), .one (.undef), .one (.undef), .one (.undef), .one (.undef), .one (.undef), .one (.undef), .one (.undef), .one (.undef), .one (.undef), .one (.undef), .one (.undef), .one (.undef), .one (.undef), .one (.undef), .one (.undef), .one (.undef), .one (.undef), .one (.undef), .one (.undef), .one (.undef), .one (.undef), .one (.undef), .one (.undef), .one (.undef), .one (.undef), .one (.undef), .one (.undef), .one (.undef), .one (.undef), .one (.undef), .one (.undef), .one (.undef), .one (.undef), .one (.undef), .one (.undef), .one (.undef), .one (.undef), .one (.undef), .one (.undef), .one (.undef), .one (.undef), .one (.undef), .one (.undef), .one (.undef), .one (.undef), .one (.undef), .one (.undef), .one (.undef), .one (.undef), .one (.undef), .one (.undef), .one (.undef), .one (.undef)], [((0, 0), some (.cell (.vec m0_0b .place m0_0))), ((0, 1), some (.cell (.vec m0_1b .road m0_1))), ((1, 0), some (.rows .int m1)), ((2, 0), some (.rows .int m2)), ((3, 0), some (.rows .int m3)), ((4, 0), some (.rows .bool m4))], 5⟩).den
noncomputable def h47_3 (fl : Nat) (t1b : Bool) (t1 : List Span) (t110 : List Int) (t111 : Int) (t112 : Int) (m0_0b : Bool) (m0_0 : List Place) (m0_1b : Bool) (m0_1 : List Road) (m1 : List Int) (m2 : List Int) (m3 : List Int) : Option (AV × List Ob) := (evalH (envc l47 [38, 46, 48, 50]) Try.f47 k47 0 fl (stkF Try.f47 [1, 1, 1, 1, 1, 1, 1, 1, 1, 0, 1, 0]) ⟨[.one (.undef), .one (.vec t1b .span t1), .one (.undef), .one (.ptr 0 0), .one (.undef), .one (.undef), .one (.undef), .one (.undef), .one (.undef), .one (.undef), .one (.row 1), .one (.undef), .one (.undef), .one (.row 2), .one (.row 3), .one (.undef), .one (.undef), .one (.undef), .one (.undef), .one (.undef), .one (.undef), .one (.undef), .one (.undef), .one (.undef), .one (.undef), .one (.undef), .one (.undef), .one (.undef), .one (.undef), .one (.undef), .one (.undef), .one (.undef), .one (.undef), .one (.undef), .one (.undef), .one (.undef), .one (.undef), .one (.undef), .one (.undef), .one (.undef), .one (.undef), .one (.undef), .one (.undef), .one (.undef), .one (.undef), .one (.undef), .one (.undef), .one (.undef), .one (.undef), .one (.undef), .one (.undef), .one (.undef), .one (.undef), .one (.undef), .one (.undef), .one (.undef), .one (.undef), .one (.undef), .one (.undef), .one (.undef), .one (.undef), .one (.undef), .one (.undef), .one (.undef), .one (.undef), .one (.undef), .one (.undef), .one (.undef), .one (.undef), .one (.undef), .one (.undef), .one (.undef), .one (.undef), .one (.undef), .one (.undef), .one (.undef), .one (.undef), .one (.undef), .one (.undef), .one (.undef), .one (.undef), .one (.undef), .one (.undef), .one (.undef), .one (.undef), .one (.undef), .one (.undef), .one (.undef), .one (.undef), .one (.undef), .one (.undef), .one (.undef), .one (.undef), .one (.undef), .one (.undef), .one (.undef), .one (.undef), .one (.undef), .one (.undef), .one (.undef), .one (.undef), .one (.undef), .one (.undef), .one (.undef), .one (.undef), .one (.undef), .one (.undef), .one (.undef), .one (.undef), .one (.undef), .one (.vec false .int t110), .one (.int .i64 t111), .one (.int .i64 t112), .one (.undef), .one (.undef), .one (.undef), .one (.undef), .one (.undef), .one (.undef), .one (.undef), .one (.undef), .one (.undef), .one (.undef), .one (.undef), .one (.undef), .one (.undef), .one (.undef), .one (.undef), .one (.undef), .one (.undef), .one (.undef), .one (.undef), .one (.undef), .one (.undef), .one (.undef), .one (.undef), .one (.undef), .one (.undef), .one (.undef), .one (.undef), .one (.undef), .one (.undef), .one (.undef), .one (.undef), .one (.undef), .one (.undef), .one (.undef), .one (.undef), .one (.undef), .one (.undef), .one (.undef), .one (.undef), .one (.undef), .one (.undef), .one (.undef), .one (.undef), .one (.undef), .one (.undef), .one (.undef), .one (.undef), .one (.undef), .one (.undef), .one (.undef), .one (.undef), .one (.undef), .one (.undef), .one (.undef), .one (.undef), .one (.undef), .one (.undef), .one (.undef), .one (.undef), .one (.undef), .one (.undef), .one (.undef), .one (.undef), .one (.undef), .one (.undef), .one (.undef), .one (.undef), .one (.undef), .one (.undef), .one (.undef), .one (.undef), .one (.undef), .one (.undef), .one (.undef), .one (.undef), .one (.undef), .one (.undef), .one (.undef), .one (.undef), .one (.undef), .one (.undef), .one (.undef), .one (.undef), .one (.undef), .one (.undef), .one (.undef), .one (.undef), .one (.undef), .one (.undef), .one (.undef), .one (.undef), .one (.undef), .one (.undef), .one (.undef), .one (.undef), .one (.undef), .one (.undef), .one (.undef), .one (.undef), .one (.undef), .one (.undef), .one (.undef), .one (.undef), .one (.undef), .one (.undef), .one (.undef), .one (.undef), .one (.undef), .one (.undef), .one (.undef), .one (.undef), .one (.undef), .one (.undef), .one (.undef), .one (.undef), .one (.undef), .one (.undef), .one (.undef), .one (.undef), .one (.undef), .one (.undef), .one (.undef), .one (.undef), .one (.undef), .one (.undef), .one (.undef), .one (.undef), .one (.undef), .one (.undef), .one (.undef), .one (.undef), .one (.undef), .one (.undef), .one (.undef), .one (.undef), .one (.undef), .one (.undef), .one (.undef), .one (.undef), .one (.undef), .one (.undef)], [((0, 0), some (.cell (.vec m0_0b .place m0_0))), ((0, 1), some (.cell (.vec m0_1b .road m0_1))), ((1, 0), some (.rows .int m1)), ((2, 0), some (.rows .int m2)), ((3, 0), some (.rows .int m3))], 4⟩).den
noncomputable def h47_4 (fl : Nat) (t1b : Bool) (t1 : List Span) (t22 : Bool) (m0_0b : Bool) (m0_0 : List Place) (m0_1b : Bool) (m0_1 : List Road) (m1 : List Int) (m2 : List Int) (m3 : List Int) : Option (AV × List Ob) := (evalH (envc l47 [38, 46, 48, 50]) Try.f47 k47 0 fl (stkF Try.f47 [1, 1, 1, 1, 1, 1, 1, 1, 1, 1, 0, 1, 0]) ⟨[.one (.undef), .one (.vec t1b .span t1), .one (.undef), .one (.ptr 0 0), .one (.undef), .one (.undef), .one (.undef), .one (.undef), .one (.undef), .one (.undef), .one (.row 1), .one (.undef), .one (.undef), .one (.row 2), .one (.row 3), .one (.undef), .one (.undef), .one (.undef), .one (.undef), .one (.undef), .one (.undef), .one (.undef), .one (.bool t22), .one (.undef), .one (.undef), .one (.undef), .one (.undef), .one (.undef), .one (.undef), .one (.undef), .one (.undef), .one (.undef), .one (.undef), .one (.undef), .one (.undef), .one (.undef), .one (.undef), .one (.undef), .one (.undef), .one (.undef), .one (.undef), .one (.undef), .one (.undef), .one (.undef), .one (.undef), .one (.undef), .one (.undef), .one (.undef), .one (.undef), .one (.undef), .one (.undef), .one (.undef), .one (.undef), .one (.undef), .one (.undef), .one (.undef), .one (.undef), .one (.undef), .one (.undef), .one (.undef), .one (.undef), .one (.undef), .one (.undef), .one (.undef), .one (.undef), .one (.undef), .one (.undef), .one (.undef), .one (.undef), .one (.undef), .one (.undef), .one (.undef), .one (.undef), .one (.undef), .one (.undef), .one (.undef), .one (.undef), .one (.undef), .one (.undef), .one (.undef), .one (.undef), .one (.undef), .one (.undef), .one (.undef), .one (.undef), .one (.undef), .one (.undef), .one (.undef), .one (.undef), .one (.undef), .one (.undef), .one (.undef), .one (.undef), .one (.undef), .one (.undef), .one (.undef), .one (.undef), .one (.undef), .one (.undef), .one (.undef), .one (.undef), .one (.undef), .one (.undef), .one (.undef), .one (.undef), .one (.undef), .one (.undef), .one (.undef), .one (.undef), .one (.undef), .one (.undef), .one (.undef), .one (.undef), .one (.undef), .one (.undef), .one (.undef), .one (.undef), .one (.undef), .one (.undef), .one (.undef), .one (.undef), .one (.undef), .one (.undef), .one (.undef), .one (.undef), .one (.undef), .one (.undef), .one (.undef), .one (.undef), .one (.undef), .one (.undef), .one (.undef), .one (.undef), .one (.undef), .one (.undef), .one (.undef), .one (.undef), .one (.undef), .one (.undef), .one (.undef), .one (.undef), .one (.undef), .one (.undef), .one (.undef), .one (.undef), .one (.undef), .one (.undef), .one (.undef), .one (.undef), .one (.undef), .one (.undef), .one (.undef), .one (.undef), .one (.undef), .one (.undef), .one (.undef), .one (.undef), .one (.undef), .one (.undef), .one (.undef), .one (.undef), .one (.undef), .one (.undef), .one (.undef), .one (.undef), .one (.undef), .one (.undef), .one (.undef), .one (.undef), .one (.undef), .one (.undef), .one (.undef), .one (.undef), .one (.undef), .one (.undef), .one (.undef), .one (.undef), .one (.undef), .one (.undef), .one (.undef), .one (.undef), .one (.undef), .one (.undef), .one (.undef), .one (.undef), .one (.undef), .one (.undef), .one (.undef), .one (.undef), .one (.undef), .one (.undef), .one (.undef), .one (.undef), .one (.undef), .one (.undef), .one (.undef), .one (.undef), .one (.undef), .one (.undef), .one (.undef), .one (.undef), .one (.undef), .one (.undef), .one (.undef), .one (.undef), .one (.undef), .one (.undef), .one (.undef), .one (.undef), .one (.undef), .one (.undef), .one (.undef), .one (.undef), .one (.undef), .one (.undef), .one (.undef), .one (.undef), .one (.undef), .one (.undef), .one (.undef), .one (.undef), .one (.undef), .one (.undef), .one (.undef), .one (.undef), .one (.undef), .one (.undef), .one (.undef), .one (.undef), .one (.undef), .one (.undef), .one (.undef), .one (.undef), .one (.undef), .one (.undef), .one (.undef), .one (.undef), .one (.undef), .one (.undef), .one (.undef), .one (.undef), .one (.undef), .one (.undef), .one (.undef), .one (.undef), .one (.undef), .one (.undef), .one (.undef), .one (.undef), .one (.undef), .one (.undef), .one (.undef), .one (.undef), .one (.undef)], [((0, 0), some (.cell (.vec m0_0b .place m0_0))), ((0, 1), some (.cell (.vec m0_1b .road m0_1))), ((1, 0), some (.rows .int m1)), ((2, 0), some (.rows .int m2)), ((3, 0), some (.rows .int m3))], 4⟩).den
noncomputable def h47_5 (fl : Nat) (t1b : Bool) (t1 : List Span) (t22 : Bool) (t129b : Bool) (t129 : List Road) (t130 : Int) (t131 : Int) (m0_0b : Bool) (m0_0 : List Place) (m0_1b : Bool) (m0_1 : List Road) (m1 : List Int) (m2 : List Int) (m3 : List Int) : Option (AV × List Ob) := (evalH (envc l47 [38, 46, 48, 50]) Try.f47 k47 0 fl (stkF Try.f47 [1, 1, 1, 1, 1, 1, 1, 1, 1, 1, 0, 1, 0, 0, 1, 0, 1, 1, 0]) ⟨[.one (.undef), .one (.vec t1b .span t1), .one (.undef), .one (.ptr 0 0), .one (.undef), .one (.undef), .one (.undef), .one (.undef), .one (.undef), .one (.undef), .one (.row 1), .one (.undef), .one (.undef), .one (.row 2), .one (.row 3), .one (.undef), .one (.undef), .one (.undef), .one (.undef), .one (.undef), .one (.undef), .one (.undef), .one (.bool t22), .one (.undef), .one (.undef), .one (.undef), .one (.undef), .one (.undef), .one (.undef), .one (.undef), .one (.undef), .one (.undef), .one (.undef), .one (.undef), .one (.undef), .one (.undef), .one (.undef), .one (.undef), .one (.undef), .one (.undef), .one (.undef), .one (.undef), .one (.undef), .one (.undef), .one (.undef), .one (.undef), .one (.undef), .one (.undef), .one (.undef), .one (.undef), .one (.undef), .one (.undef), .one (.undef), .one (.undef), .one (.undef), .one (.undef), .one (.undef), .one (.undef), .one (.undef), .one (.undef), .one (.undef), .one (.undef), .one (.undef), .one (.undef), .one (.undef), .one (.undef), .one (.undef), .one (.undef), .one (.undef), .one (.undef), .one (.undef), .one (.undef), .one (.undef), .one (.undef), .one (.undef), .one (.undef), .one (.undef), .one (.undef), .one (.undef), .one (.undef), .one (.undef), .one (.undef), .one (.undef), .one (.undef), .one (.undef), .one (.undef), .one (.undef), .one (.undef), .one (.undef), .one (.undef), .one (.undef), .one (.undef), .one (.undef), .one (.undef), .one (.undef), .one (.undef), .one (.undef), .one (.undef), .one (.undef), .one (.undef), .one (.undef), .one (.undef), .one (.undef), .one (.undef), .one (.undef), .one (.undef), .one (.undef), .one (.undef), .one (.undef), .one (.undef), .one (.undef), .one (.undef), .one (.undef), .one (.undef), .one (.undef), .one (.undef), .one (.undef), .one (.undef), .one (.undef), .one (.undef), .one (.undef), .one (.undef), .one (.undef), .one (.undef), .one (.undef), .one (.undef), .one (.undef), .one (.undef), .one (.undef), .one (.vec t129b .road t129), .one (.int .i64 t130), .one (.int .i64 t131), .one (.undef), .one (.undef), .one (.undef), .one (.undef), .one (.undef), .one (.undef), .one (.undef), .one (.undef), .one (.undef), .one (.undef), .one (.undef), .one (.undef), .one (.undef), .one (.undef), .one (.undef), .one (.undef), .one (.undef), .one (.undef), .one (.undef), .one (.undef), .one (.undef), .one (.undef), .one (.undef), .one (.undef), .one (.undef), .one (.undef), .one (.undef), .one (.undef), .one (.undef), .one (.undef), .one (.undef), .one (.undef), .one (.undef), .one (.undef), .one (.undef), .one (.undef), .one (.undef), .one (.undef), .one (.undef), .one (.undef), .one (.undef), .one (.undef), .one (.undef), .one (.undef), .one (.undef), .one (.undef), .one (.undef), .one (.undef), .one (.undef), .one (.undef), .one (.undef), .one (.undef), .one (.undef), .one (.undef), .one (.undef), .one (.undef), .one (.undef), .one (.undef), .one (.undef), .one (.undef), .one (.undef), .one (.undef), .one (.undef), .one (.undef), .one (.undef), .one (.undef), .one (.undef), .one (.undef), .one (.undef), .one (.undef), .one (.undef), .one (.undef), .one (.undef), .one (.undef), .one (.undef), .one (.undef), .one (.undef), .one (.undef), .one (.undef), .one (.undef), .one (.undef), .one (.undef), .one (.undef), .one (.undef), .one (.undef), .one (.undef), .one (.undef), .one (.undef), .one (.undef), .one (.undef), .one (.undef), .one (.undef), .one (.undef), .one (.undef), .one (.undef), .one (.undef), .one (.undef), .one (.undef), .one (.undef), .one (.undef), .one (.undef), .one (.undef), .one (.undef), .one (.undef), .one (.undef), .one (.undef), .one (.undef), .one (.undef), .one (.undef), .one (.undef), .one (.undef), .one (.undef), .one (.undef), .one (.undef), .one (.undef), .one (.undef), .one (.undef), .one (.undef), .one (.undef), .one (.undef), .one (.undef), .one (.undef)], [((0, 0), some (.cell (.vec m0_0b .place m0_0))), ((0, 1), some (.cell (.vec m0_1b .road m0_1))), ((1, 0), some (.rows .int m1)), ((2, 0), some (.rows .int m2)), ((3, 0), some (.rows .int m3))], 4⟩).den
noncomputable def h47_6 (fl : Nat) (t1b : Bool) (t1 : List Span) (t22 : Bool) (t23 : Int) (t25 : Bool) (t26 : Bool) (t129b : Bool) (t129 : List Road) (t130 : Int) (t131 : Int) (m0_0b : Bool) (m0_0 : List Place) (m0_1b : Bool) (m0_1 : List Road) (m1 : List Int) (m2 : List Int) (m3 : List Int) (m4_0 : Int) (m4_1 : Int) (m4_2 : Int) (m4_3 : Int) (m4_4 : Bool) (m4_5 : Bool) (m4_6 : Int) (m4_7 : Int) (m4_8 : Int) (m4_9 : Int) : Option (AV × List Ob) := (evalH (envc l47 [38, 46, 48, 50]) Try.f47 k47 0 fl (stkF Try.f47 [1, 1, 1, 1, 1, 1, 1, 1, 1, 1, 0, 1, 0, 0, 1, 0, 1, 1, 0, 0, 1, 1, 0, 0, 1, 1]) ⟨[.one (.undef), .one (.vec t1b .span t1), .one (.undef), .one (.ptr 0 0), .one (.undef), .one (.undef), .one (.undef), .one (.undef), .one (.undef), .one (.undef), .one (.row 1), .one (.undef), .one (.undef), .one (.row 2), .one (.row 3), .one (.undef), .one (.undef), .one (.undef), .one (.undef), .one (.undef), .one (.undef), .one (.undef), .one (.bool t22), .one (.int .i64 t23), .one (.ptr 4 0), .one (.bool t25), .one (.bool t26), .one (.undef), .one (.undef), .one (.undef), .one (.undef), .one (.undef), .one (.undef), .one (.undef), .one (.undef), .one (.undef), .one (.undef), .one (.undef), .one (.undef), .one (.undef), .one (.undef), .one (.undef), .one (.undef), .one (.undef), .one (.undef), .one (.undef), .one (.undef), .one (.undef), .one (.undef), .one (.undef), .one (.undef), .one (.undef), .one (.undef), .one (.undef), .one (.undef), .one (.undef), .one (.undef), .one (.undef), .one (.undef), .one (.undef), .one (.undef), .one (.undef), .one (.undef), .one (.undef), .one (.undef), .one (.undef), .one (.undef), .one (.undef), .one (.undef), .one (.undef), .one (.undef), .one (.undef), .one (.undef), .one (.undef), .one (.undef), .one (.undef), .one (.undef), .one (.undef), .one (.undef), .one (.undef), .one (.undef), .one (.undef), .one (.undef), .one (.undef), .one (.undef), .one (.undef), .one (.undef), .one (.undef), .one (.undef), .one (.undef), .one (.undef), .one (.undef), .one (.undef), .one (.undef), .one (.undef), .one (.undef), .one (.undef), .one (.undef), .one (.undef), .one (.undef), .one (.undef), .one (.undef), .one (.undef), .one (.undef), .one (.undef), .one (.undef), .one (.undef), .one (.undef), .one (.undef), .one (.undef), .one (.undef), .one (.undef), .one (.undef), .one (.undef), .one (.undef), .one (.undef), .one (.undef), .one (.undef), .one (.undef), .one (.undef), .one (.undef), .one (.undef), .one (.undef), .one (.undef), .one (.undef), .one (.undef), .one (.undef), .one (.undef), .one (.undef), .one (.vec t129b .road t129), .one (.int .i64 t130), .one (.int .i64 t131), .one (.undef), .one (.undef), .one (.undef), .one (.undef), .one (.undef), .one (.undef), .one (.undef), .one (.undef), .one (.undef), .one (.undef), .one (.undef), .one (.undef), .one (.undef), .one (.undef), .one (.undef), .one (.undef), .one (.undef), .one (.undef), .one (.undef), .one (.undef), .one (.undef), .one (.undef), .one (.undef), .one (.undef), .one (.undef), .one (.undef), .one (.undef), .one (.undef), .one (.undef), .one (.undef), .one (.undef), .one (.undef), .one (.undef), .one (.undef), .one (.undef), .one (.undef), .one (.undef), .one (.undef), .one (.undef), .one (.undef), .one (.undef), .one (.undef), .one (.undef), .one (.undef), .one (.undef), .one (.undef), .one (.undef), .one (.undef), .one (.undef), .one (.undef), .one (.undef), .one (.undef), .one (.undef), .one (.undef), .one (.undef), .one (.undef), .one (.undef), .one (.undef), .one (.undef), .one (.undef), .one (.undef), .one (.undef), .one (.undef), .one (.undef), .one (.undef), .one (.undef), .one (.undef), .one (.undef), .one (.undef), .one (.undef), .one (.undef), .one (.undef), .one (.undef), .one (.undef), .one (.undef), .one (.undef), .one (.undef), .one (.undef), .one (.undef), .one (.undef), .one (.undef), .one (.undef), .one (.undef), .one (.undef), .one (.undef), .one (.undef), .one (.undef), .one (.undef), .one (.undef), .one (.undef), .one (.undef), .one (.undef), .one (.undef), .one (.undef), .one (.undef), .one (.undef), .one (.undef), .one (.undef), .one (.undef), .one (.undef), .one (.undef), .one (.undef), .one (.undef), .one (.undef), .one (.undef), .one (.undef), .one (.undef), .one (.undef), .one (.undef), .one (.undef), .one (.undef), .one (.undef), .one (.undef), .one (.undef), .one (.undef), .one (.undef), .one (.undef), .one (.undef), .one (.undef), .one (.undef), .one (.undef), .one (.undef)], [((0, 0), some (.cell (.vec m0_0b .place m0_0))), ((0, 1), some (.cell (.vec m0_1b .road m0_1))), ((1, 0), some (.rows .int m1)), ((2, 0), some (.rows .int m2)), ((3, 0), some (.rows .int m3)), ((4, 0), some (.cell (.int .i64 m4_0))), ((4, 1), some (.cell (.int .i64 m4_1))), ((4, 2), some (.cell (.int .i64 m4_2))), ((4, 3), some (.cell (.int .i64 m4_3))), ((4, 4), some (.cell (.bool m4_4))), ((4, 5), some (.cell (.bool m4_5))), ((4, 6), some (.cell (.int .i64 m4_6))), ((4, 7), some (.cell (.int .i64 m4_7))), ((4, 8), some (.cell (.int .i64 m4_8))), ((4, 9), some (.cell (.int .i64 m4_9)))], 5⟩).den
noncomputable def h47_7 (fl : Nat) (t1b : Bool) (t1 : List Span) (t22 : Bool) (t23 : Int) (t25 : Bool) (t26 : Bool) (t27 : Int) (t129b : Bool) (t129 : List Road) (t130 : Int) (t131 : Int) (m0_0b : Bool) (m0_0 : List Place) (m0_1b : Bool) (m0_1 : List Road) (m1 : List Int) (m2 : List Int) (m3 : List Int) (m4_0 : Int) (m4_1 : Int) (m4_2 : Int) (m4_3 : Int) (m4_4 : Bool) (m4_5 : Bool) (m4_6 : Int) (m4_7 : Int) (m4_8 : Int) (m4_9 : Int) : Option (AV × List Ob) := (evalH (envc l47 [38, 46, 48, 50]) Try.f47 k47 0 fl (stkF Try.f47 [1, 1, 1, 1, 1, 1, 1, 1, 1, 1, 0, 1, 0, 0, 1, 0, 1, 1, 0, 0, 1, 1, 0, 0, 1, 1, 1, 1]) ⟨[.one (.undef), .one (.vec t1b .span t1), .one (.undef), .one (.ptr 0 0), .one (.undef), .one (.undef), .one (.undef), .one (.undef), .one (.undef), .one (.undef), .one (.row 1), .one (.undef), .one (.undef), .one (.row 2), .one (.row 3), .one (.undef), .one (.undef), .one (.undef), .one (.undef), .one (.undef), .one (.undef), .one (.undef), .one (.bool t22), .one (.int .i64 t23), .one (.ptr 4 0), .one (.bool t25), .one (.bool t26), .one (.int .i64 t27), .one (.undef), .one (.undef), .one (.undef), .one (.undef), .one (.undef), .one (.undef), .one (.undef), .one (.undef), .one (.undef), .one (.undef), .one (.undef), .one (.undef), .one (.undef), .one (.undef), .one (.undef), .one (.undef), .one (.undef), .one (.undef), .one (.undef), .one (.undef), .one (.undef), .one (.undef), .one (.undef), .one (.undef), .one (.undef), .one (.undef), .one (.undef), .one (.undef), .one (.undef), .one (.undef), .one (.undef), .one (.undef), .one (.undef), .one (.undef), .one (.undef), .one (.undef), .one (.undef), .one (.undef), .one (.undef), .one (.undef), .one (.undef), .one (.undef), .one (.undef), .one (.undef), .one (.undef), .one (.undef), .one (.undef), .one (.undef), .one (.undef), .one (.undef), .one (.undef), .one (.undef), .one (.undef), .one (.undef), .one (.undef), .one (.undef), .one (.undef), .one (.undef), .one (.undef), .one (.undef), .one (.undef), .one (.undef), .one (.undef), .one (.undef), .one (.undef), .one (.undef), .one (.undef), .one (.undef), .one (.undef), .one (.undef), .one (.undef), .one (.undef), .one (.undef), .one (.undef), .one (.undef), .one (.undef), .one (.undef), .one (.undef), .one (.undef), .one (.undef), .one (.undef), .one (.undef), .one (.undef), .one (.undef), .one (.undef), .one (.undef), .one (.undef), .one (.undef), .one (.undef), .one (.undef), .one (.undef), .one (.undef), .one (.undef), .one (.undef), .one (.undef), .one (.undef), .one (.undef), .one (.undef), .one (.undef), .one (.undef), .one (.undef), .one (.vec t129b .road t129), .one (.int .i64 t130), .one (.int .i64 t131), .one (.undef), .one (.undef), .one (.undef), .one (.undef), .one (.undef), .one (.undef), .one (.undef), .one (.undef), .one (.undef), .one (.undef), .one (.undef), .one (.undef), .one (.undef), .one (.undef), .one (.undef), .one (.undef), .one (.undef), .one (.undef), .one (.undef), .one (.undef), .one (.undef), .one (.undef), .one (.undef), .one (.undef), .one (.undef), .one (.undef), .one (.undef), .one (.undef), .one (.undef), .one (.undef), .one (.undef), .one (.undef), .one (.undef), .one (.undef), .one (.undef), .one (.undef), .one (.undef), .one (.undef), .one (.undef), .one (.undef), .one (.undef), .one (.undef), .one (.undef), .one (.undef), .one (.undef), .one (.undef), .one (.undef), .one (.undef), .one (.undef), .one (.undef), .one (.undef), .one (.undef), .one (.undef), .one (.undef), .one (.undef), .one (.undef), .one (.undef), .one (.undef), .one (.undef), .one (.undef), .one (.undef), .one (.undef), .one (.undef), .one (.undef), .one (.undef), .one (.undef), .one (.undef), .one (.undef), .one (.undef), .one (.undef), .one (.undef), .one (.undef), .one (.undef), .one (.undef), .one (.undef), .one (.undef), .one (.undef), .one (.undef), .one (.undef), .one (.undef), .one (.undef), .one (.undef), .one (.undef), .one (.undef), .one (.undef), .one (.undef), .one (.undef), .one (.undef), .one (.undef), .one (.undef), .one (.undef), .one (.undef), .one (.undef), .one (.undef), .one (.undef), .one (.undef), .one (.undef), .one (.undef), .one (.undef), .one (.undef), .one (.undef), .one (.undef), .one (.undef), .one (.undef), .one (.undef), .one (.undef), .one (.undef), .one (.undef), .one (.undef), .one (.undef), .one (.undef), .one (.undef), .one (.undef), .one (.undef), .one (.undef), .one (.undef), .one (.undef), .one (.undef), .one (.undef), .one (.undef), .one (.undef), .one (.undef)], [((0, 0), some (.cell (.vec m0_0b .place m0_0))), ((0, 1), some (.cell (.vec m0_1b .road m0_1))), ((1, 0), some (.rows .int m1)), ((2, 0), some (.rows .int m2)), ((3, 0), some (.rows .int m3)), ((4, 0), some (.cell (.int .i64 m4_0))), ((4, 1), some (.cell (.int .i64 m4_1))), ((4, 2), some (.cell (.int .i64 m4_2))), ((4, 3), some (.cell (.int .i64 m4_3))), ((4, 4), some (.cell (.bool m4_4))), ((4, 5), some (.cell (.bool m4_5))), ((4, 6), some (.cell (.int .i64 m4_6))), ((4, 7), some (.cell (.int .i64 m4_7))), ((4, 8), some (.cell (.int .i64 m4_8))), ((4, 9), some (.cell (.int .i64 m4_9)))], 5⟩).den
noncomputable def h47_8 (fl : Nat) (t1b : Bool) (t1 : List Span) (t22 : Bool) (t25 : Bool) (t26 : Bool) (t27 : Int) (t129b : Bool) (t129 : List Road) (t130 : Int) (t131 : Int) (m0_0b : Bool) (m0_0 : List Place) (m0_1b : Bool) (m0_1 : List Road) (m1 : List Int) (m2 : List Int) (m3 : List Int) (m4_0 : Int) (m4_1 : Int) (m4_2 : Int) (m4_3 : Int) (m4_4 : Bool) (m4_5 : Bool) (m4_6 : Int) (m4_7 : Int) (m4_8 : Int) (m4_9 : Int) : Option (AV × List Ob) := (evalH (envc l47 [38, 46, 48, 50]) Try.f47 k47 0 fl (stkF Try.f47 [1, 1, 1, 1, 1, 1, 1, 1, 1, 1, 0, 1, 0, 0, 1, 0, 1, 1, 0, 0, 1, 1, 0, 0, 1, 1, 1, 1, 1]) ⟨[.one (.undef), .one (.vec t1b .span t1), .one (.undef), .one (.ptr 0 0), .one (.undef), .one (.undef), .one (.undef), .one (.undef), .one (.undef), .one (.undef), .one (.row 1), .one (.undef), .one (.undef), .one (.row 2), .one (.row 3), .one (.undef), .one (.undef), .one (.undef), .one (.undef), .one (.undef), .one (.undef), .one (.undef), .one (.bool t22), .one (.undef), .one (.ptr 4 0), .one (.bool t25), .one (.bool t26), .one (.int .i64 t27), .one (.undef), .one (.undef), .one (.undef), .one (.undef), .one (.undef), .one (.undef), .one (.undef), .one (.undef), .one (.undef), .one (.undef), .one (.undef), .one (.undef), .one (.undef), .one (.undef), .one (.undef), .one (.undef), .one (.undef), .one (.undef), .one (.undef), .one (.undef), .one (.undef), .one (.undef), .one (.undef), .one (.undef), .one (.undef), .one (.undef), .one (.undef), .one (.undef), .one (.undef), .one (.undef), .one (.undef), .one (.undef), .one (.undef), .one (.undef), .one (.undef), .one (.undef), .one (.undef), .one (.undef), .one (.undef), .one (.undef), .one (.undef), .one (.undef), .one (.undef), .one (.undef), .one (.undef), .one (.undef), .one (.undef), .one (.undef), .one (.undef), .one (.undef), .one (.undef), .one (.undef), .one (.undef), .one (.undef), .one (.undef), .one (.undef), .one (.undef), .one (.undef), .one (.undef), .one (.undef), .one (.undef), .one (.undef), .one (.undef), .one (.undef), .one (.undef), .one (.undef), .one (.undef), .one (.undef), .one (.undef), .one (.undef), .one (.undef), .one (.undef), .one (.undef), .one (.undef), .one (.undef), .one (.undef), .one (.undef), .one (.undef), .one (.undef), .one (.undef), .one (.undef), .one (.undef), .one (.undef), .one (.undef), .one (.undef), .one (.undef), .one (.undef), .one (.undef), .one (.undef), .one (.undef), .one (.undef), .one (.undef), .one (.undef), .one (.undef), .one (.undef), .one (.undef), .one (.undef), .one (.undef), .one (.undef), .one (.undef), .one (.undef), .one (.vec t129b .road t129), .one (.int .i64 t130), .one (.int .i64 t131), .one (.undef), .one (.undef), .one (.undef), .one (.undef), .one (.undef), .one (.undef), .one (.undef), .one (.undef), .one (.undef), .one (.undef), .one (.undef), .one (.undef), .one (.undef), .one (.undef), .one (.undef), .one (.undef), .one (.undef), .one (.undef), .one (.undef), .one (.undef), .one (.undef), .one (.undef), .one (.undef), .one (.undef), .one (.undef), .one (.undef), .one (.undef), .one (.undef), .one (.undef), .one (.undef), .one (.undef), .one (.undef), .one (.undef), .one (.undef), .one (.undef), .one (.undef), .one (.undef), .one (.undef), .one (.undef), .one (.undef), .one (.undef), .one (.undef), .one (.undef), .one (.undef), .one (.undef), .one (.undef), .one (.undef), .one (.undef), .one (.undef), .one (.undef), .one (.undef), .one (.undef), .one (.undef), .one (.undef), .one (.undef), .one (.undef), .one (.undef), .one (.undef), .one (.undef), .one (.undef), .one (.undef), .one (.undef), .one (.undef), .one (.undef), .one (.undef), .one (.undef), .one (.undef), .one (.undef), .one (.undef), .one (.undef), .one (.undef), .one (.undef), .one (.undef), .one (.undef), .one (.undef), .one (.undef), .one (.undef), .one (.undef), .one (.undef), .one (.undef), .one (.undef), .one (.undef), .one (.undef), .one (.undef), .one (.undef), .one (.undef), .one (.undef), .one (.undef), .one (.undef), .one (.undef), .one (.undef), .one (.undef), .one (.undef), .one (.undef), .one (.undef), .one (.undef), .one (.undef), .one (.undef), .one (.undef), .one (.undef), .one (.undef), .one (.undef), .one (.undef), .one (.undef), .one (.undef), .one (.undef), .one (.undef), .one (.undef), .one (.undef), .one (.undef), .one (.undef), .one (.undef), .one (.undef), .one (.undef), .one (.undef), .one (.undef), .one (.undef), .one (.undef), .one (.undef), .one (.undef), .one (.undef), .one (.undef)], [((0, 0), some (.cell (.vec m0_0b .place m0_0))), ((0, 1), some (.cell (.vec m0_1b .road m0_1))), ((1, 0), some (.rows .int m1)), ((2, 0), some (.rows .int m2)), ((3, 0), some (.rows .int m3)), ((4, 0), some (.cell (.int .i64 m4_0))), ((4, 1), some (.cell (.int .i64 m4_1))), ((4, 2), some (.cell (.int .i64 m4_2))), ((4, 3), some (.cell (.int .i64 m4_3))), ((4, 4), some (.cell (.bool m4_4))), ((4, 5), some (.cell (.bool m4_5))), ((4, 6), some (.cell (.int .i64 m4_6))), ((4, 7), some (.cell (.int .i64 m4_7))), ((4, 8), some (.cell (.int .i64 m4_8))), ((4, 9), some (.cell (.int .i64 m4_9)))], 5⟩).den
noncomputable def h47_9 (fl : Nat) (t1b : Bool) (t1 : List Span) (t22 : Bool) (t26 : Bool) (t27 : Int) (t129b : Bool) (t129 : List Road) (t130 : Int) (t131 : Int) (m0_0b : Bool) (m0_0 : List Place) (m0_1b : Bool) (m0_1 : List Road) (m1 : List Int) (m2 : List Int) (m3 : List Int) (m4_0 : Int) (m4_1 : Int) (m4_2 : Int) (m4_3 : Int) (m4_4 : Bool) (m4_5 : Bool) (m4_6 : Int) (m4_7 : Int) (m4_8 : Int) (m4_9 : Int) : Option (AV × List Ob) := (evalH (envc l47 [38, 46, 48, 50]) Try.f47 k47 0 fl (stkF Try.f47 [1, 1, 1, 1, 1, 1, 1, 1, 1, 1, 0, 1, 0, 0, 1, 0, 1, 1, 0, 0, 1, 1, 0, 0, 1, 1, 1, 1, 1, 1]) ⟨[.one (.undef), .one (.vec t1b .span t1), .one (.undef), .one (.ptr 0 0), .one (.undef), .one (.undef), .one (.undef), .one (.undef), .one (.undef), .one (.undef), .one (.row 1), .one (.undef), .one (.undef), .one (.row 2), .one (.row 3), .one (.undef), .one (.undef), .one (.undef), .one (.undef), .one (.undef), .one (.undef), .one (.undef), .one (.bool t22), .one (.undef), .one (.ptr 4 0), .one (.undef), .one (.bool t26), .one (.int .i64 t27), .one (.undef), .one (.undef), .one (.undef), .one (.undef), .one (.undef), .one (.undef), .one (.undef), .one (.undef), .one (.undef), .one (.undef), .one (.undef), .one (.undef), .one (.undef), .one (.undef), .one (.undef), .one (.undef), .one (.undef), .one (.undef), .one (.undef), .one (.undef), .one (.undef), .one (.undef), .one (.undef), .one (.undef), .one (.undef), .one (.undef), .one (.undef), .one (.undef), .one (.undef), .one (.undef), .one (.undef), .one (.undef), .one (.undef), .one (.undef), .one (.undef), .one (.undef), .one (.undef), .one (.undef), .one (.undef), .one (.undef), .one (.undef), .one (.undef), .one (.undef), .one (.undef), .one (.undef), .one (.undef), .one (.undef), .one (.undef), .one (.undef), .one (.undef), .one (.undef), .one (.undef), .one (.undef), .one (.undef), .one (.undef), .one (.undef), .one (.undef), .one (.undef), .one (.undef), .one (.undef), .one (.undef), .one (.undef), .one (.undef), .one (.undef), .one (.undef), .one (.undef), .one (.undef), .one (.undef), .one (.undef), .one (.undef), .one (.undef), .one (.undef), .one (.undef), .one (.undef), .one (.undef), .one (.undef), .one (.undef), .one (.undef), .one (.undef), .one (.undef), .one (.undef), .one (.undef), .one (.undef), .one (.undef), .one (.undef), .one (.undef), .one (.undef), .one (.undef), .one (.undef), .one (.undef), .one (.undef), .one (.undef), .one (.undef), .one (.undef), .one (.undef), .one (.undef), .one (.undef), .one (.undef), .one (.undef), .one (.undef), .one (.undef), .one (.vec t129b .road t129), .one (.int .i64 t130), .one (.int .i64 t131), .one (.undef), .one (.undef), .one (.undef), .one (.undef), .one (.undef), .one (.undef), .one (.undef), .one (.undef), .one (.undef), .one (.undef), .one (.undef), .one (.undef), .one (.undef), .one (.undef), .one (.undef), .one (.undef), .one (.undef), .one (.undef), .one (.undef), .one (.undef), .one (.undef), .one (.undef), .one (.undef), .one (.undef), .one (.undef), .one (.undef), .one (.undef), .one (.undef), .one (.undef), .one (.undef), .one (.undef), .one (.undef), .one (.undef), .one (.undef), .one (.undef), .one (.undef), .one (.undef), .one (.undef), .one (.undef), .one (.undef), .one (.undef), .one (.undef), .one (.undef), .one (.undef), .one (.undef), .one (.undef), .one (.undef), .one (.undef), .one (.undef), .one (.undef), .one (.undef), .one (.undef), .one (.undef), .one (.undef), .one (.undef), .one (.undef), .one (.undef), .one (.undef), .one (.undef), .one (.undef), .one (.undef), .one (.undef), .one (.undef), .one (.undef), .one (.undef), .one (.undef), .one (.undef), .one (.undef), .one (.undef), .one (.undef), .one (.undef), .one (.undef), .one (.undef), .one (.undef), .one (.undef), .one (.undef), .one (.undef), .one (.undef), .one (.undef), .one (.undef), .one (.undef), .one (.undef), .one (.undef), .one (.undef), .one (.undef), .one (.undef), .one (.undef), .one (.undef), .one (.undef), .one (.undef), .one (.undef), .one (.undef), .one (.undef), .one (.undef), .one (.undef), .one (.undef), .one (.undef), .one (.undef), .one (.undef), .one (.undef), .one (.undef), .one (.undef), .one (.undef), .one (.undef), .one (.undef), .one (.undef), .one (.undef), .one (.undef), .one (.undef), .one (.undef), .one (.undef), .one (.undef), .one (.undef), .one (.undef), .one (.undef), .one (.undef), .one (.undef), .one (.undef), .one (.undef), .one (.undef), .one (.undef), .one (.undef)], [((0, 0), some (.cell (.vec m0_0b .place m0_0))), ((0, 1), some (.cell (.vec m0_1b .road m0_1))), ((1, 0), some (.rows .int m1)), ((2, 0), some (.rows .int m2)), ((3, 0), some (.rows .int m3)), ((4, 0), some (.cell (.int .i64 m4_0))), ((4, 1), some (.cell (.int .i64 m4_1))), ((4, 2), some (.cell (.int .i64 m4_2))), ((4, 3), some (.cell (.int .i64 m4_3))), ((4, 4), some (.cell (.bool m4_4))), ((4, 5), some (.cell (.bool m4_5))), ((4, 6), some (.cell (.int .i64 m4_6))), ((4, 7), some (.cell (.int .i64 m4_7))), ((4, 8), some (.cell (.int .i64 m4_8))), ((4, 9), some (.cell (.int .i64 m4_9)))], 5⟩).den
theorem h47_eq (fl : Nat) (b1 : Bool) (P : List Place) (b2 : Bool) (R : List Road) (b3 : Bool) (f : List Span) (b4 : Bool) (L : List Source) : h47 (fl + 1) b1 P b2 R b3 f b4 L =
    if (checkG P R L != 0) = true then some (.tup [(false, [.nils]), (false, [.nils]), (false, [.int .i64 (checkG P R L)])], [])
    else if ((↑f.length : Int) != (↑R.length : Int)) = true then some (.tup [(false, [.nils]), (false, [.nils]), (false, [.int .i64 11])], [])
      else if (decide (0 ≤ (↑R.length : Int)) && (decide ((↑R.length : Int) ≤ 1048576) && (↑R.length : Int) == (↑R.length : Int))) = true then h47_0 fl b3 f b4 L ((↑L.length : Int)) 0 b1 P b2 R (List.replicate (↑R.length : Int).toNat (dflt K.int))
        else none := by kernel_rfl
theorem h47_0_eq (fl : Nat) (t1b : Bool) (t1 : List Span) (t44b : Bool) (t44 : List Source) (t45 : Int) (t46 : Int) (m0_0b : Bool) (m0_0 : List Place) (m0_1b : Bool) (m0_1 : List Road) (m1 : List Int) : h47_0 (fl + 1) t1b t1 t44b t44 t45 t46 m0_0b m0_0 m0_1b m0_1 m1 =
    if (decide (t46 < t45)) = true then if (idx t44.length t46) = true then if (idx m1.length (t44.getD t46.toNat (dflt K.source)).road) = true then if (idx m1.length (t44.getD t46.toNat (dflt K.source)).road) = true then h47_0 fl t1b t1 t44b t44 t45 (IntKind.i64.wrap (t46 + 1)) m0_0b m0_0 m0_1b m0_1 (m1.set (t44.getD t46.toNat (dflt K.source)).road.toNat (IntKind.i64.wrap (m1.getD (t44.getD t46.toNat (dflt K.source)).road.toNat (dflt K.int) + (t44.getD t46.toNat (dflt K.source)).hi)))
          else none
        else none
      else none
    else if (decide (0 ≤ (↑m0_0.length : Int)) && (decide ((↑m0_0.length : Int) ≤ 1048576) && (↑m0_0.length : Int) == (↑m0_0.length : Int))) = true then if (decide (0 ≤ (↑m0_1.length : Int)) && (decide ((↑m0_1.length : Int) ≤ 1048576) && (↑m0_1.length : Int) == (↑m0_1.length : Int))) = true then if (decide (0 ≤ (↑m0_0.length : Int)) && (decide ((↑m0_0.length : Int) ≤ 1048576) && (↑m0_0.length : Int) == (↑m0_0.length : Int))) = true then (o63 m0_0b m0_0 m0_1b m0_1 t1b t1).bind fun x6 =>
            h47_1 fl t1b t1 x6 ((↑x6.length : Int)) 0 m0_0b m0_0 m0_1b m0_1 m1 (List.replicate (↑m0_0.length : Int).toNat (dflt K.int)) (List.replicate (↑m0_1.length : Int).toNat (dflt K.int)) (List.replicate (↑m0_0.length : Int).toNat (dflt K.bool))
          else none
        else none
      else none := by kernel_rfl
theorem h47_1_eq (fl : Nat) (t1b : Bool) (t1 : List Span) (t75 : List Pair) (t76 : Int) (t77 : Int) (m0_0b : Bool) (m0_0 : List Place) (m0_1b : Bool) (m0_1 : List Road) (m1 : List Int) (m2 : List Int) (m3 : List Int) (m4 : List Bool) : h47_1 (fl + 1) t1b t1 t75 t76 t77 m0_0b m0_0 m0_1b m0_1 m1 m2 m3 m4 =
    if (decide (t77 < t76)) = true then if (idx t75.length t77) = true then if (idx m4.length (t75.getD t77.toNat (dflt K.pair)).b) = true then h47_1 fl t1b t1 t75 t76 (IntKind.i64.wrap (t77 + 1)) m0_0b m0_0 m0_1b m0_1 m1 m2 m3 (m4.set (t75.getD t77.toNat (dflt K.pair)).b.toNat true)
        else none
      else none
    else h47_2 fl t1b t1 m0_0b m0_0 ((↑m0_0.length : Int)) 0 m0_0b m0_0 m0_1b m0_1 m1 m2 m3 m4 := by kernel_rfl
theorem h47_2_eq (fl : Nat) (t1b : Bool) (t1 : List Span) (t87b : Bool) (t87 : List Place) (t88 : Int) (t89 : Int) (m0_0b : Bool) (m0_0 : List Place) (m0_1b : Bool) (m0_1 : List Road) (m1 : List Int) (m2 : List Int) (m3 : List Int) (m4 : List Bool) : h47_2 (fl + 1) t1b t1 t87b t87 t88 t89 m0_0b m0_0 m0_1b m0_1 m1 m2 m3 m4 =
    if (decide (t89 < t88)) = true then if (idx t87.length t89) = true then if (!(t87.getD t89.toNat (dflt K.place)).surface) = true then if (idx m4.length t89) = true then if (!m4.getD t89.toNat (dflt K.bool)) = true then if (idx m2.length t89) = true then h47_2 fl t1b t1 t87b t87 t88 (IntKind.i64.wrap (t89 + 1)) m0_0b m0_0 m0_1b m0_1 m1 (m2.set t89.toNat 1000000) m3 m4
              else none
            else h47_2 fl t1b t1 t87b t87 t88 (IntKind.i64.wrap (t89 + 1)) m0_0b m0_0 m0_1b m0_1 m1 m2 m3 m4
          else none
        else h47_2 fl t1b t1 t87b t87 t88 (IntKind.i64.wrap (t89 + 1)) m0_0b m0_0 m0_1b m0_1 m1 m2 m3 m4
      else none
    else (o71 m0_0b m0_0 m0_1b m0_1 t1b t1).bind fun x3 =>
      h47_3 fl t1b t1 x3 ((↑x3.length : Int)) 0 m0_0b m0_0 m0_1b m0_1 m1 m2 m3 := by kernel_rfl
theorem h47_3_eq (fl : Nat) (t1b : Bool) (t1 : List Span) (t110 : List Int) (t111 : Int) (t112 : Int) (m0_0b : Bool) (m0_0 : List Place) (m0_1b : Bool) (m0_1 : List Road) (m1 : List Int) (m2 : List Int) (m3 : List Int) : h47_3 (fl + 1) t1b t1 t110 t111 t112 m0_0b m0_0 m0_1b m0_1 m1 m2 m3 =
    if (decide (t112 < t111)) = true then if (idx t110.length t112) = true then if (idx m0_0.length (t110.getD t112.toNat (dflt K.int))) = true then if (!(m0_0.getD (Int.toNat (t110.getD t112.toNat (dflt K.int))) (dflt K.place)).surface) = true then if (idx m2.length (t110.getD t112.toNat (dflt K.int))) = true then h47_3 fl t1b t1 t110 t111 (IntKind.i64.wrap (t112 + 1)) m0_0b m0_0 m0_1b m0_1 m1 (m2.set (Int.toNat (t110.getD t112.toNat (dflt K.int))) 1000000) m3
            else none
          else h47_3 fl t1b t1 t110 t111 (IntKind.i64.wrap (t112 + 1)) m0_0b m0_0 m0_1b m0_1 m1 m2 m3
        else none
      else none
    else h47_4 fl t1b t1 true m0_0b m0_0 m0_1b m0_1 m1 m2 m3 := by kernel_rfl
theorem h47_4_eq (fl : Nat) (t1b : Bool) (t1 : List Span) (t22 : Bool) (m0_0b : Bool) (m0_0 : List Place) (m0_1b : Bool) (m0_1 : List Road) (m1 : List Int) (m2 : List Int) (m3 : List Int) : h47_4 (fl + 1) t1b t1 t22 m0_0b m0_0 m0_1b m0_1 m1 m2 m3 =
    if t22 = true then h47_5 fl t1b t1 false m0_1b m0_1 ((↑m0_1.length : Int)) 0 m0_0b m0_0 m0_1b m0_1 m1 m2 m3
    else some (.tup [(false, [.row 0]), (false, [.row 1]), (false, [.int .i64 0])], [.rows .int m2, .rows .int m3]) := by kernel_rfl
theorem h47_5_eq (fl : Nat) (t1b : Bool) (t1 : List Span) (t22 : Bool) (t129b : Bool) (t129 : List Road) (t130 : Int) (t131 : Int) (m0_0b : Bool) (m0_0 : List Place) (m0_1b : Bool) (m0_1 : List Road) (m1 : List Int) (m2 : List Int) (m3 : List Int) : h47_5 (fl + 1) t1b t1 t22 t129b t129 t130 t131 m0_0b m0_0 m0_1b m0_1 m1 m2 m3 =
    if (decide (t131 < t130)) = true then if (idx t129.length t131) = true then if (!(t129.getD t131.toNat (dflt K.road)).closed) = true then if (idx t1.length t131) = true then if (!(t129.getD t131.toNat (dflt K.road)).closed) = true then if (idx t1.length t131) = true then h47_6 fl t1b t1 t22 t131 (decide ((t1.getD t131.toNat (dflt K.span)).hi > 0)) (decide ((t1.getD t131.toNat (dflt K.span)).lo < 0)) t129b t129 t130 t131 m0_0b m0_0 m0_1b m0_1 m1 m2 m3 ((t129.getD t131.toNat (dflt K.road)).frm) ((t129.getD t131.toNat (dflt K.road)).to) ((t129.getD t131.toNat (dflt K.road)).len) ((t129.getD t131.toNat (dflt K.road)).area) ((t129.getD t131.toNat (dflt K.road)).walk) ((t129.getD t131.toNat (dflt K.road)).closed) ((t129.getD t131.toNat (dflt K.road)).restLo) ((t129.getD t131.toNat (dflt K.road)).restHi) ((t129.getD t131.toNat (dflt K.road)).liftLo) ((t129.getD t131.toNat (dflt K.road)).liftHi)
              else none
            else h47_6 fl t1b t1 t22 t131 (decide ((t1.getD t131.toNat (dflt K.span)).hi > 0)) false t129b t129 t130 t131 m0_0b m0_0 m0_1b m0_1 m1 m2 m3 ((t129.getD t131.toNat (dflt K.road)).frm) ((t129.getD t131.toNat (dflt K.road)).to) ((t129.getD t131.toNat (dflt K.road)).len) ((t129.getD t131.toNat (dflt K.road)).area) ((t129.getD t131.toNat (dflt K.road)).walk) ((t129.getD t131.toNat (dflt K.road)).closed) ((t129.getD t131.toNat (dflt K.road)).restLo) ((t129.getD t131.toNat (dflt K.road)).restHi) ((t129.getD t131.toNat (dflt K.road)).liftLo) ((t129.getD t131.toNat (dflt K.road)).liftHi)
          else none
        else if (!(t129.getD t131.toNat (dflt K.road)).closed) = true then if (idx t1.length t131) = true then h47_6 fl t1b t1 t22 t131 false (decide ((t1.getD t131.toNat (dflt K.span)).lo < 0)) t129b t129 t130 t131 m0_0b m0_0 m0_1b m0_1 m1 m2 m3 ((t129.getD t131.toNat (dflt K.road)).frm) ((t129.getD t131.toNat (dflt K.road)).to) ((t129.getD t131.toNat (dflt K.road)).len) ((t129.getD t131.toNat (dflt K.road)).area) ((t129.getD t131.toNat (dflt K.road)).walk) ((t129.getD t131.toNat (dflt K.road)).closed) ((t129.getD t131.toNat (dflt K.road)).restLo) ((t129.getD t131.toNat (dflt K.road)).restHi) ((t129.getD t131.toNat (dflt K.road)).liftLo) ((t129.getD t131.toNat (dflt K.road)).liftHi)
            else none
          else h47_6 fl t1b t1 t22 t131 false false t129b t129 t130 t131 m0_0b m0_0 m0_1b m0_1 m1 m2 m3 ((t129.getD t131.toNat (dflt K.road)).frm) ((t129.getD t131.toNat (dflt K.road)).to) ((t129.getD t131.toNat (dflt K.road)).len) ((t129.getD t131.toNat (dflt K.road)).area) ((t129.getD t131.toNat (dflt K.road)).walk) ((t129.getD t131.toNat (dflt K.road)).closed) ((t129.getD t131.toNat (dflt K.road)).restLo) ((t129.getD t131.toNat (dflt K.road)).restHi) ((t129.getD t131.toNat (dflt K.road)).liftLo) ((t129.getD t131.toNat (dflt K.road)).liftHi)
      else none
    else h47_4 fl t1b t1 t22 m0_0b m0_0 m0_1b m0_1 m1 m2 m3 := by kernel_rfl
theorem h47_6_eq (fl : Nat) (t1b : Bool) (t1 : List Span) (t22 : Bool) (t23 : Int) (t25 : Bool) (t26 : Bool) (t129b : Bool) (t129 : List Road) (t130 : Int) (t131 : Int) (m0_0b : Bool) (m0_0 : List Place) (m0_1b : Bool) (m0_1 : List Road) (m1 : List Int) (m2 : List Int) (m3 : List Int) (m4_0 : Int) (m4_1 : Int) (m4_2 : Int) (m4_3 : Int) (m4_4 : Bool) (m4_5 : Bool) (m4_6 : Int) (m4_7 : Int) (m4_8 : Int) (m4_9 : Int) : h47_6 (fl + 1) t1b t1 t22 t23 t25 t26 t129b t129 t130 t131 m0_0b m0_0 m0_1b m0_1 m1 m2 m3 m4_0 m4_1 m4_2 m4_3 m4_4 m4_5 m4_6 m4_7 m4_8 m4_9 =
    if (!t25) = true then if (!t26) = true then h47_7 fl t1b t1 t22 t23 t25 t26 1000000 t129b t129 t130 t131 m0_0b m0_0 m0_1b m0_1 m1 m2 m3 m4_0 m4_1 m4_2 m4_3 m4_4 m4_5 m4_6 m4_7 m4_8 m4_9
      else if t25 = true then if (idx m2.length m4_0) = true then if t26 = true then if (idx m2.length m4_1) = true then if (idx t1.length t23) = true then if (idx m1.length t23) = true then if (decide (0 ≤ m1.getD t23.toNat (dflt K.int)) && decide (m1.getD t23.toNat (dflt K.int) ≤ 1125899906842624)) = true then h47_7 fl t1b t1 t22 t23 t25 t26 (mn (IntKind.i64.wrap (mx (m2.getD m4_0.toNat (dflt K.int)) (m2.getD m4_1.toNat (dflt K.int)) + addG (t1.getD t23.toNat (dflt K.span)).lo (t1.getD t23.toNat (dflt K.span)).hi (m1.getD t23.toNat (dflt K.int)))) 1000000) t129b t129 t130 t131 m0_0b m0_0 m0_1b m0_1 m1 m2 m3 m4_0 m4_1 m4_2 m4_3 m4_4 m4_5 m4_6 m4_7 m4_8 m4_9
                    else none
                  else none
                else none
              else none
            else if (idx t1.length t23) = true then if (idx m1.length t23) = true then if (decide (0 ≤ m1.getD t23.toNat (dflt K.int)) && decide (m1.getD t23.toNat (dflt K.int) ≤ 1125899906842624)) = true then h47_7 fl t1b t1 t22 t23 t25 t26 (mn (IntKind.i64.wrap (m2.getD m4_0.toNat (dflt K.int) + addG (t1.getD t23.toNat (dflt K.span)).lo (t1.getD t23.toNat (dflt K.span)).hi (m1.getD t23.toNat (dflt K.int)))) 1000000) t129b t129 t130 t131 m0_0b m0_0 m0_1b m0_1 m1 m2 m3 m4_0 m4_1 m4_2 m4_3 m4_4 m4_5 m4_6 m4_7 m4_8 m4_9
                  else none
                else none
              else none
          else none
        else if t26 = true then if (idx m2.length m4_1) = true then if (idx t1.length t23) = true then if (idx m1.length t23) = true then if (decide (0 ≤ m1.getD t23.toNat (dflt K.int)) && decide (m1.getD t23.toNat (dflt K.int) ≤ 1125899906842624)) = true then h47_7 fl t1b t1 t22 t23 t25 t26 (mn (IntKind.i64.wrap (mx 0 (m2.getD m4_1.toNat (dflt K.int)) + addG (t1.getD t23.toNat (dflt K.span)).lo (t1.getD t23.toNat (dflt K.span)).hi (m1.getD t23.toNat (dflt K.int)))) 1000000) t129b t129 t130 t131 m0_0b m0_0 m0_1b m0_1 m1 m2 m3 m4_0 m4_1 m4_2 m4_3 m4_4 m4_5 m4_6 m4_7 m4_8 m4_9
                  else none
                else none
              else none
            else none
          else if (idx t1.length t23) = true then if (idx m1.length t23) = true then if (decide (0 ≤ m1.getD t23.toNat (dflt K.int)) && decide (m1.getD t23.toNat (dflt K.int) ≤ 1125899906842624)) = true then h47_7 fl t1b t1 t22 t23 t25 t26 (mn (IntKind.i64.wrap (0 + addG (t1.getD t23.toNat (dflt K.span)).lo (t1.getD t23.toNat (dflt K.span)).hi (m1.getD t23.toNat (dflt K.int)))) 1000000) t129b t129 t130 t131 m0_0b m0_0 m0_1b m0_1 m1 m2 m3 m4_0 m4_1 m4_2 m4_3 m4_4 m4_5 m4_6 m4_7 m4_8 m4_9
                else none
              else none
            else none
    else if t25 = true then if (idx m2.length m4_0) = true then if t26 = true then if (idx m2.length m4_1) = true then if (idx t1.length t23) = true then if (idx m1.length t23) = true then if (decide (0 ≤ m1.getD t23.toNat (dflt K.int)) && decide (m1.getD t23.toNat (dflt K.int) ≤ 1125899906842624)) = true then h47_7 fl t1b t1 t22 t23 t25 t26 (mn (IntKind.i64.wrap (mx (m2.getD m4_0.toNat (dflt K.int)) (m2.getD m4_1.toNat (dflt K.int)) + addG (t1.getD t23.toNat (dflt K.span)).lo (t1.getD t23.toNat (dflt K.span)).hi (m1.getD t23.toNat (dflt K.int)))) 1000000) t129b t129 t130 t131 m0_0b m0_0 m0_1b m0_1 m1 m2 m3 m4_0 m4_1 m4_2 m4_3 m4_4 m4_5 m4_6 m4_7 m4_8 m4_9
                  else none
                else none
              else none
            else none
          else if (idx t1.length t23) = true then if (idx m1.length t23) = true then if (decide (0 ≤ m1.getD t23.toNat (dflt K.int)) && decide (m1.getD t23.toNat (dflt K.int) ≤ 1125899906842624)) = true then h47_7 fl t1b t1 t22 t23 t25 t26 (mn (IntKind.i64.wrap (m2.getD m4_0.toNat (dflt K.int) + addG (t1.getD t23.toNat (dflt K.span)).lo (t1.getD t23.toNat (dflt K.span)).hi (m1.getD t23.toNat (dflt K.int)))) 1000000) t129b t129 t130 t131 m0_0b m0_0 m0_1b m0_1 m1 m2 m3 m4_0 m4_1 m4_2 m4_3 m4_4 m4_5 m4_6 m4_7 m4_8 m4_9
                else none
              else none
            else none
        else none
      else if t26 = true then if (idx m2.length m4_1) = true then if (idx t1.length t23) = true then if (idx m1.length t23) = true then if (decide (0 ≤ m1.getD t23.toNat (dflt K.int)) && decide (m1.getD t23.toNat (dflt K.int) ≤ 1125899906842624)) = true then h47_7 fl t1b t1 t22 t23 t25 t26 (mn (IntKind.i64.wrap (mx 0 (m2.getD m4_1.toNat (dflt K.int)) + addG (t1.getD t23.toNat (dflt K.span)).lo (t1.getD t23.toNat (dflt K.span)).hi (m1.getD t23.toNat (dflt K.int)))) 1000000) t129b t129 t130 t131 m0_0b m0_0 m0_1b m0_1 m1 m2 m3 m4_0 m4_1 m4_2 m4_3 m4_4 m4_5 m4_6 m4_7 m4_8 m4_9
                else none
              else none
            else none
          else none
        else if (idx t1.length t23) = true then if (idx m1.length t23) = true then if (decide (0 ≤ m1.getD t23.toNat (dflt K.int)) && decide (m1.getD t23.toNat (dflt K.int) ≤ 1125899906842624)) = true then h47_7 fl t1b t1 t22 t23 t25 t26 (mn (IntKind.i64.wrap (0 + addG (t1.getD t23.toNat (dflt K.span)).lo (t1.getD t23.toNat (dflt K.span)).hi (m1.getD t23.toNat (dflt K.int)))) 1000000) t129b t129 t130 t131 m0_0b m0_0 m0_1b m0_1 m1 m2 m3 m4_0 m4_1 m4_2 m4_3 m4_4 m4_5 m4_6 m4_7 m4_8 m4_9
              else none
            else none
          else none := by kernel_rfl
theorem h47_7_eq (fl : Nat) (t1b : Bool) (t1 : List Span) (t22 : Bool) (t23 : Int) (t25 : Bool) (t26 : Bool) (t27 : Int) (t129b : Bool) (t129 : List Road) (t130 : Int) (t131 : Int) (m0_0b : Bool) (m0_0 : List Place) (m0_1b : Bool) (m0_1 : List Road) (m1 : List Int) (m2 : List Int) (m3 : List Int) (m4_0 : Int) (m4_1 : Int) (m4_2 : Int) (m4_3 : Int) (m4_4 : Bool) (m4_5 : Bool) (m4_6 : Int) (m4_7 : Int) (m4_8 : Int) (m4_9 : Int) : h47_7 (fl + 1) t1b t1 t22 t23 t25 t26 t27 t129b t129 t130 t131 m0_0b m0_0 m0_1b m0_1 m1 m2 m3 m4_0 m4_1 m4_2 m4_3 m4_4 m4_5 m4_6 m4_7 m4_8 m4_9 =
    if (idx m3.length t23) = true then if (decide (t27 > m3.getD t23.toNat (dflt K.int))) = true then if (idx m3.length t23) = true then h47_8 fl t1b t1 true t25 t26 t27 t129b t129 t130 t131 m0_0b m0_0 m0_1b m0_1 m1 m2 (m3.set t23.toNat t27) m4_0 m4_1 m4_2 m4_3 m4_4 m4_5 m4_6 m4_7 m4_8 m4_9
        else none
      else h47_8 fl t1b t1 t22 t25 t26 t27 t129b t129 t130 t131 m0_0b m0_0 m0_1b m0_1 m1 m2 m3 m4_0 m4_1 m4_2 m4_3 m4_4 m4_5 m4_6 m4_7 m4_8 m4_9
    else none := by kernel_rfl
theorem h47_8_eq (fl : Nat) (t1b : Bool) (t1 : List Span) (t22 : Bool) (t25 : Bool) (t26 : Bool) (t27 : Int) (t129b : Bool) (t129 : List Road) (t130 : Int) (t131 : Int) (m0_0b : Bool) (m0_0 : List Place) (m0_1b : Bool) (m0_1 : List Road) (m1 : List Int) (m2 : List Int) (m3 : List Int) (m4_0 : Int) (m4_1 : Int) (m4_2 : Int) (m4_3 : Int) (m4_4 : Bool) (m4_5 : Bool) (m4_6 : Int) (m4_7 : Int) (m4_8 : Int) (m4_9 : Int) : h47_8 (fl + 1) t1b t1 t22 t25 t26 t27 t129b t129 t130 t131 m0_0b m0_0 m0_1b m0_1 m1 m2 m3 m4_0 m4_1 m4_2 m4_3 m4_4 m4_5 m4_6 m4_7 m4_8 m4_9 =
    if t25 = true then if (idx m0_0.length m4_1) = true then if (!(m0_0.getD m4_1.toNat (dflt K.place)).surface) = true then if (idx m2.length m4_1) = true then if (decide (t27 > m2.getD m4_1.toNat (dflt K.int))) = true then if (idx m2.length m4_1) = true then h47_9 fl t1b t1 true t26 t27 t129b t129 t130 t131 m0_0b m0_0 m0_1b m0_1 m1 (m2.set m4_1.toNat t27) m3 m4_0 m4_1 m4_2 m4_3 m4_4 m4_5 m4_6 m4_7 m4_8 m4_9
              else none
            else h47_9 fl t1b t1 t22 t26 t27 t129b t129 t130 t131 m0_0b m0_0 m0_1b m0_1 m1 m2 m3 m4_0 m4_1 m4_2 m4_3 m4_4 m4_5 m4_6 m4_7 m4_8 m4_9
          else none
        else h47_9 fl t1b t1 t22 t26 t27 t129b t129 t130 t131 m0_0b m0_0 m0_1b m0_1 m1 m2 m3 m4_0 m4_1 m4_2 m4_3 m4_4 m4_5 m4_6 m4_7 m4_8 m4_9
      else none
    else h47_9 fl t1b t1 t22 t26 t27 t129b t129 t130 t131 m0_0b m0_0 m0_1b m0_1 m1 m2 m3 m4_0 m4_1 m4_2 m4_3 m4_4 m4_5 m4_6 m4_7 m4_8 m4_9 := by kernel_rfl
theorem h47_9_eq (fl : Nat) (t1b : Bool) (t1 : List Span) (t22 : Bool) (t26 : Bool) (t27 : Int) (t129b : Bool) (t129 : List Road) (t130 : Int) (t131 : Int) (m0_0b : Bool) (m0_0 : List Place) (m0_1b : Bool) (m0_1 : List Road) (m1 : List Int) (m2 : List Int) (m3 : List Int) (m4_0 : Int) (m4_1 : Int) (m4_2 : Int) (m4_3 : Int) (m4_4 : Bool) (m4_5 : Bool) (m4_6 : Int) (m4_7 : Int) (m4_8 : Int) (m4_9 : Int) : h47_9 (fl + 1) t1b t1 t22 t26 t27 t129b t129 t130 t131 m0_0b m0_0 m0_1b m0_1 m1 m2 m3 m4_0 m4_1 m4_2 m4_3 m4_4 m4_5 m4_6 m4_7 m4_8 m4_9 =
    if t26 = true then if (idx m0_0.length m4_0) = true then if (!(m0_0.getD m4_0.toNat (dflt K.place)).surface) = true then if (idx m2.length m4_0) = true then if (decide (t27 > m2.getD m4_0.toNat (dflt K.int))) = true then if (idx m2.length m4_0) = true then h47_5 fl t1b t1 true t129b t129 t130 (IntKind.i64.wrap (t131 + 1)) m0_0b m0_0 m0_1b m0_1 m1 (m2.set m4_0.toNat t27) m3
              else none
            else h47_5 fl t1b t1 t22 t129b t129 t130 (IntKind.i64.wrap (t131 + 1)) m0_0b m0_0 m0_1b m0_1 m1 m2 m3
          else none
        else h47_5 fl t1b t1 t22 t129b t129 t130 (IntKind.i64.wrap (t131 + 1)) m0_0b m0_0 m0_1b m0_1 m1 m2 m3
      else none
    else h47_5 fl t1b t1 t22 t129b t129 t130 (IntKind.i64.wrap (t131 + 1)) m0_0b m0_0 m0_1b m0_1 m1 m2 m3 := by kernel_rfl
end Go.Proofs.Ytipfipnhgpbceaa.Sx
/- The greatest concentrations, by the program's text: the least numbers that are closed (plain theorems). -/

set_option linter.unusedVariables false
set_option linter.unusedSimpArgs false
set_option maxRecDepth 100000
namespace Go.Proofs.Ytipfipnhgpbceaa.Sx
open Go Go.RowKit
theorem infl47 (b1 b2 b3 b4 : Bool) (P : List Place) (R : List Road) (f : List Span) (L : List Source) (hL : SrcOK R.length L) : ∀ (d fl k : Nat) (m : List Int), L.length - k = d → k ≤ L.length → m.length = R.length → (∀ i, i < R.length → gx m i + inflow i (L.drop k) = inflow i L ∧ 0 ≤ gx m i ∧ gx m i ≤ 1099511627776 * k) →
    ∃ m', m'.length = R.length ∧ (∀ i, i < R.length → gx m' i = inflow i L) ∧ h47_0 (fl + d) b3 f b4 L L.length k b1 P b2 R m = h47_0 fl b3 f b4 L L.length L.length b1 P b2 R m'
  | 0, fl, k, m, hd, hk, hm, hi => by
    have : k = L.length := by omega
    subst this
    refine ⟨m, hm, fun i hl => ?_, rfl⟩
    have := (hi i hl).1
    rw [List.drop_length] at this
    simpa [inflow] using this
  | d + 1, fl, k, m, hd, hk, hm, hi => by
    have hlt : k < L.length := by omega
    have hl := hL.1
    have hs := hL.2 _ (List.getElem_mem hlt)
    have hi0 : dflt K.int = (0 : Int) := rfl
    rw [show fl + (d + 1) = fl + d + 1 by omega, h47_0_eq, if_pos (lt_nat hlt), if_pos (idx_nat hlt), at_lt hlt, wr_succ (by omega), hi0]
    rw [List.drop_eq_getElem_cons hlt] at hi
    generalize L[k] = s at *
    have is : idx m.length s.road = true := idx_of hs.1 (by rw [hm]; exact hs.2.1)
    have hj : s.road.toNat < m.length := by omega
    have e : m.getD s.road.toNat 0 = gx m s.road.toNat := rfl
    have hb := hi s.road.toNat (by omega)
    rw [if_pos is, if_pos is, e, wid (by omega) (by omega)]
    refine infl47 b1 b2 b3 b4 P R f L hL d fl (k + 1) _ (by omega) (by omega) (by rw [List.length_set, hm]) (fun i hil => ?_)
    have h1 := hi i hil
    rw [inflow] at h1
    rw [gx_set hj]
    by_cases c : i = s.road.toNat
    · rw [if_pos c]
      subst c
      rw [if_pos (by omega)] at h1
      omega
    · rw [if_neg c]
      rw [if_neg (by omega)] at h1
      omega
theorem mem_ways {P : List Place} {R : List Road} {f : List Span} (hr : rightM P R f = true) {j : Nat} : (∃ x ∈ waysOf P R f, x.b = j) ↔ FedTo R f R.length j := by
  unfold waysOf
  rw [if_pos hr]
  constructor
  · rintro ⟨x, hx, hj⟩
    obtain ⟨a, ha, rfl⟩ := List.mem_map.1 hx
    obtain ⟨i, d, h1, h2, rfl⟩ := mem_arcsOf.1 ha
    exact ⟨i, d, h1, h2, hj⟩
  · rintro ⟨i, d, h1, h2, h3⟩
    exact ⟨pairOf ⟨i, endA R i d, endB R i d⟩, List.mem_map.2 ⟨_, mem_arcsOf.2 ⟨i, d, h1, h2, rfl⟩, rfl⟩, h3⟩
theorem ways_in {P : List Place} {R : List Road} {f : List Span} (hR : RoadsIn P.length R) : ∀ x ∈ waysOf P R f, 0 ≤ x.b ∧ x.b < P.length := fun x hx => by
  unfold waysOf at hx
  split at hx
  · obtain ⟨a, ha, rfl⟩ := List.mem_map.1 hx
    obtain ⟨i, d, h1, h2, rfl⟩ := mem_arcsOf.1 ha
    have := ends_in hR h1 d
    exact ⟨this.2.2.1, this.2.2.2⟩
  · cases hx
theorem comes47 (b1 b2 b3 : Bool) (P : List Place) (R : List Road) (f : List Span) (A : List Pair) (hA : ∀ x ∈ A, 0 ≤ x.b ∧ x.b < P.length) (hAl : A.length ≤ 300) (m1 m2 m3 : List Int) : ∀ (d fl k : Nat) (m : List Bool), A.length - k = d → k ≤ A.length → m.length = P.length →
    ∃ m', m'.length = P.length ∧ (∀ j : Nat, bt m' j = true ↔ bt m j = true ∨ ∃ x ∈ A.drop k, x.b = j) ∧ h47_1 (fl + d) b3 f A A.length k b1 P b2 R m1 m2 m3 m = h47_1 fl b3 f A A.length A.length b1 P b2 R m1 m2 m3 m'
  | 0, fl, k, m, hd, hk, hm => by
    have : k = A.length := by omega
    subst this
    exact ⟨m, hm, fun j => by simp, rfl⟩
  | d + 1, fl, k, m, hd, hk, hm => by
    have hlt : k < A.length := by omega
    have hs := hA _ (List.getElem_mem hlt)
    rw [show fl + (d + 1) = fl + d + 1 by omega, h47_1_eq, if_pos (lt_nat hlt), if_pos (idx_nat hlt), at_lt hlt, wr_succ (by omega), List.drop_eq_getElem_cons hlt]
    generalize A[k] = x at *
    rw [if_pos (idx_of hs.1 (by rw [hm]; exact hs.2))]
    obtain ⟨m', h1, h2, h3⟩ := comes47 b1 b2 b3 P R f A hA hAl m1 m2 m3 d fl (k + 1) (m.set x.b.toNat true) (by omega) (by omega) (by rw [List.length_set, hm])
    refine ⟨m', h1, fun j => ?_, h3⟩
    rw [h2 j, bt_set m (by omega)]
    simp only [List.mem_cons, exists_eq_or_imp]
    by_cases c : j = x.b.toNat
    · rw [if_pos c]
      simp only [true_or, true_iff]
      exact .inr (.inl (by omega))
    · rw [if_neg c]
      constructor
      · rintro (h | h)
        · exact .inl h
        · exact .inr (.inr h)
      · rintro (h | h | h)
        · exact .inl h
        · exact absurd (by omega) c
        · exact .inr h
theorem unfed47 (b1 b2 b3 : Bool) (P : List Place) (hP : P.length ≤ 64) (R : List Road) (f : List Span) (m1 m3 : List Int) (m4 : List Bool) (h4 : m4.length = P.length) : ∀ (d fl k : Nat) (m : List Int), P.length - k = d → k ≤ P.length → m.length = P.length → (∀ j, gx m j = if j < k ∧ surf P j = false ∧ bt m4 j = false then 1000000 else 0) →
    ∃ m', m'.length = P.length ∧ (∀ j, gx m' j = if j < P.length ∧ surf P j = false ∧ bt m4 j = false then 1000000 else 0) ∧ h47_2 (fl + d) b3 f b1 P P.length k b1 P b2 R m1 m m3 m4 = h47_2 fl b3 f b1 P P.length P.length b1 P b2 R m1 m' m3 m4
  | 0, fl, k, m, hd, hk, hm, hg => by
    have : k = P.length := by omega
    subst this
    exact ⟨m, hm, hg, rfl⟩
  | d + 1, fl, k, m, hd, hk, hm, hg => by
    have hlt : k < P.length := by omega
    have hb0 : dflt K.bool = false := rfl
    have hp0 : dflt K.place = place0 := rfl
    rw [show fl + (d + 1) = fl + d + 1 by omega, h47_2_eq, if_pos (lt_nat hlt), if_pos (idx_nat hlt), hb0, hp0, Int.toNat_natCast, wr_succ (by omega)]
    have next := fun (m : List Int) (h1 : m.length = P.length) (h2 : ∀ j, gx m j = if j < k + 1 ∧ surf P j = false ∧ bt m4 j = false then 1000000 else 0) => unfed47 b1 b2 b3 P hP R f m1 m3 m4 h4 d fl (k + 1) m (by omega) (by omega) h1 h2
    have keep : ¬ (surf P k = false ∧ bt m4 k = false) → ∀ j, gx m j = if j < k + 1 ∧ surf P j = false ∧ bt m4 j = false then 1000000 else 0 := fun h j => by
      rw [hg j]
      by_cases c : j = k
      · subst c; rw [if_neg (by omega), if_neg (fun q => h q.2)]
      · by_cases c2 : j < k ∧ surf P j = false ∧ bt m4 j = false
        · rw [if_pos c2, if_pos ⟨by omega, c2.2⟩]
        · rw [if_neg c2, if_neg (fun q => c2 ⟨by omega, q.2⟩)]
    by_cases c1 : surf P k = true
    · rw [if_neg (show ¬ (!(P.getD k place0).surface) = true by show ¬ (!surf P k) = true; rw [c1]; simp)]
      exact next m hm (keep (by rw [c1]; simp))
    have c1' : surf P k = false := by simpa using c1
    rw [if_pos (show (!(P.getD k place0).surface) = true by show (!surf P k) = true; rw [c1']; rfl), if_pos (idx_nat (by omega))]
    by_cases c2 : bt m4 k = true
    · rw [if_neg (show ¬ (!m4.getD k false) = true by show ¬ (!bt m4 k) = true; rw [c2]; simp)]
      exact next m hm (keep (by rw [c2]; simp))
    · have c2' : bt m4 k = false := by simpa using c2
      rw [if_pos (show (!m4.getD k false) = true by show (!bt m4 k) = true; rw [c2']; rfl), if_pos (idx_nat (by omega))]
      refine next _ (by rw [List.length_set, hm]) (fun j => ?_)
      rw [gx_set (by omega), hg j]
      by_cases c : j = k
      · subst c; rw [if_pos rfl, if_pos ⟨by omega, c1', c2'⟩]
      · rw [if_neg c]
        by_cases c3 : j < k ∧ surf P j = false ∧ bt m4 j = false
        · rw [if_pos c3, if_pos ⟨by omega, c3.2⟩]
        · rw [if_neg c3, if_neg (fun q => c3 ⟨by omega, q.2⟩)]
theorem mixed47 (b1 b2 b3 : Bool) (P : List Place) (R : List Road) (f : List Span) (m1 m3 : List Int) (l : List Int) (hl : ∀ x ∈ l, ∃ j : Nat, j < P.length ∧ surf P j = false ∧ x = j) (hll : l.length ≤ 300) : ∀ (d fl k : Nat) (m : List Int), l.length - k = d → k ≤ l.length → m.length = P.length →
    ∃ m', m'.length = P.length ∧ (∀ j : Nat, gx m' j = if (j : Int) ∈ l.drop k then 1000000 else gx m j) ∧ h47_3 (fl + d) b3 f l l.length k b1 P b2 R m1 m m3 = h47_3 fl b3 f l l.length l.length b1 P b2 R m1 m' m3
  | 0, fl, k, m, hd, hk, hm => by
    have : k = l.length := by omega
    subst this
    exact ⟨m, hm, fun j => by simp, rfl⟩
  | d + 1, fl, k, m, hd, hk, hm => by
    have hlt : k < l.length := by omega
    have hp0 : dflt K.place = place0 := rfl
    obtain ⟨j, h1, h2, h3⟩ := hl _ (List.getElem_mem hlt)
    rw [show fl + (d + 1) = fl + d + 1 by omega, h47_3_eq, if_pos (lt_nat hlt), if_pos (idx_nat hlt), at_lt hlt, wr_succ (by omega), hp0, List.drop_eq_getElem_cons hlt]
    generalize l[k] = x at *
    subst h3
    rw [if_pos (idx_nat h1), Int.toNat_natCast, if_pos (show (!(P.getD j place0).surface) = true by show (!surf P j) = true; rw [h2]; rfl), if_pos (idx_nat (by omega))]
    obtain ⟨m', g1, g2, g3⟩ := mixed47 b1 b2 b3 P R f m1 m3 l hl hll d fl (k + 1) (m.set j 1000000) (by omega) (by omega) (by rw [List.length_set, hm])
    refine ⟨m', g1, fun i => ?_, g3⟩
    rw [g2 i, gx_set (by omega)]
    by_cases c : i = j
    · subst c; simp
    · have : ¬ (i : Int) = j := by omega
      simp [c, this]
theorem good_upP {P : List Place} {R : List Road} {f : List Span} {mo p0 : Nat → Int} {p r : List Int} (hG : GoodG P R f mo p0 p r) {v : Int} (hv : v ≤ 1000000) {z : Nat} (hz : z < P.length) (hT : ∀ tp tr : Nat → Int, AboveG R f p0 tp tr → CloG P R f mo tp tr → v ≤ tp z) (c : gx p z < v) : GoodG P R f mo p0 (p.set z v) r ∧ (∀ k, gx p k ≤ gx (p.set z v) k) ∧ tot p < tot (p.set z v) := by
  have hl := hG.plen
  refine ⟨hG.raiseP hz c hv (fun tp tr a cl _ => hT tp tr a cl), fun k => ?_, ?_⟩
  · rw [gx_set (by omega)]
    split
    · rename_i e; rw [e]; omega
    · omega
  · rw [tot_set p z v (by omega)]; omega
/-- No road has more than air brings it. -/
def LowG (R : List Road) (f : List Span) (mo : Nat → Int) (p r : List Int) : Prop := ∀ i, i < R.length → ¬ Still R f i → ∃ d, can R f i d = true ∧ gx r i ≤ mn (gx p (endA R i d).toNat + mo i) 1000000
theorem LowG.up {R : List Road} {f : List Span} {mo : Nat → Int} {p p' r : List Int} (h : LowG R f mo p r) (hp : ∀ k, gx p k ≤ gx p' k) : LowG R f mo p' r := fun i hi hs => by
  obtain ⟨d, h1, h2⟩ := h i hi hs
  have := hp (endA R i d).toNat
  refine ⟨d, h1, ?_⟩
  unfold mn at *
  split at h2 <;> split <;> omega
def DoneP (P : List Place) (R : List Road) (f : List Span) (mo : Nat → Int) (p r : List Int) (i : Nat) : Prop := (Still R f i → 1000000 ≤ gx r i) ∧ ∀ d, DoneG P R f mo (gx p) (gx r) i d
def NextG (again : Bool) (p r : List Int) (again' : Bool) (p' r' : List Int) : Prop := (again' = again ∧ p' = p ∧ r' = r) ∨ (again' = true ∧ tot p + tot r < tot p' + tot r')
theorem NextG.trans {a a' a'' : Bool} {p p' p'' r r' r'' : List Int} (h : NextG a p r a' p' r') (g : NextG a' p' r' a'' p'' r'') : NextG a p r a'' p'' r'' := by
  rcases h with ⟨rfl, rfl, rfl⟩ | ⟨h1, h2⟩
  · exact g
  · rcases g with ⟨rfl, rfl, rfl⟩ | ⟨g1, g2⟩
    · exact .inr ⟨h1, h2⟩
    · exact .inr ⟨g1, by omega⟩
section
variable (b1 b2 b3 : Bool) (P : List Place) (R : List Road) (f : List Span) (inf : List Int) (mo p0 : Nat → Int) (x2 x3 : Int) (x4 x5 : Bool) (x6 x7 x8 x9 : Int) (i : Nat)
theorem st9 (fr to' v : Int) (hv : v ≤ 1000000) (hfr : 0 ≤ fr ∧ fr < P.length) (back : Bool) (hT : back = true → surf P fr.toNat = false → ∀ tp tr : Nat → Int, AboveG R f p0 tp tr → CloG P R f mo tp tr → v ≤ tp fr.toNat) (hi : i ≤ 1000) {p r : List Int} (hG : GoodG P R f mo p0 p r) (again : Bool) (fl : Nat) :
    ∃ again' p', h47_9 (fl + 1) b3 f again back v b2 R R.length i b1 P b2 R inf p r fr to' x2 x3 x4 x5 x6 x7 x8 x9 = h47_5 fl b3 f again' b2 R R.length (i + 1 : Nat) b1 P b2 R inf p' r ∧ GoodG P R f mo p0 p' r ∧ (∀ k, gx p k ≤ gx p' k) ∧ NextG again p r again' p' r ∧ (p' = p → back = true → surf P fr.toNat = false → v ≤ gx p fr.toNat) := by
  have hi0 : dflt K.int = (0 : Int) := rfl
  have hp0 : dflt K.place = place0 := rfl
  have hpl := hG.plen
  have e : p.getD fr.toNat 0 = gx p fr.toNat := rfl
  have ip : idx p.length fr = true := idx_of hfr.1 (by rw [hpl]; exact hfr.2)
  rw [h47_9_eq, hi0, hp0, e, wr_succ (by omega)]
  have stay : ∀ (Q : Prop), (Q) → Q := fun _ h => h
  cases back with
  | false =>
    rw [if_neg (by simp)]
    exact ⟨again, p, rfl, hG, fun _ => Int.le_refl _, .inl ⟨rfl, rfl, rfl⟩, fun _ h => by cases h⟩
  | true =>
    rw [if_pos rfl, if_pos (idx_of hfr.1 hfr.2)]
    by_cases c1 : surf P fr.toNat = true
    · rw [if_neg (show ¬ (!(P.getD fr.toNat place0).surface) = true by show ¬ (!surf P fr.toNat) = true; rw [c1]; simp)]
      exact ⟨again, p, rfl, hG, fun _ => Int.le_refl _, .inl ⟨rfl, rfl, rfl⟩, fun _ _ h => by rw [c1] at h; cases h⟩
    · have c1' : surf P fr.toNat = false := by simpa using c1
      rw [if_pos (show (!(P.getD fr.toNat place0).surface) = true by show (!surf P fr.toNat) = true; rw [c1']; rfl), if_pos ip]
      by_cases c2 : v > gx p fr.toNat
      · obtain ⟨g1, g2, g3⟩ := good_upP hG hv (z := fr.toNat) (by omega) (hT rfl c1') c2
        rw [if_pos (decide_eq_true c2), if_pos ip]
        exact ⟨true, _, rfl, g1, g2, .inr ⟨rfl, by omega⟩, fun h => by rw [h] at g3; omega⟩
      · rw [if_neg (fun e => c2 (of_decide_eq_true e))]
        exact ⟨again, p, rfl, hG, fun _ => Int.le_refl _, .inl ⟨rfl, rfl, rfl⟩, fun _ _ _ => by omega⟩
theorem st8 (fr to' v : Int) (hv : v ≤ 1000000) (hto : 0 ≤ to' ∧ to' < P.length) (on back : Bool) (hT : on = true → surf P to'.toNat = false → ∀ tp tr : Nat → Int, AboveG R f p0 tp tr → CloG P R f mo tp tr → v ≤ tp to'.toNat) {p r : List Int} (hG : GoodG P R f mo p0 p r) (again : Bool) (fl : Nat) :
    ∃ again' p', h47_8 (fl + 1) b3 f again on back v b2 R R.length i b1 P b2 R inf p r fr to' x2 x3 x4 x5 x6 x7 x8 x9 = h47_9 fl b3 f again' back v b2 R R.length i b1 P b2 R inf p' r fr to' x2 x3 x4 x5 x6 x7 x8 x9 ∧ GoodG P R f mo p0 p' r ∧ (∀ k, gx p k ≤ gx p' k) ∧ NextG again p r again' p' r ∧ (p' = p → on = true → surf P to'.toNat = false → v ≤ gx p to'.toNat) := by
  have hi0 : dflt K.int = (0 : Int) := rfl
  have hp0 : dflt K.place = place0 := rfl
  have hpl := hG.plen
  have e : p.getD to'.toNat 0 = gx p to'.toNat := rfl
  have ip : idx p.length to' = true := idx_of hto.1 (by rw [hpl]; exact hto.2)
  rw [h47_8_eq, hi0, hp0, e]
  cases on with
  | false =>
    rw [if_neg (by simp)]
    exact ⟨again, p, rfl, hG, fun _ => Int.le_refl _, .inl ⟨rfl, rfl, rfl⟩, fun _ h => by cases h⟩
  | true =>
    rw [if_pos rfl, if_pos (idx_of hto.1 hto.2)]
    by_cases c1 : surf P to'.toNat = true
    · rw [if_neg (show ¬ (!(P.getD to'.toNat place0).surface) = true by show ¬ (!surf P to'.toNat) = true; rw [c1]; simp)]
      exact ⟨again, p, rfl, hG, fun _ => Int.le_refl _, .inl ⟨rfl, rfl, rfl⟩, fun _ _ h => by rw [c1] at h; cases h⟩
    · have c1' : surf P to'.toNat = false := by simpa using c1
      rw [if_pos (show (!(P.getD to'.toNat place0).surface) = true by show (!surf P to'.toNat) = true; rw [c1']; rfl), if_pos ip]
      by_cases c2 : v > gx p to'.toNat
      · obtain ⟨g1, g2, g3⟩ := good_upP hG hv (z := to'.toNat) (by omega) (hT rfl c1') c2
        rw [if_pos (decide_eq_true c2), if_pos ip]
        exact ⟨true, _, rfl, g1, g2, .inr ⟨rfl, by omega⟩, fun h => by rw [h] at g3; omega⟩
      · rw [if_neg (fun e => c2 (of_decide_eq_true e))]
        exact ⟨again, p, rfl, hG, fun _ => Int.le_refl _, .inl ⟨rfl, rfl, rfl⟩, fun _ _ _ => by omega⟩
theorem st7 (fr to' v : Int) (hv : v ≤ 1000000) (on back : Bool) (hi : i < R.length) {p r : List Int} (hT : ∀ tp tr : Nat → Int, AboveG R f p0 tp tr → CloG P R f mo tp tr → (∀ k, gx p k ≤ tp k) → v ≤ tr i) (hG : GoodG P R f mo p0 p r) (again : Bool) (fl : Nat) :
    ∃ again' r', h47_7 (fl + 1) b3 f again i on back v b2 R R.length i b1 P b2 R inf p r fr to' x2 x3 x4 x5 x6 x7 x8 x9 = h47_8 fl b3 f again' on back v b2 R R.length i b1 P b2 R inf p r' fr to' x2 x3 x4 x5 x6 x7 x8 x9 ∧ GoodG P R f mo p0 p r' ∧ (∀ k, k ≠ i → gx r' k = gx r k) ∧ (gx r' i = gx r i ∨ gx r' i = v) ∧ NextG again p r again' p r' ∧ (r' = r → v ≤ gx r i) := by
  have hi0 : dflt K.int = (0 : Int) := rfl
  have hrl := hG.rlen
  have ir : idx r.length (i : Int) = true := idx_nat (by omega)
  have e : r.getD i 0 = gx r i := rfl
  rw [h47_7_eq, if_pos ir, hi0, Int.toNat_natCast, e]
  by_cases c : v > gx r i
  · have ht := tot_set r i v (by omega)
    rw [if_pos (decide_eq_true c), if_pos ir]
    refine ⟨true, r.set i v, rfl, hG.raiseR hi c hv hT, fun k hk => ?_, .inr ?_, .inr ⟨rfl, by omega⟩, fun h => ?_⟩
    · rw [gx_set (by omega), if_neg hk]
    · rw [gx_set (by omega), if_pos rfl]
    · rw [h] at ht; omega
  · rw [if_neg (fun e => c (of_decide_eq_true e))]
    exact ⟨again, r, rfl, hG, fun _ _ => rfl, .inl rfl, .inl ⟨rfl, rfl, rfl⟩, fun _ => by omega⟩
end
end Go.Proofs.Ytipfipnhgpbceaa.Sx
/- The greatest concentrations, by the program's text: the least numbers that are closed, found (plain theorems). -/

set_option linter.unusedVariables false
set_option linter.unusedSimpArgs false
set_option maxRecDepth 100000
namespace Go.Proofs.Ytipfipnhgpbceaa.Sx
open Go Go.RowKit
/-- What a road has, by what its ends have. -/
def nV (on back : Bool) (a b m : Int) : Int := if on = true then (if back = true then mn (mx a b + m) 1000000 else mn (a + m) 1000000) else if back = true then mn (mx 0 b + m) 1000000 else 1000000
section
variable (b1 b2 b3 : Bool) (P : List Place) (R : List Road) (f : List Span) (inf : List Int) (mo p0 : Nat → Int)
theorem st6 (fr to' : Int) (x2 x3 : Int) (x4 x5 : Bool) (x6 x7 x8 x9 : Int) (i : Nat) (hi : i < R.length) (hf : f.length = R.length) (hil : inf.length = R.length) (hin : 0 ≤ gx inf i ∧ gx inf i ≤ 1125899906842624) (hmo : addG (f.getD i ⟨0, 0⟩).lo (f.getD i ⟨0, 0⟩).hi (gx inf i) = mo i) (hmo2 : 0 ≤ mo i ∧ mo i ≤ 1000000) {p r : List Int} (hG : GoodG P R f mo p0 p r)
    (hfr : 0 ≤ fr ∧ fr < P.length) (hto : 0 ≤ to' ∧ to' < P.length) (on back again : Bool) (fl : Nat) :
    h47_6 (fl + 1) b3 f again i on back b2 R R.length i b1 P b2 R inf p r fr to' x2 x3 x4 x5 x6 x7 x8 x9 = h47_7 fl b3 f again i on back (nV on back (gx p fr.toNat) (gx p to'.toNat) (mo i)) b2 R R.length i b1 P b2 R inf p r fr to' x2 x3 x4 x5 x6 x7 x8 x9 := by
  have hi0 : dflt K.int = (0 : Int) := rfl
  have hs0 : dflt K.span = (⟨0, 0⟩ : Span) := rfl
  have hpl := hG.plen
  have e1 : p.getD fr.toNat 0 = gx p fr.toNat := rfl
  have e2 : p.getD to'.toNat 0 = gx p to'.toNat := rfl
  have e3 : inf.getD i 0 = gx inf i := rfl
  have ifr : idx p.length fr = true := idx_of hfr.1 (by rw [hpl]; exact hfr.2)
  have ito : idx p.length to' = true := idx_of hto.1 (by rw [hpl]; exact hto.2)
  have jf : idx f.length (i : Int) = true := idx_nat (by omega)
  have jn : idx inf.length (i : Int) = true := idx_nat (by omega)
  have hd : (decide (0 ≤ gx inf i) && decide (gx inf i ≤ 1125899906842624)) = true := by simp only [Bool.and_eq_true, decide_eq_true_eq]; exact hin
  have q1 := hG.pz fr.toNat
  have q2 := hG.pz to'.toNat
  have q3 := hG.ptop fr.toNat
  have q4 := hG.ptop to'.toNat
  rw [h47_6_eq, hi0, hs0, Int.toNat_natCast, e1, e2, e3, hmo]
  have w1 : IntKind.i64.wrap (mx (gx p fr.toNat) (gx p to'.toNat) + mo i) = mx (gx p fr.toNat) (gx p to'.toNat) + mo i := by
    have : 0 ≤ mx (gx p fr.toNat) (gx p to'.toNat) ∧ mx (gx p fr.toNat) (gx p to'.toNat) ≤ 1000000 := by unfold mx; split <;> omega
    exact wid (by omega) (by omega)
  have w2 : IntKind.i64.wrap (gx p fr.toNat + mo i) = gx p fr.toNat + mo i := wid (by omega) (by omega)
  have w3 : IntKind.i64.wrap (mx 0 (gx p to'.toNat) + mo i) = mx 0 (gx p to'.toNat) + mo i := by
    have : 0 ≤ mx 0 (gx p to'.toNat) ∧ mx 0 (gx p to'.toNat) ≤ 1000000 := by unfold mx; split <;> omega
    exact wid (by omega) (by omega)
  rw [w1, w2, w3]
  unfold nV
  cases on
  · cases back
    · rw [if_pos (by rfl), if_pos (by rfl), if_neg (by simp), if_neg (by simp)]
    · rw [if_pos (by rfl), if_neg (by simp), if_neg (by simp), if_pos rfl, if_pos ito, if_pos jf, if_pos jn, if_pos hd, if_neg (by simp), if_pos rfl]
  · cases back
    · rw [if_neg (by simp), if_pos rfl, if_pos ifr, if_neg (by simp), if_pos jf, if_pos jn, if_pos hd, if_pos rfl, if_neg (by simp)]
    · rw [if_neg (by simp), if_pos rfl, if_pos ifr, if_pos rfl, if_pos ito, if_pos jf, if_pos jn, if_pos hd, if_pos rfl, if_pos rfl]
def frmP (R : List Road) (i : Nat) : Nat := (R.getD i road0).frm.toNat
def toP (R : List Road) (i : Nat) : Nat := (R.getD i road0).to.toNat
theorem st5 (i : Nat) (hi : i < R.length) (hR : RoadsIn P.length R) (hf : f.length = R.length) (hil : inf.length = R.length) (hin : 0 ≤ gx inf i ∧ gx inf i ≤ 1125899906842624) (hmo : addG (f.getD i ⟨0, 0⟩).lo (f.getD i ⟨0, 0⟩).hi (gx inf i) = mo i) (hmo2 : 0 ≤ mo i ∧ mo i ≤ 1000000) {p r : List Int} (hG : GoodG P R f mo p0 p r) (again : Bool) (fl : Nat) :
    h47_5 (fl + 2) b3 f again b2 R R.length i b1 P b2 R inf p r = h47_7 fl b3 f again i (can R f i false) (can R f i true) (nV (can R f i false) (can R f i true) (gx p (frmP R i)) (gx p (toP R i)) (mo i)) b2 R R.length i b1 P b2 R inf p r (R.getD i road0).frm (R.getD i road0).to (R.getD i road0).len (R.getD i road0).area (R.getD i road0).walk (R.getD i road0).closed (R.getD i road0).restLo (R.getD i road0).restHi (R.getD i road0).liftLo (R.getD i road0).liftHi := by
  have hs0 : dflt K.span = (⟨0, 0⟩ : Span) := rfl
  have hr0 : dflt K.road = road0 := rfl
  have hb := hR i hi
  have bf : 0 ≤ (R.getD i road0).frm ∧ (R.getD i road0).frm < P.length := ⟨hb.1, hb.2.1⟩
  have bo : 0 ≤ (R.getD i road0).to ∧ (R.getD i road0).to < P.length := hb.2.2
  have jf : idx f.length (i : Int) = true := idx_nat (by omega)
  have e := fun on back => st6 b1 b2 b3 P R f inf mo p0 (R.getD i road0).frm (R.getD i road0).to (R.getD i road0).len (R.getD i road0).area (R.getD i road0).walk (R.getD i road0).closed (R.getD i road0).restLo (R.getD i road0).restHi (R.getD i road0).liftLo (R.getD i road0).liftHi i hi hf hil hin hmo hmo2 hG bf bo on back again fl
  have c0 : ∀ d, can R f i d = (!(R.getD i road0).closed && (if d then decide ((f.getD i ⟨0, 0⟩).lo < 0) else decide ((f.getD i ⟨0, 0⟩).hi > 0))) := fun d => by
    unfold can; rw [Int.toNat_natCast]
  rw [show fl + 2 = fl + 1 + 1 by omega, h47_5_eq, if_pos (lt_nat hi), if_pos (idx_nat hi), hs0, hr0, Int.toNat_natCast, c0, c0]
  unfold frmP toP
  by_cases c : (R.getD i road0).closed = true
  · have k := e false false
    rw [if_neg (by rw [c]; simp), if_neg (by rw [c]; simp), k, c]
    rfl
  · have c' : (R.getD i road0).closed = false := by simpa using c
    have k := e (decide ((f.getD i ⟨0, 0⟩).hi > 0)) (decide ((f.getD i ⟨0, 0⟩).lo < 0))
    rw [if_pos (by rw [c']; rfl), if_pos jf, if_pos (by rw [c']; rfl), if_pos jf, k, c']
    rfl
theorem nV_still {m a b : Int} : nV false false a b m = 1000000 := rfl
theorem nV_top (on back : Bool) (a b m : Int) : nV on back a b m ≤ 1000000 := by
  unfold nV mn
  split <;> (try split) <;> (try split) <;> omega
theorem body47 (i : Nat) (hi : i < R.length) (hi2 : i ≤ 1000) (hR : RoadsIn P.length R) (hf : f.length = R.length) (hil : inf.length = R.length) (hin : 0 ≤ gx inf i ∧ gx inf i ≤ 1125899906842624) (hmo : addG (f.getD i ⟨0, 0⟩).lo (f.getD i ⟨0, 0⟩).hi (gx inf i) = mo i) (hmo2 : 0 ≤ mo i ∧ mo i ≤ 1000000) {p r : List Int} (hG : GoodG P R f mo p0 p r) (hlow : LowG R f mo p r) (again : Bool) (fl : Nat) :
    ∃ again' p' r', h47_5 (fl + 5) b3 f again b2 R R.length i b1 P b2 R inf p r = h47_5 fl b3 f again' b2 R R.length (i + 1 : Nat) b1 P b2 R inf p' r' ∧ GoodG P R f mo p0 p' r' ∧ LowG R f mo p' r' ∧ NextG again p r again' p' r' ∧ (p' = p → r' = r → DoneP P R f mo p r i) := by
  have hb := hR i hi
  have bf : 0 ≤ (R.getD i road0).frm ∧ (R.getD i road0).frm < P.length := ⟨hb.1, hb.2.1⟩
  have bo : 0 ≤ (R.getD i road0).to ∧ (R.getD i road0).to < P.length := hb.2.2
  have eA : ∀ d, (endA R i d).toNat = if d = true then toP R i else frmP R i := fun d => by
    unfold endA frmP toP; rw [Int.toNat_natCast]; split <;> rfl
  have eB : ∀ d, (endB R i d).toNat = if d = true then frmP R i else toP R i := fun d => by
    unfold endB frmP toP; rw [Int.toNat_natCast]; split <;> rfl
  have q1 := hG.pz (frmP R i)
  have q2 := hG.pz (toP R i)
  rw [show fl + 5 = fl + 3 + 2 by omega, st5 b1 b2 b3 P R f inf mo p0 i hi hR hf hil hin hmo hmo2 hG again (fl + 3)]
  have hv := nV_top (can R f i false) (can R f i true) (gx p (frmP R i)) (gx p (toP R i)) (mo i)
  -- the number is the greatest of what comes
  have ge : ∀ d, can R f i d = true → mn (gx p (endA R i d).toNat + mo i) 1000000 ≤ nV (can R f i false) (can R f i true) (gx p (frmP R i)) (gx p (toP R i)) (mo i) := fun d hc => by
    rw [eA]
    cases d
    · rw [hc]
      unfold nV mn mx
      simp only [if_true, Bool.false_eq_true, if_false]
      split <;> split <;> (try split) <;> (try split) <;> omega
    · rw [hc]
      unfold nV mn mx
      simp only [if_true]
      split <;> split <;> (try split) <;> (try split) <;> omega
  have le : (Still R f i ∧ nV (can R f i false) (can R f i true) (gx p (frmP R i)) (gx p (toP R i)) (mo i) = 1000000) ∨ ∃ d, can R f i d = true ∧ nV (can R f i false) (can R f i true) (gx p (frmP R i)) (gx p (toP R i)) (mo i) ≤ mn (gx p (endA R i d).toNat + mo i) 1000000 := by
    cases c1 : can R f i false
    · cases c2 : can R f i true
      · exact .inl ⟨can_iff_still.2 ⟨c1, c2⟩, rfl⟩
      · refine .inr ⟨true, c2, ?_⟩
        rw [eA]
        unfold nV mn mx
        simp only [if_true, Bool.false_eq_true, if_false]
        split <;> split <;> (try split) <;> omega
    · cases c2 : can R f i true
      · refine .inr ⟨false, c1, ?_⟩
        rw [eA]
        unfold nV mn
        simp only [if_true, Bool.false_eq_true, if_false]
        exact Int.le_refl _
      · by_cases c3 : gx p (frmP R i) < gx p (toP R i)
        · refine .inr ⟨true, c2, ?_⟩
          rw [eA]
          unfold nV mn mx
          simp only [if_true]
          rw [if_pos (show gx p (toP R i) > gx p (frmP R i) from c3)]
          exact Int.le_refl _
        · refine .inr ⟨false, c1, ?_⟩
          rw [eA]
          unfold nV mn mx
          simp only [if_true, Bool.false_eq_true, if_false]
          rw [if_neg (show ¬ gx p (toP R i) > gx p (frmP R i) by omega)]
          exact Int.le_refl _
  generalize nV (can R f i false) (can R f i true) (gx p (frmP R i)) (gx p (toP R i)) (mo i) = v at *
  have hT : ∀ tp tr : Nat → Int, AboveG R f p0 tp tr → CloG P R f mo tp tr → (∀ k, gx p k ≤ tp k) → v ≤ tr i := fun tp tr a cl hle => by
    rcases le with ⟨h1, h2⟩ | ⟨d, h1, h2⟩
    · rw [h2]; exact a.still i hi h1
    · have g1 := cl.road i d hi h1
      have g2 := hle (endA R i d).toNat
      unfold mn at *
      split at h2 <;> split at g1 <;> omega
  have hTp : ∀ d, can R f i d = true → surf P (endB R i d).toNat = false → ∀ tp tr : Nat → Int, AboveG R f p0 tp tr → CloG P R f mo tp tr → v ≤ tp (endB R i d).toNat := fun d hc hs tp tr a cl => by
    have g1 := hT tp tr a cl (hG.least tp tr a cl).1
    have g2 := cl.place i d hi hc hs
    omega
  obtain ⟨a1, r1, e1, G1, u1, u1', n1, d1⟩ := st7 b1 b2 b3 P R f inf mo p0 (R.getD i road0).len (R.getD i road0).area (R.getD i road0).walk (R.getD i road0).closed (R.getD i road0).restLo (R.getD i road0).restHi (R.getD i road0).liftLo (R.getD i road0).liftHi i (R.getD i road0).frm (R.getD i road0).to v hv (can R f i false) (can R f i true) hi hT hG again (fl + 2)
  obtain ⟨a2, p2, e2, G2, u2, n2, d2⟩ := st8 b1 b2 b3 P R f inf mo p0 (R.getD i road0).len (R.getD i road0).area (R.getD i road0).walk (R.getD i road0).closed (R.getD i road0).restLo (R.getD i road0).restHi (R.getD i road0).liftLo (R.getD i road0).liftHi i (R.getD i road0).frm (R.getD i road0).to v hv bo (can R f i false) (can R f i true) (fun hc hs => by
    have := hTp false hc
    rw [eB] at this
    exact this hs) G1 a1 (fl + 1)
  obtain ⟨a3, p3, e3, G3, u3, n3, d3⟩ := st9 b1 b2 b3 P R f inf mo p0 (R.getD i road0).len (R.getD i road0).area (R.getD i road0).walk (R.getD i road0).closed (R.getD i road0).restLo (R.getD i road0).restHi (R.getD i road0).liftLo (R.getD i road0).liftHi i (R.getD i road0).frm (R.getD i road0).to v hv bf (can R f i true) (fun hc hs => by
    have := hTp true hc
    rw [eB] at this
    exact this hs) hi2 G2 a2 fl
  have mono : ∀ k, gx p k ≤ gx p3 k := fun k => by have := u2 k; have := u3 k; omega
  refine ⟨a3, p3, r1, by rw [show fl + 3 = fl + 2 + 1 by omega, e1, show fl + 2 = fl + 1 + 1 by omega, e2, e3], G3, fun j hj hs => ?_, (n1.trans n2).trans n3, fun hp hr => ?_⟩
  · by_cases c : j = i
    · subst c
      rcases u1' with h | h
      · rw [h]; exact (hlow.up mono) j hj hs
      · rw [h]
        rcases le with ⟨h1, h2⟩ | ⟨d, h1, h2⟩
        · exact absurd h1 hs
        · have := mono (endA R j d).toNat
          refine ⟨d, h1, ?_⟩
          unfold mn at *
          split at h2 <;> split <;> omega
    · rw [u1 j c]; exact (hlow.up mono) j hj hs
  · subst hp
    subst hr
    have p2e : p2 = p3 := by
      rcases n2 with ⟨_, h, _⟩ | ⟨_, h⟩
      · exact h
      · rcases n3 with ⟨_, h', _⟩ | ⟨_, h'⟩
        · exact h'.symm
        · omega
    have v1 := d1 rfl
    have v2 := d2 p2e
    have v3 := d3 p2e.symm
    rw [p2e] at v3
    refine ⟨fun hs => ?_, fun d hc => ⟨?_, fun hs => ?_⟩⟩
    · rcases le with ⟨h1, h2⟩ | ⟨d, h1, h2⟩
      · omega
      · rw [hs d] at h1; cases h1
    · have := ge d hc; omega
    · have hr : gx r1 i ≤ v := by
        obtain ⟨d', h1, h2⟩ := hlow i hi (fun h => by rw [h d] at hc; cases hc)
        have := ge d' h1
        omega
      have hp : v ≤ gx p3 (endB R i d).toNat := by
        rw [eB] at hs ⊢
        cases d
        · simp only [Bool.false_eq_true, if_false] at hs ⊢
          exact v2 hc hs
        · simp only [if_true] at hs ⊢
          exact v3 hc hs
      omega
theorem pass47 (hRl : R.length ≤ 128) (hR : RoadsIn P.length R) (hf : f.length = R.length) (hil : inf.length = R.length) (hin : ∀ i, i < R.length → 0 ≤ gx inf i ∧ gx inf i ≤ 1125899906842624) (hmo : ∀ i, i < R.length → addG (f.getD i ⟨0, 0⟩).lo (f.getD i ⟨0, 0⟩).hi (gx inf i) = mo i) (hmo2 : ∀ i, 0 ≤ mo i ∧ mo i ≤ 1000000) (ps rs : List Int) (F : Nat)
    (hlater : ∀ (fl : Nat) (p r : List Int), F ≤ fl → GoodG P R f mo p0 p r → LowG R f mo p r → tot ps + tot rs < tot p + tot r → EndM P R f mo p0 (h47_4 fl b3 f true b1 P b2 R inf p r)) :
    ∀ (d fl i : Nat) (again : Bool) (p r : List Int), R.length - i = d → i ≤ R.length → F + 5 * d + 5 < fl → GoodG P R f mo p0 p r → LowG R f mo p r → (again = true → tot ps + tot rs < tot p + tot r) → (again = false → p = ps ∧ r = rs ∧ ∀ j, j < i → DoneP P R f mo ps rs j) → EndM P R f mo p0 (h47_5 fl b3 f again b2 R R.length i b1 P b2 R inf p r)
  | d, fl, i, again, p, r, hd, hi, hfl, hG, hlow, ht, hn => by
    by_cases hlt : i < R.length
    · obtain ⟨d, rfl⟩ : ∃ q, d = q + 1 := ⟨d - 1, by omega⟩
      obtain ⟨fl, rfl⟩ : ∃ q, fl = q + 5 := ⟨fl - 5, by omega⟩
      obtain ⟨a', p', r', e, G', L', n', d'⟩ := body47 b1 b2 b3 P R f inf mo p0 i hlt (by omega) hR hf hil (hin i hlt) (hmo i hlt) (hmo2 i) hG hlow again fl
      rw [e]
      refine pass47 hRl hR hf hil hin hmo hmo2 ps rs F hlater d fl (i + 1) a' p' r' (by omega) (by omega) (by omega) G' L' (fun ea => ?_) (fun ea => ?_)
      · rcases n' with ⟨x1, x2, x3⟩ | ⟨x1, x2⟩
        · rw [x2, x3]; exact ht (by rw [← x1]; exact ea)
        · cases ha : again with
          | true => have := ht ha; omega
          | false =>
            obtain ⟨z1, z2, _⟩ := hn ha
            rw [z1, z2] at x2; exact x2
      · rcases n' with ⟨x1, x2, x3⟩ | ⟨x1, x2⟩
        · obtain ⟨z1, z2, z3⟩ := hn (by rw [← x1]; exact ea)
          refine ⟨by rw [x2, z1], by rw [x3, z2], fun j hj => ?_⟩
          by_cases c : j = i
          · subst c
            rw [← z1, ← z2]; exact d' x2 x3
          · exact z3 j (by omega)
        · rw [x1] at ea; cases ea
    · obtain ⟨fl, rfl⟩ : ∃ q, fl = q + 1 := ⟨fl - 1, by omega⟩
      rw [h47_5_eq, if_neg (nlt_nat hlt)]
      cases again with
      | true => exact hlater fl p r (by omega) hG hlow (ht rfl)
      | false =>
        obtain ⟨z1, z2, z3⟩ := hn rfl
        subst z1; subst z2
        obtain ⟨fl, rfl⟩ : ∃ q, fl = q + 1 := ⟨fl - 1, by omega⟩
        rw [h47_4_eq, if_neg (by simp)]
        exact ⟨p, r, rfl, hG.plen, hG.rlen, ⟨hG.base, fun j hj hs => (z3 j (by omega)).1 hs, hG.rz⟩, ⟨fun j e hj hc => ((z3 j (by omega)).2 e hc).1, fun j e hj hc hs => ((z3 j (by omega)).2 e hc).2 hs⟩, hG.ptop, hG.rtop, hG.least⟩
theorem all47 (hRl : R.length ≤ 128) (hR : RoadsIn P.length R) (hf : f.length = R.length) (hil : inf.length = R.length) (hin : ∀ i, i < R.length → 0 ≤ gx inf i ∧ gx inf i ≤ 1125899906842624) (hmo : ∀ i, i < R.length → addG (f.getD i ⟨0, 0⟩).lo (f.getD i ⟨0, 0⟩).hi (gx inf i) = mo i) (hmo2 : ∀ i, 0 ≤ mo i ∧ mo i ≤ 1000000) : ∀ (c fl : Nat) (p r : List Int), 1000000 * (P.length + R.length : Nat) - (tot p + tot r) ≤ (c : Int) → c * 700 + 700 < fl → GoodG P R f mo p0 p r → LowG R f mo p r → EndM P R f mo p0 (h47_4 fl b3 f true b1 P b2 R inf p r)
  | c, fl, p, r, hc, hfl, hG, hlow => by
    obtain ⟨fl, rfl⟩ : ∃ q, fl = q + 1 := ⟨fl - 1, by omega⟩
    rw [h47_4_eq, if_pos rfl]
    refine pass47 b1 b2 b3 P R f inf mo p0 hRl hR hf hil hin hmo hmo2 p r (c * 700 + 1) (fun fl' p' r' hf' hG' hL' hlt => ?_) R.length fl 0 false p r (by omega) (by omega) (by omega) hG hlow (fun e => by cases e) (fun _ => ⟨rfl, rfl, fun j h => by omega⟩)
    have ht := hG'.tot
    cases c with
    | zero => omega
    | succ c => exact all47 hRl hR hf hil hin hmo hmo2 c fl' p' r' (by omega) (by omega) hG' hL'
end
theorem pmost_ok (b1 : Bool) (P : List Place) (b2 : Bool) (R : List Road) (b3 : Bool) (f : List Span) (b4 : Bool) (L : List Source) : ∃ x, o47 b1 P b2 R b3 f b4 L = some x ∧ MostB P R f L x := by
  unfold o47
  rw [h47_eq]
  by_cases c : checkG P R L = 0
  · have e1 : (checkG P R L != 0) = false := by simp [c]
    rw [e1, if_neg (by simp)]
    by_cases c2 : f.length = R.length
    · obtain ⟨hm, hs⟩ := checkG_ok.1 c
      have hr : rightM P R f = true := rightM_iff.2 ⟨hm, c2⟩
      obtain ⟨g1, g2, g3, g4⟩ := rightM_in hr
      have e2 : ((f.length : Int) != (R.length : Int)) = false := by simp; omega
      have hi0 : dflt K.int = (0 : Int) := rfl
      have hb0 : dflt K.bool = false := rfl
      have al : ∀ n : Nat, n ≤ 1000 → (decide (0 ≤ (n : Int)) && (decide ((n : Int) ≤ 1048576) && ((n : Int) == (n : Int)))) = true := fun n hn => by simp; omega
      have hll := hs.1
      obtain ⟨inf, i1, i2, i3⟩ := infl47 b1 b2 b3 b4 P R f L hs L.length (199999999999 - L.length) 0 (List.replicate R.length 0) (by omega) (by omega) (by simp) (fun i hi => by rw [gx_replicate, List.drop_zero]; omega)
      rw [show 199999999999 - L.length + L.length = 199999999999 by omega] at i3
      have i3' : h47_0 199999999999 b3 f b4 L L.length 0 b1 P b2 R (List.replicate R.length 0) = _ := i3
      rw [e2, if_neg (by simp), if_pos (al _ (by omega)), hi0, Int.toNat_natCast, i3']
      obtain ⟨fl, hfl⟩ : ∃ q, 199999999999 - L.length = q + 1 := ⟨199999999998 - L.length, by omega⟩
      have hwl := ways_len P R f
      obtain ⟨m4, k1, k2, k3⟩ := comes47 b1 b2 b3 P R f (waysOf P R f) (ways_in g1) (by omega) inf (List.replicate P.length 0) (List.replicate R.length 0) (waysOf P R f).length (fl - (waysOf P R f).length) 0 (List.replicate P.length false) (by omega) (by omega) (by simp)
      rw [show fl - (waysOf P R f).length + (waysOf P R f).length = fl by omega] at k3
      have k3' : h47_1 fl b3 f (waysOf P R f) (waysOf P R f).length 0 b1 P b2 R inf (List.replicate P.length 0) (List.replicate R.length 0) (List.replicate P.length false) = _ := k3
      rw [hfl, h47_0_eq, if_neg (by simp), if_pos (al _ (by omega)), if_pos (al _ (by omega)), if_pos (al _ (by omega)), ways_eq, Option.bind_some, hi0, hb0, Int.toNat_natCast, Int.toNat_natCast, k3']
      obtain ⟨fl2, hfl2⟩ : ∃ q, fl - (waysOf P R f).length = q + 1 := ⟨fl - (waysOf P R f).length - 1, by omega⟩
      obtain ⟨m2, n1, n2, n3⟩ := unfed47 b1 b2 b3 P g4 R f inf (List.replicate R.length 0) m4 k1 P.length (fl2 - P.length) 0 (List.replicate P.length 0) (by omega) (by omega) (by simp) (fun j => by rw [gx_replicate, if_neg (by omega)])
      rw [show fl2 - P.length + P.length = fl2 by omega] at n3
      have n3' : h47_2 fl2 b3 f b1 P P.length 0 b1 P b2 R inf (List.replicate P.length 0) (List.replicate R.length 0) m4 = _ := n3
      rw [hfl2, h47_1_eq, if_neg (by simp), n3']
      obtain ⟨fl3, hfl3⟩ : ∃ q, fl2 - P.length = q + 1 := ⟨fl2 - P.length - 1, by omega⟩
      have hml := mixM_len P R f
      obtain ⟨p, p1, p2, p3⟩ := mixed47 b1 b2 b3 P R f inf (List.replicate R.length 0) (mixM P R f) (fun x hx => by
        obtain ⟨_, j, h1, h2, h3⟩ := mem_mixM.1 hx
        exact ⟨j, h1, mix_below h2, h3⟩) (by omega) (mixM P R f).length (fl3 - (mixM P R f).length) 0 m2 (by omega) (by omega) n1
      rw [show fl3 - (mixM P R f).length + (mixM P R f).length = fl3 by omega] at p3
      have p3' : h47_3 fl3 b3 f (mixM P R f) (mixM P R f).length 0 b1 P b2 R inf m2 (List.replicate R.length 0) = _ := p3
      obtain ⟨fl4, hfl4⟩ : ∃ q, fl3 - (mixM P R f).length = q + 1 := ⟨fl3 - (mixM P R f).length - 1, by omega⟩
      rw [hfl3, h47_2_eq, if_neg (by simp), mixed_eq, Option.bind_some, p3', hfl4, h47_3_eq, if_neg (by simp)]
      have hp : ∀ j, gx p j = p0G P R f j := fun j => by
        rw [p2 j, n2 j, List.drop_zero]
        unfold p0G
        have hfed : bt m4 j = true ↔ FedTo R f R.length j := by
          rw [k2 j, bt_replicate, List.drop_zero, ← mem_ways hr]
          simp
        have hnf : (∀ (i : Nat) (d : Bool), i < R.length → can R f i d = true → endB R i d ≠ j) ↔ bt m4 j = false := by
          constructor
          · intro h
            cases e : bt m4 j with
            | false => rfl
            | true =>
              obtain ⟨i, d, h1, h2, h3⟩ := hfed.1 e
              exact absurd h3 (h i d h1 h2)
          · intro h i d h1 h2 h3
            rw [hfed.2 ⟨i, d, h1, h2, h3⟩] at h; cases h
        have hmx : ((j : Int) ∈ mixM P R f) ↔ j < P.length ∧ MixP P R f j := by
          rw [mem_mixM]
          constructor
          · rintro ⟨_, i, h1, h2, h3⟩
            have : i = j := by omega
            subst this; exact ⟨h1, h2⟩
          · exact fun h => ⟨hr, j, h.1, h.2, rfl⟩
        by_cases q1 : (j : Int) ∈ mixM P R f
        · obtain ⟨h1, h2⟩ := hmx.1 q1
          rw [if_pos q1, if_pos ⟨h1, mix_below h2, .inr h2⟩]
        · rw [if_neg q1]
          by_cases q2 : j < P.length ∧ surf P j = false ∧ bt m4 j = false
          · rw [if_pos q2, if_pos ⟨q2.1, q2.2.1, .inl (hnf.2 q2.2.2)⟩]
          · rw [if_neg q2, if_neg (fun h => by
              rcases h.2.2 with h3 | h3
              · exact q2 ⟨h.1, h.2.1, hnf.1 h3⟩
              · exact q1 (hmx.2 ⟨h.1, h3⟩))]
      have hpz : ∀ k, 0 ≤ gx p k ∧ gx p k ≤ 1000000 := fun k => by
        rw [hp]
        rcases p0G_two P R f k with h | h <;> rw [h] <;> omega
      have hmr := moG_range (f := f) hs
      have hG : GoodG P R f (moG f L) (p0G P R f) p (List.replicate R.length 0) :=
        ⟨p1, by simp, fun k => by rw [hp]; exact Int.le_refl _, fun k => (hpz k).1, fun k => by rw [gx_replicate]; omega, fun k => (hpz k).2, fun k => by rw [gx_replicate]; omega, fun tp tr a cl => ⟨fun k => by rw [hp]; exact a.p0 k, fun i => by rw [gx_replicate]; exact a.zero i⟩⟩
      have hlow : LowG R f (moG f L) p (List.replicate R.length 0) := fun i hi hst => by
        have : ∃ d, can R f i d = true := by
          cases h1 : can R f i false
          · cases h2 : can R f i true
            · exact absurd (can_iff_still.2 ⟨h1, h2⟩) hst
            · exact ⟨true, h2⟩
          · exact ⟨false, h1⟩
        obtain ⟨d, hd⟩ := this
        refine ⟨d, hd, ?_⟩
        rw [gx_replicate]
        have h1 := (hpz (endA R i d).toNat).1
        have h2 := (hmr i).1
        unfold mn; split <;> omega
      have ht := hG.tot
      obtain ⟨p', r', e3, hLe⟩ := all47 b1 b2 b3 P R f inf (moG f L) (p0G P R f) g3 g1 g2 i1 (fun i hi => by
        rw [i2 i hi]
        have := inflow_range (m := R.length) i hs.2
        omega) (fun i hi => by rw [i2 i hi]; rfl) hmr 200000000 fl4 p (List.replicate R.length 0) (by omega) (by omega) hG hlow
      rw [e3]
      exact ⟨(p', r', 0), by simp [decMost, slO], fun h => absurd c h, fun _ h => absurd c2 h, fun _ _ => ⟨rfl, hLe⟩⟩
    · have e2 : ((f.length : Int) != (R.length : Int)) = true := by simp only [bne_iff_ne, ne_eq]; omega
      rw [e2, if_pos rfl]
      exact ⟨([], [], 11), by simp [decMost, slO], fun h => absurd c h, fun _ _ => rfl, fun _ h => absurd h c2⟩
  · have e1 : (checkG P R L != 0) = true := by simpa using c
    rw [e1, if_pos rfl]
    exact ⟨([], [], checkG P R L), by simp [decMost, slO], fun _ => rfl, fun h => absurd h c, fun h => absurd h c⟩
end Go.Proofs.Ytipfipnhgpbceaa.Sx
