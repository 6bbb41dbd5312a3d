/- The meeting and the hull of spans, by both texts (plain theorems). -/
import Derived.Test.YtipfipnhgpbceaaCa
set_option linter.unusedVariables false
set_option linter.unusedSimpArgs false
set_option maxRecDepth 100000
namespace Go.Proofs.Ytipfipnhgpbceaa.Sx
open Go Go.RowKit
theorem meet1_self (x : Span) : meet1 x x = x := by
  unfold meet1
  rw [mx_eq, mn_eq]
  simp
theorem meet_both (l : List Span) : meetI l = meetR l := by
  cases l with
  | nil => rfl
  | cons x r => simp only [meetI, meetR, List.foldl_cons, meet1_self]
theorem hull1_both (a : Bool × Span) (x : Span) : hullI1 a x = hullR1 a x := by
  unfold hullI1 hullR1
  rw [mn_eq x.lo x.lo, mx_eq x.hi x.hi]
  simp
theorem hull_both (l : List Span) : hullI l = hullR l := by
  unfold hullI hullR
  have : hullI1 = hullR1 := funext fun a => funext fun x => hull1_both a x
  rw [this]
theorem toNat_cast (n : Nat) : ((n : Int)).toNat = n := Int.toNat_natCast n
def l13 : List (FuncId × Spec) := [(30, s30), (26, s26), (46, c46), (25, c25), (55, c55), (56, s56), (57, s57), (58, s58), (59, s59)]
def k13 : Code → Keep := keepOf [(6, ⟨[1, 5, 6, 7], [(6, .span)], []⟩), (13, ⟨[44, 45, 46], [], []⟩)]
noncomputable def h13_0 (fl : Nat) (t1 : List Span) (t7 : Int) (m0_0 : List Int) (m0_1 : Int) (m1 : List Span) : Option (AV × List Ob) := (evalH (env l13) Try.f13 k13 0 fl (stkF Try.f13 [1, 1, 1, 1, 0, 1, 0]) ⟨[.one (.undef), .one (.vec false .span t1), .one (.undef), .one (.undef), .one (.undef), .one (.ptr 0 0), .one (.row 1), .one (.int .i64 t7), .one (.undef), .one (.undef), .one (.undef), .one (.undef), .one (.undef), .one (.undef), .one (.undef), .one (.undef), .one (.undef), .one (.undef), .one (.undef), .one (.undef), .one (.undef), .one (.undef), .one (.undef), .one (.undef), .one (.undef), .one (.undef), .one (.undef), .one (.undef), .one (.undef), .one (.undef), .one (.undef), .one (.undef), .one (.undef), .one (.undef), .one (.undef), .one (.undef), .one (.undef), .one (.undef), .one (.undef), .one (.undef), .one (.undef), .one (.undef), .one (.undef), .one (.undef), .one (.undef), .one (.undef), .one (.undef), .one (.undef), .one (.undef), .one (.undef), .one (.undef), .one (.undef), .one (.undef), .one (.undef), .one (.undef), .one (.undef), .one (.undef), .one (.undef), .one (.undef), .one (.undef), .one (.undef), .one (.undef), .one (.undef), .one (.undef), .one (.undef), .one (.undef), .one (.undef), .one (.undef), .one (.undef), .one (.undef), .one (.undef), .one (.undef), .one (.undef), .one (.undef), .one (.undef), .one (.undef), .one (.undef)], [((0, 0), some (.cell (.vec false .u8 m0_0))), ((0, 1), some (.cell (.int .i64 m0_1))), ((1, 0), some (.rows .span m1))], 2⟩).den
noncomputable def h13_1 (fl : Nat) (t45 : Int) (t46 : Int) (m0 : List (List Span)) : Option (AV × List Ob) := (evalH (env l13) Try.f13 k13 0 fl (stkF Try.f13 [1, 1, 1, 1, 1, 0, 1, 0]) ⟨[.one (.undef), .one (.undef), .one (.undef), .one (.undef), .one (.undef), .one (.undef), .one (.undef), .one (.undef), .one (.undef), .one (.undef), .one (.undef), .one (.undef), .one (.undef), .one (.undef), .one (.undef), .one (.undef), .one (.undef), .one (.undef), .one (.undef), .one (.undef), .one (.undef), .one (.undef), .one (.undef), .one (.undef), .one (.undef), .one (.undef), .one (.undef), .one (.undef), .one (.undef), .one (.undef), .one (.undef), .one (.undef), .one (.undef), .one (.undef), .one (.undef), .one (.undef), .one (.undef), .one (.undef), .one (.undef), .one (.undef), .one (.undef), .one (.undef), .one (.undef), .one (.undef), .one (.row 0), .one (.int .i64 t45), .one (.int .i64 t46), .one (.undef), .one (.undef), .one (.undef), .one (.undef), .one (.undef), .one (.undef), .one (.undef), .one (.undef), .one (.undef), .one (.undef), .one (.undef), .one (.undef), .one (.undef), .one (.undef), .one (.undef), .one (.undef), .one (.undef), .one (.undef), .one (.undef), .one (.undef), .one (.undef), .one (.undef), .one (.undef), .one (.undef), .one (.undef), .one (.undef), .one (.undef), .one (.undef), .one (.undef), .one (.undef)], [((0, 0), some (.rows .spans m0))], 1⟩).den
noncomputable def h13 (fl : Nat) (l : List Int) (r : List Span) : Option (AV × List Ob) := (evalF (env l13) Try.f13 k13 fl [.one (.vec false .u8 l), .one (.vec false .span r)] []).den
theorem h13_eq (fl : Nat) (l : List Int) (r : List Span) : h13 (fl + 1) l r =
    if (decide ((↑r.length : Int) > 30)) = true then some (.one (.bool true), [])
    else (nextO (List.take 300 l) 0 5).bind fun x3 =>
      h13_0 fl r x3.fst (List.take 300 l) x3.snd [] := by kernel_rfl
theorem h13_0_eq (fl : Nat) (t1 : List Span) (t7 : Int) (m0_0 : List Int) (m0_1 : Int) (m1 : List Span) : h13_0 (fl + 1) t1 t7 m0_0 m0_1 m1 =
    if (decide (t7 > 0)) = true then (measO m0_0 m0_1).bind fun x3 =>
      (oneO m0_0 x3.snd 12).bind fun x4 =>
        if x4.fst = true then if (decide ((m1).length + ([{ lo := x3.fst.hi, hi := x3.fst.lo : Span }]).length ≤ lim)) = true then h13_0 fl t1 (IntKind.i64.wrap (t7 - 1)) m0_0 x4.snd (m1 ++ [{ lo := x3.fst.hi, hi := x3.fst.lo : Span }])
            else none
          else if (decide ((m1).length + ([{ lo := x3.fst.lo, hi := x3.fst.hi : Span }]).length ≤ lim)) = true then h13_0 fl t1 (IntKind.i64.wrap (t7 - 1)) m0_0 x4.snd (m1 ++ [{ lo := x3.fst.lo, hi := x3.fst.hi : Span }])
            else none
    else h13_1 fl ((↑[m1, t1].length : Int)) 0 ([m1, t1]) := by kernel_rfl
theorem h13_1_eq (fl : Nat) (t45 : Int) (t46 : Int) (m0 : List (List Span)) : h13_1 (fl + 1) t45 t46 m0 =
    if (decide (t46 < t45)) = true then if (idx m0.length t46) = true then if (decide (List.length (m0.getD t46.toNat (dflt K.spans)) ≤ 1000000)) = true then if (decide (List.length (m0.getD t46.toNat (dflt K.spans)) ≤ 1000000)) = true then if (!((meetI (m0.getD t46.toNat (dflt K.spans))).fst.lo == (meetR (m0.getD t46.toNat (dflt K.spans))).fst.lo && (meetI (m0.getD t46.toNat (dflt K.spans))).fst.hi == (meetR (m0.getD t46.toNat (dflt K.spans))).fst.hi)) = true then some (.one (.bool false), [])
            else if (!(meetI (m0.getD t46.toNat (dflt K.spans))).snd == (meetR (m0.getD t46.toNat (dflt K.spans))).snd) = true then some (.one (.bool false), [])
              else if (decide (List.length (m0.getD t46.toNat (dflt K.spans)) ≤ 1000000)) = true then if (decide (List.length (m0.getD t46.toNat (dflt K.spans)) ≤ 1000000)) = true then if (!((hullI (m0.getD t46.toNat (dflt K.spans))).lo == (hullR (m0.getD t46.toNat (dflt K.spans))).lo && (hullI (m0.getD t46.toNat (dflt K.spans))).hi == (hullR (m0.getD t46.toNat (dflt K.spans))).hi)) = true then some (.one (.bool false), [])
                    else h13_1 fl t45 (IntKind.i64.wrap (t46 + 1)) m0
                  else none
                else none
          else none
        else none
      else none
    else some (.one (.bool true), []) := by kernel_rfl
theorem v13_1 (m : List (List Span)) (hm : ∀ x ∈ m, x.length ≤ 1000000) (hml : m.length ≤ 1000) : ∀ (d fl i : Nat), m.length - i = d → i ≤ m.length → d < fl → h13_1 fl m.length i m = some (.one (.bool true), [])
  | d, fl, i, hd, hi, hf => by
    obtain ⟨fl, rfl⟩ : ∃ k, fl = k + 1 := ⟨fl - 1, by omega⟩
    rw [h13_1_eq]
    by_cases hlt : i < m.length
    · have hx : (m.getD i []).length ≤ 1000000 := by
        rw [List.getD_eq_getElem?_getD, List.getElem?_eq_getElem hlt]
        exact hm _ (List.getElem_mem hlt)
      have hx' : decide ((m.getD i []).length ≤ 1000000) = true := by simpa using hx
      have he : m.getD (i : Int).toNat (dflt K.spans) = m.getD i [] := by rw [toNat_cast]; rfl
      rw [if_pos (lt_nat hlt), if_pos (idx_nat hlt), he]
      simp only [if_pos hx', meet_both, hull_both, beq_self_eq_true, Bool.and_self, Bool.not_true, Bool.false_eq_true, if_false]
      rw [wr_succ (by omega)]
      cases d with
      | zero => omega
      | succ d => exact v13_1 m hm hml d fl (i + 1) (by omega) (by omega) (by omega)
    · rw [if_neg (nlt_nat hlt)]
theorem v13_0 (l : List Int) (r : List Span) (hr : r.length ≤ 30) : ∀ (n fl : Nat) (p : Int) (m : List Span), cok l p = true → m.length + n ≤ 100 → n + 10 < fl → h13_0 fl r n l p m = some (.one (.bool true), [])
  | 0, fl, p, m, hk, hm, hf => by
    obtain ⟨fl, rfl⟩ : ∃ k, fl = k + 1 := ⟨fl - 1, by omega⟩
    rw [h13_0_eq, if_neg (by simp)]
    exact v13_1 [m, r] (by intro x hx; simp at hx; rcases hx with rfl | rfl <;> omega) (by simp) 2 fl 0 (by simp) (by simp) (by omega)
  | n + 1, fl, p, m, hk, hm, hf => by
    obtain ⟨fl, rfl⟩ : ∃ k, fl = k + 1 := ⟨fl - 1, by omega⟩
    obtain ⟨x, q, e1, _, k1⟩ := meas_ok hk
    obtain ⟨y, q2, e2, k2⟩ := one_ok (n := 12) k1
    have e3 : IntKind.i64.wrap (((n + 1 : Nat) : Int) - 1) = (n : Int) := by rw [wid (by omega) (by omega)]; omega
    have hl : ∀ z : Span, decide (m.length + [z].length ≤ lim) = true := fun z => by simp [lim]; omega
    rw [h13_0_eq, if_pos (show decide (((n + 1 : Nat) : Int) > 0) = true by simp only [decide_eq_true_eq]; omega)]
    simp only [e1, e2, Option.bind_some, hl, if_true, e3]
    have ih := fun z : Span => v13_0 l r hr n fl q2 (m ++ [z]) k2 (by simp; omega) (by omega)
    cases y <;> simp only [Bool.false_eq_true, if_true, if_false] <;> exact ih _
theorem v13 (l : List Int) (r : List Span) (h : l.all u8B = true) : h13 1000 l r = some (.one (.bool true), []) := by
  have k0 := cok0 h
  rw [h13_eq]
  by_cases hc : (r.length : Int) > 30
  · rw [if_pos (by simpa using hc)]
  · rw [if_neg (by simpa using hc)]
    obtain ⟨v, q, e, h1, h2, k1⟩ := next_ok (n := 5) k0 (by omega)
    rw [e, Option.bind_some]
    obtain ⟨n, rfl⟩ : ∃ n : Nat, v = n := ⟨v.toNat, by omega⟩
    exact v13_0 _ r (by omega) n 999 q [] k1 (by simp; omega) (by omega)
def s13 : Spec := ⟨false, fun av ob => match av, ob with
  | [.one (.vec false .u8 l), .one (.vec false .span r)], [] => .need (l.all u8B && (r.all spanB)) (.ret (.one (.bool true), []))
  | _, _ => .fail⟩
theorem p13 : SpecOK Try.prog 13 s13 := by
  refine specOK_of (env_ok (l := l13) ⟨⟨p30, f30⟩, ⟨⟨p26, f26⟩, ⟨⟨pc46, f46⟩, ⟨⟨pc25, f25⟩, ⟨⟨pc55, f55⟩, ⟨⟨p56, f56⟩, ⟨⟨p57, f57⟩, ⟨⟨p58, f58⟩, ⟨⟨p59, f59⟩, trivial⟩⟩⟩⟩⟩⟩⟩⟩⟩) mixed_ok Try.func13 k13 fun av ob r os hrn => ?_
  simp only [s13] at hrn
  split at hrn
  · rename_i l r
    obtain ⟨hg, hrn⟩ := need_den hrn
    cases hrn
    simp only [Bool.and_eq_true] at hg
    obtain ⟨q1, q2⟩ := hg
    have hv := v13 l r q1
    unfold h13 at hv
    exact ⟨1000, hv⟩
  · cases hrn
theorem law13 (av : List AV) (h : AVs [RBytes, RSpans] av) : (s13.run av []).den = some (.one (.bool true), []) := by
  obtain ⟨_, _, rfl, ⟨l, rfl, q1⟩, k1⟩ := h.cons
  obtain ⟨_, _, rfl, ⟨r, rfl, q2⟩, k2⟩ := k1.cons
  rw [k2.nil]
  refine den_need ?_
  simp only [Bool.and_eq_true]
  exact ⟨q1, q2⟩
end Go.Proofs.Ytipfipnhgpbceaa.Sx
