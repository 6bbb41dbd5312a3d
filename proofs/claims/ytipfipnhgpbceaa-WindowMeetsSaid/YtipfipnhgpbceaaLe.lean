/- A number lies in the meeting exactly if it lies in all spans; the hull contains them; the order does not matter (plain theorems). -/
import Derived.Test.YtipfipnhgpbceaaLd
set_option linter.unusedVariables false
set_option linter.unusedSimpArgs false
set_option maxRecDepth 100000
namespace Go.Proofs.Ytipfipnhgpbceaa.Sx
open Go Go.RowKit
/-- The meeting's bounds, by the spans that it meets. -/
def MeetP (l : List Span) (r : Span) : Prop := (∀ x ∈ l, x.lo ≤ r.lo ∧ r.hi ≤ x.hi) ∧ (∃ x ∈ l, r.lo = x.lo) ∧ ∃ x ∈ l, r.hi = x.hi
def HullP (l : List Span) (r : Span) : Prop := (∀ x ∈ l, r.lo ≤ x.lo ∧ x.hi ≤ r.hi) ∧ (∃ x ∈ l, r.lo = x.lo) ∧ ∃ x ∈ l, r.hi = x.hi
theorem meetP_fold : ∀ (l k : List Span) (o : Span), MeetP k o → MeetP (k ++ l) (l.foldl meet1 o)
  | [], k, o, h => by simpa using h
  | x :: l, k, o, h => by
    rw [List.foldl_cons, show k ++ x :: l = (k ++ [x]) ++ l by simp]
    refine meetP_fold l (k ++ [x]) (meet1 o x) ?_
    obtain ⟨h1, ⟨a, ha, ea⟩, ⟨b, hb, eb⟩⟩ := h
    unfold meet1
    rw [mx_eq, mn_eq]
    refine ⟨fun y hy => ?_, ?_, ?_⟩
    · dsimp only
      rcases List.mem_append.1 hy with hy | hy
      · have := h1 y hy; omega
      · have hyx : y = x := by simpa using hy
        rw [hyx]; omega
    · dsimp only
      by_cases c : o.lo ≤ x.lo
      · exact ⟨x, by simp, by omega⟩
      · exact ⟨a, by simp [ha], by omega⟩
    · dsimp only
      by_cases c : x.hi ≤ o.hi
      · exact ⟨x, by simp, by omega⟩
      · exact ⟨b, by simp [hb], by omega⟩
theorem meetP_of (x : Span) (r : List Span) : MeetP (x :: r) ((x :: r).foldl meet1 x) := by
  rw [List.foldl_cons, meet1_self]
  exact meetP_fold r [x] x ⟨fun y hy => by simp at hy; subst hy; omega, ⟨x, by simp, rfl⟩, ⟨x, by simp, rfl⟩⟩
theorem span_ext {a b : Span} (h : a.lo = b.lo) (h' : a.hi = b.hi) : a = b := by cases a; cases b; simp_all
theorem meetP_uni {l k : List Span} {a b : Span} (hs : ∀ x, x ∈ l ↔ x ∈ k) (ha : MeetP l a) (hb : MeetP k b) : a = b := by
  obtain ⟨a1, ⟨x, hx, ex⟩, ⟨y, hy, ey⟩⟩ := ha
  obtain ⟨b1, ⟨u, hu, eu⟩, ⟨v, hv, ev⟩⟩ := hb
  have := b1 x ((hs x).1 hx)
  have := b1 y ((hs y).1 hy)
  have := a1 u ((hs u).2 hu)
  have := a1 v ((hs v).2 hv)
  exact span_ext (by omega) (by omega)
theorem hullP_uni {l k : List Span} {a b : Span} (hs : ∀ x, x ∈ l ↔ x ∈ k) (ha : HullP l a) (hb : HullP k b) : a = b := by
  obtain ⟨a1, ⟨x, hx, ex⟩, ⟨y, hy, ey⟩⟩ := ha
  obtain ⟨b1, ⟨u, hu, eu⟩, ⟨v, hv, ev⟩⟩ := hb
  have := b1 x ((hs x).1 hx)
  have := b1 y ((hs y).1 hy)
  have := a1 u ((hs u).2 hu)
  have := a1 v ((hs v).2 hv)
  exact span_ext (by omega) (by omega)
theorem meet_sets {l k : List Span} (hs : ∀ x, x ∈ l ↔ x ∈ k) : meetI l = meetI k := by
  cases l with
  | nil =>
    cases k with
    | nil => rfl
    | cons x r => exact absurd ((hs x).2 (by simp)) (by simp)
  | cons y q =>
    cases k with
    | nil => exact absurd ((hs y).1 (by simp)) (by simp)
    | cons x r =>
      simp only [meetI]
      rw [meetP_uni hs (meetP_of y q) (meetP_of x r)]
theorem hullP_fold : ∀ (l k : List Span) (o : Span), (∀ x ∈ l, x.lo ≤ x.hi) → HullP k o → ∃ r, l.foldl hullI1 (true, o) = (true, r) ∧ HullP (k ++ l) r
  | [], k, o, _, h => ⟨o, rfl, by simpa using h⟩
  | x :: l, k, o, hv, h => by
    have hx := hv x (by simp)
    have e : hullI1 (true, o) x = (true, ⟨mn o.lo x.lo, mx o.hi x.hi⟩) := by
      unfold hullI1
      rw [if_neg (by omega), if_neg (by simp)]
    obtain ⟨r, h1, h2⟩ := hullP_fold l (k ++ [x]) ⟨mn o.lo x.lo, mx o.hi x.hi⟩ (fun y hy => hv y (by simp [hy])) (by
      obtain ⟨h1, ⟨a, ha, ea⟩, ⟨b, hb, eb⟩⟩ := h
      rw [mx_eq, mn_eq]
      refine ⟨fun y hy => ?_, ?_, ?_⟩
      · dsimp only
        rcases List.mem_append.1 hy with hy | hy
        · have := h1 y hy; omega
        · have hyx : y = x := by simpa using hy
          rw [hyx]; omega
      · dsimp only
        by_cases c : x.lo ≤ o.lo
        · exact ⟨x, by simp, by omega⟩
        · exact ⟨a, by simp [ha], by omega⟩
      · dsimp only
        by_cases c : o.hi ≤ x.hi
        · exact ⟨x, by simp, by omega⟩
        · exact ⟨b, by simp [hb], by omega⟩)
    exact ⟨r, by rw [List.foldl_cons, e, h1], by rw [show k ++ x :: l = (k ++ [x]) ++ l by simp]; exact h2⟩
theorem hullP_of (x : Span) (r : List Span) (hv : ∀ y ∈ x :: r, y.lo ≤ y.hi) : HullP (x :: r) (hullI (x :: r)) := by
  have hx := hv x (by simp)
  have e : hullI1 (false, nothing) x = (true, x) := by
    unfold hullI1
    rw [if_neg (by omega), if_pos rfl]
  obtain ⟨q, h1, h2⟩ := hullP_fold r [x] x (fun y hy => hv y (by simp [hy])) ⟨fun y hy => by simp at hy; subst hy; omega, ⟨x, by simp, rfl⟩, ⟨x, by simp, rfl⟩⟩
  unfold hullI
  rw [List.foldl_cons, e, h1]
  exact h2
theorem hull_sets {l k : List Span} (hs : ∀ x, x ∈ l ↔ x ∈ k) (hv : ∀ x ∈ l, x.lo ≤ x.hi) : hullI l = hullI k := by
  cases l with
  | nil =>
    cases k with
    | nil => rfl
    | cons x r => exact absurd ((hs x).2 (by simp)) (by simp)
  | cons y q =>
    cases k with
    | nil => exact absurd ((hs y).1 (by simp)) (by simp)
    | cons x r => exact hullP_uni hs (hullP_of y q hv) (hullP_of x r fun z hz => hv z ((hs z).2 hz))
noncomputable def l14 : List (FuncId × Spec) := [(26, s26), (27, s27), (46, c46), (25, c25), (56, s56), (58, s58), (30, s30)]
def k14 : Code → Keep := keepOf [(6, ⟨[5, 6, 7, 8, 9, 10], [(6, .span), (7, .span)], []⟩), (17, ⟨[6, 16, 17], [], []⟩)]
noncomputable def h14_0 (fl : Nat) (t8 : Int) (t9 : Bool) (t10 : Int) (m0_0 : List Int) (m0_1 : Int) (m1 : List Span) (m2 : List Span) : Option (AV × List Ob) := (evalH (env l14) Try.f14 k14 0 fl (stkF Try.f14 [1, 1, 1, 1, 1, 0, 1, 0]) ⟨[.one (.undef), .one (.undef), .one (.undef), .one (.undef), .one (.undef), .one (.ptr 0 0), .one (.row 1), .one (.row 2), .one (.int .i64 t8), .one (.bool t9), .one (.int .i64 t10), .one (.undef), .one (.undef), .one (.undef), .one (.undef), .one (.undef), .one (.undef), .one (.undef), .one (.undef), .one (.undef), .one (.undef), .one (.undef), .one (.undef), .one (.undef), .one (.undef), .one (.undef), .one (.undef), .one (.undef), .one (.undef), .one (.undef), .one (.undef), .one (.undef), .one (.undef), .one (.undef), .one (.undef), .one (.undef), .one (.undef), .one (.undef), .one (.undef), .one (.undef), .one (.undef), .one (.undef), .one (.undef), .one (.undef), .one (.undef), .one (.undef), .one (.undef), .one (.undef), .one (.undef), .one (.undef), .one (.undef), .one (.undef), .one (.undef), .one (.undef), .one (.undef), .one (.undef), .one (.undef), .one (.undef), .one (.undef), .one (.undef), .one (.undef), .one (.undef), .one (.undef), .one (.undef), .one (.undef), .one (.undef), .one (.undef), .one (.undef), .one (.undef), .one (.undef), .one (.undef), .one (.undef), .one (.undef), .one (.undef), .one (.undef), .one (.undef), .one (.undef), .one (.undef), .one (.undef), .one (.undef), .one (.undef), .one (.undef), .one (.undef), .one (.undef), .one (.undef), .one (.undef), .one (.undef), .one (.undef), .one (.undef), .one (.undef), .one (.undef), .one (.undef), .one (.undef), .one (.undef), .one (.undef), .one (.undef), .one (.undef), .one (.undef), .one (.undef), .one (.undef), .one (.undef), .one (.undef), .one (.undef), .one (.undef), .one (.undef), .one (.undef), .one (.undef), .one (.undef), .one (.undef), .one (.undef), .one (.undef), .one (.undef), .one (.undef), .one (.undef), .one (.undef), .one (.undef), .one (.undef), .one (.undef), .one (.undef), .one (.undef), .one (.undef), .one (.undef), .one (.undef), .one (.undef), .one (.undef), .one (.undef), .one (.undef), .one (.undef), .one (.undef)], [((0, 0), some (.cell (.vec false .u8 m0_0))), ((0, 1), some (.cell (.int .i64 m0_1))), ((1, 0), some (.rows .span m1)), ((2, 0), some (.rows .span m2))], 3⟩).den
noncomputable def h14_1 (fl : Nat) (t17 : Int) (m0 : List Span) (m1_0 : Int) (m1_1 : Int) : Option (AV × List Ob) := (evalH (env l14) Try.f14 k14 0 fl (stkF Try.f14 [1, 1, 1, 1, 1, 1, 1, 1, 1, 1, 0, 1, 0]) ⟨[.one (.undef), .one (.undef), .one (.undef), .one (.undef), .one (.undef), .one (.undef), .one (.row 0), .one (.undef), .one (.undef), .one (.undef), .one (.undef), .one (.undef), .one (.undef), .one (.undef), .one (.undef), .one (.undef), .one (.ptr 1 0), .one (.int .i64 t17), .one (.undef), .one (.undef), .one (.undef), .one (.undef), .one (.undef), .one (.undef), .one (.undef), .one (.undef), .one (.undef), .one (.undef), .one (.undef), .one (.undef), .one (.undef), .one (.undef), .one (.undef), .one (.undef), .one (.undef), .one (.undef), .one (.undef), .one (.undef), .one (.undef), .one (.undef), .one (.undef), .one (.undef), .one (.undef), .one (.undef), .one (.undef), .one (.undef), .one (.undef), .one (.undef), .one (.undef), .one (.undef), .one (.undef), .one (.undef), .one (.undef), .one (.undef), .one (.undef), .one (.undef), .one (.undef), .one (.undef), .one (.undef), .one (.undef), .one (.undef), .one (.undef), .one (.undef), .one (.undef), .one (.undef), .one (.undef), .one (.undef), .one (.undef), .one (.undef), .one (.undef), .one (.undef), .one (.undef), .one (.undef), .one (.undef), .one (.undef), .one (.undef), .one (.undef), .one (.undef), .one (.undef), .one (.undef), .one (.undef), .one (.undef), .one (.undef), .one (.undef), .one (.undef), .one (.undef), .one (.undef), .one (.undef), .one (.undef), .one (.undef), .one (.undef), .one (.undef), .one (.undef), .one (.undef), .one (.undef), .one (.undef), .one (.undef), .one (.undef), .one (.undef), .one (.undef), .one (.undef), .one (.undef), .one (.undef), .one (.undef), .one (.undef), .one (.undef), .one (.undef), .one (.undef), .one (.undef), .one (.undef), .one (.undef), .one (.undef), .one (.undef), .one (.undef), .one (.undef), .one (.undef), .one (.undef), .one (.undef), .one (.undef), .one (.undef), .one (.undef), .one (.undef), .one (.undef), .one (.undef), .one (.undef), .one (.undef), .one (.undef), .one (.undef), .one (.undef)], [((0, 0), some (.rows .span m0)), ((1, 0), some (.cell (.int .i64 m1_0))), ((1, 1), some (.cell (.int .i64 m1_1)))], 2⟩).den
noncomputable def h14 (fl : Nat) (l : List Int) (v : Int) : Option (AV × List Ob) := (evalF (env l14) Try.f14 k14 fl [.one (.vec false .u8 l), .one (.int .i64 v)] []).den
theorem h14_eq (fl : Nat) (l : List Int) (v : Int) : h14 (fl + 1) l v =
    (nextO (List.take 300 l) 0 5).bind fun x2 =>
    h14_0 fl (IntKind.i64.wrap (modz v 150 - 40)) true x2.fst (List.take 300 l) x2.snd [] [] := by kernel_rfl
theorem h14_0_eq (fl : Nat) (t8 : Int) (t9 : Bool) (t10 : Int) (m0_0 : List Int) (m0_1 : Int) (m1 : List Span) (m2 : List Span) : h14_0 (fl + 1) t8 t9 t10 m0_0 m0_1 m1 m2 =
    if (decide (t10 > 0)) = true then (measO m0_0 m0_1).bind fun x3 =>
      if t9 = true then if (decide (x3.fst.lo ≤ t8)) = true then if (decide ((m1).length + ([{ lo := x3.fst.lo, hi := x3.fst.hi : Span }]).length ≤ lim)) = true then if (decide (([{ lo := x3.fst.lo, hi := x3.fst.hi : Span }]).length + (m2).length ≤ lim)) = true then h14_0 fl t8 (decide (t8 ≤ x3.fst.hi)) (IntKind.i64.wrap (t10 - 1)) m0_0 x3.snd (m1 ++ [{ lo := x3.fst.lo, hi := x3.fst.hi : Span }]) ([{ lo := x3.fst.lo, hi := x3.fst.hi : Span }] ++ m2)
              else none
            else none
          else if (decide ((m1).length + ([{ lo := x3.fst.lo, hi := x3.fst.hi : Span }]).length ≤ lim)) = true then if (decide (([{ lo := x3.fst.lo, hi := x3.fst.hi : Span }]).length + (m2).length ≤ lim)) = true then h14_0 fl t8 false (IntKind.i64.wrap (t10 - 1)) m0_0 x3.snd (m1 ++ [{ lo := x3.fst.lo, hi := x3.fst.hi : Span }]) ([{ lo := x3.fst.lo, hi := x3.fst.hi : Span }] ++ m2)
              else none
            else none
        else if (decide ((m1).length + ([{ lo := x3.fst.lo, hi := x3.fst.hi : Span }]).length ≤ lim)) = true then if (decide (([{ lo := x3.fst.lo, hi := x3.fst.hi : Span }]).length + (m2).length ≤ lim)) = true then h14_0 fl t8 false (IntKind.i64.wrap (t10 - 1)) m0_0 x3.snd (m1 ++ [{ lo := x3.fst.lo, hi := x3.fst.hi : Span }]) ([{ lo := x3.fst.lo, hi := x3.fst.hi : Span }] ++ m2)
            else none
          else none
    else if (decide (m1.length ≤ 1000000)) = true then if (decide (m2.length ≤ 1000000)) = true then if (!((meetI m1).fst.lo == (meetI m2).fst.lo && (meetI m1).fst.hi == (meetI m2).fst.hi)) = true then some (.one (.bool false), [])
          else if (!(meetI m1).snd == (meetI m2).snd) = true then some (.one (.bool false), [])
            else if (decide (m1.length ≤ 1000000)) = true then if (decide (m2.length ≤ 1000000)) = true then if (!((hullI m1).lo == (hullI m2).lo && (hullI m1).hi == (hullI m2).hi)) = true then some (.one (.bool false), [])
                  else if ((meetI m1).snd) = true then if (decide ((meetI m1).fst.lo ≤ t8)) = true then if (!t9 == decide (t8 ≤ (meetI m1).fst.hi)) = true then some (.one (.bool false), [])
                        else if (!(meetI m1).snd) = true then if t9 = true then some (.one (.bool false), [])
                            else if (decide (m1.length ≤ 1000000)) = true then h14_1 fl 0 m1 ((hullI m1).lo) ((hullI m1).hi)
                              else none
                          else if (decide (m1.length ≤ 1000000)) = true then h14_1 fl 0 m1 ((hullI m1).lo) ((hullI m1).hi)
                            else none
                      else if (!t9 == false) = true then some (.one (.bool false), [])
                        else if (!(meetI m1).snd) = true then if t9 = true then some (.one (.bool false), [])
                            else if (decide (m1.length ≤ 1000000)) = true then h14_1 fl 0 m1 ((hullI m1).lo) ((hullI m1).hi)
                              else none
                          else if (decide (m1.length ≤ 1000000)) = true then h14_1 fl 0 m1 ((hullI m1).lo) ((hullI m1).hi)
                            else none
                    else if (!(meetI m1).snd) = true then if t9 = true then some (.one (.bool false), [])
                        else if (decide (m1.length ≤ 1000000)) = true then h14_1 fl 0 m1 ((hullI m1).lo) ((hullI m1).hi)
                          else none
                      else if (decide (m1.length ≤ 1000000)) = true then h14_1 fl 0 m1 ((hullI m1).lo) ((hullI m1).hi)
                        else none
                else none
              else none
        else none
      else none := by kernel_rfl
theorem h14_1_eq (fl : Nat) (t17 : Int) (m0 : List Span) (m1_0 : Int) (m1_1 : Int) : h14_1 (fl + 1) t17 m0 m1_0 m1_1 =
    if (decide (t17 < (↑m0.length : Int))) = true then if (idx m0.length t17) = true then if (decide (m1_0 > (m0.getD t17.toNat (dflt K.span)).lo)) = true then some (.one (.bool false), [])
        else if (idx m0.length t17) = true then if (decide (m1_1 < (m0.getD t17.toNat (dflt K.span)).hi)) = true then some (.one (.bool false), [])
            else h14_1 fl (IntKind.i64.wrap (t17 + 1)) m0 m1_0 m1_1
          else none
      else none
    else some (.one (.bool true), []) := by kernel_rfl
theorem v14_1 (l : List Span) (h : Span) (hl : l.length ≤ 1000) (hh : ∀ x ∈ l, h.lo ≤ x.lo ∧ x.hi ≤ h.hi) : ∀ (d fl i : Nat), l.length - i = d → i ≤ l.length → d < fl → h14_1 fl i l h.lo h.hi = some (.one (.bool true), [])
  | d, fl, i, hd, hi, hf => by
    obtain ⟨fl, rfl⟩ : ∃ q, fl = q + 1 := ⟨fl - 1, by omega⟩
    rw [h14_1_eq]
    by_cases hlt : i < l.length
    · have hx := hh _ (List.getElem_mem hlt)
      rw [if_pos (lt_nat hlt)]
      simp only [if_pos (idx_nat hlt), at_lt hlt]
      rw [if_neg (by simp only [decide_eq_true_eq]; omega), if_neg (by simp only [decide_eq_true_eq]; omega), wr_succ (by omega)]
      cases d with
      | zero => omega
      | succ d => exact v14_1 l h hl hh d fl (i + 1) (by omega) (by omega) (by omega)
    · rw [if_neg (nlt_nat hlt)]
theorem v14_0 (l : List Int) (v : Int) (hv : -40 ≤ v ∧ v ≤ 110) : ∀ (n fl : Nat) (p : Int) (b : Bool) (m1 m2 : List Span), cok l p = true → m1.length = m2.length → m1.length + n ≤ 100 → n + 110 < fl → (∀ x, x ∈ m1 ↔ x ∈ m2) → (∀ x ∈ m1, x.lo ≤ x.hi) →
    (b = true ↔ ∀ x ∈ m1, x.lo ≤ v ∧ v ≤ x.hi) → h14_0 fl v b n l p m1 m2 = some (.one (.bool true), [])
  | 0, fl, p, b, m1, m2, hk, hlen, hn, hf, hs, hval, hb => by
    obtain ⟨fl, rfl⟩ : ∃ q, fl = q + 1 := ⟨fl - 1, by omega⟩
    rw [h14_0_eq, if_neg (by simp)]
    have d1 : decide (m1.length ≤ 1000000) = true := by simp only [decide_eq_true_eq]; omega
    have d2 : decide (m2.length ≤ 1000000) = true := by simp only [decide_eq_true_eq]; omega
    have hloop : h14_1 fl 0 m1 (hullI m1).lo (hullI m1).hi = some (.one (.bool true), []) := by
      refine v14_1 m1 (hullI m1) (by omega) (fun x hx => ?_) m1.length fl 0 (by omega) (by omega) (by omega)
      cases m1 with
      | nil => simp at hx
      | cons y q => exact (hullP_of y q hval).1 x hx
    rw [← meet_sets hs, ← hull_sets hs hval]
    simp only [d1, d2, if_true, beq_self_eq_true, Bool.and_self, Bool.not_true, Bool.false_eq_true, if_false, hloop]
    have hin : (b = true ↔ (meetI m1).2 = true ∧ (meetI m1).1.lo ≤ v ∧ v ≤ (meetI m1).1.hi) := by
      rw [hb]
      cases m1 with
      | nil => simp [meetI, nothing]; omega
      | cons y q =>
        obtain ⟨h1, ⟨x, hx, ex⟩, ⟨z, hz, ez⟩⟩ := meetP_of y q
        simp only [meetI, meetEnd]
        constructor
        · intro h
          have := h x hx
          have := h z hz
          rw [if_neg (by omega)]
          exact ⟨rfl, by dsimp only; omega, by dsimp only; omega⟩
        · intro h w hw
          split at h
          · cases h.1
          · have := h1 w hw
            have := h.2
            dsimp only at this
            omega
    cases hok : (meetI m1).2 with
    | true =>
      rw [hok] at hin
      simp only [Bool.not_true, Bool.false_eq_true, if_true, if_false]
      by_cases c1 : (meetI m1).1.lo ≤ v
      · by_cases c2 : v ≤ (meetI m1).1.hi
        · have : b = true := hin.2 ⟨rfl, c1, c2⟩
          simp [c1, c2, this]
        · have : b = false := by cases b with | false => rfl | true => exact absurd (hin.1 rfl).2.2 c2
          simp [c1, c2, this]
      · have : b = false := by cases b with | false => rfl | true => exact absurd (hin.1 rfl).2.1 c1
        simp [c1, this]
    | false =>
      have : b = false := by cases b with | false => rfl | true => have := (hin.1 rfl).1; rw [hok] at this; cases this
      simp [this]
  | n + 1, fl, p, b, m1, m2, hk, hlen, hn, hf, hs, hval, hb => by
    obtain ⟨fl, rfl⟩ : ∃ q, fl = q + 1 := ⟨fl - 1, by omega⟩
    obtain ⟨x, q, e1, hM, k1⟩ := meas_ok hk
    have e3 : IntKind.i64.wrap (((n + 1 : Nat) : Int) - 1) = (n : Int) := by rw [wid (by omega) (by omega)]; omega
    have hl1 : ∀ z : Span, decide (m1.length + [z].length ≤ lim) = true := fun z => by simp [lim]; omega
    have hl2 : ∀ z : Span, decide ([z].length + m2.length ≤ lim) = true := fun z => by simp [lim]; omega
    rw [h14_0_eq, if_pos (show decide (((n + 1 : Nat) : Int) > 0) = true by simp only [decide_eq_true_eq]; omega)]
    simp only [e1, Option.bind_some, hl1, hl2, if_true, e3, decide_eq_true_eq]
    have ih := fun b' (hb' : b' = true ↔ ∀ y ∈ m1 ++ [⟨x.lo, x.hi⟩], y.lo ≤ v ∧ v ≤ y.hi) => v14_0 l v hv n fl q b' (m1 ++ [⟨x.lo, x.hi⟩]) ([⟨x.lo, x.hi⟩] ++ m2) k1 (by simp; omega) (by simp; omega) (by omega)
      (fun y => by
        have := hs y
        simp only [List.mem_append, List.mem_singleton]
        constructor
        · rintro (h | h)
          · exact .inr (this.1 h)
          · exact .inl h
        · rintro (h | h)
          · exact .inr h
          · exact .inl (this.2 h))
      (fun y hy => by
        rcases List.mem_append.1 hy with h | h
        · exact hval y h
        · have : y = ⟨x.lo, x.hi⟩ := by simpa using h
          subst this
          exact hM.hi.1) hb'
    have hall : (∀ y ∈ m1 ++ [(⟨x.lo, x.hi⟩ : Span)], y.lo ≤ v ∧ v ≤ y.hi) ↔ (b = true ∧ x.lo ≤ v ∧ v ≤ x.hi) := by
      rw [hb]
      constructor
      · intro h
        exact ⟨fun y hy => h y (by simp [hy]), (h ⟨x.lo, x.hi⟩ (by simp)).1, (h ⟨x.lo, x.hi⟩ (by simp)).2⟩
      · rintro ⟨h1, h2, h3⟩ y hy
        rcases List.mem_append.1 hy with h | h
        · exact h1 y h
        · have : y = ⟨x.lo, x.hi⟩ := by simpa using h
          subst this
          exact ⟨h2, h3⟩
    by_cases c0 : b = true
    · rw [if_pos c0]
      by_cases c1 : x.lo ≤ v
      · rw [if_pos c1]
        exact ih _ (by rw [hall]; simp [c0, c1])
      · rw [if_neg c1]
        exact ih _ (by rw [hall]; simp [c1])
    · rw [if_neg c0]
      exact ih _ (by rw [hall]; simp [c0])
theorem v14 (l : List Int) (v : Int) (h : l.all u8B = true) : h14 1000 l v = some (.one (.bool true), []) := by
  have k0 := cok0 h
  rw [h14_eq]
  obtain ⟨n, q, e, h1, h2, k1⟩ := next_ok (n := 5) k0 (by omega)
  rw [e, Option.bind_some]
  obtain ⟨n, rfl⟩ : ∃ m : Nat, n = m := ⟨n.toNat, by omega⟩
  have rv := modz_range (k := v) (n := 150) (by omega) (by omega)
  have e2 : IntKind.i64.wrap (modz v 150 - 40) = modz v 150 - 40 := wid (by omega) (by omega)
  rw [e2]
  exact v14_0 _ _ (by omega) n 999 q true [] [] k1 rfl (by simp; omega) (by omega) (fun x => Iff.rfl) (fun x hx => by simp at hx) (by simp)
def s14 : Spec := ⟨false, fun av ob => match av, ob with
  | [.one (.vec false .u8 l), .one (.int .i64 v)], [] => .need (l.all u8B && (i64B v)) (.ret (.one (.bool true), []))
  | _, _ => .fail⟩
theorem p14 : SpecOK Try.prog 14 s14 := by
  refine specOK_of (env_ok (l := l14) ⟨⟨p26, f26⟩, ⟨⟨p27, f27⟩, ⟨⟨pc46, f46⟩, ⟨⟨pc25, f25⟩, ⟨⟨p56, f56⟩, ⟨⟨p58, f58⟩, ⟨⟨p30, f30⟩, trivial⟩⟩⟩⟩⟩⟩⟩) mixed_ok Try.func14 k14 fun av ob r os hrn => ?_
  simp only [s14] at hrn
  split at hrn
  · rename_i l v
    obtain ⟨hg, hrn⟩ := need_den hrn
    cases hrn
    simp only [Bool.and_eq_true] at hg
    obtain ⟨q1, q2⟩ := hg
    have hv := v14 l v q1
    unfold h14 at hv
    exact ⟨1000, hv⟩
  · cases hrn
theorem law14 (av : List AV) (h : AVs [RBytes, RInt] av) : (s14.run av []).den = some (.one (.bool true), []) := by
  obtain ⟨_, _, rfl, ⟨l, rfl, q1⟩, k1⟩ := h.cons
  obtain ⟨_, _, rfl, ⟨v, rfl, q2⟩, k2⟩ := k1.cons
  rw [k2.nil]
  refine den_need ?_
  simp only [Bool.and_eq_true]
  exact ⟨q1, q2⟩
end Go.Proofs.Ytipfipnhgpbceaa.Sx
