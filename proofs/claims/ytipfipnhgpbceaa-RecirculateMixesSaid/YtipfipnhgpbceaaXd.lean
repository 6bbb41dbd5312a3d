/- Plain theorems and definitions for the claim, put together out of several texts. -/
import Derived.Test.YtipfipnhgpbceaaXc
/- Roads, fan curves and doors that are made (plain theorems). -/

set_option linter.unusedVariables false
set_option linter.unusedSimpArgs false
set_option maxRecDepth 100000
namespace Go.Proofs.Ytipfipnhgpbceaa.Sx
open Go Go.RowKit
noncomputable def l91 : List (FuncId × Spec) := [(32, c32), (46, c46)]
def k91 : Code → Keep := keepOf []
noncomputable def h91 (fl : Nat) (a b : Int) (l : List Int) (p : Int) : Option (AV × List Ob) := (evalF (env l91) Try.f91 k91 fl [.one (.ptr 0 0), .one (.int .i64 a), .one (.int .i64 b)] [.box [.vec false .u8 l, .int .i64 p]]).den
theorem h91_eq (fl : Nat) (a b : Int) (l : List Int) (p : Int) : h91 (fl + 1) a b l p =
    (rangeO l p 1 400).bind fun x2 =>
    (rangeO l x2.snd 4 30).bind fun x3 =>
      (nextO l x3.snd 4).bind fun x4 =>
        (rangeO l x4.snd 1 20).bind fun x5 =>
          (nextO l x5.snd 3).bind fun x6 =>
            (rangeO l x6.snd (-300) 300).bind fun x7 =>
              (nextO l x7.snd 20).bind fun x8 =>
                some (.agg [.int .i64 a, .int .i64 b, .int .i64 x2.fst, .int .i64 x3.fst, .bool (decide (x4.fst > 0)), .bool false, .int .i64 x5.fst, .int .i64 (IntKind.i64.wrap (x5.fst + x6.fst)), .int .i64 x7.fst, .int .i64 (IntKind.i64.wrap (x7.fst + x8.fst))], [.box [.vec false .u8 l, .int .i64 x8.snd]]) := by kernel_rfl
def decRoad (l : List Int) : AV × List Ob → Option (Road × Int)
  | (.agg [.int .i64 a, .int .i64 b, .int .i64 c, .int .i64 d, .bool e, .bool f, .int .i64 g, .int .i64 h, .int .i64 i, .int .i64 j], [.box [.vec false .u8 l', .int .i64 p]]) => if l' = l then some (⟨a, b, c, d, e, f, g, h, i, j⟩, p) else none
  | _ => none
theorem decRoad_ok {l : List Int} {y : AV × List Ob} {x : Road × Int} (h : decRoad l y = some x) : [Ob.box [.vec false .u8 l, .int .i64 x.2]] = y.2.take 1 ∧ TA y.2 1 y.1 (.agg [.int .i64 x.1.frm, .int .i64 x.1.to, .int .i64 x.1.len, .int .i64 x.1.area, .bool x.1.walk, .bool x.1.closed, .int .i64 x.1.restLo, .int .i64 x.1.restHi, .int .i64 x.1.liftLo, .int .i64 x.1.liftHi]) := by
  unfold decRoad at h
  split at h
  · split at h
    · rename_i hl
      subst hl
      cases h
      exact ⟨rfl, .agg _ _ (all2_tc_refl _)⟩
    · cases h
  · cases h
noncomputable def o91 (a : Int) (b : Int) (l : List Int) (p : Int) : Option (Road × Int) := (h91 1 a b l p).bind (decRoad l)
noncomputable def c91 : Spec := ⟨false, fun av ob => match av, ob with
  | [.one (.ptr 0 0), .one (.int .i64 a), .one (.int .i64 b)], [.box [.vec false .u8 l, .int .i64 p]] => .call (o91 a b l p) fun x => .ret (.agg [.int .i64 x.1.frm, .int .i64 x.1.to, .int .i64 x.1.len, .int .i64 x.1.area, .bool x.1.walk, .bool x.1.closed, .int .i64 x.1.restLo, .int .i64 x.1.restHi, .int .i64 x.1.liftLo, .int .i64 x.1.liftHi], [.box [.vec false .u8 l, .int .i64 x.2]])
  | _, _ => .fail⟩
theorem f91 : FnOK Try.prog 91 := fnOK_of Try.func91 rfl (by kernel_rfl)
theorem pc91 : SpecOK Try.prog 91 c91 := by
  refine spec_thaw (fun av ob r os hrn => ?_) (machS_ok (env_ok (l := l91) ⟨⟨pc32, f32⟩, ⟨⟨pc46, f46⟩, trivial⟩⟩) mixed_ok Try.func91 k91 (fun _ _ => 1) false)
  simp only [c91] at hrn
  split at hrn
  · rename_i a b l p
    obtain ⟨x, hx, hr⟩ := Option.bind_eq_some_iff.1 hrn
    cases hr
    obtain ⟨y, hy, hd⟩ := Option.bind_eq_some_iff.1 hx
    unfold h91 at hy
    obtain ⟨d1, d2⟩ := decRoad_ok hd
    exact ⟨y.1, y.2, by rw [machS_run]; exact hy, d1, d2⟩
  · cases hrn
structure RB (r : Road) (a b : Int) : Prop where
  frm : r.frm = a
  to : r.to = b
  len : 1 ≤ r.len ∧ r.len ≤ 400
  area : 4 ≤ r.area ∧ r.area ≤ 30
  closed : r.closed = false
  rest : 1 ≤ r.restLo ∧ r.restLo ≤ r.restHi ∧ r.restHi ≤ 22
  lift : -300 ≤ r.liftLo ∧ r.liftLo ≤ r.liftHi ∧ r.liftHi ≤ 319
theorem road_ok {l : List Int} {p : Int} (a b : Int) (h : cok l p = true) : ∃ r q, o91 a b l p = some (r, q) ∧ RB r a b ∧ cok l q = true := by
  obtain ⟨v1, p1, e1, a1, b1, k1⟩ := range_ok (lo := 1) (hi := 400) h (by omega) (by omega) (by omega)
  obtain ⟨v2, p2, e2, a2, b2, k2⟩ := range_ok (lo := 4) (hi := 30) k1 (by omega) (by omega) (by omega)
  obtain ⟨v3, p3, e3, a3, b3, k3⟩ := next_ok (n := 4) k2 (by omega)
  obtain ⟨v4, p4, e4, a4, b4, k4⟩ := range_ok (lo := 1) (hi := 20) k3 (by omega) (by omega) (by omega)
  obtain ⟨v5, p5, e5, a5, b5, k5⟩ := next_ok (n := 3) k4 (by omega)
  obtain ⟨v6, p6, e6, a6, b6, k6⟩ := range_ok (lo := -300) (hi := 300) k5 (by omega) (by omega) (by omega)
  obtain ⟨v7, p7, e7, a7, b7, k7⟩ := next_ok (n := 20) k6 (by omega)
  have w1 : IntKind.i64.wrap (v4 + v5) = v4 + v5 := wid (by omega) (by omega)
  have w2 : IntKind.i64.wrap (v6 + v7) = v6 + v7 := wid (by omega) (by omega)
  unfold o91
  rw [h91_eq]
  simp only [e1, e2, e3, e4, e5, e6, e7, Option.bind_some, w1, w2, decRoad, if_true]
  exact ⟨_, _, rfl, ⟨rfl, rfl, ⟨a1, b1⟩, ⟨a2, b2⟩, rfl, ⟨by dsimp only; omega, by dsimp only; omega, by dsimp only; omega⟩, ⟨by dsimp only; omega, by dsimp only; omega, by dsimp only; omega⟩⟩, k7⟩

/-! ### Curves -/
/-- A curve that rises in flow and falls in pressure. -/
structure CB (c : List Point) : Prop where
  len : 1 ≤ c.length ∧ c.length ≤ 4
  bound : ∀ i, i < c.length → -20 ≤ (c.getD i ⟨0, 0⟩).flow ∧ (c.getD i ⟨0, 0⟩).flow ≤ 10 + 40 * (i : Int) ∧ 0 ≤ (c.getD i ⟨0, 0⟩).pressure ∧ (c.getD i ⟨0, 0⟩).pressure ≤ 3000
  rise : ∀ i, i + 1 < c.length → (c.getD i ⟨0, 0⟩).flow < (c.getD (i + 1) ⟨0, 0⟩).flow ∧ (c.getD (i + 1) ⟨0, 0⟩).pressure ≤ (c.getD i ⟨0, 0⟩).pressure
theorem getD_append_lt {α : Type} {c k : List α} {i : Nat} {d : α} (h : i < c.length) : (c ++ k).getD i d = c.getD i d := by
  rw [List.getD_eq_getElem?_getD, List.getD_eq_getElem?_getD, List.getElem?_append_left h]
theorem getD_append_len {α : Type} {c : List α} {x d : α} : (c ++ [x]).getD c.length d = x := by
  rw [List.getD_eq_getElem?_getD, List.getElem?_append_right (by omega)]; simp
noncomputable def l114 : List (FuncId × Spec) := [(32, c32), (46, c46)]
def k114 : Code → Keep := keepOf [(3, ⟨[0, 3, 4], [], []⟩)]
noncomputable def h114_0 (fl : Nat) (t4 : Int) (m0_0 : List Int) (m0_1 : Int) (m1 : List Point) : Option (AV × List Ob) := (evalH (env l114) Try.f114 k114 1 fl (stkF Try.f114 [1, 1, 0, 1, 0]) ⟨[.one (.ptr 0 0), .one (.undef), .one (.undef), .one (.row 1), .one (.int .i64 t4), .one (.undef), .one (.undef), .one (.undef), .one (.undef), .one (.undef), .one (.undef), .one (.undef), .one (.undef), .one (.undef), .one (.undef), .one (.undef), .one (.undef), .one (.undef), .one (.undef), .one (.undef), .one (.undef), .one (.undef), .one (.undef), .one (.undef), .one (.undef), .one (.undef), .one (.undef), .one (.undef), .one (.undef), .one (.undef), .one (.undef), .one (.undef), .one (.undef), .one (.undef), .one (.undef), .one (.undef), .one (.undef), .one (.undef), .one (.undef), .one (.undef)], [((0, 0), some (.cell (.vec false .u8 m0_0))), ((0, 1), some (.cell (.int .i64 m0_1))), ((1, 0), some (.rows .point m1))], 2⟩).den
noncomputable def h114 (fl : Nat) (l : List Int) (p : Int) : Option (AV × List Ob) := (evalF (env l114) Try.f114 k114 fl [.one (.ptr 0 0)] [.box [.vec false .u8 l, .int .i64 p]]).den
theorem h114_eq (fl : Nat) (l : List Int) (p : Int) : h114 (fl + 1) l p =
    (rangeO l p (-20) 10).bind fun x2 =>
    (rangeO l x2.snd 500 3000).bind fun x3 =>
      (nextO l x3.snd 4).bind fun x4 =>
        h114_0 fl x4.fst l x4.snd ([{ flow := x2.fst, pressure := x3.fst : Point }]) := by kernel_rfl
theorem h114_0_eq (fl : Nat) (t4 : Int) (m0_0 : List Int) (m0_1 : Int) (m1 : List Point) : h114_0 (fl + 1) t4 m0_0 m0_1 m1 =
    if (decide (t4 > 0)) = true then if (idx m1.length (IntKind.i64.wrap ((↑m1.length : Int) - 1))) = true then (rangeO m0_0 m0_1 1 40).bind fun x4 =>
        (nextO m0_0 x4.snd 900).bind fun x5 =>
          if (decide ((m1).length + ([{ flow := IntKind.i64.wrap ((m1.getD (IntKind.i64.wrap ((↑m1.length : Int) - 1)).toNat (dflt K.point)).flow + x4.fst), pressure := mx 0 (IntKind.i64.wrap ((m1.getD (IntKind.i64.wrap ((↑m1.length : Int) - 1)).toNat (dflt K.point)).pressure - x5.fst)) : Point }]).length ≤ lim)) = true then h114_0 fl (IntKind.i64.wrap (t4 - 1)) m0_0 x5.snd (m1 ++ [{ flow := IntKind.i64.wrap ((m1.getD (IntKind.i64.wrap ((↑m1.length : Int) - 1)).toNat (dflt K.point)).flow + x4.fst), pressure := mx 0 (IntKind.i64.wrap ((m1.getD (IntKind.i64.wrap ((↑m1.length : Int) - 1)).toNat (dflt K.point)).pressure - x5.fst)) : Point }])
            else none
      else none
    else some (.one (.row 1), [.box [.vec false .u8 m0_0, .int .i64 m0_1], .rows .point m1]) := by kernel_rfl
def decCurve (l : List Int) : AV × List Ob → Option (List Point × Int)
  | (.one s, .box [.vec false .u8 l', .int .i64 p] :: os) => if l' = l then (match slO .point 1 (.box [.vec false .u8 l', .int .i64 p] :: os) s with | some d => some (d, p) | none => none) else none
  | _ => none
theorem slO_undef {E : K} {n : Nat} {os : List Ob} {d : List (D E)} {s : Sc} (h : slO E n os s = some d) : s ≠ .undef := by
  intro e
  subst e
  cases h
theorem decCurve_ok {l : List Int} {y : AV × List Ob} {x : List Point × Int} (h : decCurve l y = some x) : [Ob.box [.vec false .u8 l, .int .i64 x.2]] = y.2.take 1 ∧ TA y.2 1 y.1 (.one (.vec false .point x.1)) := by
  unfold decCurve at h
  split at h
  · split at h
    · rename_i hl
      subst hl
      split at h
      · rename_i d hd
        cases h
        exact ⟨rfl, .one _ _ (slO_ok hd) (slO_undef hd)⟩
      · cases h
    · cases h
  · cases h
noncomputable def o114 (l : List Int) (p : Int) : Option (List Point × Int) := (h114 10 l p).bind (decCurve l)
noncomputable def c114 : Spec := ⟨false, fun av ob => match av, ob with
  | [.one (.ptr 0 0)], [.box [.vec false .u8 l, .int .i64 p]] => .call (o114 l p) fun x => .ret (.one (.vec false .point x.1), [.box [.vec false .u8 l, .int .i64 x.2]])
  | _, _ => .fail⟩
theorem f114 : FnOK Try.prog 114 := fnOK_of Try.func114 rfl (by kernel_rfl)
theorem pc114 : SpecOK Try.prog 114 c114 := by
  refine spec_thaw (fun av ob r os hrn => ?_) (machS_ok (env_ok (l := l114) ⟨⟨pc32, f32⟩, ⟨⟨pc46, f46⟩, trivial⟩⟩) mixed_ok Try.func114 k114 (fun _ _ => 10) false)
  simp only [c114] at hrn
  split at hrn
  · rename_i l p
    obtain ⟨x, hx, hr⟩ := Option.bind_eq_some_iff.1 hrn
    cases hr
    obtain ⟨y, hy, hd⟩ := Option.bind_eq_some_iff.1 hx
    unfold h114 at hy
    obtain ⟨d1, d2⟩ := decCurve_ok hd
    exact ⟨y.1, y.2, by rw [machS_run]; exact hy, d1, d2⟩
  · cases hrn
theorem curve_loop (l : List Int) : ∀ (n fl : Nat) (p : Int) (c : List Point), cok l p = true → CB c → c.length + n ≤ 4 → n < fl → ∃ c' q, h114_0 fl n l p c = some (.one (.row 1), [.box [.vec false .u8 l, .int .i64 q], .rows .point c']) ∧ CB c' ∧ cok l q = true
  | 0, fl, p, c, hk, hc, hn, hf => by
    obtain ⟨fl, rfl⟩ : ∃ q, fl = q + 1 := ⟨fl - 1, by omega⟩
    exact ⟨c, p, by rw [h114_0_eq, if_neg (by simp)], hc, hk⟩
  | n + 1, fl, p, c, hk, hc, hn, hf => by
    obtain ⟨fl, rfl⟩ : ∃ q, fl = q + 1 := ⟨fl - 1, by omega⟩
    obtain ⟨v1, p1, e1, a1, b1, k1⟩ := range_ok (lo := 1) (hi := 40) hk (by omega) (by omega) (by omega)
    obtain ⟨v2, p2, e2, a2, b2, k2⟩ := next_ok (n := 900) k1 (by omega)
    have hl1 := hc.len
    have w0 : IntKind.i64.wrap ((c.length : Int) - 1) = ((c.length - 1 : Nat) : Int) := by rw [wid (by omega) (by omega)]; omega
    have hB := hc.bound (c.length - 1) (by omega)
    have w1 : IntKind.i64.wrap ((c.getD (c.length - 1) ⟨0, 0⟩).flow + v1) = (c.getD (c.length - 1) ⟨0, 0⟩).flow + v1 := wid (by omega) (by omega)
    have w2 : IntKind.i64.wrap ((c.getD (c.length - 1) ⟨0, 0⟩).pressure - v2) = (c.getD (c.length - 1) ⟨0, 0⟩).pressure - v2 := wid (by omega) (by omega)
    have w3 : IntKind.i64.wrap (((n + 1 : Nat) : Int) - 1) = (n : Int) := by rw [wid (by omega) (by omega)]; omega
    rw [h114_0_eq, if_pos (show decide (((n + 1 : Nat) : Int) > 0) = true by simp only [decide_eq_true_eq]; omega), w0, if_pos (idx_nat (by omega)), e1, Option.bind_some]
    dsimp only
    rw [e2, Option.bind_some]
    dsimp only
    have hd : (dflt K.point) = (⟨0, 0⟩ : Point) := rfl
    rw [hd, Int.toNat_natCast, w1, w2, w3, if_pos (show decide (c.length + [_].length ≤ lim) = true by simp [lim]; omega), mx_eq]
    refine curve_loop l n fl p2 _ k2 ⟨?_, ?_, ?_⟩ (by simp; omega) (by omega)
    · simp; omega
    · intro i hi
      have hi' : i < c.length + 1 := by simpa using hi
      by_cases hlt : i < c.length
      · rw [getD_append_lt hlt]
        exact hc.bound i hlt
      · have : i = c.length := by omega
        subst this
        rw [getD_append_len]
        dsimp only
        omega
    · intro i hi
      have hi' : i + 1 < c.length + 1 := by simpa using hi
      by_cases hlt : i + 1 < c.length
      · rw [getD_append_lt hlt, getD_append_lt (by omega)]
        exact hc.rise i hlt
      · have : i + 1 = c.length := by omega
        rw [this, getD_append_len, getD_append_lt (by omega)]
        have hi2 : i = c.length - 1 := by omega
        rw [hi2]
        dsimp only
        omega
theorem curve_ok {l : List Int} {p : Int} (h : cok l p = true) : ∃ c q, o114 l p = some (c, q) ∧ CB c ∧ cok l q = true := by
  obtain ⟨v1, p1, e1, a1, b1, k1⟩ := range_ok (lo := -20) (hi := 10) h (by omega) (by omega) (by omega)
  obtain ⟨v2, p2, e2, a2, b2, k2⟩ := range_ok (lo := 500) (hi := 3000) k1 (by omega) (by omega) (by omega)
  obtain ⟨v3, p3, e3, a3, b3, k3⟩ := next_ok (n := 4) k2 (by omega)
  obtain ⟨n, rfl⟩ : ∃ n : Nat, v3 = n := ⟨v3.toNat, by omega⟩
  obtain ⟨c, q, e4, hc, hq⟩ := curve_loop l n 9 p3 [⟨v1, v2⟩] k3 ⟨⟨by simp, by simp⟩, fun i hi => by
    have : i = 0 := by simp at hi; omega
    subst this
    simp
    omega, fun i hi => by simp at hi⟩ (by simp; omega) (by omega)
  unfold o114
  rw [h114_eq, e1, Option.bind_some]
  dsimp only
  rw [e2, Option.bind_some]
  dsimp only
  rw [e3, Option.bind_some]
  dsimp only
  rw [e4, Option.bind_some]
  exact ⟨c, q, by simp [decCurve, slO], hc, hq⟩
end Go.Proofs.Ytipfipnhgpbceaa.Sx
/- Doors that are made; spans about flows (plain theorems). -/

set_option linter.unusedVariables false
set_option linter.unusedSimpArgs false
set_option maxRecDepth 100000
namespace Go.Proofs.Ytipfipnhgpbceaa.Sx
open Go Go.RowKit
/-- A door's resistances: they fall. -/
structure DB (d : Door) (road : Int) : Prop where
  road : d.road = road
  other : d.other = -1
  len : 2 ≤ d.rests.length ∧ d.rests.length ≤ 4
  bound : ∀ i, i < d.rests.length → 200 - 60 * (i : Int) ≤ d.rests.getD i 0 ∧ d.rests.getD i 0 ≤ 900
  fall : ∀ i, i + 1 < d.rests.length → d.rests.getD (i + 1) 0 < d.rests.getD i 0
noncomputable def l115 : List (FuncId × Spec) := [(32, c32)]
def k115 : Code → Keep := keepOf [(3, ⟨[0, 4, 5, 6], [], []⟩)]
noncomputable def h115_0 (fl : Nat) (t6 : Int) (m0_0 : List Int) (m0_1 : Int) (m1_0 : Int) (m1_1 : Int) (m2_0 : Int) (m2_1 : Int) (m3 : List Int) : Option (AV × List Ob) := (evalH (env l115) Try.f115 k115 1 fl (stkF Try.f115 [1, 1, 0, 1, 0]) ⟨[.one (.ptr 0 0), .one (.undef), .one (.undef), .one (.undef), .one (.ptr 1 0), .one (.ptr 2 0), .one (.int .i64 t6), .one (.undef), .one (.undef), .one (.undef), .one (.undef), .one (.undef), .one (.undef), .one (.undef), .one (.undef), .one (.undef), .one (.undef), .one (.undef), .one (.undef), .one (.undef), .one (.undef), .one (.undef), .one (.undef), .one (.undef), .one (.undef), .one (.undef), .one (.undef), .one (.undef), .one (.undef), .one (.undef), .one (.undef), .one (.undef), .one (.undef), .one (.undef), .one (.undef), .one (.undef)], [((0, 0), some (.cell (.vec false .u8 m0_0))), ((0, 1), some (.cell (.int .i64 m0_1))), ((1, 0), some (.cell (.int .i64 m1_0))), ((1, 1), some (.cell (.int .i64 m1_1))), ((1, 2), some (.cell (.nils))), ((2, 0), some (.cell (.int .i64 m2_0))), ((2, 1), some (.cell (.int .i64 m2_1))), ((2, 2), some (.cell (.row 3))), ((3, 0), some (.rows .int m3))], 4⟩).den
noncomputable def h115 (fl : Nat) (a : Int) (l : List Int) (p : Int) : Option (AV × List Ob) := (evalF (env l115) Try.f115 k115 fl [.one (.ptr 0 0), .one (.int .i64 a)] [.box [.vec false .u8 l, .int .i64 p]]).den
theorem h115_eq (fl : Nat) (a : Int) (l : List Int) (p : Int) : h115 (fl + 1) a l p =
    (rangeO l p 200 900).bind fun x2 =>
    (rangeO l x2.snd 1 3).bind fun x3 =>
      h115_0 fl x3.fst l x3.snd 0 0 a (-1) [x2.fst] := by kernel_rfl
theorem h115_0_eq (fl : Nat) (t6 : Int) (m0_0 : List Int) (m0_1 : Int) (m1_0 : Int) (m1_1 : Int) (m2_0 : Int) (m2_1 : Int) (m3 : List Int) : h115_0 (fl + 1) t6 m0_0 m0_1 m1_0 m1_1 m2_0 m2_1 m3 =
    if (decide (t6 > 0)) = true then if (idx m3.length (IntKind.i64.wrap ((↑m3.length : Int) - 1))) = true then (rangeO m0_0 m0_1 1 60).bind fun x4 =>
        if (decide ((m3).length + ([mx 0 (IntKind.i64.wrap (m3.getD (IntKind.i64.wrap ((↑m3.length : Int) - 1)).toNat (dflt K.int) - x4.fst))]).length ≤ lim)) = true then h115_0 fl (IntKind.i64.wrap (t6 - 1)) m0_0 x4.snd m1_0 m1_1 m2_0 m2_1 (m3 ++ [mx 0 (IntKind.i64.wrap (m3.getD (IntKind.i64.wrap ((↑m3.length : Int) - 1)).toNat (dflt K.int) - x4.fst))])
          else none
      else none
    else some (.agg [.int .i64 m2_0, .int .i64 m2_1, .row 1], [.box [.vec false .u8 m0_0, .int .i64 m0_1], .rows .int m3]) := by kernel_rfl
def decDoor (l : List Int) : AV × List Ob → Option (Door × Int)
  | (.agg [.int .i64 a, .int .i64 b, s], .box [.vec false .u8 l', .int .i64 p] :: os) => if l' = l then (match slO .int 1 (.box [.vec false .u8 l', .int .i64 p] :: os) s with | some d => some (⟨a, b, d⟩, p) | none => none) else none
  | _ => none
theorem decDoor_ok {l : List Int} {y : AV × List Ob} {x : Door × Int} (h : decDoor l y = some x) : [Ob.box [.vec false .u8 l, .int .i64 x.2]] = y.2.take 1 ∧ TA y.2 1 y.1 (.agg [.int .i64 x.1.road, .int .i64 x.1.other, .vec false .int x.1.rests]) := by
  unfold decDoor at h
  split at h
  · split at h
    · rename_i hl
      subst hl
      split at h
      · rename_i d hd
        cases h
        exact ⟨rfl, .agg _ _ ⟨.same _, .same _, slO_ok hd, trivial⟩⟩
      · cases h
    · cases h
  · cases h
noncomputable def o115 (a : Int) (l : List Int) (p : Int) : Option (Door × Int) := (h115 10 a l p).bind (decDoor l)
noncomputable def c115 : Spec := ⟨false, fun av ob => match av, ob with
  | [.one (.ptr 0 0), .one (.int .i64 a)], [.box [.vec false .u8 l, .int .i64 p]] => .call (o115 a l p) fun x => .ret (.agg [.int .i64 x.1.road, .int .i64 x.1.other, .vec false .int x.1.rests], [.box [.vec false .u8 l, .int .i64 x.2]])
  | _, _ => .fail⟩
theorem f115 : FnOK Try.prog 115 := fnOK_of Try.func115 rfl (by kernel_rfl)
theorem pc115 : SpecOK Try.prog 115 c115 := by
  refine spec_thaw (fun av ob r os hrn => ?_) (machS_ok (env_ok (l := l115) ⟨⟨pc32, f32⟩, trivial⟩) mixed_ok Try.func115 k115 (fun _ _ => 10) false)
  simp only [c115] at hrn
  split at hrn
  · rename_i a l p
    obtain ⟨x, hx, hr⟩ := Option.bind_eq_some_iff.1 hrn
    cases hr
    obtain ⟨y, hy, hd⟩ := Option.bind_eq_some_iff.1 hx
    unfold h115 at hy
    obtain ⟨d1, d2⟩ := decDoor_ok hd
    exact ⟨y.1, y.2, by rw [machS_run]; exact hy, d1, d2⟩
  · cases hrn
structure RestB (c : List Int) : Prop where
  len : 1 ≤ c.length ∧ c.length ≤ 4
  bound : ∀ i, i < c.length → 200 - 60 * (i : Int) ≤ c.getD i 0 ∧ c.getD i 0 ≤ 900
  fall : ∀ i, i + 1 < c.length → c.getD (i + 1) 0 < c.getD i 0
theorem door_loop (l : List Int) (a : Int) : ∀ (n fl : Nat) (p : Int) (c : List Int), cok l p = true → RestB c → c.length + n ≤ 4 → n < fl → ∃ c' q, h115_0 fl n l p 0 0 a (-1) c = some (.agg [.int .i64 a, .int .i64 (-1), .row 1], [.box [.vec false .u8 l, .int .i64 q], .rows .int c']) ∧ RestB c' ∧ c'.length = c.length + n ∧ cok l q = true
  | 0, fl, p, c, hk, hc, hn, hf => by
    obtain ⟨fl, rfl⟩ : ∃ q, fl = q + 1 := ⟨fl - 1, by omega⟩
    exact ⟨c, p, by rw [h115_0_eq, if_neg (by simp)], hc, rfl, hk⟩
  | n + 1, fl, p, c, hk, hc, hn, hf => by
    obtain ⟨fl, rfl⟩ : ∃ q, fl = q + 1 := ⟨fl - 1, by omega⟩
    obtain ⟨v1, p1, e1, a1, b1, k1⟩ := range_ok (lo := 1) (hi := 60) hk (by omega) (by omega) (by omega)
    have hl1 := hc.len
    have w0 : IntKind.i64.wrap ((c.length : Int) - 1) = ((c.length - 1 : Nat) : Int) := by rw [wid (by omega) (by omega)]; omega
    have hB := hc.bound (c.length - 1) (by omega)
    have w1 : IntKind.i64.wrap (c.getD (c.length - 1) 0 - v1) = c.getD (c.length - 1) 0 - v1 := wid (by omega) (by omega)
    have w3 : IntKind.i64.wrap (((n + 1 : Nat) : Int) - 1) = (n : Int) := by rw [wid (by omega) (by omega)]; omega
    rw [h115_0_eq, if_pos (show decide (((n + 1 : Nat) : Int) > 0) = true by simp only [decide_eq_true_eq]; omega), w0, if_pos (idx_nat (by omega)), e1, Option.bind_some]
    dsimp only
    have hd : (dflt K.int) = (0 : Int) := rfl
    rw [hd, Int.toNat_natCast, w1, w3, if_pos (show decide (c.length + [_].length ≤ lim) = true by simp [lim]; omega), mx_eq]
    have hm : max 0 (c.getD (c.length - 1) 0 - v1) = c.getD (c.length - 1) 0 - v1 := by omega
    rw [hm]
    obtain ⟨c', q, g1, g2, g3, g4⟩ := door_loop l a n fl p1 (c ++ [c.getD (c.length - 1) 0 - v1]) k1 ⟨by simp; omega, fun i hi => by
      have hi' : i < c.length + 1 := by simpa using hi
      by_cases hlt : i < c.length
      · rw [getD_append_lt hlt]
        exact hc.bound i hlt
      · have : i = c.length := by omega
        subst this
        rw [getD_append_len]
        omega, fun i hi => by
      have hi' : i + 1 < c.length + 1 := by simpa using hi
      by_cases hlt : i + 1 < c.length
      · rw [getD_append_lt hlt, getD_append_lt (by omega)]
        exact hc.fall i hlt
      · have : i + 1 = c.length := by omega
        rw [this, getD_append_len, getD_append_lt (by omega)]
        have hi2 : i = c.length - 1 := by omega
        rw [hi2]
        omega⟩ (by simp; omega) (by omega)
    exact ⟨c', q, g1, g2, by rw [g3]; simp; omega, g4⟩
theorem door_ok {l : List Int} {p : Int} (a : Int) (h : cok l p = true) : ∃ d q, o115 a l p = some (d, q) ∧ DB d a ∧ cok l q = true := by
  obtain ⟨v1, p1, e1, a1, b1, k1⟩ := range_ok (lo := 200) (hi := 900) h (by omega) (by omega) (by omega)
  obtain ⟨v2, p2, e2, a2, b2, k2⟩ := range_ok (lo := 1) (hi := 3) k1 (by omega) (by omega) (by omega)
  obtain ⟨n, rfl⟩ : ∃ n : Nat, v2 = n := ⟨v2.toNat, by omega⟩
  obtain ⟨c, q, e4, hc, hl, hq⟩ := door_loop l a n 9 p2 [v1] k2 ⟨⟨by simp, by simp⟩, fun i hi => by
    have : i = 0 := by simp at hi; omega
    subst this
    simp
    omega, fun i hi => by simp at hi⟩ (by simp; omega) (by omega)
  unfold o115
  rw [h115_eq, e1, Option.bind_some]
  dsimp only
  rw [e2, Option.bind_some]
  dsimp only
  rw [e4, Option.bind_some]
  have hl2 : c.length = 1 + n := by simpa using hl
  exact ⟨⟨a, -1, c⟩, q, by simp [decDoor, slO], ⟨rfl, rfl, ⟨by dsimp only; omega, by dsimp only; omega⟩, hc.bound, hc.fall⟩, hq⟩

/-! ### Spans about flows -/
noncomputable def l45 : List (FuncId × Spec) := [(46, c46)]
def k45 : Code → Keep := keepOf [(3, ⟨[0, 1, 5, 6], [(5, .span)], []⟩)]
noncomputable def h45_0 (fl : Nat) (t1b : Bool) (t1 : List Int) (t6 : Int) (m0_0 : List Int) (m0_1 : Int) (m1 : List Span) : Option (AV × List Ob) := (evalH (env l45) Try.f45 k45 1 fl (stkF Try.f45 [1, 1, 0, 1, 0]) ⟨[.one (.ptr 0 0), .one (.vec t1b .int t1), .one (.undef), .one (.undef), .one (.undef), .one (.row 1), .one (.int .i64 t6), .one (.undef), .one (.undef), .one (.undef), .one (.undef), .one (.undef), .one (.undef), .one (.undef), .one (.undef), .one (.undef), .one (.undef), .one (.undef), .one (.undef), .one (.undef), .one (.undef), .one (.undef), .one (.undef), .one (.undef), .one (.undef), .one (.undef), .one (.undef), .one (.undef), .one (.undef), .one (.undef), .one (.undef), .one (.undef)], [((0, 0), some (.cell (.vec false .u8 m0_0))), ((0, 1), some (.cell (.int .i64 m0_1))), ((1, 0), some (.rows .span m1))], 2⟩).den
noncomputable def h45 (fl : Nat) (b1 : Bool) (r : List Int) (l : List Int) (p : Int) : Option (AV × List Ob) := (evalF (env l45) Try.f45 k45 fl [.one (.ptr 0 0), .one (.vec b1 .int r)] [.box [.vec false .u8 l, .int .i64 p]]).den
theorem h45_eq (fl : Nat) (b1 : Bool) (r : List Int) (l : List Int) (p : Int) : h45 (fl + 1) b1 r l p =
    h45_0 fl b1 r 0 l p [] := by kernel_rfl
theorem h45_0_eq (fl : Nat) (t1b : Bool) (t1 : List Int) (t6 : Int) (m0_0 : List Int) (m0_1 : Int) (m1 : List Span) : h45_0 (fl + 1) t1b t1 t6 m0_0 m0_1 m1 =
    if (decide (t6 < (↑t1.length : Int))) = true then if (idx t1.length t6) = true then (nextO m0_0 m0_1 12).bind fun x4 =>
        if (idx t1.length t6) = true then (nextO m0_0 x4.snd 12).bind fun x6 =>
            if (decide ((m1).length + ([{ lo := IntKind.i64.wrap (t1.getD t6.toNat (dflt K.int) - x4.fst), hi := IntKind.i64.wrap (t1.getD t6.toNat (dflt K.int) + x6.fst) : Span }]).length ≤ lim)) = true then h45_0 fl t1b t1 (IntKind.i64.wrap (t6 + 1)) m0_0 x6.snd (m1 ++ [{ lo := IntKind.i64.wrap (t1.getD t6.toNat (dflt K.int) - x4.fst), hi := IntKind.i64.wrap (t1.getD t6.toNat (dflt K.int) + x6.fst) : Span }])
              else none
          else none
      else none
    else some (.one (.row 1), [.box [.vec false .u8 m0_0, .int .i64 m0_1], .rows .span m1]) := by kernel_rfl
def decSpans (l : List Int) : AV × List Ob → Option (List Span × Int)
  | (.one s, .box [.vec false .u8 l', .int .i64 p] :: os) => if l' = l then (match slO .span 1 (.box [.vec false .u8 l', .int .i64 p] :: os) s with | some d => some (d, p) | none => none) else none
  | _ => none
theorem decSpans_ok {l : List Int} {y : AV × List Ob} {x : List Span × Int} (h : decSpans l y = some x) : [Ob.box [.vec false .u8 l, .int .i64 x.2]] = y.2.take 1 ∧ TA y.2 1 y.1 (.one (.vec false .span x.1)) := by
  unfold decSpans at h
  split at h
  · split at h
    · rename_i hl
      subst hl
      split at h
      · rename_i d hd
        cases h
        exact ⟨rfl, .one _ _ (slO_ok hd) (slO_undef hd)⟩
      · cases h
    · cases h
  · cases h
noncomputable def o45 (b1 : Bool) (r : List Int) (l : List Int) (p : Int) : Option (List Span × Int) := (h45 1000 b1 r l p).bind (decSpans l)
noncomputable def c45 : Spec := ⟨false, fun av ob => match av, ob with
  | [.one (.ptr 0 0), .one (.vec b1 .int r)], [.box [.vec false .u8 l, .int .i64 p]] => .call (o45 b1 r l p) fun x => .ret (.one (.vec false .span x.1), [.box [.vec false .u8 l, .int .i64 x.2]])
  | _, _ => .fail⟩
theorem f45 : FnOK Try.prog 45 := fnOK_of Try.func45 rfl (by kernel_rfl)
theorem pc45 : SpecOK Try.prog 45 c45 := by
  refine spec_thaw (fun av ob r os hrn => ?_) (machS_ok (env_ok (l := l45) ⟨⟨pc46, f46⟩, trivial⟩) mixed_ok Try.func45 k45 (fun _ _ => 1000) false)
  simp only [c45] at hrn
  split at hrn
  · rename_i b1 r l p
    obtain ⟨x, hx, hr⟩ := Option.bind_eq_some_iff.1 hrn
    cases hr
    obtain ⟨y, hy, hd⟩ := Option.bind_eq_some_iff.1 hx
    unfold h45 at hy
    obtain ⟨d1, d2⟩ := decSpans_ok hd
    exact ⟨y.1, y.2, by rw [machS_run]; exact hy, d1, d2⟩
  · cases hrn
/-- A span that contains a flow, within 11. -/
def About (s : Span) (q : Int) : Prop := q - 11 ≤ s.lo ∧ s.lo ≤ q ∧ q ≤ s.hi ∧ s.hi ≤ q + 11
theorem spans_loop (b : Bool) (r l : List Int) (hr : r.length ≤ 500) (hb : ∀ x ∈ r, -1000000 ≤ x ∧ x ≤ 1000000) : ∀ (d fl i : Nat) (p : Int) (c : List Span), r.length - i = d → i ≤ r.length → d < fl → cok l p = true → c.length = i → (∀ j, j < i → About (c.getD j ⟨0, 0⟩) (r.getD j 0)) →
    ∃ c' q, h45_0 fl b r i l p c = some (.one (.row 1), [.box [.vec false .u8 l, .int .i64 q], .rows .span c']) ∧ c'.length = r.length ∧ (∀ j, j < r.length → About (c'.getD j ⟨0, 0⟩) (r.getD j 0)) ∧ cok l q = true
  | d, fl, i, p, c, hd, hi, hf, hk, hc, hab => by
    obtain ⟨fl, rfl⟩ : ∃ q, fl = q + 1 := ⟨fl - 1, by omega⟩
    rw [h45_0_eq]
    by_cases hlt : i < r.length
    · obtain ⟨v1, p1, e1, a1, b1, k1⟩ := next_ok (n := 12) hk (by omega)
      obtain ⟨v2, p2, e2, a2, b2, k2⟩ := next_ok (n := 12) k1 (by omega)
      have hd0 : (dflt K.int) = (0 : Int) := rfl
      have hx : -1000000 ≤ r.getD i 0 ∧ r.getD i 0 ≤ 1000000 := by
        rw [List.getD_eq_getElem?_getD, List.getElem?_eq_getElem hlt]
        exact hb _ (List.getElem_mem hlt)
      have w1 : IntKind.i64.wrap (r.getD i 0 - v1) = r.getD i 0 - v1 := wid (by omega) (by omega)
      have w2 : IntKind.i64.wrap (r.getD i 0 + v2) = r.getD i 0 + v2 := wid (by omega) (by omega)
      rw [if_pos (lt_nat hlt), if_pos (idx_nat hlt), e1, Option.bind_some]
      dsimp only
      rw [if_pos (idx_nat hlt), e2, Option.bind_some]
      dsimp only
      rw [hd0, Int.toNat_natCast, w1, w2, if_pos (show decide (c.length + [_].length ≤ lim) = true by simp [lim]; omega), wr_succ (by omega)]
      cases d with
      | zero => omega
      | succ d =>
        refine spans_loop b r l hr hb d fl (i + 1) p2 _ (by omega) (by omega) (by omega) k2 (by simp; omega) (fun j hj => ?_)
        by_cases hj2 : j < i
        · rw [getD_append_lt (by omega)]
          exact hab j hj2
        · have : j = c.length := by omega
          subst this
          rw [getD_append_len, hc]
          unfold About
          dsimp only
          omega
    · rw [if_neg (nlt_nat hlt)]
      exact ⟨c, p, rfl, by omega, fun j hj => hab j (by omega), hk⟩
theorem spans_ok {l : List Int} {p : Int} (b : Bool) {r : List Int} (hr : r.length ≤ 500) (hb : ∀ x ∈ r, -1000000 ≤ x ∧ x ≤ 1000000) (h : cok l p = true) : ∃ c q, o45 b r l p = some (c, q) ∧ c.length = r.length ∧ (∀ j, j < r.length → About (c.getD j ⟨0, 0⟩) (r.getD j 0)) ∧ cok l q = true := by
  obtain ⟨c, q, e, h1, h2, h3⟩ := spans_loop b r l hr hb r.length 999 0 p [] (by omega) (by omega) (by omega) h rfl (fun j hj => by omega)
  unfold o45
  rw [h45_eq]
  rw [show (0 : Int) = ((0 : Nat) : Int) from rfl, e, Option.bind_some]
  exact ⟨c, q, by simp [decSpans, slO], h1, h2, h3⟩
end Go.Proofs.Ytipfipnhgpbceaa.Sx
/- What doors resist and fans give (plain theorems). -/

set_option linter.unusedVariables false
set_option linter.unusedSimpArgs false
set_option maxRecDepth 100000
namespace Go.Proofs.Ytipfipnhgpbceaa.Sx
open Go Go.RowKit
def decSpan : AV × List Ob → Option Span
  | (.agg [.int .i64 a, .int .i64 b], []) => some ⟨a, b⟩
  | _ => none
theorem decSpan_ok {y : AV × List Ob} {x : Span} (h : decSpan y = some x) : ([] : List Ob) = y.2.take 0 ∧ TA y.2 0 y.1 (.agg [.int .i64 x.lo, .int .i64 x.hi]) := by
  unfold decSpan at h
  split at h
  · cases h
    exact ⟨rfl, .agg _ _ (all2_tc_refl _)⟩
  · cases h
noncomputable def l116 : List (FuncId × Spec) := []
def k116 : Code → Keep := keepOf [(7, ⟨[2, 4, 5, 6], [], []⟩)]
noncomputable def h116_0 (fl : Nat) (t6 : Int) (m0_0 : Int) (m0_1 : Int) (m0_2 : List Int) (m1_0 : Int) (m1_1 : Int) (m2_0 : Int) (m2_1 : Int) : Option (AV × List Ob) := (evalH (env l116) Try.f116 k116 0 fl (stkF Try.f116 [1, 1, 1, 1, 0, 1, 0]) ⟨[.one (.undef), .one (.undef), .one (.ptr 0 0), .one (.undef), .one (.ptr 1 0), .one (.ptr 2 0), .one (.int .i64 t6), .one (.undef), .one (.undef), .one (.undef), .one (.undef), .one (.undef), .one (.undef), .one (.undef), .one (.undef), .one (.undef), .one (.undef), .one (.undef), .one (.undef), .one (.undef), .one (.undef), .one (.undef), .one (.undef), .one (.undef), .one (.undef), .one (.undef), .one (.undef), .one (.undef), .one (.undef), .one (.undef), .one (.undef), .one (.undef), .one (.undef), .one (.undef), .one (.undef), .one (.undef), .one (.undef), .one (.undef), .one (.undef), .one (.undef), .one (.undef), .one (.undef), .one (.undef), .one (.undef), .one (.undef), .one (.undef), .one (.undef), .one (.undef), .one (.undef), .one (.undef), .one (.undef), .one (.undef), .one (.undef), .one (.undef), .one (.undef), .one (.undef), .one (.undef), .one (.undef), .one (.undef), .one (.undef), .one (.undef), .one (.undef), .one (.undef), .one (.undef), .one (.undef), .one (.undef), .one (.undef), .one (.undef), .one (.undef), .one (.undef), .one (.undef)], [((0, 0), some (.cell (.int .i64 m0_0))), ((0, 1), some (.cell (.int .i64 m0_1))), ((0, 2), some (.cell (.vec false .int m0_2))), ((1, 0), some (.cell (.int .i64 m1_0))), ((1, 1), some (.cell (.int .i64 m1_1))), ((2, 0), some (.cell (.int .i64 m2_0))), ((2, 1), some (.cell (.int .i64 m2_1)))], 3⟩).den
noncomputable def h116 (fl : Nat) (a b : Int) (r : List Int) (n : Int) : Option (AV × List Ob) := (evalF (env l116) Try.f116 k116 fl [.agg [.int .i64 a, .int .i64 b, .vec false .int r], .one (.int .i64 n)] []).den
theorem h116_eq (fl : Nat) (a b : Int) (r : List Int) (n : Int) : h116 (fl + 1) a b r n =
    if ((↑r.length : Int) == 0) = true then some (.agg [.int .i64 0, .int .i64 0], [])
    else if (decide (n < -1)) = true then some (.agg [.int .i64 0, .int .i64 0], [])
      else if (decide (n ≥ (↑r.length : Int))) = true then some (.agg [.int .i64 0, .int .i64 0], [])
        else if (decide (n ≥ 0)) = true then if (idx r.length n) = true then if (idx r.length n) = true then some (.agg [.int .i64 (r.getD n.toNat (dflt K.int)), .int .i64 (r.getD n.toNat (dflt K.int))], [])
              else none
            else none
          else if (idx r.length 0) = true then if (idx r.length 0) = true then h116_0 fl 0 a b r 0 0 (r.getD (Int.toNat 0) (dflt K.int)) (r.getD (Int.toNat 0) (dflt K.int))
              else none
            else none := by kernel_rfl
theorem h116_0_eq (fl : Nat) (t6 : Int) (m0_0 : Int) (m0_1 : Int) (m0_2 : List Int) (m1_0 : Int) (m1_1 : Int) (m2_0 : Int) (m2_1 : Int) : h116_0 (fl + 1) t6 m0_0 m0_1 m0_2 m1_0 m1_1 m2_0 m2_1 =
    if (decide (t6 < (↑m0_2.length : Int))) = true then if (idx m0_2.length t6) = true then if (idx m0_2.length t6) = true then h116_0 fl (IntKind.i64.wrap (t6 + 1)) m0_0 m0_1 m0_2 m1_0 m1_1 (mn m2_0 (m0_2.getD t6.toNat (dflt K.int))) (mx m2_1 (m0_2.getD t6.toNat (dflt K.int)))
        else none
      else none
    else some (.agg [.int .i64 m2_0, .int .i64 m2_1], []) := by kernel_rfl
noncomputable def o116 (a : Int) (b : Int) (r : List Int) (n : Int) : Option (Span) := (h116 100 a b r n).bind (decSpan)
noncomputable def c116 : Spec := ⟨false, fun av ob => match av, ob with
  | [.agg [.int .i64 a, .int .i64 b, .vec false .int r], .one (.int .i64 n)], [] => .call (o116 a b r n) fun x => .ret (.agg [.int .i64 x.lo, .int .i64 x.hi], [])
  | _, _ => .fail⟩
theorem f116 : FnOK Try.prog 116 := fnOK_of Try.func116 rfl (by kernel_rfl)
theorem pc116 : SpecOK Try.prog 116 c116 := by
  refine spec_thaw (fun av ob r os hrn => ?_) (machS_ok (env_ok (l := l116) trivial) mixed_ok Try.func116 k116 (fun _ _ => 100) false)
  simp only [c116] at hrn
  split at hrn
  · rename_i a b r n
    obtain ⟨x, hx, hr⟩ := Option.bind_eq_some_iff.1 hrn
    cases hr
    obtain ⟨y, hy, hd⟩ := Option.bind_eq_some_iff.1 hx
    unfold h116 at hy
    obtain ⟨d1, d2⟩ := decSpan_ok hd
    exact ⟨y.1, y.2, by rw [machS_run]; exact hy, d1, d2⟩
  · cases hrn
theorem rest_known (a b : Int) {r : List Int} {n : Int} (h0 : 0 ≤ n) (h1 : n < r.length) : o116 a b r n = some ⟨r.getD n.toNat 0, r.getD n.toNat 0⟩ := by
  unfold o116
  have i1 : idx r.length n = true := idx_of h0 h1
  rw [h116_eq, if_neg (by simp; intro e; subst e; simp at h1; omega), if_neg (by simp; omega), if_neg (by simp; omega), if_pos (by simp; omega), if_pos i1, if_pos i1]
  rfl
noncomputable def l141 : List (FuncId × Spec) := [(53, s53), (85, s85)]
def k141 : Code → Keep := keepOf [(7, ⟨[1, 2, 4, 6], [], []⟩)]
noncomputable def h141_0 (fl : Nat) (t1 : Int) (t6 : Int) (m0_0 : Int) (m0_1 : Bool) (m0_2 : Bool) (m0_3 : List Point) (m1_0 : Int) (m1_1 : Int) : Option (AV × List Ob) := (evalH (env l141) Try.f141 k141 0 fl (stkF Try.f141 [1, 1, 1, 1, 1, 0, 0]) ⟨[.one (.undef), .one (.int .i64 t1), .one (.ptr 0 0), .one (.undef), .one (.ptr 1 0), .one (.undef), .one (.int .i64 t6), .one (.undef), .one (.undef), .one (.undef), .one (.undef), .one (.undef), .one (.undef), .one (.undef), .one (.undef), .one (.undef), .one (.undef), .one (.undef), .one (.undef), .one (.undef), .one (.undef), .one (.undef), .one (.undef), .one (.undef), .one (.undef), .one (.undef), .one (.undef), .one (.undef), .one (.undef), .one (.undef), .one (.undef), .one (.undef), .one (.undef), .one (.undef), .one (.undef), .one (.undef), .one (.undef), .one (.undef), .one (.undef), .one (.undef), .one (.undef), .one (.undef), .one (.undef), .one (.undef), .one (.undef), .one (.undef), .one (.undef), .one (.undef), .one (.undef), .one (.undef), .one (.undef), .one (.undef), .one (.undef), .one (.undef), .one (.undef), .one (.undef), .one (.undef), .one (.undef), .one (.undef), .one (.undef), .one (.undef), .one (.undef), .one (.undef), .one (.undef), .one (.undef), .one (.undef), .one (.undef), .one (.undef), .one (.undef), .one (.undef), .one (.undef), .one (.undef), .one (.undef), .one (.undef), .one (.undef), .one (.undef), .one (.undef), .one (.undef), .one (.undef), .one (.undef), .one (.undef), .one (.undef), .one (.undef), .one (.undef), .one (.undef), .one (.undef), .one (.undef), .one (.undef), .one (.undef), .one (.undef), .one (.undef), .one (.undef), .one (.undef), .one (.undef), .one (.undef), .one (.undef), .one (.undef), .one (.undef), .one (.undef), .one (.undef), .one (.undef), .one (.undef), .one (.undef), .one (.undef), .one (.undef), .one (.undef)], [((0, 0), some (.cell (.int .i64 m0_0))), ((0, 1), some (.cell (.bool m0_1))), ((0, 2), some (.cell (.bool m0_2))), ((0, 3), some (.cell (.vec false .point m0_3))), ((1, 0), some (.cell (.int .i64 m1_0))), ((1, 1), some (.cell (.int .i64 m1_1)))], 2⟩).den
noncomputable def h141 (fl : Nat) (a : Int) (b c : Bool) (r : List Point) (n : Int) : Option (AV × List Ob) := (evalF (env l141) Try.f141 k141 fl [.agg [.int .i64 a, .bool b, .bool c, .vec false .point r], .one (.int .i64 n)] []).den
theorem h141_eq (fl : Nat) (a : Int) (b c : Bool) (r : List Point) (n : Int) : h141 (fl + 1) a b c r n =
    if (idx r.length 0) = true then if (decide (n ≤ (r.getD (Int.toNat 0) (dflt K.point)).flow)) = true then if (idx r.length 0) = true then if (idx r.length 0) = true then some (.agg [.int .i64 ((r.getD (Int.toNat 0) (dflt K.point)).pressure), .int .i64 ((r.getD (Int.toNat 0) (dflt K.point)).pressure)], [])
          else none
        else none
      else if (idx r.length (IntKind.i64.wrap ((↑r.length : Int) - 1))) = true then if (decide (n ≥ (r.getD (IntKind.i64.wrap ((↑r.length : Int) - 1)).toNat (dflt K.point)).flow)) = true then if (idx r.length (IntKind.i64.wrap ((↑r.length : Int) - 1))) = true then if (idx r.length (IntKind.i64.wrap ((↑r.length : Int) - 1))) = true then some (.agg [.int .i64 ((r.getD (IntKind.i64.wrap ((↑r.length : Int) - 1)).toNat (dflt K.point)).pressure), .int .i64 ((r.getD (IntKind.i64.wrap ((↑r.length : Int) - 1)).toNat (dflt K.point)).pressure)], [])
              else none
            else none
          else h141_0 fl n 0 a b c r 0 0
        else none
    else none := by kernel_rfl
theorem h141_0_eq (fl : Nat) (t1 : Int) (t6 : Int) (m0_0 : Int) (m0_1 : Bool) (m0_2 : Bool) (m0_3 : List Point) (m1_0 : Int) (m1_1 : Int) : h141_0 (fl + 1) t1 t6 m0_0 m0_1 m0_2 m0_3 m1_0 m1_1 =
    if (idx m0_3.length (IntKind.i64.wrap (t6 + 1))) = true then if (decide ((m0_3.getD (IntKind.i64.wrap (t6 + 1)).toNat (dflt K.point)).flow ≤ t1)) = true then h141_0 fl t1 (IntKind.i64.wrap (t6 + 1)) m0_0 m0_1 m0_2 m0_3 m1_0 m1_1
      else if (idx m0_3.length t6) = true then if (idx m0_3.length (IntKind.i64.wrap (t6 + 1))) = true then if (IntKind.i64.wrap ((m0_3.getD (IntKind.i64.wrap (t6 + 1)).toNat (dflt K.point)).flow - (m0_3.getD t6.toNat (dflt K.point)).flow) != 0) = true then if (IntKind.i64.wrap ((m0_3.getD (IntKind.i64.wrap (t6 + 1)).toNat (dflt K.point)).flow - (m0_3.getD t6.toNat (dflt K.point)).flow) != 0) = true then some (.agg [.int .i64 (IntKind.i64.wrap ((m0_3.getD t6.toNat (dflt K.point)).pressure + flo (IntKind.i64.wrap (IntKind.i64.wrap ((m0_3.getD (IntKind.i64.wrap (t6 + 1)).toNat (dflt K.point)).pressure - (m0_3.getD t6.toNat (dflt K.point)).pressure) * IntKind.i64.wrap (t1 - (m0_3.getD t6.toNat (dflt K.point)).flow))) (IntKind.i64.wrap ((m0_3.getD (IntKind.i64.wrap (t6 + 1)).toNat (dflt K.point)).flow - (m0_3.getD t6.toNat (dflt K.point)).flow)))), .int .i64 (IntKind.i64.wrap ((m0_3.getD t6.toNat (dflt K.point)).pressure + cei (IntKind.i64.wrap (IntKind.i64.wrap ((m0_3.getD (IntKind.i64.wrap (t6 + 1)).toNat (dflt K.point)).pressure - (m0_3.getD t6.toNat (dflt K.point)).pressure) * IntKind.i64.wrap (t1 - (m0_3.getD t6.toNat (dflt K.point)).flow))) (IntKind.i64.wrap ((m0_3.getD (IntKind.i64.wrap (t6 + 1)).toNat (dflt K.point)).flow - (m0_3.getD t6.toNat (dflt K.point)).flow))))], [])
              else none
            else none
          else none
        else none
    else none := by kernel_rfl
noncomputable def o141 (a : Int) (b : Bool) (c : Bool) (r : List Point) (n : Int) : Option (Span) := (h141 100 a b c r n).bind (decSpan)
noncomputable def c141 : Spec := ⟨false, fun av ob => match av, ob with
  | [.agg [.int .i64 a, .bool b, .bool c, .vec false .point r], .one (.int .i64 n)], [] => .call (o141 a b c r n) fun x => .ret (.agg [.int .i64 x.lo, .int .i64 x.hi], [])
  | _, _ => .fail⟩
theorem f141 : FnOK Try.prog 141 := fnOK_of Try.func141 rfl (by kernel_rfl)
theorem pc141 : SpecOK Try.prog 141 c141 := by
  refine spec_thaw (fun av ob r os hrn => ?_) (machS_ok (env_ok (l := l141) ⟨⟨p53, f53⟩, ⟨⟨p85, f85⟩, trivial⟩⟩) mixed_ok Try.func141 k141 (fun _ _ => 100) false)
  simp only [c141] at hrn
  split at hrn
  · rename_i a b c r n
    obtain ⟨x, hx, hr⟩ := Option.bind_eq_some_iff.1 hrn
    cases hr
    obtain ⟨y, hy, hd⟩ := Option.bind_eq_some_iff.1 hx
    unfold h141 at hy
    obtain ⟨d1, d2⟩ := decSpan_ok hd
    exact ⟨y.1, y.2, by rw [machS_run]; exact hy, d1, d2⟩
  · cases hrn
theorem flo_gen {x b : Int} (h0 : -4611686018427387904 ≤ x) (h1 : x ≤ 4611686018427387904) (hb : 1 ≤ b) : flo x b = x / b := by
  have hm := Int.mul_tdiv_add_tmod x b
  have hlt := Int.tmod_lt_of_pos x (b := b) (by omega)
  have hgt := Int.lt_tmod_of_pos x (b := b) (by omega)
  have hq : -4611686018427387904 ≤ x.tdiv b ∧ x.tdiv b ≤ 4611686018427387904 := by
    have := Int.natAbs_tdiv_le_natAbs x b
    omega
  unfold flo
  have q1 : wr64 (x.tdiv b) = x.tdiv b := wid (by omega) (by omega)
  have q2 : wr64 (x.tdiv b - 1) = x.tdiv b - 1 := wid (by omega) (by omega)
  rw [q1, q2]
  by_cases c : x.tmod b < 0
  · rw [if_pos c]
    refine ((Int.ediv_emod_unique (show 0 < b by omega) (r := x.tmod b + b)).2 ⟨?_, by omega, by omega⟩).1.symm
    rw [Int.mul_sub]
    omega
  · rw [if_neg c]
    exact ((Int.ediv_emod_unique (show 0 < b by omega) (r := x.tmod b)).2 ⟨by omega, by omega, by omega⟩).1.symm
theorem div_abs {x b : Int} (h0 : -4611686018427387904 ≤ x) (h1 : x ≤ 4611686018427387904) (hb : 1 ≤ b) : -4611686018427387904 ≤ x / b ∧ x / b ≤ 4611686018427387904 := by
  constructor
  · rw [Int.le_ediv_iff_mul_le (by omega)]
    have : -4611686018427387904 * b ≤ -4611686018427387904 * 1 := by omega
    omega
  · by_cases h : 0 ≤ x
    · have := Int.ediv_le_self b h
      omega
    · have : x / b < 0 := Int.ediv_neg_of_neg_of_pos (by omega) (by omega)
      omega
theorem cei_gen {x b : Int} (h0 : -4611686018427387904 ≤ x) (h1 : x ≤ 4611686018427387904) (hb : 1 ≤ b) : cei x b = -((-x) / b) := by
  have e2 : wr64 (0 - x) = -x := by rw [wr64, wid (by omega) (by omega)]; omega
  have hd := div_abs (x := -x) (b := b) (by omega) (by omega) hb
  unfold cei
  rw [e2, flo_gen (by omega) (by omega) hb, wr64, wid (by omega) (by omega)]
  omega
/-- A quotient of what falls from 0 to y over a width, at a place between. -/
theorem slope {u w y : Int} (hw : 1 ≤ w) (hu0 : 0 ≤ u) (huw : u ≤ w) (hy : y ≤ 0) : y ≤ (y * u) / w ∧ (y * u) / w ≤ -((-(y * u)) / w) ∧ -((-(y * u)) / w) ≤ 0 := by
  have h1 : y * w ≤ y * u := Int.mul_le_mul_of_nonpos_left hy huw
  have h2 : y * u ≤ 0 := Int.mul_nonpos_of_nonpos_of_nonneg hy hu0
  generalize y * u = x at *
  refine ⟨(Int.le_ediv_iff_mul_le (by omega)).2 h1, ?_, ?_⟩
  · have h3 : (-x) / w ≤ -(x / w) := by
      refine Int.ediv_le_of_le_mul (by omega) ?_
      have := Int.ediv_mul_le x (b := w) (by omega)
      rw [Int.neg_mul]
      omega
    omega
  · have := Int.ediv_nonneg (a := -x) (b := w) (by omega) (by omega)
    omega
theorem inner_loop (c : List Point) (hc : CB c) (n : Int) (a : Int) (b d : Bool) (hlast : n < (c.getD (c.length - 1) ⟨0, 0⟩).flow) (hn : -1000000 ≤ n ∧ n ≤ 1000000) : ∀ (m fl k : Nat), c.length - k = m → k + 1 < c.length → (c.getD k ⟨0, 0⟩).flow ≤ n → m < fl →
    ∃ lo hi, h141_0 fl n k a b d c 0 0 = some (.agg [.int .i64 lo, .int .i64 hi], []) ∧ 0 ≤ lo ∧ lo ≤ hi ∧ hi ≤ 3000
  | m, fl, k, hm, hk, hf, hfl => by
    obtain ⟨fl, rfl⟩ : ∃ q, fl = q + 1 := ⟨fl - 1, by omega⟩
    have hL := hc.len
    have hd0 : (dflt K.point) = (⟨0, 0⟩ : Point) := rfl
    rw [h141_0_eq, wr_succ (by omega), if_pos (idx_nat hk), hd0]
    simp only [Int.toNat_natCast]
    by_cases h1 : (c.getD (k + 1) ⟨0, 0⟩).flow ≤ n
    · rw [if_pos (by simpa using h1)]
      have hk2 : k + 2 < c.length := by
        by_cases e : k + 2 < c.length
        · exact e
        · have : k + 1 = c.length - 1 := by omega
          rw [this] at h1
          omega
      cases m with
      | zero => omega
      | succ m => exact inner_loop c hc n a b d hlast hn m fl (k + 1) (by omega) (by omega) h1 (by omega)
    · rw [if_neg (by simpa using h1), if_pos (idx_nat (by omega))]
      have hb1 := hc.bound k (by omega)
      have hb2 := hc.bound (k + 1) (by omega)
      have hr := hc.rise k hk
      generalize c.getD k ⟨0, 0⟩ = P at *
      generalize c.getD (k + 1) ⟨0, 0⟩ = Q at *
      have w1 : IntKind.i64.wrap (Q.flow - P.flow) = Q.flow - P.flow := wid (by omega) (by omega)
      have w2 : IntKind.i64.wrap (Q.pressure - P.pressure) = Q.pressure - P.pressure := wid (by omega) (by omega)
      have w3 : IntKind.i64.wrap (n - P.flow) = n - P.flow := wid (by omega) (by omega)
      have hs := slope (u := n - P.flow) (w := Q.flow - P.flow) (y := Q.pressure - P.pressure) (by omega) (by omega) (by omega) (by omega)
      have hx : -3000 * 200 ≤ (Q.pressure - P.pressure) * (n - P.flow) ∧ (Q.pressure - P.pressure) * (n - P.flow) ≤ 0 := by
        have g1 : (P.pressure - Q.pressure) * (n - P.flow) ≤ 3000 * 200 := Int.mul_le_mul (by omega) (by omega) (by omega) (by omega)
        have g2 : 0 ≤ (P.pressure - Q.pressure) * (n - P.flow) := Int.mul_nonneg (by omega) (by omega)
        have g3 : (Q.pressure - P.pressure) * (n - P.flow) = -((P.pressure - Q.pressure) * (n - P.flow)) := by rw [← Int.neg_mul]; congr 1; omega
        omega
      rw [w1, w2, w3]
      generalize hX : (Q.pressure - P.pressure) * (n - P.flow) = X at *
      have w4 : IntKind.i64.wrap X = X := wid (by omega) (by omega)
      rw [w4, if_pos (idx_nat hk), if_pos (by simp; omega), if_pos (by simp; omega), flo_gen (by omega) (by omega) (by omega), cei_gen (by omega) (by omega) (by omega)]
      generalize X / (Q.flow - P.flow) = q1 at *
      generalize (-X) / (Q.flow - P.flow) = q2 at *
      have w5 : IntKind.i64.wrap (P.pressure + q1) = P.pressure + q1 := wid (by omega) (by omega)
      have w6 : IntKind.i64.wrap (P.pressure + -q2) = P.pressure + -q2 := wid (by omega) (by omega)
      rw [w5, w6]
      exact ⟨_, _, rfl, by omega, by omega, by omega⟩
theorem inner_ok {c : List Point} (hc : CB c) (a : Int) (b d : Bool) {n : Int} (hn : -1000000 ≤ n ∧ n ≤ 1000000) : ∃ sp, o141 a b d c n = some sp ∧ 0 ≤ sp.lo ∧ sp.lo ≤ sp.hi ∧ sp.hi ≤ 3000 := by
  have hL := hc.len
  have hd0 : (dflt K.point) = (⟨0, 0⟩ : Point) := rfl
  have i0 : idx c.length 0 = true := idx_of (by omega) (by omega)
  have w0 : IntKind.i64.wrap ((c.length : Int) - 1) = ((c.length - 1 : Nat) : Int) := by rw [wid (by omega) (by omega)]; omega
  have i1 : idx c.length ((c.length - 1 : Nat) : Int) = true := idx_nat (by omega)
  have b0 := hc.bound 0 (by omega)
  have b1 := hc.bound (c.length - 1) (by omega)
  have z0 : (Int.toNat 0) = 0 := rfl
  unfold o141
  rw [h141_eq, hd0, w0, z0]
  simp only [Int.toNat_natCast, i0, i1, if_true, decide_eq_true_eq]
  by_cases c1 : n ≤ (c.getD 0 ⟨0, 0⟩).flow
  · rw [if_pos c1]
    exact ⟨⟨_, _⟩, rfl, by dsimp only; omega, by dsimp only; omega, by dsimp only; omega⟩
  rw [if_neg c1]
  by_cases c2 : n ≥ (c.getD (c.length - 1) ⟨0, 0⟩).flow
  · rw [if_pos c2]
    exact ⟨⟨_, _⟩, rfl, by dsimp only; omega, by dsimp only; omega, by dsimp only; omega⟩
  rw [if_neg c2]
  have hlen : 0 + 1 < c.length := by
    by_cases e : 0 + 1 < c.length
    · exact e
    · have : c.length - 1 = 0 := by omega
      rw [this] at c2
      omega
  obtain ⟨lo, hi, e, h1, h2, h3⟩ := inner_loop c hc n a b d (by omega) hn c.length 99 0 (by omega) hlen (by omega) (by omega)
  rw [show (0 : Int) = ((0 : Nat) : Int) from rfl]
  rw [show ((0 : Nat) : Int) = (0 : Int) from rfl] at e ⊢
  rw [e]
  exact ⟨⟨lo, hi⟩, rfl, h1, h2, h3⟩
end Go.Proofs.Ytipfipnhgpbceaa.Sx
/- What fans give along a road (plain theorems). -/

set_option linter.unusedVariables false
set_option linter.unusedSimpArgs false
set_option maxRecDepth 100000
namespace Go.Proofs.Ytipfipnhgpbceaa.Sx
open Go Go.RowKit
noncomputable def l133 : List (FuncId × Spec) := [(141, c141)]
def k133 : Code → Keep := keepOf []
noncomputable def h133 (fl : Nat) (a : Int) (b c : Bool) (r : List Point) (bk : Bool) (n : Int) : Option (AV × List Ob) := (evalF (env l133) Try.f133 k133 fl [.agg [.int .i64 a, .bool b, .bool c, .vec false .point r], .one (.bool bk), .one (.int .i64 n)] []).den
theorem h133_eq (fl : Nat) (a : Int) (b c : Bool) (r : List Point) (bk : Bool) (n : Int) : h133 (fl + 1) a b c r bk n =
    if bk = true then (o141 a b c r (IntKind.i64.wrap (0 - n))).bind fun x3 =>
      some (.agg [.int .i64 (IntKind.i64.wrap (0 - x3.hi)), .int .i64 (IntKind.i64.wrap (0 - x3.lo))], [])
    else (o141 a b c r n).bind fun x3 =>
      some (.agg [.int .i64 x3.lo, .int .i64 x3.hi], []) := by kernel_rfl
noncomputable def o133 (a : Int) (b : Bool) (c : Bool) (r : List Point) (bk : Bool) (n : Int) : Option (Span) := (h133 1 a b c r bk n).bind (decSpan)
noncomputable def c133 : Spec := ⟨false, fun av ob => match av, ob with
  | [.agg [.int .i64 a, .bool b, .bool c, .vec false .point r], .one (.bool bk), .one (.int .i64 n)], [] => .call (o133 a b c r bk n) fun x => .ret (.agg [.int .i64 x.lo, .int .i64 x.hi], [])
  | _, _ => .fail⟩
theorem f133 : FnOK Try.prog 133 := fnOK_of Try.func133 rfl (by kernel_rfl)
theorem pc133 : SpecOK Try.prog 133 c133 := by
  refine spec_thaw (fun av ob r os hrn => ?_) (machS_ok (env_ok (l := l133) ⟨⟨pc141, f141⟩, trivial⟩) mixed_ok Try.func133 k133 (fun _ _ => 1) false)
  simp only [c133] at hrn
  split at hrn
  · rename_i a b c r bk n
    obtain ⟨x, hx, hr⟩ := Option.bind_eq_some_iff.1 hrn
    cases hr
    obtain ⟨y, hy, hd⟩ := Option.bind_eq_some_iff.1 hx
    unfold h133 at hy
    obtain ⟨d1, d2⟩ := decSpan_ok hd
    exact ⟨y.1, y.2, by rw [machS_run]; exact hy, d1, d2⟩
  · cases hrn
theorem along_ok {c : List Point} (hc : CB c) (a : Int) (b d bk : Bool) {n : Int} (hn : -1000000 ≤ n ∧ n ≤ 1000000) : ∃ sp, o133 a b d c bk n = some sp ∧ -3000 ≤ sp.lo ∧ sp.lo ≤ sp.hi ∧ sp.hi ≤ 3000 := by
  obtain ⟨s1, e1, g1, g2, g3⟩ := inner_ok hc a b d (n := n) hn
  obtain ⟨s2, e2, q1, q2, q3⟩ := inner_ok hc a b d (n := -n) (by omega)
  have w0 : IntKind.i64.wrap (0 - n) = -n := by rw [wid (by omega) (by omega)]; omega
  have w1 : IntKind.i64.wrap (0 - s2.lo) = -s2.lo := by rw [wid (by omega) (by omega)]; omega
  have w2 : IntKind.i64.wrap (0 - s2.hi) = -s2.hi := by rw [wid (by omega) (by omega)]; omega
  unfold o133
  rw [h133_eq]
  cases bk
  · simp only [Bool.false_eq_true, if_false, e1, Option.bind_some]
    exact ⟨⟨_, _⟩, rfl, by dsimp only; omega, by dsimp only; omega, by dsimp only; omega⟩
  · simp only [if_true, w0, e2, Option.bind_some, w1, w2]
    exact ⟨⟨_, _⟩, rfl, by dsimp only; omega, by dsimp only; omega, by dsimp only; omega⟩
noncomputable def l117 : List (FuncId × Spec) := [(133, c133)]
def k117 : Code → Keep := keepOf []
noncomputable def h117 (fl : Nat) (a : Int) (b c : Bool) (r : List Point) (m n : Int) : Option (AV × List Ob) := (evalF (env l117) Try.f117 k117 fl [.agg [.int .i64 a, .bool b, .bool c, .vec false .point r], .one (.int .i64 m), .one (.int .i64 n)] []).den
theorem h117_eq (fl : Nat) (a : Int) (b c : Bool) (r : List Point) (m n : Int) : h117 (fl + 1) a b c r m n =
    if (m == 0) = true then some (.agg [.int .i64 0, .int .i64 0], [])
    else if (m == 1) = true then (o133 a b c r b n).bind fun x4 =>
        some (.agg [.int .i64 x4.lo, .int .i64 x4.hi], [])
      else if (m == 2) = true then (o133 a b c r (!b) n).bind fun x5 =>
          some (.agg [.int .i64 x5.lo, .int .i64 x5.hi], [])
        else (o133 a b c r false n).bind fun x5 =>
          (o133 a b c r true n).bind fun x6 =>
            some (.agg [.int .i64 (mn (mn x5.lo x6.lo) 0), .int .i64 (mx (mx x5.hi x6.hi) 0)], []) := by kernel_rfl
noncomputable def o117 (a : Int) (b : Bool) (c : Bool) (r : List Point) (m : Int) (n : Int) : Option (Span) := (h117 1 a b c r m n).bind (decSpan)
noncomputable def c117 : Spec := ⟨false, fun av ob => match av, ob with
  | [.agg [.int .i64 a, .bool b, .bool c, .vec false .point r], .one (.int .i64 m), .one (.int .i64 n)], [] => .call (o117 a b c r m n) fun x => .ret (.agg [.int .i64 x.lo, .int .i64 x.hi], [])
  | _, _ => .fail⟩
theorem f117 : FnOK Try.prog 117 := fnOK_of Try.func117 rfl (by kernel_rfl)
theorem pc117 : SpecOK Try.prog 117 c117 := by
  refine spec_thaw (fun av ob r os hrn => ?_) (machS_ok (env_ok (l := l117) ⟨⟨pc133, f133⟩, trivial⟩) mixed_ok Try.func117 k117 (fun _ _ => 1) false)
  simp only [c117] at hrn
  split at hrn
  · rename_i a b c r m n
    obtain ⟨x, hx, hr⟩ := Option.bind_eq_some_iff.1 hrn
    cases hr
    obtain ⟨y, hy, hd⟩ := Option.bind_eq_some_iff.1 hx
    unfold h117 at hy
    obtain ⟨d1, d2⟩ := decSpan_ok hd
    exact ⟨y.1, y.2, by rw [machS_run]; exact hy, d1, d2⟩
  · cases hrn
theorem state_ok {c : List Point} (hc : CB c) (a : Int) (b d : Bool) (m : Int) {n : Int} (hn : -1000000 ≤ n ∧ n ≤ 1000000) : ∃ sp, o117 a b d c m n = some sp ∧ -3000 ≤ sp.lo ∧ sp.lo ≤ sp.hi ∧ sp.hi ≤ 3000 := by
  obtain ⟨s1, e1, g1, g2, g3⟩ := along_ok hc a b d b (n := n) hn
  obtain ⟨s2, e2, q1, q2, q3⟩ := along_ok hc a b d (!b) (n := n) hn
  obtain ⟨s3, e3, r1, r2, r3⟩ := along_ok hc a b d false (n := n) hn
  obtain ⟨s4, e4, t1, t2, t3⟩ := along_ok hc a b d true (n := n) hn
  unfold o117
  rw [h117_eq]
  by_cases c0 : m = 0
  · rw [if_pos (by simpa using c0)]
    exact ⟨⟨0, 0⟩, rfl, by dsimp only; omega, by dsimp only; omega, by dsimp only; omega⟩
  rw [if_neg (by simpa using c0)]
  by_cases c1 : m = 1
  · rw [if_pos (by simpa using c1), e1]
    exact ⟨⟨_, _⟩, rfl, by dsimp only; omega, by dsimp only; omega, by dsimp only; omega⟩
  rw [if_neg (by simpa using c1)]
  by_cases c2 : m = 2
  · rw [if_pos (by simpa using c2), e2]
    exact ⟨⟨_, _⟩, rfl, by dsimp only; omega, by dsimp only; omega, by dsimp only; omega⟩
  rw [if_neg (by simpa using c2), e3, Option.bind_some, e4, Option.bind_some]
  refine ⟨⟨_, _⟩, rfl, ?_, ?_, ?_⟩
  · dsimp only; rw [mn_eq, mn_eq]; omega
  · dsimp only; rw [mn_eq, mn_eq, mx_eq, mx_eq]; omega
  · dsimp only; rw [mx_eq, mx_eq]; omega
end Go.Proofs.Ytipfipnhgpbceaa.Sx
/- Lifts with which a state fits (plain theorems). -/

set_option linter.unusedVariables false
set_option linter.unusedSimpArgs false
set_option maxRecDepth 100000
namespace Go.Proofs.Ytipfipnhgpbceaa.Sx
open Go Go.RowKit
abbrev road0 : Road := ⟨0, 0, 0, 0, false, false, 0, 0, 0, 0⟩
abbrev fan0 : Fan := ⟨0, false, false, []⟩
abbrev door0 : Door := ⟨0, 0, []⟩
abbrev place0 : Place := ⟨0, false⟩
noncomputable def l93 : List (FuncId × Spec) := [(46, c46), (116, c116), (117, c117)]
def k93 : Code → Keep := keepOf [(2, ⟨[0, 1, 6, 7, 8], [], []⟩), (8, ⟨[0, 1, 6, 7, 8, 9, 10, 11, 12], [], []⟩), (14, ⟨[0, 1, 6, 7, 8, 9, 10, 13, 14], [], []⟩)]
noncomputable def h93_0 (fl : Nat) (t8 : Int) (m0_0 : List Int) (m0_1 : Int) (m2 : List Place) (m3 : List Road) (m4 : List Fan) (m5 : List Door) (m6_0b : Bool) (m6_0 : List Int) (m6_1b : Bool) (m6_1 : List Int) (m7_0b : Bool) (m7_0 : List Int) (m7_1b : Bool) (m7_1 : List Int) : Option (AV × List Ob) := (evalH (env l93) Try.f93 k93 6 fl (stkF Try.f93 [1, 1, 0]) ⟨[.one (.ptr 0 0), .one (.ptr 1 0), .one (.undef), .one (.undef), .one (.undef), .one (.undef), .one (.ptr 6 0), .one (.ptr 7 0), .one (.int .i64 t8), .one (.undef), .one (.undef), .one (.undef), .one (.undef), .one (.undef), .one (.undef), .one (.undef), .one (.undef), .one (.undef), .one (.undef), .one (.undef), .one (.undef), .one (.undef), .one (.undef), .one (.undef), .one (.undef), .one (.undef), .one (.undef), .one (.undef), .one (.undef), .one (.undef), .one (.undef), .one (.undef), .one (.undef), .one (.undef), .one (.undef), .one (.undef), .one (.undef), .one (.undef), .one (.undef), .one (.undef), .one (.undef), .one (.undef), .one (.undef), .one (.undef), .one (.undef), .one (.undef), .one (.undef), .one (.undef), .one (.undef), .one (.undef), .one (.undef), .one (.undef), .one (.undef), .one (.undef), .one (.undef), .one (.undef), .one (.undef), .one (.undef), .one (.undef), .one (.undef), .one (.undef), .one (.undef), .one (.undef), .one (.undef), .one (.undef), .one (.undef), .one (.undef), .one (.undef), .one (.undef), .one (.undef), .one (.undef), .one (.undef), .one (.undef), .one (.undef), .one (.undef), .one (.undef), .one (.undef), .one (.undef), .one (.undef), .one (.undef), .one (.undef), .one (.undef), .one (.undef), .one (.undef), .one (.undef), .one (.undef), .one (.undef), .one (.undef), .one (.undef), .one (.undef), .one (.undef), .one (.undef), .one (.undef), .one (.undef), .one (.undef), .one (.undef), .one (.undef), .one (.undef), .one (.undef), .one (.undef), .one (.undef), .one (.undef), .one (.undef), .one (.undef), .one (.undef), .one (.undef), .one (.undef), .one (.undef), .one (.undef), .one (.undef), .one (.undef), .one (.undef), .one (.undef), .one (.undef), .one (.undef), .one (.undef), .one (.undef), .one (.undef), .one (.undef), .one (.undef), .one (.undef), .one (.undef), .one (.undef), .one (.undef), .one (.undef), .one (.undef), .one (.undef), .one (.undef), .one (.undef), .one (.undef), .one (.undef), .one (.undef), .one (.undef), .one (.undef), .one (.undef), .one (.undef), .one (.undef), .one (.undef), .one (.undef), .one (.undef), .one (.undef), .one (.undef), .one (.undef), .one (.undef), .one (.undef), .one (.undef), .one (.undef), .one (.undef), .one (.undef), .one (.undef), .one (.undef), .one (.undef), .one (.undef), .one (.undef), .one (.undef), .one (.undef), .one (.undef), .one (.undef), .one (.undef), .one (.undef), .one (.undef), .one (.undef), .one (.undef), .one (.undef), .one (.undef), .one (.undef)], [((0, 0), some (.cell (.vec false .u8 m0_0))), ((0, 1), some (.cell (.int .i64 m0_1))), ((1, 0), some (.cell (.row 2))), ((1, 1), some (.cell (.row 3))), ((1, 2), some (.cell (.row 4))), ((1, 3), some (.cell (.row 5))), ((2, 0), some (.rows .place m2)), ((3, 0), some (.rows .road m3)), ((4, 0), some (.rows .fan m4)), ((5, 0), some (.rows .door m5)), ((6, 0), some (.cell (.vec m6_0b .int m6_0))), ((6, 1), some (.cell (.vec m6_1b .int m6_1))), ((7, 0), some (.cell (.vec m7_0b .int m7_0))), ((7, 1), some (.cell (.vec m7_1b .int m7_1)))], 8⟩).den
noncomputable def h93_1 (fl : Nat) (t8 : Int) (t9 : Int) (t10 : Int) (t11 : Int) (t12 : Int) (m0_0 : List Int) (m0_1 : Int) (m2 : List Place) (m3 : List Road) (m4 : List Fan) (m5 : List Door) (m6_0b : Bool) (m6_0 : List Int) (m6_1b : Bool) (m6_1 : List Int) (m7_0b : Bool) (m7_0 : List Int) (m7_1b : Bool) (m7_1 : List Int) : Option (AV × List Ob) := (evalH (env l93) Try.f93 k93 6 fl (stkF Try.f93 [1, 1, 0, 0, 1, 0, 0, 1, 1, 1, 0, 1, 0]) ⟨[.one (.ptr 0 0), .one (.ptr 1 0), .one (.undef), .one (.undef), .one (.undef), .one (.undef), .one (.ptr 6 0), .one (.ptr 7 0), .one (.int .i64 t8), .one (.eptr 3 .road t9 0), .one (.int .i64 t10), .one (.int .i64 t11), .one (.int .i64 t12), .one (.undef), .one (.undef), .one (.undef), .one (.undef), .one (.undef), .one (.undef), .one (.undef), .one (.undef), .one (.undef), .one (.undef), .one (.undef), .one (.undef), .one (.undef), .one (.undef), .one (.undef), .one (.undef), .one (.undef), .one (.undef), .one (.undef), .one (.undef), .one (.undef), .one (.undef), .one (.undef), .one (.undef), .one (.undef), .one (.undef), .one (.undef), .one (.undef), .one (.undef), .one (.undef), .one (.undef), .one (.undef), .one (.undef), .one (.undef), .one (.undef), .one (.undef), .one (.undef), .one (.undef), .one (.undef), .one (.undef), .one (.undef), .one (.undef), .one (.undef), .one (.undef), .one (.undef), .one (.undef), .one (.undef), .one (.undef), .one (.undef), .one (.undef), .one (.undef), .one (.undef), .one (.undef), .one (.undef), .one (.undef), .one (.undef), .one (.undef), .one (.undef), .one (.undef), .one (.undef), .one (.undef), .one (.undef), .one (.undef), .one (.undef), .one (.undef), .one (.undef), .one (.undef), .one (.undef), .one (.undef), .one (.undef), .one (.undef), .one (.undef), .one (.undef), .one (.undef), .one (.undef), .one (.undef), .one (.undef), .one (.undef), .one (.undef), .one (.undef), .one (.undef), .one (.undef), .one (.undef), .one (.undef), .one (.undef), .one (.undef), .one (.undef), .one (.undef), .one (.undef), .one (.undef), .one (.undef), .one (.undef), .one (.undef), .one (.undef), .one (.undef), .one (.undef), .one (.undef), .one (.undef), .one (.undef), .one (.undef), .one (.undef), .one (.undef), .one (.undef), .one (.undef), .one (.undef), .one (.undef), .one (.undef), .one (.undef), .one (.undef), .one (.undef), .one (.undef), .one (.undef), .one (.undef), .one (.undef), .one (.undef), .one (.undef), .one (.undef), .one (.undef), .one (.undef), .one (.undef), .one (.undef), .one (.undef), .one (.undef), .one (.undef), .one (.undef), .one (.undef), .one (.undef), .one (.undef), .one (.undef), .one (.undef), .one (.undef), .one (.undef), .one (.undef), .one (.undef), .one (.undef), .one (.undef), .one (.undef), .one (.undef), .one (.undef), .one (.undef), .one (.undef), .one (.undef), .one (.undef), .one (.undef), .one (.undef), .one (.undef), .one (.undef), .one (.undef), .one (.undef), .one (.undef), .one (.undef), .one (.undef), .one (.undef)], [((0, 0), some (.cell (.vec false .u8 m0_0))), ((0, 1), some (.cell (.int .i64 m0_1))), ((1, 0), some (.cell (.row 2))), ((1, 1), some (.cell (.row 3))), ((1, 2), some (.cell (.row 4))), ((1, 3), some (.cell (.row 5))), ((2, 0), some (.rows .place m2)), ((3, 0), some (.rows .road m3)), ((4, 0), some (.rows .fan m4)), ((5, 0), some (.rows .door m5)), ((6, 0), some (.cell (.vec m6_0b .int m6_0))), ((6, 1), some (.cell (.vec m6_1b .int m6_1))), ((7, 0), some (.cell (.vec m7_0b .int m7_0))), ((7, 1), some (.cell (.vec m7_1b .int m7_1)))], 8⟩).den
noncomputable def h93_2 (fl : Nat) (t8 : Int) (t9 : Int) (t10 : Int) (t13 : Int) (t14 : Int) (m0_0 : List Int) (m0_1 : Int) (m2 : List Place) (m3 : List Road) (m4 : List Fan) (m5 : List Door) (m6_0b : Bool) (m6_0 : List Int) (m6_1b : Bool) (m6_1 : List Int) (m7_0b : Bool) (m7_0 : List Int) (m7_1b : Bool) (m7_1 : List Int) : Option (AV × List Ob) := (evalH (env l93) Try.f93 k93 6 fl (stkF Try.f93 [1, 1, 0, 0, 1, 0, 0, 1, 1, 1, 1, 1, 0, 1, 0]) ⟨[.one (.ptr 0 0), .one (.ptr 1 0), .one (.undef), .one (.undef), .one (.undef), .one (.undef), .one (.ptr 6 0), .one (.ptr 7 0), .one (.int .i64 t8), .one (.eptr 3 .road t9 0), .one (.int .i64 t10), .one (.undef), .one (.undef), .one (.int .i64 t13), .one (.int .i64 t14), .one (.undef), .one (.undef), .one (.undef), .one (.undef), .one (.undef), .one (.undef), .one (.undef), .one (.undef), .one (.undef), .one (.undef), .one (.undef), .one (.undef), .one (.undef), .one (.undef), .one (.undef), .one (.undef), .one (.undef), .one (.undef), .one (.undef), .one (.undef), .one (.undef), .one (.undef), .one (.undef), .one (.undef), .one (.undef), .one (.undef), .one (.undef), .one (.undef), .one (.undef), .one (.undef), .one (.undef), .one (.undef), .one (.undef), .one (.undef), .one (.undef), .one (.undef), .one (.undef), .one (.undef), .one (.undef), .one (.undef), .one (.undef), .one (.undef), .one (.undef), .one (.undef), .one (.undef), .one (.undef), .one (.undef), .one (.undef), .one (.undef), .one (.undef), .one (.undef), .one (.undef), .one (.undef), .one (.undef), .one (.undef), .one (.undef), .one (.undef), .one (.undef), .one (.undef), .one (.undef), .one (.undef), .one (.undef), .one (.undef), .one (.undef), .one (.undef), .one (.undef), .one (.undef), .one (.undef), .one (.undef), .one (.undef), .one (.undef), .one (.undef), .one (.undef), .one (.undef), .one (.undef), .one (.undef), .one (.undef), .one (.undef), .one (.undef), .one (.undef), .one (.undef), .one (.undef), .one (.undef), .one (.undef), .one (.undef), .one (.undef), .one (.undef), .one (.undef), .one (.undef), .one (.undef), .one (.undef), .one (.undef), .one (.undef), .one (.undef), .one (.undef), .one (.undef), .one (.undef), .one (.undef), .one (.undef), .one (.undef), .one (.undef), .one (.undef), .one (.undef), .one (.undef), .one (.undef), .one (.undef), .one (.undef), .one (.undef), .one (.undef), .one (.undef), .one (.undef), .one (.undef), .one (.undef), .one (.undef), .one (.undef), .one (.undef), .one (.undef), .one (.undef), .one (.undef), .one (.undef), .one (.undef), .one (.undef), .one (.undef), .one (.undef), .one (.undef), .one (.undef), .one (.undef), .one (.undef), .one (.undef), .one (.undef), .one (.undef), .one (.undef), .one (.undef), .one (.undef), .one (.undef), .one (.undef), .one (.undef), .one (.undef), .one (.undef), .one (.undef), .one (.undef), .one (.undef), .one (.undef), .one (.undef), .one (.undef), .one (.undef), .one (.undef), .one (.undef), .one (.undef), .one (.undef), .one (.undef)], [((0, 0), some (.cell (.vec false .u8 m0_0))), ((0, 1), some (.cell (.int .i64 m0_1))), ((1, 0), some (.cell (.row 2))), ((1, 1), some (.cell (.row 3))), ((1, 2), some (.cell (.row 4))), ((1, 3), some (.cell (.row 5))), ((2, 0), some (.rows .place m2)), ((3, 0), some (.rows .road m3)), ((4, 0), some (.rows .fan m4)), ((5, 0), some (.rows .door m5)), ((6, 0), some (.cell (.vec m6_0b .int m6_0))), ((6, 1), some (.cell (.vec m6_1b .int m6_1))), ((7, 0), some (.cell (.vec m7_0b .int m7_0))), ((7, 1), some (.cell (.vec m7_1b .int m7_1)))], 8⟩).den
noncomputable def h93 (fl : Nat) (b1 : Bool) (sF : List Int) (b2 : Bool) (sD : List Int) (b3 : Bool) (pr : List Int) (b4 : Bool) (fw : List Int) (l : List Int) (p : Int) (P : List Place) (R : List Road) (F : List Fan) (Dr : List Door) : Option (AV × List Ob) := (evalF (env l93) Try.f93 k93 fl [.one (.ptr 0 0), .one (.ptr 1 0), .agg [.vec b1 .int sF, .vec b2 .int sD], .agg [.vec b3 .int pr, .vec b4 .int fw]] [.box [.vec false .u8 l, .int .i64 p], .box [.row 2, .row 3, .row 4, .row 5], .rows .place P, .rows .road R, .rows .fan F, .rows .door Dr]).den
theorem h93_eq (fl : Nat) (b1 : Bool) (sF : List Int) (b2 : Bool) (sD : List Int) (b3 : Bool) (pr : List Int) (b4 : Bool) (fw : List Int) (l : List Int) (p : Int) (P : List Place) (R : List Road) (F : List Fan) (Dr : List Door) : h93 (fl + 1) b1 sF b2 sD b3 pr b4 fw l p P R F Dr =
    h93_0 fl 0 l p P R F Dr b1 sF b2 sD b3 pr b4 fw := by kernel_rfl
theorem h93_0_eq (fl : Nat) (t8 : Int) (m0_0 : List Int) (m0_1 : Int) (m2 : List Place) (m3 : List Road) (m4 : List Fan) (m5 : List Door) (m6_0b : Bool) (m6_0 : List Int) (m6_1b : Bool) (m6_1 : List Int) (m7_0b : Bool) (m7_0 : List Int) (m7_1b : Bool) (m7_1 : List Int) : h93_0 (fl + 1) t8 m0_0 m0_1 m2 m3 m4 m5 m6_0b m6_0 m6_1b m6_1 m7_0b m7_0 m7_1b m7_1 =
    if (decide (t8 < (↑m3.length : Int))) = true then if (idx m3.length t8) = true then if (idx m7_1.length t8) = true then (nextO m0_0 m0_1 (IntKind.i64.wrap (IntKind.i64.wrap ((m3.getD t8.toNat (dflt K.road)).restHi - (m3.getD t8.toNat (dflt K.road)).restLo) + 1))).bind fun x5 =>
          h93_1 fl t8 t8 (m7_1.getD t8.toNat (dflt K.int)) (IntKind.i64.wrap ((m3.getD t8.toNat (dflt K.road)).restLo + x5.fst)) 0 m0_0 x5.snd m2 m3 m4 m5 m6_0b m6_0 m6_1b m6_1 m7_0b m7_0 m7_1b m7_1
        else none
      else none
    else some (.tup [], [.box [.vec false .u8 m0_0, .int .i64 m0_1], .box [.row 2, .row 3, .row 4, .row 5], .rows .place m2, .rows .road m3, .rows .fan m4, .rows .door m5]) := by kernel_rfl
theorem h93_1_eq (fl : Nat) (t8 : Int) (t9 : Int) (t10 : Int) (t11 : Int) (t12 : Int) (m0_0 : List Int) (m0_1 : Int) (m2 : List Place) (m3 : List Road) (m4 : List Fan) (m5 : List Door) (m6_0b : Bool) (m6_0 : List Int) (m6_1b : Bool) (m6_1 : List Int) (m7_0b : Bool) (m7_0 : List Int) (m7_1b : Bool) (m7_1 : List Int) : h93_1 (fl + 1) t8 t9 t10 t11 t12 m0_0 m0_1 m2 m3 m4 m5 m6_0b m6_0 m6_1b m6_1 m7_0b m7_0 m7_1b m7_1 =
    if (decide (t12 < (↑m5.length : Int))) = true then if (idx m5.length t12) = true then if ((m5.getD t12.toNat (dflt K.door)).road == t8) = true then if (idx m5.length t12) = true then if (idx m6_1.length t12) = true then (o116 (m5.getD t12.toNat (dflt K.door)).road (m5.getD t12.toNat (dflt K.door)).other (m5.getD t12.toNat (dflt K.door)).rests (m6_1.getD t12.toNat (dflt K.int))).bind fun x7 =>
              h93_1 fl t8 t9 t10 (IntKind.i64.wrap (t11 + x7.lo)) (IntKind.i64.wrap (t12 + 1)) m0_0 m0_1 m2 m3 m4 m5 m6_0b m6_0 m6_1b m6_1 m7_0b m7_0 m7_1b m7_1
            else none
          else none
        else h93_1 fl t8 t9 t10 t11 (IntKind.i64.wrap (t12 + 1)) m0_0 m0_1 m2 m3 m4 m5 m6_0b m6_0 m6_1b m6_1 m7_0b m7_0 m7_1b m7_1
      else none
    else if (idx m7_0.length (m3.getD t9.toNat (dflt K.road)).frm) = true then if (idx m7_0.length (m3.getD t9.toNat (dflt K.road)).to) = true then h93_2 fl t8 t9 t10 (IntKind.i64.wrap (IntKind.i64.wrap (IntKind.i64.wrap (t11 * mx t10 (IntKind.i64.wrap (0 - t10))) * t10) - IntKind.i64.wrap (m7_0.getD (m3.getD t9.toNat (dflt K.road)).frm.toNat (dflt K.int) - m7_0.getD (m3.getD t9.toNat (dflt K.road)).to.toNat (dflt K.int)))) 0 m0_0 m0_1 m2 m3 m4 m5 m6_0b m6_0 m6_1b m6_1 m7_0b m7_0 m7_1b m7_1
        else none
      else none := by kernel_rfl
theorem h93_2_eq (fl : Nat) (t8 : Int) (t9 : Int) (t10 : Int) (t13 : Int) (t14 : Int) (m0_0 : List Int) (m0_1 : Int) (m2 : List Place) (m3 : List Road) (m4 : List Fan) (m5 : List Door) (m6_0b : Bool) (m6_0 : List Int) (m6_1b : Bool) (m6_1 : List Int) (m7_0b : Bool) (m7_0 : List Int) (m7_1b : Bool) (m7_1 : List Int) : h93_2 (fl + 1) t8 t9 t10 t13 t14 m0_0 m0_1 m2 m3 m4 m5 m6_0b m6_0 m6_1b m6_1 m7_0b m7_0 m7_1b m7_1 =
    if (decide (t14 < (↑m4.length : Int))) = true then if (idx m4.length t14) = true then if ((m4.getD t14.toNat (dflt K.fan)).road == t8) = true then if (idx m4.length t14) = true then if (idx m6_0.length t14) = true then (o117 (m4.getD t14.toNat (dflt K.fan)).road (m4.getD t14.toNat (dflt K.fan)).back (m4.getD t14.toNat (dflt K.fan)).aux (m4.getD t14.toNat (dflt K.fan)).curve (m6_0.getD t14.toNat (dflt K.int)) t10).bind fun x7 =>
              h93_2 fl t8 t9 t10 (IntKind.i64.wrap (t13 - x7.lo)) (IntKind.i64.wrap (t14 + 1)) m0_0 m0_1 m2 m3 m4 m5 m6_0b m6_0 m6_1b m6_1 m7_0b m7_0 m7_1b m7_1
            else none
          else none
        else h93_2 fl t8 t9 t10 t13 (IntKind.i64.wrap (t14 + 1)) m0_0 m0_1 m2 m3 m4 m5 m6_0b m6_0 m6_1b m6_1 m7_0b m7_0 m7_1b m7_1
      else none
    else (nextO m0_0 m0_1 30).bind fun x3 =>
      (nextO m0_0 x3.snd 30).bind fun x4 =>
        h93_0 fl (IntKind.i64.wrap (t8 + 1)) m0_0 x4.snd m2 (m3.set t9.toNat { frm := (m3.getD t9.toNat (dflt K.road)).frm, to := (m3.getD t9.toNat (dflt K.road)).to, len := (m3.getD t9.toNat (dflt K.road)).len, area := (m3.getD t9.toNat (dflt K.road)).area, walk := (m3.getD t9.toNat (dflt K.road)).walk, closed := (m3.getD t9.toNat (dflt K.road)).closed, restLo := (m3.getD t9.toNat (dflt K.road)).restLo, restHi := (m3.getD t9.toNat (dflt K.road)).restHi, liftLo := IntKind.i64.wrap (t13 - x3.fst), liftHi := IntKind.i64.wrap (t13 + x4.fst) : Road }) m4 m5 m6_0b m6_0 m6_1b m6_1 m7_0b m7_0 m7_1b m7_1 := by kernel_rfl
open Classical in
noncomputable def decFit (P : List Place) (F : List Fan) (Dr : List Door) (l : List Int) : AV × List Ob → Option (List Road × Int)
  | (.tup [], [.box [.vec false .u8 l', .int .i64 p], .box [.row 2, .row 3, .row 4, .row 5], .rows .place P', .rows .road R', .rows .fan F', .rows .door D']) => if l' = l ∧ P' = P ∧ F' = F ∧ D' = Dr then some (R', p) else none
  | _ => none
theorem decFit_ok {P : List Place} {F : List Fan} {Dr : List Door} {l : List Int} {y : AV × List Ob} {x : List Road × Int} (h : decFit P F Dr l y = some x) : (AV.tup [], [Ob.box [.vec false .u8 l, .int .i64 x.2], .box [.row 2, .row 3, .row 4, .row 5], .rows .place P, .rows .road x.1, .rows .fan F, .rows .door Dr]) = y := by
  unfold decFit at h
  split at h
  · split at h
    · rename_i hl
      obtain ⟨rfl, rfl, rfl, rfl⟩ := hl
      cases h
      rfl
    · cases h
  · cases h
noncomputable def o93 (b1 : Bool) (sF : List Int) (b2 : Bool) (sD : List Int) (b3 : Bool) (pr : List Int) (b4 : Bool) (fw : List Int) (l : List Int) (p : Int) (P : List Place) (R : List Road) (F : List Fan) (Dr : List Door) : Option (List Road × Int) := (h93 1000 b1 sF b2 sD b3 pr b4 fw l p P R F Dr).bind (decFit P F Dr l)
noncomputable def c93 : Spec := ⟨false, fun av ob => match av, ob with
  | [.one (.ptr 0 0), .one (.ptr 1 0), .agg [.vec b1 .int sF, .vec b2 .int sD], .agg [.vec b3 .int pr, .vec b4 .int fw]], [.box [.vec false .u8 l, .int .i64 p], .box [.row 2, .row 3, .row 4, .row 5], .rows .place P, .rows .road R, .rows .fan F, .rows .door Dr] => .call (o93 b1 sF b2 sD b3 pr b4 fw l p P R F Dr) fun x => .ret (.tup [], [.box [.vec false .u8 l, .int .i64 x.2], .box [.row 2, .row 3, .row 4, .row 5], .rows .place P, .rows .road x.1, .rows .fan F, .rows .door Dr])
  | _, _ => .fail⟩
theorem f93 : FnOK Try.prog 93 := fnOK_of Try.func93 rfl (by kernel_rfl)
theorem pc93 : SpecOK Try.prog 93 c93 := by
  refine spec_le (fun av ob r os hrn => ?_) (machS_ok (env_ok (l := l93) ⟨⟨pc46, f46⟩, ⟨⟨pc116, f116⟩, ⟨⟨pc117, f117⟩, trivial⟩⟩⟩) mixed_ok Try.func93 k93 (fun _ _ => 1000) false)
  simp only [c93] at hrn
  split at hrn
  · rename_i b1 sF b2 sD b3 pr b4 fw l p P R F Dr
    obtain ⟨x, hx, hr⟩ := Option.bind_eq_some_iff.1 hrn
    cases hr
    obtain ⟨y, hy, hd⟩ := Option.bind_eq_some_iff.1 hx
    unfold h93 at hy
    rw [machS_run, decFit_ok hd]
    exact hy
  · cases hrn
/-- What the doors of a road resist; from one door on. -/
def doorS (Dr : List Door) (sD : List Int) (i : Int) : Nat → Nat → Int
  | 0, _ => 0
  | m + 1, k => (if (Dr.getD k door0).road = i then (Dr.getD k door0).rests.getD (sD.getD k 0).toNat 0 else 0) + doorS Dr sD i m (k + 1)
/-- What the fans of a road give at least; from one fan on. -/
noncomputable def fanLow (f : Fan) (s q : Int) : Int := match o117 f.road f.back f.aux f.curve s q with | some sp => sp.lo | none => 0
noncomputable def fanS (F : List Fan) (sF : List Int) (i q : Int) : Nat → Nat → Int
  | 0, _ => 0
  | m + 1, k => (if (F.getD k fan0).road = i then fanLow (F.getD k fan0) (sF.getD k 0) q else 0) + fanS F sF i q m (k + 1)
/-- Fans and doors with their states. -/
structure EqB (F : List Fan) (Dr : List Door) (sF sD : List Int) : Prop where
  nf : F.length ≤ 2
  nd : Dr.length ≤ 2
  lf : sF.length = F.length
  ld : sD.length = Dr.length
  curve : ∀ k, k < F.length → CB (F.getD k fan0).curve
  door : ∀ k, k < Dr.length → DB (Dr.getD k door0) (Dr.getD k door0).road
  sf : ∀ k, k < F.length → 0 ≤ sF.getD k 0 ∧ sF.getD k 0 ≤ 2
  sd : ∀ k, k < Dr.length → 0 ≤ sD.getD k 0 ∧ sD.getD k 0 < (Dr.getD k door0).rests.length
section
variable {F : List Fan} {Dr : List Door} {sF sD : List Int}
theorem doorS_bound (h : EqB F Dr sF sD) (i : Int) : ∀ (m k : Nat), k + m = Dr.length → 0 ≤ doorS Dr sD i m k ∧ doorS Dr sD i m k ≤ 900 * (m : Int)
  | 0, k, _ => by simp [doorS]
  | m + 1, k, hk => by
    obtain ⟨h1, h2⟩ := doorS_bound h i m (k + 1) (by omega)
    unfold doorS
    have hd := h.door k (by omega)
    have hs := h.sd k (by omega)
    have hb := hd.bound (sD.getD k 0).toNat (by omega)
    have hl := hd.len
    split <;> omega
theorem fanS_bound (h : EqB F Dr sF sD) (i : Int) {q : Int} (hq : -1000000 ≤ q ∧ q ≤ 1000000) : ∀ (m k : Nat), k + m = F.length → -3000 * (m : Int) ≤ fanS F sF i q m k ∧ fanS F sF i q m k ≤ 3000 * (m : Int)
  | 0, k, _ => by simp [fanS]
  | m + 1, k, hk => by
    obtain ⟨h1, h2⟩ := fanS_bound h i hq m (k + 1) (by omega)
    unfold fanS
    obtain ⟨sp, e, g1, g2, g3⟩ := state_ok (h.curve k (by omega)) (F.getD k fan0).road (F.getD k fan0).back (F.getD k fan0).aux (sF.getD k 0) hq
    have : fanLow (F.getD k fan0) (sF.getD k 0) q = sp.lo := by unfold fanLow; rw [e]
    rw [this]
    split <;> omega
end
end Go.Proofs.Ytipfipnhgpbceaa.Sx
/- Lifts with which a state fits: the loops (plain theorems). -/

set_option linter.unusedVariables false
set_option linter.unusedSimpArgs false
set_option maxRecDepth 100000
namespace Go.Proofs.Ytipfipnhgpbceaa.Sx
open Go Go.RowKit
def withLift (r : Road) (lo hi : Int) : Road := ⟨r.frm, r.to, r.len, r.area, r.walk, r.closed, r.restLo, r.restHi, lo, hi⟩
section
variable {F : List Fan} {Dr : List Door} {sF sD : List Int} (hE : EqB F Dr sF sD) (b1 b2 b3 b4 : Bool) (pr fw l : List Int) (P : List Place)
include hE
theorem fit1 (i : Nat) (q : Int) (R : List Road) (p : Int) (hfr : 0 ≤ (R.getD i road0).frm ∧ (R.getD i road0).frm < pr.length) (hto : 0 ≤ (R.getD i road0).to ∧ (R.getD i road0).to < pr.length) :
    ∀ (m fl k : Nat) (t : Int), k + m = Dr.length → 0 ≤ t → t ≤ 10000 - 900 * (m : Int) → h93_1 (fl + m + 1) i i q t k l p P R F Dr b1 sF b2 sD b3 pr b4 fw =
      h93_2 fl i i q (wr64 (wr64 (wr64 ((t + doorS Dr sD i m k) * mx q (wr64 (0 - q))) * q) - wr64 (pr.getD (R.getD i road0).frm.toNat 0 - pr.getD (R.getD i road0).to.toNat 0))) 0 l p P R F Dr b1 sF b2 sD b3 pr b4 fw
  | 0, fl, k, t, hk, h0, h1 => by
    have hnk : ¬ decide ((k : Int) < (Dr.length : Int)) = true := by simp; omega
    have e1 : ((i : Int)).toNat = i := Int.toNat_natCast i
    rw [h93_1_eq, if_neg hnk, e1]
    have i1 : idx pr.length (R.getD i (dflt K.road)).frm = true := idx_of hfr.1 hfr.2
    have i2 : idx pr.length (R.getD i (dflt K.road)).to = true := idx_of hto.1 hto.2
    rw [if_pos i1, if_pos i2]
    simp only [doorS, Int.add_zero]
    rfl
  | m + 1, fl, k, t, hk, h0, h1 => by
    have hlt : k < Dr.length := by omega
    have hd := hE.door k hlt
    have hs := hE.sd k hlt
    have hb := hd.bound (sD.getD k 0).toNat (by omega)
    have hl := hd.len
    have i1 : idx sD.length (k : Int) = true := idx_nat (by rw [hE.ld]; exact hlt)
    have e1 : ((k : Int)).toNat = k := Int.toNat_natCast k
    have hD2 : Dr.length ≤ 2 := hE.nd
    rw [show fl + (m + 1) + 1 = (fl + m + 1) + 1 by omega, h93_1_eq, if_pos (lt_nat hlt), if_pos (idx_nat hlt), e1, wr_succ (by omega), doorS]
    have hd0 : (dflt K.door) = door0 := rfl
    have hi0 : (dflt K.int) = (0 : Int) := rfl
    rw [hd0, hi0]
    by_cases c : (Dr.getD k door0).road = (i : Int)
    · rw [if_pos (by simpa using c), if_pos (idx_nat hlt), if_pos i1, rest_known _ _ hs.1 hs.2, Option.bind_some, if_pos c]
      dsimp only
      have w1 : IntKind.i64.wrap (t + (Dr.getD k door0).rests.getD (sD.getD k 0).toNat 0) = t + (Dr.getD k door0).rests.getD (sD.getD k 0).toNat 0 := wid (by omega) (by omega)
      rw [w1, fit1 i q R p hfr hto m fl (k + 1) _ (by omega) (by omega) (by omega), Int.add_assoc]
    · rw [if_neg (by simpa using c), if_neg c, Int.zero_add, fit1 i q R p hfr hto m fl (k + 1) t (by omega) h0 (by omega)]
theorem fit2 (i : Nat) (hi : i ≤ 1000) (q : Int) (hq : -1000000 ≤ q ∧ q ≤ 1000000) (R : List Road) (hR : i < R.length) (p : Int) :
    ∀ (m fl k : Nat) (t : Int), k + m = F.length → -1000000000000 - 3000 * (2 - m : Int) ≤ t → t ≤ 1000000000000 + 3000 * (2 - m : Int) → h93_2 (fl + m + 1) i i q t k l p P R F Dr b1 sF b2 sD b3 pr b4 fw =
      (nextO l p 30).bind fun x3 => (nextO l x3.2 30).bind fun x4 => h93_0 fl ((i + 1 : Nat) : Int) l x4.2 P (R.set i (withLift (R.getD i road0) (wr64 (t - fanS F sF i q m k - x3.1)) (wr64 (t - fanS F sF i q m k + x4.1)))) F Dr b1 sF b2 sD b3 pr b4 fw
  | 0, fl, k, t, hk, h0, h1 => by
    have hnk : ¬ decide ((k : Int) < (F.length : Int)) = true := by simp; omega
    have e1 : ((i : Int)).toNat = i := Int.toNat_natCast i
    rw [h93_2_eq, if_neg hnk, e1, wr_succ (by omega)]
    simp only [fanS, Int.sub_zero]
    rfl
  | m + 1, fl, k, t, hk, h0, h1 => by
    have hlt : k < F.length := by omega
    have i1 : idx sF.length (k : Int) = true := idx_nat (by rw [hE.lf]; exact hlt)
    have e1 : ((k : Int)).toNat = k := Int.toNat_natCast k
    have hF2 : F.length ≤ 2 := hE.nf
    rw [show fl + (m + 1) + 1 = (fl + m + 1) + 1 by omega, h93_2_eq, if_pos (lt_nat hlt), if_pos (idx_nat hlt), e1, wr_succ (by omega), fanS]
    have hd0 : (dflt K.fan) = fan0 := rfl
    have hi0 : (dflt K.int) = (0 : Int) := rfl
    rw [hd0, hi0]
    by_cases c : (F.getD k fan0).road = (i : Int)
    · obtain ⟨sp, e, g1, g2, g3⟩ := state_ok (hE.curve k hlt) (F.getD k fan0).road (F.getD k fan0).back (F.getD k fan0).aux (sF.getD k 0) hq
      have hlow : fanLow (F.getD k fan0) (sF.getD k 0) q = sp.lo := by unfold fanLow; rw [e]
      have w1 : IntKind.i64.wrap (t - sp.lo) = t - sp.lo := wid (by omega) (by omega)
      rw [if_pos (by simpa using c), if_pos (idx_nat hlt), if_pos i1, e, Option.bind_some, if_pos c, hlow]
      rw [w1, fit2 i hi q hq R hR p m fl (k + 1) (t - sp.lo) (by omega) (by omega) (by omega)]
      have : t - sp.lo - fanS F sF i q m (k + 1) = t - (sp.lo + fanS F sF i q m (k + 1)) := by omega
      rw [this]
    · rw [if_neg (by simpa using c), if_neg c, Int.zero_add, fit2 i hi q hq R hR p m fl (k + 1) t (by omega) (by omega) (by omega)]
end
/-- What a lift must be for a flow and pressures. -/
noncomputable def liftL (F : List Fan) (Dr : List Door) (sF sD pr : List Int) (r : Road) (i q rest : Int) : Int :=
  (rest + doorS Dr sD i Dr.length 0) * max q (-q) * q - (pr.getD r.frm.toNat 0 - pr.getD r.to.toNat 0) - fanS F sF i q F.length 0
/-- A road whose lift has been fitted. -/
def Fitted (F : List Fan) (Dr : List Door) (sF sD pr : List Int) (r r' : Road) (i q : Int) : Prop :=
  ∃ rest lo hi, r' = withLift r lo hi ∧ r.restLo ≤ rest ∧ rest ≤ r.restHi ∧ lo ≤ liftL F Dr sF sD pr r i q rest ∧ liftL F Dr sF sD pr r i q rest ≤ hi ∧ -1000000000000 ≤ lo ∧ hi ≤ 1000000000000
structure FitIn (R : List Road) (pr fw : List Int) : Prop where
  len : R.length ≤ 100
  flen : fw.length = R.length
  frm : ∀ i, i < R.length → 0 ≤ (R.getD i road0).frm ∧ (R.getD i road0).frm < pr.length
  to : ∀ i, i < R.length → 0 ≤ (R.getD i road0).to ∧ (R.getD i road0).to < pr.length
  rest : ∀ i, i < R.length → 1 ≤ (R.getD i road0).restLo ∧ (R.getD i road0).restLo ≤ (R.getD i road0).restHi ∧ (R.getD i road0).restHi ≤ 22
  flow : ∀ i, i < R.length → -1000 ≤ fw.getD i 0 ∧ fw.getD i 0 ≤ 1000
  pres : ∀ i, -10000 ≤ pr.getD i 0 ∧ pr.getD i 0 ≤ 10000
theorem getD_set_eq {α : Type} {l : List α} {i : Nat} {x d : α} (h : i < l.length) : (l.set i x).getD i d = x := by
  rw [List.getD_eq_getElem?_getD, List.getElem?_set_self h]; rfl
theorem getD_set_ne2 {α : Type} {l : List α} {i j : Nat} {x d : α} (h : i ≠ j) : (l.set i x).getD j d = l.getD j d := by
  rw [List.getD_eq_getElem?_getD, List.getElem?_set_ne h, ← List.getD_eq_getElem?_getD]
theorem fit0 {F : List Fan} {Dr : List Door} {sF sD : List Int} (hE : EqB F Dr sF sD) (b1 b2 b3 b4 : Bool) (pr fw l : List Int) (P : List Place) (R : List Road) (hI : FitIn R pr fw) :
    ∀ (d fl i : Nat) (p : Int) (R' : List Road), R.length - i = d → i ≤ R.length → 10 * d < fl → cok l p = true → R'.length = R.length → (∀ j, i ≤ j → R'.getD j road0 = R.getD j road0) → (∀ j, j < i → Fitted F Dr sF sD pr (R.getD j road0) (R'.getD j road0) j (fw.getD j 0)) →
    ∃ R2 q, h93_0 fl i l p P R' F Dr b1 sF b2 sD b3 pr b4 fw = some (.tup [], [.box [.vec false .u8 l, .int .i64 q], .box [.row 2, .row 3, .row 4, .row 5], .rows .place P, .rows .road R2, .rows .fan F, .rows .door Dr]) ∧ R2.length = R.length ∧ (∀ j, j < R.length → Fitted F Dr sF sD pr (R.getD j road0) (R2.getD j road0) j (fw.getD j 0)) ∧ cok l q = true
  | d, fl, i, p, R', hd, hi, hf, hk, hl, hsame, hfit => by
    obtain ⟨fl, rfl⟩ : ∃ q, fl = q + 1 := ⟨fl - 1, by omega⟩
    have hRl := hI.len
    rw [h93_0_eq]
    by_cases hlt : i < R.length
    · have e1 : ((i : Int)).toNat = i := Int.toNat_natCast i
      have hr := hI.rest i hlt
      have hq := hI.flow i hlt
      have hR0 : (dflt K.road) = road0 := rfl
      have hi0 : (dflt K.int) = (0 : Int) := rfl
      have hri : R'.getD i road0 = R.getD i road0 := hsame i (Nat.le_refl _)
      rw [if_pos (lt_nat (by omega)), if_pos (idx_nat (by omega)), if_pos (idx_nat (by rw [hI.flen]; exact hlt)), hR0, hi0, e1, hri]
      have w1 : IntKind.i64.wrap ((R.getD i road0).restHi - (R.getD i road0).restLo) = (R.getD i road0).restHi - (R.getD i road0).restLo := wid (by omega) (by omega)
      have w2 : IntKind.i64.wrap ((R.getD i road0).restHi - (R.getD i road0).restLo + 1) = (R.getD i road0).restHi - (R.getD i road0).restLo + 1 := wid (by omega) (by omega)
      rw [w1, w2]
      obtain ⟨v1, p1, e2, a1, b1', k1⟩ := next_ok (n := (R.getD i road0).restHi - (R.getD i road0).restLo + 1) hk (by omega)
      rw [e2, Option.bind_some]
      dsimp only
      have w3 : IntKind.i64.wrap ((R.getD i road0).restLo + v1) = (R.getD i road0).restLo + v1 := wid (by omega) (by omega)
      rw [w3]
      have hfr := hI.frm i hlt
      have hto := hI.to i hlt
      obtain ⟨fl2, rfl⟩ : ∃ q, fl = q + Dr.length + 1 := ⟨fl - Dr.length - 1, by have := hE.nd; omega⟩
      have hnd := hE.nd
      have hnf := hE.nf
      have f1 : h93_1 (fl2 + Dr.length + 1) i i (fw.getD i 0) ((R.getD i road0).restLo + v1) 0 l p1 P R' F Dr b1 sF b2 sD b3 pr b4 fw = _ := fit1 hE b1 b2 b3 b4 pr fw l P i (fw.getD i 0) R' p1 (by rw [hri]; exact hfr) (by rw [hri]; exact hto) Dr.length fl2 0 ((R.getD i road0).restLo + v1) (by omega) (by omega) (by omega)
      rw [f1]
      obtain ⟨fl3, rfl⟩ : ∃ q, fl2 = q + F.length + 1 := ⟨fl2 - F.length - 1, by omega⟩
      have hD := doorS_bound hE i Dr.length 0 (by omega)
      have hF := fanS_bound hE i (q := fw.getD i 0) (by omega) F.length 0 (by omega)
      have hmx : mx (fw.getD i 0) (wr64 (0 - fw.getD i 0)) = max (fw.getD i 0) (-(fw.getD i 0)) := by
        rw [mx_eq, wr64, wid (by omega) (by omega)]; omega
      rw [hmx, hri]
      have hpf := hI.pres (R.getD i road0).frm.toNat
      have hpt := hI.pres (R.getD i road0).to.toNat
      have hL : liftL F Dr sF sD pr (R.getD i road0) i (fw.getD i 0) ((R.getD i road0).restLo + v1) = ((R.getD i road0).restLo + v1 + doorS Dr sD i Dr.length 0) * max (fw.getD i 0) (-(fw.getD i 0)) * (fw.getD i 0) - (pr.getD (R.getD i road0).frm.toNat 0 - pr.getD (R.getD i road0).to.toNat 0) - fanS F sF i (fw.getD i 0) F.length 0 := rfl
      generalize hT : (R.getD i road0).restLo + v1 + doorS Dr sD i Dr.length 0 = T at *
      generalize hQ : fw.getD i 0 = Q at *
      have hm1 := mul_le_of (a := T) (b := max Q (-Q)) (A := 2000) (B := 1000) (by omega) (by omega) (by omega) (by omega)
      have hm2 : -2000000000 ≤ T * max Q (-Q) * Q ∧ T * max Q (-Q) * Q ≤ 2000000000 := by
        by_cases h : 0 ≤ Q
        · have := mul_le_of (a := T * max Q (-Q)) (b := Q) (A := 2000 * 1000) (B := 1000) hm1.1 hm1.2 h (by omega)
          omega
        · have := mul_le_of (a := T * max Q (-Q)) (b := -Q) (A := 2000 * 1000) (B := 1000) hm1.1 hm1.2 (by omega) (by omega)
          rw [Int.mul_neg] at this
          omega
      generalize hM1 : T * max Q (-Q) = M1 at *
      generalize hM2 : M1 * Q = M2 at *
      have x1 : wr64 M1 = M1 := wid (by omega) (by omega)
      have x2 : wr64 M2 = M2 := wid (by omega) (by omega)
      generalize pr.getD (R.getD i road0).frm.toNat 0 = pf at *
      generalize pr.getD (R.getD i road0).to.toNat 0 = pt at *
      have x3 : wr64 (pf - pt) = pf - pt := wid (by omega) (by omega)
      have x4 : wr64 (M2 - (pf - pt)) = M2 - (pf - pt) := wid (by omega) (by omega)
      rw [x1, hM2, x2, x3, x4]
      have f2 : h93_2 (fl3 + F.length + 1) i i Q (M2 - (pf - pt)) 0 l p1 P R' F Dr b1 sF b2 sD b3 pr b4 fw = _ := fit2 hE b1 b2 b3 b4 pr fw l P i (by omega) Q (by omega) R' (by omega) p1 F.length fl3 0 (M2 - (pf - pt)) (by omega) (by omega) (by omega)
      rw [f2, hri]
      obtain ⟨v2, p2, e3, a2, b2', k2⟩ := next_ok (n := 30) k1 (by omega)
      obtain ⟨v3, p3, e4, a3, b3', k3⟩ := next_ok (n := 30) k2 (by omega)
      rw [e3, Option.bind_some]
      dsimp only
      rw [e4, Option.bind_some]
      dsimp only
      generalize hS : fanS F sF i Q F.length 0 = S at *
      have x5 : wr64 (M2 - (pf - pt) - S - v2) = M2 - (pf - pt) - S - v2 := wid (by omega) (by omega)
      have x6 : wr64 (M2 - (pf - pt) - S + v3) = M2 - (pf - pt) - S + v3 := wid (by omega) (by omega)
      rw [x5, x6]
      cases d with
      | zero => omega
      | succ d =>
        refine fit0 hE b1 b2 b3 b4 pr fw l P R hI d fl3 (i + 1) p3 _ (by omega) (by omega) (by omega) k3 (by rw [List.length_set, hl]) (fun j hj => ?_) (fun j hj => ?_)
        · rw [getD_set_ne2 (by omega)]
          exact hsame j (by omega)
        · by_cases hji : j = i
          · subst hji
            rw [getD_set_eq (by omega), hQ]
            exact ⟨(R.getD j road0).restLo + v1, _, _, rfl, by omega, by omega, by rw [hL]; omega, by rw [hL]; omega, by omega, by omega⟩
          · rw [getD_set_ne2 (by omega)]
            exact hfit j (by omega)
    · rw [if_neg (nlt_nat (by omega))]
      exact ⟨R', p, rfl, hl, fun j hj => hfit j (by omega), hk⟩
theorem fit_ok {F : List Fan} {Dr : List Door} {sF sD : List Int} (hE : EqB F Dr sF sD) (b1 b2 b3 b4 : Bool) {pr fw l : List Int} (P : List Place) {R : List Road} (hI : FitIn R pr fw) (hR : R.length ≤ 50) {p : Int} (hk : cok l p = true) :
    ∃ R2 q, o93 b1 sF b2 sD b3 pr b4 fw l p P R F Dr = some (R2, q) ∧ R2.length = R.length ∧ (∀ j, j < R.length → Fitted F Dr sF sD pr (R.getD j road0) (R2.getD j road0) j (fw.getD j 0)) ∧ cok l q = true := by
  obtain ⟨R2, q, e, h1, h2, h3⟩ := fit0 hE b1 b2 b3 b4 pr fw l P R hI R.length 999 0 p R (by omega) (by omega) (by omega) hk rfl (fun _ _ => rfl) (fun j hj => by omega)
  unfold o93
  have e' : h93_0 999 0 l p P R F Dr b1 sF b2 sD b3 pr b4 fw = _ := e
  rw [h93_eq, e', Option.bind_some]
  exact ⟨R2, q, by simp [decFit], h1, h2, h3⟩
end Go.Proofs.Ytipfipnhgpbceaa.Sx
/- Fans and doors that are made; doubts about their states (plain theorems). -/

set_option linter.unusedVariables false
set_option linter.unusedSimpArgs false
set_option maxRecDepth 100000
namespace Go.Proofs.Ytipfipnhgpbceaa.Sx
open Go Go.RowKit
structure Equip where
  F : List Fan
  D : List Door
  sF : List Int
  sD : List Int
noncomputable def l92 : List (FuncId × Spec) := [(46, c46), (55, c55), (114, c114), (115, c115)]
def k92 : Code → Keep := keepOf [(4, ⟨[0, 1, 4, 5, 6, 7], [], [(1, 2, .fan), (5, 0, .int)]⟩), (9, ⟨[0, 1, 4, 5, 6, 8], [], [(1, 3, .door), (5, 1, .int)]⟩)]
noncomputable def h92_0 (fl : Nat) (t6 : Int) (t7 : Int) (m0_0 : List Int) (m0_1 : Int) (m2 : List Place) (m3 : List Road) (m6 : List Fan) (m7 : List Int) : Option (AV × List Ob) := (evalH (env l92) Try.f92 k92 4 fl (stkF Try.f92 [1, 1, 1, 0, 1, 0]) ⟨[.one (.ptr 0 0), .one (.ptr 1 0), .one (.undef), .one (.undef), .one (.ptr 4 0), .one (.ptr 5 0), .one (.int .i64 t6), .one (.int .i64 t7), .one (.undef), .one (.undef), .one (.undef), .one (.undef), .one (.undef), .one (.undef), .one (.undef), .one (.undef), .one (.undef), .one (.undef), .one (.undef), .one (.undef), .one (.undef), .one (.undef), .one (.undef), .one (.undef), .one (.undef), .one (.undef), .one (.undef), .one (.undef), .one (.undef), .one (.undef), .one (.undef), .one (.undef), .one (.undef), .one (.undef), .one (.undef), .one (.undef), .one (.undef), .one (.undef), .one (.undef), .one (.undef), .one (.undef), .one (.undef), .one (.undef), .one (.undef), .one (.undef), .one (.undef), .one (.undef), .one (.undef), .one (.undef), .one (.undef), .one (.undef), .one (.undef), .one (.undef), .one (.undef), .one (.undef), .one (.undef), .one (.undef), .one (.undef), .one (.undef), .one (.undef), .one (.undef), .one (.undef), .one (.undef), .one (.undef), .one (.undef), .one (.undef), .one (.undef), .one (.undef), .one (.undef), .one (.undef), .one (.undef), .one (.undef), .one (.undef), .one (.undef), .one (.undef), .one (.undef), .one (.undef), .one (.undef), .one (.undef), .one (.undef), .one (.undef), .one (.undef), .one (.undef), .one (.undef), .one (.undef), .one (.undef), .one (.undef), .one (.undef)], [((0, 0), some (.cell (.vec false .u8 m0_0))), ((0, 1), some (.cell (.int .i64 m0_1))), ((1, 0), some (.cell (.row 2))), ((1, 1), some (.cell (.row 3))), ((1, 2), some (.cell (.row 6))), ((1, 3), some (.cell (.nils))), ((2, 0), some (.rows .place m2)), ((3, 0), some (.rows .road m3)), ((4, 0), some (.cell (.nils))), ((4, 1), some (.cell (.nils))), ((5, 0), some (.cell (.row 7))), ((5, 1), some (.cell (.nils))), ((6, 0), some (.rows .fan m6)), ((7, 0), some (.rows .int m7))], 8⟩).den
noncomputable def h92_1 (fl : Nat) (t6 : Int) (t8 : Int) (m0_0 : List Int) (m0_1 : Int) (m2 : List Place) (m3 : List Road) (m6 : List Fan) (m7 : List Door) (m8 : List Int) (m9 : List Int) : Option (AV × List Ob) := (evalH (env l92) Try.f92 k92 4 fl (stkF Try.f92 [1, 1, 1, 1, 0, 1, 0]) ⟨[.one (.ptr 0 0), .one (.ptr 1 0), .one (.undef), .one (.undef), .one (.ptr 4 0), .one (.ptr 5 0), .one (.int .i64 t6), .one (.undef), .one (.int .i64 t8), .one (.undef), .one (.undef), .one (.undef), .one (.undef), .one (.undef), .one (.undef), .one (.undef), .one (.undef), .one (.undef), .one (.undef), .one (.undef), .one (.undef), .one (.undef), .one (.undef), .one (.undef), .one (.undef), .one (.undef), .one (.undef), .one (.undef), .one (.undef), .one (.undef), .one (.undef), .one (.undef), .one (.undef), .one (.undef), .one (.undef), .one (.undef), .one (.undef), .one (.undef), .one (.undef), .one (.undef), .one (.undef), .one (.undef), .one (.undef), .one (.undef), .one (.undef), .one (.undef), .one (.undef), .one (.undef), .one (.undef), .one (.undef), .one (.undef), .one (.undef), .one (.undef), .one (.undef), .one (.undef), .one (.undef), .one (.undef), .one (.undef), .one (.undef), .one (.undef), .one (.undef), .one (.undef), .one (.undef), .one (.undef), .one (.undef), .one (.undef), .one (.undef), .one (.undef), .one (.undef), .one (.undef), .one (.undef), .one (.undef), .one (.undef), .one (.undef), .one (.undef), .one (.undef), .one (.undef), .one (.undef), .one (.undef), .one (.undef), .one (.undef), .one (.undef), .one (.undef), .one (.undef), .one (.undef), .one (.undef), .one (.undef), .one (.undef)], [((0, 0), some (.cell (.vec false .u8 m0_0))), ((0, 1), some (.cell (.int .i64 m0_1))), ((1, 0), some (.cell (.row 2))), ((1, 1), some (.cell (.row 3))), ((1, 2), some (.cell (.row 6))), ((1, 3), some (.cell (.row 7))), ((2, 0), some (.rows .place m2)), ((3, 0), some (.rows .road m3)), ((4, 0), some (.cell (.nils))), ((4, 1), some (.cell (.nils))), ((5, 0), some (.cell (.row 8))), ((5, 1), some (.cell (.row 9))), ((6, 0), some (.rows .fan m6)), ((7, 0), some (.rows .door m7)), ((8, 0), some (.rows .int m8)), ((9, 0), some (.rows .int m9))], 10⟩).den
noncomputable def h92 (fl : Nat) (l : List Int) (p : Int) (P : List Place) (R : List Road) : Option (AV × List Ob) := (evalF (env l92) Try.f92 k92 fl [.one (.ptr 0 0), .one (.ptr 1 0)] [.box [.vec false .u8 l, .int .i64 p], .box [.row 2, .row 3, .nils, .nils], .rows .place P, .rows .road R]).den
theorem h92_eq (fl : Nat) (l : List Int) (p : Int) (P : List Place) (R : List Road) : h92 (fl + 1) l p P R =
    (nextO l p 3).bind fun x2 =>
    h92_0 fl ((↑R.length : Int)) x2.fst l x2.snd P R [] [] := by kernel_rfl
theorem h92_0_eq (fl : Nat) (t6 : Int) (t7 : Int) (m0_0 : List Int) (m0_1 : Int) (m2 : List Place) (m3 : List Road) (m6 : List Fan) (m7 : List Int) : h92_0 (fl + 1) t6 t7 m0_0 m0_1 m2 m3 m6 m7 =
    if (decide (t7 > 0)) = true then if (decide (t6 > 0)) = true then (nextO m0_0 m0_1 t6).bind fun x4 =>
        (oneO m0_0 x4.snd 3).bind fun x5 =>
          (oneO m0_0 x5.snd 3).bind fun x6 =>
            (o114 m0_0 x6.snd).bind fun x7 =>
              if (decide ((m6).length + ([{ road := x4.fst, back := x5.fst, aux := x6.fst, curve := x7.fst : Fan }]).length ≤ lim)) = true then (nextO m0_0 x7.snd 3).bind fun x9 =>
                  if (decide ((m7).length + ([x9.fst]).length ≤ lim)) = true then h92_0 fl t6 (IntKind.i64.wrap (t7 - 1)) m0_0 x9.snd m2 m3 (m6 ++ [{ road := x4.fst, back := x5.fst, aux := x6.fst, curve := x7.fst : Fan }]) (m7 ++ [x9.fst])
                    else none
                else none
      else (nextO m0_0 m0_1 3).bind fun x4 =>
        h92_1 fl t6 x4.fst m0_0 x4.snd m2 m3 m6 [] m7 []
    else (nextO m0_0 m0_1 3).bind fun x3 =>
      h92_1 fl t6 x3.fst m0_0 x3.snd m2 m3 m6 [] m7 [] := by kernel_rfl
theorem h92_1_eq (fl : Nat) (t6 : Int) (t8 : Int) (m0_0 : List Int) (m0_1 : Int) (m2 : List Place) (m3 : List Road) (m6 : List Fan) (m7 : List Door) (m8 : List Int) (m9 : List Int) : h92_1 (fl + 1) t6 t8 m0_0 m0_1 m2 m3 m6 m7 m8 m9 =
    if (decide (t8 > 0)) = true then if (decide (t6 > 0)) = true then (nextO m0_0 m0_1 t6).bind fun x4 =>
        (o115 x4.fst m0_0 x4.snd).bind fun x5 =>
          if (decide ((m7).length + ([{ road := x5.fst.road, other := x5.fst.other, rests := x5.fst.rests : Door }]).length ≤ lim)) = true then (nextO m0_0 x5.snd (↑x5.fst.rests.length : Int)).bind fun x7 =>
              if (decide ((m9).length + ([x7.fst]).length ≤ lim)) = true then h92_1 fl t6 (IntKind.i64.wrap (t8 - 1)) m0_0 x7.snd m2 m3 m6 (m7 ++ [{ road := x5.fst.road, other := x5.fst.other, rests := x5.fst.rests : Door }]) m8 (m9 ++ [x7.fst])
                else none
            else none
      else some (.agg [.row 4, .row 5], [.box [.vec false .u8 m0_0, .int .i64 m0_1], .box [.row 2, .row 3, .row 6, .row 7], .rows .place m2, .rows .road m3, .rows .int m8, .rows .int m9, .rows .fan m6, .rows .door m7])
    else some (.agg [.row 4, .row 5], [.box [.vec false .u8 m0_0, .int .i64 m0_1], .box [.row 2, .row 3, .row 6, .row 7], .rows .place m2, .rows .road m3, .rows .int m8, .rows .int m9, .rows .fan m6, .rows .door m7]) := by kernel_rfl
open Classical in
noncomputable def decEq92 (P : List Place) (R : List Road) (l : List Int) : AV × List Ob → Option (Equip × Int)
  | (.agg [.row 4, .row 5], [.box [.vec false .u8 l', .int .i64 p], .box [.row 2, .row 3, .row 6, .row 7], .rows .place P', .rows .road R', .rows .int a, .rows .int b, .rows .fan F, .rows .door D]) => if l' = l ∧ P' = P ∧ R' = R then some (⟨F, D, a, b⟩, p) else none
  | _ => none
theorem decEq92_ok {P : List Place} {R : List Road} {l : List Int} {y : AV × List Ob} {x : Equip × Int} (h : decEq92 P R l y = some x) : (AV.agg [.row 4, .row 5], [Ob.box [.vec false .u8 l, .int .i64 x.2], .box [.row 2, .row 3, .row 6, .row 7], .rows .place P, .rows .road R, .rows .int x.1.sF, .rows .int x.1.sD, .rows .fan x.1.F, .rows .door x.1.D]) = y := by
  unfold decEq92 at h
  split at h
  · split at h
    · rename_i hl
      obtain ⟨rfl, rfl, rfl⟩ := hl
      cases h
      rfl
    · cases h
  · cases h
noncomputable def o92 (l : List Int) (p : Int) (P : List Place) (R : List Road) : Option (Equip × Int) := (h92 20 l p P R).bind (decEq92 P R l)
noncomputable def c92 : Spec := ⟨false, fun av ob => match av, ob with
  | [.one (.ptr 0 0), .one (.ptr 1 0)], [.box [.vec false .u8 l, .int .i64 p], .box [.row 2, .row 3, .nils, .nils], .rows .place P, .rows .road R] => .call (o92 l p P R) fun x => .ret (.agg [.row 4, .row 5], [.box [.vec false .u8 l, .int .i64 x.2], .box [.row 2, .row 3, .row 6, .row 7], .rows .place P, .rows .road R, .rows .int x.1.sF, .rows .int x.1.sD, .rows .fan x.1.F, .rows .door x.1.D])
  | _, _ => .fail⟩
theorem f92 : FnOK Try.prog 92 := fnOK_of Try.func92 rfl (by kernel_rfl)
theorem pc92 : SpecOK Try.prog 92 c92 := by
  refine spec_le (fun av ob r os hrn => ?_) (machS_ok (env_ok (l := l92) ⟨⟨pc46, f46⟩, ⟨⟨pc55, f55⟩, ⟨⟨pc114, f114⟩, ⟨⟨pc115, f115⟩, trivial⟩⟩⟩⟩) mixed_ok Try.func92 k92 (fun _ _ => 20) false)
  simp only [c92] at hrn
  split at hrn
  · rename_i l p P R
    obtain ⟨x, hx, hr⟩ := Option.bind_eq_some_iff.1 hrn
    cases hr
    obtain ⟨y, hy, hd⟩ := Option.bind_eq_some_iff.1 hx
    unfold h92 at hy
    rw [machS_run, decEq92_ok hd]
    exact hy
  · cases hrn
/-- Fans, doors and their states, so far. -/
structure EqG (n : Nat) (F : List Fan) (D : List Door) (sF sD : List Int) : Prop where
  lf : sF.length = F.length
  ld : sD.length = D.length
  fan : ∀ k, k < F.length → CB (F.getD k fan0).curve ∧ 0 ≤ (F.getD k fan0).road ∧ (F.getD k fan0).road < n ∧ 0 ≤ sF.getD k 0 ∧ sF.getD k 0 ≤ 2
  door : ∀ k, k < D.length → DB (D.getD k door0) (D.getD k door0).road ∧ 0 ≤ (D.getD k door0).road ∧ (D.getD k door0).road < n ∧ 0 ≤ sD.getD k 0 ∧ sD.getD k 0 < (D.getD k door0).rests.length
theorem EqG.addF {n : Nat} {F : List Fan} {D : List Door} {sF sD : List Int} (h : EqG n F D sF sD) {f : Fan} {s : Int} (h1 : CB f.curve) (h2 : 0 ≤ f.road ∧ f.road < n) (h3 : 0 ≤ s ∧ s ≤ 2) : EqG n (F ++ [f]) D (sF ++ [s]) sD where
  lf := by simp [h.lf]
  ld := h.ld
  door := h.door
  fan := fun k hk => by
    have hk' : k < F.length + 1 := by simpa using hk
    by_cases hlt : k < F.length
    · rw [getD_append_lt hlt, getD_append_lt (by rw [h.lf]; exact hlt)]
      exact h.fan k hlt
    · have e : k = F.length := by omega
      have e2 : (sF ++ [s]).getD k 0 = s := by rw [e, ← h.lf]; exact getD_append_len
      rw [e2, e, getD_append_len]
      exact ⟨h1, h2.1, h2.2, h3.1, h3.2⟩
theorem EqG.addD {n : Nat} {F : List Fan} {D : List Door} {sF sD : List Int} (h : EqG n F D sF sD) {d : Door} {s : Int} (h1 : DB d d.road) (h2 : 0 ≤ d.road ∧ d.road < n) (h3 : 0 ≤ s ∧ s < d.rests.length) : EqG n F (D ++ [d]) sF (sD ++ [s]) where
  lf := h.lf
  ld := by simp [h.ld]
  fan := h.fan
  door := fun k hk => by
    have hk' : k < D.length + 1 := by simpa using hk
    by_cases hlt : k < D.length
    · rw [getD_append_lt hlt, getD_append_lt (by rw [h.ld]; exact hlt)]
      exact h.door k hlt
    · have e : k = D.length := by omega
      have e2 : (sD ++ [s]).getD k 0 = s := by rw [e, ← h.ld]; exact getD_append_len
      rw [e2, e, getD_append_len]
      exact ⟨h1, h2.1, h2.2, h3.1, h3.2⟩
theorem EqG.toB {n : Nat} {F : List Fan} {D : List Door} {sF sD : List Int} (h : EqG n F D sF sD) (hf : F.length ≤ 2) (hd : D.length ≤ 2) : EqB F D sF sD :=
  ⟨hf, hd, h.lf, h.ld, fun k hk => (h.fan k hk).1, fun k hk => (h.door k hk).1, fun k hk => ⟨(h.fan k hk).2.2.2.1, (h.fan k hk).2.2.2.2⟩, fun k hk => ⟨(h.door k hk).2.2.2.1, (h.door k hk).2.2.2.2⟩⟩
def resE (l : List Int) (P : List Place) (R : List Road) (q : Int) (F : List Fan) (D : List Door) (sF sD : List Int) : Option (AV × List Ob) :=
  some (.agg [.row 4, .row 5], [.box [.vec false .u8 l, .int .i64 q], .box [.row 2, .row 3, .row 6, .row 7], .rows .place P, .rows .road R, .rows .int sF, .rows .int sD, .rows .fan F, .rows .door D])
theorem equip1 (l : List Int) (P : List Place) (R : List Road) (hR : R.length ≤ 100) : ∀ (m fl : Nat) (p : Int) (F : List Fan) (D : List Door) (sF sD : List Int), cok l p = true → m < fl → D.length + m ≤ 2 → EqG R.length F D sF sD →
    ∃ q D' sD', h92_1 fl R.length m l p P R F D sF sD = resE l P R q F D' sF sD' ∧ cok l q = true ∧ D'.length ≤ 2 ∧ EqG R.length F D' sF sD'
  | 0, fl, p, F, D, sF, sD, hk, hf, hm, hG => by
    obtain ⟨fl, rfl⟩ : ∃ q, fl = q + 1 := ⟨fl - 1, by omega⟩
    exact ⟨p, D, sD, by rw [h92_1_eq, if_neg (by simp)]; rfl, hk, by omega, hG⟩
  | m + 1, fl, p, F, D, sF, sD, hk, hf, hm, hG => by
    obtain ⟨fl, rfl⟩ : ∃ q, fl = q + 1 := ⟨fl - 1, by omega⟩
    rw [h92_1_eq, if_pos (show decide (((m + 1 : Nat) : Int) > 0) = true by simp only [decide_eq_true_eq]; omega)]
    by_cases c : R.length = 0
    · rw [if_neg (show ¬ decide ((R.length : Int) > 0) = true by simp only [decide_eq_true_eq]; omega)]
      exact ⟨p, D, sD, rfl, hk, by omega, hG⟩
    · obtain ⟨v1, p1, e1, a1, b1, k1⟩ := next_ok (n := (R.length : Int)) hk (by omega)
      obtain ⟨d, p2, e2, hd, k2⟩ := door_ok v1 k1
      have hdl := hd.len
      obtain ⟨v3, p3, e3, a3, b3, k3⟩ := next_ok (n := (d.rests.length : Int)) k2 (by omega)
      have w3 : IntKind.i64.wrap (((m + 1 : Nat) : Int) - 1) = (m : Int) := by rw [wid (by omega) (by omega)]; omega
      rw [if_pos (show decide ((R.length : Int) > 0) = true by simp only [decide_eq_true_eq]; omega), e1, Option.bind_some]
      dsimp only
      rw [e2, Option.bind_some]
      dsimp only
      rw [if_pos (show decide (D.length + [_].length ≤ lim) = true by simp [lim]; omega), e3, Option.bind_some]
      dsimp only
      rw [if_pos (show decide (sD.length + [_].length ≤ lim) = true by simp [lim, hG.ld]; omega), w3]
      have hdr : d.road = v1 := hd.road
      exact equip1 l P R hR m fl p3 F (D ++ [d]) sF (sD ++ [v3]) k3 (by omega) (by simp; omega) (hG.addD (by rw [hdr]; exact hd) (by rw [hdr]; omega) ⟨a3, b3⟩)
theorem equip0 (l : List Int) (P : List Place) (R : List Road) (hR : R.length ≤ 100) : ∀ (m fl : Nat) (p : Int) (F : List Fan) (sF : List Int), cok l p = true → m + 6 < fl → F.length + m ≤ 2 → EqG R.length F [] sF [] →
    ∃ q F' D' sF' sD', h92_0 fl R.length m l p P R F sF = resE l P R q F' D' sF' sD' ∧ cok l q = true ∧ F'.length ≤ 2 ∧ D'.length ≤ 2 ∧ EqG R.length F' D' sF' sD' := by
  have fin : ∀ (fl : Nat) (p : Int) (F : List Fan) (sF : List Int), cok l p = true → 5 < fl → F.length ≤ 2 → EqG R.length F [] sF [] → ∃ q F' D' sF' sD', ((nextO l p 3).bind fun x3 => h92_1 fl R.length x3.fst l x3.snd P R F [] sF []) = resE l P R q F' D' sF' sD' ∧ cok l q = true ∧ F'.length ≤ 2 ∧ D'.length ≤ 2 ∧ EqG R.length F' D' sF' sD' := by
    intro fl p F sF hk hf hl hG
    obtain ⟨v1, p1, e1, a1, b1, k1⟩ := next_ok (n := 3) hk (by omega)
    obtain ⟨n, rfl⟩ : ∃ n : Nat, v1 = n := ⟨v1.toNat, by omega⟩
    obtain ⟨q, D', sD', g1, g2, g3, g4⟩ := equip1 l P R hR n fl p1 F [] sF [] k1 (by omega) (by simp; omega) hG
    exact ⟨q, F, D', sF, sD', by rw [e1, Option.bind_some]; exact g1, g2, hl, g3, g4⟩
  intro m
  induction m with
  | zero =>
    intro fl p F sF hk hf hm hG
    obtain ⟨fl, rfl⟩ : ∃ q, fl = q + 1 := ⟨fl - 1, by omega⟩
    rw [h92_0_eq, if_neg (by simp)]
    exact fin fl p F sF hk (by omega) (by omega) hG
  | succ m ih =>
    intro fl p F sF hk hf hm hG
    obtain ⟨fl, rfl⟩ : ∃ q, fl = q + 1 := ⟨fl - 1, by omega⟩
    rw [h92_0_eq, if_pos (show decide (((m + 1 : Nat) : Int) > 0) = true by simp only [decide_eq_true_eq]; omega)]
    by_cases c : R.length = 0
    · rw [if_neg (show ¬ decide ((R.length : Int) > 0) = true by simp only [decide_eq_true_eq]; omega)]
      exact fin fl p F sF hk (by omega) (by omega) hG
    · obtain ⟨v1, p1, e1, a1, b1, k1⟩ := next_ok (n := (R.length : Int)) hk (by omega)
      obtain ⟨v2, p2, e2, k2⟩ := one_ok (n := 3) k1
      obtain ⟨v3, p3, e3, k3⟩ := one_ok (n := 3) k2
      obtain ⟨cv, p4, e4, hc, k4⟩ := curve_ok k3
      obtain ⟨v5, p5, e5, a5, b5, k5⟩ := next_ok (n := 3) k4 (by omega)
      have w3 : IntKind.i64.wrap (((m + 1 : Nat) : Int) - 1) = (m : Int) := by rw [wid (by omega) (by omega)]; omega
      rw [if_pos (show decide ((R.length : Int) > 0) = true by simp only [decide_eq_true_eq]; omega), e1, Option.bind_some]
      dsimp only
      rw [e2, Option.bind_some]
      dsimp only
      rw [e3, Option.bind_some]
      dsimp only
      rw [e4, Option.bind_some]
      dsimp only
      rw [if_pos (show decide (F.length + [_].length ≤ lim) = true by simp [lim]; omega), e5, Option.bind_some]
      dsimp only
      rw [if_pos (show decide (sF.length + [_].length ≤ lim) = true by simp [lim, hG.lf]; omega), w3]
      exact ih fl p5 (F ++ [⟨v1, v2, v3, cv⟩]) (sF ++ [v5]) k5 (by omega) (by simp; omega) (hG.addF hc ⟨a1, b1⟩ (by omega))
theorem equip_ok {l : List Int} {p : Int} (P : List Place) {R : List Road} (hR : R.length ≤ 100) (hk : cok l p = true) : ∃ e q, o92 l p P R = some (e, q) ∧ cok l q = true ∧ e.F.length ≤ 2 ∧ e.D.length ≤ 2 ∧ EqG R.length e.F e.D e.sF e.sD := by
  obtain ⟨v1, p1, e1, a1, b1, k1⟩ := next_ok (n := 3) hk (by omega)
  obtain ⟨n, rfl⟩ : ∃ n : Nat, v1 = n := ⟨v1.toNat, by omega⟩
  obtain ⟨q, F, D, sF, sD, g1, g2, g3, g4, g5⟩ := equip0 l P R hR n 19 p1 [] [] k1 (by omega) (by simp; omega) ⟨rfl, rfl, fun k hk => by simp at hk, fun k hk => by simp at hk⟩
  unfold o92
  rw [h92_eq, e1, Option.bind_some, g1]
  exact ⟨⟨F, D, sF, sD⟩, q, by simp [resE, decEq92], g2, g3, g4, g5⟩
end Go.Proofs.Ytipfipnhgpbceaa.Sx
/- Doubts about states (plain theorems). -/

set_option linter.unusedVariables false
set_option linter.unusedSimpArgs false
set_option maxRecDepth 100000
namespace Go.Proofs.Ytipfipnhgpbceaa.Sx
open Go Go.RowKit
structure Two where
  a : List Int
  b : List Int
noncomputable def l94 : List (FuncId × Spec) := [(55, c55)]
def k94 : Code → Keep := keepOf [(3, ⟨[0, 5, 6, 7, 8], [], [(7, 0, .int)]⟩), (10, ⟨[0, 5, 6, 7, 10], [], [(7, 1, .int)]⟩)]
noncomputable def h94_0 (fl : Nat) (t8 : Int) (m0_0 : List Int) (m0_1 : Int) (m1_0b : Bool) (m1_0 : List Int) (m1_1b : Bool) (m1_1 : List Int) (m4 : List Int) : Option (AV × List Ob) := (evalH (env l94) Try.f94 k94 1 fl (stkF Try.f94 [1, 1, 0, 1, 0]) ⟨[.one (.ptr 0 0), .one (.undef), .one (.undef), .one (.undef), .one (.undef), .one (.ptr 1 0), .one (.ptr 2 0), .one (.ptr 3 0), .one (.int .i64 t8), .one (.undef), .one (.undef), .one (.undef), .one (.undef), .one (.undef), .one (.undef), .one (.undef), .one (.undef), .one (.undef), .one (.undef), .one (.undef), .one (.undef), .one (.undef), .one (.undef), .one (.undef), .one (.undef), .one (.undef), .one (.undef), .one (.undef), .one (.undef), .one (.undef), .one (.undef), .one (.undef), .one (.undef), .one (.undef), .one (.undef), .one (.undef), .one (.undef), .one (.undef), .one (.undef), .one (.undef), .one (.undef), .one (.undef), .one (.undef), .one (.undef), .one (.undef), .one (.undef), .one (.undef), .one (.undef), .one (.undef), .one (.undef), .one (.undef), .one (.undef), .one (.undef)], [((0, 0), some (.cell (.vec false .u8 m0_0))), ((0, 1), some (.cell (.int .i64 m0_1))), ((1, 0), some (.cell (.vec m1_0b .int m1_0))), ((1, 1), some (.cell (.vec m1_1b .int m1_1))), ((2, 0), some (.cell (.nils))), ((2, 1), some (.cell (.nils))), ((3, 0), some (.cell (.row 4))), ((3, 1), some (.cell (.nils))), ((4, 0), some (.rows .int m4))], 5⟩).den
noncomputable def h94_1 (fl : Nat) (t10 : Int) (m0_0 : List Int) (m0_1 : Int) (m1_0b : Bool) (m1_0 : List Int) (m1_1b : Bool) (m1_1 : List Int) (m4 : List Int) (m5 : List Int) : Option (AV × List Ob) := (evalH (env l94) Try.f94 k94 1 fl (stkF Try.f94 [1, 1, 1, 0, 1, 0]) ⟨[.one (.ptr 0 0), .one (.undef), .one (.undef), .one (.undef), .one (.undef), .one (.ptr 1 0), .one (.ptr 2 0), .one (.ptr 3 0), .one (.undef), .one (.undef), .one (.int .i64 t10), .one (.undef), .one (.undef), .one (.undef), .one (.undef), .one (.undef), .one (.undef), .one (.undef), .one (.undef), .one (.undef), .one (.undef), .one (.undef), .one (.undef), .one (.undef), .one (.undef), .one (.undef), .one (.undef), .one (.undef), .one (.undef), .one (.undef), .one (.undef), .one (.undef), .one (.undef), .one (.undef), .one (.undef), .one (.undef), .one (.undef), .one (.undef), .one (.undef), .one (.undef), .one (.undef), .one (.undef), .one (.undef), .one (.undef), .one (.undef), .one (.undef), .one (.undef), .one (.undef), .one (.undef), .one (.undef), .one (.undef), .one (.undef), .one (.undef)], [((0, 0), some (.cell (.vec false .u8 m0_0))), ((0, 1), some (.cell (.int .i64 m0_1))), ((1, 0), some (.cell (.vec m1_0b .int m1_0))), ((1, 1), some (.cell (.vec m1_1b .int m1_1))), ((2, 0), some (.cell (.nils))), ((2, 1), some (.cell (.nils))), ((3, 0), some (.cell (.row 4))), ((3, 1), some (.cell (.row 5))), ((4, 0), some (.rows .int m4)), ((5, 0), some (.rows .int m5))], 6⟩).den
noncomputable def h94 (fl : Nat) (b1 : Bool) (P : List Place) (b2 : Bool) (R : List Road) (b3 : Bool) (F : List Fan) (b4 : Bool) (Dr : List Door) (b5 : Bool) (s1 : List Int) (b6 : Bool) (s2 : List Int) (l : List Int) (p : Int) : Option (AV × List Ob) := (evalF (env l94) Try.f94 k94 fl [.one (.ptr 0 0), .agg [.vec b1 .place P, .vec b2 .road R, .vec b3 .fan F, .vec b4 .door Dr], .agg [.vec b5 .int s1, .vec b6 .int s2]] [.box [.vec false .u8 l, .int .i64 p]]).den
theorem h94_eq (fl : Nat) (b1 : Bool) (P : List Place) (b2 : Bool) (R : List Road) (b3 : Bool) (F : List Fan) (b4 : Bool) (Dr : List Door) (b5 : Bool) (s1 : List Int) (b6 : Bool) (s2 : List Int) (l : List Int) (p : Int) : h94 (fl + 1) b1 P b2 R b3 F b4 Dr b5 s1 b6 s2 l p =
    h94_0 fl 0 l p b5 s1 b6 s2 [] := by kernel_rfl
theorem h94_0_eq (fl : Nat) (t8 : Int) (m0_0 : List Int) (m0_1 : Int) (m1_0b : Bool) (m1_0 : List Int) (m1_1b : Bool) (m1_1 : List Int) (m4 : List Int) : h94_0 (fl + 1) t8 m0_0 m0_1 m1_0b m1_0 m1_1b m1_1 m4 =
    if (decide (t8 < (↑m1_0.length : Int))) = true then if (idx m1_0.length t8) = true then (oneO m0_0 m0_1 5).bind fun x4 =>
        if x4.fst = true then if (decide ((m4).length + ([-1]).length ≤ lim)) = true then h94_0 fl (IntKind.i64.wrap (t8 + 1)) m0_0 x4.snd m1_0b m1_0 m1_1b m1_1 (m4 ++ [-1])
            else none
          else if (decide ((m4).length + ([m1_0.getD t8.toNat (dflt K.int)]).length ≤ lim)) = true then h94_0 fl (IntKind.i64.wrap (t8 + 1)) m0_0 x4.snd m1_0b m1_0 m1_1b m1_1 (m4 ++ [m1_0.getD t8.toNat (dflt K.int)])
            else none
      else none
    else h94_1 fl 0 m0_0 m0_1 m1_0b m1_0 m1_1b m1_1 m4 [] := by kernel_rfl
theorem h94_1_eq (fl : Nat) (t10 : Int) (m0_0 : List Int) (m0_1 : Int) (m1_0b : Bool) (m1_0 : List Int) (m1_1b : Bool) (m1_1 : List Int) (m4 : List Int) (m5 : List Int) : h94_1 (fl + 1) t10 m0_0 m0_1 m1_0b m1_0 m1_1b m1_1 m4 m5 =
    if (decide (t10 < (↑m1_1.length : Int))) = true then if (idx m1_1.length t10) = true then (oneO m0_0 m0_1 5).bind fun x4 =>
        if x4.fst = true then if (decide ((m5).length + ([-1]).length ≤ lim)) = true then h94_1 fl (IntKind.i64.wrap (t10 + 1)) m0_0 x4.snd m1_0b m1_0 m1_1b m1_1 m4 (m5 ++ [-1])
            else none
          else if (decide ((m5).length + ([m1_1.getD t10.toNat (dflt K.int)]).length ≤ lim)) = true then h94_1 fl (IntKind.i64.wrap (t10 + 1)) m0_0 x4.snd m1_0b m1_0 m1_1b m1_1 m4 (m5 ++ [m1_1.getD t10.toNat (dflt K.int)])
            else none
      else none
    else some (.agg [.row 1, .row 2], [.box [.vec false .u8 m0_0, .int .i64 m0_1], .rows .int m4, .rows .int m5]) := by kernel_rfl
def decTwo (l : List Int) : AV × List Ob → Option (Two × Int)
  | (.agg [s, s'], .box [.vec false .u8 l', .int .i64 p] :: os) => if l' = l then (match slO .int 1 (.box [.vec false .u8 l', .int .i64 p] :: os) s, slO .int 1 (.box [.vec false .u8 l', .int .i64 p] :: os) s' with | some d, some d' => some (⟨d, d'⟩, p) | _, _ => none) else none
  | _ => none
theorem decTwo_ok {l : List Int} {y : AV × List Ob} {x : Two × Int} (h : decTwo l y = some x) : [Ob.box [.vec false .u8 l, .int .i64 x.2]] = y.2.take 1 ∧ TA y.2 1 y.1 (.agg [.vec false .int x.1.a, .vec false .int x.1.b]) := by
  unfold decTwo at h
  split at h
  · split at h
    · rename_i hl
      subst hl
      split at h
      · rename_i d d' hd hd'
        cases h
        exact ⟨rfl, .agg _ _ ⟨slO_ok hd, slO_ok hd', trivial⟩⟩
      · cases h
    · cases h
  · cases h
noncomputable def o94 (b1 : Bool) (P : List Place) (b2 : Bool) (R : List Road) (b3 : Bool) (F : List Fan) (b4 : Bool) (Dr : List Door) (b5 : Bool) (s1 : List Int) (b6 : Bool) (s2 : List Int) (l : List Int) (p : Int) : Option (Two × Int) := (h94 100 b1 P b2 R b3 F b4 Dr b5 s1 b6 s2 l p).bind (decTwo l)
noncomputable def c94 : Spec := ⟨false, fun av ob => match av, ob with
  | [.one (.ptr 0 0), .agg [.vec b1 .place P, .vec b2 .road R, .vec b3 .fan F, .vec b4 .door Dr], .agg [.vec b5 .int s1, .vec b6 .int s2]], [.box [.vec false .u8 l, .int .i64 p]] => .call (o94 b1 P b2 R b3 F b4 Dr b5 s1 b6 s2 l p) fun x => .ret (.agg [.vec false .int x.1.a, .vec false .int x.1.b], [.box [.vec false .u8 l, .int .i64 x.2]])
  | _, _ => .fail⟩
theorem f94 : FnOK Try.prog 94 := fnOK_of Try.func94 rfl (by kernel_rfl)
theorem pc94 : SpecOK Try.prog 94 c94 := by
  refine spec_thaw (fun av ob r os hrn => ?_) (machS_ok (env_ok (l := l94) ⟨⟨pc55, f55⟩, trivial⟩) mixed_ok Try.func94 k94 (fun _ _ => 100) false)
  simp only [c94] at hrn
  split at hrn
  · rename_i b1 P b2 R b3 F b4 Dr b5 s1 b6 s2 l p
    obtain ⟨x, hx, hr⟩ := Option.bind_eq_some_iff.1 hrn
    cases hr
    obtain ⟨y, hy, hd⟩ := Option.bind_eq_some_iff.1 hx
    unfold h94 at hy
    obtain ⟨d1, d2⟩ := decTwo_ok hd
    exact ⟨y.1, y.2, by rw [machS_run]; exact hy, d1, d2⟩
  · cases hrn
/-- States of which some are not known. -/
def Doubt (s o : List Int) : Prop := o.length = s.length ∧ ∀ k, k < s.length → o.getD k 0 = s.getD k 0 ∨ o.getD k 0 = -1
def Doubt1 (s o : List Int) (i : Nat) : Prop := o.length = i ∧ ∀ k, k < i → o.getD k 0 = s.getD k 0 ∨ o.getD k 0 = -1
theorem Doubt1.add {s o : List Int} {i : Nat} (h : Doubt1 s o i) {x : Int} (hx : x = s.getD i 0 ∨ x = -1) : Doubt1 s (o ++ [x]) (i + 1) := by
  refine ⟨by simp [h.1], fun k hk => ?_⟩
  by_cases hlt : k < i
  · rw [getD_append_lt (by rw [h.1]; exact hlt)]
    exact h.2 k hlt
  · have : k = o.length := by rw [h.1]; omega
    subst this
    rw [getD_append_len, h.1]
    exact hx
theorem doubt1 (l s1 s2 : List Int) (b5 b6 : Bool) (h2 : s2.length ≤ 20) (m4 : List Int) : ∀ (d fl i : Nat) (p : Int) (o : List Int), s2.length - i = d → i ≤ s2.length → d < fl → cok l p = true → Doubt1 s2 o i →
    ∃ q o', h94_1 fl i l p b5 s1 b6 s2 m4 o = some (.agg [.row 1, .row 2], [.box [.vec false .u8 l, .int .i64 q], .rows .int m4, .rows .int o']) ∧ cok l q = true ∧ Doubt s2 o'
  | d, fl, i, p, o, hd, hi, hf, hk, ho => by
    obtain ⟨fl, rfl⟩ : ∃ q, fl = q + 1 := ⟨fl - 1, by omega⟩
    rw [h94_1_eq]
    have e1 : ((i : Int)).toNat = i := Int.toNat_natCast i
    have hi0 : (dflt K.int) = (0 : Int) := rfl
    by_cases hlt : i < s2.length
    · obtain ⟨v, p1, e2, k1⟩ := one_ok (n := 5) hk
      rw [if_pos (lt_nat hlt), if_pos (idx_nat hlt), e2, Option.bind_some, e1, hi0, wr_succ (by omega)]
      dsimp only
      have hl : ∀ x : Int, decide (o.length + [x].length ≤ lim) = true := fun x => by simp [lim, ho.1]; omega
      cases d with
      | zero => omega
      | succ d =>
        cases v
        · rw [if_neg (by simp), if_pos (hl _)]
          exact doubt1 l s1 s2 b5 b6 h2 m4 d fl (i + 1) p1 _ (by omega) (by omega) (by omega) k1 (ho.add (.inl rfl))
        · rw [if_pos rfl, if_pos (hl _)]
          exact doubt1 l s1 s2 b5 b6 h2 m4 d fl (i + 1) p1 _ (by omega) (by omega) (by omega) k1 (ho.add (.inr rfl))
    · have : i = s2.length := by omega
      subst this
      rw [if_neg (nlt_nat hlt)]
      exact ⟨p, o, rfl, hk, ho⟩
theorem doubt0 (l s1 s2 : List Int) (b5 b6 : Bool) (h1 : s1.length ≤ 20) (h2 : s2.length ≤ 20) : ∀ (d fl i : Nat) (p : Int) (o : List Int), s1.length - i = d → i ≤ s1.length → d + 30 < fl → cok l p = true → Doubt1 s1 o i →
    ∃ q o' o'', h94_0 fl i l p b5 s1 b6 s2 o = some (.agg [.row 1, .row 2], [.box [.vec false .u8 l, .int .i64 q], .rows .int o', .rows .int o'']) ∧ cok l q = true ∧ Doubt s1 o' ∧ Doubt s2 o''
  | d, fl, i, p, o, hd, hi, hf, hk, ho => by
    obtain ⟨fl, rfl⟩ : ∃ q, fl = q + 1 := ⟨fl - 1, by omega⟩
    rw [h94_0_eq]
    have e1 : ((i : Int)).toNat = i := Int.toNat_natCast i
    have hi0 : (dflt K.int) = (0 : Int) := rfl
    by_cases hlt : i < s1.length
    · obtain ⟨v, p1, e2, k1⟩ := one_ok (n := 5) hk
      rw [if_pos (lt_nat hlt), if_pos (idx_nat hlt), e2, Option.bind_some, e1, hi0, wr_succ (by omega)]
      dsimp only
      have hl : ∀ x : Int, decide (o.length + [x].length ≤ lim) = true := fun x => by simp [lim, ho.1]; omega
      cases d with
      | zero => omega
      | succ d =>
        cases v
        · rw [if_neg (by simp), if_pos (hl _)]
          exact doubt0 l s1 s2 b5 b6 h1 h2 d fl (i + 1) p1 _ (by omega) (by omega) (by omega) k1 (ho.add (.inl rfl))
        · rw [if_pos rfl, if_pos (hl _)]
          exact doubt0 l s1 s2 b5 b6 h1 h2 d fl (i + 1) p1 _ (by omega) (by omega) (by omega) k1 (ho.add (.inr rfl))
    · have : i = s1.length := by omega
      subst this
      rw [if_neg (nlt_nat hlt)]
      obtain ⟨q, o2, g1, g2, g3⟩ := doubt1 l s1 s2 b5 b6 h2 o s2.length fl 0 p [] (by omega) (by omega) (by omega) hk ⟨rfl, fun k hk => by omega⟩
      exact ⟨q, o, o2, g1, g2, ho, g3⟩
theorem doubts_ok {l : List Int} {p : Int} (b1 : Bool) (P : List Place) (b2 : Bool) (R : List Road) (b3 : Bool) (F : List Fan) (b4 : Bool) (Dr : List Door) (b5 : Bool) {s1 : List Int} (b6 : Bool) {s2 : List Int} (h1 : s1.length ≤ 20) (h2 : s2.length ≤ 20) (hk : cok l p = true) :
    ∃ t q, o94 b1 P b2 R b3 F b4 Dr b5 s1 b6 s2 l p = some (t, q) ∧ cok l q = true ∧ Doubt s1 t.a ∧ Doubt s2 t.b := by
  obtain ⟨q, o1, o2, g1, g2, g3, g4⟩ := doubt0 l s1 s2 b5 b6 h1 h2 s1.length 99 0 p [] (by omega) (by omega) (by omega) hk ⟨rfl, fun k hk => by omega⟩
  have g1' : h94_0 99 0 l p b5 s1 b6 s2 [] = _ := g1
  unfold o94
  rw [h94_eq, g1', Option.bind_some]
  exact ⟨⟨o1, o2⟩, q, by simp [decTwo, slO], g2, g3, g4⟩
end Go.Proofs.Ytipfipnhgpbceaa.Sx
/- The air of a mine that is made, with a state that fits (plain theorems). -/

set_option linter.unusedVariables false
set_option linter.unusedSimpArgs false
set_option maxRecDepth 100000
namespace Go.Proofs.Ytipfipnhgpbceaa.Sx
open Go Go.RowKit
structure MadeX where
  P : List Place
  R : List Road
  F : List Fan
  D : List Door
  sF : List Int
  sD : List Int
  pr : List Int
  fw : List Int
/-- What flows out of a place, less what flows in. -/
def netAt : List Road → List Int → Int → Int
  | r :: R, q :: fw, i => (if r.frm = i then q else 0) - (if r.to = i then q else 0) + netAt R fw i
  | _, _, _ => 0
theorem netAt_append : ∀ (R : List Road) (fw : List Int) (r : Road) (q i : Int), fw.length = R.length → netAt (R ++ [r]) (fw ++ [q]) i = netAt R fw i + ((if r.frm = i then q else 0) - (if r.to = i then q else 0))
  | [], [], r, q, i, _ => by simp [netAt]
  | x :: R, y :: fw, r, q, i, h => by
    have := netAt_append R fw r q i (by simpa using h)
    simp only [List.cons_append, netAt, this]
    omega
  | [], _ :: _, _, _, _, h => by simp at h
  | _ :: _, [], _, _, _, h => by simp at h
structure PlaceG (s : Nat) (P : List Place) : Prop where
  h : ∀ k, k < P.length → -100 ≤ (P.getD k place0).height ∧ (P.getD k place0).height ≤ 10
  surf : ∀ k, k < P.length → (P.getD k place0).surface = decide (k < s)
structure RoadG (n : Nat) (r : Road) (q : Int) : Prop where
  frm : 0 ≤ r.frm ∧ r.frm < n
  to : 0 ≤ r.to ∧ r.to < n
  ne : r.frm ≠ r.to
  len : 1 ≤ r.len ∧ r.len ≤ 400
  area : 4 ≤ r.area ∧ r.area ≤ 30
  rest : 1 ≤ r.restLo ∧ r.restLo ≤ r.restHi ∧ r.restHi ≤ 22
  flow : -300 ≤ q ∧ q ≤ 300
  shut : r.closed = true → q = 0
/-- Roads and flows, so far. -/
structure NetG (n : Nat) (R : List Road) (fw : List Int) : Prop where
  len : fw.length = R.length
  road : ∀ k, k < R.length → RoadG n (R.getD k road0) (fw.getD k 0)
theorem NetG.add {n : Nat} {R : List Road} {fw : List Int} (h : NetG n R fw) {r : Road} {q : Int} (hr : RoadG n r q) : NetG n (R ++ [r]) (fw ++ [q]) where
  len := by simp [h.len]
  road := fun k hk => by
    have hk' : k < R.length + 1 := by simpa using hk
    by_cases hlt : k < R.length
    · rw [getD_append_lt hlt, getD_append_lt (by rw [h.len]; exact hlt)]
      exact h.road k hlt
    · have e : k = R.length := by omega
      have e2 : (fw ++ [q]).getD k 0 = q := by rw [e, ← h.len]; exact getD_append_len
      rw [e2, e, getD_append_len]
      exact hr
/-- A made air. -/
structure MadeB (x : MadeX) : Prop where
  n : 1 ≤ x.P.length ∧ x.P.length ≤ 6
  m : x.R.length ≤ 9
  shafts : ∃ s, 1 ≤ s ∧ s ≤ 2 ∧ s ≤ x.P.length ∧ PlaceG s x.P ∧ (∀ k, k < s → x.pr.getD k 0 = 0) ∧ (∀ k, s ≤ k → k < x.P.length → netAt x.R x.fw k = 0)
  plen : x.pr.length = x.P.length
  pres : ∀ k, -4000 ≤ x.pr.getD k 0 ∧ x.pr.getD k 0 ≤ 4000
  net : NetG x.P.length x.R x.fw
  lift : ∀ k, k < x.R.length → -1000000000000 ≤ (x.R.getD k road0).liftLo ∧ (x.R.getD k road0).liftLo ≤ (x.R.getD k road0).liftHi ∧ (x.R.getD k road0).liftHi ≤ 1000000000000
  equip : ∃ sF sD, x.F.length ≤ 2 ∧ x.D.length ≤ 2 ∧ EqG x.R.length x.F x.D sF sD ∧ Doubt sF x.sF ∧ Doubt sD x.sD ∧
    ∀ k, k < x.R.length → ∃ rest, (x.R.getD k road0).restLo ≤ rest ∧ rest ≤ (x.R.getD k road0).restHi ∧ (x.R.getD k road0).liftLo ≤ liftL x.F x.D sF sD x.pr (x.R.getD k road0) k (x.fw.getD k 0) rest ∧ liftL x.F x.D sF sD x.pr (x.R.getD k road0) k (x.fw.getD k 0) rest ≤ (x.R.getD k road0).liftHi
noncomputable def l43 : List (FuncId × Spec) := [(55, c55), (46, c46), (32, c32), (91, c91), (92, c92), (93, c93), (94, c94)]
def k43 : Code → Keep := keepOf [(6, ⟨[0, 2, 3, 4, 5, 6, 7], [], []⟩), (12, ⟨[0, 2, 3, 4, 5, 6, 8, 9, 10], [], []⟩), (18, ⟨[0, 2, 3, 4, 5, 6, 8, 9, 11, 12], [], [(5, 1, .road), (9, 1, .int)]⟩), (30, ⟨[0, 2, 3, 4, 5, 6, 8, 9, 11, 16], [], [(5, 1, .road), (9, 1, .int)]⟩)]
noncomputable def h43_0 (fl : Nat) (t6 : Int) (t7 : Int) (m0_0 : List Int) (m0_1 : Int) (m5 : List Place) : Option (AV × List Ob) := (evalH (env l43) Try.f43 k43 1 fl (stkF Try.f43 [1, 1, 1, 1, 0, 1, 0]) ⟨[.one (.ptr 0 0), .one (.undef), .one (.ptr 1 0), .one (.ptr 2 0), .one (.ptr 3 0), .one (.ptr 4 0), .one (.int .i64 t6), .one (.int .i64 t7), .one (.undef), .one (.undef), .one (.undef), .one (.undef), .one (.undef), .one (.undef), .one (.undef), .one (.undef), .one (.undef), .one (.undef), .one (.undef), .one (.undef), .one (.undef), .one (.undef), .one (.undef), .one (.undef), .one (.undef), .one (.undef), .one (.undef), .one (.undef), .one (.undef), .one (.undef), .one (.undef), .one (.undef), .one (.undef), .one (.undef), .one (.undef), .one (.undef), .one (.undef), .one (.undef), .one (.undef), .one (.undef), .one (.undef), .one (.undef), .one (.undef), .one (.undef), .one (.undef), .one (.undef), .one (.undef), .one (.undef), .one (.undef), .one (.undef), .one (.undef), .one (.undef), .one (.undef), .one (.undef), .one (.undef), .one (.undef), .one (.undef), .one (.undef), .one (.undef), .one (.undef), .one (.undef), .one (.undef), .one (.undef), .one (.undef), .one (.undef), .one (.undef), .one (.undef), .one (.undef), .one (.undef), .one (.undef), .one (.undef), .one (.undef), .one (.undef), .one (.undef), .one (.undef), .one (.undef), .one (.undef), .one (.undef), .one (.undef), .one (.undef), .one (.undef), .one (.undef), .one (.undef), .one (.undef), .one (.undef), .one (.undef), .one (.undef), .one (.undef), .one (.undef), .one (.undef), .one (.undef), .one (.undef), .one (.undef), .one (.undef), .one (.undef), .one (.undef), .one (.undef), .one (.undef), .one (.undef), .one (.undef), .one (.undef), .one (.undef), .one (.undef), .one (.undef), .one (.undef), .one (.undef), .one (.undef), .one (.undef), .one (.undef), .one (.undef), .one (.undef), .one (.undef), .one (.undef), .one (.undef), .one (.undef), .one (.undef), .one (.undef), .one (.undef), .one (.undef), .one (.undef), .one (.undef), .one (.undef), .one (.undef), .one (.undef), .one (.undef), .one (.undef), .one (.undef), .one (.undef), .one (.undef), .one (.undef), .one (.undef), .one (.undef), .one (.undef), .one (.undef), .one (.undef), .one (.undef), .one (.undef), .one (.undef), .one (.undef), .one (.undef), .one (.undef), .one (.undef), .one (.undef), .one (.undef), .one (.undef), .one (.undef), .one (.undef), .one (.undef), .one (.undef), .one (.undef), .one (.undef), .one (.undef), .one (.undef), .one (.undef), .one (.undef), .one (.undef), .one (.undef), .one (.undef), .one (.undef), .one (.undef), .one (.undef), .one (.undef), .one (.undef), .one (.undef), .one (.undef), .one (.undef), .one (.undef), .one (.undef), .one (.undef), .one (.undef), .one (.undef), .one (.undef), .one (.undef), .one (.undef), .one (.undef), .one (.undef), .one (.undef), .one (.undef), .one (.undef), .one (.undef), .one (.undef), .one (.undef), .one (.undef), .one (.undef), .one (.undef), .one (.undef), .one (.undef), .one (.undef), .one (.undef)], [((0, 0), some (.cell (.vec false .u8 m0_0))), ((0, 1), some (.cell (.int .i64 m0_1))), ((1, 0), some (.cell (.nils))), ((1, 1), some (.cell (.nils))), ((1, 2), some (.cell (.nils))), ((1, 3), some (.cell (.nils))), ((2, 0), some (.cell (.nils))), ((2, 1), some (.cell (.nils))), ((3, 0), some (.cell (.nils))), ((3, 1), some (.cell (.nils))), ((4, 0), some (.cell (.row 5))), ((4, 1), some (.cell (.nils))), ((4, 2), some (.cell (.nils))), ((4, 3), some (.cell (.nils))), ((5, 0), some (.rows .place m5))], 6⟩).den
noncomputable def h43_1 (fl : Nat) (t6 : Int) (t8 : Int) (t10 : Int) (m0_0 : List Int) (m0_1 : Int) (m6 : List Place) (m7 : List Int) : Option (AV × List Ob) := (evalH (env l43) Try.f43 k43 1 fl (stkF Try.f43 [1, 1, 1, 1, 1, 1, 1, 0, 1, 0]) ⟨[.one (.ptr 0 0), .one (.undef), .one (.ptr 1 0), .one (.ptr 2 0), .one (.ptr 3 0), .one (.ptr 4 0), .one (.int .i64 t6), .one (.undef), .one (.int .i64 t8), .one (.ptr 5 0), .one (.int .i64 t10), .one (.undef), .one (.undef), .one (.undef), .one (.undef), .one (.undef), .one (.undef), .one (.undef), .one (.undef), .one (.undef), .one (.undef), .one (.undef), .one (.undef), .one (.undef), .one (.undef), .one (.undef), .one (.undef), .one (.undef), .one (.undef), .one (.undef), .one (.undef), .one (.undef), .one (.undef), .one (.undef), .one (.undef), .one (.undef), .one (.undef), .one (.undef), .one (.undef), .one (.undef), .one (.undef), .one (.undef), .one (.undef), .one (.undef), .one (.undef), .one (.undef), .one (.undef), .one (.undef), .one (.undef), .one (.undef), .one (.undef), .one (.undef), .one (.undef), .one (.undef), .one (.undef), .one (.undef), .one (.undef), .one (.undef), .one (.undef), .one (.undef), .one (.undef), .one (.undef), .one (.undef), .one (.undef), .one (.undef), .one (.undef), .one (.undef), .one (.undef), .one (.undef), .one (.undef), .one (.undef), .one (.undef), .one (.undef), .one (.undef), .one (.undef), .one (.undef), .one (.undef), .one (.undef), .one (.undef), .one (.undef), .one (.undef), .one (.undef), .one (.undef), .one (.undef), .one (.undef), .one (.undef), .one (.undef), .one (.undef), .one (.undef), .one (.undef), .one (.undef), .one (.undef), .one (.undef), .one (.undef), .one (.undef), .one (.undef), .one (.undef), .one (.undef), .one (.undef), .one (.undef), .one (.undef), .one (.undef), .one (.undef), .one (.undef), .one (.undef), .one (.undef), .one (.undef), .one (.undef), .one (.undef), .one (.undef), .one (.undef), .one (.undef), .one (.undef), .one (.undef), .one (.undef), .one (.undef), .one (.undef), .one (.undef), .one (.undef), .one (.undef), .one (.undef), .one (.undef), .one (.undef), .one (.undef), .one (.undef), .one (.undef), .one (.undef), .one (.undef), .one (.undef), .one (.undef), .one (.undef), .one (.undef), .one (.undef), .one (.undef), .one (.undef), .one (.undef), .one (.undef), .one (.undef), .one (.undef), .one (.undef), .one (.undef), .one (.undef), .one (.undef), .one (.undef), .one (.undef), .one (.undef), .one (.undef), .one (.undef), .one (.undef), .one (.undef), .one (.undef), .one (.undef), .one (.undef), .one (.undef), .one (.undef), .one (.undef), .one (.undef), .one (.undef), .one (.undef), .one (.undef), .one (.undef), .one (.undef), .one (.undef), .one (.undef), .one (.undef), .one (.undef), .one (.undef), .one (.undef), .one (.undef), .one (.undef), .one (.undef), .one (.undef), .one (.undef), .one (.undef), .one (.undef), .one (.undef), .one (.undef), .one (.undef), .one (.undef), .one (.undef), .one (.undef), .one (.undef), .one (.undef), .one (.undef), .one (.undef), .one (.undef), .one (.undef), .one (.undef), .one (.undef)], [((0, 0), some (.cell (.vec false .u8 m0_0))), ((0, 1), some (.cell (.int .i64 m0_1))), ((1, 0), some (.cell (.nils))), ((1, 1), some (.cell (.nils))), ((1, 2), some (.cell (.nils))), ((1, 3), some (.cell (.nils))), ((2, 0), some (.cell (.nils))), ((2, 1), some (.cell (.nils))), ((3, 0), some (.cell (.nils))), ((3, 1), some (.cell (.nils))), ((4, 0), some (.cell (.row 6))), ((4, 1), some (.cell (.nils))), ((4, 2), some (.cell (.nils))), ((4, 3), some (.cell (.nils))), ((5, 0), some (.cell (.row 7))), ((5, 1), some (.cell (.nils))), ((6, 0), some (.rows .place m6)), ((7, 0), some (.rows .int m7))], 8⟩).den
noncomputable def h43_2 (fl : Nat) (t6 : Int) (t8 : Int) (t12 : Int) (m0_0 : List Int) (m0_1 : Int) (m6 : List Int) (m7 : List Place) (m8 : List Road) (m9 : List Int) (m10 : List Int) : Option (AV × List Ob) := (evalH (env l43) Try.f43 k43 1 fl (stkF Try.f43 [1, 1, 1, 1, 1, 1, 1, 1, 1, 0, 1, 0, 1, 0]) ⟨[.one (.ptr 0 0), .one (.undef), .one (.ptr 1 0), .one (.ptr 2 0), .one (.ptr 3 0), .one (.ptr 4 0), .one (.int .i64 t6), .one (.undef), .one (.int .i64 t8), .one (.ptr 5 0), .one (.undef), .one (.row 6), .one (.int .i64 t12), .one (.undef), .one (.undef), .one (.undef), .one (.undef), .one (.undef), .one (.undef), .one (.undef), .one (.undef), .one (.undef), .one (.undef), .one (.undef), .one (.undef), .one (.undef), .one (.undef), .one (.undef), .one (.undef), .one (.undef), .one (.undef), .one (.undef), .one (.undef), .one (.undef), .one (.undef), .one (.undef), .one (.undef), .one (.undef), .one (.undef), .one (.undef), .one (.undef), .one (.undef), .one (.undef), .one (.undef), .one (.undef), .one (.undef), .one (.undef), .one (.undef), .one (.undef), .one (.undef), .one (.undef), .one (.undef), .one (.undef), .one (.undef), .one (.undef), .one (.undef), .one (.undef), .one (.undef), .one (.undef), .one (.undef), .one (.undef), .one (.undef), .one (.undef), .one (.undef), .one (.undef), .one (.undef), .one (.undef), .one (.undef), .one (.undef), .one (.undef), .one (.undef), .one (.undef), .one (.undef), .one (.undef), .one (.undef), .one (.undef), .one (.undef), .one (.undef), .one (.undef), .one (.undef), .one (.undef), .one (.undef), .one (.undef), .one (.undef), .one (.undef), .one (.undef), .one (.undef), .one (.undef), .one (.undef), .one (.undef), .one (.undef), .one (.undef), .one (.undef), .one (.undef), .one (.undef), .one (.undef), .one (.undef), .one (.undef), .one (.undef), .one (.undef), .one (.undef), .one (.undef), .one (.undef), .one (.undef), .one (.undef), .one (.undef), .one (.undef), .one (.undef), .one (.undef), .one (.undef), .one (.undef), .one (.undef), .one (.undef), .one (.undef), .one (.undef), .one (.undef), .one (.undef), .one (.undef), .one (.undef), .one (.undef), .one (.undef), .one (.undef), .one (.undef), .one (.undef), .one (.undef), .one (.undef), .one (.undef), .one (.undef), .one (.undef), .one (.undef), .one (.undef), .one (.undef), .one (.undef), .one (.undef), .one (.undef), .one (.undef), .one (.undef), .one (.undef), .one (.undef), .one (.undef), .one (.undef), .one (.undef), .one (.undef), .one (.undef), .one (.undef), .one (.undef), .one (.undef), .one (.undef), .one (.undef), .one (.undef), .one (.undef), .one (.undef), .one (.undef), .one (.undef), .one (.undef), .one (.undef), .one (.undef), .one (.undef), .one (.undef), .one (.undef), .one (.undef), .one (.undef), .one (.undef), .one (.undef), .one (.undef), .one (.undef), .one (.undef), .one (.undef), .one (.undef), .one (.undef), .one (.undef), .one (.undef), .one (.undef), .one (.undef), .one (.undef), .one (.undef), .one (.undef), .one (.undef), .one (.undef), .one (.undef), .one (.undef), .one (.undef), .one (.undef), .one (.undef), .one (.undef), .one (.undef), .one (.undef), .one (.undef), .one (.undef)], [((0, 0), some (.cell (.vec false .u8 m0_0))), ((0, 1), some (.cell (.int .i64 m0_1))), ((1, 0), some (.cell (.nils))), ((1, 1), some (.cell (.nils))), ((1, 2), some (.cell (.nils))), ((1, 3), some (.cell (.nils))), ((2, 0), some (.cell (.nils))), ((2, 1), some (.cell (.nils))), ((3, 0), some (.cell (.nils))), ((3, 1), some (.cell (.nils))), ((4, 0), some (.cell (.row 7))), ((4, 1), some (.cell (.row 8))), ((4, 2), some (.cell (.nils))), ((4, 3), some (.cell (.nils))), ((5, 0), some (.cell (.row 9))), ((5, 1), some (.cell (.row 10))), ((6, 0), some (.rows .int m6)), ((7, 0), some (.rows .place m7)), ((8, 0), some (.rows .road m8)), ((9, 0), some (.rows .int m9)), ((10, 0), some (.rows .int m10))], 11⟩).den
noncomputable def h43_3 (fl : Nat) (t6 : Int) (t8 : Int) (t16 : Int) (m0_0 : List Int) (m0_1 : Int) (m6 : List Int) (m7 : List Place) (m8 : List Road) (m9 : List Int) (m10 : List Int) : Option (AV × List Ob) := (evalH (env l43) Try.f43 k43 1 fl (stkF Try.f43 [1, 1, 1, 1, 1, 1, 1, 1, 1, 1, 0, 1, 0]) ⟨[.one (.ptr 0 0), .one (.undef), .one (.ptr 1 0), .one (.ptr 2 0), .one (.ptr 3 0), .one (.ptr 4 0), .one (.int .i64 t6), .one (.undef), .one (.int .i64 t8), .one (.ptr 5 0), .one (.undef), .one (.row 6), .one (.undef), .one (.undef), .one (.undef), .one (.undef), .one (.int .i64 t16), .one (.undef), .one (.undef), .one (.undef), .one (.undef), .one (.undef), .one (.undef), .one (.undef), .one (.undef), .one (.undef), .one (.undef), .one (.undef), .one (.undef), .one (.undef), .one (.undef), .one (.undef), .one (.undef), .one (.undef), .one (.undef), .one (.undef), .one (.undef), .one (.undef), .one (.undef), .one (.undef), .one (.undef), .one (.undef), .one (.undef), .one (.undef), .one (.undef), .one (.undef), .one (.undef), .one (.undef), .one (.undef), .one (.undef), .one (.undef), .one (.undef), .one (.undef), .one (.undef), .one (.undef), .one (.undef), .one (.undef), .one (.undef), .one (.undef), .one (.undef), .one (.undef), .one (.undef), .one (.undef), .one (.undef), .one (.undef), .one (.undef), .one (.undef), .one (.undef), .one (.undef), .one (.undef), .one (.undef), .one (.undef), .one (.undef), .one (.undef), .one (.undef), .one (.undef), .one (.undef), .one (.undef), .one (.undef), .one (.undef), .one (.undef), .one (.undef), .one (.undef), .one (.undef), .one (.undef), .one (.undef), .one (.undef), .one (.undef), .one (.undef), .one (.undef), .one (.undef), .one (.undef), .one (.undef), .one (.undef), .one (.undef), .one (.undef), .one (.undef), .one (.undef), .one (.undef), .one (.undef), .one (.undef), .one (.undef), .one (.undef), .one (.undef), .one (.undef), .one (.undef), .one (.undef), .one (.undef), .one (.undef), .one (.undef), .one (.undef), .one (.undef), .one (.undef), .one (.undef), .one (.undef), .one (.undef), .one (.undef), .one (.undef), .one (.undef), .one (.undef), .one (.undef), .one (.undef), .one (.undef), .one (.undef), .one (.undef), .one (.undef), .one (.undef), .one (.undef), .one (.undef), .one (.undef), .one (.undef), .one (.undef), .one (.undef), .one (.undef), .one (.undef), .one (.undef), .one (.undef), .one (.undef), .one (.undef), .one (.undef), .one (.undef), .one (.undef), .one (.undef), .one (.undef), .one (.undef), .one (.undef), .one (.undef), .one (.undef), .one (.undef), .one (.undef), .one (.undef), .one (.undef), .one (.undef), .one (.undef), .one (.undef), .one (.undef), .one (.undef), .one (.undef), .one (.undef), .one (.undef), .one (.undef), .one (.undef), .one (.undef), .one (.undef), .one (.undef), .one (.undef), .one (.undef), .one (.undef), .one (.undef), .one (.undef), .one (.undef), .one (.undef), .one (.undef), .one (.undef), .one (.undef), .one (.undef), .one (.undef), .one (.undef), .one (.undef), .one (.undef), .one (.undef), .one (.undef), .one (.undef), .one (.undef), .one (.undef), .one (.undef), .one (.undef), .one (.undef), .one (.undef)], [((0, 0), some (.cell (.vec false .u8 m0_0))), ((0, 1), some (.cell (.int .i64 m0_1))), ((1, 0), some (.cell (.nils))), ((1, 1), some (.cell (.nils))), ((1, 2), some (.cell (.nils))), ((1, 3), some (.cell (.nils))), ((2, 0), some (.cell (.nils))), ((2, 1), some (.cell (.nils))), ((3, 0), some (.cell (.nils))), ((3, 1), some (.cell (.nils))), ((4, 0), some (.cell (.row 7))), ((4, 1), some (.cell (.row 8))), ((4, 2), some (.cell (.nils))), ((4, 3), some (.cell (.nils))), ((5, 0), some (.cell (.row 9))), ((5, 1), some (.cell (.row 10))), ((6, 0), some (.rows .int m6)), ((7, 0), some (.rows .place m7)), ((8, 0), some (.rows .road m8)), ((9, 0), some (.rows .int m9)), ((10, 0), some (.rows .int m10))], 11⟩).den
noncomputable def h43 (fl : Nat) (l : List Int) (p : Int) : Option (AV × List Ob) := (evalF (env l43) Try.f43 k43 fl [.one (.ptr 0 0)] [.box [.vec false .u8 l, .int .i64 p]]).den
theorem h43_eq (fl : Nat) (l : List Int) (p : Int) : h43 (fl + 1) l p =
    (oneO l p 3).bind fun x2 =>
    if x2.fst = true then (nextO l x2.snd 5).bind fun x4 =>
        h43_0 fl 2 x4.fst l x4.snd ([{ height := 0, surface := true : Place }] ++ [{ height := 10, surface := true : Place }])
      else (nextO l x2.snd 5).bind fun x4 =>
        h43_0 fl 1 x4.fst l x4.snd ([{ height := 0, surface := true : Place }]) := by kernel_rfl
theorem h43_0_eq (fl : Nat) (t6 : Int) (t7 : Int) (m0_0 : List Int) (m0_1 : Int) (m5 : List Place) : h43_0 (fl + 1) t6 t7 m0_0 m0_1 m5 =
    if (decide (t7 > 0)) = true then (nextO m0_0 m0_1 100).bind fun x3 =>
      if (decide ((m5).length + ([{ height := IntKind.i64.wrap (0 - x3.fst), surface := false : Place }]).length ≤ lim)) = true then h43_0 fl t6 (IntKind.i64.wrap (t7 - 1)) m0_0 x3.snd (m5 ++ [{ height := IntKind.i64.wrap (0 - x3.fst), surface := false : Place }])
        else none
    else if (decide (0 ≤ (↑m5.length : Int)) && (decide ((↑m5.length : Int) ≤ 1048576) && (↑m5.length : Int) == (↑m5.length : Int))) = true then h43_1 fl t6 ((↑m5.length : Int)) t6 m0_0 m0_1 m5 (List.replicate (↑m5.length : Int).toNat (dflt K.int))
      else none := by kernel_rfl
theorem h43_1_eq (fl : Nat) (t6 : Int) (t8 : Int) (t10 : Int) (m0_0 : List Int) (m0_1 : Int) (m6 : List Place) (m7 : List Int) : h43_1 (fl + 1) t6 t8 t10 m0_0 m0_1 m6 m7 =
    if (decide (t10 < t8)) = true then (rangeO m0_0 m0_1 (-4000) 4000).bind fun x3 =>
      if (idx m7.length t10) = true then h43_1 fl t6 t8 (IntKind.i64.wrap (t10 + 1)) m0_0 x3.snd m6 (m7.set t10.toNat x3.fst)
        else none
    else if (decide (0 ≤ t8) && (decide (t8 ≤ 1048576) && t8 == t8)) = true then if (decide (t8 > 1)) = true then (nextO m0_0 m0_1 6).bind fun x5 =>
          h43_2 fl t6 t8 x5.fst m0_0 x5.snd (List.replicate t8.toNat (dflt K.int)) m6 [] m7 []
        else h43_3 fl t6 t8 t6 m0_0 m0_1 (List.replicate t8.toNat (dflt K.int)) m6 [] m7 []
      else none := by kernel_rfl
theorem h43_2_eq (fl : Nat) (t6 : Int) (t8 : Int) (t12 : Int) (m0_0 : List Int) (m0_1 : Int) (m6 : List Int) (m7 : List Place) (m8 : List Road) (m9 : List Int) (m10 : List Int) : h43_2 (fl + 1) t6 t8 t12 m0_0 m0_1 m6 m7 m8 m9 m10 =
    if (decide (t12 > 0)) = true then (nextO m0_0 m0_1 t8).bind fun x3 =>
      (nextO m0_0 x3.snd (IntKind.i64.wrap (t8 - 1))).bind fun x4 =>
        if (t8 != 0) = true then (o91 x3.fst ((IntKind.i64.wrap (IntKind.i64.wrap (x3.fst + 1) + x4.fst)).tmod t8) m0_0 x4.snd).bind fun x6 =>
            (oneO m0_0 x6.snd 7).bind fun x7 =>
              (rangeO m0_0 x7.snd (-60) 60).bind fun x8 =>
                if x7.fst = true then if (decide ((m8).length + ([{ frm := x6.fst.frm, to := x6.fst.to, len := x6.fst.len, area := x6.fst.area, walk := x6.fst.walk, closed := x7.fst, restLo := x6.fst.restLo, restHi := x6.fst.restHi, liftLo := x6.fst.liftLo, liftHi := x6.fst.liftHi : Road }]).length ≤ lim)) = true then if (decide ((m10).length + ([0]).length ≤ lim)) = true then if (idx m6.length x6.fst.frm) = true then if (idx m6.length x6.fst.frm) = true then if (idx (m6.set x6.fst.frm.toNat (IntKind.i64.wrap (m6.getD x6.fst.frm.toNat (dflt K.int) + 0))).length x6.fst.to) = true then if (idx (m6.set x6.fst.frm.toNat (IntKind.i64.wrap (m6.getD x6.fst.frm.toNat (dflt K.int) + 0))).length x6.fst.to) = true then h43_2 fl t6 t8 (IntKind.i64.wrap (t12 - 1)) m0_0 x8.snd ((m6.set x6.fst.frm.toNat (IntKind.i64.wrap (m6.getD x6.fst.frm.toNat (dflt K.int) + 0))).set x6.fst.to.toNat (IntKind.i64.wrap ((m6.set x6.fst.frm.toNat (IntKind.i64.wrap (m6.getD x6.fst.frm.toNat (dflt K.int) + 0))).getD x6.fst.to.toNat (dflt K.int) - 0))) m7 (m8 ++ [{ frm := x6.fst.frm, to := x6.fst.to, len := x6.fst.len, area := x6.fst.area, walk := x6.fst.walk, closed := x7.fst, restLo := x6.fst.restLo, restHi := x6.fst.restHi, liftLo := x6.fst.liftLo, liftHi := x6.fst.liftHi : Road }]) m9 (m10 ++ [0])
                              else none
                            else none
                          else none
                        else none
                      else none
                    else none
                  else if (decide ((m8).length + ([{ frm := x6.fst.frm, to := x6.fst.to, len := x6.fst.len, area := x6.fst.area, walk := x6.fst.walk, closed := x7.fst, restLo := x6.fst.restLo, restHi := x6.fst.restHi, liftLo := x6.fst.liftLo, liftHi := x6.fst.liftHi : Road }]).length ≤ lim)) = true then if (decide ((m10).length + ([x8.fst]).length ≤ lim)) = true then if (idx m6.length x6.fst.frm) = true then if (idx m6.length x6.fst.frm) = true then if (idx (m6.set x6.fst.frm.toNat (IntKind.i64.wrap (m6.getD x6.fst.frm.toNat (dflt K.int) + x8.fst))).length x6.fst.to) = true then if (idx (m6.set x6.fst.frm.toNat (IntKind.i64.wrap (m6.getD x6.fst.frm.toNat (dflt K.int) + x8.fst))).length x6.fst.to) = true then h43_2 fl t6 t8 (IntKind.i64.wrap (t12 - 1)) m0_0 x8.snd ((m6.set x6.fst.frm.toNat (IntKind.i64.wrap (m6.getD x6.fst.frm.toNat (dflt K.int) + x8.fst))).set x6.fst.to.toNat (IntKind.i64.wrap ((m6.set x6.fst.frm.toNat (IntKind.i64.wrap (m6.getD x6.fst.frm.toNat (dflt K.int) + x8.fst))).getD x6.fst.to.toNat (dflt K.int) - x8.fst))) m7 (m8 ++ [{ frm := x6.fst.frm, to := x6.fst.to, len := x6.fst.len, area := x6.fst.area, walk := x6.fst.walk, closed := x7.fst, restLo := x6.fst.restLo, restHi := x6.fst.restHi, liftLo := x6.fst.liftLo, liftHi := x6.fst.liftHi : Road }]) m9 (m10 ++ [x8.fst])
                              else none
                            else none
                          else none
                        else none
                      else none
                    else none
          else none
    else h43_3 fl t6 t8 t6 m0_0 m0_1 m6 m7 m8 m9 m10 := by kernel_rfl
theorem h43_3_eq (fl : Nat) (t6 : Int) (t8 : Int) (t16 : Int) (m0_0 : List Int) (m0_1 : Int) (m6 : List Int) (m7 : List Place) (m8 : List Road) (m9 : List Int) (m10 : List Int) : h43_3 (fl + 1) t6 t8 t16 m0_0 m0_1 m6 m7 m8 m9 m10 =
    if (decide (t16 < t8)) = true then (nextO m0_0 m0_1 t6).bind fun x3 =>
      (o91 t16 x3.fst m0_0 x3.snd).bind fun x4 =>
        if (idx m6.length t16) = true then (oneO m0_0 x4.snd 2).bind fun x6 =>
            if x6.fst = true then if (decide ((m8).length + ([{ frm := x4.fst.to, to := x4.fst.frm, len := x4.fst.len, area := x4.fst.area, walk := x4.fst.walk, closed := x4.fst.closed, restLo := x4.fst.restLo, restHi := x4.fst.restHi, liftLo := x4.fst.liftLo, liftHi := x4.fst.liftHi : Road }]).length ≤ lim)) = true then if (decide ((m10).length + ([IntKind.i64.wrap (0 - IntKind.i64.wrap (0 - m6.getD t16.toNat (dflt K.int)))]).length ≤ lim)) = true then h43_3 fl t6 t8 (IntKind.i64.wrap (t16 + 1)) m0_0 x6.snd m6 m7 (m8 ++ [{ frm := x4.fst.to, to := x4.fst.frm, len := x4.fst.len, area := x4.fst.area, walk := x4.fst.walk, closed := x4.fst.closed, restLo := x4.fst.restLo, restHi := x4.fst.restHi, liftLo := x4.fst.liftLo, liftHi := x4.fst.liftHi : Road }]) m9 (m10 ++ [IntKind.i64.wrap (0 - IntKind.i64.wrap (0 - m6.getD t16.toNat (dflt K.int)))])
                  else none
                else none
              else if (decide ((m8).length + ([{ frm := x4.fst.frm, to := x4.fst.to, len := x4.fst.len, area := x4.fst.area, walk := x4.fst.walk, closed := x4.fst.closed, restLo := x4.fst.restLo, restHi := x4.fst.restHi, liftLo := x4.fst.liftLo, liftHi := x4.fst.liftHi : Road }]).length ≤ lim)) = true then if (decide ((m10).length + ([IntKind.i64.wrap (0 - m6.getD t16.toNat (dflt K.int))]).length ≤ lim)) = true then h43_3 fl t6 t8 (IntKind.i64.wrap (t16 + 1)) m0_0 x6.snd m6 m7 (m8 ++ [{ frm := x4.fst.frm, to := x4.fst.to, len := x4.fst.len, area := x4.fst.area, walk := x4.fst.walk, closed := x4.fst.closed, restLo := x4.fst.restLo, restHi := x4.fst.restHi, liftLo := x4.fst.liftLo, liftHi := x4.fst.liftHi : Road }]) m9 (m10 ++ [IntKind.i64.wrap (0 - m6.getD t16.toNat (dflt K.int))])
                  else none
                else none
          else none
    else (o92 m0_0 m0_1 m7 m8).bind fun x3 =>
      (o93 true x3.fst.sF true x3.fst.sD true m9 true m10 m0_0 x3.snd m7 m8 x3.fst.F x3.fst.D).bind fun x4 =>
        (o94 true m7 true x4.fst true x3.fst.F true x3.fst.D true x3.fst.sF true x3.fst.sD m0_0 x4.snd).bind fun x5 =>
          some (.tup [(true, [.row 1, .row 2, .row 3, .row 4]), (true, [.vec false .int x5.fst.a, .vec false .int x5.fst.b]), (true, [.row 5, .row 6])], [.box [.vec false .u8 m0_0, .int .i64 x5.snd], .rows .place m7, .rows .road x4.fst, .rows .fan x3.fst.F, .rows .door x3.fst.D, .rows .int m9, .rows .int m10]) := by kernel_rfl
def decMade (l : List Int) : AV × List Ob → Option (MadeX × Int)
  | (.tup [(true, [s1, s2, s3, s4]), (true, [s5, s6]), (true, [s7, s8])], .box [.vec false .u8 l', .int .i64 p] :: os) =>
    if l' = l then
      (match slO .place 1 (.box [.vec false .u8 l', .int .i64 p] :: os) s1, slO .road 1 (.box [.vec false .u8 l', .int .i64 p] :: os) s2, slO .fan 1 (.box [.vec false .u8 l', .int .i64 p] :: os) s3, slO .door 1 (.box [.vec false .u8 l', .int .i64 p] :: os) s4,
        slO .int 1 (.box [.vec false .u8 l', .int .i64 p] :: os) s5, slO .int 1 (.box [.vec false .u8 l', .int .i64 p] :: os) s6, slO .int 1 (.box [.vec false .u8 l', .int .i64 p] :: os) s7, slO .int 1 (.box [.vec false .u8 l', .int .i64 p] :: os) s8 with
      | some a, some b, some c, some d, some e, some f, some g, some h => some (⟨a, b, c, d, e, f, g, h⟩, p)
      | _, _, _, _, _, _, _, _ => none)
    else none
  | _ => none
theorem decMade_ok {l : List Int} {y : AV × List Ob} {x : MadeX × Int} (h : decMade l y = some x) : [Ob.box [.vec false .u8 l, .int .i64 x.2]] = y.2.take 1 ∧ TA y.2 1 y.1 (.tup [(true, [.vec false .place x.1.P, .vec false .road x.1.R, .vec false .fan x.1.F, .vec false .door x.1.D]), (true, [.vec false .int x.1.sF, .vec false .int x.1.sD]), (true, [.vec false .int x.1.pr, .vec false .int x.1.fw])]) := by
  unfold decMade at h
  split at h
  · split at h
    · rename_i hl
      subst hl
      split at h
      · rename_i h1 h2 h3 h4 h5 h6 h7 h8
        cases h
        exact ⟨rfl, .tup _ _ ⟨⟨rfl, slO_ok h1, slO_ok h2, slO_ok h3, slO_ok h4, trivial⟩, ⟨rfl, slO_ok h5, slO_ok h6, trivial⟩, ⟨rfl, slO_ok h7, slO_ok h8, trivial⟩, trivial⟩⟩
      · cases h
    · cases h
  · cases h
noncomputable def o43 (l : List Int) (p : Int) : Option (MadeX × Int) := (h43 100 l p).bind (decMade l)
noncomputable def c43 : Spec := ⟨false, fun av ob => match av, ob with
  | [.one (.ptr 0 0)], [.box [.vec false .u8 l, .int .i64 p]] => .call (o43 l p) fun x => .ret (.tup [(true, [.vec false .place x.1.P, .vec false .road x.1.R, .vec false .fan x.1.F, .vec false .door x.1.D]), (true, [.vec false .int x.1.sF, .vec false .int x.1.sD]), (true, [.vec false .int x.1.pr, .vec false .int x.1.fw])], [.box [.vec false .u8 l, .int .i64 x.2]])
  | _, _ => .fail⟩
theorem f43 : FnOK Try.prog 43 := fnOK_of Try.func43 rfl (by kernel_rfl)
theorem pc43 : SpecOK Try.prog 43 c43 := by
  refine spec_thaw (fun av ob r os hrn => ?_) (machS_ok (env_ok (l := l43) ⟨⟨pc55, f55⟩, ⟨⟨pc46, f46⟩, ⟨⟨pc32, f32⟩, ⟨⟨pc91, f91⟩, ⟨⟨pc92, f92⟩, ⟨⟨pc93, f93⟩, ⟨⟨pc94, f94⟩, trivial⟩⟩⟩⟩⟩⟩⟩) mixed_ok Try.func43 k43 (fun _ _ => 100) false)
  simp only [c43] at hrn
  split at hrn
  · rename_i l p
    obtain ⟨x, hx, hr⟩ := Option.bind_eq_some_iff.1 hrn
    cases hr
    obtain ⟨y, hy, hd⟩ := Option.bind_eq_some_iff.1 hx
    unfold h43 at hy
    obtain ⟨d1, d2⟩ := decMade_ok hd
    exact ⟨y.1, y.2, by rw [machS_run]; exact hy, d1, d2⟩
  · cases hrn
end Go.Proofs.Ytipfipnhgpbceaa.Sx
/- The air of a mine that is made, with a state that fits: the loops (plain theorems). -/

set_option linter.unusedVariables false
set_option linter.unusedSimpArgs false
set_option maxRecDepth 100000
namespace Go.Proofs.Ytipfipnhgpbceaa.Sx
open Go Go.RowKit
def MadeEnd (l : List Int) (o : Option (AV × List Ob)) : Prop := ∃ x q, o.bind (decMade l) = some (x, q) ∧ MadeB x ∧ cok l q = true
theorem getD_replicate0 (n k : Nat) : (List.replicate n (0 : Int)).getD k 0 = 0 := by
  rw [List.getD_eq_getElem?_getD, List.getElem?_replicate]
  split <;> rfl
theorem road_swap {n : Nat} {r : Road} {a b q : Int} (h : RB r a b) (ha : 0 ≤ a ∧ a < n) (hb : 0 ≤ b ∧ b < n) (hab : a ≠ b) (hq : -300 ≤ q ∧ q ≤ 300) : RoadG n ⟨r.to, r.frm, r.len, r.area, r.walk, r.closed, r.restLo, r.restHi, r.liftLo, r.liftHi⟩ q := by
  have h1 := h.frm
  have h2 := h.to
  have h3 := h.len
  have h4 := h.area
  have h5 := h.rest
  have h6 := h.closed
  exact ⟨by dsimp only; omega, by dsimp only; omega, by dsimp only; omega, by dsimp only; omega, by dsimp only; omega, by dsimp only; omega, hq, by dsimp only; rw [h6]; intro e; cases e⟩
theorem road_same {n : Nat} {r : Road} {a b q : Int} {c : Bool} (h : RB r a b) (ha : 0 ≤ a ∧ a < n) (hb : 0 ≤ b ∧ b < n) (hab : a ≠ b) (hq : -300 ≤ q ∧ q ≤ 300) (hc : c = true → q = 0) : RoadG n ⟨r.frm, r.to, r.len, r.area, r.walk, c, r.restLo, r.restHi, r.liftLo, r.liftHi⟩ q := by
  have h1 := h.frm
  have h2 := h.to
  have h3 := h.len
  have h4 := h.area
  have h5 := h.rest
  exact ⟨by dsimp only; omega, by dsimp only; omega, by dsimp only; omega, by dsimp only; omega, by dsimp only; omega, by dsimp only; omega, hq, hc⟩
/-- The last loop: a road to the surface for each place below ground. -/
theorem made3 (l : List Int) (s : Nat) (hs : 1 ≤ s ∧ s ≤ 2) (P : List Place) (hsP : s ≤ P.length) (hP6 : P.length ≤ 6) (hP : PlaceG s P) (net pr : List Int) (hnl : net.length = P.length) (hnb : ∀ k, -300 ≤ net.getD k 0 ∧ net.getD k 0 ≤ 300) (hpl : pr.length = P.length)
    (hpr : ∀ k, -4000 ≤ pr.getD k 0 ∧ pr.getD k 0 ≤ 4000) (hp0 : ∀ k, k < s → pr.getD k 0 = 0) : ∀ (d fl i : Nat) (p : Int) (R : List Road) (fw : List Int), P.length - i = d → s ≤ i → i ≤ P.length → d + 3 < fl → cok l p = true → NetG P.length R fw → R.length + d ≤ 9 →
    (∀ k, s ≤ k → k < i → netAt R fw k = 0) → (∀ k, i ≤ k → k < P.length → netAt R fw k = net.getD k 0) → MadeEnd l (h43_3 fl s P.length i l p net P R pr fw)
  | d, fl, i, p, R, fw, hd, hsi, hi, hf, hk, hN, hR, hz, hn => by
    obtain ⟨fl, rfl⟩ : ∃ q, fl = q + 1 := ⟨fl - 1, by omega⟩
    rw [h43_3_eq]
    have hi0 : (dflt K.int) = (0 : Int) := rfl
    by_cases hlt : i < P.length
    · have e1 : ((i : Int)).toNat = i := Int.toNat_natCast i
      obtain ⟨v1, p1, e2, a1, b1, k1⟩ := next_ok (n := (s : Int)) hk (by omega)
      obtain ⟨r, p2, e3, hr, k2⟩ := road_ok (i : Int) v1 k1
      obtain ⟨v3, p3, e4, k3⟩ := one_ok (n := 2) k2
      rw [if_pos (lt_nat hlt), e2, Option.bind_some]
      dsimp only
      rw [e3, Option.bind_some]
      dsimp only
      rw [if_pos (idx_nat (by omega)), e4, Option.bind_some, e1, hi0, wr_succ (by omega)]
      dsimp only
      have hq := hnb i
      have w1 : IntKind.i64.wrap (0 - net.getD i 0) = -net.getD i 0 := by rw [wid (by omega) (by omega)]; omega
      have w2 : IntKind.i64.wrap (0 - -net.getD i 0) = net.getD i 0 := by rw [wid (by omega) (by omega)]; omega
      rw [w1, w2]
      have hl1 : ∀ z : Road, decide (R.length + [z].length ≤ lim) = true := fun z => by simp [lim]; omega
      have hl2 : ∀ z : Int, decide (fw.length + [z].length ≤ lim) = true := fun z => by simp [lim, hN.len]; omega
      have hfr := hr.frm
      have hto := hr.to
      cases d with
      | zero => omega
      | succ d =>
        cases v3
        · rw [if_neg (by simp), if_pos (hl1 _), if_pos (hl2 _)]
          refine made3 l s hs P hsP hP6 hP net pr hnl hnb hpl hpr hp0 d fl (i + 1) p3 _ _ (by omega) (by omega) (by omega) (by omega) k3 (hN.add (road_same (c := r.closed) hr (by omega) (by omega) (by omega) (by omega) (by rw [hr.closed]; intro e; cases e))) (by simp; omega) (fun k h1 h2 => ?_) (fun k h1 h2 => ?_)
          · rw [netAt_append _ _ _ _ _ hN.len]
            try dsimp only
            rw [hfr, hto]
            by_cases hki : k = i
            · subst hki
              rw [hn k (by omega) hlt, if_pos rfl, if_neg (by omega)]; omega
            · rw [hz k h1 (by omega), if_neg (by omega), if_neg (by omega)]; omega
          · rw [netAt_append _ _ _ _ _ hN.len]
            try dsimp only
            rw [hfr, hto, hn k (by omega) h2, if_neg (by omega), if_neg (by omega)]; omega
        · rw [if_pos rfl, if_pos (hl1 _), if_pos (hl2 _)]
          refine made3 l s hs P hsP hP6 hP net pr hnl hnb hpl hpr hp0 d fl (i + 1) p3 _ _ (by omega) (by omega) (by omega) (by omega) k3 (hN.add (road_swap hr (by omega) (by omega) (by omega) (by omega))) (by simp; omega) (fun k h1 h2 => ?_) (fun k h1 h2 => ?_)
          · rw [netAt_append _ _ _ _ _ hN.len]
            try dsimp only
            rw [hfr, hto]
            by_cases hki : k = i
            · subst hki
              rw [hn k (by omega) hlt, if_neg (by omega), if_pos rfl]; omega
            · rw [hz k h1 (by omega), if_neg (by omega), if_neg (by omega)]; omega
          · rw [netAt_append _ _ _ _ _ hN.len]
            try dsimp only
            rw [hfr, hto, hn k (by omega) h2, if_neg (by omega), if_neg (by omega)]; omega
    · have hie : i = P.length := by omega
      subst hie
      rw [if_neg (nlt_nat hlt)]
      obtain ⟨eq, q1, e1, k1, hf2, hd2, hG⟩ := equip_ok P (R := R) (by omega) hk
      have hB := hG.toB hf2 hd2
      have hI : FitIn R pr fw := ⟨by omega, hN.len, fun i hi => by have := (hN.road i hi).frm; rw [hpl]; exact this, fun i hi => by have := (hN.road i hi).to; rw [hpl]; exact this, fun i hi => (hN.road i hi).rest, fun i hi => by have := (hN.road i hi).flow; omega, fun i => by have := hpr i; omega⟩
      obtain ⟨R2, q2, e2, hl2, hfit, k2⟩ := fit_ok hB true true true true P hI (by omega) k1
      obtain ⟨t, q3, e3, k3, hd1, hd2'⟩ := doubts_ok true P true R2 true eq.F true eq.D true (s1 := eq.sF) true (s2 := eq.sD) (by have := hB.lf; omega) (by have := hB.ld; omega) k2
      rw [e1, Option.bind_some]
      dsimp only
      rw [e2, Option.bind_some]
      dsimp only
      rw [e3, Option.bind_some]
      refine ⟨⟨P, R2, eq.F, eq.D, t.a, t.b, pr, fw⟩, q3, by simp [decMade, slO], ?_, k3⟩
      have hnet : ∀ (R R2 : List Road) (fw : List Int) (k : Int), R2.length = R.length → (∀ j, j < R.length → (R2.getD j road0).frm = (R.getD j road0).frm ∧ (R2.getD j road0).to = (R.getD j road0).to) → netAt R2 fw k = netAt R fw k := by
        intro R
        induction R with
        | nil => intro R2 fw k h1 _; have : R2 = [] := List.eq_nil_of_length_eq_zero h1; rw [this]
        | cons r R ih =>
          intro R2 fw k h1 h2
          cases R2 with
          | nil => simp at h1
          | cons r2 R2 =>
            cases fw with
            | nil => rfl
            | cons y fw =>
              have h3 := h2 0 (by simp)
              have h4 := ih R2 fw k (by simpa using h1) (fun j hj => by have := h2 (j + 1) (by simp; omega); simpa using this)
              have h5 : r2.frm = r.frm ∧ r2.to = r.to := h3
              simp only [netAt, h4, h5.1, h5.2]
      have hsame : ∀ j, j < R.length → (R2.getD j road0).frm = (R.getD j road0).frm ∧ (R2.getD j road0).to = (R.getD j road0).to := fun j hj => by
        obtain ⟨rest, lo, hi, e, _⟩ := hfit j hj
        rw [e]; exact ⟨rfl, rfl⟩
      refine ⟨⟨by dsimp only; omega, hP6⟩, by dsimp only; omega, ⟨s, hs.1, hs.2, hsP, hP, hp0, fun k h1 h2 => ?_⟩, hpl, hpr, ⟨by dsimp only; rw [hl2, hN.len], fun k hk => ?_⟩, fun k hk => ?_, ⟨eq.sF, eq.sD, hf2, hd2, by dsimp only; rw [hl2]; exact hG, hd1, hd2', fun k hk => ?_⟩⟩
      · dsimp only
        rw [hnet R R2 fw k hl2 hsame]
        exact hz k h1 h2
      · have hk' : k < R.length := by rw [← hl2]; exact hk
        obtain ⟨rest, lo, hi, e, _⟩ := hfit k hk'
        dsimp only
        rw [e]
        have := hN.road k hk'
        exact ⟨this.frm, this.to, this.ne, this.len, this.area, this.rest, this.flow, this.shut⟩
      · have hk' : k < R.length := by rw [← hl2]; exact hk
        obtain ⟨rest, lo, hi, e, g1, g2, g3, g4, g5, g6⟩ := hfit k hk'
        dsimp only
        rw [e]
        exact ⟨g5, by show lo ≤ hi; omega, g6⟩
      · have hk' : k < R.length := by rw [← hl2]; exact hk
        obtain ⟨rest, lo, hi, e, g1, g2, g3, g4, g5, g6⟩ := hfit k hk'
        dsimp only
        rw [e]
        exact ⟨rest, g1, g2, g3, g4⟩
end Go.Proofs.Ytipfipnhgpbceaa.Sx
/- The air of a mine that is made, with a state that fits: the first loops (plain theorems). -/

set_option linter.unusedVariables false
set_option linter.unusedSimpArgs false
set_option maxRecDepth 100000
namespace Go.Proofs.Ytipfipnhgpbceaa.Sx
open Go Go.RowKit
theorem other_place {a b n : Int} (ha : 0 ≤ a ∧ a < n) (hb : 0 ≤ b ∧ b < n - 1) : 0 ≤ (a + 1 + b).tmod n ∧ (a + 1 + b).tmod n < n ∧ (a + 1 + b).tmod n ≠ a := by
  rw [Int.tmod_eq_emod_of_nonneg (by omega)]
  by_cases h : a + 1 + b < n
  · rw [Int.emod_eq_of_lt (by omega) h]
    omega
  · have e : a + 1 + b = (a + 1 + b - n) + n * 1 := by omega
    rw [e, Int.add_mul_emod_self_left, Int.emod_eq_of_lt (by omega) (by omega)]
    omega
theorem set2_get (net : List Int) {f t : Nat} {x y : Int} (hf : f < net.length) (ht : t < net.length) (hne : f ≠ t) (k : Nat) : ((net.set f x).set t y).getD k 0 = if k = t then y else if k = f then x else net.getD k 0 := by
  by_cases h1 : k = t
  · subst h1
    rw [if_pos rfl, getD_set_eq (by rw [List.length_set]; exact ht)]
  · rw [if_neg h1, getD_set_ne2 (fun e => h1 e.symm)]
    by_cases h2 : k = f
    · subst h2
      rw [if_pos rfl, getD_set_eq hf]
    · rw [if_neg h2, getD_set_ne2 (fun e => h2 e.symm)]
theorem made2 (l : List Int) (s : Nat) (hs : 1 ≤ s ∧ s ≤ 2) (P : List Place) (hsP : s ≤ P.length) (hP6 : P.length ≤ 6) (hP4 : P.length ≤ s + 4) (hP2 : 1 < P.length) (hP : PlaceG s P) (pr : List Int) (hpl : pr.length = P.length)
    (hpr : ∀ k, -4000 ≤ pr.getD k 0 ∧ pr.getD k 0 ≤ 4000) (hp0 : ∀ k, k < s → pr.getD k 0 = 0) : ∀ (m fl : Nat) (p : Int) (net : List Int) (R : List Road) (fw : List Int), m + 12 < fl → cok l p = true → net.length = P.length → R.length + m ≤ 5 → NetG P.length R fw →
    (∀ k, -60 * (R.length : Int) ≤ net.getD k 0 ∧ net.getD k 0 ≤ 60 * (R.length : Int)) → (∀ k, k < P.length → netAt R fw k = net.getD k 0) → MadeEnd l (h43_2 fl s P.length m l p net P R pr fw)
  | 0, fl, p, net, R, fw, hf, hk, hnl, hR, hN, hnb, hn => by
    obtain ⟨fl, rfl⟩ : ∃ q, fl = q + 1 := ⟨fl - 1, by omega⟩
    rw [h43_2_eq, if_neg (by simp)]
    exact made3 l s hs P hsP hP6 hP net pr hnl (fun k => by have := hnb k; omega) hpl hpr hp0 (P.length - s) fl s p R fw rfl (Nat.le_refl _) hsP (by omega) hk hN (by omega) (fun k h1 h2 => by omega) (fun k h1 h2 => hn k h2)
  | m + 1, fl, p, net, R, fw, hf, hk, hnl, hR, hN, hnb, hn => by
    obtain ⟨fl, rfl⟩ : ∃ q, fl = q + 1 := ⟨fl - 1, by omega⟩
    have hi0 : (dflt K.int) = (0 : Int) := rfl
    obtain ⟨v1, p1, e1, a1, b1, k1⟩ := next_ok (n := (P.length : Int)) hk (by omega)
    obtain ⟨v2, p2, e2, a2, b2, k2⟩ := next_ok (n := (P.length : Int) - 1) k1 (by omega)
    have hot := other_place (a := v1) (b := v2) (n := (P.length : Int)) (by omega) (by omega)
    obtain ⟨r, p3, e3, hr, k3⟩ := road_ok v1 ((v1 + 1 + v2).tmod (P.length : Int)) k2
    obtain ⟨c, p4, e4, k4⟩ := one_ok (n := 7) k3
    obtain ⟨q, p5, e5, a5, b5, k5⟩ := range_ok (lo := -60) (hi := 60) k4 (by omega) (by omega) (by omega)
    have w0 : IntKind.i64.wrap ((P.length : Int) - 1) = (P.length : Int) - 1 := wid (by omega) (by omega)
    have w1 : IntKind.i64.wrap (v1 + 1) = v1 + 1 := wid (by omega) (by omega)
    have w2 : IntKind.i64.wrap (v1 + 1 + v2) = v1 + 1 + v2 := wid (by omega) (by omega)
    have w3 : IntKind.i64.wrap (((m + 1 : Nat) : Int) - 1) = (m : Int) := by rw [wid (by omega) (by omega)]; omega
    have hn0 : ((P.length : Int) != 0) = true := by simp only [bne_iff_ne, ne_eq]; omega
    generalize hto : (v1 + 1 + v2).tmod (P.length : Int) = v3 at *
    rw [h43_2_eq, if_pos (show decide (((m + 1 : Nat) : Int) > 0) = true by simp only [decide_eq_true_eq]; omega), e1, Option.bind_some]
    dsimp only
    rw [w0, e2, Option.bind_some]
    dsimp only
    rw [if_pos hn0, w1, w2, hto, e3, Option.bind_some]
    dsimp only
    rw [e4, Option.bind_some]
    dsimp only
    rw [e5, Option.bind_some]
    dsimp only
    have hfr := hr.frm
    have hrt := hr.to
    have hl1 : ∀ z : Road, decide (R.length + [z].length ≤ lim) = true := fun z => by simp [lim]; omega
    have hl2 : ∀ z : Int, decide (fw.length + [z].length ≤ lim) = true := fun z => by simp [lim, hN.len]; omega
    rw [hfr, hrt, hi0, w3]
    obtain ⟨f, rfl⟩ : ∃ f : Nat, v1 = f := ⟨v1.toNat, by omega⟩
    obtain ⟨t, rfl⟩ : ∃ t : Nat, v3 = t := ⟨v3.toNat, by omega⟩
    have hfn : f < net.length := by omega
    have htn : t < net.length := by omega
    have hft : f ≠ t := by omega
    simp only [Int.toNat_natCast]
    have i1 : idx net.length (f : Int) = true := idx_nat hfn
    have i2 : ∀ x, idx (net.set f x).length (t : Int) = true := fun x => idx_nat (by rw [List.length_set]; exact htn)
    have hbf := hnb f
    have hbt := hnb t
    have step : ∀ (z : Int) (c : Bool), -60 ≤ z → z ≤ 60 → (c = true → z = 0) →
        MadeEnd l (h43_2 fl s P.length m l p5 ((net.set f (IntKind.i64.wrap (net.getD f 0 + z))).set t (IntKind.i64.wrap ((net.set f (IntKind.i64.wrap (net.getD f 0 + z))).getD t 0 - z))) P (R ++ [⟨(f : Int), (t : Int), r.len, r.area, r.walk, c, r.restLo, r.restHi, r.liftLo, r.liftHi⟩]) pr (fw ++ [z])) := by
      intro z c hz0 hz1 hzc
      have x1 : IntKind.i64.wrap (net.getD f 0 + z) = net.getD f 0 + z := wid (by omega) (by omega)
      have x2 : (net.set f (net.getD f 0 + z)).getD t 0 = net.getD t 0 := getD_set_ne2 hft
      have x3 : IntKind.i64.wrap (net.getD t 0 - z) = net.getD t 0 - z := wid (by omega) (by omega)
      rw [x1, x2, x3]
      have hrg : RoadG P.length ⟨r.frm, r.to, r.len, r.area, r.walk, c, r.restLo, r.restHi, r.liftLo, r.liftHi⟩ z := road_same hr (by omega) (by omega) (by omega) (by omega) hzc
      rw [hfr, hrt] at hrg
      refine made2 l s hs P hsP hP6 hP4 hP2 hP pr hpl hpr hp0 m fl p5 _ _ _ (by omega) k5 (by simp [hnl]) (by simp; omega) (hN.add hrg) (fun k => ?_) (fun k hk => ?_)
      · rw [set2_get net hfn htn hft]
        have := hnb k
        simp only [List.length_append, List.length_cons, List.length_nil]
        split
        · omega
        · split <;> omega
      · rw [netAt_append _ _ _ _ _ hN.len, set2_get net hfn htn hft, hn k hk]
        dsimp only
        by_cases c1 : k = t
        · subst c1
          rw [if_pos rfl, if_neg (by omega), if_pos rfl]; omega
        · rw [if_neg c1]
          by_cases c2 : k = f
          · subst c2
            rw [if_pos rfl, if_pos rfl, if_neg (by omega)]; omega
          · rw [if_neg c2, if_neg (by omega), if_neg (by omega)]; omega
    cases c
    · simp only [Bool.false_eq_true, if_false, hl1, hl2, i1, i2, if_true]
      exact step q false a5 b5 (fun e => by cases e)
    · simp only [if_true, hl1, i1, i2]
      split
      · exact step 0 true (by omega) (by omega) (fun _ => rfl)
      · rename_i hh
        exact absurd (hl2 0) hh
theorem made1 (l : List Int) (s : Nat) (hs : 1 ≤ s ∧ s ≤ 2) (P : List Place) (hsP : s ≤ P.length) (hP6 : P.length ≤ 6) (hP4 : P.length ≤ s + 4) (hP : PlaceG s P) : ∀ (d fl i : Nat) (p : Int) (pr : List Int), P.length - i = d → s ≤ i → i ≤ P.length → d + 30 < fl → cok l p = true → pr.length = P.length →
    (∀ k, -4000 ≤ pr.getD k 0 ∧ pr.getD k 0 ≤ 4000) → (∀ k, k < s → pr.getD k 0 = 0) → MadeEnd l (h43_1 fl s P.length i l p P pr)
  | d, fl, i, p, pr, hd, hsi, hi, hf, hk, hpl, hpr, hp0 => by
    obtain ⟨fl, rfl⟩ : ∃ q, fl = q + 1 := ⟨fl - 1, by omega⟩
    rw [h43_1_eq]
    by_cases hlt : i < P.length
    · obtain ⟨v, p1, e1, a1, b1, k1⟩ := range_ok (lo := -4000) (hi := 4000) hk (by omega) (by omega) (by omega)
      rw [if_pos (lt_nat hlt), e1, Option.bind_some]
      dsimp only
      rw [if_pos (idx_nat (by omega)), wr_succ (by omega), Int.toNat_natCast]
      cases d with
      | zero => omega
      | succ d =>
        refine made1 l s hs P hsP hP6 hP4 hP d fl (i + 1) p1 _ (by omega) (by omega) (by omega) (by omega) k1 (by rw [List.length_set, hpl]) (fun k => ?_) (fun k hk => ?_)
        · by_cases e : i = k
          · subst e
            rw [getD_set_eq (by omega)]; omega
          · rw [getD_set_ne2 e]; exact hpr k
        · rw [getD_set_ne2 (by omega)]; exact hp0 k hk
    · have hz : ∀ k : Nat, (List.replicate P.length (0 : Int)).getD k 0 = 0 := getD_replicate0 _
      rw [if_neg (nlt_nat hlt), if_pos (by simp; omega)]
      have er : List.replicate ((P.length : Int)).toNat (dflt K.int) = List.replicate P.length (0 : Int) := by rw [Int.toNat_natCast]; rfl
      rw [er]
      have hN0 : NetG P.length ([] : List Road) [] := ⟨rfl, fun k hk => by simp at hk⟩
      by_cases h1 : 1 < P.length
      · rw [if_pos (show decide ((P.length : Int) > 1) = true by simp only [decide_eq_true_eq]; omega)]
        obtain ⟨v, p1, e1, a1, b1, k1⟩ := next_ok (n := 6) hk (by omega)
        obtain ⟨m, rfl⟩ : ∃ m : Nat, v = m := ⟨v.toNat, by omega⟩
        rw [e1, Option.bind_some]
        exact made2 l s hs P hsP hP6 hP4 h1 hP pr hpl hpr hp0 m fl p1 _ [] [] (by omega) k1 (by simp) (by simp; omega) hN0 (fun k => by rw [hz]; simp) (fun k hk => by rw [hz]; rfl)
      · rw [if_neg (show ¬ decide ((P.length : Int) > 1) = true by simp only [decide_eq_true_eq]; omega)]
        exact made3 l s hs P hsP hP6 hP _ pr (by simp) (fun k => by rw [hz]; omega) hpl hpr hp0 (P.length - s) fl s p [] [] rfl (Nat.le_refl _) hsP (by omega) hk hN0 (by simp; omega) (fun k h1 h2 => by omega) (fun k h1 h2 => by rw [hz]; rfl)
theorem made0 (l : List Int) (s : Nat) (hs : 1 ≤ s ∧ s ≤ 2) : ∀ (m fl : Nat) (p : Int) (P : List Place), m + 50 < fl → cok l p = true → s ≤ P.length → P.length + m ≤ s + 4 → PlaceG s P → MadeEnd l (h43_0 fl s m l p P)
  | 0, fl, p, P, hf, hk, h1, h2, hP => by
    obtain ⟨fl, rfl⟩ : ∃ q, fl = q + 1 := ⟨fl - 1, by omega⟩
    rw [h43_0_eq, if_neg (by simp), if_pos (by simp; omega)]
    have er : List.replicate ((P.length : Int)).toNat (dflt K.int) = List.replicate P.length (0 : Int) := by rw [Int.toNat_natCast]; rfl
    have hz : ∀ k : Nat, (List.replicate P.length (0 : Int)).getD k 0 = 0 := getD_replicate0 _
    rw [er]
    exact made1 l s hs P h1 (by omega) (by omega) hP (P.length - s) fl s p _ rfl (Nat.le_refl _) h1 (by omega) hk (by simp) (fun k => by rw [hz]; omega) (fun k _ => hz k)
  | m + 1, fl, p, P, hf, hk, h1, h2, hP => by
    obtain ⟨fl, rfl⟩ : ∃ q, fl = q + 1 := ⟨fl - 1, by omega⟩
    obtain ⟨v, p1, e1, a1, b1, k1⟩ := next_ok (n := 100) hk (by omega)
    have w3 : IntKind.i64.wrap (((m + 1 : Nat) : Int) - 1) = (m : Int) := by rw [wid (by omega) (by omega)]; omega
    have w1 : IntKind.i64.wrap (0 - v) = -v := by rw [wid (by omega) (by omega)]; omega
    rw [h43_0_eq, if_pos (show decide (((m + 1 : Nat) : Int) > 0) = true by simp only [decide_eq_true_eq]; omega), e1, Option.bind_some]
    dsimp only
    rw [if_pos (show decide (P.length + [_].length ≤ lim) = true by simp [lim]; omega), w3, w1]
    refine made0 l s hs m fl p1 _ (by omega) k1 (by simp; omega) (by simp; omega) ⟨fun k hk => ?_, fun k hk => ?_⟩
    · have hk' : k < P.length + 1 := by simpa using hk
      by_cases hlt : k < P.length
      · rw [getD_append_lt hlt]; exact hP.h k hlt
      · have : k = P.length := by omega
        subst this
        rw [getD_append_len]; dsimp only; omega
    · have hk' : k < P.length + 1 := by simpa using hk
      by_cases hlt : k < P.length
      · rw [getD_append_lt hlt]; exact hP.surf k hlt
      · have : k = P.length := by omega
        subst this
        rw [getD_append_len]
        simp; omega
theorem mades_ok {l : List Int} {p : Int} (hk : cok l p = true) : ∃ x q, o43 l p = some (x, q) ∧ MadeB x ∧ cok l q = true := by
  obtain ⟨v1, p1, e1, k1⟩ := one_ok (n := 3) hk
  obtain ⟨v2, p2, e2, a2, b2, k2⟩ := next_ok (n := 5) k1 (by omega)
  obtain ⟨m, rfl⟩ : ∃ m : Nat, v2 = m := ⟨v2.toNat, by omega⟩
  unfold o43
  rw [h43_eq, e1, Option.bind_some]
  dsimp only
  cases v1
  · rw [if_neg (by simp), e2, Option.bind_some]
    exact made0 l 1 (by omega) m 99 p2 _ (by omega) k2 (by simp) (by simp; omega) ⟨fun k hk => by
      have : k = 0 := by simp at hk; omega
      subst this; simp, fun k hk => by
      have : k = 0 := by simp at hk; omega
      subst this; simp⟩
  · rw [if_pos rfl, e2, Option.bind_some]
    exact made0 l 2 (by omega) m 99 p2 _ (by omega) k2 (by simp) (by simp; omega) ⟨fun k hk => by
      have : k = 0 ∨ k = 1 := by simp at hk; omega
      rcases this with rfl | rfl <;> simp, fun k hk => by
      have : k = 0 ∨ k = 1 := by simp at hk; omega
      rcases this with rfl | rfl <;> simp⟩
end Go.Proofs.Ytipfipnhgpbceaa.Sx
/- Any mine of a few places and roads (plain theorems). -/

set_option linter.unusedVariables false
set_option linter.unusedSimpArgs false
set_option maxRecDepth 100000
namespace Go.Proofs.Ytipfipnhgpbceaa.Sx
open Go Go.RowKit
structure MineX where
  P : List Place
  R : List Road
/-- A right mine's road. -/
structure RoadM (n : Nat) (r : Road) : Prop where
  frm : 0 ≤ r.frm ∧ r.frm < n
  to : 0 ≤ r.to ∧ r.to < n
  ne : r.frm ≠ r.to
  len : 1 ≤ r.len ∧ r.len ≤ 400
  area : 4 ≤ r.area ∧ r.area ≤ 30
  rest : 1 ≤ r.restLo ∧ r.restLo ≤ r.restHi ∧ r.restHi ≤ 22
  lift : -1000000000000 ≤ r.liftLo ∧ r.liftLo ≤ r.liftHi ∧ r.liftHi ≤ 1000000000000
/-- A right mine of a few places and roads, of which at most six places are below ground. -/
structure MineB (x : MineX) : Prop where
  n : 1 ≤ x.P.length ∧ x.P.length ≤ 7
  m : x.R.length ≤ 9
  h : ∀ k, k < x.P.length → -100 ≤ (x.P.getD k place0).height ∧ (x.P.getD k place0).height ≤ 100
  s0 : (x.P.getD 0 place0).surface = true
  road : ∀ k, k < x.R.length → RoadM x.P.length (x.R.getD k road0)
theorem MadeB.mine {x : MadeX} (h : MadeB x) : MineB ⟨x.P, x.R⟩ := by
  obtain ⟨s, h1, h2, h3, h4, h5, h6⟩ := h.shafts
  have hn := h.n
  refine ⟨⟨hn.1, by dsimp only; omega⟩, h.m, fun k hk => ?_, ?_, fun k hk => ?_⟩
  · have := h4.h k hk
    dsimp only; omega
  · dsimp only
    rw [h4.surf 0 (by omega)]
    simp; omega
  · have h7 := h.net.road k hk
    have h8 := h.lift k hk
    exact ⟨h7.frm, h7.to, h7.ne, h7.len, h7.area, h7.rest, h8⟩
noncomputable def l80 : List (FuncId × Spec) := [(46, c46), (32, c32), (55, c55), (91, c91)]
def k80 : Code → Keep := keepOf [(3, ⟨[0, 2, 3, 4], [], []⟩), (8, ⟨[0, 2, 3, 5, 6], [], [(3, 1, .road)]⟩)]
noncomputable def h80_0 (fl : Nat) (t4 : Int) (m0_0 : List Int) (m0_1 : Int) (m3 : List Place) : Option (AV × List Ob) := (evalH (env l80) Try.f80 k80 1 fl (stkF Try.f80 [1, 1, 0, 1, 0]) ⟨[.one (.ptr 0 0), .one (.undef), .one (.ptr 1 0), .one (.ptr 2 0), .one (.int .i64 t4), .one (.undef), .one (.undef), .one (.undef), .one (.undef), .one (.undef), .one (.undef), .one (.undef), .one (.undef), .one (.undef), .one (.undef), .one (.undef), .one (.undef), .one (.undef), .one (.undef), .one (.undef), .one (.undef), .one (.undef), .one (.undef), .one (.undef), .one (.undef), .one (.undef), .one (.undef), .one (.undef), .one (.undef), .one (.undef), .one (.undef), .one (.undef), .one (.undef), .one (.undef), .one (.undef), .one (.undef), .one (.undef), .one (.undef), .one (.undef), .one (.undef), .one (.undef), .one (.undef), .one (.undef), .one (.undef), .one (.undef), .one (.undef), .one (.undef), .one (.undef), .one (.undef), .one (.undef), .one (.undef), .one (.undef), .one (.undef), .one (.undef), .one (.undef), .one (.undef), .one (.undef), .one (.undef), .one (.undef), .one (.undef), .one (.undef), .one (.undef), .one (.undef)], [((0, 0), some (.cell (.vec false .u8 m0_0))), ((0, 1), some (.cell (.int .i64 m0_1))), ((1, 0), some (.cell (.nils))), ((1, 1), some (.cell (.nils))), ((2, 0), some (.cell (.row 3))), ((2, 1), some (.cell (.nils))), ((3, 0), some (.rows .place m3))], 4⟩).den
noncomputable def h80_1 (fl : Nat) (t5 : Int) (t6 : Int) (m0_0 : List Int) (m0_1 : Int) (m3 : List Place) (m4 : List Road) : Option (AV × List Ob) := (evalH (env l80) Try.f80 k80 1 fl (stkF Try.f80 [1, 1, 1, 1, 0, 1, 0]) ⟨[.one (.ptr 0 0), .one (.undef), .one (.ptr 1 0), .one (.ptr 2 0), .one (.undef), .one (.int .i64 t5), .one (.int .i64 t6), .one (.undef), .one (.undef), .one (.undef), .one (.undef), .one (.undef), .one (.undef), .one (.undef), .one (.undef), .one (.undef), .one (.undef), .one (.undef), .one (.undef), .one (.undef), .one (.undef), .one (.undef), .one (.undef), .one (.undef), .one (.undef), .one (.undef), .one (.undef), .one (.undef), .one (.undef), .one (.undef), .one (.undef), .one (.undef), .one (.undef), .one (.undef), .one (.undef), .one (.undef), .one (.undef), .one (.undef), .one (.undef), .one (.undef), .one (.undef), .one (.undef), .one (.undef), .one (.undef), .one (.undef), .one (.undef), .one (.undef), .one (.undef), .one (.undef), .one (.undef), .one (.undef), .one (.undef), .one (.undef), .one (.undef), .one (.undef), .one (.undef), .one (.undef), .one (.undef), .one (.undef), .one (.undef), .one (.undef), .one (.undef), .one (.undef)], [((0, 0), some (.cell (.vec false .u8 m0_0))), ((0, 1), some (.cell (.int .i64 m0_1))), ((1, 0), some (.cell (.nils))), ((1, 1), some (.cell (.nils))), ((2, 0), some (.cell (.row 3))), ((2, 1), some (.cell (.row 4))), ((3, 0), some (.rows .place m3)), ((4, 0), some (.rows .road m4))], 5⟩).den
noncomputable def h80 (fl : Nat) (l : List Int) (p : Int) : Option (AV × List Ob) := (evalF (env l80) Try.f80 k80 fl [.one (.ptr 0 0)] [.box [.vec false .u8 l, .int .i64 p]]).den
theorem h80_eq (fl : Nat) (l : List Int) (p : Int) : h80 (fl + 1) l p =
    (nextO l p 6).bind fun x2 =>
    h80_0 fl (IntKind.i64.wrap (1 + x2.fst)) l x2.snd ([{ height := 0, surface := true : Place }]) := by kernel_rfl
theorem h80_0_eq (fl : Nat) (t4 : Int) (m0_0 : List Int) (m0_1 : Int) (m3 : List Place) : h80_0 (fl + 1) t4 m0_0 m0_1 m3 =
    if (decide (t4 > 0)) = true then (rangeO m0_0 m0_1 (-60) 60).bind fun x3 =>
      (oneO m0_0 x3.snd 5).bind fun x4 =>
        if (decide ((m3).length + ([{ height := x3.fst, surface := x4.fst : Place }]).length ≤ lim)) = true then h80_0 fl (IntKind.i64.wrap (t4 - 1)) m0_0 x4.snd (m3 ++ [{ height := x3.fst, surface := x4.fst : Place }])
          else none
    else (nextO m0_0 m0_1 9).bind fun x3 =>
      h80_1 fl ((↑m3.length : Int)) x3.fst m0_0 x3.snd m3 [] := by kernel_rfl
theorem h80_1_eq (fl : Nat) (t5 : Int) (t6 : Int) (m0_0 : List Int) (m0_1 : Int) (m3 : List Place) (m4 : List Road) : h80_1 (fl + 1) t5 t6 m0_0 m0_1 m3 m4 =
    if (decide (t6 > 0)) = true then (nextO m0_0 m0_1 t5).bind fun x3 =>
      (nextO m0_0 x3.snd (IntKind.i64.wrap (t5 - 1))).bind fun x4 =>
        if (t5 != 0) = true then (o91 x3.fst ((IntKind.i64.wrap (IntKind.i64.wrap (x3.fst + 1) + x4.fst)).tmod t5) m0_0 x4.snd).bind fun x6 =>
            (oneO m0_0 x6.snd 6).bind fun x7 =>
              if (decide ((m4).length + ([{ frm := x6.fst.frm, to := x6.fst.to, len := x6.fst.len, area := x6.fst.area, walk := x6.fst.walk, closed := x7.fst, restLo := x6.fst.restLo, restHi := x6.fst.restHi, liftLo := x6.fst.liftLo, liftHi := x6.fst.liftHi : Road }]).length ≤ lim)) = true then h80_1 fl t5 (IntKind.i64.wrap (t6 - 1)) m0_0 x7.snd m3 (m4 ++ [{ frm := x6.fst.frm, to := x6.fst.to, len := x6.fst.len, area := x6.fst.area, walk := x6.fst.walk, closed := x7.fst, restLo := x6.fst.restLo, restHi := x6.fst.restHi, liftLo := x6.fst.liftLo, liftHi := x6.fst.liftHi : Road }])
                else none
          else none
    else some (.agg [.row 1, .row 2], [.box [.vec false .u8 m0_0, .int .i64 m0_1], .rows .place m3, .rows .road m4]) := by kernel_rfl
def decMine (l : List Int) : AV × List Ob → Option (MineX × Int)
  | (.agg [s, s'], .box [.vec false .u8 l', .int .i64 p] :: os) => if l' = l then (match slO .place 1 (.box [.vec false .u8 l', .int .i64 p] :: os) s, slO .road 1 (.box [.vec false .u8 l', .int .i64 p] :: os) s' with | some d, some d' => some (⟨d, d'⟩, p) | _, _ => none) else none
  | _ => none
theorem decMine_ok {l : List Int} {y : AV × List Ob} {x : MineX × Int} (h : decMine l y = some x) : [Ob.box [.vec false .u8 l, .int .i64 x.2]] = y.2.take 1 ∧ TA y.2 1 y.1 (.agg [.vec false .place x.1.P, .vec false .road x.1.R]) := by
  unfold decMine at h
  split at h
  · split at h
    · rename_i hl
      subst hl
      split at h
      · rename_i d d' hd hd'
        cases h
        exact ⟨rfl, .agg _ _ ⟨slO_ok hd, slO_ok hd', trivial⟩⟩
      · cases h
    · cases h
  · cases h
noncomputable def o80 (l : List Int) (p : Int) : Option (MineX × Int) := (h80 100 l p).bind (decMine l)
noncomputable def c80 : Spec := ⟨false, fun av ob => match av, ob with
  | [.one (.ptr 0 0)], [.box [.vec false .u8 l, .int .i64 p]] => .call (o80 l p) fun x => .ret (.agg [.vec false .place x.1.P, .vec false .road x.1.R], [.box [.vec false .u8 l, .int .i64 x.2]])
  | _, _ => .fail⟩
theorem f80 : FnOK Try.prog 80 := fnOK_of Try.func80 rfl (by kernel_rfl)
theorem pc80 : SpecOK Try.prog 80 c80 := by
  refine spec_thaw (fun av ob r os hrn => ?_) (machS_ok (env_ok (l := l80) ⟨⟨pc46, f46⟩, ⟨⟨pc32, f32⟩, ⟨⟨pc55, f55⟩, ⟨⟨pc91, f91⟩, trivial⟩⟩⟩⟩) mixed_ok Try.func80 k80 (fun _ _ => 100) false)
  simp only [c80] at hrn
  split at hrn
  · rename_i l p
    obtain ⟨x, hx, hr⟩ := Option.bind_eq_some_iff.1 hrn
    cases hr
    obtain ⟨y, hy, hd⟩ := Option.bind_eq_some_iff.1 hx
    unfold h80 at hy
    obtain ⟨d1, d2⟩ := decMine_ok hd
    exact ⟨y.1, y.2, by rw [machS_run]; exact hy, d1, d2⟩
  · cases hrn
def MineEnd (l : List Int) (o : Option (AV × List Ob)) : Prop := ∃ x q, o.bind (decMine l) = some (x, q) ∧ MineB x ∧ 2 ≤ x.P.length ∧ cok l q = true
theorem mine1 (l : List Int) (P : List Place) (hn : 2 ≤ P.length ∧ P.length ≤ 7) (hh : ∀ k, k < P.length → -100 ≤ (P.getD k place0).height ∧ (P.getD k place0).height ≤ 100) (h0 : (P.getD 0 place0).surface = true) : ∀ (m fl : Nat) (p : Int) (R : List Road), m < fl → cok l p = true → R.length + m ≤ 9 → (∀ k, k < R.length → RoadM P.length (R.getD k road0)) →
    MineEnd l (h80_1 fl P.length m l p P R)
  | 0, fl, p, R, hf, hk, hm, hR => by
    obtain ⟨fl, rfl⟩ : ∃ q, fl = q + 1 := ⟨fl - 1, by omega⟩
    rw [h80_1_eq, if_neg (by simp)]
    exact ⟨⟨P, R⟩, p, by simp [decMine, slO], ⟨⟨by dsimp only; omega, hn.2⟩, by dsimp only; omega, hh, h0, hR⟩, hn.1, hk⟩
  | m + 1, fl, p, R, hf, hk, hm, hR => by
    obtain ⟨fl, rfl⟩ : ∃ q, fl = q + 1 := ⟨fl - 1, by omega⟩
    obtain ⟨v1, p1, e1, a1, b1, k1⟩ := next_ok (n := (P.length : Int)) hk (by omega)
    obtain ⟨v2, p2, e2, a2, b2, k2⟩ := next_ok (n := (P.length : Int) - 1) k1 (by omega)
    have hot := other_place (a := v1) (b := v2) (n := (P.length : Int)) (by omega) (by omega)
    obtain ⟨r, p3, e3, hr, k3⟩ := road_ok v1 ((v1 + 1 + v2).tmod (P.length : Int)) k2
    obtain ⟨c, p4, e4, k4⟩ := one_ok (n := 6) k3
    have w0 : IntKind.i64.wrap ((P.length : Int) - 1) = (P.length : Int) - 1 := wid (by omega) (by omega)
    have w1 : IntKind.i64.wrap (v1 + 1) = v1 + 1 := wid (by omega) (by omega)
    have w2 : IntKind.i64.wrap (v1 + 1 + v2) = v1 + 1 + v2 := wid (by omega) (by omega)
    have w3 : IntKind.i64.wrap (((m + 1 : Nat) : Int) - 1) = (m : Int) := by rw [wid (by omega) (by omega)]; omega
    have hn0 : ((P.length : Int) != 0) = true := by simp only [bne_iff_ne, ne_eq]; omega
    generalize hto : (v1 + 1 + v2).tmod (P.length : Int) = v3 at *
    rw [h80_1_eq, if_pos (show decide (((m + 1 : Nat) : Int) > 0) = true by simp only [decide_eq_true_eq]; omega), e1, Option.bind_some]
    dsimp only
    rw [w0, e2, Option.bind_some]
    dsimp only
    rw [if_pos hn0, w1, w2, hto, e3, Option.bind_some]
    dsimp only
    rw [e4, Option.bind_some]
    dsimp only
    rw [if_pos (show decide (R.length + [_].length ≤ lim) = true by simp [lim]; omega), w3]
    refine mine1 l P hn hh h0 m fl p4 _ (by omega) k4 (by simp; omega) (fun k hk => ?_)
    have hk' : k < R.length + 1 := by simpa using hk
    by_cases hlt : k < R.length
    · rw [getD_append_lt hlt]; exact hR k hlt
    · have : k = R.length := by omega
      subst this
      rw [getD_append_len]
      have h1 := hr.frm
      have h2 := hr.to
      have h3 := hr.len
      have h4 := hr.area
      have h5 := hr.rest
      have h6 := hr.lift
      exact ⟨by dsimp only; omega, by dsimp only; omega, by dsimp only; omega, h3, h4, h5, by dsimp only; omega⟩
theorem mine0 (l : List Int) : ∀ (m fl : Nat) (p : Int) (P : List Place), m + 20 < fl → cok l p = true → 2 ≤ P.length + m → 1 ≤ P.length → P.length + m ≤ 7 → (∀ k, k < P.length → -100 ≤ (P.getD k place0).height ∧ (P.getD k place0).height ≤ 100) → (P.getD 0 place0).surface = true →
    MineEnd l (h80_0 fl m l p P)
  | 0, fl, p, P, hf, hk, h1, h2, h3, hh, h0 => by
    obtain ⟨fl, rfl⟩ : ∃ q, fl = q + 1 := ⟨fl - 1, by omega⟩
    obtain ⟨v, p1, e1, a1, b1, k1⟩ := next_ok (n := 9) hk (by omega)
    obtain ⟨m, rfl⟩ : ∃ m : Nat, v = m := ⟨v.toNat, by omega⟩
    rw [h80_0_eq, if_neg (by simp), e1, Option.bind_some]
    exact mine1 l P (by omega) hh h0 m fl p1 [] (by omega) k1 (by simp; omega) (fun k hk => by simp at hk)
  | m + 1, fl, p, P, hf, hk, h1, h2, h3, hh, h0 => by
    obtain ⟨fl, rfl⟩ : ∃ q, fl = q + 1 := ⟨fl - 1, by omega⟩
    obtain ⟨v, p1, e1, a1, b1, k1⟩ := range_ok (lo := -60) (hi := 60) hk (by omega) (by omega) (by omega)
    obtain ⟨c, p2, e2, k2⟩ := one_ok (n := 5) k1
    have w3 : IntKind.i64.wrap (((m + 1 : Nat) : Int) - 1) = (m : Int) := by rw [wid (by omega) (by omega)]; omega
    rw [h80_0_eq, if_pos (show decide (((m + 1 : Nat) : Int) > 0) = true by simp only [decide_eq_true_eq]; omega), e1, Option.bind_some]
    dsimp only
    rw [e2, Option.bind_some]
    dsimp only
    rw [if_pos (show decide (P.length + [_].length ≤ lim) = true by simp [lim]; omega), w3]
    refine mine0 l m fl p2 _ (by omega) k2 (by simp; omega) (by simp) (by simp; omega) (fun k hk => ?_) ?_
    · have hk' : k < P.length + 1 := by simpa using hk
      by_cases hlt : k < P.length
      · rw [getD_append_lt hlt]; exact hh k hlt
      · have : k = P.length := by omega
        subst this
        rw [getD_append_len]; dsimp only; omega
    · rw [getD_append_lt (by omega)]; exact h0
theorem mine_ok {l : List Int} {p : Int} (hk : cok l p = true) : ∃ x q, o80 l p = some (x, q) ∧ MineB x ∧ 2 ≤ x.P.length ∧ cok l q = true := by
  obtain ⟨v, p1, e1, a1, b1, k1⟩ := next_ok (n := 6) hk (by omega)
  obtain ⟨m, rfl⟩ : ∃ m : Nat, v = m := ⟨v.toNat, by omega⟩
  have w1 : IntKind.i64.wrap (1 + (m : Int)) = ((m + 1 : Nat) : Int) := by rw [wid (by omega) (by omega)]; omega
  unfold o80
  rw [h80_eq, e1, Option.bind_some]
  dsimp only
  rw [w1]
  exact mine0 l (m + 1) 99 p1 _ (by omega) k1 (by simp; omega) (by simp) (by simp; omega) (fun k hk => by
    have : k = 0 := by simp at hk; omega
    subst this; simp) (by simp)
end Go.Proofs.Ytipfipnhgpbceaa.Sx
