/- Which sensors are right; what raw numbers say; the least raw number: the two texts agree (plain theorems). -/
import Derived.Test.YtipfipnhgpbceaaSd
set_option linter.unusedVariables false
set_option linter.unusedSimpArgs false
set_option maxRecDepth 100000
namespace Go.Proofs.Ytipfipnhgpbceaa.Sx
open Go Go.RowKit
noncomputable def l6 : List (FuncId × Spec) := [(37, c37), (38, s38), (39, s39), (40, s40)]
def k6 : Code → Keep := keepOf []
noncomputable def h6 (fl : Nat) (l : List Int) (a b c d e f g h n : Int) : Option (AV × List Ob) := (evalF (env l6) Try.f6 k6 fl [.one (.vec false .u8 l), .agg [.int .i64 a, .int .i64 b, .int .i64 c, .int .i64 d, .int .i64 e, .int .i64 f, .int .i64 g, .int .i64 h], .one (.int .i64 n)] []).den
theorem h6_eq (fl : Nat) (l : List Int) (a b c d e f g h n : Int) : h6 (fl + 1) l a b c d e f g h n =
    (o37 l n).bind fun x2 =>
    if (checkS { addr := x2.addr, kind := x2.kind, target := x2.target, offset := x2.offset, scale := x2.scale, error := x2.error, drift := x2.drift, life := x2.life : Sensor } == checkS { addr := x2.addr, kind := x2.kind, target := x2.target, offset := x2.offset, scale := x2.scale, error := x2.error, drift := x2.drift, life := x2.life : Sensor }) = true then if (checkS { addr := a, kind := b, target := c, offset := d, scale := e, error := f, drift := g, life := h : Sensor } == checkS { addr := a, kind := b, target := c, offset := d, scale := e, error := f, drift := g, life := h : Sensor }) = true then some (.one (.bool true), [])
        else some (.one (.bool false), [])
      else some (.one (.bool false), []) := by kernel_rfl
theorem v6 (l : List Int) (a b c d e f g h n : Int) (hl : l.all u8B = true) : h6 1 l a b c d e f g h n = some (.one (.bool true), []) := by
  obtain ⟨s, hs⟩ := made_ok n hl
  rw [h6_eq, hs, Option.bind_some]
  simp only [beq_self_eq_true, if_true]
def s6 : Spec := ⟨false, fun av ob => match av, ob with
  | [.one (.vec false .u8 l), .agg [.int .i64 a, .int .i64 b, .int .i64 c, .int .i64 d, .int .i64 e, .int .i64 f, .int .i64 g, .int .i64 h], .one (.int .i64 n)], [] => .need (l.all u8B && (sensorB ⟨a, b, c, d, e, f, g, h⟩ && (i64B n))) (.ret (.one (.bool true), []))
  | _, _ => .fail⟩
theorem p6 : SpecOK Try.prog 6 s6 := by
  refine specOK_of (env_ok (l := l6) ⟨⟨pc37, f37⟩, ⟨⟨p38, f38⟩, ⟨⟨p39, f39⟩, ⟨⟨p40, f40⟩, trivial⟩⟩⟩⟩) mixed_ok Try.func6 k6 fun av ob r os hrn => ?_
  simp only [s6] at hrn
  split at hrn
  · rename_i l a b c d e f g h n
    obtain ⟨hg, hrn⟩ := need_den hrn
    cases hrn
    simp only [Bool.and_eq_true] at hg
    obtain ⟨q1, q2, q3⟩ := hg
    have hv := v6 l a b c d e f g h n q1
    unfold h6 at hv
    exact ⟨1, hv⟩
  · cases hrn
theorem law6 (av : List AV) (h : AVs [RBytes, RSensor, RInt] av) : (s6.run av []).den = some (.one (.bool true), []) := by
  obtain ⟨_, _, rfl, ⟨l, rfl, q1⟩, k1⟩ := h.cons
  obtain ⟨_, _, rfl, ⟨⟨a, b, c, d, e, f, g, h⟩, rfl, q2⟩, k2⟩ := k1.cons
  obtain ⟨_, _, rfl, ⟨n, rfl, q3⟩, k3⟩ := k2.cons
  rw [k3.nil]
  refine den_need ?_
  simp only [Bool.and_eq_true]
  exact ⟨q1, q2, q3⟩
noncomputable def l7 : List (FuncId × Spec) := [(27, s27), (37, c37), (41, s41), (42, s42), (40, s40)]
def k7 : Code → Keep := keepOf [(3, ⟨[2, 9, 18, 19, 20], [], []⟩)]
noncomputable def h7_0 (fl : Nat) (t2 : Int) (t9 : Int) (t19 : Int) (t20 : Int) (m0 : List Sensor) : Option (AV × List Ob) := (evalH (env l7) Try.f7 k7 0 fl (stkF Try.f7 [1, 1, 0, 1, 0]) ⟨[.one (.undef), .one (.undef), .one (.int .i64 t2), .one (.undef), .one (.undef), .one (.undef), .one (.undef), .one (.undef), .one (.undef), .one (.int .i64 t9), .one (.undef), .one (.undef), .one (.undef), .one (.undef), .one (.undef), .one (.undef), .one (.undef), .one (.undef), .one (.row 0), .one (.int .i64 t19), .one (.int .i64 t20), .one (.undef), .one (.undef), .one (.undef), .one (.undef), .one (.undef), .one (.undef), .one (.undef), .one (.undef), .one (.undef), .one (.undef), .one (.undef), .one (.undef), .one (.undef), .one (.undef), .one (.undef), .one (.undef), .one (.undef), .one (.undef), .one (.undef), .one (.undef), .one (.undef), .one (.undef), .one (.undef), .one (.undef), .one (.undef), .one (.undef), .one (.undef), .one (.undef), .one (.undef), .one (.undef), .one (.undef), .one (.undef)], [((0, 0), some (.rows .sensor m0))], 1⟩).den
noncomputable def h7 (fl : Nat) (l : List Int) (a b c d e f g h n m : Int) : Option (AV × List Ob) := (evalF (env l7) Try.f7 k7 fl [.one (.vec false .u8 l), .agg [.int .i64 a, .int .i64 b, .int .i64 c, .int .i64 d, .int .i64 e, .int .i64 f, .int .i64 g, .int .i64 h], .one (.int .i64 n), .one (.int .i64 m)] []).den
theorem h7_eq (fl : Nat) (l : List Int) (a b c d e f g h n m : Int) : h7 (fl + 1) l a b c d e f g h n m =
    (o37 l m).bind fun x2 =>
    h7_0 fl n (modz n 3000) ((↑[{ addr := x2.addr, kind := x2.kind, target := x2.target, offset := x2.offset, scale := x2.scale, error := x2.error, drift := x2.drift, life := x2.life : Sensor }, { addr := a, kind := b, target := c, offset := d, scale := e, error := f, drift := g, life := h : Sensor }].length : Int)) 0 ([{ addr := x2.addr, kind := x2.kind, target := x2.target, offset := x2.offset, scale := x2.scale, error := x2.error, drift := x2.drift, life := x2.life : Sensor }, { addr := a, kind := b, target := c, offset := d, scale := e, error := f, drift := g, life := h : Sensor }]) := by kernel_rfl
theorem h7_0_eq (fl : Nat) (t2 : Int) (t9 : Int) (t19 : Int) (t20 : Int) (m0 : List Sensor) : h7_0 (fl + 1) t2 t9 t19 t20 m0 =
    if (decide (t20 < t19)) = true then if (idx m0.length t20) = true then if (!((valueC { addr := (m0.getD t20.toNat (dflt K.sensor)).addr, kind := (m0.getD t20.toNat (dflt K.sensor)).kind, target := (m0.getD t20.toNat (dflt K.sensor)).target, offset := (m0.getD t20.toNat (dflt K.sensor)).offset, scale := (m0.getD t20.toNat (dflt K.sensor)).scale, error := (m0.getD t20.toNat (dflt K.sensor)).error, drift := (m0.getD t20.toNat (dflt K.sensor)).drift, life := (m0.getD t20.toNat (dflt K.sensor)).life : Sensor } t2).lo == (valueC { addr := (m0.getD t20.toNat (dflt K.sensor)).addr, kind := (m0.getD t20.toNat (dflt K.sensor)).kind, target := (m0.getD t20.toNat (dflt K.sensor)).target, offset := (m0.getD t20.toNat (dflt K.sensor)).offset, scale := (m0.getD t20.toNat (dflt K.sensor)).scale, error := (m0.getD t20.toNat (dflt K.sensor)).error, drift := (m0.getD t20.toNat (dflt K.sensor)).drift, life := (m0.getD t20.toNat (dflt K.sensor)).life : Sensor } t2).lo && (valueC { addr := (m0.getD t20.toNat (dflt K.sensor)).addr, kind := (m0.getD t20.toNat (dflt K.sensor)).kind, target := (m0.getD t20.toNat (dflt K.sensor)).target, offset := (m0.getD t20.toNat (dflt K.sensor)).offset, scale := (m0.getD t20.toNat (dflt K.sensor)).scale, error := (m0.getD t20.toNat (dflt K.sensor)).error, drift := (m0.getD t20.toNat (dflt K.sensor)).drift, life := (m0.getD t20.toNat (dflt K.sensor)).life : Sensor } t2).hi == (valueC { addr := (m0.getD t20.toNat (dflt K.sensor)).addr, kind := (m0.getD t20.toNat (dflt K.sensor)).kind, target := (m0.getD t20.toNat (dflt K.sensor)).target, offset := (m0.getD t20.toNat (dflt K.sensor)).offset, scale := (m0.getD t20.toNat (dflt K.sensor)).scale, error := (m0.getD t20.toNat (dflt K.sensor)).error, drift := (m0.getD t20.toNat (dflt K.sensor)).drift, life := (m0.getD t20.toNat (dflt K.sensor)).life : Sensor } t2).hi)) = true then some (.one (.bool false), [])
        else if (!((valueC { addr := (m0.getD t20.toNat (dflt K.sensor)).addr, kind := (m0.getD t20.toNat (dflt K.sensor)).kind, target := (m0.getD t20.toNat (dflt K.sensor)).target, offset := (m0.getD t20.toNat (dflt K.sensor)).offset, scale := (m0.getD t20.toNat (dflt K.sensor)).scale, error := (m0.getD t20.toNat (dflt K.sensor)).error, drift := (m0.getD t20.toNat (dflt K.sensor)).drift, life := (m0.getD t20.toNat (dflt K.sensor)).life : Sensor } t9).lo == (valueC { addr := (m0.getD t20.toNat (dflt K.sensor)).addr, kind := (m0.getD t20.toNat (dflt K.sensor)).kind, target := (m0.getD t20.toNat (dflt K.sensor)).target, offset := (m0.getD t20.toNat (dflt K.sensor)).offset, scale := (m0.getD t20.toNat (dflt K.sensor)).scale, error := (m0.getD t20.toNat (dflt K.sensor)).error, drift := (m0.getD t20.toNat (dflt K.sensor)).drift, life := (m0.getD t20.toNat (dflt K.sensor)).life : Sensor } t9).lo && (valueC { addr := (m0.getD t20.toNat (dflt K.sensor)).addr, kind := (m0.getD t20.toNat (dflt K.sensor)).kind, target := (m0.getD t20.toNat (dflt K.sensor)).target, offset := (m0.getD t20.toNat (dflt K.sensor)).offset, scale := (m0.getD t20.toNat (dflt K.sensor)).scale, error := (m0.getD t20.toNat (dflt K.sensor)).error, drift := (m0.getD t20.toNat (dflt K.sensor)).drift, life := (m0.getD t20.toNat (dflt K.sensor)).life : Sensor } t9).hi == (valueC { addr := (m0.getD t20.toNat (dflt K.sensor)).addr, kind := (m0.getD t20.toNat (dflt K.sensor)).kind, target := (m0.getD t20.toNat (dflt K.sensor)).target, offset := (m0.getD t20.toNat (dflt K.sensor)).offset, scale := (m0.getD t20.toNat (dflt K.sensor)).scale, error := (m0.getD t20.toNat (dflt K.sensor)).error, drift := (m0.getD t20.toNat (dflt K.sensor)).drift, life := (m0.getD t20.toNat (dflt K.sensor)).life : Sensor } t9).hi)) = true then some (.one (.bool false), [])
          else if (!((valueC { addr := (m0.getD t20.toNat (dflt K.sensor)).addr, kind := (m0.getD t20.toNat (dflt K.sensor)).kind, target := (m0.getD t20.toNat (dflt K.sensor)).target, offset := (m0.getD t20.toNat (dflt K.sensor)).offset, scale := (m0.getD t20.toNat (dflt K.sensor)).scale, error := (m0.getD t20.toNat (dflt K.sensor)).error, drift := (m0.getD t20.toNat (dflt K.sensor)).drift, life := (m0.getD t20.toNat (dflt K.sensor)).life : Sensor } (t9.tmod 7)).lo == (valueC { addr := (m0.getD t20.toNat (dflt K.sensor)).addr, kind := (m0.getD t20.toNat (dflt K.sensor)).kind, target := (m0.getD t20.toNat (dflt K.sensor)).target, offset := (m0.getD t20.toNat (dflt K.sensor)).offset, scale := (m0.getD t20.toNat (dflt K.sensor)).scale, error := (m0.getD t20.toNat (dflt K.sensor)).error, drift := (m0.getD t20.toNat (dflt K.sensor)).drift, life := (m0.getD t20.toNat (dflt K.sensor)).life : Sensor } (t9.tmod 7)).lo && (valueC { addr := (m0.getD t20.toNat (dflt K.sensor)).addr, kind := (m0.getD t20.toNat (dflt K.sensor)).kind, target := (m0.getD t20.toNat (dflt K.sensor)).target, offset := (m0.getD t20.toNat (dflt K.sensor)).offset, scale := (m0.getD t20.toNat (dflt K.sensor)).scale, error := (m0.getD t20.toNat (dflt K.sensor)).error, drift := (m0.getD t20.toNat (dflt K.sensor)).drift, life := (m0.getD t20.toNat (dflt K.sensor)).life : Sensor } (t9.tmod 7)).hi == (valueC { addr := (m0.getD t20.toNat (dflt K.sensor)).addr, kind := (m0.getD t20.toNat (dflt K.sensor)).kind, target := (m0.getD t20.toNat (dflt K.sensor)).target, offset := (m0.getD t20.toNat (dflt K.sensor)).offset, scale := (m0.getD t20.toNat (dflt K.sensor)).scale, error := (m0.getD t20.toNat (dflt K.sensor)).error, drift := (m0.getD t20.toNat (dflt K.sensor)).drift, life := (m0.getD t20.toNat (dflt K.sensor)).life : Sensor } (t9.tmod 7)).hi)) = true then some (.one (.bool false), [])
            else h7_0 fl t2 t9 t19 (IntKind.i64.wrap (t20 + 1)) m0
      else none
    else some (.one (.bool true), []) := by kernel_rfl
theorem v7_0 (n k : Int) (m : List Sensor) (hm : m.length = 2) : ∀ (d fl i : Nat), 2 - i = d → i ≤ 2 → d < fl → h7_0 fl n k 2 i m = some (.one (.bool true), [])
  | d, fl, i, hd, hi, hf => by
    obtain ⟨fl, rfl⟩ : ∃ q, fl = q + 1 := ⟨fl - 1, by omega⟩
    rw [h7_0_eq]
    by_cases hlt : i < 2
    · rw [if_pos (show decide ((i : Int) < 2) = true by simp only [decide_eq_true_eq]; omega), if_pos (idx_nat (by omega))]
      simp only [beq_self_eq_true, Bool.and_self, Bool.not_true, Bool.false_eq_true, if_false]
      rw [wr_succ (by omega)]
      cases d with
      | zero => omega
      | succ d => exact v7_0 n k m hm d fl (i + 1) (by omega) (by omega) (by omega)
    · rw [if_neg (show ¬ decide ((i : Int) < 2) = true by simp only [decide_eq_true_eq]; omega)]
theorem v7 (l : List Int) (a b c d e f g h n m : Int) (hl : l.all u8B = true) : h7 10 l a b c d e f g h n m = some (.one (.bool true), []) := by
  obtain ⟨s, hs⟩ := made_ok m hl
  rw [h7_eq, hs, Option.bind_some]
  exact v7_0 n _ _ rfl 2 9 0 rfl (by omega) (by omega)
def s7 : Spec := ⟨false, fun av ob => match av, ob with
  | [.one (.vec false .u8 l), .agg [.int .i64 a, .int .i64 b, .int .i64 c, .int .i64 d, .int .i64 e, .int .i64 f, .int .i64 g, .int .i64 h], .one (.int .i64 n), .one (.int .i64 m)], [] => .need (l.all u8B && (sensorB ⟨a, b, c, d, e, f, g, h⟩ && (i64B n && (i64B m)))) (.ret (.one (.bool true), []))
  | _, _ => .fail⟩
theorem p7 : SpecOK Try.prog 7 s7 := by
  refine specOK_of (env_ok (l := l7) ⟨⟨p27, f27⟩, ⟨⟨pc37, f37⟩, ⟨⟨p41, f41⟩, ⟨⟨p42, f42⟩, ⟨⟨p40, f40⟩, trivial⟩⟩⟩⟩⟩) mixed_ok Try.func7 k7 fun av ob r os hrn => ?_
  simp only [s7] at hrn
  split at hrn
  · rename_i l a b c d e f g h n m
    obtain ⟨hg, hrn⟩ := need_den hrn
    cases hrn
    simp only [Bool.and_eq_true] at hg
    obtain ⟨q1, q2, q3, q4⟩ := hg
    have hv := v7 l a b c d e f g h n m q1
    unfold h7 at hv
    exact ⟨10, hv⟩
  · cases hrn
theorem law7 (av : List AV) (h : AVs [RBytes, RSensor, RInt, RInt] av) : (s7.run av []).den = some (.one (.bool true), []) := by
  obtain ⟨_, _, rfl, ⟨l, rfl, q1⟩, k1⟩ := h.cons
  obtain ⟨_, _, rfl, ⟨⟨a, b, c, d, e, f, g, h⟩, rfl, q2⟩, k2⟩ := k1.cons
  obtain ⟨_, _, rfl, ⟨n, rfl, q3⟩, k3⟩ := k2.cons
  obtain ⟨_, _, rfl, ⟨m, rfl, q4⟩, k4⟩ := k3.cons
  rw [k4.nil]
  refine den_need ?_
  simp only [Bool.and_eq_true]
  exact ⟨q1, q2, q3, q4⟩
noncomputable def l15 : List (FuncId × Spec) := [(37, c37), (27, s27), (60, s60), (61, s61), (40, s40)]
def k15 : Code → Keep := keepOf []
noncomputable def h15 (fl : Nat) (l : List Int) (n m : Int) : Option (AV × List Ob) := (evalF (env l15) Try.f15 k15 fl [.one (.vec false .u8 l), .one (.int .i64 n), .one (.int .i64 m)] []).den
theorem h15_eq (fl : Nat) (l : List Int) (n m : Int) : h15 (fl + 1) l n m =
    (o37 l m).bind fun x2 =>
    if (rawN (rawO { addr := x2.addr, kind := x2.kind, target := x2.target, offset := x2.offset, scale := x2.scale, error := x2.error, drift := x2.drift, life := x2.life : Sensor } (IntKind.i64.wrap (modz n 400 - 100))) == rawN (rawO { addr := x2.addr, kind := x2.kind, target := x2.target, offset := x2.offset, scale := x2.scale, error := x2.error, drift := x2.drift, life := x2.life : Sensor } (IntKind.i64.wrap (modz n 400 - 100)))) = true then if (rawB (rawO { addr := x2.addr, kind := x2.kind, target := x2.target, offset := x2.offset, scale := x2.scale, error := x2.error, drift := x2.drift, life := x2.life : Sensor } (IntKind.i64.wrap (modz n 400 - 100))) == rawB (rawO { addr := x2.addr, kind := x2.kind, target := x2.target, offset := x2.offset, scale := x2.scale, error := x2.error, drift := x2.drift, life := x2.life : Sensor } (IntKind.i64.wrap (modz n 400 - 100)))) = true then some (.one (.bool true), [])
        else some (.one (.bool false), [])
      else some (.one (.bool false), []) := by kernel_rfl
theorem v15 (l : List Int) (n m : Int) (hl : l.all u8B = true) : h15 1 l n m = some (.one (.bool true), []) := by
  obtain ⟨s, hs⟩ := made_ok m hl
  rw [h15_eq, hs, Option.bind_some]
  simp only [beq_self_eq_true, if_true]
def s15 : Spec := ⟨false, fun av ob => match av, ob with
  | [.one (.vec false .u8 l), .one (.int .i64 n), .one (.int .i64 m)], [] => .need (l.all u8B && (i64B n && (i64B m))) (.ret (.one (.bool true), []))
  | _, _ => .fail⟩
theorem p15 : SpecOK Try.prog 15 s15 := by
  refine specOK_of (env_ok (l := l15) ⟨⟨pc37, f37⟩, ⟨⟨p27, f27⟩, ⟨⟨p60, f60⟩, ⟨⟨p61, f61⟩, ⟨⟨p40, f40⟩, trivial⟩⟩⟩⟩⟩) mixed_ok Try.func15 k15 fun av ob r os hrn => ?_
  simp only [s15] at hrn
  split at hrn
  · rename_i l n m
    obtain ⟨hg, hrn⟩ := need_den hrn
    cases hrn
    simp only [Bool.and_eq_true] at hg
    obtain ⟨q1, q2, q3⟩ := hg
    have hv := v15 l n m q1
    unfold h15 at hv
    exact ⟨1, hv⟩
  · cases hrn
theorem law15 (av : List AV) (h : AVs [RBytes, RInt, RInt] av) : (s15.run av []).den = some (.one (.bool true), []) := by
  obtain ⟨_, _, rfl, ⟨l, rfl, q1⟩, k1⟩ := h.cons
  obtain ⟨_, _, rfl, ⟨n, rfl, q2⟩, k2⟩ := k1.cons
  obtain ⟨_, _, rfl, ⟨m, rfl, q3⟩, k3⟩ := k2.cons
  rw [k3.nil]
  refine den_need ?_
  simp only [Bool.and_eq_true]
  exact ⟨q1, q2, q3⟩
end Go.Proofs.Ytipfipnhgpbceaa.Sx
