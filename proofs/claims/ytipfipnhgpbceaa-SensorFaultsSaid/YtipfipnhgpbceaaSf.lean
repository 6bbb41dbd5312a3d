/- The raw number that is found for a value says it, and is the least one (plain theorems). -/
import Derived.Test.YtipfipnhgpbceaaSd
set_option linter.unusedVariables false
set_option linter.unusedSimpArgs false
set_option maxRecDepth 100000
namespace Go.Proofs.Ytipfipnhgpbceaa.Sx
open Go Go.RowKit
theorem findR_some {f : Int → Bool} : ∀ (k : Nat) (i x : Int), i ≤ x → x < i + k → f x = true → ∃ j, findR f k i = some j ∧ i ≤ j ∧ j ≤ x ∧ f j = true ∧ ∀ y, i ≤ y → y < j → f y = false
  | 0, i, x, h0, h1, _ => by omega
  | k + 1, i, x, h0, h1, hx => by
    unfold findR
    by_cases hf : f i = true
    · rw [if_pos hf]
      exact ⟨i, rfl, by omega, by omega, hf, fun y h2 h3 => by omega⟩
    · rw [if_neg hf]
      have hne : x ≠ i := fun e => hf (e ▸ hx)
      obtain ⟨j, a1, a2, a3, a4, a5⟩ := findR_some k (i + 1) x (by omega) (by omega) hx
      refine ⟨j, a1, by omega, a3, a4, fun y h2 h3 => ?_⟩
      by_cases hy : y = i
      · rw [hy]; simpa using hf
      · exact a5 y (by omega) h3
theorem SB.check {s : Sensor} (h : SB s) (ha : s.addr = 0) (ht : s.target = 0) : checkS s = 0 := by
  unfold checkS
  have h1 := h.kind
  have h2 := h.offset
  have h3 := h.scale
  have h4 := h.error
  have h5 := h.drift
  have h6 := h.life
  rw [if_neg (by omega), if_pos (by omega)]
/-- What a made sensor of the first three kinds says. -/
theorem valT_bound {s : Sensor} (h : SB s) (hc : checkS s = 0) (hk : s.kind ≤ 3) {n : Int} (hn : 0 ≤ n ∧ n ≤ 65535) : (valT s n).lo ≤ (valT s n).hi ∧ -1000 ≤ (valT s n).lo ∧ (valT s n).hi ≤ 1000000 := by
  have hx := mul_le_of (show 0 ≤ s.scale by have := h.scale; omega) h.scale.2 hn.1 hn.2
  have h1 := h.kind
  have h2 := h.offset
  have h4 := h.error
  unfold valT
  rw [if_neg (by omega), if_neg (by omega), if_neg (by omega), if_neg (by omega), valSpan_eq hc hn, mx_eq, mx_eq]
  generalize s.scale * n = x at *
  split
  · dsimp only; omega
  · dsimp only; omega
noncomputable def l16 : List (FuncId × Spec) := [(26, s26), (32, c32), (31, c31), (41, s41), (60, s60), (40, s40)]
def k16 : Code → Keep := keepOf []
noncomputable def h16 (fl : Nat) (l : List Int) (n : Int) : Option (AV × List Ob) := (evalF (env l16) Try.f16 k16 fl [.one (.vec false .u8 l), .one (.int .u16 n)] []).den
theorem h16_eq (fl : Nat) (l : List Int) (n : Int) : h16 (fl + 1) l n =
    (rangeO (List.take 300 l) 0 1 3).bind fun x2 =>
    (sensO (List.take 300 l) x2.snd x2.fst 0 0).bind fun x3 =>
      if (!rawB (rawO { addr := x3.fst.addr, kind := x3.fst.kind, target := x3.fst.target, offset := x3.fst.offset, scale := x3.fst.scale, error := x3.fst.error, drift := x3.fst.drift, life := x3.fst.life : Sensor } (valueC { addr := x3.fst.addr, kind := x3.fst.kind, target := x3.fst.target, offset := x3.fst.offset, scale := x3.fst.scale, error := x3.fst.error, drift := x3.fst.drift, life := x3.fst.life : Sensor } ((IntKind.i64.wrap n).tmod 500)).lo)) = true then some (.one (.bool false), [])
        else if (decide (rawN (rawO { addr := x3.fst.addr, kind := x3.fst.kind, target := x3.fst.target, offset := x3.fst.offset, scale := x3.fst.scale, error := x3.fst.error, drift := x3.fst.drift, life := x3.fst.life : Sensor } (valueC { addr := x3.fst.addr, kind := x3.fst.kind, target := x3.fst.target, offset := x3.fst.offset, scale := x3.fst.scale, error := x3.fst.error, drift := x3.fst.drift, life := x3.fst.life : Sensor } ((IntKind.i64.wrap n).tmod 500)).lo) > (IntKind.i64.wrap n).tmod 500)) = true then some (.one (.bool false), [])
          else if (decide (rawN (rawO { addr := x3.fst.addr, kind := x3.fst.kind, target := x3.fst.target, offset := x3.fst.offset, scale := x3.fst.scale, error := x3.fst.error, drift := x3.fst.drift, life := x3.fst.life : Sensor } (valueC { addr := x3.fst.addr, kind := x3.fst.kind, target := x3.fst.target, offset := x3.fst.offset, scale := x3.fst.scale, error := x3.fst.error, drift := x3.fst.drift, life := x3.fst.life : Sensor } ((IntKind.i64.wrap n).tmod 500)).lo) < 0)) = true then some (.one (.bool false), [])
            else if (decide ((valueC { addr := x3.fst.addr, kind := x3.fst.kind, target := x3.fst.target, offset := x3.fst.offset, scale := x3.fst.scale, error := x3.fst.error, drift := x3.fst.drift, life := x3.fst.life : Sensor } (rawN (rawO { addr := x3.fst.addr, kind := x3.fst.kind, target := x3.fst.target, offset := x3.fst.offset, scale := x3.fst.scale, error := x3.fst.error, drift := x3.fst.drift, life := x3.fst.life : Sensor } (valueC { addr := x3.fst.addr, kind := x3.fst.kind, target := x3.fst.target, offset := x3.fst.offset, scale := x3.fst.scale, error := x3.fst.error, drift := x3.fst.drift, life := x3.fst.life : Sensor } ((IntKind.i64.wrap n).tmod 500)).lo))).lo > (valueC { addr := x3.fst.addr, kind := x3.fst.kind, target := x3.fst.target, offset := x3.fst.offset, scale := x3.fst.scale, error := x3.fst.error, drift := x3.fst.drift, life := x3.fst.life : Sensor } ((IntKind.i64.wrap n).tmod 500)).lo)) = true then some (.one (.bool false), [])
              else if (decide ((valueC { addr := x3.fst.addr, kind := x3.fst.kind, target := x3.fst.target, offset := x3.fst.offset, scale := x3.fst.scale, error := x3.fst.error, drift := x3.fst.drift, life := x3.fst.life : Sensor } (rawN (rawO { addr := x3.fst.addr, kind := x3.fst.kind, target := x3.fst.target, offset := x3.fst.offset, scale := x3.fst.scale, error := x3.fst.error, drift := x3.fst.drift, life := x3.fst.life : Sensor } (valueC { addr := x3.fst.addr, kind := x3.fst.kind, target := x3.fst.target, offset := x3.fst.offset, scale := x3.fst.scale, error := x3.fst.error, drift := x3.fst.drift, life := x3.fst.life : Sensor } ((IntKind.i64.wrap n).tmod 500)).lo))).hi < (valueC { addr := x3.fst.addr, kind := x3.fst.kind, target := x3.fst.target, offset := x3.fst.offset, scale := x3.fst.scale, error := x3.fst.error, drift := x3.fst.drift, life := x3.fst.life : Sensor } ((IntKind.i64.wrap n).tmod 500)).lo)) = true then some (.one (.bool false), [])
                else if (rawN (rawO { addr := x3.fst.addr, kind := x3.fst.kind, target := x3.fst.target, offset := x3.fst.offset, scale := x3.fst.scale, error := x3.fst.error, drift := x3.fst.drift, life := x3.fst.life : Sensor } (valueC { addr := x3.fst.addr, kind := x3.fst.kind, target := x3.fst.target, offset := x3.fst.offset, scale := x3.fst.scale, error := x3.fst.error, drift := x3.fst.drift, life := x3.fst.life : Sensor } ((IntKind.i64.wrap n).tmod 500)).lo) == 0) = true then some (.one (.bool true), [])
                  else if (decide ((valueC { addr := x3.fst.addr, kind := x3.fst.kind, target := x3.fst.target, offset := x3.fst.offset, scale := x3.fst.scale, error := x3.fst.error, drift := x3.fst.drift, life := x3.fst.life : Sensor } (IntKind.i64.wrap (rawN (rawO { addr := x3.fst.addr, kind := x3.fst.kind, target := x3.fst.target, offset := x3.fst.offset, scale := x3.fst.scale, error := x3.fst.error, drift := x3.fst.drift, life := x3.fst.life : Sensor } (valueC { addr := x3.fst.addr, kind := x3.fst.kind, target := x3.fst.target, offset := x3.fst.offset, scale := x3.fst.scale, error := x3.fst.error, drift := x3.fst.drift, life := x3.fst.life : Sensor } ((IntKind.i64.wrap n).tmod 500)).lo) - 1))).hi < (valueC { addr := x3.fst.addr, kind := x3.fst.kind, target := x3.fst.target, offset := x3.fst.offset, scale := x3.fst.scale, error := x3.fst.error, drift := x3.fst.drift, life := x3.fst.life : Sensor } ((IntKind.i64.wrap n).tmod 500)).lo)) = true then some (.one (.bool true), [])
                    else if (decide ((valueC { addr := x3.fst.addr, kind := x3.fst.kind, target := x3.fst.target, offset := x3.fst.offset, scale := x3.fst.scale, error := x3.fst.error, drift := x3.fst.drift, life := x3.fst.life : Sensor } (IntKind.i64.wrap (rawN (rawO { addr := x3.fst.addr, kind := x3.fst.kind, target := x3.fst.target, offset := x3.fst.offset, scale := x3.fst.scale, error := x3.fst.error, drift := x3.fst.drift, life := x3.fst.life : Sensor } (valueC { addr := x3.fst.addr, kind := x3.fst.kind, target := x3.fst.target, offset := x3.fst.offset, scale := x3.fst.scale, error := x3.fst.error, drift := x3.fst.drift, life := x3.fst.life : Sensor } ((IntKind.i64.wrap n).tmod 500)).lo) - 1))).lo > (valueC { addr := x3.fst.addr, kind := x3.fst.kind, target := x3.fst.target, offset := x3.fst.offset, scale := x3.fst.scale, error := x3.fst.error, drift := x3.fst.drift, life := x3.fst.life : Sensor } ((IntKind.i64.wrap n).tmod 500)).lo)) = true then some (.one (.bool true), [])
                      else some (.one (.bool false), []) := by kernel_rfl
theorem v16 (l : List Int) (n : Int) (hl : l.all u8B = true) (hn : u16B n = true) : h16 1 l n = some (.one (.bool true), []) := by
  rw [u16B_iff] at hn
  have k0 := cok0 hl
  obtain ⟨v1, p1, e1, a1, b1, k1⟩ := range_ok (lo := 1) (hi := 3) k0 (by omega) (by omega) (by omega)
  obtain ⟨s, p2, e2, hs, g1, g2, g3, k2⟩ := sens_ok (a := v1) (b := 0) (c := 0) k1 (by omega)
  rw [h16_eq, e1, Option.bind_some]
  dsimp only
  rw [e2, Option.bind_some]
  have hc := hs.check g2 g3
  have ew : IntKind.i64.wrap n = n := wid (by omega) (by omega)
  have hv : ∀ m, valueC s m = valT s m := fun m => by
    unfold valueC
    rw [if_neg (by simp [hc])]
  have er : n.tmod 500 = n % 500 := Int.tmod_eq_emod_of_nonneg hn.1
  dsimp only
  rw [ew, er]
  show (if (!rawB (rawO s (valueC s (n % 500)).lo)) = true then _ else if (decide (rawN (rawO s (valueC s (n % 500)).lo) > n % 500)) = true then _ else if (decide (rawN (rawO s (valueC s (n % 500)).lo) < 0)) = true then _ else
    if (decide ((valueC s (rawN (rawO s (valueC s (n % 500)).lo))).lo > (valueC s (n % 500)).lo)) = true then _ else if (decide ((valueC s (rawN (rawO s (valueC s (n % 500)).lo))).hi < (valueC s (n % 500)).lo)) = true then _ else
    if (rawN (rawO s (valueC s (n % 500)).lo) == 0) = true then _ else if (decide ((valueC s (IntKind.i64.wrap (rawN (rawO s (valueC s (n % 500)).lo) - 1))).hi < (valueC s (n % 500)).lo)) = true then _ else
    if (decide ((valueC s (IntKind.i64.wrap (rawN (rawO s (valueC s (n % 500)).lo) - 1))).lo > (valueC s (n % 500)).lo)) = true then _ else _) = _
  simp only [hv]
  have hb := valT_bound hs hc (by omega) (n := n % 500) (by omega)
  have hr : hasRaw s (valT s (n % 500)).lo (n % 500) = true := by
    unfold hasRaw
    simp only [Bool.and_eq_true, Bool.not_eq_true', Bool.and_eq_false_iff, beq_eq_false_iff_ne, ne_eq, decide_eq_true_eq]
    omega
  obtain ⟨j, f1, f2, f3, f4, f5⟩ := findR_some (f := hasRaw s (valT s (n % 500)).lo) 65536 0 (n % 500) (by omega) (by omega) hr
  have ho : rawO s (valT s (n % 500)).lo = some j := by
    unfold rawO
    rw [if_neg (by simp [hc]), f1]
  rw [ho]
  have hj : rawN (some j) = j := rfl
  have hjb : rawB (some j) = true := rfl
  rw [hj, hjb]
  unfold hasRaw at f4
  simp only [Bool.and_eq_true, decide_eq_true_eq] at f4
  rw [if_neg (by simp), if_neg (by simp only [decide_eq_true_eq]; omega), if_neg (by simp only [decide_eq_true_eq]; omega), if_neg (by simp only [decide_eq_true_eq]; omega), if_neg (by simp only [decide_eq_true_eq]; omega)]
  by_cases hz : j = 0
  · rw [if_pos (by simpa using hz)]
  rw [if_neg (by simpa using hz)]
  have ej : IntKind.i64.wrap (j - 1) = j - 1 := wid (by omega) (by omega)
  rw [ej]
  have hb2 := valT_bound hs hc (by omega) (n := j - 1) (by omega)
  have h6 := f5 (j - 1) (by omega) (by omega)
  unfold hasRaw at h6
  simp only [Bool.and_eq_false_iff, Bool.not_eq_false', Bool.and_eq_true, beq_iff_eq, decide_eq_false_iff_not] at h6
  by_cases hlt : (valT s (j - 1)).hi < (valT s (n % 500)).lo
  · rw [if_pos (by simpa using hlt)]
  · rw [if_neg (by simpa using hlt), if_pos (by simp only [decide_eq_true_eq]; omega)]
def s16 : Spec := ⟨false, fun av ob => match av, ob with
  | [.one (.vec false .u8 l), .one (.int .u16 n)], [] => .need (l.all u8B && (u16B n)) (.ret (.one (.bool true), []))
  | _, _ => .fail⟩
theorem p16 : SpecOK Try.prog 16 s16 := by
  refine specOK_of (env_ok (l := l16) ⟨⟨p26, f26⟩, ⟨⟨pc32, f32⟩, ⟨⟨pc31, f31⟩, ⟨⟨p41, f41⟩, ⟨⟨p60, f60⟩, ⟨⟨p40, f40⟩, trivial⟩⟩⟩⟩⟩⟩) mixed_ok Try.func16 k16 fun av ob r os hrn => ?_
  simp only [s16] at hrn
  split at hrn
  · rename_i l n
    obtain ⟨hg, hrn⟩ := need_den hrn
    cases hrn
    simp only [Bool.and_eq_true] at hg
    obtain ⟨q1, q2⟩ := hg
    have hv := v16 l n q1 q2
    unfold h16 at hv
    exact ⟨1, hv⟩
  · cases hrn
theorem law16 (av : List AV) (h : AVs [RBytes, RU16] av) : (s16.run av []).den = some (.one (.bool true), []) := by
  obtain ⟨_, _, rfl, ⟨l, rfl, q1⟩, k1⟩ := h.cons
  obtain ⟨_, _, rfl, ⟨n, rfl, q2⟩, k2⟩ := k1.cons
  rw [k2.nil]
  refine den_need ?_
  simp only [Bool.and_eq_true]
  exact ⟨q1, q2⟩
end Go.Proofs.Ytipfipnhgpbceaa.Sx
