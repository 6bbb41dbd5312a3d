/- What a made sensor and a made measurement are; what is said at a time, by both texts; until when a value is surely less (plain theorems). -/
import Derived.Test.YtipfipnhgpbceaaLa
set_option linter.unusedVariables false
set_option linter.unusedSimpArgs false
set_option maxRecDepth 100000
namespace Go.Proofs.Ytipfipnhgpbceaa.Sx
open Go Go.RowKit
theorem sensor_eta (s : Sensor) : (⟨s.addr, s.kind, s.target, s.offset, s.scale, s.error, s.drift, s.life⟩ : Sensor) = s := rfl
theorem span_eta (s : Span) : (⟨s.lo, s.hi⟩ : Span) = s := rfl
structure SB (s : Sensor) : Prop where
  kind : 1 ≤ s.kind ∧ s.kind ≤ 6
  offset : -50 ≤ s.offset ∧ s.offset ≤ 20
  scale : 300 ≤ s.scale ∧ s.scale ≤ 2000
  error : 0 ≤ s.error ∧ s.error ≤ 5
  drift : 0 ≤ s.drift ∧ s.drift ≤ 699
  life : 1 ≤ s.life ∧ s.life ≤ 200
theorem sensV_ok {l : List Int} {p a b c : Int} (h : cok l p = true) (ha : 1 ≤ a ∧ a ≤ 6) : SB (sensV l p a b c) ∧ (sensV l p a b c).kind = a ∧ (sensV l p a b c).addr = b ∧ (sensV l p a b c).target = c := by
  have k1 := cok_next (n := 200) h
  have k2 := cok_next (n := 71) k1
  have k3 := cok_next (n := 1701) k2
  have k4 := cok_next (n := 6) k3
  have r0 := nextV_range (n := 200) h (by omega)
  have r1 := nextV_range (n := 71) k1 (by omega)
  have r2 := nextV_range (n := 1701) k2 (by omega)
  have r3 := nextV_range (n := 6) k3 (by omega)
  have r4 := nextV_range (n := 700) k4 (by omega)
  have e0 : wr64 (1 + nextV l p 200) = 1 + nextV l p 200 := wid (by omega) (by omega)
  have e1 : wr64 (-50 + nextV l (nextP l p 200) 71) = -50 + nextV l (nextP l p 200) 71 := wid (by omega) (by omega)
  have e2 : wr64 (300 + nextV l (nextP l (nextP l p 200) 71) 1701) = 300 + nextV l (nextP l (nextP l p 200) 71) 1701 := wid (by omega) (by omega)
  unfold sensV
  split
  · exact ⟨⟨ha, ⟨by dsimp only; omega, by dsimp only; omega⟩, ⟨by dsimp only; omega, by dsimp only; omega⟩, ⟨by dsimp only; omega, by dsimp only; omega⟩, ⟨by dsimp only; omega, by dsimp only; omega⟩, ⟨by dsimp only; omega, by dsimp only; omega⟩⟩, rfl, rfl, rfl⟩
  · exact ⟨⟨ha, ⟨by dsimp only; omega, by dsimp only; omega⟩, ⟨by dsimp only; omega, by dsimp only; omega⟩, ⟨by dsimp only; omega, by dsimp only; omega⟩, ⟨by dsimp only; omega, by dsimp only; omega⟩, ⟨by dsimp only; omega, by dsimp only; omega⟩⟩, rfl, rfl, rfl⟩
def measV (l : List Int) (p : Int) : Measure := ⟨sensM l p, timeM l p, (spanM l p).lo, (spanM l p).hi⟩
structure MB (m : Measure) : Prop where
  time : 0 ≤ m.time ∧ m.time < 200
  lo : -1125899906842624 ≤ m.lo ∧ m.lo ≤ 90
  hi : m.lo ≤ m.hi ∧ m.hi ≤ 1125899906842624
  some : m.lo = -1125899906842624 ∧ m.hi = 1125899906842624 ∨ -30 ≤ m.lo ∧ m.hi ≤ 129
theorem cok_sensP {l : List Int} {p a : Int} (h : cok l p = true) : cok l (sensP l p a) = true := by
  unfold sensP
  split
  · exact cok_next h
  · exact cok_next (cok_next (cok_next (cok_next (cok_next h))))
theorem cok_after6 {l : List Int} {p : Int} (h : cok l p = true) : cok l (after6 l p) = true := cok_next (cok_next (cok_next (cok_next (cok_next (cok_next h)))))
theorem measV_ok {l : List Int} {p : Int} (h : cok l p = true) : MB (measV l p) := by
  have k1 := cok_next (n := 3) h
  have k2 := cok_next (n := 200) k1
  have k3 := cok_next (n := 121) k2
  have r1 := nextV_range (n := 200) k1 (by omega)
  have r2 := nextV_range (n := 121) k2 (by omega)
  have r3 := nextV_range (n := 40) k3 (by omega)
  have e1 : wr64 (-30 + nextV l (nextP l (nextP l p 3) 200) 121) = -30 + nextV l (nextP l (nextP l p 3) 200) 121 := wid (by omega) (by omega)
  have e2 : wr64 (-30 + nextV l (nextP l (nextP l p 3) 200) 121 + nextV l (nextP l (nextP l (nextP l p 3) 200) 121) 40) = -30 + nextV l (nextP l (nextP l p 3) 200) 121 + nextV l (nextP l (nextP l (nextP l p 3) 200) 121) 40 := wid (by omega) (by omega)
  have ht : (measV l p).time = nextV l (nextP l p 3) 200 := rfl
  have hs : ((measV l p).lo = -1125899906842624 ∧ (measV l p).hi = 1125899906842624) ∨ ((measV l p).lo = -30 + nextV l (nextP l (nextP l p 3) 200) 121 ∧ (measV l p).hi = -30 + nextV l (nextP l (nextP l p 3) 200) 121 + nextV l (nextP l (nextP l (nextP l p 3) 200) 121) 40) := by
    unfold measV spanM
    dsimp only
    split
    · exact .inl ⟨rfl, rfl⟩
    · exact .inr ⟨by dsimp only; rw [e1], by dsimp only; rw [e1, e2]⟩
  rw [← ht] at r1
  generalize measV l p = m at *
  rcases hs with ⟨h1, h2⟩ | ⟨h1, h2⟩
  · exact ⟨r1, ⟨by omega, by omega⟩, ⟨by omega, by omega⟩, .inl ⟨h1, h2⟩⟩
  · exact ⟨r1, ⟨by omega, by omega⟩, ⟨by omega, by omega⟩, .inr ⟨by omega, by omega⟩⟩

/-! ### Quotients -/
theorem flo_neg {x b : Int} (h0 : 0 ≤ x) (h1 : x ≤ 4611686018427387904) (hb : 1 ≤ b) : cei x b = (x + (b - 1)) / b := by
  have hx : wr64 (0 - x) = -x := by rw [wr64, wid (by omega) (by omega)]; omega
  have hd0 : 0 ≤ x / b := Int.ediv_nonneg h0 (by omega)
  have hd1 : x / b ≤ x := Int.ediv_le_self _ h0
  have hm0 := Int.emod_nonneg x (b := b) (by omega)
  have hm1 := Int.emod_lt_of_pos x (b := b) (by omega)
  have hmd := Int.mul_ediv_add_emod x b
  unfold cei
  rw [hx]
  unfold flo
  rw [Int.neg_tmod, Int.neg_tdiv, Int.tmod_eq_emod_of_nonneg h0, Int.tdiv_eq_ediv_of_nonneg h0]
  have q1 : wr64 (-(x / b)) = -(x / b) := wid (by omega) (by omega)
  have q2 : wr64 (-(x / b) - 1) = -(x / b) - 1 := wid (by omega) (by omega)
  rw [q1, q2]
  have key : ∀ k : Int, 0 ≤ k → k < b → (x + (b - 1)) / b = x / b + (x % b + (b - 1)) / b := by
    intro k _ _
    have : x + (b - 1) = x % b + (b - 1) + b * (x / b) := by omega
    rw [this, Int.add_mul_ediv_left _ _ (by omega)]
    omega
  rw [key 0 (by omega) (by omega)]
  by_cases hz : x % b = 0
  · rw [if_neg (by omega), hz]
    have : (0 + (b - 1)) / b = 0 := Int.ediv_eq_zero_of_lt (by omega) (by omega)
    rw [this]
    have q3 : wr64 (0 - -(x / b)) = x / b := by rw [wr64, wid (by omega) (by omega)]; omega
    rw [q3]; omega
  · rw [if_pos (by omega)]
    have : (x % b + (b - 1)) / b = 1 := by
      have : x % b + (b - 1) = (x % b - 1) + b * 1 := by omega
      rw [this, Int.add_mul_ediv_left _ _ (by omega), Int.ediv_eq_zero_of_lt (by omega) (by omega)]
      rfl
    rw [this]
    have q3 : wr64 (0 - (-(x / b) - 1)) = x / b + 1 := by rw [wr64, wid (by omega) (by omega)]; omega
    rw [q3]
theorem mul_le_of {a b A B : Int} (ha : 0 ≤ a) (hA : a ≤ A) (hb : 0 ≤ b) (hB : b ≤ B) : 0 ≤ a * b ∧ a * b ≤ A * B :=
  ⟨Int.mul_nonneg ha hb, Int.mul_le_mul hA hB hb (by omega)⟩
/-- By how much a span has widened. -/
def moreT (s : Sensor) (m : Measure) (t : Int) : Int := (s.drift * (t - m.time) + 999) / 1000
theorem more_both {s : Sensor} {m : Measure} {t : Int} (hs : 0 ≤ s.drift ∧ s.drift ≤ 1000000) (h0 : m.time ≤ t) (h1 : t - m.time ≤ 1000000) : moreI s m t = moreT s m t ∧ moreR s m t = moreT s m t ∧ 0 ≤ moreT s m t ∧ moreT s m t ≤ 1000000001 := by
  have e1 : wr64 (t - m.time) = t - m.time := wid (by omega) (by omega)
  have hp := mul_le_of hs.1 hs.2 (show 0 ≤ t - m.time by omega) h1
  unfold moreI moreR moreT
  rw [e1]
  generalize s.drift * (t - m.time) = d at *
  have e2 : wr64 d = d := wid (by omega) (by omega)
  have e3 : wr64 (d + 999) = d + 999 := wid (by omega) (by omega)
  rw [e2, e3, flo_neg hp.1 (by omega) (by omega), Int.tdiv_eq_ediv_of_nonneg (by omega)]
  refine ⟨wid (by omega) (by omega), rfl, by omega, by omega⟩
theorem checkS_drift {s : Sensor} (h : checkS s = 0) : (1 ≤ s.kind ∧ s.kind ≤ 6) ∧ (0 ≤ s.addr ∧ s.addr ≤ 255) ∧ 0 ≤ s.target ∧ (-1000000 ≤ s.offset ∧ s.offset ≤ 1000000) ∧ (-1000000 ≤ s.scale ∧ s.scale ≤ 1000000) ∧ (0 ≤ s.error ∧ s.error ≤ 1000000) ∧ (0 ≤ s.drift ∧ s.drift ≤ 1000000) ∧ (1 ≤ s.life ∧ s.life ≤ 1000000) := by
  unfold checkS at h
  split at h
  · omega
  · split at h
    · rename_i h1 h2
      exact ⟨by omega, h2⟩
    · omega
theorem dead_false {s : Sensor} {m : Measure} {t : Int} (h : atDead s m t = false) (hm : 0 ≤ m.time ∧ m.time ≤ 4611686018427387904) (ht : t ≤ 4611686018427387904) : checkS s = 0 ∧ 0 ≤ m.sensor ∧ ¬ (m.lo = -1125899906842624 ∧ m.hi = 1125899906842624) ∧ m.time ≤ t ∧ t - m.time ≤ s.life := by
  unfold atDead at h
  simp only [Bool.or_eq_false_iff, bne_eq_false_iff_eq, decide_eq_false_iff_not, Bool.and_eq_false_iff, beq_eq_false_iff_ne, ne_eq] at h
  obtain ⟨h1, h2, h3, h4, h5⟩ := h
  have h4' : m.time ≤ t := by omega
  rw [wr64, wid (by omega) (by omega)] at h5
  exact ⟨h1, by omega, by omega, h4', by omega⟩
theorem at_both {s : Sensor} {m : Measure} {t : Int} (hm : 0 ≤ m.time ∧ m.time ≤ 4611686018427387904) (ht : t ≤ 4611686018427387904) : atI s m t = atR s m t := by
  unfold atI atR
  cases hd : atDead s m t with
  | true => rfl
  | false =>
    obtain ⟨h1, h2, h3, h4, h5⟩ := dead_false hd hm ht
    have hc := checkS_drift h1
    obtain ⟨m1, m2, _⟩ := more_both (s := s) (m := m) (t := t) hc.2.2.2.2.2.2.1 h4 (by omega)
    rw [m1, m2]
    simp only [Bool.false_eq_true, if_false]
    have : (s.kind == 4 || (s.kind == 5 || s.kind == 6)) = decide (s.kind ≥ 4) := by
      have := hc.1
      rw [Bool.eq_iff_iff]
      simp only [Bool.or_eq_true, beq_iff_eq, decide_eq_true_eq]
      omega
    rw [this]
theorem mx_eq (a b : Int) : mx a b = max a b := by unfold mx; split <;> omega
theorem mn_eq (a b : Int) : mn a b = min a b := by unfold mn; split <;> omega
/-- What is said at a time, in plain numbers. -/
theorem at_plain {s : Sensor} {m : Measure} {t : Int} (hm : 0 ≤ m.time ∧ m.time ≤ 4611686018427387904) (ht : t ≤ 4611686018427387904) (hlo : -1125899906842624 ≤ m.lo) (hhi : m.hi ≤ 1125899906842624) (hlh : m.lo ≤ m.hi) :
    atI s m t = (if atDead s m t then nothing else if s.kind ≥ 4 then ⟨m.lo, m.hi⟩ else if s.kind ≤ 2 then ⟨max (m.lo - moreT s m t) 0, max (m.hi + moreT s m t) 0⟩ else ⟨m.lo - moreT s m t, m.hi + moreT s m t⟩) := by
  rw [at_both hm ht]
  unfold atR
  cases hd : atDead s m t with
  | true => rfl
  | false =>
    obtain ⟨h1, h2, h3, h4, h5⟩ := dead_false hd hm ht
    have hc := checkS_drift h1
    obtain ⟨m1, m2, m3, m4⟩ := more_both (s := s) (m := m) (t := t) hc.2.2.2.2.2.2.1 h4 (by omega)
    rw [m2]
    simp only [Bool.false_eq_true, if_false, decide_eq_true_eq]
    have hg : (s.kind == 1 || s.kind == 2) = decide (s.kind ≤ 2) := by
      have := hc.1
      rw [Bool.eq_iff_iff]
      simp only [Bool.or_eq_true, beq_iff_eq, decide_eq_true_eq]
      omega
    rw [hg]
    unfold widen
    have e1 : wr64 (m.lo - moreT s m t) = m.lo - moreT s m t := wid (by omega) (by omega)
    have e2 : wr64 (m.hi + moreT s m t) = m.hi + moreT s m t := wid (by omega) (by omega)
    rw [e1, e2, mx_eq, mx_eq]
    simp only [decide_eq_true_eq]
theorem more_mono {s : Sensor} {m : Measure} {t t' : Int} (hs : 0 ≤ s.drift) (h : t ≤ t') : moreT s m t ≤ moreT s m t' := by
  unfold moreT
  have : s.drift * (t - m.time) ≤ s.drift * (t' - m.time) := Int.mul_le_mul_of_nonneg_left (by omega) hs
  omega
theorem dead_mono {s : Sensor} {m : Measure} {t t' : Int} (hm : 0 ≤ m.time ∧ m.time ≤ 4611686018427387904) (h0 : m.time ≤ t) (h : t ≤ t') (ht : t' ≤ 4611686018427387904) (hd : atDead s m t' = false) : atDead s m t = false := by
  obtain ⟨h1, h2, h3, h4, h5⟩ := dead_false hd hm ht
  unfold atDead
  simp only [Bool.or_eq_false_iff, bne_eq_false_iff_eq, decide_eq_false_iff_not, Bool.and_eq_false_iff, beq_eq_false_iff_ne, ne_eq]
  rw [wr64, wid (by omega) (by omega)]
  refine ⟨h1, by omega, by omega, by omega, by omega⟩
theorem less_iff {sp : Span} {v : Int} : (above sp v == -1) = true ↔ sp.lo ≤ sp.hi ∧ sp.lo < v ∧ sp.hi < v := by
  unfold above
  simp only [beq_iff_eq]
  split
  · constructor
    · intro h; omega
    · intro h; omega
  · split
    · constructor
      · intro h; omega
      · intro h; omega
    · split
      · constructor
        · intro h; omega
        · intro h; rfl
      · constructor
        · intro h; omega
        · intro h; omega
theorem less_mono {s : Sensor} {m : Measure} {v t t' : Int} (hm : 0 ≤ m.time ∧ m.time ≤ 4611686018427387904) (hlo : -1125899906842624 ≤ m.lo) (hhi : m.hi ≤ 1125899906842624) (hlh : m.lo ≤ m.hi) (hv : v ≤ 1125899906842624)
    (h0 : m.time ≤ t) (h : t ≤ t') (ht : t' ≤ 4611686018427387904) (hl : lessAt s m v t' = true) : lessAt s m v t = true := by
  unfold lessAt at *
  rw [less_iff] at *
  rw [at_plain hm ht hlo hhi hlh] at hl
  rw [at_plain hm (by omega) hlo hhi hlh]
  cases hd : atDead s m t' with
  | true =>
    rw [hd] at hl
    simp only [if_true, nothing] at hl
    omega
  | false =>
    have hd' := dead_mono hm h0 h ht hd
    rw [hd] at hl
    rw [hd']
    simp only [Bool.false_eq_true, if_false] at hl ⊢
    obtain ⟨h1, _⟩ := dead_false hd hm ht
    have hc := checkS_drift h1
    have hmm := more_mono (s := s) (m := m) hc.2.2.2.2.2.2.1.1 h
    obtain ⟨_, _, m3, m4⟩ := more_both (s := s) (m := m) (t := t) hc.2.2.2.2.2.2.1 h0 (by have := dead_false hd' hm (by omega); omega)
    by_cases k1 : s.kind ≥ 4
    · simp only [k1, if_true] at hl ⊢
      exact hl
    · by_cases k2 : s.kind ≤ 2
      · simp only [k1, k2, if_true, if_false] at hl ⊢
        omega
      · simp only [k1, k2, if_false] at hl ⊢
        omega
theorem bs_spec {f : Int → Bool} : ∀ (n : Nat) (lo hi : Int), lo ≤ hi → hi - lo < 2 ^ n → f lo = true → (∀ x y, lo ≤ x → x ≤ y → y ≤ hi → f y = true → f x = true) →
    lo ≤ bs f n lo hi ∧ bs f n lo hi ≤ hi ∧ f (bs f n lo hi) = true ∧ ∀ x, bs f n lo hi < x → x ≤ hi → f x = false
  | 0, lo, hi, h, hn, h0, ha => by
    have : hi = lo := by simp at hn; omega
    subst this
    exact ⟨by simp [bs], by simp [bs], h0, fun x h1 h2 => by simp [bs] at h1; omega⟩
  | n + 1, lo, hi, h, hn, h0, ha => by
    unfold bs
    have hp : (2 : Int) ^ (n + 1) = 2 * 2 ^ n := by rw [Int.pow_succ]; omega
    by_cases hc : lo < hi
    · rw [if_pos hc]
      have e0 : (hi - lo + 1).tdiv 2 = (hi - lo + 1) / 2 := Int.tdiv_eq_ediv_of_nonneg (by omega)
      rw [e0]
      by_cases hf : f (lo + (hi - lo + 1) / 2) = true
      · rw [if_pos hf]
        obtain ⟨g1, g2, g3, g4⟩ := bs_spec n (lo + (hi - lo + 1) / 2) hi (by omega) (by omega) hf (fun x y hx hxy hy => ha x y (by omega) hxy hy)
        exact ⟨by omega, g2, g3, g4⟩
      · rw [if_neg hf]
        obtain ⟨g1, g2, g3, g4⟩ := bs_spec n lo (lo + (hi - lo + 1) / 2 - 1) (by omega) (by omega) h0 (fun x y hx hxy hy => ha x y hx hxy (by omega))
        refine ⟨g1, by omega, g3, fun x h1 h2 => ?_⟩
        by_cases hx : x ≤ lo + (hi - lo + 1) / 2 - 1
        · exact g4 x h1 hx
        · cases hfx : f x with
          | false => rfl
          | true => exact absurd (ha _ _ (by omega) (show lo + (hi - lo + 1) / 2 ≤ x by omega) h2 hfx) hf
    · rw [if_neg hc]
      exact ⟨by omega, by omega, h0, fun x h1 h2 => by omega⟩
def l4 : List (FuncId × Spec) := [(26, s26), (32, s32), (31, s31), (25, s25), (27, s27), (33, s33), (29, s29), (34, s34), (30, s30)]
def k4 : Code → Keep := keepOf [(6, ⟨[6, 7, 8, 9, 10], [], []⟩)]
noncomputable def h4_0 (fl : Nat) (t8 : Int) (t9 : Int) (t10 : Int) (m0_0 : Int) (m0_1 : Int) (m0_2 : Int) (m0_3 : Int) (m0_4 : Int) (m0_5 : Int) (m0_6 : Int) (m0_7 : Int) (m1_0 : Int) (m1_1 : Int) (m1_2 : Int) (m1_3 : Int) : Option (AV × List Ob) := (evalH (env l4) Try.f4 k4 0 fl (stkF Try.f4 [1, 1, 1, 1, 1, 0, 1, 0]) ⟨[.one (.undef), .one (.undef), .one (.undef), .one (.undef), .one (.undef), .one (.undef), .one (.ptr 0 0), .one (.ptr 1 0), .one (.int .i64 t8), .one (.int .i64 t9), .one (.int .i64 t10), .one (.undef), .one (.undef), .one (.undef), .one (.undef), .one (.undef), .one (.undef), .one (.undef), .one (.undef), .one (.undef), .one (.undef), .one (.undef), .one (.undef), .one (.undef), .one (.undef), .one (.undef), .one (.undef), .one (.undef), .one (.undef), .one (.undef), .one (.undef), .one (.undef), .one (.undef), .one (.undef), .one (.undef), .one (.undef), .one (.undef), .one (.undef), .one (.undef), .one (.undef), .one (.undef), .one (.undef), .one (.undef), .one (.undef), .one (.undef), .one (.undef), .one (.undef), .one (.undef), .one (.undef), .one (.undef)], [((0, 0), some (.cell (.int .i64 m0_0))), ((0, 1), some (.cell (.int .i64 m0_1))), ((0, 2), some (.cell (.int .i64 m0_2))), ((0, 3), some (.cell (.int .i64 m0_3))), ((0, 4), some (.cell (.int .i64 m0_4))), ((0, 5), some (.cell (.int .i64 m0_5))), ((0, 6), some (.cell (.int .i64 m0_6))), ((0, 7), some (.cell (.int .i64 m0_7))), ((1, 0), some (.cell (.int .i64 m1_0))), ((1, 1), some (.cell (.int .i64 m1_1))), ((1, 2), some (.cell (.int .i64 m1_2))), ((1, 3), some (.cell (.int .i64 m1_3)))], 2⟩).den
noncomputable def h4 (fl : Nat) (l : List Int) (v : Int) : Option (AV × List Ob) := (evalF (env l4) Try.f4 k4 fl [.one (.vec false .u8 l), .one (.int .i64 v)] []).den
theorem h4_eq (fl : Nat) (l : List Int) (v : Int) : h4 (fl + 1) l v =
    if (cok (List.take 300 l) 0) = true then if (cok (List.take 300 l) (nextP (List.take 300 l) 0 6)) = true then if (cok (List.take 300 l) (sensP (List.take 300 l) (nextP (List.take 300 l) 0 6) (wr64 (1 + nextV (List.take 300 l) 0 6)))) = true then h4_0 fl (IntKind.i64.wrap (modz v 260 - 60)) (-1) (timeM (List.take 300 l) (sensP (List.take 300 l) (nextP (List.take 300 l) 0 6) (wr64 (1 + nextV (List.take 300 l) 0 6)))) ((sensV (List.take 300 l) (nextP (List.take 300 l) 0 6) (wr64 (1 + nextV (List.take 300 l) 0 6)) 0 0).addr) ((sensV (List.take 300 l) (nextP (List.take 300 l) 0 6) (wr64 (1 + nextV (List.take 300 l) 0 6)) 0 0).kind) ((sensV (List.take 300 l) (nextP (List.take 300 l) 0 6) (wr64 (1 + nextV (List.take 300 l) 0 6)) 0 0).target) ((sensV (List.take 300 l) (nextP (List.take 300 l) 0 6) (wr64 (1 + nextV (List.take 300 l) 0 6)) 0 0).offset) ((sensV (List.take 300 l) (nextP (List.take 300 l) 0 6) (wr64 (1 + nextV (List.take 300 l) 0 6)) 0 0).scale) ((sensV (List.take 300 l) (nextP (List.take 300 l) 0 6) (wr64 (1 + nextV (List.take 300 l) 0 6)) 0 0).error) ((sensV (List.take 300 l) (nextP (List.take 300 l) 0 6) (wr64 (1 + nextV (List.take 300 l) 0 6)) 0 0).drift) ((sensV (List.take 300 l) (nextP (List.take 300 l) 0 6) (wr64 (1 + nextV (List.take 300 l) 0 6)) 0 0).life) (sensM (List.take 300 l) (sensP (List.take 300 l) (nextP (List.take 300 l) 0 6) (wr64 (1 + nextV (List.take 300 l) 0 6)))) (timeM (List.take 300 l) (sensP (List.take 300 l) (nextP (List.take 300 l) 0 6) (wr64 (1 + nextV (List.take 300 l) 0 6)))) ((spanM (List.take 300 l) (sensP (List.take 300 l) (nextP (List.take 300 l) 0 6) (wr64 (1 + nextV (List.take 300 l) 0 6)))).lo) ((spanM (List.take 300 l) (sensP (List.take 300 l) (nextP (List.take 300 l) 0 6) (wr64 (1 + nextV (List.take 300 l) 0 6)))).hi)
        else none
      else none
    else none := by kernel_rfl
theorem h4_0_eq (fl : Nat) (t8 : Int) (t9 : Int) (t10 : Int) (m0_0 : Int) (m0_1 : Int) (m0_2 : Int) (m0_3 : Int) (m0_4 : Int) (m0_5 : Int) (m0_6 : Int) (m0_7 : Int) (m1_0 : Int) (m1_1 : Int) (m1_2 : Int) (m1_3 : Int) : h4_0 (fl + 1) t8 t9 t10 m0_0 m0_1 m0_2 m0_3 m0_4 m0_5 m0_6 m0_7 m1_0 m1_1 m1_2 m1_3 =
    if (decide (t10 ≤ IntKind.i64.wrap (m1_1 + m0_7))) = true then if (above { lo := (atR { addr := m0_0, kind := m0_1, target := m0_2, offset := m0_3, scale := m0_4, error := m0_5, drift := m0_6, life := m0_7 } { sensor := m1_0, time := m1_1, lo := m1_2, hi := m1_3 } t10).lo, hi := (atR { addr := m0_0, kind := m0_1, target := m0_2, offset := m0_3, scale := m0_4, error := m0_5, drift := m0_6, life := m0_7 } { sensor := m1_0, time := m1_1, lo := m1_2, hi := m1_3 } t10).hi } t8 != -1) = true then if (untilOk { addr := m0_0, kind := m0_1, target := m0_2, offset := m0_3, scale := m0_4, error := m0_5, drift := m0_6, life := m0_7 } { sensor := m1_0, time := m1_1, lo := m1_2, hi := m1_3 }) = true then if (untilI { addr := m0_0, kind := m0_1, target := m0_2, offset := m0_3, scale := m0_4, error := m0_5, drift := m0_6, life := m0_7 } { sensor := m1_0, time := m1_1, lo := m1_2, hi := m1_3 } t8 == t9) = true then some (.one (.bool true), [])
          else some (.one (.bool false), [])
        else none
      else h4_0 fl t8 t10 (IntKind.i64.wrap (t10 + 1)) m0_0 m0_1 m0_2 m0_3 m0_4 m0_5 m0_6 m0_7 m1_0 m1_1 m1_2 m1_3
    else if (untilOk { addr := m0_0, kind := m0_1, target := m0_2, offset := m0_3, scale := m0_4, error := m0_5, drift := m0_6, life := m0_7 } { sensor := m1_0, time := m1_1, lo := m1_2, hi := m1_3 }) = true then if (untilI { addr := m0_0, kind := m0_1, target := m0_2, offset := m0_3, scale := m0_4, error := m0_5, drift := m0_6, life := m0_7 } { sensor := m1_0, time := m1_1, lo := m1_2, hi := m1_3 } t8 == t9) = true then some (.one (.bool true), [])
        else some (.one (.bool false), [])
      else none := by kernel_rfl
theorem v4_0 (v : Int) (s : Sensor) (m : Measure) (hS : SB s) (hM : MB m) (hv : v ≤ 1125899906842624) : ∀ (n fl : Nat) (t last : Int), m.time + s.life + 1 - t = n → n < fl → m.time ≤ t → (∀ x, m.time ≤ x → x < t → lessAt s m v x = true) → last = (if t = m.time then -1 else t - 1) →
    h4_0 fl v last t s.addr s.kind s.target s.offset s.scale s.error s.drift s.life m.sensor m.time m.lo m.hi = some (.one (.bool true), []) := by
  have hm : 0 ≤ m.time ∧ m.time ≤ 4611686018427387904 := by have := hM.time; omega
  have ha : ∀ x y, m.time ≤ x → x ≤ y → y ≤ m.time + s.life → lessAt s m v y = true → lessAt s m v x = true := fun x y h1 h2 h3 h4 =>
    less_mono hm hM.lo.1 hM.hi.2 hM.hi.1 hv h1 h2 (by have := hM.time; have := hS.life; omega) h4
  have hT := hM.time
  have hL := hS.life
  have hok : untilOk s m = true := by
    simp only [untilOk, Bool.and_eq_true, decide_eq_true_eq]
    omega
  have hun : ∀ t last : Int, m.time ≤ t → t ≤ m.time + s.life + 1 → (∀ x, m.time ≤ x → x < t → lessAt s m v x = true) → (t ≤ m.time + s.life → lessAt s m v t = false) → last = (if t = m.time then -1 else t - 1) → untilI s m v = last := by
    intro t last h1 h2 h3 h4 h5
    unfold untilI
    by_cases hz : t = m.time
    · have := h4 (by omega)
      rw [hz] at this
      have h6 : (above (atI s m m.time) v != -1) = true := by
        unfold lessAt at this
        simpa using this
      rw [if_pos h6, h5, if_pos hz]
    · have h6 : lessAt s m v m.time = true := h3 _ (by omega) (by omega)
      have h7 : ¬ (above (atI s m m.time) v != -1) = true := by
        unfold lessAt at h6
        simpa using h6
      rw [if_neg h7]
      obtain ⟨g1, g2, g3, g4⟩ := bs_spec (f := lessAt s m v) 42 m.time (m.time + s.life) (by omega) (by have : (2 : Int) ^ 42 = 4398046511104 := rfl; omega) h6 ha
      rw [if_neg hz] at h5
      generalize bs (lessAt s m v) 42 m.time (m.time + s.life) = r at *
      have a1 : ¬ r < t - 1 := fun hr => by
        have := g4 (t - 1) hr (by omega)
        rw [h3 (t - 1) (by omega) (by omega)] at this
        cases this
      have a2 : ¬ t ≤ r := fun hr => by
        have h8 := h4 (by omega)
        rw [ha t r h1 hr g2 g3] at h8
        cases h8
      omega
  have fin : ∀ t last : Int, untilI s m v = last → (if untilOk s m = true then if (untilI s m v == last) = true then some (AV.one (Sc.bool true), []) else some (AV.one (Sc.bool false), []) else (none : Option (AV × List Ob))) = some (.one (.bool true), []) := by
    intro t last h
    rw [if_pos hok, if_pos (by simpa using h)]
  intro n
  induction n with
  | zero =>
    intro fl t last hn hfl ht hall hlast
    obtain ⟨fl, rfl⟩ : ∃ k, fl = k + 1 := ⟨fl - 1, by omega⟩
    rw [h4_0_eq]
    have e1 : IntKind.i64.wrap (m.time + s.life) = m.time + s.life := wid (by omega) (by omega)
    rw [e1, if_neg (by simp only [decide_eq_true_eq]; omega)]
    exact fin t last (hun t last ht (by omega) hall (fun h => by omega) hlast)
  | succ n ih =>
    intro fl t last hn hfl ht hall hlast
    obtain ⟨fl, rfl⟩ : ∃ k, fl = k + 1 := ⟨fl - 1, by omega⟩
    rw [h4_0_eq]
    have e1 : IntKind.i64.wrap (m.time + s.life) = m.time + s.life := wid (by omega) (by omega)
    have e2 : IntKind.i64.wrap (t + 1) = t + 1 := wid (by omega) (by omega)
    rw [e1, if_pos (by simp only [decide_eq_true_eq]; omega), e2]
    have hR : above (atR s m t) v = above (atI s m t) v := by rw [at_both hm (by omega)]
    by_cases hf : lessAt s m v t = true
    · have h6 : ¬ (above (atR s m t) v != -1) = true := by
        rw [hR]
        unfold lessAt at hf
        simpa using hf
      rw [if_neg h6]
      refine ih fl (t + 1) t (by omega) (by omega) (by omega) (fun x h1 h2 => ?_) (by rw [if_neg (by omega)]; omega)
      by_cases hx : x = t
      · rw [hx]; exact hf
      · exact hall x h1 (by omega)
    · have h6 : (above (atR s m t) v != -1) = true := by
        rw [hR]
        unfold lessAt at hf
        simpa using hf
      rw [if_pos h6]
      exact fin t last (hun t last ht (by omega) hall (fun h => by simpa using hf) hlast)
theorem v4 (l : List Int) (v : Int) (h : l.all u8B = true) : h4 1000 l v = some (.one (.bool true), []) := by
  have k0 := cok0 h
  have k1 := cok_next (n := 6) k0
  have r0 := nextV_range (n := 6) k0 (by omega)
  rw [h4_eq, if_pos k0, if_pos k1]
  have e1 : wr64 (1 + nextV (List.take 300 l) 0 6) = 1 + nextV (List.take 300 l) 0 6 := wid (by omega) (by omega)
  rw [e1]
  generalize hA : 1 + nextV (List.take 300 l) 0 6 = A
  have k2 := cok_sensP (a := A) k1
  rw [if_pos k2]
  obtain ⟨hS, _⟩ := sensV_ok (a := A) (b := 0) (c := 0) k1 (by omega)
  have hM := measV_ok k2
  have rv := modz_range (k := v) (n := 260) (by omega) (by omega)
  have e2 : IntKind.i64.wrap (modz v 260 - 60) = modz v 260 - 60 := wid (by omega) (by omega)
  rw [e2]
  have hT := hM.time
  have hL := hS.life
  exact v4_0 (modz v 260 - 60) _ _ hS hM (by omega) ((sensV (List.take 300 l) (nextP (List.take 300 l) 0 6) A 0 0).life + 1).toNat 999 (measV (List.take 300 l) (sensP (List.take 300 l) (nextP (List.take 300 l) 0 6) A)).time (-1) (by omega) (by omega) (by omega) (fun x h1 h2 => by omega) (by rw [if_pos rfl])
def s4 : Spec := ⟨false, fun av ob => match av, ob with
  | [.one (.vec false .u8 l), .one (.int .i64 v)], [] => .need (l.all u8B && (i64B v)) (.ret (.one (.bool true), []))
  | _, _ => .fail⟩
theorem p4 : SpecOK Try.prog 4 s4 := by
  refine specOK_of (env_ok (l := l4) ⟨⟨p26, f26⟩, ⟨⟨p32, f32⟩, ⟨⟨p31, f31⟩, ⟨⟨p25, f25⟩, ⟨⟨p27, f27⟩, ⟨⟨p33, f33⟩, ⟨⟨p29, f29⟩, ⟨⟨p34, f34⟩, ⟨⟨p30, f30⟩, trivial⟩⟩⟩⟩⟩⟩⟩⟩⟩) mixed_ok Try.func4 k4 fun av ob r os hrn => ?_
  simp only [s4] at hrn
  split at hrn
  · rename_i l v
    obtain ⟨hg, hrn⟩ := need_den hrn
    cases hrn
    simp only [Bool.and_eq_true] at hg
    obtain ⟨q1, q2⟩ := hg
    have hv := v4 l v q1
    unfold h4 at hv
    exact ⟨1000, hv⟩
  · cases hrn
theorem law4 (av : List AV) (h : AVs [RBytes, RInt] av) : (s4.run av []).den = some (.one (.bool true), []) := by
  obtain ⟨_, _, rfl, ⟨l, rfl, q1⟩, k1⟩ := h.cons
  obtain ⟨_, _, rfl, ⟨v, rfl, q2⟩, k2⟩ := k1.cons
  rw [k2.nil]
  refine den_need ?_
  simp only [Bool.and_eq_true]
  exact ⟨q1, q2⟩
end Go.Proofs.Ytipfipnhgpbceaa.Sx
