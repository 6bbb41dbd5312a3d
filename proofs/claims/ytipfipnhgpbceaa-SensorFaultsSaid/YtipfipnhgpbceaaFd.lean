/- What measurements say at a time (plain theorems). -/
import Derived.Test.YtipfipnhgpbceaaFc
set_option linter.unusedVariables false
set_option linter.unusedSimpArgs false
set_option maxRecDepth 100000
namespace Go.Proofs.Ytipfipnhgpbceaa.Sx
open Go Go.RowKit
abbrev nothing : Span := ⟨-1125899906842624, 1125899906842624⟩
def atDead (s : Sensor) (m : Measure) (t : Int) : Bool :=
  checkS s != 0 || (decide (m.sensor < 0) || ((m.lo == -1125899906842624 && m.hi == 1125899906842624) || (decide (t < m.time) || decide (wr64 (t - m.time) > s.life))))
def moreI (s : Sensor) (m : Measure) (t : Int) : Int := wr64 ((wr64 (wr64 (s.drift * wr64 (t - m.time)) + 999)).tdiv 1000)
def moreR (s : Sensor) (m : Measure) (t : Int) : Int := cei (wr64 (s.drift * wr64 (t - m.time))) 1000
def widen (gassy : Bool) (m : Measure) (w : Int) : Span :=
  if gassy then ⟨mx (wr64 (m.lo - w)) 0, mx (wr64 (m.hi + w)) 0⟩ else ⟨wr64 (m.lo - w), wr64 (m.hi + w)⟩
def atI (s : Sensor) (m : Measure) (t : Int) : Span :=
  if atDead s m t then nothing else if s.kind == 4 || (s.kind == 5 || s.kind == 6) then ⟨m.lo, m.hi⟩ else widen (s.kind == 1 || s.kind == 2) m (moreI s m t)
def atR (s : Sensor) (m : Measure) (t : Int) : Span :=
  if atDead s m t then nothing else if decide (s.kind ≥ 4) then ⟨m.lo, m.hi⟩ else widen (s.kind == 1 || s.kind == 2) m (moreR s m t)
def l36 : List (FuncId × Spec) := [(54, s54), (38, s38), (87, s87)]
def k36 : Code → Keep := keepOf []
noncomputable def h36 (fl : Nat) (a b c d e f g h s m lo hi t : Int) : Option (AV × List Ob) := (evalF (env l36) Try.f36 k36 fl [.agg [.int .i64 a, .int .i64 b, .int .i64 c, .int .i64 d, .int .i64 e, .int .i64 f, .int .i64 g, .int .i64 h], .agg [.int .i64 s, .int .i64 m, .int .i64 lo, .int .i64 hi], .one (.int .i64 t)] []).den
theorem h36_eq (fl : Nat) (a b c d e f g h s m lo hi t : Int) : h36 (fl + 1) a b c d e f g h s m lo hi t =
    if (checkS { addr := a, kind := b, target := c, offset := d, scale := e, error := f, drift := g, life := h } != 0) = true then some (.agg [.int .i64 (-1125899906842624), .int .i64 1125899906842624], [])
    else if (decide (s < 0)) = true then some (.agg [.int .i64 (-1125899906842624), .int .i64 1125899906842624], [])
      else if (lo == -1125899906842624 && hi == 1125899906842624) = true then some (.agg [.int .i64 (-1125899906842624), .int .i64 1125899906842624], [])
        else if (decide (t < m)) = true then some (.agg [.int .i64 (-1125899906842624), .int .i64 1125899906842624], [])
          else if (decide (IntKind.i64.wrap (t - m) > h)) = true then some (.agg [.int .i64 (-1125899906842624), .int .i64 1125899906842624], [])
            else if (b == 4 || (b == 5 || b == 6)) = true then some (.agg [.int .i64 lo, .int .i64 hi], [])
              else if (b == 1) = true then some (.agg [.int .i64 (mx (IntKind.i64.wrap (lo - IntKind.i64.wrap ((IntKind.i64.wrap (IntKind.i64.wrap (g * IntKind.i64.wrap (t - m)) + 999)).tdiv 1000))) 0), .int .i64 (mx (IntKind.i64.wrap (hi + IntKind.i64.wrap ((IntKind.i64.wrap (IntKind.i64.wrap (g * IntKind.i64.wrap (t - m)) + 999)).tdiv 1000))) 0)], [])
                else if (b == 2) = true then some (.agg [.int .i64 (mx (IntKind.i64.wrap (lo - IntKind.i64.wrap ((IntKind.i64.wrap (IntKind.i64.wrap (g * IntKind.i64.wrap (t - m)) + 999)).tdiv 1000))) 0), .int .i64 (mx (IntKind.i64.wrap (hi + IntKind.i64.wrap ((IntKind.i64.wrap (IntKind.i64.wrap (g * IntKind.i64.wrap (t - m)) + 999)).tdiv 1000))) 0)], [])
                  else some (.agg [.int .i64 (IntKind.i64.wrap (lo - IntKind.i64.wrap ((IntKind.i64.wrap (IntKind.i64.wrap (g * IntKind.i64.wrap (t - m)) + 999)).tdiv 1000))), .int .i64 (IntKind.i64.wrap (hi + IntKind.i64.wrap ((IntKind.i64.wrap (IntKind.i64.wrap (g * IntKind.i64.wrap (t - m)) + 999)).tdiv 1000)))], []) := by kernel_rfl
def s36 : Spec := ⟨false, fun av ob => match av, ob with
  | [.agg [.int .i64 a, .int .i64 b, .int .i64 c, .int .i64 d, .int .i64 e, .int .i64 f, .int .i64 g, .int .i64 h], .agg [.int .i64 s, .int .i64 m, .int .i64 lo, .int .i64 hi], .one (.int .i64 t)], [] => .ret (.agg [.int .i64 (atI ⟨a, b, c, d, e, f, g, h⟩ ⟨s, m, lo, hi⟩ t).lo, .int .i64 (atI ⟨a, b, c, d, e, f, g, h⟩ ⟨s, m, lo, hi⟩ t).hi], [])
  | _, _ => .fail⟩
theorem v36 (a b c d e f g h s m lo hi t : Int) : h36 1 a b c d e f g h s m lo hi t = some (.agg [.int .i64 (atI ⟨a, b, c, d, e, f, g, h⟩ ⟨s, m, lo, hi⟩ t).lo, .int .i64 (atI ⟨a, b, c, d, e, f, g, h⟩ ⟨s, m, lo, hi⟩ t).hi], []) := by
  rw [h36_eq]
  unfold atI atDead moreI widen
  dsimp only
  cases k1 : (checkS ⟨a, b, c, d, e, f, g, h⟩ != 0)
  · cases k2 : decide (s < 0)
    · cases k3 : (lo == -1125899906842624 && hi == 1125899906842624)
      · cases k4 : decide (t < m)
        · cases k5 : decide (IntKind.i64.wrap (t - m) > h)
          · cases k6 : (b == 4 || (b == 5 || b == 6))
            · cases k7 : b == 1 <;> cases k8 : b == 2 <;> simp [wr64]
            · simp [wr64]
          · simp [wr64]
        · simp
      · simp
    · simp
  · simp
theorem p36 : SpecOK Try.prog 36 s36 := by
  refine specOK_of (env_ok (l := l36) ⟨⟨p54, f54⟩, ⟨⟨p38, f38⟩, ⟨⟨p87, f87⟩, trivial⟩⟩⟩) mixed_ok Try.func36 k36 fun av ob r os h => ?_
  simp only [s36] at h
  split at h
  · rename_i a b c d e f g h s m lo hi t
    cases h
    have hv := v36 a b c d e f g h s m lo hi t
    unfold h36 at hv
    exact ⟨1, hv⟩
  · cases h
theorem f36 : FnOK Try.prog 36 := fnOK_of Try.func36 rfl (by kernel_rfl)
def l33 : List (FuncId × Spec) := [(39, s39), (35, s35), (84, s84), (85, s85), (86, s86)]
def k33 : Code → Keep := keepOf []
noncomputable def h33 (fl : Nat) (a b c d e f g h s m lo hi t : Int) : Option (AV × List Ob) := (evalF (env l33) Try.f33 k33 fl [.agg [.int .i64 a, .int .i64 b, .int .i64 c, .int .i64 d, .int .i64 e, .int .i64 f, .int .i64 g, .int .i64 h], .agg [.int .i64 s, .int .i64 m, .int .i64 lo, .int .i64 hi], .one (.int .i64 t)] []).den
theorem h33_eq (fl : Nat) (a b c d e f g h s m lo hi t : Int) : h33 (fl + 1) a b c d e f g h s m lo hi t =
    if (checkS { addr := a, kind := b, target := c, offset := d, scale := e, error := f, drift := g, life := h } != 0) = true then some (.agg [.int .i64 (-1125899906842624), .int .i64 1125899906842624], [])
    else if (decide (s < 0)) = true then some (.agg [.int .i64 (-1125899906842624), .int .i64 1125899906842624], [])
      else if (lo == -1125899906842624 && hi == 1125899906842624) = true then some (.agg [.int .i64 (-1125899906842624), .int .i64 1125899906842624], [])
        else if (decide (t < m)) = true then some (.agg [.int .i64 (-1125899906842624), .int .i64 1125899906842624], [])
          else if (decide (IntKind.i64.wrap (t - m) > h)) = true then some (.agg [.int .i64 (-1125899906842624), .int .i64 1125899906842624], [])
            else if (decide (b ≥ 4)) = true then some (.agg [.int .i64 lo, .int .i64 hi], [])
              else if (b == 1 || b == 2) = true then some (.agg [.int .i64 (mx (IntKind.i64.wrap (lo - cei (IntKind.i64.wrap (g * IntKind.i64.wrap (t - m))) 1000)) 0), .int .i64 (mx (IntKind.i64.wrap (hi + cei (IntKind.i64.wrap (g * IntKind.i64.wrap (t - m))) 1000)) 0)], [])
                else some (.agg [.int .i64 (IntKind.i64.wrap (lo - cei (IntKind.i64.wrap (g * IntKind.i64.wrap (t - m))) 1000)), .int .i64 (IntKind.i64.wrap (hi + cei (IntKind.i64.wrap (g * IntKind.i64.wrap (t - m))) 1000))], []) := by kernel_rfl
def s33 : Spec := ⟨false, fun av ob => match av, ob with
  | [.agg [.int .i64 a, .int .i64 b, .int .i64 c, .int .i64 d, .int .i64 e, .int .i64 f, .int .i64 g, .int .i64 h], .agg [.int .i64 s, .int .i64 m, .int .i64 lo, .int .i64 hi], .one (.int .i64 t)], [] => .ret (.agg [.int .i64 (atR ⟨a, b, c, d, e, f, g, h⟩ ⟨s, m, lo, hi⟩ t).lo, .int .i64 (atR ⟨a, b, c, d, e, f, g, h⟩ ⟨s, m, lo, hi⟩ t).hi], [])
  | _, _ => .fail⟩
theorem v33 (a b c d e f g h s m lo hi t : Int) : h33 1 a b c d e f g h s m lo hi t = some (.agg [.int .i64 (atR ⟨a, b, c, d, e, f, g, h⟩ ⟨s, m, lo, hi⟩ t).lo, .int .i64 (atR ⟨a, b, c, d, e, f, g, h⟩ ⟨s, m, lo, hi⟩ t).hi], []) := by
  rw [h33_eq]
  unfold atR atDead moreR widen
  dsimp only
  cases k1 : (checkS ⟨a, b, c, d, e, f, g, h⟩ != 0)
  · cases k2 : decide (s < 0)
    · cases k3 : (lo == -1125899906842624 && hi == 1125899906842624)
      · cases k4 : decide (t < m)
        · cases k5 : decide (IntKind.i64.wrap (t - m) > h)
          · cases k6 : decide (b ≥ 4)
            · cases k7 : (b == 1 || b == 2) <;> simp [wr64]
            · simp [wr64]
          · simp [wr64]
        · simp
      · simp
    · simp
  · simp
theorem p33 : SpecOK Try.prog 33 s33 := by
  refine specOK_of (env_ok (l := l33) ⟨⟨p39, f39⟩, ⟨⟨p35, f35⟩, ⟨⟨p84, f84⟩, ⟨⟨p85, f85⟩, ⟨⟨p86, f86⟩, trivial⟩⟩⟩⟩⟩) mixed_ok Try.func33 k33 fun av ob r os h => ?_
  simp only [s33] at h
  split at h
  · rename_i a b c d e f g h s m lo hi t
    cases h
    have hv := v33 a b c d e f g h s m lo hi t
    unfold h33 at hv
    exact ⟨1, hv⟩
  · cases h
theorem f33 : FnOK Try.prog 33 := fnOK_of Try.func33 rfl (by kernel_rfl)
end Go.Proofs.Ytipfipnhgpbceaa.Sx
