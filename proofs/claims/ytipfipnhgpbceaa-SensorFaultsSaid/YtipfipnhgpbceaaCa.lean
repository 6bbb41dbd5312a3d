/- Draws, in the form in which a caller goes on with what was drawn (plain theorems). -/
import Derived.Test.YtipfipnhgpbceaaLb
set_option linter.unusedVariables false
set_option linter.unusedSimpArgs false
set_option maxRecDepth 100000
namespace Go.Proofs.Ytipfipnhgpbceaa.Sx
open Go Go.RowKit
theorem spec_le {P : Program} {f : FuncId} {a b : Spec} (h : ∀ av ob r os, (b.run av ob).den = some (r, os) → (a.run av ob).den = some (r, os)) (ha : SpecOK P f a) : SpecOK P f b :=
  fun w ρ ok vs av obs r os h1 h2 h3 h4 => ha w ρ ok vs av obs r os h1 h2 h3 (h _ _ _ _ h4)
def nextO (l : List Int) (p n : Int) : Option (Int × Int) := if cok l p = true then some (nextV l p n, nextP l p n) else none
theorem next_ok {l : List Int} {p n : Int} (h : cok l p = true) (hn : 1 ≤ n) : ∃ v q, nextO l p n = some (v, q) ∧ 0 ≤ v ∧ v < n ∧ cok l q = true :=
  ⟨_, _, if_pos h, (nextV_range h hn).1, (nextV_range h hn).2, cok_next h⟩
def c46 : Spec := ⟨false, fun av ob => match av, ob with
  | [.one (.ptr 0 0), .one (.int .i64 n)], [.box [.vec false .u8 l, .int .i64 p]] => .call (nextO l p n) fun x => .ret (.one (.int .i64 x.1), [.box [.vec false .u8 l, .int .i64 x.2]])
  | _, _ => .fail⟩
theorem pc46 : SpecOK Try.prog 46 c46 := by
  refine spec_le (fun av ob r os h => ?_) p46
  simp only [c46] at h
  split at h
  · rename_i n l p
    obtain ⟨x, hx, hr⟩ := Option.bind_eq_some_iff.1 h
    unfold nextO at hx
    split at hx
    · rename_i hc
      cases hx
      cases hr
      exact den_need hc
    · cases hx
  · cases h
def oneO (l : List Int) (p n : Int) : Option (Bool × Int) := if cok l p = true then some (nextV l p n == wr64 (n - 1), nextP l p n) else none
theorem one_ok {l : List Int} {p n : Int} (h : cok l p = true) : ∃ v q, oneO l p n = some (v, q) ∧ cok l q = true :=
  ⟨_, _, if_pos h, cok_next h⟩
def c55 : Spec := ⟨false, fun av ob => match av, ob with
  | [.one (.ptr 0 0), .one (.int .i64 n)], [.box [.vec false .u8 l, .int .i64 p]] => .call (oneO l p n) fun x => .ret (.one (.bool x.1), [.box [.vec false .u8 l, .int .i64 x.2]])
  | _, _ => .fail⟩
theorem pc55 : SpecOK Try.prog 55 c55 := by
  refine spec_le (fun av ob r os h => ?_) p55
  simp only [c55] at h
  split at h
  · rename_i n l p
    obtain ⟨x, hx, hr⟩ := Option.bind_eq_some_iff.1 h
    unfold oneO at hx
    split at hx
    · rename_i hc
      cases hx
      cases hr
      exact den_need hc
    · cases hx
  · cases h
def rangeO (l : List Int) (p lo hi : Int) : Option (Int × Int) := if cok l p = true then some (wr64 (lo + nextV l p (rangeN lo hi)), nextP l p (rangeN lo hi)) else none
theorem range_ok {l : List Int} {p lo hi : Int} (h : cok l p = true) (h1 : lo ≤ hi) (h2 : -1152921504606846976 ≤ lo) (h3 : hi ≤ 1152921504606846976) : ∃ v q, rangeO l p lo hi = some (v, q) ∧ lo ≤ v ∧ v ≤ hi ∧ cok l q = true := by
  have e1 : rangeN lo hi = hi - lo + 1 := by
    unfold rangeN
    rw [wr64, wr64, wid (n := hi - lo) (by omega) (by omega), wid (by omega) (by omega)]
  have r := nextV_range (n := hi - lo + 1) h (by omega)
  refine ⟨_, _, if_pos h, ?_, ?_, cok_next h⟩
  · rw [e1, wr64, wid (by omega) (by omega)]; omega
  · rw [e1, wr64, wid (by omega) (by omega)]; omega
def c32 : Spec := ⟨false, fun av ob => match av, ob with
  | [.one (.ptr 0 0), .one (.int .i64 lo), .one (.int .i64 hi)], [.box [.vec false .u8 l, .int .i64 p]] => .call (rangeO l p lo hi) fun x => .ret (.one (.int .i64 x.1), [.box [.vec false .u8 l, .int .i64 x.2]])
  | _, _ => .fail⟩
theorem pc32 : SpecOK Try.prog 32 c32 := by
  refine spec_le (fun av ob r os h => ?_) p32
  simp only [c32] at h
  split at h
  · rename_i lo hi l p
    obtain ⟨x, hx, hr⟩ := Option.bind_eq_some_iff.1 h
    unfold rangeO at hx
    split at hx
    · rename_i hc
      cases hx
      cases hr
      exact den_need hc
    · cases hx
  · cases h
def measO (l : List Int) (p : Int) : Option (Measure × Int) := if cok l p = true then some (measV l p, after6 l p) else none
theorem meas_ok {l : List Int} {p : Int} (h : cok l p = true) : ∃ m q, measO l p = some (m, q) ∧ MB m ∧ cok l q = true :=
  ⟨_, _, if_pos h, measV_ok h, cok_after6 h⟩
def c25 : Spec := ⟨false, fun av ob => match av, ob with
  | [.one (.ptr 0 0)], [.box [.vec false .u8 l, .int .i64 p]] => .call (measO l p) fun x => .ret (.agg [.int .i64 x.1.sensor, .int .i64 x.1.time, .int .i64 x.1.lo, .int .i64 x.1.hi], [.box [.vec false .u8 l, .int .i64 x.2]])
  | _, _ => .fail⟩
theorem pc25 : SpecOK Try.prog 25 c25 := by
  refine spec_le (fun av ob r os h => ?_) p25
  simp only [c25] at h
  split at h
  · rename_i l p
    obtain ⟨x, hx, hr⟩ := Option.bind_eq_some_iff.1 h
    unfold measO at hx
    split at hx
    · rename_i hc
      cases hx
      cases hr
      exact den_need hc
    · cases hx
  · cases h
def sensO (l : List Int) (p a b c : Int) : Option (Sensor × Int) := if cok l p = true then some (sensV l p a b c, sensP l p a) else none
theorem sens_ok {l : List Int} {p a b c : Int} (h : cok l p = true) (ha : 1 ≤ a ∧ a ≤ 6) : ∃ s q, sensO l p a b c = some (s, q) ∧ SB s ∧ s.kind = a ∧ s.addr = b ∧ s.target = c ∧ cok l q = true := by
  obtain ⟨h1, h2, h3, h4⟩ := sensV_ok (b := b) (c := c) h ha
  exact ⟨_, _, if_pos h, h1, h2, h3, h4, cok_sensP h⟩
def c31 : Spec := ⟨false, fun av ob => match av, ob with
  | [.one (.ptr 0 0), .one (.int .i64 a), .one (.int .i64 b), .one (.int .i64 c)], [.box [.vec false .u8 l, .int .i64 p]] => .call (sensO l p a b c) fun x => .ret (.agg [.int .i64 x.1.addr, .int .i64 x.1.kind, .int .i64 x.1.target, .int .i64 x.1.offset, .int .i64 x.1.scale, .int .i64 x.1.error, .int .i64 x.1.drift, .int .i64 x.1.life], [.box [.vec false .u8 l, .int .i64 x.2]])
  | _, _ => .fail⟩
theorem pc31 : SpecOK Try.prog 31 c31 := by
  refine spec_le (fun av ob r os h => ?_) p31
  simp only [c31] at h
  split at h
  · rename_i a b c l p
    obtain ⟨x, hx, hr⟩ := Option.bind_eq_some_iff.1 h
    unfold sensO at hx
    split at hx
    · rename_i hc
      cases hx
      cases hr
      exact den_need hc
    · cases hx
  · cases h
end Go.Proofs.Ytipfipnhgpbceaa.Sx
