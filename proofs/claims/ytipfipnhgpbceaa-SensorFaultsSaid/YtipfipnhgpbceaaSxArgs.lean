/- The kinds of a statement's arguments (plain theorems). -/
import Derived.Test.YtipfipnhgpbceaaSxRow
import Derived.Test.YtipfipnhgpbceaaSxProg
set_option linter.unusedVariables false
set_option linter.unusedSimpArgs false
namespace Go.Proofs.Ytipfipnhgpbceaa.Sx
open Go Go.ChangeShapes Go.WideShapes Go.RowKit

theorem den_need {α : Type} {b : Bool} {x : α} (h : b = true) : (Tr.need b (.ret x)).den = some x := by subst h; rfl
theorem AVs.cons {R : AV → Prop} {Rs : List (AV → Prop)} {av : List AV} (h : AVs (R :: Rs) av) : ∃ (a : AV) (r : List AV), av = a :: r ∧ R a ∧ AVs Rs r := by
  cases av with
  | nil => exact h.elim
  | cons a r => exact ⟨a, r, rfl, h.1, h.2⟩
theorem AVs.nil {av : List AV} (h : AVs [] av) : av = [] := by
  cases av with
  | nil => rfl
  | cons a r => exact h.elim
/-! ### Numbers of their kinds -/
def i64B (n : Int) : Bool := decide (-9223372036854775808 ≤ n) && decide (n ≤ 9223372036854775807)
def u8B (n : Int) : Bool := decide (0 ≤ n) && decide (n < 256)
def u16B (n : Int) : Bool := decide (0 ≤ n) && decide (n < 65536)
theorem i64B_iff {n : Int} : i64B n = true ↔ -9223372036854775808 ≤ n ∧ n ≤ 9223372036854775807 := by simp [i64B]
theorem u8B_iff {n : Int} : u8B n = true ↔ 0 ≤ n ∧ n < 256 := by simp [u8B]
theorem u16B_iff {n : Int} : u16B n = true ↔ 0 ≤ n ∧ n < 65536 := by simp [u16B]
theorem i64_wf {n : Int} (h : (Lit.int .i64 n).wf = true) : i64B n = true := by
  simp [Lit.wf, IntKind.min, IntKind.max, IntKind.signed, IntKind.bits] at h
  rw [i64B_iff]; omega
theorem u8_wf {n : Int} (h : (Lit.int .u8 n).wf = true) : u8B n = true := by
  simp [Lit.wf, IntKind.min, IntKind.max, IntKind.signed, IntKind.bits] at h
  rw [u8B_iff]; omega
theorem u16_wf {n : Int} (h : (Lit.int .u16 n).wf = true) : u16B n = true := by
  simp [Lit.wf, IntKind.min, IntKind.max, IntKind.signed, IntKind.bits] at h
  rw [u16B_iff]; omega
def spanB (s : Span) : Bool := i64B s.lo && i64B s.hi
def sensorB (s : Sensor) : Bool := i64B s.addr && (i64B s.kind && (i64B s.target && (i64B s.offset && (i64B s.scale && (i64B s.error && (i64B s.drift && i64B s.life))))))
def sourceB (s : Source) : Bool := i64B s.road && (i64B s.lo && i64B s.hi)
def frameB (f : Frame) : Bool := i64B f.addr && (i64B f.kind && f.data.all u8B)
def placeB (p : Place) : Bool := i64B p.height
def roadB (r : Road) : Bool := i64B r.frm && (i64B r.to && (i64B r.len && (i64B r.area && (i64B r.restLo && (i64B r.restHi && (i64B r.liftLo && i64B r.liftHi))))))

theorem opens_i : Opens Try.prog 3 (isInt .i64) := opens_int Try.underlying3
theorem opens_span : Opens Try.prog 24 (fun l => ∃ x : Span, l = enc .span x ∧ spanB x = true) := by
  refine opens_imp (opens_struct (Rs := [isInt .i64, isInt .i64]) Try.underlying24 ?_) ?_
  · exact ⟨rfl, opens_i, by kernel_rfl, opens_i, by show (_ : Nat) = _; kernel_rfl⟩
  · rintro l ⟨a, b, rfl, ⟨x, rfl, hx⟩, ⟨c, d, rfl, ⟨y, rfl, hy⟩, rfl⟩⟩
    exact ⟨⟨x, y⟩, rfl, by simp [spanB, i64_wf hx, i64_wf hy]⟩
theorem opens_source : Opens Try.prog 69 (fun l => ∃ x : Source, l = enc .source x ∧ sourceB x = true) := by
  refine opens_imp (opens_struct (Rs := [isInt .i64, fun l => ∃ x : Span, l = enc .span x ∧ spanB x = true]) Try.underlying69 ?_) ?_
  · exact ⟨rfl, opens_i, by kernel_rfl, opens_span, by show (_ : Nat) = _; kernel_rfl⟩
  · rintro l ⟨a, b, rfl, ⟨x, rfl, hx⟩, ⟨c, d, rfl, ⟨y, rfl, hy⟩, rfl⟩⟩
    simp only [spanB, Bool.and_eq_true] at hy
    exact ⟨⟨x, y.lo, y.hi⟩, rfl, by simp [sourceB, i64_wf hx, hy.1, hy.2]⟩
theorem opens_sensor : Opens Try.prog 35 (fun l => ∃ x : Sensor, l = enc .sensor x ∧ sensorB x = true) := by
  refine opens_imp (opens_struct (Rs := [isInt .i64, isInt .i64, isInt .i64, isInt .i64, isInt .i64, isInt .i64, isInt .i64, isInt .i64]) Try.underlying35 ?_) ?_
  · exact ⟨rfl, opens_i, by kernel_rfl, opens_i, by kernel_rfl, opens_i, by kernel_rfl, opens_i, by kernel_rfl, opens_i, by kernel_rfl, opens_i, by kernel_rfl, opens_i, by kernel_rfl, opens_i, by show (_ : Nat) = _; kernel_rfl⟩
  · rintro l ⟨_, _, rfl, ⟨a, rfl, ha⟩, ⟨_, _, rfl, ⟨b, rfl, hb⟩, ⟨_, _, rfl, ⟨c, rfl, hc⟩, ⟨_, _, rfl, ⟨d, rfl, hd⟩, ⟨_, _, rfl, ⟨e, rfl, he⟩, ⟨_, _, rfl, ⟨f, rfl, hf⟩, ⟨_, _, rfl, ⟨g, rfl, hg⟩, ⟨_, _, rfl, ⟨h, rfl, hh⟩, rfl⟩⟩⟩⟩⟩⟩⟩⟩
    exact ⟨⟨a, b, c, d, e, f, g, h⟩, rfl, by simp [sensorB, i64_wf ha, i64_wf hb, i64_wf hc, i64_wf hd, i64_wf he, i64_wf hf, i64_wf hg, i64_wf hh]⟩
theorem opens_u8 : Opens Try.prog 5 (fun l => ∃ x : D .u8, l = enc .u8 x ∧ u8B x = true) := by
  refine opens_imp (opens_int Try.underlying5) ?_
  rintro l ⟨n, rfl, hn⟩
  exact ⟨n, rfl, u8_wf hn⟩
theorem opens_bytes : Opens Try.prog 22 (isVec .u8 fun x => u8B x = true) := opens_slice Try.underlying22 (by kernel_rfl) opens_u8
theorem opens_frame : Opens Try.prog 75 (fun l => ∃ x : Frame, l = enc .frame x ∧ frameB x = true) := by
  refine opens_imp (opens_struct (Rs := [isInt .i64, isInt .i64, isVec .u8 fun x => u8B x = true]) Try.underlying75 ?_) ?_
  · exact ⟨rfl, opens_i, by kernel_rfl, opens_i, by kernel_rfl, opens_bytes, by show (_ : Nat) = _; kernel_rfl⟩
  · rintro l ⟨_, _, rfl, ⟨a, rfl, ha⟩, ⟨_, _, rfl, ⟨b, rfl, hb⟩, ⟨_, _, rfl, ⟨c, rfl, hc⟩, rfl⟩⟩⟩
    exact ⟨⟨a, b, c⟩, rfl, by simp only [frameB, i64_wf ha, i64_wf hb, Bool.true_and]; exact List.all_eq_true.2 hc⟩
theorem opens_place : Opens Try.prog 107 (fun l => ∃ x : Place, l = enc .place x ∧ placeB x = true) := by
  refine opens_imp (opens_struct (Rs := [isInt .i64, isBool]) Try.underlying107 ?_) ?_
  · exact ⟨rfl, opens_i, by kernel_rfl, opens_bool Try.underlying4, by show (_ : Nat) = _; kernel_rfl⟩
  · rintro l ⟨_, _, rfl, ⟨a, rfl, ha⟩, ⟨_, _, rfl, ⟨b, rfl⟩, rfl⟩⟩
    exact ⟨⟨a, b⟩, rfl, by simp [placeB, i64_wf ha]⟩
theorem opens_road : Opens Try.prog 105 (fun l => ∃ x : Road, l = enc .road x ∧ roadB x = true) := by
  refine opens_imp (opens_struct (Rs := [isInt .i64, isInt .i64, isInt .i64, isInt .i64, isBool, isBool, fun l => ∃ x : Span, l = enc .span x ∧ spanB x = true, fun l => ∃ x : Span, l = enc .span x ∧ spanB x = true]) Try.underlying105 ?_) ?_
  · exact ⟨rfl, opens_i, by kernel_rfl, opens_i, by kernel_rfl, opens_i, by kernel_rfl, opens_i, by kernel_rfl, opens_bool Try.underlying4, by kernel_rfl, opens_bool Try.underlying4, by kernel_rfl, opens_span, by kernel_rfl, opens_span, by show (_ : Nat) = _; kernel_rfl⟩
  · rintro l ⟨_, _, rfl, ⟨a, rfl, ha⟩, ⟨_, _, rfl, ⟨b, rfl, hb⟩, ⟨_, _, rfl, ⟨c, rfl, hc⟩, ⟨_, _, rfl, ⟨d, rfl, hd⟩, ⟨_, _, rfl, ⟨e, rfl⟩, ⟨_, _, rfl, ⟨f, rfl⟩, ⟨_, _, rfl, ⟨g, rfl, hg⟩, ⟨_, _, rfl, ⟨h, rfl, hh⟩, rfl⟩⟩⟩⟩⟩⟩⟩⟩
    simp only [spanB, Bool.and_eq_true] at hg hh
    exact ⟨⟨a, b, c, d, e, f, g.lo, g.hi, h.lo, h.hi⟩, rfl, by simp [roadB, i64_wf ha, i64_wf hb, i64_wf hc, i64_wf hd, hg.1, hg.2, hh.1, hh.2]⟩
theorem opens_mine : Opens Try.prog 53 (fun l => ∃ (p : List Place) (r : List Road), l = [.vec false .place p, .vec false .road r] ∧ (∀ x ∈ p, placeB x = true) ∧ ∀ x ∈ r, roadB x = true) := by
  refine opens_imp (opens_struct (Rs := [isVec .place fun x => placeB x = true, isVec .road fun x => roadB x = true]) Try.underlying53 ?_) ?_
  · exact ⟨rfl, opens_slice (E := .place) (Q := fun x => placeB x = true) Try.underlying50 (by kernel_rfl) opens_place, by kernel_rfl, opens_slice (E := .road) (Q := fun x => roadB x = true) Try.underlying51 (by kernel_rfl) opens_road, by show (_ : Nat) = _; kernel_rfl⟩
  · rintro l ⟨_, _, rfl, ⟨a, rfl, ha⟩, ⟨_, _, rfl, ⟨b, rfl, hb⟩, rfl⟩⟩
    exact ⟨a, b, rfl, ha, hb⟩

/-! ### Arguments -/
def RInt (a : AV) : Prop := ∃ n, a = .one (.int .i64 n) ∧ i64B n = true
def RU8 (a : AV) : Prop := ∃ n, a = .one (.int .u8 n) ∧ u8B n = true
def RU16 (a : AV) : Prop := ∃ n, a = .one (.int .u16 n) ∧ u16B n = true
def RBytes (a : AV) : Prop := ∃ l : List Int, a = .one (.vec false .u8 l) ∧ l.all u8B = true
def RSpan (a : AV) : Prop := ∃ x y, a = .agg [.int .i64 x, .int .i64 y] ∧ i64B x = true ∧ i64B y = true
def RSensor (a : AV) : Prop := ∃ x : Sensor, a = .agg (enc .sensor x) ∧ sensorB x = true
def RSensors (a : AV) : Prop := ∃ l : List Sensor, a = .one (.vec false .sensor l) ∧ l.all sensorB = true
def RSpans (a : AV) : Prop := ∃ l : List Span, a = .one (.vec false .span l) ∧ l.all spanB = true
def RSources (a : AV) : Prop := ∃ l : List Source, a = .one (.vec false .source l) ∧ l.all sourceB = true
def RFrame (a : AV) : Prop := ∃ f : Frame, a = .agg (enc .frame f) ∧ frameB f = true
def RMine (a : AV) : Prop := ∃ (p : List Place) (r : List Road), a = .agg [.vec false .place p, .vec false .road r] ∧ p.all placeB = true ∧ r.all roadB = true
theorem a3 : ArgTy Try.prog 3 RInt := arg_imp (arg_int Try.underlying3) fun a ⟨n, h1, h2⟩ => ⟨n, h1, i64_wf h2⟩
theorem a5 : ArgTy Try.prog 5 RU8 := arg_imp (arg_int Try.underlying5) fun a ⟨n, h1, h2⟩ => ⟨n, h1, u8_wf h2⟩
theorem a49 : ArgTy Try.prog 49 RU16 := arg_imp (arg_int Try.underlying49) fun a ⟨n, h1, h2⟩ => ⟨n, h1, u16_wf h2⟩
theorem a22 : ArgTy Try.prog 22 RBytes := arg_imp (arg_slice Try.underlying22 (by kernel_rfl) opens_u8) fun a ⟨n, h1, h2⟩ => ⟨n, h1, List.all_eq_true.2 h2⟩
theorem a24 : ArgTy Try.prog 24 RSpan := arg_imp (arg_struct Try.underlying24 opens_span) fun a ⟨l, h1, x, h2, h3⟩ => by
  simp only [spanB, Bool.and_eq_true] at h3
  exact ⟨x.lo, x.hi, by rw [h1, h2]; rfl, h3.1, h3.2⟩
theorem a35 : ArgTy Try.prog 35 RSensor := arg_imp (arg_struct Try.underlying35 opens_sensor) fun a ⟨l, h1, x, h2, h3⟩ => ⟨x, by rw [h1, h2], h3⟩
theorem a75 : ArgTy Try.prog 75 RFrame := arg_imp (arg_struct Try.underlying75 opens_frame) fun a ⟨l, h1, x, h2, h3⟩ => ⟨x, by rw [h1, h2], h3⟩
theorem a46 : ArgTy Try.prog 46 RSensors := arg_imp (arg_slice (E := .sensor) (Q := fun x => sensorB x = true) Try.underlying46 (by kernel_rfl) opens_sensor) fun a ⟨n, h1, h2⟩ => ⟨n, h1, List.all_eq_true.2 h2⟩
theorem a65 : ArgTy Try.prog 65 RSpans := arg_imp (arg_slice (E := .span) (Q := fun x => spanB x = true) Try.underlying65 (by kernel_rfl) opens_span) fun a ⟨n, h1, h2⟩ => ⟨n, h1, List.all_eq_true.2 h2⟩
theorem a70 : ArgTy Try.prog 70 RSources := arg_imp (arg_slice (E := .source) (Q := fun x => sourceB x = true) Try.underlying70 (by kernel_rfl) opens_source) fun a ⟨n, h1, h2⟩ => ⟨n, h1, List.all_eq_true.2 h2⟩
theorem a53 : ArgTy Try.prog 53 RMine := arg_imp (arg_struct Try.underlying53 opens_mine) fun a ⟨l, h1, p, r, h2, h3, h4⟩ => ⟨p, r, by rw [h1, h2], List.all_eq_true.2 h3, List.all_eq_true.2 h4⟩
end Go.Proofs.Ytipfipnhgpbceaa.Sx
