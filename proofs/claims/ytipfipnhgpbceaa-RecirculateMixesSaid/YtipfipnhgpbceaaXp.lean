/- Plain theorems and definitions for the claim, put together out of several texts. -/
import Derived.Test.YtipfipnhgpbceaaXb
import Derived.Test.YtipfipnhgpbceaaRows
import Derived.WalkKit
import Derived.ProofKit
/- The program's table of types, and what the machine needs to know of the program (plain theorems). -/



set_option linter.unusedVariables false
set_option linter.unusedSimpArgs false
namespace Go.Proofs.Ytipfipnhgpbceaa.Sx
open Go Go.RowKit

def tlist : List (TypeId × TI) := [
  (2, ⟨.scal (.int .i64 0), 1, [.int .i64 0]⟩),
  (3, ⟨.scal (.int .i64 0), 1, [.int .i64 0]⟩),
  (4, ⟨.scal (.bool false), 1, [.bool false]⟩),
  (5, ⟨.scal (.int .u8 0), 1, [.int .u8 0]⟩),
  (21, ⟨.scal (.int .i32 0), 1, [.int .i32 0]⟩),
  (22, ⟨.slc .u8, 1, [.nils]⟩),
  (23, ⟨.strct [(0, 3), (1, 3)], 2, [.int .i64 0, .int .i64 0]⟩),
  (24, ⟨.strct [(0, 3), (1, 3)], 2, [.int .i64 0, .int .i64 0]⟩),
  (25, ⟨.strct [(0, 3), (1, 3), (2, 24)], 4, [.int .i64 0, .int .i64 0, .int .i64 0, .int .i64 0]⟩),
  (26, ⟨.strct [(0, 3), (1, 3), (2, 24)], 4, [.int .i64 0, .int .i64 0, .int .i64 0, .int .i64 0]⟩),
  (34, ⟨.strct [(0, 3), (1, 3), (2, 3), (3, 3), (4, 3), (5, 3), (6, 3), (7, 3)], 8, [.int .i64 0, .int .i64 0, .int .i64 0, .int .i64 0, .int .i64 0, .int .i64 0, .int .i64 0, .int .i64 0]⟩),
  (35, ⟨.strct [(0, 3), (1, 3), (2, 3), (3, 3), (4, 3), (5, 3), (6, 3), (7, 3)], 8, [.int .i64 0, .int .i64 0, .int .i64 0, .int .i64 0, .int .i64 0, .int .i64 0, .int .i64 0, .int .i64 0]⟩),
  (43, ⟨.scal (.int .i64 0), 1, [.int .i64 0]⟩),
  (46, ⟨.slc .sensor, 1, [.nils]⟩),
  (49, ⟨.scal (.int .u16 0), 1, [.int .u16 0]⟩),
  (50, ⟨.slc .place, 1, [.nils]⟩),
  (51, ⟨.slc .road, 1, [.nils]⟩),
  (52, ⟨.strct [(0, 50), (1, 51)], 2, [.nils, .nils]⟩),
  (53, ⟨.strct [(0, 50), (1, 51)], 2, [.nils, .nils]⟩),
  (54, ⟨.slc .fan, 1, [.nils]⟩),
  (55, ⟨.slc .door, 1, [.nils]⟩),
  (56, ⟨.strct [(0, 53), (2, 54), (3, 55)], 4, [.nils, .nils, .nils, .nils]⟩),
  (57, ⟨.strct [(0, 53), (2, 54), (3, 55)], 4, [.nils, .nils, .nils, .nils]⟩),
  (58, ⟨.slc .int, 1, [.nils]⟩),
  (59, ⟨.strct [(0, 58), (1, 58)], 2, [.nils, .nils]⟩),
  (60, ⟨.strct [(0, 58), (1, 58)], 2, [.nils, .nils]⟩),
  (61, ⟨.strct [(0, 58), (1, 58)], 2, [.nils, .nils]⟩),
  (62, ⟨.strct [(0, 58), (1, 58)], 2, [.nils, .nils]⟩),
  (65, ⟨.slc .span, 1, [.nils]⟩),
  (68, ⟨.strct [(0, 3), (1, 24)], 3, [.int .i64 0, .int .i64 0, .int .i64 0]⟩),
  (69, ⟨.strct [(0, 3), (1, 24)], 3, [.int .i64 0, .int .i64 0, .int .i64 0]⟩),
  (70, ⟨.slc .source, 1, [.nils]⟩),
  (74, ⟨.strct [(0, 3), (1, 3), (2, 22)], 3, [.int .i64 0, .int .i64 0, .nils]⟩),
  (75, ⟨.strct [(0, 3), (1, 3), (2, 22)], 3, [.int .i64 0, .int .i64 0, .nils]⟩),
  (77, ⟨.slc .frame, 1, [.nils]⟩),
  (78, ⟨.slc .sensors, 1, [.nils]⟩),
  (86, ⟨.scal (.int .u64 0), 1, [.int .u64 0]⟩),
  (89, ⟨.slc .spans, 1, [.nils]⟩),
  (100, ⟨.slc .pair, 1, [.nils]⟩),
  (103, ⟨.arr 2 3, 2, [.int .i64 0, .int .i64 0]⟩),
  (104, ⟨.strct [(0, 3), (1, 3), (2, 3), (3, 3), (4, 4), (5, 4), (6, 24), (8, 24)], 10, [.int .i64 0, .int .i64 0, .int .i64 0, .int .i64 0, .bool false, .bool false, .int .i64 0, .int .i64 0, .int .i64 0, .int .i64 0]⟩),
  (105, ⟨.strct [(0, 3), (1, 3), (2, 3), (3, 3), (4, 4), (5, 4), (6, 24), (8, 24)], 10, [.int .i64 0, .int .i64 0, .int .i64 0, .int .i64 0, .bool false, .bool false, .int .i64 0, .int .i64 0, .int .i64 0, .int .i64 0]⟩),
  (106, ⟨.strct [(0, 3), (1, 4)], 2, [.int .i64 0, .bool false]⟩),
  (107, ⟨.strct [(0, 3), (1, 4)], 2, [.int .i64 0, .bool false]⟩),
  (108, ⟨.slc .bool, 1, [.nils]⟩),
  (116, ⟨.slc .sources, 1, [.nils]⟩),
  (126, ⟨.slc .share, 1, [.nils]⟩),
  (127, ⟨.strct [(0, 3), (1, 3)], 2, [.int .i64 0, .int .i64 0]⟩),
  (128, ⟨.strct [(0, 3), (1, 3)], 2, [.int .i64 0, .int .i64 0]⟩),
  (131, ⟨.strct [(0, 22), (1, 3)], 2, [.nils, .int .i64 0]⟩),
  (132, ⟨.strct [(0, 22), (1, 3)], 2, [.nils, .int .i64 0]⟩),
  (142, ⟨.slc .measure, 1, [.nils]⟩),
  (143, ⟨.slc .point, 1, [.nils]⟩),
  (144, ⟨.strct [(0, 3), (1, 4), (2, 4), (3, 143)], 4, [.int .i64 0, .bool false, .bool false, .nils]⟩),
  (145, ⟨.strct [(0, 3), (1, 4), (2, 4), (3, 143)], 4, [.int .i64 0, .bool false, .bool false, .nils]⟩),
  (146, ⟨.slc .arc, 1, [.nils]⟩),
  (149, ⟨.strct [(0, 3), (1, 3), (2, 3)], 3, [.int .i64 0, .int .i64 0, .int .i64 0]⟩),
  (150, ⟨.strct [(0, 3), (1, 3), (2, 3)], 3, [.int .i64 0, .int .i64 0, .int .i64 0]⟩),
  (166, ⟨.strct [(0, 58), (1, 58)], 2, [.nils, .nils]⟩),
  (167, ⟨.strct [(0, 58), (1, 58)], 2, [.nils, .nils]⟩),
  (172, ⟨.strct [(0, 3), (1, 3), (2, 58)], 3, [.int .i64 0, .int .i64 0, .nils]⟩),
  (173, ⟨.strct [(0, 3), (1, 3), (2, 58)], 3, [.int .i64 0, .int .i64 0, .nils]⟩),
  (189, ⟨.strct [(0, 3), (1, 3)], 2, [.int .i64 0, .int .i64 0]⟩),
  (190, ⟨.strct [(0, 3), (1, 3)], 2, [.int .i64 0, .int .i64 0]⟩),
  (206, ⟨.scal (.int .u32 0), 1, [.int .u32 0]⟩)]

def eqk : TypeId → Option K := fun t => if t == 24 then some .span else if t == 26 then some .measure else none
def env (l : List (FuncId × Spec)) : Env := ⟨lookT tlist, eqk, lookF l, fun _ => false, fun t => t == 158⟩
/-- With stops ahead of some pieces of code. -/
def envc (l : List (FuncId × Spec)) (c : List Nat) : Env := ⟨lookT tlist, eqk, lookF l, fun i => c.contains i, fun t => t == 158⟩

theorem tlist_ok : (tlist.all fun p => tokB Try.prog p.1 p.2) = true := by kernel_rfl
theorem mixed_ok : Try.prog.follows .mixedOrders = true := by kernel_rfl

theorem eq24 (d : Nat) (w : World) (x0 y0 x1 y1 : Int) : (Op.equalIn (d + 2) 24 (.agg #[.int .i64 x0, .int .i64 x1]) (.agg #[.int .i64 y0, .int .i64 y1])).run Try.prog w = .ok (x0 == y0 && (x1 == y1)) w := by
  have h := eqA_of (P := Try.prog) (d := d + 1) (w := w) (xs := #[.int .i64 x0, .int .i64 x1]) (ys := #[.int .i64 y0, .int .i64 y1]) (r := x0 == y0 && (x1 == y1 && true)) Try.underlying24 (by kernel_rfl)
    (eqf_cons (by rfl) (by go_simp) (by go_simp) (eq_int Try.underlying3 _ _ _) (eqf_cons (by rfl) (by go_simp) (by go_simp) (eq_int Try.underlying3 _ _ _) eqf_nil))
  rw [Bool.and_true] at h
  exact h
theorem eq26 (d : Nat) (w : World) (x0 y0 x1 y1 x2 y2 x3 y3 : Int) : (Op.equalIn (d + 3) 26 (.agg #[.int .i64 x0, .int .i64 x1, .int .i64 x2, .int .i64 x3]) (.agg #[.int .i64 y0, .int .i64 y1, .int .i64 y2, .int .i64 y3])).run Try.prog w = .ok (x0 == y0 && (x1 == y1 && (x2 == y2 && (x3 == y3)))) w := by
  have h := eqA_of (P := Try.prog) (d := d + 2) (w := w) (xs := #[.int .i64 x0, .int .i64 x1, .int .i64 x2, .int .i64 x3]) (ys := #[.int .i64 y0, .int .i64 y1, .int .i64 y2, .int .i64 y3]) (r := x0 == y0 && (x1 == y1 && ((x2 == y2 && (x3 == y3)) && true))) Try.underlying26 (by kernel_rfl)
    (eqf_cons (by rfl) (by go_simp) (by go_simp) (eq_int Try.underlying3 _ _ _) (eqf_cons (by rfl) (by go_simp) (by go_simp) (eq_int Try.underlying3 _ _ _)
      (eqf_cons (by rfl) (by go_simp) (by go_simp) (eq24 d w _ _ _ _) eqf_nil)))
  rw [Bool.and_true] at h
  exact h
theorem eqk_ok : ∀ t E, eqk t = some E → QOK Try.prog t E := by
  intro t E h
  unfold eqk at h
  split at h
  · rename_i ht
    have : t = 24 := by simpa using ht
    subst this
    cases h
    refine ⟨by kernel_rfl, fun x y r w hr => ?_⟩
    simp only [eqK, Option.some.injEq] at hr
    subst hr
    exact eq24 9998 w _ _ _ _
  · split at h
    · rename_i ht
      have : t = 26 := by simpa using ht
      subst this
      cases h
      refine ⟨by kernel_rfl, fun x y r w hr => ?_⟩
      simp only [eqK, Option.some.injEq] at hr
      subst hr
      exact eq26 9997 w _ _ _ _ _ _ _ _
    · cases h
theorem maps_ok : ∀ t, (t == 158) = true → Try.prog.underlying t = some (.map 3 4) ∧ MapP Try.prog := fun t h => by
  have : t = 158 := by simpa using h
  subst this
  exact ⟨by kernel_rfl, by kernel_rfl, by kernel_rfl⟩
theorem mapz_ok : ∀ t, (t == 158) = true → ∀ w : World, (zeroValue 4).run Try.prog w = .ok (.bool false) w := fun t _ w => by kernel_rfl
theorem env_ok {l : List (FuncId × Spec)} (h : FnsOK Try.prog l) : EnvOK Try.prog (env l) := ⟨lookT_ok tlist_ok, eqk_ok, lookF_ok h, maps_ok, mapz_ok⟩
theorem envc_ok {l : List (FuncId × Spec)} {c : List Nat} (h : FnsOK Try.prog l) : EnvOK Try.prog (envc l c) := ⟨lookT_ok tlist_ok, eqk_ok, lookF_ok h, maps_ok, mapz_ok⟩
end Go.Proofs.Ytipfipnhgpbceaa.Sx
/- The kinds of a statement's arguments (plain theorems). -/


set_option linter.unusedVariables false
set_option linter.unusedSimpArgs false
namespace Go.Proofs.Ytipfipnhgpbceaa.Sx
open Go Go.ChangeShapes Go.WideShapes Go.RowKit

theorem den_need {α : Type} {b : Bool} {x : α} (h : b = true) : (Tr.need b (.ret x)).den = some x := by subst h; rfl
theorem AVs.cons {R : AV → Prop} {Rs : List (AV → Prop)} {av : List AV} (h : AVs (R :: Rs) av) : ∃ (a : AV) (r : List AV), av = a :: r ∧ R a ∧ AVs Rs r := by
  cases av with
  | nil => exact h.elim
  | cons a r => exact ⟨a, r, rfl, h.1, h.2⟩
theorem AVs.nil {av : List AV} (h : AVs [] av) : av = [] := by
  cases av with
  | nil => rfl
  | cons a r => exact h.elim
/-! ### Numbers of their kinds -/
def i64B (n : Int) : Bool := decide (-9223372036854775808 ≤ n) && decide (n ≤ 9223372036854775807)
def u8B (n : Int) : Bool := decide (0 ≤ n) && decide (n < 256)
def u16B (n : Int) : Bool := decide (0 ≤ n) && decide (n < 65536)
theorem i64B_iff {n : Int} : i64B n = true ↔ -9223372036854775808 ≤ n ∧ n ≤ 9223372036854775807 := by simp [i64B]
theorem u8B_iff {n : Int} : u8B n = true ↔ 0 ≤ n ∧ n < 256 := by simp [u8B]
theorem u16B_iff {n : Int} : u16B n = true ↔ 0 ≤ n ∧ n < 65536 := by simp [u16B]
theorem i64_wf {n : Int} (h : (Lit.int .i64 n).wf = true) : i64B n = true := by
  simp [Lit.wf, IntKind.min, IntKind.max, IntKind.signed, IntKind.bits] at h
  rw [i64B_iff]; omega
theorem u8_wf {n : Int} (h : (Lit.int .u8 n).wf = true) : u8B n = true := by
  simp [Lit.wf, IntKind.min, IntKind.max, IntKind.signed, IntKind.bits] at h
  rw [u8B_iff]; omega
theorem u16_wf {n : Int} (h : (Lit.int .u16 n).wf = true) : u16B n = true := by
  simp [Lit.wf, IntKind.min, IntKind.max, IntKind.signed, IntKind.bits] at h
  rw [u16B_iff]; omega
def spanB (s : Span) : Bool := i64B s.lo && i64B s.hi
def sensorB (s : Sensor) : Bool := i64B s.addr && (i64B s.kind && (i64B s.target && (i64B s.offset && (i64B s.scale && (i64B s.error && (i64B s.drift && i64B s.life))))))
def sourceB (s : Source) : Bool := i64B s.road && (i64B s.lo && i64B s.hi)
def frameB (f : Frame) : Bool := i64B f.addr && (i64B f.kind && f.data.all u8B)
def placeB (p : Place) : Bool := i64B p.height
def roadB (r : Road) : Bool := i64B r.frm && (i64B r.to && (i64B r.len && (i64B r.area && (i64B r.restLo && (i64B r.restHi && (i64B r.liftLo && i64B r.liftHi))))))

theorem opens_i : Opens Try.prog 3 (isInt .i64) := opens_int Try.underlying3
theorem opens_span : Opens Try.prog 24 (fun l => ∃ x : Span, l = enc .span x ∧ spanB x = true) := by
  refine opens_imp (opens_struct (Rs := [isInt .i64, isInt .i64]) Try.underlying24 ?_) ?_
  · exact ⟨rfl, opens_i, by kernel_rfl, opens_i, by show (_ : Nat) = _; kernel_rfl⟩
  · rintro l ⟨a, b, rfl, ⟨x, rfl, hx⟩, ⟨c, d, rfl, ⟨y, rfl, hy⟩, rfl⟩⟩
    exact ⟨⟨x, y⟩, rfl, by simp [spanB, i64_wf hx, i64_wf hy]⟩
theorem opens_source : Opens Try.prog 69 (fun l => ∃ x : Source, l = enc .source x ∧ sourceB x = true) := by
  refine opens_imp (opens_struct (Rs := [isInt .i64, fun l => ∃ x : Span, l = enc .span x ∧ spanB x = true]) Try.underlying69 ?_) ?_
  · exact ⟨rfl, opens_i, by kernel_rfl, opens_span, by show (_ : Nat) = _; kernel_rfl⟩
  · rintro l ⟨a, b, rfl, ⟨x, rfl, hx⟩, ⟨c, d, rfl, ⟨y, rfl, hy⟩, rfl⟩⟩
    simp only [spanB, Bool.and_eq_true] at hy
    exact ⟨⟨x, y.lo, y.hi⟩, rfl, by simp [sourceB, i64_wf hx, hy.1, hy.2]⟩
theorem opens_sensor : Opens Try.prog 35 (fun l => ∃ x : Sensor, l = enc .sensor x ∧ sensorB x = true) := by
  refine opens_imp (opens_struct (Rs := [isInt .i64, isInt .i64, isInt .i64, isInt .i64, isInt .i64, isInt .i64, isInt .i64, isInt .i64]) Try.underlying35 ?_) ?_
  · exact ⟨rfl, opens_i, by kernel_rfl, opens_i, by kernel_rfl, opens_i, by kernel_rfl, opens_i, by kernel_rfl, opens_i, by kernel_rfl, opens_i, by kernel_rfl, opens_i, by kernel_rfl, opens_i, by show (_ : Nat) = _; kernel_rfl⟩
  · rintro l ⟨_, _, rfl, ⟨a, rfl, ha⟩, ⟨_, _, rfl, ⟨b, rfl, hb⟩, ⟨_, _, rfl, ⟨c, rfl, hc⟩, ⟨_, _, rfl, ⟨d, rfl, hd⟩, ⟨_, _, rfl, ⟨e, rfl, he⟩, ⟨_, _, rfl, ⟨f, rfl, hf⟩, ⟨_, _, rfl, ⟨g, rfl, hg⟩, ⟨_, _, rfl, ⟨h, rfl, hh⟩, rfl⟩⟩⟩⟩⟩⟩⟩⟩
    exact ⟨⟨a, b, c, d, e, f, g, h⟩, rfl, by simp [sensorB, i64_wf ha, i64_wf hb, i64_wf hc, i64_wf hd, i64_wf he, i64_wf hf, i64_wf hg, i64_wf hh]⟩
theorem opens_u8 : Opens Try.prog 5 (fun l => ∃ x : D .u8, l = enc .u8 x ∧ u8B x = true) := by
  refine opens_imp (opens_int Try.underlying5) ?_
  rintro l ⟨n, rfl, hn⟩
  exact ⟨n, rfl, u8_wf hn⟩
theorem opens_bytes : Opens Try.prog 22 (isVec .u8 fun x => u8B x = true) := opens_slice Try.underlying22 (by kernel_rfl) opens_u8
theorem opens_frame : Opens Try.prog 75 (fun l => ∃ x : Frame, l = enc .frame x ∧ frameB x = true) := by
  refine opens_imp (opens_struct (Rs := [isInt .i64, isInt .i64, isVec .u8 fun x => u8B x = true]) Try.underlying75 ?_) ?_
  · exact ⟨rfl, opens_i, by kernel_rfl, opens_i, by kernel_rfl, opens_bytes, by show (_ : Nat) = _; kernel_rfl⟩
  · rintro l ⟨_, _, rfl, ⟨a, rfl, ha⟩, ⟨_, _, rfl, ⟨b, rfl, hb⟩, ⟨_, _, rfl, ⟨c, rfl, hc⟩, rfl⟩⟩⟩
    exact ⟨⟨a, b, c⟩, rfl, by simp only [frameB, i64_wf ha, i64_wf hb, Bool.true_and]; exact List.all_eq_true.2 hc⟩
theorem opens_place : Opens Try.prog 107 (fun l => ∃ x : Place, l = enc .place x ∧ placeB x = true) := by
  refine opens_imp (opens_struct (Rs := [isInt .i64, isBool]) Try.underlying107 ?_) ?_
  · exact ⟨rfl, opens_i, by kernel_rfl, opens_bool Try.underlying4, by show (_ : Nat) = _; kernel_rfl⟩
  · rintro l ⟨_, _, rfl, ⟨a, rfl, ha⟩, ⟨_, _, rfl, ⟨b, rfl⟩, rfl⟩⟩
    exact ⟨⟨a, b⟩, rfl, by simp [placeB, i64_wf ha]⟩
theorem opens_road : Opens Try.prog 105 (fun l => ∃ x : Road, l = enc .road x ∧ roadB x = true) := by
  refine opens_imp (opens_struct (Rs := [isInt .i64, isInt .i64, isInt .i64, isInt .i64, isBool, isBool, fun l => ∃ x : Span, l = enc .span x ∧ spanB x = true, fun l => ∃ x : Span, l = enc .span x ∧ spanB x = true]) Try.underlying105 ?_) ?_
  · exact ⟨rfl, opens_i, by kernel_rfl, opens_i, by kernel_rfl, opens_i, by kernel_rfl, opens_i, by kernel_rfl, opens_bool Try.underlying4, by kernel_rfl, opens_bool Try.underlying4, by kernel_rfl, opens_span, by kernel_rfl, opens_span, by show (_ : Nat) = _; kernel_rfl⟩
  · rintro l ⟨_, _, rfl, ⟨a, rfl, ha⟩, ⟨_, _, rfl, ⟨b, rfl, hb⟩, ⟨_, _, rfl, ⟨c, rfl, hc⟩, ⟨_, _, rfl, ⟨d, rfl, hd⟩, ⟨_, _, rfl, ⟨e, rfl⟩, ⟨_, _, rfl, ⟨f, rfl⟩, ⟨_, _, rfl, ⟨g, rfl, hg⟩, ⟨_, _, rfl, ⟨h, rfl, hh⟩, rfl⟩⟩⟩⟩⟩⟩⟩⟩
    simp only [spanB, Bool.and_eq_true] at hg hh
    exact ⟨⟨a, b, c, d, e, f, g.lo, g.hi, h.lo, h.hi⟩, rfl, by simp [roadB, i64_wf ha, i64_wf hb, i64_wf hc, i64_wf hd, hg.1, hg.2, hh.1, hh.2]⟩
theorem opens_mine : Opens Try.prog 53 (fun l => ∃ (p : List Place) (r : List Road), l = [.vec false .place p, .vec false .road r] ∧ (∀ x ∈ p, placeB x = true) ∧ ∀ x ∈ r, roadB x = true) := by
  refine opens_imp (opens_struct (Rs := [isVec .place fun x => placeB x = true, isVec .road fun x => roadB x = true]) Try.underlying53 ?_) ?_
  · exact ⟨rfl, opens_slice (E := .place) (Q := fun x => placeB x = true) Try.underlying50 (by kernel_rfl) opens_place, by kernel_rfl, opens_slice (E := .road) (Q := fun x => roadB x = true) Try.underlying51 (by kernel_rfl) opens_road, by show (_ : Nat) = _; kernel_rfl⟩
  · rintro l ⟨_, _, rfl, ⟨a, rfl, ha⟩, ⟨_, _, rfl, ⟨b, rfl, hb⟩, rfl⟩⟩
    exact ⟨a, b, rfl, ha, hb⟩

/-! ### Arguments -/
def RInt (a : AV) : Prop := ∃ n, a = .one (.int .i64 n) ∧ i64B n = true
def RU8 (a : AV) : Prop := ∃ n, a = .one (.int .u8 n) ∧ u8B n = true
def RU16 (a : AV) : Prop := ∃ n, a = .one (.int .u16 n) ∧ u16B n = true
def RBytes (a : AV) : Prop := ∃ l : List Int, a = .one (.vec false .u8 l) ∧ l.all u8B = true
def RSpan (a : AV) : Prop := ∃ x y, a = .agg [.int .i64 x, .int .i64 y] ∧ i64B x = true ∧ i64B y = true
def RSensor (a : AV) : Prop := ∃ x : Sensor, a = .agg (enc .sensor x) ∧ sensorB x = true
def RSensors (a : AV) : Prop := ∃ l : List Sensor, a = .one (.vec false .sensor l) ∧ l.all sensorB = true
def RSpans (a : AV) : Prop := ∃ l : List Span, a = .one (.vec false .span l) ∧ l.all spanB = true
def RSources (a : AV) : Prop := ∃ l : List Source, a = .one (.vec false .source l) ∧ l.all sourceB = true
def RFrame (a : AV) : Prop := ∃ f : Frame, a = .agg (enc .frame f) ∧ frameB f = true
def RMine (a : AV) : Prop := ∃ (p : List Place) (r : List Road), a = .agg [.vec false .place p, .vec false .road r] ∧ p.all placeB = true ∧ r.all roadB = true
theorem a3 : ArgTy Try.prog 3 RInt := arg_imp (arg_int Try.underlying3) fun a ⟨n, h1, h2⟩ => ⟨n, h1, i64_wf h2⟩
theorem a5 : ArgTy Try.prog 5 RU8 := arg_imp (arg_int Try.underlying5) fun a ⟨n, h1, h2⟩ => ⟨n, h1, u8_wf h2⟩
theorem a49 : ArgTy Try.prog 49 RU16 := arg_imp (arg_int Try.underlying49) fun a ⟨n, h1, h2⟩ => ⟨n, h1, u16_wf h2⟩
theorem a22 : ArgTy Try.prog 22 RBytes := arg_imp (arg_slice Try.underlying22 (by kernel_rfl) opens_u8) fun a ⟨n, h1, h2⟩ => ⟨n, h1, List.all_eq_true.2 h2⟩
theorem a24 : ArgTy Try.prog 24 RSpan := arg_imp (arg_struct Try.underlying24 opens_span) fun a ⟨l, h1, x, h2, h3⟩ => by
  simp only [spanB, Bool.and_eq_true] at h3
  exact ⟨x.lo, x.hi, by rw [h1, h2]; rfl, h3.1, h3.2⟩
theorem a35 : ArgTy Try.prog 35 RSensor := arg_imp (arg_struct Try.underlying35 opens_sensor) fun a ⟨l, h1, x, h2, h3⟩ => ⟨x, by rw [h1, h2], h3⟩
theorem a75 : ArgTy Try.prog 75 RFrame := arg_imp (arg_struct Try.underlying75 opens_frame) fun a ⟨l, h1, x, h2, h3⟩ => ⟨x, by rw [h1, h2], h3⟩
theorem a46 : ArgTy Try.prog 46 RSensors := arg_imp (arg_slice (E := .sensor) (Q := fun x => sensorB x = true) Try.underlying46 (by kernel_rfl) opens_sensor) fun a ⟨n, h1, h2⟩ => ⟨n, h1, List.all_eq_true.2 h2⟩
theorem a65 : ArgTy Try.prog 65 RSpans := arg_imp (arg_slice (E := .span) (Q := fun x => spanB x = true) Try.underlying65 (by kernel_rfl) opens_span) fun a ⟨n, h1, h2⟩ => ⟨n, h1, List.all_eq_true.2 h2⟩
theorem a70 : ArgTy Try.prog 70 RSources := arg_imp (arg_slice (E := .source) (Q := fun x => sourceB x = true) Try.underlying70 (by kernel_rfl) opens_source) fun a ⟨n, h1, h2⟩ => ⟨n, h1, List.all_eq_true.2 h2⟩
theorem a53 : ArgTy Try.prog 53 RMine := arg_imp (arg_struct Try.underlying53 opens_mine) fun a ⟨l, h1, p, r, h2, h3, h4⟩ => ⟨p, r, by rw [h1, h2], List.all_eq_true.2 h3, List.all_eq_true.2 h4⟩
end Go.Proofs.Ytipfipnhgpbceaa.Sx
/- What the rows ask of the program's own words (plain theorems). -/


set_option maxRecDepth 100000
namespace Go.Proofs.Ytipfipnhgpbceaa.Sx
open Go
def signs (l : List Nat) : List Char := l.map Char.ofNat
def initCodes : List Nat := [104, 97, 114, 110, 101, 115, 115, 32, 52, 102, 57, 100, 53, 48, 57, 102, 51, 52, 101, 102, 55, 101, 51, 56, 101, 51, 52, 55, 97, 54, 102, 50, 101, 52, 56, 55, 97, 54, 97, 100, 97, 50, 57, 100, 53, 52, 97, 102, 53, 49, 102, 54, 57, 50, 49, 102, 48, 99, 101, 101, 57, 53, 48, 102, 53, 57, 100, 54, 49, 102, 99, 56, 32, 99, 117, 116, 32, 97, 116, 32, 109, 105, 110, 101, 99, 111, 110, 116, 114, 111, 108, 47, 109, 105, 110, 101, 99, 111, 110, 116, 114, 111, 108, 108, 97, 119, 48, 54, 46, 87, 105, 110, 100, 111, 119, 65, 98, 111, 118, 101, 32, 109, 105, 110, 101, 99, 111, 110, 116, 114, 111, 108, 47, 109, 105, 110, 101, 99, 111, 110, 116, 114, 111, 108, 108, 97, 119, 48, 54, 46, 87, 105, 110, 100, 111, 119, 85, 110, 116, 105, 108, 32, 109, 105, 110, 101, 99, 111, 110, 116, 114, 111, 108, 47, 109, 105, 110, 101, 99, 111, 110, 116, 114, 111, 108, 108, 97, 119, 48, 54, 46, 87, 105, 110, 100, 111, 119, 87, 105, 100, 101, 110, 115, 32, 109, 105, 110, 101, 99, 111, 110, 116, 114, 111, 108, 47, 109, 105, 110, 101, 99, 111, 110, 116, 114, 111, 108, 108, 97, 119, 48, 53, 46, 83, 101, 110, 115, 111, 114, 67, 104, 101, 99, 107, 115, 32, 109, 105, 110, 101, 99, 111, 110, 116, 114, 111, 108, 47, 109, 105, 110, 101, 99, 111, 110, 116, 114, 111, 108, 108, 97, 119, 48, 53, 46, 83, 101, 110, 115, 111, 114, 86, 97, 108, 117, 101, 115, 32, 109, 105, 110, 101, 99, 111, 110, 116, 114, 111, 108, 47, 109, 105, 110, 101, 99, 111, 110, 116, 114, 111, 108, 108, 97, 119, 49, 54, 46, 71, 97, 115, 71, 114, 111, 119, 115, 32, 109, 105, 110, 101, 99, 111, 110, 116, 114, 111, 108, 47, 109, 105, 110, 101, 99, 111, 110, 116, 114, 111, 108, 108, 97, 119, 48, 53, 46, 83, 101, 110, 115, 111, 114, 68, 101, 99, 111, 100, 101, 115, 32, 109, 105, 110, 101, 99, 111, 110, 116, 114, 111, 108, 47, 109, 105, 110, 101, 99, 111, 110, 116, 114, 111, 108, 108, 97, 119, 49, 54, 46, 71, 97, 115, 65, 100, 100, 115, 32, 109, 105, 110, 101, 99, 111, 110, 116, 114, 111, 108, 47, 109, 105, 110, 101, 99, 111, 110, 116, 114, 111, 108, 108, 97, 119, 48, 53, 46, 83, 101, 110, 115, 111, 114, 84, 114, 117, 101, 32, 109, 105, 110, 101, 99, 111, 110, 116, 114, 111, 108, 47, 109, 105, 110, 101, 99, 111, 110, 116, 114, 111, 108, 108, 97, 119, 48, 53, 46, 83, 101, 110, 115, 111, 114, 70, 97, 117, 108, 116, 115, 32, 109, 105, 110, 101, 99, 111, 110, 116, 114, 111, 108, 47, 109, 105, 110, 101, 99, 111, 110, 116, 114, 111, 108, 108, 97, 119, 48, 54, 46, 87, 105, 110, 100, 111, 119, 84, 111, 103, 101, 116, 104, 101, 114, 32, 109, 105, 110, 101, 99, 111, 110, 116, 114, 111, 108, 47, 109, 105, 110, 101, 99, 111, 110, 116, 114, 111, 108, 108, 97, 119, 48, 54, 46, 87, 105, 110, 100, 111, 119, 77, 101, 101, 116, 115, 32, 109, 105, 110, 101, 99, 111, 110, 116, 114, 111, 108, 47, 109, 105, 110, 101, 99, 111, 110, 116, 114, 111, 108, 108, 97, 119, 48, 53, 46, 83, 101, 110, 115, 111, 114, 82, 97, 119, 32, 109, 105, 110, 101, 99, 111, 110, 116, 114, 111, 108, 47, 109, 105, 110, 101, 99, 111, 110, 116, 114, 111, 108, 108, 97, 119, 48, 53, 46, 83, 101, 110, 115, 111, 114, 66, 97, 99, 107, 32, 109, 105, 110, 101, 99, 111, 110, 116, 114, 111, 108, 47, 109, 105, 110, 101, 99, 111, 110, 116, 114, 111, 108, 108, 97, 119, 49, 52, 46, 82, 101, 99, 105, 114, 99, 117, 108, 97, 116, 101, 87, 97, 121, 115, 32, 109, 105, 110, 101, 99, 111, 110, 116, 114, 111, 108, 47, 109, 105, 110, 101, 99, 111, 110, 116, 114, 111, 108, 108, 97, 119, 49, 52, 46, 82, 101, 99, 105, 114, 99, 117, 108, 97, 116, 101, 70, 105, 110, 100, 115, 32, 109, 105, 110, 101, 99, 111, 110, 116, 114, 111, 108, 47, 109, 105, 110, 101, 99, 111, 110, 116, 114, 111, 108, 108, 97, 119, 49, 52, 46, 82, 101, 99, 105, 114, 99, 117, 108, 97, 116, 101, 84, 114, 117, 101, 32, 109, 105, 110, 101, 99, 111, 110, 116, 114, 111, 108, 47, 109, 105, 110, 101, 99, 111, 110, 116, 114, 111, 108, 108, 97, 119, 49, 52, 46, 82, 101, 99, 105, 114, 99, 117, 108, 97, 116, 101, 87, 105, 100, 101, 114, 32, 109, 105, 110, 101, 99, 111, 110, 116, 114, 111, 108, 47, 109, 105, 110, 101, 99, 111, 110, 116, 114, 111, 108, 108, 97, 119, 49, 52, 46, 82, 101, 99, 105, 114, 99, 117, 108, 97, 116, 101, 77, 105, 120, 101, 115, 32, 109, 105, 110, 101, 99, 111, 110, 116, 114, 111, 108, 47, 109, 105, 110, 101, 99, 111, 110, 116, 114, 111, 108, 108, 97, 119, 49, 54, 46, 71, 97, 115, 66, 111, 117, 110, 100, 115, 32, 109, 105, 110, 101, 99, 111, 110, 116, 114, 111, 108, 47, 109, 105, 110, 101, 99, 111, 110, 116, 114, 111, 108, 108, 97, 119, 49, 54, 46, 71, 97, 115, 65, 110, 121, 77, 105, 110, 101, 32, 109, 105, 110, 101, 99, 111, 110, 116, 114, 111, 108, 47, 109, 105, 110, 101, 99, 111, 110, 116, 114, 111, 108, 108, 97, 119, 49, 54, 46, 71, 97, 115, 84, 114, 117, 101]
def initWords : List (List Nat) := [[99, 117, 116], [97, 116], [109, 105, 110, 101, 99, 111, 110, 116, 114, 111, 108, 47, 109, 105, 110, 101, 99, 111, 110, 116, 114, 111, 108, 108, 97, 119, 48, 54, 46, 87, 105, 110, 100, 111, 119, 65, 98, 111, 118, 101], [109, 105, 110, 101, 99, 111, 110, 116, 114, 111, 108, 47, 109, 105, 110, 101, 99, 111, 110, 116, 114, 111, 108, 108, 97, 119, 48, 54, 46, 87, 105, 110, 100, 111, 119, 85, 110, 116, 105, 108], [109, 105, 110, 101, 99, 111, 110, 116, 114, 111, 108, 47, 109, 105, 110, 101, 99, 111, 110, 116, 114, 111, 108, 108, 97, 119, 48, 54, 46, 87, 105, 110, 100, 111, 119, 87, 105, 100, 101, 110, 115], [109, 105, 110, 101, 99, 111, 110, 116, 114, 111, 108, 47, 109, 105, 110, 101, 99, 111, 110, 116, 114, 111, 108, 108, 97, 119, 48, 53, 46, 83, 101, 110, 115, 111, 114, 67, 104, 101, 99, 107, 115], [109, 105, 110, 101, 99, 111, 110, 116, 114, 111, 108, 47, 109, 105, 110, 101, 99, 111, 110, 116, 114, 111, 108, 108, 97, 119, 48, 53, 46, 83, 101, 110, 115, 111, 114, 86, 97, 108, 117, 101, 115], [109, 105, 110, 101, 99, 111, 110, 116, 114, 111, 108, 47, 109, 105, 110, 101, 99, 111, 110, 116, 114, 111, 108, 108, 97, 119, 49, 54, 46, 71, 97, 115, 71, 114, 111, 119, 115], [109, 105, 110, 101, 99, 111, 110, 116, 114, 111, 108, 47, 109, 105, 110, 101, 99, 111, 110, 116, 114, 111, 108, 108, 97, 119, 48, 53, 46, 83, 101, 110, 115, 111, 114, 68, 101, 99, 111, 100, 101, 115], [109, 105, 110, 101, 99, 111, 110, 116, 114, 111, 108, 47, 109, 105, 110, 101, 99, 111, 110, 116, 114, 111, 108, 108, 97, 119, 49, 54, 46, 71, 97, 115, 65, 100, 100, 115], [109, 105, 110, 101, 99, 111, 110, 116, 114, 111, 108, 47, 109, 105, 110, 101, 99, 111, 110, 116, 114, 111, 108, 108, 97, 119, 48, 53, 46, 83, 101, 110, 115, 111, 114, 84, 114, 117, 101], [109, 105, 110, 101, 99, 111, 110, 116, 114, 111, 108, 47, 109, 105, 110, 101, 99, 111, 110, 116, 114, 111, 108, 108, 97, 119, 48, 53, 46, 83, 101, 110, 115, 111, 114, 70, 97, 117, 108, 116, 115], [109, 105, 110, 101, 99, 111, 110, 116, 114, 111, 108, 47, 109, 105, 110, 101, 99, 111, 110, 116, 114, 111, 108, 108, 97, 119, 48, 54, 46, 87, 105, 110, 100, 111, 119, 84, 111, 103, 101, 116, 104, 101, 114], [109, 105, 110, 101, 99, 111, 110, 116, 114, 111, 108, 47, 109, 105, 110, 101, 99, 111, 110, 116, 114, 111, 108, 108, 97, 119, 48, 54, 46, 87, 105, 110, 100, 111, 119, 77, 101, 101, 116, 115], [109, 105, 110, 101, 99, 111, 110, 116, 114, 111, 108, 47, 109, 105, 110, 101, 99, 111, 110, 116, 114, 111, 108, 108, 97, 119, 48, 53, 46, 83, 101, 110, 115, 111, 114, 82, 97, 119], [109, 105, 110, 101, 99, 111, 110, 116, 114, 111, 108, 47, 109, 105, 110, 101, 99, 111, 110, 116, 114, 111, 108, 108, 97, 119, 48, 53, 46, 83, 101, 110, 115, 111, 114, 66, 97, 99, 107], [109, 105, 110, 101, 99, 111, 110, 116, 114, 111, 108, 47, 109, 105, 110, 101, 99, 111, 110, 116, 114, 111, 108, 108, 97, 119, 49, 52, 46, 82, 101, 99, 105, 114, 99, 117, 108, 97, 116, 101, 87, 97, 121, 115], [109, 105, 110, 101, 99, 111, 110, 116, 114, 111, 108, 47, 109, 105, 110, 101, 99, 111, 110, 116, 114, 111, 108, 108, 97, 119, 49, 52, 46, 82, 101, 99, 105, 114, 99, 117, 108, 97, 116, 101, 70, 105, 110, 100, 115], [109, 105, 110, 101, 99, 111, 110, 116, 114, 111, 108, 47, 109, 105, 110, 101, 99, 111, 110, 116, 114, 111, 108, 108, 97, 119, 49, 52, 46, 82, 101, 99, 105, 114, 99, 117, 108, 97, 116, 101, 84, 114, 117, 101], [109, 105, 110, 101, 99, 111, 110, 116, 114, 111, 108, 47, 109, 105, 110, 101, 99, 111, 110, 116, 114, 111, 108, 108, 97, 119, 49, 52, 46, 82, 101, 99, 105, 114, 99, 117, 108, 97, 116, 101, 87, 105, 100, 101, 114], [109, 105, 110, 101, 99, 111, 110, 116, 114, 111, 108, 47, 109, 105, 110, 101, 99, 111, 110, 116, 114, 111, 108, 108, 97, 119, 49, 52, 46, 82, 101, 99, 105, 114, 99, 117, 108, 97, 116, 101, 77, 105, 120, 101, 115], [109, 105, 110, 101, 99, 111, 110, 116, 114, 111, 108, 47, 109, 105, 110, 101, 99, 111, 110, 116, 114, 111, 108, 108, 97, 119, 49, 54, 46, 71, 97, 115, 66, 111, 117, 110, 100, 115], [109, 105, 110, 101, 99, 111, 110, 116, 114, 111, 108, 47, 109, 105, 110, 101, 99, 111, 110, 116, 114, 111, 108, 108, 97, 119, 49, 54, 46, 71, 97, 115, 65, 110, 121, 77, 105, 110, 101], [109, 105, 110, 101, 99, 111, 110, 116, 114, 111, 108, 47, 109, 105, 110, 101, 99, 111, 110, 116, 114, 111, 108, 108, 97, 119, 49, 54, 46, 71, 97, 115, 84, 114, 117, 101]]
def initText : String := "harness 4f9d509f34ef7e38e347a6f2e487a6ada29d54af51f6921f0cee950f59d61fc8 cut at minecontrol/minecontrollaw06.WindowAbove minecontrol/minecontrollaw06.WindowUntil minecontrol/minecontrollaw06.WindowWidens minecontrol/minecontrollaw05.SensorChecks minecontrol/minecontrollaw05.SensorValues minecontrol/minecontrollaw16.GasGrows minecontrol/minecontrollaw05.SensorDecodes minecontrol/minecontrollaw16.GasAdds minecontrol/minecontrollaw05.SensorTrue minecontrol/minecontrollaw05.SensorFaults minecontrol/minecontrollaw06.WindowTogether minecontrol/minecontrollaw06.WindowMeets minecontrol/minecontrollaw05.SensorRaw minecontrol/minecontrollaw05.SensorBack minecontrol/minecontrollaw14.RecirculateWays minecontrol/minecontrollaw14.RecirculateFinds minecontrol/minecontrollaw14.RecirculateTrue minecontrol/minecontrollaw14.RecirculateWider minecontrol/minecontrollaw14.RecirculateMixes minecontrol/minecontrollaw16.GasBounds minecontrol/minecontrollaw16.GasAnyMine minecontrol/minecontrollaw16.GasTrue"
theorem init_text : Try.prog.initOrder = initText := by kernel_rfl
def initList : List Char := [Char.ofNat 104, Char.ofNat 97, Char.ofNat 114, Char.ofNat 110, Char.ofNat 101, Char.ofNat 115, Char.ofNat 115, Char.ofNat 32, Char.ofNat 52, Char.ofNat 102, Char.ofNat 57, Char.ofNat 100, Char.ofNat 53, Char.ofNat 48, Char.ofNat 57, Char.ofNat 102, Char.ofNat 51, Char.ofNat 52, Char.ofNat 101, Char.ofNat 102, Char.ofNat 55, Char.ofNat 101, Char.ofNat 51, Char.ofNat 56, Char.ofNat 101, Char.ofNat 51, Char.ofNat 52, Char.ofNat 55, Char.ofNat 97, Char.ofNat 54, Char.ofNat 102, Char.ofNat 50, Char.ofNat 101, Char.ofNat 52, Char.ofNat 56, Char.ofNat 55, Char.ofNat 97, Char.ofNat 54, Char.ofNat 97, Char.ofNat 100, Char.ofNat 97, Char.ofNat 50, Char.ofNat 57, Char.ofNat 100, Char.ofNat 53, Char.ofNat 52, Char.ofNat 97, Char.ofNat 102, Char.ofNat 53, Char.ofNat 49, Char.ofNat 102, Char.ofNat 54, Char.ofNat 57, Char.ofNat 50, Char.ofNat 49, Char.ofNat 102, Char.ofNat 48, Char.ofNat 99, Char.ofNat 101, Char.ofNat 101, Char.ofNat 57, Char.ofNat 53, Char.ofNat 48, Char.ofNat 102, Char.ofNat 53, Char.ofNat 57, Char.ofNat 100, Char.ofNat 54, Char.ofNat 49, Char.ofNat 102, Char.ofNat 99, Char.ofNat 56, Char.ofNat 32, Char.ofNat 99, Char.ofNat 117, Char.ofNat 116, Char.ofNat 32, Char.ofNat 97, Char.ofNat 116, Char.ofNat 32, Char.ofNat 109, Char.ofNat 105, Char.ofNat 110, Char.ofNat 101, Char.ofNat 99, Char.ofNat 111, Char.ofNat 110, Char.ofNat 116, Char.ofNat 114, Char.ofNat 111, Char.ofNat 108, Char.ofNat 47, Char.ofNat 109, Char.ofNat 105, Char.ofNat 110, Char.ofNat 101, Char.ofNat 99, Char.ofNat 111, Char.ofNat 110, Char.ofNat 116, Char.ofNat 114, Char.ofNat 111, Char.ofNat 108, Char.ofNat 108, Char.ofNat 97, Char.ofNat 119, Char.ofNat 48, Char.ofNat 54, Char.ofNat 46, Char.ofNat 87, Char.ofNat 105, Char.ofNat 110, Char.ofNat 100, Char.ofNat 111, Char.ofNat 119, Char.ofNat 65, Char.ofNat 98, Char.ofNat 111, Char.ofNat 118, Char.ofNat 101, Char.ofNat 32, Char.ofNat 109, Char.ofNat 105, Char.ofNat 110, Char.ofNat 101, Char.ofNat 99, Char.ofNat 111, Char.ofNat 110, Char.ofNat 116, Char.ofNat 114, Char.ofNat 111, Char.ofNat 108, Char.ofNat 47, Char.ofNat 109, Char.ofNat 105, Char.ofNat 110, Char.ofNat 101, Char.ofNat 99, Char.ofNat 111, Char.ofNat 110, Char.ofNat 116, Char.ofNat 114, Char.ofNat 111, Char.ofNat 108, Char.ofNat 108, Char.ofNat 97, Char.ofNat 119, Char.ofNat 48, Char.ofNat 54, Char.ofNat 46, Char.ofNat 87, Char.ofNat 105, Char.ofNat 110, Char.ofNat 100, Char.ofNat 111, Char.ofNat 119, Char.ofNat 85, Char.ofNat 110, Char.ofNat 116, Char.ofNat 105, Char.ofNat 108, Char.ofNat 32, Char.ofNat 109, Char.ofNat 105, Char.ofNat 110, Char.ofNat 101, Char.ofNat 99, Char.ofNat 111, Char.ofNat 110, Char.ofNat 116, Char.ofNat 114, Char.ofNat 111, Char.ofNat 108, Char.ofNat 47, Char.ofNat 109, Char.ofNat 105, Char.ofNat 110, Char.ofNat 101, Char.ofNat 99, Char.ofNat 111, Char.ofNat 110, Char.ofNat 116, Char.ofNat 114, Char.ofNat 111, Char.ofNat 108, Char.ofNat 108, Char.ofNat 97, Char.ofNat 119, Char.ofNat 48, Char.ofNat 54, Char.ofNat 46, Char.ofNat 87, Char.ofNat 105, Char.ofNat 110, Char.ofNat 100, Char.ofNat 111, Char.ofNat 119, Char.ofNat 87, Char.ofNat 105, Char.ofNat 100, Char.ofNat 101, Char.ofNat 110, Char.ofNat 115, Char.ofNat 32, Char.ofNat 109, Char.ofNat 105, Char.ofNat 110, Char.ofNat 101, Char.ofNat 99, Char.ofNat 111, Char.ofNat 110, Char.ofNat 116, Char.ofNat 114, Char.ofNat 111, Char.ofNat 108, Char.ofNat 47, Char.ofNat 109, Char.ofNat 105, Char.ofNat 110, Char.ofNat 101, Char.ofNat 99, Char.ofNat 111, Char.ofNat 110, Char.ofNat 116, Char.ofNat 114, Char.ofNat 111, Char.ofNat 108, Char.ofNat 108, Char.ofNat 97, Char.ofNat 119, Char.ofNat 48, Char.ofNat 53, Char.ofNat 46, Char.ofNat 83, Char.ofNat 101, Char.ofNat 110, Char.ofNat 115, Char.ofNat 111, Char.ofNat 114, Char.ofNat 67, Char.ofNat 104, Char.ofNat 101, Char.ofNat 99, Char.ofNat 107, Char.ofNat 115, Char.ofNat 32, Char.ofNat 109, Char.ofNat 105, Char.ofNat 110, Char.ofNat 101, Char.ofNat 99, Char.ofNat 111, Char.ofNat 110, Char.ofNat 116, Char.ofNat 114, Char.ofNat 111, Char.ofNat 108, Char.ofNat 47, Char.ofNat 109, Char.ofNat 105, Char.ofNat 110, Char.ofNat 101, Char.ofNat 99, Char.ofNat 111, Char.ofNat 110, Char.ofNat 116, Char.ofNat 114, Char.ofNat 111, Char.ofNat 108, Char.ofNat 108, Char.ofNat 97, Char.ofNat 119, Char.ofNat 48, Char.ofNat 53, Char.ofNat 46, Char.ofNat 83, Char.ofNat 101, Char.ofNat 110, Char.ofNat 115, Char.ofNat 111, Char.ofNat 114, Char.ofNat 86, Char.ofNat 97, Char.ofNat 108, Char.ofNat 117, Char.ofNat 101, Char.ofNat 115, Char.ofNat 32, Char.ofNat 109, Char.ofNat 105, Char.ofNat 110, Char.ofNat 101, Char.ofNat 99, Char.ofNat 111, Char.ofNat 110, Char.ofNat 116, Char.ofNat 114, Char.ofNat 111, Char.ofNat 108, Char.ofNat 47, Char.ofNat 109, Char.ofNat 105, Char.ofNat 110, Char.ofNat 101, Char.ofNat 99, Char.ofNat 111, Char.ofNat 110, Char.ofNat 116, Char.ofNat 114, Char.ofNat 111, Char.ofNat 108, Char.ofNat 108, Char.ofNat 97, Char.ofNat 119, Char.ofNat 49, Char.ofNat 54, Char.ofNat 46, Char.ofNat 71, Char.ofNat 97, Char.ofNat 115, Char.ofNat 71, Char.ofNat 114, Char.ofNat 111, Char.ofNat 119, Char.ofNat 115, Char.ofNat 32, Char.ofNat 109, Char.ofNat 105, Char.ofNat 110, Char.ofNat 101, Char.ofNat 99, Char.ofNat 111, Char.ofNat 110, Char.ofNat 116, Char.ofNat 114, Char.ofNat 111, Char.ofNat 108, Char.ofNat 47, Char.ofNat 109, Char.ofNat 105, Char.ofNat 110, Char.ofNat 101, Char.ofNat 99, Char.ofNat 111, Char.ofNat 110, Char.ofNat 116, Char.ofNat 114, Char.ofNat 111, Char.ofNat 108, Char.ofNat 108, Char.ofNat 97, Char.ofNat 119, Char.ofNat 48, Char.ofNat 53, Char.ofNat 46, Char.ofNat 83, Char.ofNat 101, Char.ofNat 110, Char.ofNat 115, Char.ofNat 111, Char.ofNat 114, Char.ofNat 68, Char.ofNat 101, Char.ofNat 99, Char.ofNat 111, Char.ofNat 100, Char.ofNat 101, Char.ofNat 115, Char.ofNat 32, Char.ofNat 109, Char.ofNat 105, Char.ofNat 110, Char.ofNat 101, Char.ofNat 99, Char.ofNat 111, Char.ofNat 110, Char.ofNat 116, Char.ofNat 114, Char.ofNat 111, Char.ofNat 108, Char.ofNat 47, Char.ofNat 109, Char.ofNat 105, Char.ofNat 110, Char.ofNat 101, Char.ofNat 99, Char.ofNat 111, Char.ofNat 110, Char.ofNat 116, Char.ofNat 114, Char.ofNat 111, Char.ofNat 108, Char.ofNat 108, Char.ofNat 97, Char.ofNat 119, Char.ofNat 49, Char.ofNat 54, Char.ofNat 46, Char.ofNat 71, Char.ofNat 97, Char.ofNat 115, Char.ofNat 65, Char.ofNat 100, Char.ofNat 100, Char.ofNat 115, Char.ofNat 32, Char.ofNat 109, Char.ofNat 105, Char.ofNat 110, Char.ofNat 101, Char.ofNat 99, Char.ofNat 111, Char.ofNat 110, Char.ofNat 116, Char.ofNat 114, Char.ofNat 111, Char.ofNat 108, Char.ofNat 47, Char.ofNat 109, Char.ofNat 105, Char.ofNat 110, Char.ofNat 101, Char.ofNat 99, Char.ofNat 111, Char.ofNat 110, Char.ofNat 116, Char.ofNat 114, Char.ofNat 111, Char.ofNat 108, Char.ofNat 108, Char.ofNat 97, Char.ofNat 119, Char.ofNat 48, Char.ofNat 53, Char.ofNat 46, Char.ofNat 83, Char.ofNat 101, Char.ofNat 110, Char.ofNat 115, Char.ofNat 111, Char.ofNat 114, Char.ofNat 84, Char.ofNat 114, Char.ofNat 117, Char.ofNat 101, Char.ofNat 32, Char.ofNat 109, Char.ofNat 105, Char.ofNat 110, Char.ofNat 101, Char.ofNat 99, Char.ofNat 111, Char.ofNat 110, Char.ofNat 116, Char.ofNat 114, Char.ofNat 111, Char.ofNat 108, Char.ofNat 47, Char.ofNat 109, Char.ofNat 105, Char.ofNat 110, Char.ofNat 101, Char.ofNat 99, Char.ofNat 111, Char.ofNat 110, Char.ofNat 116, Char.ofNat 114, Char.ofNat 111, Char.ofNat 108, Char.ofNat 108, Char.ofNat 97, Char.ofNat 119, Char.ofNat 48, Char.ofNat 53, Char.ofNat 46, Char.ofNat 83, Char.ofNat 101, Char.ofNat 110, Char.ofNat 115, Char.ofNat 111, Char.ofNat 114, Char.ofNat 70, Char.ofNat 97, Char.ofNat 117, Char.ofNat 108, Char.ofNat 116, Char.ofNat 115, Char.ofNat 32, Char.ofNat 109, Char.ofNat 105, Char.ofNat 110, Char.ofNat 101, Char.ofNat 99, Char.ofNat 111, Char.ofNat 110, Char.ofNat 116, Char.ofNat 114, Char.ofNat 111, Char.ofNat 108, Char.ofNat 47, Char.ofNat 109, Char.ofNat 105, Char.ofNat 110, Char.ofNat 101, Char.ofNat 99, Char.ofNat 111, Char.ofNat 110, Char.ofNat 116, Char.ofNat 114, Char.ofNat 111, Char.ofNat 108, Char.ofNat 108, Char.ofNat 97, Char.ofNat 119, Char.ofNat 48, Char.ofNat 54, Char.ofNat 46, Char.ofNat 87, Char.ofNat 105, Char.ofNat 110, Char.ofNat 100, Char.ofNat 111, Char.ofNat 119, Char.ofNat 84, Char.ofNat 111, Char.ofNat 103, Char.ofNat 101, Char.ofNat 116, Char.ofNat 104, Char.ofNat 101, Char.ofNat 114, Char.ofNat 32, Char.ofNat 109, Char.ofNat 105, Char.ofNat 110, Char.ofNat 101, Char.ofNat 99, Char.ofNat 111, Char.ofNat 110, Char.ofNat 116, Char.ofNat 114, Char.ofNat 111, Char.ofNat 108, Char.ofNat 47, Char.ofNat 109, Char.ofNat 105, Char.ofNat 110, Char.ofNat 101, Char.ofNat 99, Char.ofNat 111, Char.ofNat 110, Char.ofNat 116, Char.ofNat 114, Char.ofNat 111, Char.ofNat 108, Char.ofNat 108, Char.ofNat 97, Char.ofNat 119, Char.ofNat 48, Char.ofNat 54, Char.ofNat 46, Char.ofNat 87, Char.ofNat 105, Char.ofNat 110, Char.ofNat 100, Char.ofNat 111, Char.ofNat 119, Char.ofNat 77, Char.ofNat 101, Char.ofNat 101, Char.ofNat 116, Char.ofNat 115, Char.ofNat 32, Char.ofNat 109, Char.ofNat 105, Char.ofNat 110, Char.ofNat 101, Char.ofNat 99, Char.ofNat 111, Char.ofNat 110, Char.ofNat 116, Char.ofNat 114, Char.ofNat 111, Char.ofNat 108, Char.ofNat 47, Char.ofNat 109, Char.ofNat 105, Char.ofNat 110, Char.ofNat 101, Char.ofNat 99, Char.ofNat 111, Char.ofNat 110, Char.ofNat 116, Char.ofNat 114, Char.ofNat 111, Char.ofNat 108, Char.ofNat 108, Char.ofNat 97, Char.ofNat 119, Char.ofNat 48, Char.ofNat 53, Char.ofNat 46, Char.ofNat 83, Char.ofNat 101, Char.ofNat 110, Char.ofNat 115, Char.ofNat 111, Char.ofNat 114, Char.ofNat 82, Char.ofNat 97, Char.ofNat 119, Char.ofNat 32, Char.ofNat 109, Char.ofNat 105, Char.ofNat 110, Char.ofNat 101, Char.ofNat 99, Char.ofNat 111, Char.ofNat 110, Char.ofNat 116, Char.ofNat 114, Char.ofNat 111, Char.ofNat 108, Char.ofNat 47, Char.ofNat 109, Char.ofNat 105, Char.ofNat 110, Char.ofNat 101, Char.ofNat 99, Char.ofNat 111, Char.ofNat 110, Char.ofNat 116, Char.ofNat 114, Char.ofNat 111, Char.ofNat 108, Char.ofNat 108, Char.ofNat 97, Char.ofNat 119, Char.ofNat 48, Char.ofNat 53, Char.ofNat 46, Char.ofNat 83, Char.ofNat 101, Char.ofNat 110, Char.ofNat 115, Char.ofNat 111, Char.ofNat 114, Char.ofNat 66, Char.ofNat 97, Char.ofNat 99, Char.ofNat 107, Char.ofNat 32, Char.ofNat 109, Char.ofNat 105, Char.ofNat 110, Char.ofNat 101, Char.ofNat 99, Char.ofNat 111, Char.ofNat 110, Char.ofNat 116, Char.ofNat 114, Char.ofNat 111, Char.ofNat 108, Char.ofNat 47, Char.ofNat 109, Char.ofNat 105, Char.ofNat 110, Char.ofNat 101, Char.ofNat 99, Char.ofNat 111, Char.ofNat 110, Char.ofNat 116, Char.ofNat 114, Char.ofNat 111, Char.ofNat 108, Char.ofNat 108, Char.ofNat 97, Char.ofNat 119, Char.ofNat 49, Char.ofNat 52, Char.ofNat 46, Char.ofNat 82, Char.ofNat 101, Char.ofNat 99, Char.ofNat 105, Char.ofNat 114, Char.ofNat 99, Char.ofNat 117, Char.ofNat 108, Char.ofNat 97, Char.ofNat 116, Char.ofNat 101, Char.ofNat 87, Char.ofNat 97, Char.ofNat 121, Char.ofNat 115, Char.ofNat 32, Char.ofNat 109, Char.ofNat 105, Char.ofNat 110, Char.ofNat 101, Char.ofNat 99, Char.ofNat 111, Char.ofNat 110, Char.ofNat 116, Char.ofNat 114, Char.ofNat 111, Char.ofNat 108, Char.ofNat 47, Char.ofNat 109, Char.ofNat 105, Char.ofNat 110, Char.ofNat 101, Char.ofNat 99, Char.ofNat 111, Char.ofNat 110, Char.ofNat 116, Char.ofNat 114, Char.ofNat 111, Char.ofNat 108, Char.ofNat 108, Char.ofNat 97, Char.ofNat 119, Char.ofNat 49, Char.ofNat 52, Char.ofNat 46, Char.ofNat 82, Char.ofNat 101, Char.ofNat 99, Char.ofNat 105, Char.ofNat 114, Char.ofNat 99, Char.ofNat 117, Char.ofNat 108, Char.ofNat 97, Char.ofNat 116, Char.ofNat 101, Char.ofNat 70, Char.ofNat 105, Char.ofNat 110, Char.ofNat 100, Char.ofNat 115, Char.ofNat 32, Char.ofNat 109, Char.ofNat 105, Char.ofNat 110, Char.ofNat 101, Char.ofNat 99, Char.ofNat 111, Char.ofNat 110, Char.ofNat 116, Char.ofNat 114, Char.ofNat 111, Char.ofNat 108, Char.ofNat 47, Char.ofNat 109, Char.ofNat 105, Char.ofNat 110, Char.ofNat 101, Char.ofNat 99, Char.ofNat 111, Char.ofNat 110, Char.ofNat 116, Char.ofNat 114, Char.ofNat 111, Char.ofNat 108, Char.ofNat 108, Char.ofNat 97, Char.ofNat 119, Char.ofNat 49, Char.ofNat 52, Char.ofNat 46, Char.ofNat 82, Char.ofNat 101, Char.ofNat 99, Char.ofNat 105, Char.ofNat 114, Char.ofNat 99, Char.ofNat 117, Char.ofNat 108, Char.ofNat 97, Char.ofNat 116, Char.ofNat 101, Char.ofNat 84, Char.ofNat 114, Char.ofNat 117, Char.ofNat 101, Char.ofNat 32, Char.ofNat 109, Char.ofNat 105, Char.ofNat 110, Char.ofNat 101, Char.ofNat 99, Char.ofNat 111, Char.ofNat 110, Char.ofNat 116, Char.ofNat 114, Char.ofNat 111, Char.ofNat 108, Char.ofNat 47, Char.ofNat 109, Char.ofNat 105, Char.ofNat 110, Char.ofNat 101, Char.ofNat 99, Char.ofNat 111, Char.ofNat 110, Char.ofNat 116, Char.ofNat 114, Char.ofNat 111, Char.ofNat 108, Char.ofNat 108, Char.ofNat 97, Char.ofNat 119, Char.ofNat 49, Char.ofNat 52, Char.ofNat 46, Char.ofNat 82, Char.ofNat 101, Char.ofNat 99, Char.ofNat 105, Char.ofNat 114, Char.ofNat 99, Char.ofNat 117, Char.ofNat 108, Char.ofNat 97, Char.ofNat 116, Char.ofNat 101, Char.ofNat 87, Char.ofNat 105, Char.ofNat 100, Char.ofNat 101, Char.ofNat 114, Char.ofNat 32, Char.ofNat 109, Char.ofNat 105, Char.ofNat 110, Char.ofNat 101, Char.ofNat 99, Char.ofNat 111, Char.ofNat 110, Char.ofNat 116, Char.ofNat 114, Char.ofNat 111, Char.ofNat 108, Char.ofNat 47, Char.ofNat 109, Char.ofNat 105, Char.ofNat 110, Char.ofNat 101, Char.ofNat 99, Char.ofNat 111, Char.ofNat 110, Char.ofNat 116, Char.ofNat 114, Char.ofNat 111, Char.ofNat 108, Char.ofNat 108, Char.ofNat 97, Char.ofNat 119, Char.ofNat 49, Char.ofNat 52, Char.ofNat 46, Char.ofNat 82, Char.ofNat 101, Char.ofNat 99, Char.ofNat 105, Char.ofNat 114, Char.ofNat 99, Char.ofNat 117, Char.ofNat 108, Char.ofNat 97, Char.ofNat 116, Char.ofNat 101, Char.ofNat 77, Char.ofNat 105, Char.ofNat 120, Char.ofNat 101, Char.ofNat 115, Char.ofNat 32, Char.ofNat 109, Char.ofNat 105, Char.ofNat 110, Char.ofNat 101, Char.ofNat 99, Char.ofNat 111, Char.ofNat 110, Char.ofNat 116, Char.ofNat 114, Char.ofNat 111, Char.ofNat 108, Char.ofNat 47, Char.ofNat 109, Char.ofNat 105, Char.ofNat 110, Char.ofNat 101, Char.ofNat 99, Char.ofNat 111, Char.ofNat 110, Char.ofNat 116, Char.ofNat 114, Char.ofNat 111, Char.ofNat 108, Char.ofNat 108, Char.ofNat 97, Char.ofNat 119, Char.ofNat 49, Char.ofNat 54, Char.ofNat 46, Char.ofNat 71, Char.ofNat 97, Char.ofNat 115, Char.ofNat 66, Char.ofNat 111, Char.ofNat 117, Char.ofNat 110, Char.ofNat 100, Char.ofNat 115, Char.ofNat 32, Char.ofNat 109, Char.ofNat 105, Char.ofNat 110, Char.ofNat 101, Char.ofNat 99, Char.ofNat 111, Char.ofNat 110, Char.ofNat 116, Char.ofNat 114, Char.ofNat 111, Char.ofNat 108, Char.ofNat 47, Char.ofNat 109, Char.ofNat 105, Char.ofNat 110, Char.ofNat 101, Char.ofNat 99, Char.ofNat 111, Char.ofNat 110, Char.ofNat 116, Char.ofNat 114, Char.ofNat 111, Char.ofNat 108, Char.ofNat 108, Char.ofNat 97, Char.ofNat 119, Char.ofNat 49, Char.ofNat 54, Char.ofNat 46, Char.ofNat 71, Char.ofNat 97, Char.ofNat 115, Char.ofNat 65, Char.ofNat 110, Char.ofNat 121, Char.ofNat 77, Char.ofNat 105, Char.ofNat 110, Char.ofNat 101, Char.ofNat 32, Char.ofNat 109, Char.ofNat 105, Char.ofNat 110, Char.ofNat 101, Char.ofNat 99, Char.ofNat 111, Char.ofNat 110, Char.ofNat 116, Char.ofNat 114, Char.ofNat 111, Char.ofNat 108, Char.ofNat 47, Char.ofNat 109, Char.ofNat 105, Char.ofNat 110, Char.ofNat 101, Char.ofNat 99, Char.ofNat 111, Char.ofNat 110, Char.ofNat 116, Char.ofNat 114, Char.ofNat 111, Char.ofNat 108, Char.ofNat 108, Char.ofNat 97, Char.ofNat 119, Char.ofNat 49, Char.ofNat 54, Char.ofNat 46, Char.ofNat 71, Char.ofNat 97, Char.ofNat 115, Char.ofNat 84, Char.ofNat 114, Char.ofNat 117, Char.ofNat 101]
theorem init_ofList : initText = String.ofList initList := by
  unfold initText initList
  kernel_rfl
theorem init_signs : initList = signs initCodes := by kernel_rfl
theorem init_list : Try.prog.initOrder.toList = signs initCodes := by rw [init_text, init_ofList, String.toList_ofList, init_signs]
def sp : Char := Char.ofNat 32
theorem words_one : ∀ (w : List Char), (∀ c ∈ w, c ≠ sp) → wordsSigns w = [w]
  | [], _ => rfl
  | c :: w, h => by
    have hc : c ≠ sp := h c (by simp)
    have ih := words_one w fun x hx => h x (by simp [hx])
    rw [wordsSigns.eq_3 c w (fun e => hc e)]
    rw [ih]
theorem words_more : ∀ (w r : List Char), (∀ c ∈ w, c ≠ sp) → wordsSigns (w ++ sp :: r) = w :: wordsSigns r
  | [], r, _ => rfl
  | c :: w, r, h => by
    have hc : c ≠ sp := h c (by simp)
    have ih := words_more w r fun x hx => h x (by simp [hx])
    rw [List.cons_append, wordsSigns.eq_3 c (w ++ sp :: r) (fun e => hc e)]
    rw [ih]
def joinW : List (List Char) → List Char
  | [] => []
  | [w] => w
  | w :: v :: r => w ++ sp :: joinW (v :: r)
theorem words_join : ∀ (l : List (List Char)), l ≠ [] → (∀ w ∈ l, ∀ c ∈ w, c ≠ sp) → wordsSigns (joinW l) = l
  | [], h, _ => absurd rfl h
  | [w], _, h => words_one w (h w (by simp))
  | w :: v :: r, _, h => by
    rw [joinW, words_more w _ (h w (by simp)), words_join (v :: r) (by simp) fun x hx => h x (by simp [hx])]
def goodB (l : List (List Nat)) : Bool := l.all fun w => w.all fun n => decide (33 ≤ n) && decide (n < 128)
theorem goodB_ok {l : List (List Nat)} (h : goodB l = true) : ∀ w ∈ l.map signs, ∀ c ∈ w, c ≠ sp := by
  intro w hw c hc e
  obtain ⟨w', hw', rfl⟩ := List.mem_map.1 hw
  obtain ⟨n, hn, rfl⟩ := List.mem_map.1 hc
  have h1 := List.all_eq_true.1 (List.all_eq_true.1 h w' hw') n hn
  simp only [Bool.and_eq_true, decide_eq_true_eq] at h1
  have h2 := congrArg Char.toNat e
  have h3 : (Char.ofNat n).toNat = n := by
    have : n.isValidChar := Or.inl (by omega)
    simp [Char.ofNat, this, Char.ofNatAux, Char.toNat]
  rw [h3] at h2
  have h4 : sp.toNat = 32 := rfl
  omega
def initAll : List (List Nat) := [[104, 97, 114, 110, 101, 115, 115], [52, 102, 57, 100, 53, 48, 57, 102, 51, 52, 101, 102, 55, 101, 51, 56, 101, 51, 52, 55, 97, 54, 102, 50, 101, 52, 56, 55, 97, 54, 97, 100, 97, 50, 57, 100, 53, 52, 97, 102, 53, 49, 102, 54, 57, 50, 49, 102, 48, 99, 101, 101, 57, 53, 48, 102, 53, 57, 100, 54, 49, 102, 99, 56]] ++ initWords
theorem join_eq : signs initCodes = joinW (initAll.map signs) := by kernel_rfl
theorem words_list : wordsSigns (signs initCodes) = initAll.map signs := by
  rw [join_eq]
  exact words_join _ (by simp [initAll]) (goodB_ok (by kernel_rfl))
theorem behind_eq : behindMainWord (initAll.map signs) = initWords.map signs := by kernel_rfl
theorem words_eq : behindMainWord (wordsSigns Try.prog.initOrder.toList) = initWords.map signs := by rw [init_list, words_list, behind_eq]
theorem make_gen (P : Program) (c : List Char) (rest : List (List Char)) (h : behindMainWord (wordsSigns P.initOrder.toList) = c :: rest) (h1 : (c == "gc".toList || c == "spec".toList) = false) (h2 : (c == "cut".toList) = true) : P.make = some .cut := by
  unfold Program.make
  rw [h]
  simp only [h1, h2, Bool.true_or, Bool.false_eq_true, if_true, if_false]
theorem heads_gen (P : Program) (l : List (List Char)) (h : behindMainWord (wordsSigns P.initOrder.toList) = l) (h1 : (stripLifts liftWords l).1 = []) : P.headLifts = [] := by
  unfold Program.headLifts
  rw [h]
  dsimp only
  split
  · exact h1
  · rfl
theorem lifts_gen (P : Program) (l : List (List Char)) (h : behindMainWord (wordsSigns P.initOrder.toList) = l) (hh : P.headLifts = []) (h1 : (l.head? == some "carried".toList) = false) : P.liftsFinal = false := by
  unfold Program.liftsFinal
  rw [h, hh]
  dsimp only
  rw [h1]
  rfl
theorem enter_gen (P : Program) (c : List Char) (rest : List (List Char)) (h : behindMainWord (wordsSigns P.initOrder.toList) = c :: rest)
    (h1 : (stripLifts liftWords (c :: rest)) = ([], c :: rest)) (h2 : (c == "cut".toList) = true) (h3 : P.laysLater = false) (h4 : P.bearsReflect = false) (h5 : P.doorFits [] = true) : P.mayEnter = true := by
  unfold Program.mayEnter
  rw [h]
  dsimp only
  rw [h1, h3, h4, h5]
  have h6 : c = "cut".toList := by simpa using h2
  subst h6
  simp
def cutSigns : List Char := signs [99, 117, 116]
theorem words_cons : behindMainWord (wordsSigns Try.prog.initOrder.toList) = cutSigns :: (initWords.tail.map signs) := words_eq
theorem strip_eq : stripLifts liftWords (cutSigns :: (initWords.tail.map signs)) = ([], cutSigns :: (initWords.tail.map signs)) := by kernel_rfl
theorem make_eq : Try.prog.make = some .cut := make_gen _ _ _ words_cons (by kernel_rfl) (by kernel_rfl)
theorem heads_eq : Try.prog.headLifts = [] := heads_gen _ _ words_cons (congrArg Prod.fst strip_eq)
theorem lifts_eq : Try.prog.liftsFinal = false := lifts_gen _ _ words_cons heads_eq (by kernel_rfl)
theorem enter_eq : Try.prog.mayEnter = true := enter_gen _ _ _ words_cons strip_eq (by kernel_rfl) (by kernel_rfl) (by kernel_rfl) (by kernel_rfl)
end Go.Proofs.Ytipfipnhgpbceaa.Sx
