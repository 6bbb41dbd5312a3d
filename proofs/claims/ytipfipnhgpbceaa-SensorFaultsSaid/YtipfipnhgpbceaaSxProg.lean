/- The program's table of types, and what the machine needs to know of the program (plain theorems). -/
import Derived.Test.YtipfipnhgpbceaaSxTypes
import Derived.Test.YtipfipnhgpbceaaRows
import Derived.WalkKit
set_option linter.unusedVariables false
set_option linter.unusedSimpArgs false
namespace Go.Proofs.Ytipfipnhgpbceaa.Sx
open Go Go.RowKit

def tlist : List (TypeId × TI) := [
  (2, ⟨.scal (.int .i64 0), 1, [.int .i64 0]⟩),
  (3, ⟨.scal (.int .i64 0), 1, [.int .i64 0]⟩),
  (4, ⟨.scal (.bool false), 1, [.bool false]⟩),
  (5, ⟨.scal (.int .u8 0), 1, [.int .u8 0]⟩),
  (21, ⟨.scal (.int .i32 0), 1, [.int .i32 0]⟩),
  (22, ⟨.slc .u8, 1, [.nils]⟩),
  (23, ⟨.strct [(0, 3), (1, 3)], 2, [.int .i64 0, .int .i64 0]⟩),
  (24, ⟨.strct [(0, 3), (1, 3)], 2, [.int .i64 0, .int .i64 0]⟩),
  (25, ⟨.strct [(0, 3), (1, 3), (2, 24)], 4, [.int .i64 0, .int .i64 0, .int .i64 0, .int .i64 0]⟩),
  (26, ⟨.strct [(0, 3), (1, 3), (2, 24)], 4, [.int .i64 0, .int .i64 0, .int .i64 0, .int .i64 0]⟩),
  (34, ⟨.strct [(0, 3), (1, 3), (2, 3), (3, 3), (4, 3), (5, 3), (6, 3), (7, 3)], 8, [.int .i64 0, .int .i64 0, .int .i64 0, .int .i64 0, .int .i64 0, .int .i64 0, .int .i64 0, .int .i64 0]⟩),
  (35, ⟨.strct [(0, 3), (1, 3), (2, 3), (3, 3), (4, 3), (5, 3), (6, 3), (7, 3)], 8, [.int .i64 0, .int .i64 0, .int .i64 0, .int .i64 0, .int .i64 0, .int .i64 0, .int .i64 0, .int .i64 0]⟩),
  (43, ⟨.scal (.int .i64 0), 1, [.int .i64 0]⟩),
  (46, ⟨.slc .sensor, 1, [.nils]⟩),
  (49, ⟨.scal (.int .u16 0), 1, [.int .u16 0]⟩),
  (50, ⟨.slc .place, 1, [.nils]⟩),
  (51, ⟨.slc .road, 1, [.nils]⟩),
  (52, ⟨.strct [(0, 50), (1, 51)], 2, [.nils, .nils]⟩),
  (53, ⟨.strct [(0, 50), (1, 51)], 2, [.nils, .nils]⟩),
  (54, ⟨.slc .fan, 1, [.nils]⟩),
  (55, ⟨.slc .door, 1, [.nils]⟩),
  (56, ⟨.strct [(0, 53), (2, 54), (3, 55)], 4, [.nils, .nils, .nils, .nils]⟩),
  (57, ⟨.strct [(0, 53), (2, 54), (3, 55)], 4, [.nils, .nils, .nils, .nils]⟩),
  (58, ⟨.slc .int, 1, [.nils]⟩),
  (59, ⟨.strct [(0, 58), (1, 58)], 2, [.nils, .nils]⟩),
  (60, ⟨.strct [(0, 58), (1, 58)], 2, [.nils, .nils]⟩),
  (61, ⟨.strct [(0, 58), (1, 58)], 2, [.nils, .nils]⟩),
  (62, ⟨.strct [(0, 58), (1, 58)], 2, [.nils, .nils]⟩),
  (65, ⟨.slc .span, 1, [.nils]⟩),
  (68, ⟨.strct [(0, 3), (1, 24)], 3, [.int .i64 0, .int .i64 0, .int .i64 0]⟩),
  (69, ⟨.strct [(0, 3), (1, 24)], 3, [.int .i64 0, .int .i64 0, .int .i64 0]⟩),
  (70, ⟨.slc .source, 1, [.nils]⟩),
  (74, ⟨.strct [(0, 3), (1, 3), (2, 22)], 3, [.int .i64 0, .int .i64 0, .nils]⟩),
  (75, ⟨.strct [(0, 3), (1, 3), (2, 22)], 3, [.int .i64 0, .int .i64 0, .nils]⟩),
  (77, ⟨.slc .frame, 1, [.nils]⟩),
  (78, ⟨.slc .sensors, 1, [.nils]⟩),
  (86, ⟨.scal (.int .u64 0), 1, [.int .u64 0]⟩),
  (89, ⟨.slc .spans, 1, [.nils]⟩),
  (100, ⟨.slc .pair, 1, [.nils]⟩),
  (103, ⟨.arr 2 3, 2, [.int .i64 0, .int .i64 0]⟩),
  (104, ⟨.strct [(0, 3), (1, 3), (2, 3), (3, 3), (4, 4), (5, 4), (6, 24), (8, 24)], 10, [.int .i64 0, .int .i64 0, .int .i64 0, .int .i64 0, .bool false, .bool false, .int .i64 0, .int .i64 0, .int .i64 0, .int .i64 0]⟩),
  (105, ⟨.strct [(0, 3), (1, 3), (2, 3), (3, 3), (4, 4), (5, 4), (6, 24), (8, 24)], 10, [.int .i64 0, .int .i64 0, .int .i64 0, .int .i64 0, .bool false, .bool false, .int .i64 0, .int .i64 0, .int .i64 0, .int .i64 0]⟩),
  (106, ⟨.strct [(0, 3), (1, 4)], 2, [.int .i64 0, .bool false]⟩),
  (107, ⟨.strct [(0, 3), (1, 4)], 2, [.int .i64 0, .bool false]⟩),
  (108, ⟨.slc .bool, 1, [.nils]⟩),
  (116, ⟨.slc .sources, 1, [.nils]⟩),
  (126, ⟨.slc .share, 1, [.nils]⟩),
  (127, ⟨.strct [(0, 3), (1, 3)], 2, [.int .i64 0, .int .i64 0]⟩),
  (128, ⟨.strct [(0, 3), (1, 3)], 2, [.int .i64 0, .int .i64 0]⟩),
  (131, ⟨.strct [(0, 22), (1, 3)], 2, [.nils, .int .i64 0]⟩),
  (132, ⟨.strct [(0, 22), (1, 3)], 2, [.nils, .int .i64 0]⟩),
  (142, ⟨.slc .measure, 1, [.nils]⟩),
  (143, ⟨.slc .point, 1, [.nils]⟩),
  (144, ⟨.strct [(0, 3), (1, 4), (2, 4), (3, 143)], 4, [.int .i64 0, .bool false, .bool false, .nils]⟩),
  (145, ⟨.strct [(0, 3), (1, 4), (2, 4), (3, 143)], 4, [.int .i64 0, .bool false, .bool false, .nils]⟩),
  (146, ⟨.slc .arc, 1, [.nils]⟩),
  (149, ⟨.strct [(0, 3), (1, 3), (2, 3)], 3, [.int .i64 0, .int .i64 0, .int .i64 0]⟩),
  (150, ⟨.strct [(0, 3), (1, 3), (2, 3)], 3, [.int .i64 0, .int .i64 0, .int .i64 0]⟩),
  (166, ⟨.strct [(0, 58), (1, 58)], 2, [.nils, .nils]⟩),
  (167, ⟨.strct [(0, 58), (1, 58)], 2, [.nils, .nils]⟩),
  (172, ⟨.strct [(0, 3), (1, 3), (2, 58)], 3, [.int .i64 0, .int .i64 0, .nils]⟩),
  (173, ⟨.strct [(0, 3), (1, 3), (2, 58)], 3, [.int .i64 0, .int .i64 0, .nils]⟩),
  (189, ⟨.strct [(0, 3), (1, 3)], 2, [.int .i64 0, .int .i64 0]⟩),
  (190, ⟨.strct [(0, 3), (1, 3)], 2, [.int .i64 0, .int .i64 0]⟩),
  (206, ⟨.scal (.int .u32 0), 1, [.int .u32 0]⟩)]

def eqk : TypeId → Option K := fun t => if t == 24 then some .span else if t == 26 then some .measure else none
def env (l : List (FuncId × Spec)) : Env := ⟨lookT tlist, eqk, lookF l⟩

theorem tlist_ok : (tlist.all fun p => tokB Try.prog p.1 p.2) = true := by kernel_rfl
theorem mixed_ok : Try.prog.follows .mixedOrders = true := by kernel_rfl

theorem eq24 (d : Nat) (w : World) (x0 y0 x1 y1 : Int) : (Op.equalIn (d + 2) 24 (.agg #[.int .i64 x0, .int .i64 x1]) (.agg #[.int .i64 y0, .int .i64 y1])).run Try.prog w = .ok (x0 == y0 && (x1 == y1)) w := by
  have h := eqA_of (P := Try.prog) (d := d + 1) (w := w) (xs := #[.int .i64 x0, .int .i64 x1]) (ys := #[.int .i64 y0, .int .i64 y1]) (r := x0 == y0 && (x1 == y1 && true)) Try.underlying24 (by kernel_rfl)
    (eqf_cons (by rfl) (by go_simp) (by go_simp) (eq_int Try.underlying3 _ _ _) (eqf_cons (by rfl) (by go_simp) (by go_simp) (eq_int Try.underlying3 _ _ _) eqf_nil))
  rw [Bool.and_true] at h
  exact h
theorem eq26 (d : Nat) (w : World) (x0 y0 x1 y1 x2 y2 x3 y3 : Int) : (Op.equalIn (d + 3) 26 (.agg #[.int .i64 x0, .int .i64 x1, .int .i64 x2, .int .i64 x3]) (.agg #[.int .i64 y0, .int .i64 y1, .int .i64 y2, .int .i64 y3])).run Try.prog w = .ok (x0 == y0 && (x1 == y1 && (x2 == y2 && (x3 == y3)))) w := by
  have h := eqA_of (P := Try.prog) (d := d + 2) (w := w) (xs := #[.int .i64 x0, .int .i64 x1, .int .i64 x2, .int .i64 x3]) (ys := #[.int .i64 y0, .int .i64 y1, .int .i64 y2, .int .i64 y3]) (r := x0 == y0 && (x1 == y1 && ((x2 == y2 && (x3 == y3)) && true))) Try.underlying26 (by kernel_rfl)
    (eqf_cons (by rfl) (by go_simp) (by go_simp) (eq_int Try.underlying3 _ _ _) (eqf_cons (by rfl) (by go_simp) (by go_simp) (eq_int Try.underlying3 _ _ _)
      (eqf_cons (by rfl) (by go_simp) (by go_simp) (eq24 d w _ _ _ _) eqf_nil)))
  rw [Bool.and_true] at h
  exact h
theorem eqk_ok : ∀ t E, eqk t = some E → QOK Try.prog t E := by
  intro t E h
  unfold eqk at h
  split at h
  · rename_i ht
    have : t = 24 := by simpa using ht
    subst this
    cases h
    refine ⟨by kernel_rfl, fun x y r w hr => ?_⟩
    simp only [eqK, Option.some.injEq] at hr
    subst hr
    exact eq24 9998 w _ _ _ _
  · split at h
    · rename_i ht
      have : t = 26 := by simpa using ht
      subst this
      cases h
      refine ⟨by kernel_rfl, fun x y r w hr => ?_⟩
      simp only [eqK, Option.some.injEq] at hr
      subst hr
      exact eq26 9997 w _ _ _ _ _ _ _ _
    · cases h
theorem env_ok {l : List (FuncId × Spec)} (h : FnsOK Try.prog l) : EnvOK Try.prog (env l) := ⟨lookT_ok tlist_ok, eqk_ok, lookF_ok h⟩
end Go.Proofs.Ytipfipnhgpbceaa.Sx
