/- For every input the law RecirculateMixes returns true, and each argument reads behind the call as it read before. Conditions: none. -/
import Derived.Test.YtipfipnhgpbceaaXe1
import Derived.Test.YtipfipnhgpbceaaXp

import Derived.WalkKit
import Derived.ProofKit
import Derived.OpenShut
import Derived.ShutString
import Derived.ChangeOld
import Derived.Below
import Derived.SizedLaws
set_option linter.unusedVariables false
namespace Go.Proofs.Ytipfipnhgpbceaa.recirculateMixes
open Go Go.ChangeShapes Go.WideShapes Go.ChangeAt Go.RowKit Sx
theorem own : ownKnob Try.prog.godebug = none := by kernel_rfl
theorem laidOut : laidOutB Try.prog = true := by kernel_rfl
set_option maxRecDepth 100000 in
theorem lifted (os : Os) (started : os.Started) (H : Type) (enc : TypeId × Value → H) :
    ReturnsInHanded {} Try.checked os 21 .any (Rows.recirculateMixesSpec.pre6 enc Try.prog Try.f21 Rows.recirculateMixesRow.domain false) (Rows.recirculateMixesSpec.post enc Try.prog Try.f21 false true false false) := by
  refine returnsInHanded_of_change_sized (C := Try.checked) own started (by kernel_rfl) Try.func21
    (ChangeSpec.witness6 (enc := enc) (C := Try.checked) false ⟨#[], #[.slice none 0 0, .slice none 0 0, .agg #[.slice none 0 0, .slice none 0 0]], []⟩ 8 (by kernel_rfl) (by kernel_rfl) (by kernel_rfl) (by kernel_rfl)) ?_
  intro W base args ds gs before hval0 hW hcnd hsz0 _
  have hval : ∀ (j : Nat) t v, Try.f21.params[j]? = some t → args[j]? = some v → Value.okWide Try.prog W .any base t v := hval0
  have hW' := hW
  obtain ⟨p, q, hA0, hV, rfl, hfz, hnd⟩ := hW
  have hA : DataW.TrodAll enc Try.prog W 0 (fun _ => true) true Try.f21.params.toList args.toList ds p := hA0
  rw [Try.params21] at hA hval
  obtain ⟨rfl, rfl⟩ := trodVars_none hV
  obtain ⟨avs, h1, h2⟩ := args_open (Rs := [RBytes, RSpans, RMine]) (show ArgsTy Try.prog [22, 65, 53] [RBytes, RSpans, RMine] from ⟨a22, a65, a53, trivial⟩) hA (fun j t v ht hv => hval j t v (by simpa using ht) (by simpa using hv))
  have hc := law_calls p21 h2 (law21 avs h1)
  have hargs : args.toList.toArray = args := by simp
  rw [hargs] at hc
  refine hc.mono fun e W' ⟨he, bel⟩ => ?_
  subst he
  have hA2 := hA
  obtain ⟨v0, vs0, d0, ds0, p0, q0, e0, rfl, rfl, h0, r0⟩ := trodAll_cons hA2
  obtain ⟨v1, vs1, d1, ds1, p1, q1, e1, rfl, rfl, h1, r1⟩ := trodAll_cons r0
  obtain ⟨v2, vs2, d2, ds2, p2, q2, e2, rfl, rfl, h2, r2⟩ := trodAll_cons r1
  obtain ⟨rfl, rfl, rfl⟩ := trodAll_nil r2
  exact ⟨_, rfl, _, _, _, [], _, [], hW', trodAll_mk1 (shut_bool Try.underlying4 _), args_back laidOut bel (by kernel_rfl) hA, rfl, bel.frame _, fun h => by cases h⟩
theorem facts : joinedFacts Try.prog 21 Try.f21 Rows.recirculateMixesSpec Rows.recirculateMixesRow = true := by
  unfold joinedFacts
  rw [enter_eq, lifts_eq, make_eq]
  kernel_rfl
theorem wrapped : Try.f21.isWrapper Try.prog Rows.recirculateMixesRow.wrapper Rows.recirculateMixesRow.mainSum := by unfold Func.isWrapper; first | (rw [if_pos (by decide +kernel)]; kernel_rfl) | (rw [if_neg (by decide +kernel)]; exact ⟨rfl, rfl⟩)
theorem inst : Try.f21.isInstance Try.prog Rows.recirculateMixesRow.origin Rows.recirculateMixesRow.targs := of_decide_eq_true (by kernel_rfl)
theorem named : Try.prog.funcNamed Rows.recirculateMixesRow.func = some 21 := by kernel_rfl
theorem over : Rows.recirculateMixesRow.holds Try.pinned (OpenSpec.ofChange Rows.recirculateMixesSpec) :=
  OpenClaim.holds_of_wide 21 Try.f21 rfl rfl rfl rfl rfl rfl rfl ⟨rfl, rfl, rfl, rfl, rfl⟩ rfl rfl rfl rfl rfl named Try.func21 facts inst wrapped
    (fun os started H enc _ => lifted os started H enc)
end Go.Proofs.Ytipfipnhgpbceaa.recirculateMixes
namespace Go.Proofs.Ytipfipnhgpbceaa
/-- The row, under a short name, for the claim. -/
theorem recirculateMixes_holds : Rows.RecirculateMixesSaid := recirculateMixes.over
#print axioms recirculateMixes_holds
end Go.Proofs.Ytipfipnhgpbceaa

