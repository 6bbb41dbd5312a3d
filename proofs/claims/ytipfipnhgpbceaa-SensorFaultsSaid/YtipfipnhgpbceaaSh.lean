/- Telegrams that are made; slices that are nil (plain theorems). -/
import Derived.Test.YtipfipnhgpbceaaSd
set_option linter.unusedVariables false
set_option linter.unusedSimpArgs false
set_option maxRecDepth 100000
namespace Go.Proofs.Ytipfipnhgpbceaa.Sx
open Go Go.RowKit
/-- A nil slice is a slice without elements. -/
def nilFix (E : K) : Sc → Sc
  | .nils => .vec false E []
  | s => s
theorem nilFix_rel {w : World} {ρ : Rho} {ok : Okp} {v : Value} {s : Sc} (E : K) (h : SRel w ρ ok v s) : SRel w ρ ok v (nilFix E s) := by
  cases s with
  | nils => cases h; exact .vec0 _ _ _ _
  | _ => exact h
theorem nilFix_one {w : World} {ρ : Rho} {ok : Okp} {v : Value} {s : Sc} (E : K) (h : VRel w ρ ok v (.one s)) : VRel w ρ ok v (.one (nilFix E s)) := by
  cases h with
  | any => exact .any _
  | one _ _ h => exact .one _ _ (nilFix_rel E h)
theorem spec_args {P : Program} {f : FuncId} {a b : Spec} (fix : List AV → List AV) (hfix : ∀ (w : World) (ρ : Rho) (ok : Okp) (vs : List Value) (av : List AV), All2 (VRel w ρ ok) vs av → All2 (VRel w ρ ok) vs (fix av)) (h : ∀ av ob, b.run av ob = a.run (fix av) ob)
    (ha : SpecOK P f a) : SpecOK P f b :=
  fun w ρ ok vs av obs r os h1 h2 h3 h4 => ha w ρ ok vs (fix av) obs r os h1 h2 (hfix _ _ _ _ _ h3) (by rw [← h]; exact h4)
theorem all2_inv {α β : Type} {R : α → β → Prop} {l : List α} {b : β} {r : List β} (h : All2 R l (b :: r)) : ∃ a l', l = a :: l' ∧ R a b ∧ All2 R l' r := by
  cases l with
  | nil => exact h.elim
  | cons a l' => exact ⟨a, l', rfl, h.1, h.2⟩
def fix49 : List AV → List AV
  | [.one s1, .agg [a, k, s2], t] => [.one (nilFix .sensor s1), .agg [a, k, nilFix .u8 s2], t]
  | l => l
def c49 : Spec := ⟨false, fun av ob => s49.run (fix49 av) ob⟩
theorem pc49 : SpecOK Try.prog 49 c49 := by
  refine spec_args fix49 (fun w ρ ok vs av h => ?_) (fun _ _ => rfl) p49
  unfold fix49
  split
  · obtain ⟨v1, vs, rfl, h1, h⟩ := all2_inv h
    obtain ⟨v2, vs, rfl, h2, h⟩ := all2_inv h
    refine ⟨nilFix_one _ h1, ?_, h⟩
    cases h2 with
    | agg us l q =>
      refine .agg _ _ ?_
      obtain ⟨us⟩ := us
      obtain ⟨u1, us, rfl, q1, q⟩ := all2_inv q
      obtain ⟨u2, us, rfl, q2, q⟩ := all2_inv q
      obtain ⟨u3, us, rfl, q3, q⟩ := all2_inv q
      exact ⟨q1, q2, nilFix_rel _ q3, q⟩
  · exact h
def c50 : Spec := ⟨false, fun av ob => s50.run (fix49 av) ob⟩
theorem pc50 : SpecOK Try.prog 50 c50 := by
  refine spec_args fix49 (fun w ρ ok vs av h => ?_) (fun _ _ => rfl) p50
  unfold fix49
  split
  · obtain ⟨v1, vs, rfl, h1, h⟩ := all2_inv h
    obtain ⟨v2, vs, rfl, h2, h⟩ := all2_inv h
    refine ⟨nilFix_one _ h1, ?_, h⟩
    cases h2 with
    | agg us l q =>
      refine .agg _ _ ?_
      obtain ⟨us⟩ := us
      obtain ⟨u1, us, rfl, q1, q⟩ := all2_inv q
      obtain ⟨u2, us, rfl, q2, q⟩ := all2_inv q
      obtain ⟨u3, us, rfl, q3, q⟩ := all2_inv q
      exact ⟨q1, q2, nilFix_rel _ q3, q⟩
  · exact h
noncomputable def l48 : List (FuncId × Spec) := [(46, c46)]
def k48 : Code → Keep := keepOf []
noncomputable def h48 (fl : Nat) (l : List Int) (p : Int) : Option (AV × List Ob) := (evalF (env l48) Try.f48 k48 fl [.one (.ptr 0 0)] [.box [.vec false .u8 l, .int .i64 p]]).den
theorem h48_eq (fl : Nat) (l : List Int) (p : Int) : h48 (fl + 1) l p =
    (nextO l p 6).bind fun x2 =>
    (nextO l x2.snd 2).bind fun x3 =>
      (nextO l x3.snd 256).bind fun x4 =>
        (nextO l x4.snd 8).bind fun x5 =>
          if (x5.fst == 5) = true then some (.agg [.int .i64 x2.fst, .int .i64 2, .nils], [.box [.vec false .u8 l, .int .i64 x5.snd]])
            else if (x5.fst == 6) = true then (nextO l x5.snd 4).bind fun x8 =>
                some (.agg [.int .i64 x2.fst, .int .i64 x8.fst, .row 1], [.box [.vec false .u8 l, .int .i64 x8.snd], .rows .u8 ([IntKind.u8.wrap x3.fst, IntKind.u8.wrap x4.fst])])
              else if (x5.fst == 7) = true then (nextO l x5.snd 3).bind fun x9 =>
                  if (true && (decide (0 ≤ x9.fst) && decide (x9.fst ≤ (↑[IntKind.u8.wrap x3.fst, IntKind.u8.wrap x4.fst].length : Int)))) = true then some (.agg [.int .i64 x2.fst, .int .i64 1, .vec false .u8 (List.drop (Int.toNat 0) (List.take x9.fst.toNat [IntKind.u8.wrap x3.fst, IntKind.u8.wrap x4.fst]))], [.box [.vec false .u8 l, .int .i64 x9.snd]])
                    else none
                else some (.agg [.int .i64 x2.fst, .int .i64 1, .row 1], [.box [.vec false .u8 l, .int .i64 x5.snd], .rows .u8 ([IntKind.u8.wrap x3.fst, IntKind.u8.wrap x4.fst])]) := by kernel_rfl
def decFrame (l : List Int) : AV × List Ob → Option (Frame × Int)
  | (.agg [.int .i64 a, .int .i64 k, s], .box [.vec false .u8 l', .int .i64 p] :: os) => if l' = l then (match slO .u8 1 (.box [.vec false .u8 l', .int .i64 p] :: os) s with | some d => some (⟨a, k, d⟩, p) | none => none) else none
  | _ => none
theorem decFrame_ok {l : List Int} {y : AV × List Ob} {x : Frame × Int} (h : decFrame l y = some x) : [Ob.box [.vec false .u8 l, .int .i64 x.2]] = y.2.take 1 ∧ TA y.2 1 y.1 (.agg [.int .i64 x.1.addr, .int .i64 x.1.kind, .vec false .u8 x.1.data]) := by
  unfold decFrame at h
  split at h
  · split at h
    · rename_i hl
      subst hl
      split at h
      · rename_i d hd
        cases h
        exact ⟨rfl, .agg _ _ ⟨.same _, .same _, slO_ok hd, trivial⟩⟩
      · cases h
    · cases h
  · cases h
noncomputable def o48 (l : List Int) (p : Int) : Option (Frame × Int) := (h48 1 l p).bind (decFrame l)
noncomputable def c48 : Spec := ⟨false, fun av ob => match av, ob with
  | [.one (.ptr 0 0)], [.box [.vec false .u8 l, .int .i64 p]] => .call (o48 l p) fun x => .ret (.agg [.int .i64 x.1.addr, .int .i64 x.1.kind, .vec false .u8 x.1.data], [.box [.vec false .u8 l, .int .i64 x.2]])
  | _, _ => .fail⟩
theorem f48 : FnOK Try.prog 48 := fnOK_of Try.func48 rfl (by kernel_rfl)
theorem pc48 : SpecOK Try.prog 48 c48 := by
  refine spec_thaw (fun av ob r os hrn => ?_) (machS_ok (env_ok (l := l48) ⟨⟨pc46, f46⟩, trivial⟩) mixed_ok Try.func48 k48 (fun _ _ => 1) false)
  simp only [c48] at hrn
  split at hrn
  · rename_i l p
    obtain ⟨x, hx, hr⟩ := Option.bind_eq_some_iff.1 hrn
    cases hr
    obtain ⟨y, hy, hd⟩ := Option.bind_eq_some_iff.1 hx
    unfold h48 at hy
    obtain ⟨d1, d2⟩ := decFrame_ok hd
    exact ⟨y.1, y.2, by rw [machS_run]; exact hy, d1, d2⟩
  · cases hrn
theorem frame_ok {l : List Int} {p : Int} (h : cok l p = true) : ∃ f q, o48 l p = some (f, q) ∧ cok l q = true := by
  obtain ⟨v1, p1, e1, a1, b1, k1⟩ := next_ok (n := 6) h (by omega)
  obtain ⟨v2, p2, e2, a2, b2, k2⟩ := next_ok (n := 2) k1 (by omega)
  obtain ⟨v3, p3, e3, a3, b3, k3⟩ := next_ok (n := 256) k2 (by omega)
  obtain ⟨v4, p4, e4, a4, b4, k4⟩ := next_ok (n := 8) k3 (by omega)
  obtain ⟨v5, p5, e5, a5, b5, k5⟩ := next_ok (n := 4) k4 (by omega)
  obtain ⟨v6, p6, e6, a6, b6, k6⟩ := next_ok (n := 3) k4 (by omega)
  unfold o48
  rw [h48_eq]
  simp only [e1, e2, e3, e4, e5, e6, Option.bind_some]
  by_cases c5 : v4 = 5
  · subst c5
    exact ⟨⟨v1, 2, []⟩, p4, by simp [decFrame, slO], k4⟩
  by_cases c6 : v4 = 6
  · subst c6
    exact ⟨⟨v1, v5, _⟩, p5, by simp [decFrame, slO]; rfl, k5⟩
  by_cases c7 : v4 = 7
  · subst c7
    have c8 : (true && (decide (0 ≤ v6) && decide (v6 ≤ (([IntKind.u8.wrap v2, IntKind.u8.wrap v3].length : Nat) : Int)))) = true := by simp; omega
    simp only [c8, if_true]
    exact ⟨⟨v1, 1, _⟩, p6, by simp [decFrame, slO]; rfl, k6⟩
  have d5 : (v4 == 5) = false := by simpa using c5
  have d6 : (v4 == 6) = false := by simpa using c6
  have d7 : (v4 == 7) = false := by simpa using c7
  rw [d5, d6, d7]
  exact ⟨⟨v1, 1, _⟩, p4, by simp [decFrame, slO]; rfl, k4⟩
end Go.Proofs.Ytipfipnhgpbceaa.Sx
