/- Sensors that are made, now and then with another number; the chapter's example (plain theorems). -/
import Derived.Test.YtipfipnhgpbceaaSc
import Derived.Test.YtipfipnhgpbceaaSxThaw
set_option linter.unusedVariables false
set_option linter.unusedSimpArgs false
set_option maxRecDepth 100000
namespace Go.Proofs.Ytipfipnhgpbceaa.Sx
open Go Go.RowKit
def l37 : List (FuncId × Spec) := [(26, s26), (32, c32), (46, c46), (31, c31)]
def k37 : Code → Keep := keepOf []
noncomputable def h37 (fl : Nat) (l : List Int) (n : Int) : Option (AV × List Ob) := (evalF (env l37) Try.f37 k37 fl [.one (.vec false .u8 l), .one (.int .i64 n)] []).den
theorem h37_eq (fl : Nat) (l : List Int) (n : Int) : h37 (fl + 1) l n =
    (rangeO (List.take 300 l) 0 1 6).bind fun x2 =>
    (nextO (List.take 300 l) x2.snd 6).bind fun x3 =>
      (nextO (List.take 300 l) x3.snd 4).bind fun x4 =>
        (sensO (List.take 300 l) x4.snd x2.fst x3.fst x4.fst).bind fun x5 =>
          (nextO (List.take 300 l) x5.snd 14).bind fun x6 =>
            if (x6.fst == 1) = true then some (.agg [.int .i64 x5.fst.addr, .int .i64 n, .int .i64 x5.fst.target, .int .i64 x5.fst.offset, .int .i64 x5.fst.scale, .int .i64 x5.fst.error, .int .i64 x5.fst.drift, .int .i64 x5.fst.life], [])
              else if (x6.fst == 2) = true then some (.agg [.int .i64 n, .int .i64 x5.fst.kind, .int .i64 x5.fst.target, .int .i64 x5.fst.offset, .int .i64 x5.fst.scale, .int .i64 x5.fst.error, .int .i64 x5.fst.drift, .int .i64 x5.fst.life], [])
                else if (x6.fst == 3) = true then some (.agg [.int .i64 x5.fst.addr, .int .i64 x5.fst.kind, .int .i64 n, .int .i64 x5.fst.offset, .int .i64 x5.fst.scale, .int .i64 x5.fst.error, .int .i64 x5.fst.drift, .int .i64 x5.fst.life], [])
                  else if (x6.fst == 4) = true then some (.agg [.int .i64 x5.fst.addr, .int .i64 x5.fst.kind, .int .i64 x5.fst.target, .int .i64 n, .int .i64 x5.fst.scale, .int .i64 x5.fst.error, .int .i64 x5.fst.drift, .int .i64 x5.fst.life], [])
                    else if (x6.fst == 5) = true then some (.agg [.int .i64 x5.fst.addr, .int .i64 x5.fst.kind, .int .i64 x5.fst.target, .int .i64 x5.fst.offset, .int .i64 n, .int .i64 x5.fst.error, .int .i64 x5.fst.drift, .int .i64 x5.fst.life], [])
                      else if (x6.fst == 6) = true then some (.agg [.int .i64 x5.fst.addr, .int .i64 x5.fst.kind, .int .i64 x5.fst.target, .int .i64 x5.fst.offset, .int .i64 x5.fst.scale, .int .i64 n, .int .i64 x5.fst.drift, .int .i64 x5.fst.life], [])
                        else if (x6.fst == 7) = true then some (.agg [.int .i64 x5.fst.addr, .int .i64 x5.fst.kind, .int .i64 x5.fst.target, .int .i64 x5.fst.offset, .int .i64 x5.fst.scale, .int .i64 x5.fst.error, .int .i64 n, .int .i64 x5.fst.life], [])
                          else if (x6.fst == 8) = true then some (.agg [.int .i64 x5.fst.addr, .int .i64 x5.fst.kind, .int .i64 x5.fst.target, .int .i64 x5.fst.offset, .int .i64 x5.fst.scale, .int .i64 x5.fst.error, .int .i64 x5.fst.drift, .int .i64 n], [])
                            else some (.agg [.int .i64 x5.fst.addr, .int .i64 x5.fst.kind, .int .i64 x5.fst.target, .int .i64 x5.fst.offset, .int .i64 x5.fst.scale, .int .i64 x5.fst.error, .int .i64 x5.fst.drift, .int .i64 x5.fst.life], []) := by kernel_rfl
def decSensor : AV × List Ob → Option Sensor
  | (.agg [.int .i64 a, .int .i64 b, .int .i64 c, .int .i64 d, .int .i64 e, .int .i64 f, .int .i64 g, .int .i64 h], []) => some ⟨a, b, c, d, e, f, g, h⟩
  | _ => none
theorem decSensor_ok {y : AV × List Ob} {x : Sensor} (h : decSensor y = some x) : ([] : List Ob) = y.2.take 0 ∧ TA y.2 0 y.1 (.agg [.int .i64 x.addr, .int .i64 x.kind, .int .i64 x.target, .int .i64 x.offset, .int .i64 x.scale, .int .i64 x.error, .int .i64 x.drift, .int .i64 x.life]) := by
  unfold decSensor at h
  split at h
  · cases h
    exact ⟨rfl, .agg _ _ (all2_tc_refl _)⟩
  · cases h
noncomputable def o37 (l : List Int) (n : Int) : Option (Sensor) := (h37 1 l n).bind (decSensor)
noncomputable def c37 : Spec := ⟨false, fun av ob => match av, ob with
  | [.one (.vec false .u8 l), .one (.int .i64 n)], [] => .call (o37 l n) fun x => .ret (.agg [.int .i64 x.addr, .int .i64 x.kind, .int .i64 x.target, .int .i64 x.offset, .int .i64 x.scale, .int .i64 x.error, .int .i64 x.drift, .int .i64 x.life], [])
  | _, _ => .fail⟩
theorem f37 : FnOK Try.prog 37 := fnOK_of Try.func37 rfl (by kernel_rfl)
theorem pc37 : SpecOK Try.prog 37 c37 := by
  refine spec_thaw (fun av ob r os hrn => ?_) (machS_ok (env_ok (l := l37) ⟨⟨p26, f26⟩, ⟨⟨pc32, f32⟩, ⟨⟨pc46, f46⟩, ⟨⟨pc31, f31⟩, trivial⟩⟩⟩⟩) mixed_ok Try.func37 k37 (fun _ _ => 1) false)
  simp only [c37] at hrn
  split at hrn
  · rename_i l n
    obtain ⟨x, hx, hr⟩ := Option.bind_eq_some_iff.1 hrn
    cases hr
    obtain ⟨y, hy, hd⟩ := Option.bind_eq_some_iff.1 hx
    unfold h37 at hy
    obtain ⟨d1, d2⟩ := decSensor_ok hd
    exact ⟨y.1, y.2, by rw [machS_run]; exact hy, d1, d2⟩
  · cases hrn
set_option maxHeartbeats 4000000 in
theorem made_ok {l : List Int} (n : Int) (h : l.all u8B = true) : ∃ s, o37 l n = some s := by
  have k0 := cok0 h
  obtain ⟨v1, p1, e1, a1, b1, k1⟩ := range_ok (lo := 1) (hi := 6) k0 (by omega) (by omega) (by omega)
  obtain ⟨v2, p2, e2, a2, b2, k2⟩ := next_ok (n := 6) k1 (by omega)
  obtain ⟨v3, p3, e3, a3, b3, k3⟩ := next_ok (n := 4) k2 (by omega)
  obtain ⟨s, p4, e4, hs, g1, g2, g3, k4⟩ := sens_ok (a := v1) (b := v2) (c := v3) k3 (by omega)
  obtain ⟨v5, p5, e5, a5, b5, k5⟩ := next_ok (n := 14) k4 (by omega)
  unfold o37
  rw [h37_eq]
  rw [e1, Option.bind_some]
  dsimp only
  rw [e2, Option.bind_some]
  dsimp only
  rw [e3, Option.bind_some]
  dsimp only
  rw [e4, Option.bind_some]
  dsimp only
  rw [e5, Option.bind_some]
  dsimp only
  have key : ∀ (b : Bool) (x y : Option (AV × List Ob)), (∃ s, x.bind decSensor = some s) → (∃ s, y.bind decSensor = some s) → ∃ s, (if b = true then x else y).bind decSensor = some s := fun b x y hx hy => by
    cases b
    · exact hy
    · exact hx
  refine key _ _ _ ⟨_, rfl⟩ (key _ _ _ ⟨_, rfl⟩ (key _ _ _ ⟨_, rfl⟩ (key _ _ _ ⟨_, rfl⟩ (key _ _ _ ⟨_, rfl⟩ (key _ _ _ ⟨_, rfl⟩ (key _ _ _ ⟨_, rfl⟩ (key _ _ _ ⟨_, rfl⟩ ⟨_, rfl⟩)))))))
def l40 : List (FuncId × Spec) := [(49, s49), (38, s38), (54, s54), (35, s35), (41, s41)]
def k40 : Code → Keep := keepOf []
noncomputable def h40 (fl : Nat)  : Option (AV × List Ob) := (evalF (env l40) Try.f40 k40 fl [] []).den
theorem h40_eq (fl : Nat)  : h40 (fl + 1)  =
    some (.one (.bool true), []) := by kernel_rfl
def s40 : Spec := ⟨false, fun av ob => match av, ob with
  | [], [] => .ret (.one (.bool true), [])
  | _, _ => .fail⟩
theorem v40 : h40 1 = some (.one (.bool true), []) := by
  rw [h40_eq]
theorem p40 : SpecOK Try.prog 40 s40 := by
  refine specOK_of (env_ok (l := l40) ⟨⟨p49, f49⟩, ⟨⟨p38, f38⟩, ⟨⟨p54, f54⟩, ⟨⟨p35, f35⟩, ⟨⟨p41, f41⟩, trivial⟩⟩⟩⟩⟩) mixed_ok Try.func40 k40 fun av ob r os hrn => ?_
  simp only [s40] at hrn
  split at hrn
  · skip
    cases hrn
    have hv := v40
    unfold h40 at hv
    exact ⟨1, hv⟩
  · cases hrn
theorem f40 : FnOK Try.prog 40 := fnOK_of Try.func40 rfl (by kernel_rfl)
end Go.Proofs.Ytipfipnhgpbceaa.Sx
