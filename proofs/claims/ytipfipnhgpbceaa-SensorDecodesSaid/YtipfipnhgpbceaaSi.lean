/- The measurement of a telegram, for any sensors and telegrams (plain theorems). -/
import Derived.Test.YtipfipnhgpbceaaSh
set_option linter.unusedVariables false
set_option linter.unusedSimpArgs false
set_option maxRecDepth 100000
namespace Go.Proofs.Ytipfipnhgpbceaa.Sx
open Go Go.RowKit
noncomputable def l9 : List (FuncId × Spec) := [(40, s40), (26, s26), (32, c32), (46, c46), (31, c31), (27, s27), (48, c48), (49, c49), (50, c50)]
def k9 : Code → Keep := keepOf [(7, ⟨[1, 3, 10, 11, 63, 64, 65], [], [(10, 0, .int)]⟩), (10, ⟨[1, 3, 10, 11, 13, 63, 64, 65, 71, 72, 73], [], [(10, 0, .int), (71, 0, .int)]⟩)]
noncomputable def h9_0 (fl : Nat) (t1 : List Sensor) (t3 : Int) (t10 : List Sensor) (t11 : Int) (t64 : Int) (t65 : Int) (m0 : List Frame) : Option (AV × List Ob) := (evalH (env l9) Try.f9 k9 0 fl (stkF Try.f9 [1, 1, 1, 1, 1, 0, 1, 0]) ⟨[.one (.undef), .one (.vec false .sensor t1), .one (.undef), .one (.int .i64 t3), .one (.undef), .one (.undef), .one (.undef), .one (.undef), .one (.undef), .one (.undef), .one (.vec false .sensor t10), .one (.int .i64 t11), .one (.undef), .one (.undef), .one (.undef), .one (.undef), .one (.undef), .one (.undef), .one (.undef), .one (.undef), .one (.undef), .one (.undef), .one (.undef), .one (.undef), .one (.undef), .one (.undef), .one (.undef), .one (.undef), .one (.undef), .one (.undef), .one (.undef), .one (.undef), .one (.undef), .one (.undef), .one (.undef), .one (.undef), .one (.undef), .one (.undef), .one (.undef), .one (.undef), .one (.undef), .one (.undef), .one (.undef), .one (.undef), .one (.undef), .one (.undef), .one (.undef), .one (.undef), .one (.undef), .one (.undef), .one (.undef), .one (.undef), .one (.undef), .one (.undef), .one (.undef), .one (.undef), .one (.undef), .one (.undef), .one (.undef), .one (.undef), .one (.undef), .one (.undef), .one (.undef), .one (.row 0), .one (.int .i64 t64), .one (.int .i64 t65), .one (.undef), .one (.undef), .one (.undef), .one (.undef), .one (.undef), .one (.undef), .one (.undef), .one (.undef), .one (.undef), .one (.undef), .one (.undef), .one (.undef), .one (.undef), .one (.undef), .one (.undef), .one (.undef), .one (.undef), .one (.undef), .one (.undef), .one (.undef), .one (.undef), .one (.undef), .one (.undef), .one (.undef), .one (.undef), .one (.undef), .one (.undef), .one (.undef), .one (.undef), .one (.undef), .one (.undef), .one (.undef), .one (.undef), .one (.undef), .one (.undef), .one (.undef), .one (.undef), .one (.undef), .one (.undef), .one (.undef), .one (.undef), .one (.undef), .one (.undef), .one (.undef), .one (.undef), .one (.undef), .one (.undef), .one (.undef), .one (.undef), .one (.undef), .one (.undef), .one (.undef), .one (.undef), .one (.undef), .one (.undef), .one (.undef), .one (.undef), .one (.undef), .one (.undef), .one (.undef)], [((0, 0), some (.rows .frame m0))], 1⟩).den
noncomputable def h9_1 (fl : Nat) (t1 : List Sensor) (t3 : Int) (t10 : List Sensor) (t11 : Int) (t64 : Int) (t65 : Int) (t71 : List (List Sensor)) (t72 : Int) (t73 : Int) (m0_0 : Int) (m0_1 : Int) (m0_2 : List Int) (m1 : List Frame) : Option (AV × List Ob) := (evalH (env l9) Try.f9 k9 0 fl (stkF Try.f9 [1, 1, 1, 1, 1, 0, 1, 0, 0, 1, 1, 0, 0, 1, 1, 0]) ⟨[.one (.undef), .one (.vec false .sensor t1), .one (.undef), .one (.int .i64 t3), .one (.undef), .one (.undef), .one (.undef), .one (.undef), .one (.undef), .one (.undef), .one (.vec false .sensor t10), .one (.int .i64 t11), .one (.undef), .one (.ptr 0 0), .one (.undef), .one (.undef), .one (.undef), .one (.undef), .one (.undef), .one (.undef), .one (.undef), .one (.undef), .one (.undef), .one (.undef), .one (.undef), .one (.undef), .one (.undef), .one (.undef), .one (.undef), .one (.undef), .one (.undef), .one (.undef), .one (.undef), .one (.undef), .one (.undef), .one (.undef), .one (.undef), .one (.undef), .one (.undef), .one (.undef), .one (.undef), .one (.undef), .one (.undef), .one (.undef), .one (.undef), .one (.undef), .one (.undef), .one (.undef), .one (.undef), .one (.undef), .one (.undef), .one (.undef), .one (.undef), .one (.undef), .one (.undef), .one (.undef), .one (.undef), .one (.undef), .one (.undef), .one (.undef), .one (.undef), .one (.undef), .one (.undef), .one (.row 1), .one (.int .i64 t64), .one (.int .i64 t65), .one (.undef), .one (.undef), .one (.undef), .one (.undef), .one (.undef), .one (.vec false .sensors t71), .one (.int .i64 t72), .one (.int .i64 t73), .one (.undef), .one (.undef), .one (.undef), .one (.undef), .one (.undef), .one (.undef), .one (.undef), .one (.undef), .one (.undef), .one (.undef), .one (.undef), .one (.undef), .one (.undef), .one (.undef), .one (.undef), .one (.undef), .one (.undef), .one (.undef), .one (.undef), .one (.undef), .one (.undef), .one (.undef), .one (.undef), .one (.undef), .one (.undef), .one (.undef), .one (.undef), .one (.undef), .one (.undef), .one (.undef), .one (.undef), .one (.undef), .one (.undef), .one (.undef), .one (.undef), .one (.undef), .one (.undef), .one (.undef), .one (.undef), .one (.undef), .one (.undef), .one (.undef), .one (.undef), .one (.undef), .one (.undef), .one (.undef), .one (.undef), .one (.undef), .one (.undef), .one (.undef), .one (.undef), .one (.undef)], [((0, 0), some (.cell (.int .i64 m0_0))), ((0, 1), some (.cell (.int .i64 m0_1))), ((0, 2), some (.cell (.vec false .u8 m0_2))), ((1, 0), some (.rows .frame m1))], 2⟩).den
noncomputable def h9 (fl : Nat) (l : List Int) (r : List Sensor) (a k : Int) (dat : List Int) (t : Int) : Option (AV × List Ob) := (evalF (env l9) Try.f9 k9 fl [.one (.vec false .u8 l), .one (.vec false .sensor r), .agg [.int .i64 a, .int .i64 k, .vec false .u8 dat], .one (.int .i64 t)] []).den
theorem h9_eq (fl : Nat) (l : List Int) (r : List Sensor) (a k : Int) (dat : List Int) (t : Int) : h9 (fl + 1) l r a k dat t =
    if (decide ((↑r.length : Int) > 20)) = true then some (.one (.bool true), [])
    else if (decide ((↑dat.length : Int) > 100)) = true then some (.one (.bool true), [])
      else (rangeO (List.take 300 l) 0 1 6).bind fun x4 =>
        (nextO (List.take 300 l) x4.snd 3).bind fun x5 =>
          (sensO (List.take 300 l) x5.snd x4.fst x5.fst 0).bind fun x6 =>
            (rangeO (List.take 300 l) x6.snd 1 6).bind fun x7 =>
              (nextO (List.take 300 l) x7.snd 3).bind fun x8 =>
                (sensO (List.take 300 l) x8.snd x7.fst x8.fst 0).bind fun x9 =>
                  (rangeO (List.take 300 l) x9.snd 1 6).bind fun x10 =>
                    (nextO (List.take 300 l) x10.snd 2).bind fun x11 =>
                      (sensO (List.take 300 l) x11.snd x10.fst (IntKind.i64.wrap (300 * x11.fst)) 0).bind fun x12 =>
                        (o48 (List.take 300 l) x12.snd).bind fun x13 =>
                          (o48 (List.take 300 l) x13.snd).bind fun x14 =>
                            h9_0 fl r t ([{ addr := x6.fst.addr, kind := x6.fst.kind, target := x6.fst.target, offset := x6.fst.offset, scale := x6.fst.scale, error := x6.fst.error, drift := x6.fst.drift, life := x6.fst.life : Sensor }, { addr := x9.fst.addr, kind := x9.fst.kind, target := x9.fst.target, offset := x9.fst.offset, scale := x9.fst.scale, error := x9.fst.error, drift := x9.fst.drift, life := x9.fst.life : Sensor }, { addr := x12.fst.addr, kind := x12.fst.kind, target := x12.fst.target, offset := x12.fst.offset, scale := x12.fst.scale, error := x12.fst.error, drift := x12.fst.drift, life := x12.fst.life : Sensor }]) (modz t 1000) ((↑[{ addr := a, kind := k, data := dat : Frame }, { addr := x13.fst.addr, kind := x13.fst.kind, data := x13.fst.data : Frame }, { addr := x14.fst.addr, kind := x14.fst.kind, data := x14.fst.data : Frame }].length : Int)) 0 ([{ addr := a, kind := k, data := dat : Frame }, { addr := x13.fst.addr, kind := x13.fst.kind, data := x13.fst.data : Frame }, { addr := x14.fst.addr, kind := x14.fst.kind, data := x14.fst.data : Frame }]) := by kernel_rfl
theorem h9_0_eq (fl : Nat) (t1 : List Sensor) (t3 : Int) (t10 : List Sensor) (t11 : Int) (t64 : Int) (t65 : Int) (m0 : List Frame) : h9_0 (fl + 1) t1 t3 t10 t11 t64 t65 m0 =
    if (decide (t65 < t64)) = true then if (idx m0.length t65) = true then h9_1 fl t1 t3 t10 t11 t64 t65 ([t10, t1]) ((↑[t10, t1].length : Int)) 0 ((m0.getD t65.toNat (dflt K.frame)).addr) ((m0.getD t65.toNat (dflt K.frame)).kind) ((m0.getD t65.toNat (dflt K.frame)).data) m0
      else none
    else some (.one (.bool true), []) := by kernel_rfl
theorem h9_1_eq (fl : Nat) (t1 : List Sensor) (t3 : Int) (t10 : List Sensor) (t11 : Int) (t64 : Int) (t65 : Int) (t71 : List (List Sensor)) (t72 : Int) (t73 : Int) (m0_0 : Int) (m0_1 : Int) (m0_2 : List Int) (m1 : List Frame) : h9_1 (fl + 1) t1 t3 t10 t11 t64 t65 t71 t72 t73 m0_0 m0_1 m0_2 m1 =
    if (decide (t73 < t72)) = true then if (idx t71.length t73) = true then if (decide (List.length (t71.getD t73.toNat (dflt K.sensors)) ≤ 1000000)) = true then if (decide (List.length (t71.getD t73.toNat (dflt K.sensors)) ≤ 1000000)) = true then if (decide (List.length (t71.getD t73.toNat (dflt K.sensors)) ≤ 1000000)) = true then if (decide (List.length (t71.getD t73.toNat (dflt K.sensors)) ≤ 1000000)) = true then if (!((decT (t71.getD t73.toNat (dflt K.sensors)) m0_0 m0_1 m0_2 t3).fst.sensor == (decT (t71.getD t73.toNat (dflt K.sensors)) m0_0 m0_1 m0_2 t3).fst.sensor && ((decT (t71.getD t73.toNat (dflt K.sensors)) m0_0 m0_1 m0_2 t3).fst.time == (decT (t71.getD t73.toNat (dflt K.sensors)) m0_0 m0_1 m0_2 t3).fst.time && ((decT (t71.getD t73.toNat (dflt K.sensors)) m0_0 m0_1 m0_2 t3).fst.lo == (decT (t71.getD t73.toNat (dflt K.sensors)) m0_0 m0_1 m0_2 t3).fst.lo && (decT (t71.getD t73.toNat (dflt K.sensors)) m0_0 m0_1 m0_2 t3).fst.hi == (decT (t71.getD t73.toNat (dflt K.sensors)) m0_0 m0_1 m0_2 t3).fst.hi)))) = true then some (.one (.bool false), [])
                else if ((decT (t71.getD t73.toNat (dflt K.sensors)) m0_0 m0_1 m0_2 t3).snd != (decT (t71.getD t73.toNat (dflt K.sensors)) m0_0 m0_1 m0_2 t3).snd) = true then some (.one (.bool false), [])
                  else if (!((decT (t71.getD t73.toNat (dflt K.sensors)) m0_0 m0_1 m0_2 t11).fst.sensor == (decT (t71.getD t73.toNat (dflt K.sensors)) m0_0 m0_1 m0_2 t11).fst.sensor && ((decT (t71.getD t73.toNat (dflt K.sensors)) m0_0 m0_1 m0_2 t11).fst.time == (decT (t71.getD t73.toNat (dflt K.sensors)) m0_0 m0_1 m0_2 t11).fst.time && ((decT (t71.getD t73.toNat (dflt K.sensors)) m0_0 m0_1 m0_2 t11).fst.lo == (decT (t71.getD t73.toNat (dflt K.sensors)) m0_0 m0_1 m0_2 t11).fst.lo && (decT (t71.getD t73.toNat (dflt K.sensors)) m0_0 m0_1 m0_2 t11).fst.hi == (decT (t71.getD t73.toNat (dflt K.sensors)) m0_0 m0_1 m0_2 t11).fst.hi)))) = true then some (.one (.bool false), [])
                    else if ((decT (t71.getD t73.toNat (dflt K.sensors)) m0_0 m0_1 m0_2 t11).snd != (decT (t71.getD t73.toNat (dflt K.sensors)) m0_0 m0_1 m0_2 t11).snd) = true then some (.one (.bool false), [])
                      else h9_1 fl t1 t3 t10 t11 t64 t65 t71 t72 (IntKind.i64.wrap (t73 + 1)) m0_0 m0_1 m0_2 m1
              else none
            else none
          else none
        else none
      else none
    else h9_0 fl t1 t3 t10 t11 t64 (IntKind.i64.wrap (t65 + 1)) m1 := by kernel_rfl
theorem v9_1 (r t10 : List Sensor) (t t11 n j : Int) (L : List (List Sensor)) (a k : Int) (dat : List Int) (m : List Frame) (F : Nat) (hj : j ≤ 1000) (hj0 : 0 ≤ j) (hL : ∀ x ∈ L, x.length ≤ 1000000) (hLl : L.length ≤ 100)
    (hnext : ∀ fl, F ≤ fl → h9_0 fl r t t10 t11 n (j + 1) m = some (.one (.bool true), [])) : ∀ (d fl i : Nat), L.length - i = d → i ≤ L.length → F + d < fl → h9_1 fl r t t10 t11 n j L L.length i a k dat m = some (.one (.bool true), [])
  | d, fl, i, hd, hi, hf => by
    obtain ⟨fl, rfl⟩ : ∃ q, fl = q + 1 := ⟨fl - 1, by omega⟩
    rw [h9_1_eq]
    by_cases hlt : i < L.length
    · have hx : (L.getD i []).length ≤ 1000000 := by
        rw [List.getD_eq_getElem?_getD, List.getElem?_eq_getElem hlt]
        exact hL _ (List.getElem_mem hlt)
      have hx' : decide ((L.getD i []).length ≤ 1000000) = true := by simpa using hx
      have he : L.getD (i : Int).toNat (dflt K.sensors) = L.getD i [] := by rw [Int.toNat_natCast]; rfl
      rw [if_pos (lt_nat hlt), if_pos (idx_nat hlt), he]
      simp only [if_pos hx', beq_self_eq_true, Bool.and_self, Bool.not_true, bne_self_eq_false, Bool.false_eq_true, if_false]
      rw [wr_succ (by omega)]
      cases d with
      | zero => omega
      | succ d => exact v9_1 r t10 t t11 n j L a k dat m F hj hj0 hL hLl hnext d fl (i + 1) (by omega) (by omega) (by omega)
    · have e : IntKind.i64.wrap (j + 1) = j + 1 := wid (by omega) (by omega)
      rw [if_neg (nlt_nat hlt), e]
      exact hnext fl (by omega)
theorem v9_0 (r t10 : List Sensor) (t t11 : Int) (m : List Frame) (hm : m.length ≤ 100) (hr : r.length ≤ 1000000) (ht : t10.length ≤ 1000000) : ∀ (d fl j : Nat), m.length - j = d → j ≤ m.length → 5 * d < fl → h9_0 fl r t t10 t11 m.length j m = some (.one (.bool true), [])
  | d, fl, j, hd, hj, hf => by
    obtain ⟨fl, rfl⟩ : ∃ q, fl = q + 1 := ⟨fl - 1, by omega⟩
    rw [h9_0_eq]
    by_cases hlt : j < m.length
    · rw [if_pos (lt_nat hlt), if_pos (idx_nat hlt)]
      cases d with
      | zero => omega
      | succ d =>
        refine v9_1 r t10 t t11 m.length j [t10, r] _ _ _ m (5 * d + 1) (by omega) (by omega) (fun x hx => ?_) (by simp) (fun fl' hf' => ?_) 2 fl 0 (by simp) (by simp) (by omega)
        · simp at hx
          rcases hx with rfl | rfl <;> assumption
        · have := v9_0 r t10 t t11 m hm hr ht d fl' (j + 1) (by omega) (by omega) (by omega)
          rw [show ((j : Int) + 1) = ((j + 1 : Nat) : Int) by omega]
          exact this
    · rw [if_neg (nlt_nat hlt)]
theorem v9 (l : List Int) (r : List Sensor) (a k : Int) (dat : List Int) (t : Int) (h : l.all u8B = true) : h9 100 l r a k dat t = some (.one (.bool true), []) := by
  have k0 := cok0 h
  rw [h9_eq]
  by_cases c1 : (r.length : Int) > 20
  · rw [if_pos (by simpa using c1)]
  rw [if_neg (by simpa using c1)]
  by_cases c2 : (dat.length : Int) > 100
  · rw [if_pos (by simpa using c2)]
  rw [if_neg (by simpa using c2)]
  obtain ⟨v1, p1, e1, a1, b1, k1⟩ := range_ok (lo := 1) (hi := 6) k0 (by omega) (by omega) (by omega)
  obtain ⟨v2, p2, e2, a2, b2, k2⟩ := next_ok (n := 3) k1 (by omega)
  obtain ⟨s3, p3, e3, _, _, _, _, k3⟩ := sens_ok (a := v1) (b := v2) (c := 0) k2 (by omega)
  obtain ⟨v4, p4, e4, a4, b4, k4⟩ := range_ok (lo := 1) (hi := 6) k3 (by omega) (by omega) (by omega)
  obtain ⟨v5, p5, e5, a5, b5, k5⟩ := next_ok (n := 3) k4 (by omega)
  obtain ⟨s6, p6, e6, _, _, _, _, k6⟩ := sens_ok (a := v4) (b := v5) (c := 0) k5 (by omega)
  obtain ⟨v7, p7, e7, a7, b7, k7⟩ := range_ok (lo := 1) (hi := 6) k6 (by omega) (by omega) (by omega)
  obtain ⟨v8, p8, e8, a8, b8, k8⟩ := next_ok (n := 2) k7 (by omega)
  obtain ⟨s9, p9, e9, _, _, _, _, k9⟩ := sens_ok (a := v7) (b := IntKind.i64.wrap (300 * v8)) (c := 0) k8 (by omega)
  obtain ⟨f1, q1, e10, k10⟩ := frame_ok k9
  obtain ⟨f2, q2, e11, k11⟩ := frame_ok k10
  rw [e1, Option.bind_some]; dsimp only
  rw [e2, Option.bind_some]; dsimp only
  rw [e3, Option.bind_some]; dsimp only
  rw [e4, Option.bind_some]; dsimp only
  rw [e5, Option.bind_some]; dsimp only
  rw [e6, Option.bind_some]; dsimp only
  rw [e7, Option.bind_some]; dsimp only
  rw [e8, Option.bind_some]; dsimp only
  rw [e9, Option.bind_some]; dsimp only
  rw [e10, Option.bind_some]; dsimp only
  rw [e11, Option.bind_some]; dsimp only
  exact v9_0 r _ t _ [_, _, _] (by simp) (by omega) (by simp) 3 99 0 (by simp) (by simp) (by omega)
def s9 : Spec := ⟨false, fun av ob => match av, ob with
  | [.one (.vec false .u8 l), .one (.vec false .sensor r), .agg [.int .i64 a, .int .i64 k, .vec false .u8 dat], .one (.int .i64 t)], [] => .need (l.all u8B && (r.all sensorB && (frameB ⟨a, k, dat⟩ && (i64B t)))) (.ret (.one (.bool true), []))
  | _, _ => .fail⟩
theorem p9 : SpecOK Try.prog 9 s9 := by
  refine specOK_of (env_ok (l := l9) ⟨⟨p40, f40⟩, ⟨⟨p26, f26⟩, ⟨⟨pc32, f32⟩, ⟨⟨pc46, f46⟩, ⟨⟨pc31, f31⟩, ⟨⟨p27, f27⟩, ⟨⟨pc48, f48⟩, ⟨⟨pc49, f49⟩, ⟨⟨pc50, f50⟩, trivial⟩⟩⟩⟩⟩⟩⟩⟩⟩) mixed_ok Try.func9 k9 fun av ob r os hrn => ?_
  simp only [s9] at hrn
  split at hrn
  · rename_i l r a k dat t
    obtain ⟨hg, hrn⟩ := need_den hrn
    cases hrn
    simp only [Bool.and_eq_true] at hg
    obtain ⟨q1, q2, q3, q4⟩ := hg
    have hv := v9 l r a k dat t q1
    unfold h9 at hv
    exact ⟨100, hv⟩
  · cases hrn
theorem law9 (av : List AV) (h : AVs [RBytes, RSensors, RFrame, RInt] av) : (s9.run av []).den = some (.one (.bool true), []) := by
  obtain ⟨_, _, rfl, ⟨l, rfl, q1⟩, k1⟩ := h.cons
  obtain ⟨_, _, rfl, ⟨r, rfl, q2⟩, k2⟩ := k1.cons
  obtain ⟨_, _, rfl, ⟨⟨a, k, dat⟩, rfl, q3⟩, k3⟩ := k2.cons
  obtain ⟨_, _, rfl, ⟨t, rfl, q4⟩, k4⟩ := k3.cons
  rw [k4.nil]
  refine den_need ?_
  simp only [Bool.and_eq_true]
  exact ⟨q1, q2, q3, q4⟩
end Go.Proofs.Ytipfipnhgpbceaa.Sx
