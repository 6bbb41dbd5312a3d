/- A true value lies in the span of its raw number (plain theorems). -/
import Derived.Test.YtipfipnhgpbceaaSf
set_option linter.unusedVariables false
set_option linter.unusedSimpArgs false
set_option maxRecDepth 100000
namespace Go.Proofs.Ytipfipnhgpbceaa.Sx
open Go Go.RowKit
noncomputable def l11 : List (FuncId × Spec) := [(26, s26), (31, c31), (41, s41), (53, s53), (27, s27), (40, s40)]
def k11 : Code → Keep := keepOf []
noncomputable def h11 (fl : Nat) (l : List Int) (raw off more : Int) : Option (AV × List Ob) := (evalF (env l11) Try.f11 k11 fl [.one (.vec false .u8 l), .one (.int .u16 raw), .one (.int .i64 off), .one (.int .u8 more)] []).den
theorem h11_eq (fl : Nat) (l : List Int) (raw off more : Int) : h11 (fl + 1) l raw off more =
    (sensO (List.take 300 l) 0 3 0 0).bind fun x2 =>
    if (decide (IntKind.i64.wrap (IntKind.i64.wrap (1000 * IntKind.i64.wrap (IntKind.i64.wrap (flo (IntKind.i64.wrap (IntKind.i64.wrap (1000 * x2.fst.offset) + IntKind.i64.wrap (x2.fst.scale * IntKind.i64.wrap raw))) 1000 + modz off (IntKind.i64.wrap (IntKind.i64.wrap (2 * x2.fst.error) + 1))) - x2.fst.error)) - IntKind.i64.wrap (IntKind.i64.wrap (1000 * x2.fst.offset) + IntKind.i64.wrap (x2.fst.scale * IntKind.i64.wrap raw))) > IntKind.i64.wrap (1000 * x2.fst.error))) = true then some (.one (.bool true), [])
      else if (decide (IntKind.i64.wrap (IntKind.i64.wrap (IntKind.i64.wrap (1000 * x2.fst.offset) + IntKind.i64.wrap (x2.fst.scale * IntKind.i64.wrap raw)) - IntKind.i64.wrap (1000 * IntKind.i64.wrap (IntKind.i64.wrap (flo (IntKind.i64.wrap (IntKind.i64.wrap (1000 * x2.fst.offset) + IntKind.i64.wrap (x2.fst.scale * IntKind.i64.wrap raw))) 1000 + modz off (IntKind.i64.wrap (IntKind.i64.wrap (2 * x2.fst.error) + 1))) - x2.fst.error))) > IntKind.i64.wrap (1000 * x2.fst.error))) = true then some (.one (.bool true), [])
        else if (decide ((valueC { addr := x2.fst.addr, kind := x2.fst.kind, target := x2.fst.target, offset := x2.fst.offset, scale := x2.fst.scale, error := x2.fst.error, drift := x2.fst.drift, life := x2.fst.life : Sensor } (IntKind.i64.wrap raw)).lo ≤ IntKind.i64.wrap (IntKind.i64.wrap (flo (IntKind.i64.wrap (IntKind.i64.wrap (1000 * x2.fst.offset) + IntKind.i64.wrap (x2.fst.scale * IntKind.i64.wrap raw))) 1000 + modz off (IntKind.i64.wrap (IntKind.i64.wrap (2 * x2.fst.error) + 1))) - x2.fst.error))) = true then if (decide (IntKind.i64.wrap (IntKind.i64.wrap (flo (IntKind.i64.wrap (IntKind.i64.wrap (1000 * x2.fst.offset) + IntKind.i64.wrap (x2.fst.scale * IntKind.i64.wrap raw))) 1000 + modz off (IntKind.i64.wrap (IntKind.i64.wrap (2 * x2.fst.error) + 1))) - x2.fst.error) ≤ (valueC { addr := x2.fst.addr, kind := x2.fst.kind, target := x2.fst.target, offset := x2.fst.offset, scale := x2.fst.scale, error := x2.fst.error, drift := x2.fst.drift, life := x2.fst.life : Sensor } (IntKind.i64.wrap raw)).hi)) = true then if (decide ((valueC { addr := x2.fst.addr, kind := x2.fst.kind, target := x2.fst.target, offset := x2.fst.offset, scale := x2.fst.scale, error := IntKind.i64.wrap (x2.fst.error + IntKind.i64.wrap more), drift := x2.fst.drift, life := x2.fst.life : Sensor } (IntKind.i64.wrap raw)).lo ≤ (valueC { addr := x2.fst.addr, kind := x2.fst.kind, target := x2.fst.target, offset := x2.fst.offset, scale := x2.fst.scale, error := x2.fst.error, drift := x2.fst.drift, life := x2.fst.life : Sensor } (IntKind.i64.wrap raw)).lo)) = true then if (decide ((valueC { addr := x2.fst.addr, kind := x2.fst.kind, target := x2.fst.target, offset := x2.fst.offset, scale := x2.fst.scale, error := IntKind.i64.wrap (x2.fst.error + IntKind.i64.wrap more), drift := x2.fst.drift, life := x2.fst.life : Sensor } (IntKind.i64.wrap raw)).hi ≥ (valueC { addr := x2.fst.addr, kind := x2.fst.kind, target := x2.fst.target, offset := x2.fst.offset, scale := x2.fst.scale, error := x2.fst.error, drift := x2.fst.drift, life := x2.fst.life : Sensor } (IntKind.i64.wrap raw)).hi)) = true then some (.one (.bool true), [])
                else some (.one (.bool false), [])
              else some (.one (.bool false), [])
            else some (.one (.bool false), [])
          else some (.one (.bool false), []) := by kernel_rfl
theorem v11 (l : List Int) (raw off more : Int) (hl : l.all u8B = true) (hr : u16B raw = true) (hm : u8B more = true) : h11 1 l raw off more = some (.one (.bool true), []) := by
  rw [u16B_iff] at hr
  rw [u8B_iff] at hm
  have k0 := cok0 hl
  obtain ⟨s, p2, e2, hs, g1, g2, g3, k2⟩ := sens_ok (a := 3) (b := 0) (c := 0) k0 (by omega)
  rw [h11_eq, e2, Option.bind_some]
  dsimp only
  have hc := hs.check g2 g3
  have h2 := hs.offset
  have h3 := hs.scale
  have h4 := hs.error
  have hx := mul_le_of (show 0 ≤ s.scale by omega) h3.2 hr.1 (show raw ≤ 65535 by omega)
  have w1 : IntKind.i64.wrap raw = raw := wid (by omega) (by omega)
  have w2 : IntKind.i64.wrap (1000 * s.offset) = 1000 * s.offset := wid (by omega) (by omega)
  have w4 : IntKind.i64.wrap (1000 * s.error) = 1000 * s.error := wid (by omega) (by omega)
  have w5 : IntKind.i64.wrap (2 * s.error) = 2 * s.error := wid (by omega) (by omega)
  have w6 : IntKind.i64.wrap (2 * s.error + 1) = 2 * s.error + 1 := wid (by omega) (by omega)
  have w7 : IntKind.i64.wrap more = more := wid (by omega) (by omega)
  have w8 : IntKind.i64.wrap (s.error + more) = s.error + more := wid (by omega) (by omega)
  have rm := modz_range (k := off) (n := 2 * s.error + 1) (by omega) (by omega)
  simp only [w1, w2, w4, w5, w6, w7, w8]
  have hv : ∀ m, valueC s m = valT s m := fun m => by
    unfold valueC
    rw [if_neg (by simp [hc])]
  obtain ⟨wd, hwd⟩ : ∃ wd : Sensor, wd = ⟨s.addr, s.kind, s.target, s.offset, s.scale, s.error + more, s.drift, s.life⟩ := ⟨_, rfl⟩
  have hcw : checkS wd = 0 := by
    rw [hwd]
    unfold checkS
    have h1 := hs.kind
    have h5 := hs.drift
    have h6 := hs.life
    dsimp only
    rw [if_neg (by omega), if_pos (by omega)]
  have hvw : ∀ m, valueC wd m = valT wd m := fun m => by
    unfold valueC
    rw [if_neg (by simp [hcw])]
  rw [← hwd]
  have hV : valT s raw = ⟨s.offset + s.scale * raw / 1000 - s.error, s.offset - (-(s.scale * raw)) / 1000 + s.error⟩ := by
    unfold valT
    rw [if_neg (by omega), if_neg (by omega), if_neg (by omega), if_neg (by omega), if_neg (by omega), valSpan_eq hc (by omega)]
  have hW : valT wd raw = ⟨s.offset + s.scale * raw / 1000 - (s.error + more), s.offset - (-(s.scale * raw)) / 1000 + (s.error + more)⟩ := by
    have hk : wd.kind = 3 := by rw [hwd]; exact g1
    unfold valT
    rw [if_neg (by omega), if_neg (by omega), if_neg (by omega), if_neg (by omega), if_neg (by omega), valSpan_eq hcw (by omega), hwd]
  show (if _ then _ else if _ then _ else if (decide ((valueC s raw).lo ≤ _)) = true then (if (decide (_ ≤ (valueC s raw).hi)) = true then (if (decide ((valueC wd raw).lo ≤ (valueC s raw).lo)) = true then (if (decide ((valueC wd raw).hi ≥ (valueC s raw).hi)) = true then _ else _) else _) else _) else _) = _
  rw [hv, hvw, hV, hW]
  clear hV hW hv hvw hcw hwd
  generalize s.scale * raw = x at *
  generalize modz off (2 * s.error + 1) = md at *
  have w9 : IntKind.i64.wrap x = x := wid (by omega) (by omega)
  have w10 : IntKind.i64.wrap (1000 * s.offset + x) = 1000 * s.offset + x := wid (by omega) (by omega)
  simp only [w9, w10]
  rw [flo_eq (by omega) (by omega)]
  have w11 : IntKind.i64.wrap ((1000 * s.offset + x) / 1000 + md) = (1000 * s.offset + x) / 1000 + md := wid (by omega) (by omega)
  have w12 : IntKind.i64.wrap ((1000 * s.offset + x) / 1000 + md - s.error) = (1000 * s.offset + x) / 1000 + md - s.error := wid (by omega) (by omega)
  simp only [w11, w12]
  have w13 : IntKind.i64.wrap (1000 * ((1000 * s.offset + x) / 1000 + md - s.error)) = 1000 * ((1000 * s.offset + x) / 1000 + md - s.error) := wid (by omega) (by omega)
  simp only [w13]
  have w14 : IntKind.i64.wrap (1000 * ((1000 * s.offset + x) / 1000 + md - s.error) - (1000 * s.offset + x)) = 1000 * ((1000 * s.offset + x) / 1000 + md - s.error) - (1000 * s.offset + x) := wid (by omega) (by omega)
  have w15 : IntKind.i64.wrap (1000 * s.offset + x - 1000 * ((1000 * s.offset + x) / 1000 + md - s.error)) = 1000 * s.offset + x - 1000 * ((1000 * s.offset + x) / 1000 + md - s.error) := wid (by omega) (by omega)
  simp only [w14, w15, decide_eq_true_eq]
  by_cases c1 : 1000 * ((1000 * s.offset + x) / 1000 + md - s.error) - (1000 * s.offset + x) > 1000 * s.error
  · rw [if_pos c1]
  rw [if_neg c1]
  by_cases c2 : 1000 * s.offset + x - 1000 * ((1000 * s.offset + x) / 1000 + md - s.error) > 1000 * s.error
  · rw [if_pos c2]
  rw [if_neg c2, if_pos (by omega), if_pos (by omega), if_pos (by omega), if_pos (by omega)]
def s11 : Spec := ⟨false, fun av ob => match av, ob with
  | [.one (.vec false .u8 l), .one (.int .u16 raw), .one (.int .i64 off), .one (.int .u8 more)], [] => .need (l.all u8B && (u16B raw && (i64B off && (u8B more)))) (.ret (.one (.bool true), []))
  | _, _ => .fail⟩
theorem p11 : SpecOK Try.prog 11 s11 := by
  refine specOK_of (env_ok (l := l11) ⟨⟨p26, f26⟩, ⟨⟨pc31, f31⟩, ⟨⟨p41, f41⟩, ⟨⟨p53, f53⟩, ⟨⟨p27, f27⟩, ⟨⟨p40, f40⟩, trivial⟩⟩⟩⟩⟩⟩) mixed_ok Try.func11 k11 fun av ob r os hrn => ?_
  simp only [s11] at hrn
  split at hrn
  · rename_i l raw off more
    obtain ⟨hg, hrn⟩ := need_den hrn
    cases hrn
    simp only [Bool.and_eq_true] at hg
    obtain ⟨q1, q2, q3, q4⟩ := hg
    have hv := v11 l raw off more q1 q2 q4
    unfold h11 at hv
    exact ⟨1, hv⟩
  · cases hrn
theorem law11 (av : List AV) (h : AVs [RBytes, RU16, RInt, RU8] av) : (s11.run av []).den = some (.one (.bool true), []) := by
  obtain ⟨_, _, rfl, ⟨l, rfl, q1⟩, k1⟩ := h.cons
  obtain ⟨_, _, rfl, ⟨raw, rfl, q2⟩, k2⟩ := k1.cons
  obtain ⟨_, _, rfl, ⟨off, rfl, q3⟩, k3⟩ := k2.cons
  obtain ⟨_, _, rfl, ⟨more, rfl, q4⟩, k4⟩ := k3.cons
  rw [k4.nil]
  refine den_need ?_
  simp only [Bool.and_eq_true]
  exact ⟨q1, q2, q3, q4⟩
end Go.Proofs.Ytipfipnhgpbceaa.Sx
