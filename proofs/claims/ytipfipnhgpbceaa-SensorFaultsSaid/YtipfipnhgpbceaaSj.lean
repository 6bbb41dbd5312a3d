/- A sensor that is out of order, or a number that is no state, tells nothing (plain theorems). -/
import Derived.Test.YtipfipnhgpbceaaSh
import Derived.Test.YtipfipnhgpbceaaSf
set_option linter.unusedVariables false
set_option linter.unusedSimpArgs false
set_option maxRecDepth 100000
namespace Go.Proofs.Ytipfipnhgpbceaa.Sx
open Go Go.RowKit
theorem or_bytes (a b : Nat) (ha : a < 256) (hb : b < 256) : bits BinOp.or IntKind.i64 ((a * 256 : Nat) : Int) (b : Int) = ((a * 256 + b : Nat) : Int) := by
  have h1 : (BitVec.ofInt 64 ((a * 256 : Nat) : Int)).toNat = a * 256 := by
    rw [BitVec.toNat_ofInt]; omega
  have h2 : (BitVec.ofInt 64 (b : Int)).toNat = b := by
    rw [BitVec.toNat_ofInt]; omega
  have h3 : a * 256 ||| b = a * 256 + b := by
    have := Nat.shiftLeft_add_eq_or_of_lt (b := b) (i := 8) (by omega) a
    rw [Nat.shiftLeft_eq] at this
    exact this.symm
  show IntKind.i64.wrap ((BitVec.ofInt 64 ((a * 256 : Nat) : Int) ||| BitVec.ofInt 64 (b : Int)).toNat : Int) = _
  rw [BitVec.toNat_or, h1, h2, h3]
  exact wid (by omega) (by omega)
theorem rawOf_two (n : Int) (hn : 0 ≤ n ∧ n < 65536) : rawOf [IntKind.u8.wrap (n.fdiv 256), IntKind.u8.wrap n] = n := by
  obtain ⟨m, rfl⟩ : ∃ m : Nat, n = m := ⟨n.toNat, by omega⟩
  have e0 : (m : Int).fdiv 256 = ((m / 256 : Nat) : Int) := by
    rw [Int.fdiv_eq_ediv_of_nonneg _ (by omega)]; rfl
  have e1 : IntKind.u8.wrap ((m / 256 : Nat) : Int) = ((m / 256 : Nat) : Int) := by
    have : IntKind.u8.wrap ((m / 256 : Nat) : Int) = ((m / 256 : Nat) : Int) % 256 := rfl
    rw [this]; omega
  have e2 : IntKind.u8.wrap (m : Int) = ((m % 256 : Nat) : Int) := by
    have : IntKind.u8.wrap (m : Int) = (m : Int) % 256 := rfl
    rw [this]; omega
  rw [e0, e1, e2]
  unfold rawOf
  have e3 : ([((m / 256 : Nat) : Int), ((m % 256 : Nat) : Int)].getD (Int.toNat 0) (dflt K.u8)) = ((m / 256 : Nat) : Int) := rfl
  have e4 : ([((m / 256 : Nat) : Int), ((m % 256 : Nat) : Int)].getD (Int.toNat 1) (dflt K.u8)) = ((m % 256 : Nat) : Int) := rfl
  rw [e3, e4]
  have e5 : IntKind.i64.wrap (IntKind.i64.wrap ((m / 256 : Nat) : Int) * 256) = ((m / 256 * 256 : Nat) : Int) := by
    rw [wid (n := ((m / 256 : Nat) : Int)) (by omega) (by omega), wid (by omega) (by omega)]; omega
  have e6 : IntKind.i64.wrap ((m % 256 : Nat) : Int) = ((m % 256 : Nat) : Int) := wid (by omega) (by omega)
  rw [e5, e6, or_bytes _ _ (by omega) (by omega)]
  omega
theorem dec_two {s : Sensor} (ha : s.addr = 5) (hc : checkS s = 0) (x y : Int) : decT [s] 5 1 [x, y] 3 = (⟨0, 3, (valT s (rawOf [x, y])).lo, (valT s (rawOf [x, y])).hi⟩, 0) := by
  have hg : goAt [s] 5 [s].length (-1) = 0 := by
    show goAt [s] 5 0 (if ((sensAt [s] ((0 : Nat) : Int)).addr == 5) = true then ((0 : Nat) : Int) else -1) = 0
    have : (sensAt [s] ((0 : Nat) : Int)).addr = 5 := ha
    rw [this]; rfl
  have hs : sensAt [s] 0 = s := rfl
  unfold decT
  rw [if_neg (by omega), hg]
  unfold decEnd
  rw [if_neg (by omega), hs, if_neg (by simp [hc]), if_pos rfl, if_neg (by simp)]
theorem dec_none {s : Sensor} (ha : s.addr = 5) (hc : checkS s = 0) : decT [s] 5 2 [] 3 = (⟨0, 3, -1125899906842624, 1125899906842624⟩, 0) := by
  have hg : goAt [s] 5 [s].length (-1) = 0 := by
    show goAt [s] 5 0 (if ((sensAt [s] ((0 : Nat) : Int)).addr == 5) = true then ((0 : Nat) : Int) else -1) = 0
    have : (sensAt [s] ((0 : Nat) : Int)).addr = 5 := ha
    rw [this]; rfl
  have hs : sensAt [s] 0 = s := rfl
  unfold decT
  rw [if_neg (by omega), hg]
  unfold decEnd
  rw [if_neg (by omega), hs, if_neg (by simp [hc]), if_neg (by omega), if_pos rfl, if_neg (by simp)]
noncomputable def l12 : List (FuncId × Spec) := [(26, s26), (31, c31), (49, c49), (54, s54), (40, s40)]
def k12 : Code → Keep := keepOf []
noncomputable def h12 (fl : Nat) (l : List Int) (n k : Int) : Option (AV × List Ob) := (evalF (env l12) Try.f12 k12 fl [.one (.vec false .u8 l), .one (.int .u16 n), .one (.int .u8 k)] []).den
theorem h12_eq (fl : Nat) (l : List Int) (n k : Int) : h12 (fl + 1) l n k =
    if (idx [1, 2, 5].length ((IntKind.i64.wrap k).tmod 3)) = true then (sensO (List.take 300 l) 0 (IntKind.i64.wrap (4 + (IntKind.i64.wrap k).tmod 3)) 5 0).bind fun x3 =>
      if (decide ([{ addr := x3.fst.addr, kind := x3.fst.kind, target := x3.fst.target, offset := x3.fst.offset, scale := x3.fst.scale, error := x3.fst.error, drift := x3.fst.drift, life := x3.fst.life : Sensor }].length ≤ 1000000)) = true then if (decide ([{ addr := x3.fst.addr, kind := x3.fst.kind, target := x3.fst.target, offset := x3.fst.offset, scale := x3.fst.scale, error := x3.fst.error, drift := x3.fst.drift, life := x3.fst.life : Sensor }].length ≤ 1000000)) = true then if (decide (IntKind.i64.wrap n > [1, 2, 5].getD ((IntKind.i64.wrap k).tmod 3).toNat (dflt K.int))) = true then if ((decT [{ addr := x3.fst.addr, kind := x3.fst.kind, target := x3.fst.target, offset := x3.fst.offset, scale := x3.fst.scale, error := x3.fst.error, drift := x3.fst.drift, life := x3.fst.life : Sensor }] 5 2 [] 3).snd == 0) = true then if ((decT [{ addr := x3.fst.addr, kind := x3.fst.kind, target := x3.fst.target, offset := x3.fst.offset, scale := x3.fst.scale, error := x3.fst.error, drift := x3.fst.drift, life := x3.fst.life : Sensor }] 5 1 [IntKind.u8.wrap (n.fdiv 256), IntKind.u8.wrap n] 3).snd == 0) = true then if ((decT [{ addr := x3.fst.addr, kind := x3.fst.kind, target := x3.fst.target, offset := x3.fst.offset, scale := x3.fst.scale, error := x3.fst.error, drift := x3.fst.drift, life := x3.fst.life : Sensor }] 5 2 [] 3).fst.lo == -1125899906842624 && (decT [{ addr := x3.fst.addr, kind := x3.fst.kind, target := x3.fst.target, offset := x3.fst.offset, scale := x3.fst.scale, error := x3.fst.error, drift := x3.fst.drift, life := x3.fst.life : Sensor }] 5 2 [] 3).fst.hi == 1125899906842624) = true then if ((decT [{ addr := x3.fst.addr, kind := x3.fst.kind, target := x3.fst.target, offset := x3.fst.offset, scale := x3.fst.scale, error := x3.fst.error, drift := x3.fst.drift, life := x3.fst.life : Sensor }] 5 1 [IntKind.u8.wrap (n.fdiv 256), IntKind.u8.wrap n] 3).fst.lo == -1125899906842624 && (decT [{ addr := x3.fst.addr, kind := x3.fst.kind, target := x3.fst.target, offset := x3.fst.offset, scale := x3.fst.scale, error := x3.fst.error, drift := x3.fst.drift, life := x3.fst.life : Sensor }] 5 1 [IntKind.u8.wrap (n.fdiv 256), IntKind.u8.wrap n] 3).fst.hi == 1125899906842624) = true then some (.one (.bool true), [])
                    else some (.one (.bool false), [])
                  else some (.one (.bool false), [])
                else some (.one (.bool false), [])
              else some (.one (.bool false), [])
            else if ((decT [{ addr := x3.fst.addr, kind := x3.fst.kind, target := x3.fst.target, offset := x3.fst.offset, scale := x3.fst.scale, error := x3.fst.error, drift := x3.fst.drift, life := x3.fst.life : Sensor }] 5 2 [] 3).snd == 0) = true then if ((decT [{ addr := x3.fst.addr, kind := x3.fst.kind, target := x3.fst.target, offset := x3.fst.offset, scale := x3.fst.scale, error := x3.fst.error, drift := x3.fst.drift, life := x3.fst.life : Sensor }] 5 1 [IntKind.u8.wrap (n.fdiv 256), IntKind.u8.wrap n] 3).snd == 0) = true then if ((decT [{ addr := x3.fst.addr, kind := x3.fst.kind, target := x3.fst.target, offset := x3.fst.offset, scale := x3.fst.scale, error := x3.fst.error, drift := x3.fst.drift, life := x3.fst.life : Sensor }] 5 2 [] 3).fst.lo == -1125899906842624 && (decT [{ addr := x3.fst.addr, kind := x3.fst.kind, target := x3.fst.target, offset := x3.fst.offset, scale := x3.fst.scale, error := x3.fst.error, drift := x3.fst.drift, life := x3.fst.life : Sensor }] 5 2 [] 3).fst.hi == 1125899906842624) = true then if ((decT [{ addr := x3.fst.addr, kind := x3.fst.kind, target := x3.fst.target, offset := x3.fst.offset, scale := x3.fst.scale, error := x3.fst.error, drift := x3.fst.drift, life := x3.fst.life : Sensor }] 5 1 [IntKind.u8.wrap (n.fdiv 256), IntKind.u8.wrap n] 3).fst.lo == IntKind.i64.wrap n && (decT [{ addr := x3.fst.addr, kind := x3.fst.kind, target := x3.fst.target, offset := x3.fst.offset, scale := x3.fst.scale, error := x3.fst.error, drift := x3.fst.drift, life := x3.fst.life : Sensor }] 5 1 [IntKind.u8.wrap (n.fdiv 256), IntKind.u8.wrap n] 3).fst.hi == IntKind.i64.wrap n) = true then some (.one (.bool true), [])
                    else some (.one (.bool false), [])
                  else some (.one (.bool false), [])
                else some (.one (.bool false), [])
              else some (.one (.bool false), [])
          else none
        else none
    else none := by kernel_rfl
theorem v12 (l : List Int) (n k : Int) (hl : l.all u8B = true) (hn : u16B n = true) (hk : u8B k = true) : h12 1 l n k = some (.one (.bool true), []) := by
  rw [u16B_iff] at hn
  rw [u8B_iff] at hk
  have k0 := cok0 hl
  have w1 : IntKind.i64.wrap k = k := wid (by omega) (by omega)
  have w2 : k.tmod 3 = k % 3 := Int.tmod_eq_emod_of_nonneg hk.1
  have w3 : IntKind.i64.wrap (4 + k % 3) = 4 + k % 3 := wid (by omega) (by omega)
  have w4 : IntKind.i64.wrap n = n := wid (by omega) (by omega)
  obtain ⟨s, p2, e2, hs, g1, g2, g3, k2⟩ := sens_ok (a := 4 + k % 3) (b := 5) (c := 0) k0 (by omega)
  have hc : checkS s = 0 := by
    unfold checkS
    have h1 := hs.kind
    have h2 := hs.offset
    have h3 := hs.scale
    have h4 := hs.error
    have h5 := hs.drift
    have h6 := hs.life
    rw [if_neg (by omega), if_pos (by omega)]
  rw [h12_eq, w1, w2, w3, if_pos (by show idx 3 (k % 3) = true; exact idx_of (by omega) (by omega)), e2, Option.bind_some]
  dsimp only
  have hd : ∀ z : Sensor, decide ([z].length ≤ 1000000) = true := fun z => by simp
  have d1 := dec_none g2 hc
  have d2 := dec_two g2 hc (IntKind.u8.wrap (n.fdiv 256)) (IntKind.u8.wrap n)
  rw [rawOf_two n (by omega)] at d2
  rw [if_pos (hd _), if_pos (hd _), w4]
  simp only [d1, d2]
  have hv : ∀ m : Int, (k % 3 = 0 → m = 1) → (k % 3 = 1 → m = 2) → (k % 3 = 2 → m = 5) → valT s n = if n > m then nothing else ⟨n, n⟩ := by
    intro m m0 m1 m2
    unfold valT
    rw [if_neg (by omega)]
    by_cases q0 : k % 3 = 0
    · rw [if_pos (by omega), m0 q0]
    · by_cases q1 : k % 3 = 1
      · rw [if_neg (by omega), if_pos (by omega), m1 q1]
      · have q2 : k % 3 = 2 := by omega
        rw [if_neg (by omega), if_neg (by omega), if_pos (by omega), m2 q2]
  have hm : valT s n = if n > [(1 : Int), 2, 5].getD (k % 3).toNat (dflt K.int) then nothing else ⟨n, n⟩ := by
    refine hv _ (fun q => ?_) (fun q => ?_) (fun q => ?_) <;> rw [q] <;> rfl
  rw [hm]
  generalize [(1 : Int), 2, 5].getD (k % 3).toNat (dflt K.int) = mm
  by_cases c : n > mm
  · simp [c, nothing]
  · simp [c]
def s12 : Spec := ⟨false, fun av ob => match av, ob with
  | [.one (.vec false .u8 l), .one (.int .u16 n), .one (.int .u8 k)], [] => .need (l.all u8B && (u16B n && (u8B k))) (.ret (.one (.bool true), []))
  | _, _ => .fail⟩
theorem p12 : SpecOK Try.prog 12 s12 := by
  refine specOK_of (env_ok (l := l12) ⟨⟨p26, f26⟩, ⟨⟨pc31, f31⟩, ⟨⟨pc49, f49⟩, ⟨⟨p54, f54⟩, ⟨⟨p40, f40⟩, trivial⟩⟩⟩⟩⟩) mixed_ok Try.func12 k12 fun av ob r os hrn => ?_
  simp only [s12] at hrn
  split at hrn
  · rename_i l n k
    obtain ⟨hg, hrn⟩ := need_den hrn
    cases hrn
    simp only [Bool.and_eq_true] at hg
    obtain ⟨q1, q2, q3⟩ := hg
    have hv := v12 l n k q1 q2 q3
    unfold h12 at hv
    exact ⟨1, hv⟩
  · cases hrn
theorem law12 (av : List AV) (h : AVs [RBytes, RU16, RU8] av) : (s12.run av []).den = some (.one (.bool true), []) := by
  obtain ⟨_, _, rfl, ⟨l, rfl, q1⟩, k1⟩ := h.cons
  obtain ⟨_, _, rfl, ⟨n, rfl, q2⟩, k2⟩ := k1.cons
  obtain ⟨_, _, rfl, ⟨k, rfl, q3⟩, k3⟩ := k2.cons
  rw [k3.nil]
  refine den_need ?_
  simp only [Bool.and_eq_true]
  exact ⟨q1, q2, q3⟩
end Go.Proofs.Ytipfipnhgpbceaa.Sx
