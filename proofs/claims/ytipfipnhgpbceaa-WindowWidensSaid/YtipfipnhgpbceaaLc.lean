/- What a measurement says gets no narrower with time (plain theorems). -/
import Derived.Test.YtipfipnhgpbceaaLb
set_option linter.unusedVariables false
set_option linter.unusedSimpArgs false
set_option maxRecDepth 100000
namespace Go.Proofs.Ytipfipnhgpbceaa.Sx
open Go Go.RowKit
theorem measure_eta (m : Measure) : (⟨m.sensor, m.time, m.lo, m.hi⟩ : Measure) = m := rfl
def l5 : List (FuncId × Spec) := [(26, s26), (31, s31), (25, s25), (35, s35), (30, s30), (36, s36), (27, s27)]
def k5 : Code → Keep := keepOf []
noncomputable def h5 (fl : Nat) (l : List Int) (wait drift p : Int) : Option (AV × List Ob) := (evalF (env l5) Try.f5 k5 fl [.one (.vec false .u8 l), .one (.int .u8 wait), .one (.int .u8 drift), .one (.int .i64 p)] []).den
theorem h5_eq (fl : Nat) (l : List Int) (wait drift p : Int) : h5 (fl + 1) l wait drift p =
    if (cok (List.take 300 l) 0) = true then if (cok (List.take 300 l) (sensP (List.take 300 l) 0 3)) = true then if (decide (sensM (List.take 300 l) (sensP (List.take 300 l) 0 3) < 0)) = true then some (.one (.bool true), [])
        else if ((spanM (List.take 300 l) (sensP (List.take 300 l) 0 3)).lo == -1125899906842624 && (spanM (List.take 300 l) (sensP (List.take 300 l) 0 3)).hi == 1125899906842624) = true then some (.one (.bool true), [])
          else if (decide ((atI { addr := (sensV (List.take 300 l) 0 3 0 0).addr, kind := (sensV (List.take 300 l) 0 3 0 0).kind, target := (sensV (List.take 300 l) 0 3 0 0).target, offset := (sensV (List.take 300 l) 0 3 0 0).offset, scale := (sensV (List.take 300 l) 0 3 0 0).scale, error := (sensV (List.take 300 l) 0 3 0 0).error, drift := (sensV (List.take 300 l) 0 3 0 0).drift, life := (sensV (List.take 300 l) 0 3 0 0).life } { sensor := sensM (List.take 300 l) (sensP (List.take 300 l) 0 3), time := timeM (List.take 300 l) (sensP (List.take 300 l) 0 3), lo := (spanM (List.take 300 l) (sensP (List.take 300 l) 0 3)).lo, hi := (spanM (List.take 300 l) (sensP (List.take 300 l) 0 3)).hi } (IntKind.i64.wrap (IntKind.i64.wrap (timeM (List.take 300 l) (sensP (List.take 300 l) 0 3) + IntKind.i64.wrap wait) + 1))).lo > (atI { addr := (sensV (List.take 300 l) 0 3 0 0).addr, kind := (sensV (List.take 300 l) 0 3 0 0).kind, target := (sensV (List.take 300 l) 0 3 0 0).target, offset := (sensV (List.take 300 l) 0 3 0 0).offset, scale := (sensV (List.take 300 l) 0 3 0 0).scale, error := (sensV (List.take 300 l) 0 3 0 0).error, drift := (sensV (List.take 300 l) 0 3 0 0).drift, life := (sensV (List.take 300 l) 0 3 0 0).life } { sensor := sensM (List.take 300 l) (sensP (List.take 300 l) 0 3), time := timeM (List.take 300 l) (sensP (List.take 300 l) 0 3), lo := (spanM (List.take 300 l) (sensP (List.take 300 l) 0 3)).lo, hi := (spanM (List.take 300 l) (sensP (List.take 300 l) 0 3)).hi } (IntKind.i64.wrap (timeM (List.take 300 l) (sensP (List.take 300 l) 0 3) + IntKind.i64.wrap wait))).lo)) = true then some (.one (.bool false), [])
            else if (decide ((atI { addr := (sensV (List.take 300 l) 0 3 0 0).addr, kind := (sensV (List.take 300 l) 0 3 0 0).kind, target := (sensV (List.take 300 l) 0 3 0 0).target, offset := (sensV (List.take 300 l) 0 3 0 0).offset, scale := (sensV (List.take 300 l) 0 3 0 0).scale, error := (sensV (List.take 300 l) 0 3 0 0).error, drift := (sensV (List.take 300 l) 0 3 0 0).drift, life := (sensV (List.take 300 l) 0 3 0 0).life } { sensor := sensM (List.take 300 l) (sensP (List.take 300 l) 0 3), time := timeM (List.take 300 l) (sensP (List.take 300 l) 0 3), lo := (spanM (List.take 300 l) (sensP (List.take 300 l) 0 3)).lo, hi := (spanM (List.take 300 l) (sensP (List.take 300 l) 0 3)).hi } (IntKind.i64.wrap (IntKind.i64.wrap (timeM (List.take 300 l) (sensP (List.take 300 l) 0 3) + IntKind.i64.wrap wait) + 1))).hi < (atI { addr := (sensV (List.take 300 l) 0 3 0 0).addr, kind := (sensV (List.take 300 l) 0 3 0 0).kind, target := (sensV (List.take 300 l) 0 3 0 0).target, offset := (sensV (List.take 300 l) 0 3 0 0).offset, scale := (sensV (List.take 300 l) 0 3 0 0).scale, error := (sensV (List.take 300 l) 0 3 0 0).error, drift := (sensV (List.take 300 l) 0 3 0 0).drift, life := (sensV (List.take 300 l) 0 3 0 0).life } { sensor := sensM (List.take 300 l) (sensP (List.take 300 l) 0 3), time := timeM (List.take 300 l) (sensP (List.take 300 l) 0 3), lo := (spanM (List.take 300 l) (sensP (List.take 300 l) 0 3)).lo, hi := (spanM (List.take 300 l) (sensP (List.take 300 l) 0 3)).hi } (IntKind.i64.wrap (timeM (List.take 300 l) (sensP (List.take 300 l) 0 3) + IntKind.i64.wrap wait))).hi)) = true then some (.one (.bool false), [])
              else if (decide ((atI { addr := (sensV (List.take 300 l) 0 3 0 0).addr, kind := (sensV (List.take 300 l) 0 3 0 0).kind, target := (sensV (List.take 300 l) 0 3 0 0).target, offset := (sensV (List.take 300 l) 0 3 0 0).offset, scale := (sensV (List.take 300 l) 0 3 0 0).scale, error := (sensV (List.take 300 l) 0 3 0 0).error, drift := (sensV (List.take 300 l) 0 3 0 0).drift, life := (sensV (List.take 300 l) 0 3 0 0).life } { sensor := sensM (List.take 300 l) (sensP (List.take 300 l) 0 3), time := timeM (List.take 300 l) (sensP (List.take 300 l) 0 3), lo := (spanM (List.take 300 l) (sensP (List.take 300 l) 0 3)).lo, hi := (spanM (List.take 300 l) (sensP (List.take 300 l) 0 3)).hi } (IntKind.i64.wrap (timeM (List.take 300 l) (sensP (List.take 300 l) 0 3) + IntKind.i64.wrap wait))).lo ≤ IntKind.i64.wrap (IntKind.i64.wrap ((spanM (List.take 300 l) (sensP (List.take 300 l) 0 3)).lo + modz p (IntKind.i64.wrap (IntKind.i64.wrap ((spanM (List.take 300 l) (sensP (List.take 300 l) 0 3)).hi - (spanM (List.take 300 l) (sensP (List.take 300 l) 0 3)).lo) + 1))) - modz (IntKind.i64.wrap drift) (IntKind.i64.wrap (IntKind.i64.wrap ((IntKind.i64.wrap ((sensV (List.take 300 l) 0 3 0 0).drift * IntKind.i64.wrap wait)).tdiv 1000) + 1))))) = true then if (decide (IntKind.i64.wrap (IntKind.i64.wrap ((spanM (List.take 300 l) (sensP (List.take 300 l) 0 3)).lo + modz p (IntKind.i64.wrap (IntKind.i64.wrap ((spanM (List.take 300 l) (sensP (List.take 300 l) 0 3)).hi - (spanM (List.take 300 l) (sensP (List.take 300 l) 0 3)).lo) + 1))) + modz (IntKind.i64.wrap drift) (IntKind.i64.wrap (IntKind.i64.wrap ((IntKind.i64.wrap ((sensV (List.take 300 l) 0 3 0 0).drift * IntKind.i64.wrap wait)).tdiv 1000) + 1))) ≤ (atI { addr := (sensV (List.take 300 l) 0 3 0 0).addr, kind := (sensV (List.take 300 l) 0 3 0 0).kind, target := (sensV (List.take 300 l) 0 3 0 0).target, offset := (sensV (List.take 300 l) 0 3 0 0).offset, scale := (sensV (List.take 300 l) 0 3 0 0).scale, error := (sensV (List.take 300 l) 0 3 0 0).error, drift := (sensV (List.take 300 l) 0 3 0 0).drift, life := (sensV (List.take 300 l) 0 3 0 0).life } { sensor := sensM (List.take 300 l) (sensP (List.take 300 l) 0 3), time := timeM (List.take 300 l) (sensP (List.take 300 l) 0 3), lo := (spanM (List.take 300 l) (sensP (List.take 300 l) 0 3)).lo, hi := (spanM (List.take 300 l) (sensP (List.take 300 l) 0 3)).hi } (IntKind.i64.wrap (timeM (List.take 300 l) (sensP (List.take 300 l) 0 3) + IntKind.i64.wrap wait))).hi)) = true then some (.one (.bool true), [])
                  else some (.one (.bool false), [])
                else some (.one (.bool false), [])
      else none
    else none := by kernel_rfl
theorem v5 (l : List Int) (wait drift p : Int) (h : l.all u8B = true) (hw : u8B wait = true) (hd : u8B drift = true) : h5 1 l wait drift p = some (.one (.bool true), []) := by
  rw [u8B_iff] at hw hd
  have k0 := cok0 h
  have k2 := cok_sensP (a := 3) k0
  rw [h5_eq, if_pos k0, if_pos k2]
  obtain ⟨hS, hk, _⟩ := sensV_ok (a := 3) (b := 0) (c := 0) k0 (by omega)
  have hM := measV_ok k2
  obtain ⟨M, hMe⟩ : ∃ M, M = measV (List.take 300 l) (sensP (List.take 300 l) 0 3) := ⟨_, rfl⟩
  have f1 : sensM (List.take 300 l) (sensP (List.take 300 l) 0 3) = M.sensor := by rw [hMe]; rfl
  have f2 : timeM (List.take 300 l) (sensP (List.take 300 l) 0 3) = M.time := by rw [hMe]; rfl
  have f3 : (spanM (List.take 300 l) (sensP (List.take 300 l) 0 3)).lo = M.lo := by rw [hMe]; rfl
  have f4 : (spanM (List.take 300 l) (sensP (List.take 300 l) 0 3)).hi = M.hi := by rw [hMe]; rfl
  rw [← hMe] at hM
  simp only [f1, f2, f3, f4]
  generalize sensV (List.take 300 l) 0 3 0 0 = S at *
  clear f1 f2 f3 f4 hMe
  have hT := hM.time
  have hL := hS.life
  have hD := hS.drift
  have hlo := hM.lo
  have hhi := hM.hi
  have g1 : IntKind.i64.wrap wait = wait := wid (by omega) (by omega)
  have g2 : IntKind.i64.wrap (M.time + wait) = M.time + wait := wid (by omega) (by omega)
  have g3 : IntKind.i64.wrap (M.time + wait + 1) = M.time + wait + 1 := wid (by omega) (by omega)
  have g4 : IntKind.i64.wrap drift = drift := wid (by omega) (by omega)
  have hp := mul_le_of hD.1 hD.2 hw.1 (show wait ≤ 255 by omega)
  have g5 : IntKind.i64.wrap (S.drift * wait) = S.drift * wait := wid (by omega) (by omega)
  have g6 : (S.drift * wait).tdiv 1000 = S.drift * wait / 1000 := Int.tdiv_eq_ediv_of_nonneg hp.1
  have g7 : IntKind.i64.wrap (S.drift * wait / 1000) = S.drift * wait / 1000 := wid (by omega) (by omega)
  have g8 : IntKind.i64.wrap (S.drift * wait / 1000 + 1) = S.drift * wait / 1000 + 1 := wid (by omega) (by omega)
  simp only [g1, g2, g3, g4, g5, g6, g7, g8]
  by_cases c1 : M.sensor < 0
  · rw [if_pos (by simpa using c1)]
  rw [if_neg (by simpa using c1)]
  by_cases c2 : (M.lo == -1125899906842624 && M.hi == 1125899906842624) = true
  · rw [if_pos c2]
  rw [if_neg c2]
  have hsome : -30 ≤ M.lo ∧ M.hi ≤ 129 := by
    rcases hM.some with hh | hh
    · exact absurd (by simp [hh.1, hh.2]) c2
    · exact hh
  have g9 : IntKind.i64.wrap (M.hi - M.lo) = M.hi - M.lo := wid (by omega) (by omega)
  have g10 : IntKind.i64.wrap (M.hi - M.lo + 1) = M.hi - M.lo + 1 := wid (by omega) (by omega)
  have r1 := modz_range (k := p) (n := M.hi - M.lo + 1) (by omega) (by omega)
  have r2 := modz_range (k := drift) (n := S.drift * wait / 1000 + 1) (by omega) (by omega)
  simp only [g9, g10]
  generalize modz p (M.hi - M.lo + 1) = a at *
  generalize modz drift (S.drift * wait / 1000 + 1) = b at *
  have g11 : IntKind.i64.wrap (M.lo + a) = M.lo + a := wid (by omega) (by omega)
  have g12 : IntKind.i64.wrap (M.lo + a - b) = M.lo + a - b := wid (by omega) (by omega)
  have g13 : IntKind.i64.wrap (M.lo + a + b) = M.lo + a + b := wid (by omega) (by omega)
  simp only [g11, g12, g13, decide_eq_true_eq]
  have hm : 0 ≤ M.time ∧ M.time ≤ 4611686018427387904 := by omega
  rw [at_plain hm (t := M.time + wait) (by omega) hlo.1 hhi.2 hhi.1, at_plain hm (t := M.time + wait + 1) (by omega) hlo.1 hhi.2 hhi.1]
  have kk : ¬ S.kind ≥ 4 := by omega
  have kk2 : ¬ S.kind ≤ 2 := by omega
  simp only [kk, kk2, if_false]
  have hmm := more_mono (s := S) (m := M) (t := M.time + wait) (t' := M.time + wait + 1) hD.1 (by omega)
  have hmo : moreT S M (M.time + wait) = (S.drift * wait + 999) / 1000 := by
    unfold moreT
    rw [show M.time + wait - M.time = wait by omega]
  obtain ⟨_, _, m3, m4⟩ := more_both (s := S) (m := M) (t := M.time + wait + 1) (by omega) (by omega) (by omega)
  rw [hmo] at hmm ⊢
  cases d1 : atDead S M (M.time + wait) with
  | true =>
    have d2 : atDead S M (M.time + wait + 1) = true := by
      cases d2 : atDead S M (M.time + wait + 1) with
      | true => rfl
      | false => rw [dead_mono hm (by omega) (show M.time + wait ≤ M.time + wait + 1 by omega) (by omega) d2] at d1; cases d1
    simp only [d2, if_true, nothing]
    rw [if_neg (by omega), if_neg (by omega), if_pos (by omega), if_pos (by omega)]
  | false =>
    cases d2 : atDead S M (M.time + wait + 1) with
    | true =>
      simp only [Bool.false_eq_true, if_false, if_true, nothing]
      rw [if_neg (by omega), if_neg (by omega), if_pos (by omega), if_pos (by omega)]
    | false =>
      simp only [Bool.false_eq_true, if_false]
      rw [if_neg (by omega), if_neg (by omega), if_pos (by omega), if_pos (by omega)]
def s5 : Spec := ⟨false, fun av ob => match av, ob with
  | [.one (.vec false .u8 l), .one (.int .u8 wait), .one (.int .u8 drift), .one (.int .i64 p)], [] => .need (l.all u8B && (u8B wait && (u8B drift && (i64B p)))) (.ret (.one (.bool true), []))
  | _, _ => .fail⟩
theorem p5 : SpecOK Try.prog 5 s5 := by
  refine specOK_of (env_ok (l := l5) ⟨⟨p26, f26⟩, ⟨⟨p31, f31⟩, ⟨⟨p25, f25⟩, ⟨⟨p35, f35⟩, ⟨⟨p30, f30⟩, ⟨⟨p36, f36⟩, ⟨⟨p27, f27⟩, trivial⟩⟩⟩⟩⟩⟩⟩) mixed_ok Try.func5 k5 fun av ob r os hrn => ?_
  simp only [s5] at hrn
  split at hrn
  · rename_i l wait drift p
    obtain ⟨hg, hrn⟩ := need_den hrn
    cases hrn
    simp only [Bool.and_eq_true] at hg
    obtain ⟨q1, q2, q3, q4⟩ := hg
    have hv := v5 l wait drift p q1 q2 q3
    unfold h5 at hv
    exact ⟨1, hv⟩
  · cases hrn
theorem law5 (av : List AV) (h : AVs [RBytes, RU8, RU8, RInt] av) : (s5.run av []).den = some (.one (.bool true), []) := by
  obtain ⟨_, _, rfl, ⟨l, rfl, q1⟩, k1⟩ := h.cons
  obtain ⟨_, _, rfl, ⟨wait, rfl, q2⟩, k2⟩ := k1.cons
  obtain ⟨_, _, rfl, ⟨drift, rfl, q3⟩, k3⟩ := k2.cons
  obtain ⟨_, _, rfl, ⟨p, rfl, q4⟩, k4⟩ := k3.cons
  rw [k4.nil]
  refine den_need ?_
  simp only [Bool.and_eq_true]
  exact ⟨q1, q2, q3, q4⟩
end Go.Proofs.Ytipfipnhgpbceaa.Sx
