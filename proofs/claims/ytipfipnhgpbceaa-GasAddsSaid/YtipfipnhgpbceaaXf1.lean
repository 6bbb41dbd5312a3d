/- Plain theorems and definitions for the claim, put together out of several texts. -/
import Derived.Test.YtipfipnhgpbceaaXf
/- The greatest concentrations, of made mines and flows, and of any with some flows (plain theorems). -/

set_option linter.unusedVariables false
set_option linter.unusedSimpArgs false
set_option maxRecDepth 100000
namespace Go.Proofs.Ytipfipnhgpbceaa.Sx
open Go Go.RowKit
theorem most_two (b1 : Bool) (P : List Place) (b2 : Bool) (R : List Road) (b3 : Bool) (f : List Span) (b4 : Bool) (L : List Source) (hfb : ∀ i, i < R.length → -4611686018427387904 ≤ (f.getD i ⟨0, 0⟩).hi) : ∃ x, o47 b1 P b2 R b3 f b4 L = some x ∧ o75 b1 P b2 R b3 f b4 L = some x ∧ MostB P R f L x := by
  obtain ⟨x, e1, h1⟩ := pmost_ok b1 P b2 R b3 f b4 L
  obtain ⟨y, e2, h2⟩ := rmost_ok b1 P b2 R b3 f b4 L hfb
  have := h1.uni h2
  subst this
  exact ⟨x, e1, e2, h1⟩
theorem MostB.plen {P : List Place} {R : List Road} {f : List Span} {L : List Source} {x : List Int × List Int × Int} (h : MostB P R f L x) : x.1.length ≤ P.length ∧ x.2.1.length ≤ R.length := by
  by_cases c : checkG P R L = 0
  · by_cases c2 : f.length = R.length
    · obtain ⟨_, h2⟩ := h.ok c c2
      exact ⟨Nat.le_of_eq h2.plen, Nat.le_of_eq h2.rlen⟩
    · rw [h.len c c2]; simp
  · rw [h.bad c]; simp
theorem MostB.err {P : List Place} {R : List Road} {f : List Span} {L : List Source} {x : List Int × List Int × Int} (h : MostB P R f L x) : x.2.2 = if checkG P R L = 0 then (if f.length = R.length then 0 else 11) else checkG P R L := by
  by_cases c : checkG P R L = 0
  · by_cases c2 : f.length = R.length
    · rw [if_pos c, if_pos c2, (h.ok c c2).1]
    · rw [if_pos c, if_neg c2, h.len c c2]
  · rw [if_neg c, h.bad c]
theorem about_hi {S : List Span} {W : List Int} {n : Nat} (hn : ∀ k, k < n → About (S.getD k ⟨0, 0⟩) (W.getD k 0)) (hf : ∀ k, k < n → -300 ≤ W.getD k 0 ∧ W.getD k 0 ≤ 300) : ∀ i, i < n → -4611686018427387904 ≤ (S.getD i ⟨0, 0⟩).hi := fun i hi => by
  have h1 := hn i hi
  have h2 := hf i hi
  unfold About at h1
  omega
theorem MadeB.flows {x : MadeX} (h : MadeB x) : ∀ z ∈ x.fw, -300 ≤ z ∧ z ≤ 300 := fun z hz => by
  obtain ⟨k, hk, rfl⟩ := List.getElem_of_mem hz
  have hlen := h.net.len
  have := (h.net.road k (by omega)).flow
  rw [List.getD_eq_getElem?_getD, List.getElem?_eq_getElem hk] at this
  exact this
theorem MadeB.flowAt {x : MadeX} (h : MadeB x) (k : Nat) (hk : k < x.R.length) : -300 ≤ x.fw.getD k 0 ∧ x.fw.getD k 0 ≤ 300 := by
  have hlen := h.net.len
  rw [List.getD_eq_getElem?_getD, List.getElem?_eq_getElem (by omega)]
  exact h.flows _ (List.getElem_mem (by omega))
noncomputable def l22 : List (FuncId × Spec) := [(44, s44), (26, s26), (43, c43), (45, c45), (51, c51), (47, c47), (75, c75), (52, c52), (76, s76), (77, s77), (78, c78), (79, c79)]
def k22 : Code → Keep := keepOf [(7, ⟨[2, 8, 11, 12, 55, 56, 57], [], []⟩)]
noncomputable def h22_0 (fl : Nat) (t2 : List Span) (t11 : List Span) (t12 : List Source) (t56 : Int) (t57 : Int) (m0_0 : List Place) (m0_1 : List Road) (m0_2 : List Fan) (m0_3 : List Door) (m1 : List (List Source)) : Option (AV × List Ob) := (evalH (env l22) Try.f22 k22 0 fl (stkF Try.f22 [1, 1, 1, 1, 1, 0, 1, 0]) ⟨[.one (.undef), .one (.undef), .one (.vec false .span t2), .one (.undef), .one (.undef), .one (.undef), .one (.undef), .one (.undef), .one (.ptr 0 0), .one (.undef), .one (.undef), .one (.vec false .span t11), .one (.vec false .source t12), .one (.undef), .one (.undef), .one (.undef), .one (.undef), .one (.undef), .one (.undef), .one (.undef), .one (.undef), .one (.undef), .one (.undef), .one (.undef), .one (.undef), .one (.undef), .one (.undef), .one (.undef), .one (.undef), .one (.undef), .one (.undef), .one (.undef), .one (.undef), .one (.undef), .one (.undef), .one (.undef), .one (.undef), .one (.undef), .one (.undef), .one (.undef), .one (.undef), .one (.undef), .one (.undef), .one (.undef), .one (.undef), .one (.undef), .one (.undef), .one (.undef), .one (.undef), .one (.undef), .one (.undef), .one (.undef), .one (.undef), .one (.undef), .one (.undef), .one (.row 1), .one (.int .i64 t56), .one (.int .i64 t57), .one (.undef), .one (.undef), .one (.undef), .one (.undef), .one (.undef), .one (.undef), .one (.undef), .one (.undef), .one (.undef), .one (.undef), .one (.undef), .one (.undef), .one (.undef), .one (.undef), .one (.undef), .one (.undef), .one (.undef), .one (.undef), .one (.undef), .one (.undef), .one (.undef), .one (.undef), .one (.undef), .one (.undef), .one (.undef), .one (.undef), .one (.undef), .one (.undef), .one (.undef), .one (.undef), .one (.undef), .one (.undef), .one (.undef), .one (.undef), .one (.undef), .one (.undef), .one (.undef), .one (.undef), .one (.undef), .one (.undef), .one (.undef), .one (.undef), .one (.undef), .one (.undef), .one (.undef), .one (.undef), .one (.undef), .one (.undef), .one (.undef), .one (.undef), .one (.undef), .one (.undef), .one (.undef), .one (.undef), .one (.undef), .one (.undef), .one (.undef), .one (.undef), .one (.undef), .one (.undef), .one (.undef), .one (.undef), .one (.undef), .one (.undef), .one (.undef), .one (.undef), .one (.undef), .one (.undef), .one (.undef), .one (.undef), .one (.undef), .one (.undef), .one (.undef), .one (.undef), .one (.undef), .one (.undef), .one (.undef), .one (.undef), .one (.undef), .one (.undef)], [((0, 0), some (.cell (.vec false .place m0_0))), ((0, 1), some (.cell (.vec false .road m0_1))), ((0, 2), some (.cell (.vec false .fan m0_2))), ((0, 3), some (.cell (.vec false .door m0_3))), ((1, 0), some (.rows .sources m1))], 2⟩).den
noncomputable def h22 (fl : Nat) (l : List Int) (raw : List Source) (fs : List Span) : Option (AV × List Ob) := (evalF (env l22) Try.f22 k22 fl [.one (.vec false .u8 l), .one (.vec false .source raw), .one (.vec false .span fs)] []).den
theorem h22_eq (fl : Nat) (l : List Int) (raw : List Source) (fs : List Span) : h22 (fl + 1) l raw fs =
    if (decide ((↑raw.length : Int) > 40)) = true then some (.one (.bool true), [])
    else if (decide ((↑fs.length : Int) > 40)) = true then some (.one (.bool true), [])
      else (o43 (List.take 300 l) 0).bind fun x4 =>
        (o45 false x4.fst.fw (List.take 300 l) x4.snd).bind fun x5 =>
          (o51 (↑x4.fst.fw.length : Int) (List.take 300 l) x5.snd).bind fun x6 =>
            h22_0 fl fs x5.fst x6.fst ((↑[x6.fst, raw].length : Int)) 0 x4.fst.P x4.fst.R x4.fst.F x4.fst.D ([x6.fst, raw]) := by kernel_rfl
theorem h22_0_eq (fl : Nat) (t2 : List Span) (t11 : List Span) (t12 : List Source) (t56 : Int) (t57 : Int) (m0_0 : List Place) (m0_1 : List Road) (m0_2 : List Fan) (m0_3 : List Door) (m1 : List (List Source)) : h22_0 (fl + 1) t2 t11 t12 t56 t57 m0_0 m0_1 m0_2 m0_3 m1 =
    if (decide (t57 < t56)) = true then if (idx m1.length t57) = true then (o47 false m0_0 false m0_1 false t11 false (m1.getD t57.toNat (dflt K.sources))).bind fun x4 =>
        (o75 false m0_0 false m0_1 false t11 false (m1.getD t57.toNat (dflt K.sources))).bind fun x5 =>
          if (x4.snd.snd != x5.snd.snd) = true then some (.one (.bool false), [])
            else (o52 false x4.fst false x5.fst).bind fun x7 =>
              if (!x7) = true then some (.one (.bool false), [])
                else (o52 false x4.snd.fst false x5.snd.fst).bind fun x9 =>
                  if (!x9) = true then some (.one (.bool false), [])
                    else if (checkG m0_0 m0_1 (m1.getD t57.toNat (dflt K.sources)) != checkG m0_0 m0_1 (m1.getD t57.toNat (dflt K.sources))) = true then some (.one (.bool false), [])
                      else h22_0 fl t2 t11 t12 t56 (IntKind.i64.wrap (t57 + 1)) m0_0 m0_1 m0_2 m0_3 m1
      else none
    else (o47 false m0_0 false m0_1 false t2 false t12).bind fun x3 =>
      (o78 false t2).bind fun x4 =>
        (o75 false m0_0 false m0_1 false x4 false t12).bind fun x5 =>
          if (x3.snd.snd == x5.snd.snd) = true then some (.one (.bool true), [])
            else (o78 false t2).bind fun x7 =>
              (o79 false t2 false x7).bind fun x8 =>
                if (!x8) = true then some (.one (.bool true), [])
                  else some (.one (.bool false), []) := by kernel_rfl
theorem step22 (P : List Place) (R : List Road) (F : List Fan) (D : List Door) (fs S : List Span) (s : List Source) (hfb : ∀ i, i < R.length → -4611686018427387904 ≤ (S.getD i ⟨0, 0⟩).hi) (hP : P.length ≤ 100) (hRl : R.length ≤ 100) (m : List (List Source)) (hm : m.length = 2) (j : Nat) (hj : j < 2) (fl : Nat) : h22_0 (fl + 1) fs S s m.length j P R F D m = h22_0 fl fs S s m.length (j + 1 : Nat) P R F D m := by
  have hjm : j < m.length := by omega
  obtain ⟨x, e1, e2, hx⟩ := most_two false P false R false S false m[j] hfb
  have hl := hx.plen
  rw [h22_0_eq, if_pos (lt_nat hjm), if_pos (idx_nat hjm), at_lt hjm, e1, Option.bind_some, e2, Option.bind_some, if_neg (by simp), ints_eq _ _ _ _ (by omega), Option.bind_some, if_neg (by simp), ints_eq _ _ _ _ (by omega), Option.bind_some, if_neg (by simp), if_neg (by simp), wr_succ (by omega)]
theorem wide_hi (fs : List Span) (i : Nat) : -4611686018427387904 ≤ ((fs.map wide1).getD i ⟨0, 0⟩).hi := by
  rw [List.getD_eq_getElem?_getD, List.getElem?_map]
  cases fs[i]? with
  | none => decide
  | some s =>
    show -4611686018427387904 ≤ (wide1 s).hi
    unfold wide1 mn mx
    dsimp only
    split <;> split <;> omega
theorem v22 (l : List Int) (raw : List Source) (fs : List Span) (h : l.all u8B = true) : h22 10 l raw fs = some (.one (.bool true), []) := by
  obtain ⟨x, p, e1, hx, k1⟩ := mades_ok (cok0 h)
  have hlen := hx.net.len
  have hm := hx.m
  have hn := hx.n
  obtain ⟨S, q, e2, s1, s2, k2⟩ := spans_ok false (r := x.fw) (by omega) (fun z hz => by have := hx.flows z hz; omega) k1
  obtain ⟨L, q2, e3, d1, d2, k3⟩ := sources_ok (n := x.fw.length) (by omega) k2
  have hfb : ∀ i, i < x.R.length → -4611686018427387904 ≤ (S.getD i ⟨0, 0⟩).hi := about_hi (W := x.fw) (fun k hk => s2 k (by omega)) (fun k hk => hx.flowAt k hk)
  rw [h22_eq]
  by_cases c1 : raw.length > 40
  · rw [if_pos (by simp; omega)]
  rw [if_neg (by simp; omega)]
  by_cases c2 : fs.length > 40
  · rw [if_pos (by simp; omega)]
  rw [if_neg (by simp; omega), e1, Option.bind_some, e2, Option.bind_some, e3, Option.bind_some]
  have t1 := step22 x.P x.R x.F x.D fs S L hfb (by omega) (by omega) [L, raw] rfl 0 (by omega) 8
  have t2 := step22 x.P x.R x.F x.D fs S L hfb (by omega) (by omega) [L, raw] rfl 1 (by omega) 7
  have t1' : h22_0 9 fs S L ([L, raw].length : Int) 0 x.P x.R x.F x.D [L, raw] = _ := t1
  obtain ⟨y, f1, hy⟩ := pmost_ok false x.P false x.R false fs false L
  obtain ⟨z, f2, hz⟩ := rmost_ok false x.P false x.R false (fs.map wide1) false L (fun i _ => wide_hi fs i)
  have he : y.2.2 = z.2.2 := by rw [hy.err, hz.err, List.length_map]
  rw [t1', t2, h22_0_eq, if_neg (by simp), f1, Option.bind_some, wide_eq _ _ (by omega), Option.bind_some, f2, Option.bind_some, if_pos (by simpa using he)]
def s22 : Spec := ⟨false, fun av ob => match av, ob with
  | [.one (.vec false .u8 l), .one (.vec false .source raw), .one (.vec false .span fs)], [] => .need (l.all u8B && (raw.all sourceB && (fs.all spanB))) (.ret (.one (.bool true), []))
  | _, _ => .fail⟩
theorem p22 : SpecOK Try.prog 22 s22 := by
  refine specOK_of (env_ok (l := l22) ⟨⟨p44, f44⟩, ⟨⟨p26, f26⟩, ⟨⟨pc43, f43⟩, ⟨⟨pc45, f45⟩, ⟨⟨pc51, f51⟩, ⟨⟨pc47, f47⟩, ⟨⟨pc75, f75⟩, ⟨⟨pc52, f52⟩, ⟨⟨p76, f76⟩, ⟨⟨p77, f77⟩, ⟨⟨pc78, f78⟩, ⟨⟨pc79, f79⟩, trivial⟩⟩⟩⟩⟩⟩⟩⟩⟩⟩⟩⟩) mixed_ok Try.func22 k22 fun av ob r os hrn => ?_
  simp only [s22] at hrn
  split at hrn
  · rename_i l raw fs
    obtain ⟨hg, hrn⟩ := need_den hrn
    cases hrn
    try simp only [Bool.and_eq_true] at hg
    obtain ⟨q1, q2, q3⟩ := hg
    have hv := v22 l raw fs q1
    unfold h22 at hv
    exact ⟨10, hv⟩
  · cases hrn
theorem law22 (av : List AV) (h : AVs [RBytes, RSources, RSpans] av) : (s22.run av []).den = some (.one (.bool true), []) := by
  obtain ⟨_, _, rfl, ⟨l, rfl, q1⟩, k1⟩ := h.cons
  obtain ⟨_, _, rfl, ⟨raw, rfl, q2⟩, k2⟩ := k1.cons
  obtain ⟨_, _, rfl, ⟨fs, rfl, q3⟩, k3⟩ := k2.cons
  rw [k3.nil]
  refine den_need ?_
  try simp only [Bool.and_eq_true]
  exact ⟨q1, q2, q3⟩
noncomputable def l23 : List (FuncId × Spec) := [(26, s26), (80, c80), (32, c32), (46, c46), (51, c51), (47, c47), (75, c75), (52, c52), (44, s44)]
def k23 : Code → Keep := keepOf [(5, ⟨[1, 5, 6, 7, 23, 24], [(7, .span)], []⟩)]
noncomputable def h23_0 (fl : Nat) (t1 : Int) (t23 : Int) (t24 : Int) (m0_0 : List Int) (m0_1 : Int) (m1_0 : List Place) (m1_1 : List Road) (m2 : List Span) : Option (AV × List Ob) := (evalH (env l23) Try.f23 k23 0 fl (stkF Try.f23 [1, 1, 1, 1, 0, 1, 0]) ⟨[.one (.undef), .one (.int .u8 t1), .one (.undef), .one (.undef), .one (.undef), .one (.ptr 0 0), .one (.ptr 1 0), .one (.row 2), .one (.undef), .one (.undef), .one (.undef), .one (.undef), .one (.undef), .one (.undef), .one (.undef), .one (.undef), .one (.undef), .one (.undef), .one (.undef), .one (.undef), .one (.undef), .one (.undef), .one (.undef), .one (.int .i64 t23), .one (.int .i64 t24), .one (.undef), .one (.undef), .one (.undef), .one (.undef), .one (.undef), .one (.undef), .one (.undef), .one (.undef), .one (.undef), .one (.undef), .one (.undef), .one (.undef), .one (.undef), .one (.undef), .one (.undef), .one (.undef), .one (.undef), .one (.undef), .one (.undef), .one (.undef), .one (.undef), .one (.undef), .one (.undef), .one (.undef), .one (.undef), .one (.undef), .one (.undef), .one (.undef), .one (.undef), .one (.undef), .one (.undef), .one (.undef), .one (.undef), .one (.undef), .one (.undef), .one (.undef), .one (.undef), .one (.undef), .one (.undef), .one (.undef), .one (.undef), .one (.undef), .one (.undef), .one (.undef), .one (.undef), .one (.undef), .one (.undef), .one (.undef), .one (.undef), .one (.undef), .one (.undef), .one (.undef), .one (.undef), .one (.undef), .one (.undef), .one (.undef), .one (.undef), .one (.undef), .one (.undef), .one (.undef), .one (.undef)], [((0, 0), some (.cell (.vec false .u8 m0_0))), ((0, 1), some (.cell (.int .i64 m0_1))), ((1, 0), some (.cell (.vec false .place m1_0))), ((1, 1), some (.cell (.vec false .road m1_1))), ((2, 0), some (.rows .span m2))], 3⟩).den
noncomputable def h23 (fl : Nat) (l : List Int) (uk : Int) : Option (AV × List Ob) := (evalF (env l23) Try.f23 k23 fl [.one (.vec false .u8 l), .one (.int .u8 uk)] []).den
theorem h23_eq (fl : Nat) (l : List Int) (uk : Int) : h23 (fl + 1) l uk =
    (o80 (List.take 300 l) 0).bind fun x2 =>
    h23_0 fl uk ((↑x2.fst.R.length : Int)) 0 (List.take 300 l) x2.snd x2.fst.P x2.fst.R [] := by kernel_rfl
theorem h23_0_eq (fl : Nat) (t1 : Int) (t23 : Int) (t24 : Int) (m0_0 : List Int) (m0_1 : Int) (m1_0 : List Place) (m1_1 : List Road) (m2 : List Span) : h23_0 (fl + 1) t1 t23 t24 m0_0 m0_1 m1_0 m1_1 m2 =
    if (decide (t24 < t23)) = true then (rangeO m0_0 m0_1 (-9) 9).bind fun x3 =>
      (nextO m0_0 x3.snd 6).bind fun x4 =>
        if (decide (0 ≤ IntKind.u64.wrap (t24.tmod 8))) = true then if (bits BinOp.and IntKind.u8 (t1.fdiv (2 ^ min (IntKind.u64.wrap (t24.tmod 8)).toNat IntKind.u8.bits)) 1 == 1) = true then if (decide ((m2).length + ([{ lo := -1125899906842624, hi := 1125899906842624 : Span }]).length ≤ lim)) = true then h23_0 fl t1 t23 (IntKind.i64.wrap (t24 + 1)) m0_0 x4.snd m1_0 m1_1 (m2 ++ [{ lo := -1125899906842624, hi := 1125899906842624 : Span }])
              else none
            else if (decide ((m2).length + ([{ lo := x3.fst, hi := IntKind.i64.wrap (x3.fst + x4.fst) : Span }]).length ≤ lim)) = true then h23_0 fl t1 t23 (IntKind.i64.wrap (t24 + 1)) m0_0 x4.snd m1_0 m1_1 (m2 ++ [{ lo := x3.fst, hi := IntKind.i64.wrap (x3.fst + x4.fst) : Span }])
              else none
          else none
    else (o51 (↑m1_1.length : Int) m0_0 m0_1).bind fun x3 =>
      (o47 false m1_0 false m1_1 true m2 false x3.fst).bind fun x4 =>
        (o75 false m1_0 false m1_1 true m2 false x3.fst).bind fun x5 =>
          if (x4.snd.snd == x5.snd.snd) = true then (o52 false x4.fst false x5.fst).bind fun x7 =>
              if x7 = true then (o52 false x4.snd.fst false x5.snd.fst).bind fun x9 =>
                  if x9 = true then some (.one (.bool true), [])
                    else some (.one (.bool false), [])
                else some (.one (.bool false), [])
            else some (.one (.bool false), []) := by kernel_rfl
theorem flows23 (l : List Int) (uk : Int) (P : List Place) (R : List Road) (hR : R.length ≤ 9) : ∀ (d fl i : Nat) (p : Int) (S : List Span), R.length - i = d → i ≤ R.length → d < fl → cok l p = true → S.length = i → (∀ j, j < i → -1125899906842624 ≤ (S.getD j ⟨0, 0⟩).hi) →
    ∃ S' q fl', 0 < fl' ∧ S'.length = R.length ∧ (∀ j, j < R.length → -1125899906842624 ≤ (S'.getD j ⟨0, 0⟩).hi) ∧ cok l q = true ∧ h23_0 fl uk R.length i l p P R S = h23_0 fl' uk R.length R.length l q P R S'
  | d, fl, i, p, S, hd, hi, hf, hk, hS, hB => by
    by_cases hlt : i < R.length
    · obtain ⟨d, rfl⟩ : ∃ q, d = q + 1 := ⟨d - 1, by omega⟩
      obtain ⟨fl, rfl⟩ : ∃ q, fl = q + 1 := ⟨fl - 1, by omega⟩
      obtain ⟨v1, p1, e1, a1, b1, k1⟩ := range_ok (lo := -9) (hi := 9) hk (by omega) (by omega) (by omega)
      obtain ⟨v2, p2, e2, a2, b2, k2⟩ := next_ok (n := 6) k1 (by omega)
      have hw : IntKind.i64.wrap (v1 + v2) = v1 + v2 := wid (by omega) (by omega)
      have h0 : (0 : Int) ≤ IntKind.u64.wrap ((i : Int).tmod 8) := by rw [IntKind.wrap_u64]; omega
      have put : ∀ s : Span, -1125899906842624 ≤ s.hi → ∀ j, j < i + 1 → -1125899906842624 ≤ ((S ++ [s]).getD j ⟨0, 0⟩).hi := fun s hs j hj => by
        by_cases c : j < S.length
        · rw [getD_append_lt c]; exact hB j (by omega)
        · have : j = S.length := by omega
          rw [this, getD_append_len]; exact hs
      rw [h23_0_eq, if_pos (lt_nat hlt), e1, Option.bind_some, e2, Option.bind_some, if_pos (decide_eq_true h0), hw, wr_succ (by omega)]
      by_cases c : (bits BinOp.and IntKind.u8 (uk.fdiv (2 ^ min (IntKind.u64.wrap ((i : Int).tmod 8)).toNat IntKind.u8.bits)) 1 == 1) = true
      · rw [if_pos c, if_pos (show decide (S.length + [_].length ≤ lim) = true by simp [lim]; omega)]
        exact flows23 l uk P R hR d fl (i + 1) p2 (S ++ [⟨-1125899906842624, 1125899906842624⟩]) (by omega) (by omega) (by omega) k2 (by simp; omega) (put _ (by decide))
      · rw [if_neg c, if_pos (show decide (S.length + [_].length ≤ lim) = true by simp [lim]; omega)]
        exact flows23 l uk P R hR d fl (i + 1) p2 (S ++ [⟨v1, v1 + v2⟩]) (by omega) (by omega) (by omega) k2 (by simp; omega) (put _ (by dsimp only; omega))
    · have : i = R.length := by omega
      subst this
      exact ⟨S, p, fl, by omega, hS, hB, hk, rfl⟩
theorem v23 (l : List Int) (uk : Int) (h : l.all u8B = true) : h23 100 l uk = some (.one (.bool true), []) := by
  obtain ⟨x, p, e1, hx, _, k1⟩ := mine_ok (cok0 h)
  have hm := hx.m
  have hn := hx.n
  obtain ⟨S, q, fl, h1, h2, h3, h4, h5⟩ := flows23 (l.take 300) uk x.P x.R hm x.R.length 99 0 p [] (by omega) (by omega) (by omega) k1 rfl (fun j hj => by omega)
  have h5' : h23_0 99 uk x.R.length 0 (l.take 300) p x.P x.R [] = _ := h5
  obtain ⟨fl, rfl⟩ : ∃ q, fl = q + 1 := ⟨fl - 1, by omega⟩
  obtain ⟨L, q2, e3, d1, d2, k3⟩ := sources_ok (n := x.R.length) (by omega) h4
  obtain ⟨y, f1, f2, hy⟩ := most_two false x.P false x.R true S false L (fun i hi => by have := h3 i hi; omega)
  have hl := hy.plen
  rw [h23_eq, e1, Option.bind_some, h5', h23_0_eq, if_neg (by simp), e3, Option.bind_some, f1, Option.bind_some, f2, Option.bind_some, if_pos (by simp), ints_eq _ _ _ _ (by omega), Option.bind_some, if_pos (by simp), ints_eq _ _ _ _ (by omega), Option.bind_some, if_pos (by simp)]
def s23 : Spec := ⟨false, fun av ob => match av, ob with
  | [.one (.vec false .u8 l), .one (.int .u8 uk)], [] => .need (l.all u8B && (u8B uk)) (.ret (.one (.bool true), []))
  | _, _ => .fail⟩
theorem p23 : SpecOK Try.prog 23 s23 := by
  refine specOK_of (env_ok (l := l23) ⟨⟨p26, f26⟩, ⟨⟨pc80, f80⟩, ⟨⟨pc32, f32⟩, ⟨⟨pc46, f46⟩, ⟨⟨pc51, f51⟩, ⟨⟨pc47, f47⟩, ⟨⟨pc75, f75⟩, ⟨⟨pc52, f52⟩, ⟨⟨p44, f44⟩, trivial⟩⟩⟩⟩⟩⟩⟩⟩⟩) mixed_ok Try.func23 k23 fun av ob r os hrn => ?_
  simp only [s23] at hrn
  split at hrn
  · rename_i l uk
    obtain ⟨hg, hrn⟩ := need_den hrn
    cases hrn
    try simp only [Bool.and_eq_true] at hg
    obtain ⟨q1, q2⟩ := hg
    have hv := v23 l uk q1
    unfold h23 at hv
    exact ⟨100, hv⟩
  · cases hrn
theorem law23 (av : List AV) (h : AVs [RBytes, RU8] av) : (s23.run av []).den = some (.one (.bool true), []) := by
  obtain ⟨_, _, rfl, ⟨l, rfl, q1⟩, k1⟩ := h.cons
  obtain ⟨_, _, rfl, ⟨uk, rfl, q2⟩, k2⟩ := k1.cons
  rw [k2.nil]
  refine den_need ?_
  try simp only [Bool.and_eq_true]
  exact ⟨q1, q2⟩
end Go.Proofs.Ytipfipnhgpbceaa.Sx
/- More gas, and wider flows, make no number less; sources of a road are one (plain theorems). -/

set_option linter.unusedVariables false
set_option linter.unusedSimpArgs false
set_option maxRecDepth 100000
namespace Go.Proofs.Ytipfipnhgpbceaa.Sx
open Go Go.RowKit
theorem inflow_append (i : Nat) : ∀ (a b : List Source), inflow i (a ++ b) = inflow i a + inflow i b
  | [], b => by simp [inflow]
  | s :: a, b => by
    rw [List.cons_append, inflow, inflow, inflow_append i a b]
    omega
theorem srcErr_append (m : Int) : ∀ (a b : List Source), srcErr m (a ++ b) = if srcErr m a = 0 then srcErr m b else srcErr m a
  | [], b => by simp [srcErr]
  | s :: a, b => by
    have ih := srcErr_append m a b
    rw [List.cons_append, srcErr, srcErr]
    repeat' split
    all_goals first | rfl | omega | skip
    all_goals (rw [ih]; simp_all)
theorem MostB.same {P : List Place} {R : List Road} {f : List Span} {L L' : List Source} {x y : List Int × List Int × Int} (hc : checkG P R L = checkG P R L') (hm : ∀ i, i < R.length → moG f L i = moG f L' i) (h : MostB P R f L x) (g : MostB P R f L' y) : x = y :=
  h.uni ⟨fun c => by rw [hc] at c ⊢; exact g.bad c, fun c c2 => g.len (by rw [← hc]; exact c) c2, fun c c2 => by
    obtain ⟨g1, g2⟩ := g.ok (by rw [← hc]; exact c) c2
    exact ⟨g1, g2.congr fun i hi => (hm i hi).symm⟩⟩
theorem MadeB.check1 {x : MadeX} (hx : MadeB x) {L : List Source} (h : SrcOK x.R.length L) : checkG x.P x.R L = 0 := checkG_ok.2 ⟨hx.mine.check, h⟩
theorem LeastG.pz {P : List Place} {R : List Road} {f : List Span} {mo p0 : Nat → Int} {p r : List Int} (h : LeastG P R f mo p0 p r) (hp0 : ∀ k, p0 k = 0 ∨ p0 k = 1000000) (k : Nat) : 0 ≤ gx p k := by
  have h1 := h.above.p0 k
  rcases hp0 k with e | e <;> rw [e] at h1 <;> omega
noncomputable def l8 : List (FuncId × Spec) := [(26, s26), (43, c43), (44, s44), (45, c45), (27, s27), (46, c46), (47, c47)]
def k8 : Code → Keep := keepOf [(16, ⟨[18, 19, 21, 22, 136, 137], [], []⟩), (22, ⟨[19, 22, 158, 159], [], []⟩)]
noncomputable def h8_0 (fl : Nat) (t18 : List Int) (t19 : List Int) (t21 : List Int) (t22 : List Int) (t136 : Int) (t137 : Int) : Option (AV × List Ob) := (evalH (env l8) Try.f8 k8 0 fl (stkF Try.f8 [1, 1, 1, 1, 1, 1, 1, 1, 1, 1, 1, 1, 1, 0, 1, 0]) ⟨[.one (.undef), .one (.undef), .one (.undef), .one (.undef), .one (.undef), .one (.undef), .one (.undef), .one (.undef), .one (.undef), .one (.undef), .one (.undef), .one (.undef), .one (.undef), .one (.undef), .one (.undef), .one (.undef), .one (.undef), .one (.undef), .one (.vec false .int t18), .one (.vec false .int t19), .one (.undef), .one (.vec false .int t21), .one (.vec false .int t22), .one (.undef), .one (.undef), .one (.undef), .one (.undef), .one (.undef), .one (.undef), .one (.undef), .one (.undef), .one (.undef), .one (.undef), .one (.undef), .one (.undef), .one (.undef), .one (.undef), .one (.undef), .one (.undef), .one (.undef), .one (.undef), .one (.undef), .one (.undef), .one (.undef), .one (.undef), .one (.undef), .one (.undef), .one (.undef), .one (.undef), .one (.undef), .one (.undef), .one (.undef), .one (.undef), .one (.undef), .one (.undef), .one (.undef), .one (.undef), .one (.undef), .one (.undef), .one (.undef), .one (.undef), .one (.undef), .one (.undef), .one (.undef), .one (.undef), .one (.undef), .one (.undef), .one (.undef), .one (.undef), .one (.undef), .one (.undef), .one (.undef), .one (.undef), .one (.undef), .one (.undef), .one (.undef), .one (.undef), .one (.undef), .one (.undef), .one (.undef), .one (.undef), .one (.undef), .one (.undef), .one (.undef), .one (.undef), .one (.undef), .one (.undef), .one (.undef), .one (.undef), .one (.undef), .one (.undef), .one (.undef), .one (.undef), .one (.undef), .one (.undef), .one (.undef), .one (.undef), .one (.undef), .one (.undef), .one (.undef), .one (.undef), .one (.undef), .one (.undef), .one (.undef), .one (.undef), .one (.undef), .one (.undef), .one (.undef), .one (.undef), .one (.undef), .one (.undef), .one (.undef), .one (.undef), .one (.undef), .one (.undef), .one (.undef), .one (.undef), .one (.undef), .one (.undef), .one (.undef), .one (.undef), .one (.undef), .one (.undef), .one (.undef), .one (.undef), .one (.undef), .one (.undef), .one (.undef), .one (.undef), .one (.undef), .one (.undef), .one (.undef), .one (.undef), .one (.undef), .one (.undef), .one (.undef), .one (.int .i64 t136), .one (.int .i64 t137), .one (.undef), .one (.undef), .one (.undef), .one (.undef), .one (.undef), .one (.undef), .one (.undef), .one (.undef), .one (.undef), .one (.undef), .one (.undef), .one (.undef), .one (.undef), .one (.undef), .one (.undef), .one (.undef), .one (.undef), .one (.undef), .one (.undef), .one (.undef), .one (.undef), .one (.undef), .one (.undef), .one (.undef), .one (.undef), .one (.undef), .one (.undef), .one (.undef), .one (.undef), .one (.undef), .one (.undef), .one (.undef), .one (.undef), .one (.undef), .one (.undef), .one (.undef), .one (.undef), .one (.undef), .one (.undef), .one (.undef), .one (.undef), .one (.undef)], [], 0⟩).den
noncomputable def h8_1 (fl : Nat) (t19 : List Int) (t22 : List Int) (t158 : Int) (t159 : Int) : Option (AV × List Ob) := (evalH (env l8) Try.f8 k8 0 fl (stkF Try.f8 [1, 1, 1, 1, 1, 1, 1, 1, 1, 1, 1, 1, 1, 1, 0, 1, 0]) ⟨[.one (.undef), .one (.undef), .one (.undef), .one (.undef), .one (.undef), .one (.undef), .one (.undef), .one (.undef), .one (.undef), .one (.undef), .one (.undef), .one (.undef), .one (.undef), .one (.undef), .one (.undef), .one (.undef), .one (.undef), .one (.undef), .one (.undef), .one (.vec false .int t19), .one (.undef), .one (.undef), .one (.vec false .int t22), .one (.undef), .one (.undef), .one (.undef), .one (.undef), .one (.undef), .one (.undef), .one (.undef), .one (.undef), .one (.undef), .one (.undef), .one (.undef), .one (.undef), .one (.undef), .one (.undef), .one (.undef), .one (.undef), .one (.undef), .one (.undef), .one (.undef), .one (.undef), .one (.undef), .one (.undef), .one (.undef), .one (.undef), .one (.undef), .one (.undef), .one (.undef), .one (.undef), .one (.undef), .one (.undef), .one (.undef), .one (.undef), .one (.undef), .one (.undef), .one (.undef), .one (.undef), .one (.undef), .one (.undef), .one (.undef), .one (.undef), .one (.undef), .one (.undef), .one (.undef), .one (.undef), .one (.undef), .one (.undef), .one (.undef), .one (.undef), .one (.undef), .one (.undef), .one (.undef), .one (.undef), .one (.undef), .one (.undef), .one (.undef), .one (.undef), .one (.undef), .one (.undef), .one (.undef), .one (.undef), .one (.undef), .one (.undef), .one (.undef), .one (.undef), .one (.undef), .one (.undef), .one (.undef), .one (.undef), .one (.undef), .one (.undef), .one (.undef), .one (.undef), .one (.undef), .one (.undef), .one (.undef), .one (.undef), .one (.undef), .one (.undef), .one (.undef), .one (.undef), .one (.undef), .one (.undef), .one (.undef), .one (.undef), .one (.undef), .one (.undef), .one (.undef), .one (.undef), .one (.undef), .one (.undef), .one (.undef), .one (.undef), .one (.undef), .one (.undef), .one (.undef), .one (.undef), .one (.undef), .one (.undef), .one (.undef), .one (.undef), .one (.undef), .one (.undef), .one (.undef), .one (.undef), .one (.undef), .one (.undef), .one (.undef), .one (.undef), .one (.undef), .one (.undef), .one (.undef), .one (.undef), .one (.undef), .one (.undef), .one (.undef), .one (.undef), .one (.undef), .one (.undef), .one (.undef), .one (.undef), .one (.undef), .one (.undef), .one (.undef), .one (.undef), .one (.undef), .one (.undef), .one (.undef), .one (.undef), .one (.undef), .one (.undef), .one (.undef), .one (.undef), .one (.undef), .one (.undef), .one (.undef), .one (.int .i64 t158), .one (.int .i64 t159), .one (.undef), .one (.undef), .one (.undef), .one (.undef), .one (.undef), .one (.undef), .one (.undef), .one (.undef), .one (.undef), .one (.undef), .one (.undef), .one (.undef), .one (.undef), .one (.undef), .one (.undef), .one (.undef), .one (.undef), .one (.undef), .one (.undef), .one (.undef)], [], 0⟩).den
noncomputable def h8 (fl : Nat) (l : List Int) (road more by' : Int) : Option (AV × List Ob) := (evalF (env l8) Try.f8 k8 fl [.one (.vec false .u8 l), .one (.int .i64 road), .one (.int .u16 more), .one (.int .u8 by')] []).den
theorem h8_eq (fl : Nat) (l : List Int) (road more by' : Int) : h8 (fl + 1) l road more by' =
    (o43 (List.take 300 l) 0).bind fun x2 =>
    if ((↑x2.fst.fw.length : Int) == 0) = true then some (.one (.bool true), [])
      else (o45 false x2.fst.fw (List.take 300 l) x2.snd).bind fun x4 =>
        (nextO (List.take 300 l) x4.snd (↑x4.fst.length : Int)).bind fun x5 =>
          (nextO (List.take 300 l) x5.snd 3000).bind fun x6 =>
            if (decide (([{ road := modz road (↑x4.fst.length : Int), lo := 0, hi := IntKind.i64.wrap more : Source }]).length + ([{ road := x5.fst, lo := 0, hi := x6.fst : Source }]).length ≤ lim)) = true then if (decide ((0 : Nat) + (x4.fst).length ≤ lim)) = true then if (idx ([] ++ x4.fst).length (modz road (↑x4.fst.length : Int))) = true then if (idx ([] ++ x4.fst).length (modz road (↑x4.fst.length : Int))) = true then if (idx ([] ++ x4.fst).length (modz road (↑x4.fst.length : Int))) = true then if (idx (([] ++ x4.fst).set (modz road (↑x4.fst.length : Int)).toNat { lo := IntKind.i64.wrap ((([] ++ x4.fst).getD (modz road (↑x4.fst.length : Int)).toNat (dflt K.span)).lo - IntKind.i64.wrap by'), hi := (([] ++ x4.fst).getD (modz road (↑x4.fst.length : Int)).toNat (dflt K.span)).hi : Span }).length (modz road (↑x4.fst.length : Int))) = true then (o47 false x2.fst.P false x2.fst.R false x4.fst true [{ road := x5.fst, lo := 0, hi := x6.fst : Source }]).bind fun x13 =>
                          (o47 false x2.fst.P false x2.fst.R true ((([] ++ x4.fst).set (modz road (↑x4.fst.length : Int)).toNat { lo := IntKind.i64.wrap ((([] ++ x4.fst).getD (modz road (↑x4.fst.length : Int)).toNat (dflt K.span)).lo - IntKind.i64.wrap by'), hi := (([] ++ x4.fst).getD (modz road (↑x4.fst.length : Int)).toNat (dflt K.span)).hi : Span }).set (modz road (↑x4.fst.length : Int)).toNat { lo := ((([] ++ x4.fst).set (modz road (↑x4.fst.length : Int)).toNat { lo := IntKind.i64.wrap ((([] ++ x4.fst).getD (modz road (↑x4.fst.length : Int)).toNat (dflt K.span)).lo - IntKind.i64.wrap by'), hi := (([] ++ x4.fst).getD (modz road (↑x4.fst.length : Int)).toNat (dflt K.span)).hi : Span }).getD (modz road (↑x4.fst.length : Int)).toNat (dflt K.span)).lo, hi := IntKind.i64.wrap ((([] ++ x4.fst).getD (modz road (↑x4.fst.length : Int)).toNat (dflt K.span)).hi + IntKind.i64.wrap by') : Span }) true ([{ road := modz road (↑x4.fst.length : Int), lo := 0, hi := IntKind.i64.wrap more : Source }] ++ [{ road := x5.fst, lo := 0, hi := x6.fst : Source }])).bind fun x14 =>
                            if (x13.snd.snd != 0) = true then some (.one (.bool false), [])
                              else if (x14.snd.snd != 0) = true then some (.one (.bool false), [])
                                else if ((↑x13.fst.length : Int) != (↑x14.fst.length : Int)) = true then some (.one (.bool false), [])
                                  else if ((↑x13.snd.fst.length : Int) != (↑x14.snd.fst.length : Int)) = true then some (.one (.bool false), [])
                                    else if ((↑x13.snd.fst.length : Int) != (↑x4.fst.length : Int)) = true then some (.one (.bool false), [])
                                      else h8_0 fl x13.fst x13.snd.fst x14.fst x14.snd.fst ((↑x13.fst.length : Int)) 0
                        else none
                      else none
                    else none
                  else none
                else none
              else none := by kernel_rfl
theorem h8_0_eq (fl : Nat) (t18 : List Int) (t19 : List Int) (t21 : List Int) (t22 : List Int) (t136 : Int) (t137 : Int) : h8_0 (fl + 1) t18 t19 t21 t22 t136 t137 =
    if (decide (t137 < t136)) = true then if (idx t21.length t137) = true then if (idx t18.length t137) = true then if (decide (t21.getD t137.toNat (dflt K.int) < t18.getD t137.toNat (dflt K.int))) = true then if (idx t18.length t137) = true then if (decide (t18.getD t137.toNat (dflt K.int) < 1000000)) = true then some (.one (.bool false), [])
              else h8_0 fl t18 t19 t21 t22 t136 (IntKind.i64.wrap (t137 + 1))
            else none
          else h8_0 fl t18 t19 t21 t22 t136 (IntKind.i64.wrap (t137 + 1))
        else none
      else none
    else h8_1 fl t19 t22 ((↑t19.length : Int)) 0 := by kernel_rfl
theorem h8_1_eq (fl : Nat) (t19 : List Int) (t22 : List Int) (t158 : Int) (t159 : Int) : h8_1 (fl + 1) t19 t22 t158 t159 =
    if (decide (t159 < t158)) = true then if (idx t22.length t159) = true then if (idx t19.length t159) = true then if (decide (t22.getD t159.toNat (dflt K.int) < t19.getD t159.toNat (dflt K.int))) = true then if (idx t19.length t159) = true then if (decide (t19.getD t159.toNat (dflt K.int) < 1000000)) = true then some (.one (.bool false), [])
              else h8_1 fl t19 t22 t158 (IntKind.i64.wrap (t159 + 1))
            else none
          else h8_1 fl t19 t22 t158 (IntKind.i64.wrap (t159 + 1))
        else none
      else none
    else some (.one (.bool true), []) := by kernel_rfl
theorem loop8_1 (r r' : List Int) (hl : r.length = r'.length) (hr : r.length ≤ 1000) (h : ∀ i, gx r i < 1000000 → gx r i ≤ gx r' i) : ∀ (d fl k : Nat), r.length - k = d → k ≤ r.length → d < fl → h8_1 fl r r' r.length k = some (.one (.bool true), [])
  | d, fl, k, hd, hk, hf => by
    obtain ⟨fl, rfl⟩ : ∃ q, fl = q + 1 := ⟨fl - 1, by omega⟩
    rw [h8_1_eq]
    by_cases hlt : k < r.length
    · obtain ⟨d, rfl⟩ : ∃ q, d = q + 1 := ⟨d - 1, by omega⟩
      have next := loop8_1 r r' hl hr h d fl (k + 1) (by omega) (by omega) (by omega)
      have e1 : r'.getD k (dflt K.int) = gx r' k := rfl
      have e2 : r.getD k (dflt K.int) = gx r k := rfl
      rw [if_pos (lt_nat hlt), if_pos (idx_nat (by omega)), if_pos (idx_nat hlt), Int.toNat_natCast, e1, e2, wr_succ (by omega)]
      by_cases c : gx r' k < gx r k
      · rw [if_pos (decide_eq_true c), if_pos (idx_nat hlt), if_neg (fun e => by have := h k (of_decide_eq_true e); omega)]
        exact next
      · rw [if_neg (fun e => c (of_decide_eq_true e))]
        exact next
    · rw [if_neg (nlt_nat hlt)]
theorem loop8_0 (p r p' r' : List Int) (hp : p.length = p'.length) (hpl : p.length ≤ 1000) (hl : r.length = r'.length) (hr : r.length ≤ 1000) (h : ∀ i, gx p i < 1000000 → gx p i ≤ gx p' i) (h2 : ∀ i, gx r i < 1000000 → gx r i ≤ gx r' i) : ∀ (d fl k : Nat), p.length - k = d → k ≤ p.length → d + r.length + 1 < fl → h8_0 fl p r p' r' p.length k = some (.one (.bool true), [])
  | d, fl, k, hd, hk, hf => by
    obtain ⟨fl, rfl⟩ : ∃ q, fl = q + 1 := ⟨fl - 1, by omega⟩
    rw [h8_0_eq]
    by_cases hlt : k < p.length
    · obtain ⟨d, rfl⟩ : ∃ q, d = q + 1 := ⟨d - 1, by omega⟩
      have next := loop8_0 p r p' r' hp hpl hl hr h h2 d fl (k + 1) (by omega) (by omega) (by omega)
      have e1 : p'.getD k (dflt K.int) = gx p' k := rfl
      have e2 : p.getD k (dflt K.int) = gx p k := rfl
      rw [if_pos (lt_nat hlt), if_pos (idx_nat (by omega)), if_pos (idx_nat hlt), Int.toNat_natCast, e1, e2, wr_succ (by omega)]
      by_cases c : gx p' k < gx p k
      · rw [if_pos (decide_eq_true c), if_pos (idx_nat hlt), if_neg (fun e => by have := h k (of_decide_eq_true e); omega)]
        exact next
      · rw [if_neg (fun e => c (of_decide_eq_true e))]
        exact next
    · rw [if_neg (nlt_nat hlt)]
      exact loop8_1 r r' hl hr h2 r.length fl 0 (by omega) (by omega) (by omega)
theorem v8 (l : List Int) (road more by' : Int) (h : l.all u8B = true) (hmo : u16B more = true) (hb : u8B by' = true) : h8 1000 l road more by' = some (.one (.bool true), []) := by
  obtain ⟨x, p, e1, hx, k1⟩ := mades_ok (cok0 h)
  have hlen := hx.net.len
  have hm := hx.m
  have hn := hx.n
  obtain ⟨S, q, e2, s1, s2, k2⟩ := spans_ok false (r := x.fw) (by omega) (fun z hz => by have := hx.flows z hz; omega) k1
  have hb' : 0 ≤ by' ∧ by' < 256 := by rw [u8B_iff] at hb; omega
  have hmo' : 0 ≤ more ∧ more < 65536 := by rw [u16B_iff] at hmo; omega
  rw [h8_eq, e1, Option.bind_some]
  by_cases c : x.fw.length = 0
  · rw [if_pos (by simp [c])]
  obtain ⟨v5, p5, e5, a5, b5, k5⟩ := next_ok (n := S.length) k2 (by omega)
  obtain ⟨v6, p6, e6, a6, b6, k6⟩ := next_ok (n := 3000) k5 (by omega)
  rw [if_neg (by simpa using c), e2, Option.bind_some, e5, Option.bind_some, e6, Option.bind_some]
  have hk := modz_range (k := road) (n := S.length) (by omega) (by omega)
  obtain ⟨j, hj⟩ : ∃ j : Nat, modz road S.length = j := ⟨(modz road S.length).toNat, by omega⟩
  rw [hj] at hk
  have hjl : j < S.length := by omega
  have e0 : dflt K.span = (⟨0, 0⟩ : Span) := rfl
  have eb : IntKind.i64.wrap by' = by' := wid (by omega) (by omega)
  have em : IntKind.i64.wrap more = more := wid (by omega) (by omega)
  have hab := s2 j (by omega)
  have hf := hx.flowAt j (by omega)
  unfold About at hab
  simp only [hj, List.nil_append, Int.toNat_natCast, List.length_set, e0, eb, em, getD_set_eq hjl, List.set_set]
  rw [wid (n := (S.getD j ⟨0, 0⟩).lo - by') (by omega) (by omega), wid (n := (S.getD j ⟨0, 0⟩).hi + by') (by omega) (by omega)]
  have sw := sub_wide x.R S hjl (lo := (S.getD j ⟨0, 0⟩).lo - by') (hi := (S.getD j ⟨0, 0⟩).hi + by') (by omega) (by omega)
  have hW : ∀ i, i < x.R.length → (S.getD i ⟨0, 0⟩).lo ≤ (S.getD i ⟨0, 0⟩).hi ∧ ((S.set j ⟨(S.getD j ⟨0, 0⟩).lo - by', (S.getD j ⟨0, 0⟩).hi + by'⟩).getD i ⟨0, 0⟩).lo ≤ (S.getD i ⟨0, 0⟩).lo ∧ (S.getD i ⟨0, 0⟩).hi ≤ ((S.set j ⟨(S.getD j ⟨0, 0⟩).lo - by', (S.getD j ⟨0, 0⟩).hi + by'⟩).getD i ⟨0, 0⟩).hi ∧ -4611686018427387904 ≤ (S.getD i ⟨0, 0⟩).hi := fun i hi => by
    have h1 := s2 i (by omega)
    have h2 := hx.flowAt i hi
    unfold About at h1
    by_cases c : j = i
    · subst c; rw [getD_set_eq hjl]; dsimp only; omega
    · rw [getD_set_ne2 c]; omega
  have hWl : (S.set j (⟨(S.getD j ⟨0, 0⟩).lo - by', (S.getD j ⟨0, 0⟩).hi + by'⟩ : Span)).length = S.length := by simp
  generalize S.set j (⟨(S.getD j ⟨0, 0⟩).lo - by', (S.getD j ⟨0, 0⟩).hi + by'⟩ : Span) = W at *
  have hy : SrcOK x.R.length [⟨v5, 0, v6⟩] := ⟨by simp, fun s hs => by
    have : s = ⟨v5, 0, v6⟩ := by simpa using hs
    subst this; dsimp only; omega⟩
  have hz : SrcOK x.R.length ([⟨(j : Int), 0, more⟩] ++ [⟨v5, 0, v6⟩]) := ⟨by simp, fun s hs => by
    have : s = ⟨(j : Int), 0, more⟩ ∨ s = ⟨v5, 0, v6⟩ := by simpa using hs
    rcases this with rfl | rfl <;> dsimp only <;> omega⟩
  obtain ⟨a, f1, ha⟩ := pmost_ok false x.P false x.R false S true [⟨v5, 0, v6⟩]
  obtain ⟨b, f2, hB⟩ := pmost_ok false x.P false x.R true W true ([⟨(j : Int), 0, more⟩] ++ [⟨v5, 0, v6⟩])
  obtain ⟨a1, a2⟩ := ha.ok (hx.check1 hy) (by omega)
  obtain ⟨b1, b2⟩ := hB.ok (hx.check1 hz) (by omega)
  have r1 := moG_range (f := S) hy
  have g := a2.grows b2 (p0G_two _ _ _) (b2.pz (p0G_two _ _ _)) (fun i d hi hc => sw.can i d hi hc) (fun i hi => by
    have h1 := hW i hi
    have h2 := inflow_range (m := x.R.length) i hy.2
    refine addG_mono h1.1 h1.2.1 h1.2.2.1 h1.2.2.2 h2.1 ?_
    rw [inflow_append]
    simp only [inflow]
    split <;> split <;> omega) (fun i => (r1 i).1)
  have l1 := a2.plen
  have l2 := a2.rlen
  have l3 := b2.plen
  have l4 := b2.rlen
  rw [if_pos (show decide ([_].length + [_].length ≤ lim) = true by simp [lim]), if_pos (by simp [lim]; omega), if_pos (idx_nat hjl), if_pos (idx_nat hjl), if_pos (idx_nat hjl), if_pos (idx_nat hjl), f1, Option.bind_some, f2, Option.bind_some, if_neg (by simp [a1]), if_neg (by simp [b1]), if_neg (by simp; omega), if_neg (by simp; omega), if_neg (by simp; omega)]
  exact loop8_0 a.1 a.2.1 b.1 b.2.1 (by omega) (by omega) (by omega) (by omega) g.1 g.2 a.1.length 999 0 (by omega) (by omega) (by omega)
def s8 : Spec := ⟨false, fun av ob => match av, ob with
  | [.one (.vec false .u8 l), .one (.int .i64 road), .one (.int .u16 more), .one (.int .u8 by')], [] => .need (l.all u8B && (i64B road && (u16B more && (u8B by')))) (.ret (.one (.bool true), []))
  | _, _ => .fail⟩
theorem p8 : SpecOK Try.prog 8 s8 := by
  refine specOK_of (env_ok (l := l8) ⟨⟨p26, f26⟩, ⟨⟨pc43, f43⟩, ⟨⟨p44, f44⟩, ⟨⟨pc45, f45⟩, ⟨⟨p27, f27⟩, ⟨⟨pc46, f46⟩, ⟨⟨pc47, f47⟩, trivial⟩⟩⟩⟩⟩⟩⟩) mixed_ok Try.func8 k8 fun av ob r os hrn => ?_
  simp only [s8] at hrn
  split at hrn
  · rename_i l road more by'
    obtain ⟨hg, hrn⟩ := need_den hrn
    cases hrn
    try simp only [Bool.and_eq_true] at hg
    obtain ⟨q1, q2, q3, q4⟩ := hg
    have hv := v8 l road more by' q1 q3 q4
    unfold h8 at hv
    exact ⟨1000, hv⟩
  · cases hrn
theorem law8 (av : List AV) (h : AVs [RBytes, RInt, RU16, RU8] av) : (s8.run av []).den = some (.one (.bool true), []) := by
  obtain ⟨_, _, rfl, ⟨l, rfl, q1⟩, k1⟩ := h.cons
  obtain ⟨_, _, rfl, ⟨road, rfl, q2⟩, k2⟩ := k1.cons
  obtain ⟨_, _, rfl, ⟨more, rfl, q3⟩, k3⟩ := k2.cons
  obtain ⟨_, _, rfl, ⟨by', rfl, q4⟩, k4⟩ := k3.cons
  rw [k4.nil]
  refine den_need ?_
  try simp only [Bool.and_eq_true]
  exact ⟨q1, q2, q3, q4⟩
noncomputable def l10 : List (FuncId × Spec) := [(26, s26), (43, c43), (44, s44), (45, c45), (46, c46), (51, c51), (47, c147), (52, c52)]
def k10 : Code → Keep := keepOf [(16, ⟨[126, 127, 128], [], []⟩)]
noncomputable def h10_0 (fl : Nat) (t127 : Int) (t128 : Int) (m0 : List Int) : Option (AV × List Ob) := (evalH (env l10) Try.f10 k10 0 fl (stkF Try.f10 [1, 1, 1, 1, 1, 1, 1, 1, 1, 1, 1, 1, 0, 1, 0]) ⟨[.one (.undef), .one (.undef), .one (.undef), .one (.undef), .one (.undef), .one (.undef), .one (.undef), .one (.undef), .one (.undef), .one (.undef), .one (.undef), .one (.undef), .one (.undef), .one (.undef), .one (.undef), .one (.undef), .one (.undef), .one (.undef), .one (.undef), .one (.undef), .one (.undef), .one (.undef), .one (.undef), .one (.undef), .one (.undef), .one (.undef), .one (.undef), .one (.undef), .one (.undef), .one (.undef), .one (.undef), .one (.undef), .one (.undef), .one (.undef), .one (.undef), .one (.undef), .one (.undef), .one (.undef), .one (.undef), .one (.undef), .one (.undef), .one (.undef), .one (.undef), .one (.undef), .one (.undef), .one (.undef), .one (.undef), .one (.undef), .one (.undef), .one (.undef), .one (.undef), .one (.undef), .one (.undef), .one (.undef), .one (.undef), .one (.undef), .one (.undef), .one (.undef), .one (.undef), .one (.undef), .one (.undef), .one (.undef), .one (.undef), .one (.undef), .one (.undef), .one (.undef), .one (.undef), .one (.undef), .one (.undef), .one (.undef), .one (.undef), .one (.undef), .one (.undef), .one (.undef), .one (.undef), .one (.undef), .one (.undef), .one (.undef), .one (.undef), .one (.undef), .one (.undef), .one (.undef), .one (.undef), .one (.undef), .one (.undef), .one (.undef), .one (.undef), .one (.undef), .one (.undef), .one (.undef), .one (.undef), .one (.undef), .one (.undef), .one (.undef), .one (.undef), .one (.undef), .one (.undef), .one (.undef), .one (.undef), .one (.undef), .one (.undef), .one (.undef), .one (.undef), .one (.undef), .one (.undef), .one (.undef), .one (.undef), .one (.undef), .one (.undef), .one (.undef), .one (.undef), .one (.undef), .one (.undef), .one (.undef), .one (.undef), .one (.undef), .one (.undef), .one (.undef), .one (.undef), .one (.undef), .one (.undef), .one (.undef), .one (.undef), .one (.undef), .one (.undef), .one (.undef), .one (.row 0), .one (.int .i64 t127), .one (.int .i64 t128), .one (.undef), .one (.undef), .one (.undef), .one (.undef), .one (.undef), .one (.undef), .one (.undef), .one (.undef), .one (.undef), .one (.undef), .one (.undef)], [((0, 0), some (.rows .int m0))], 1⟩).den
noncomputable def h10 (fl : Nat) (l : List Int) (a b : Int) : Option (AV × List Ob) := (evalF (env l10) Try.f10 k10 fl [.one (.vec false .u8 l), .one (.int .u16 a), .one (.int .u16 b)] []).den
theorem h10_eq (fl : Nat) (l : List Int) (a b : Int) : h10 (fl + 1) l a b =
    (o43 (List.take 300 l) 0).bind fun x2 =>
    if ((↑x2.fst.fw.length : Int) == 0) = true then some (.one (.bool true), [])
      else (o45 false x2.fst.fw (List.take 300 l) x2.snd).bind fun x4 =>
        (nextO (List.take 300 l) x4.snd (↑x2.fst.fw.length : Int)).bind fun x5 =>
          (o51 (IntKind.i64.wrap ((↑x2.fst.fw.length : Int) - 1)) (List.take 300 l) x5.snd).bind fun x6 =>
            if (decide (([{ road := x5.fst, lo := 0, hi := IntKind.i64.wrap (IntKind.i64.wrap a + IntKind.i64.wrap b) : Source }]).length + (x6.fst).length ≤ lim)) = true then (o47 false x2.fst.P false x2.fst.R false x4.fst true ([{ road := x5.fst, lo := 0, hi := IntKind.i64.wrap (IntKind.i64.wrap a + IntKind.i64.wrap b) : Source }] ++ x6.fst)).bind fun x8 =>
                if (decide ((0 : Nat) + (x6.fst).length ≤ lim)) = true then if (decide ((([] ++ x6.fst)).length + ([{ road := x5.fst, lo := 0, hi := IntKind.i64.wrap a : Source }, { road := x5.fst, lo := 0, hi := IntKind.i64.wrap b : Source }]).length ≤ lim)) = true then (o47 false x2.fst.P false x2.fst.R false x4.fst true ([] ++ x6.fst ++ [{ road := x5.fst, lo := 0, hi := IntKind.i64.wrap a : Source }, { road := x5.fst, lo := 0, hi := IntKind.i64.wrap b : Source }])).bind fun x11 =>
                      if (x8.snd.snd != x11.snd.snd) = true then some (.one (.bool false), [])
                        else (o52 false x8.fst false x11.fst).bind fun x13 =>
                          if (!x13) = true then some (.one (.bool false), [])
                            else (o52 false x8.snd.fst false x11.snd.fst).bind fun x15 =>
                              if (!x15) = true then some (.one (.bool false), [])
                                else (o47 false x2.fst.P false x2.fst.R false x4.fst false []).bind fun x17 =>
                                  if (x17.snd.snd != 0) = true then some (.one (.bool false), [])
                                    else if (decide ((0 : Nat) + (x17.fst).length ≤ lim)) = true then if (decide ((([] ++ x17.fst)).length + (x17.snd.fst).length ≤ lim)) = true then h10_0 fl ((↑([] ++ x17.fst ++ x17.snd.fst).length : Int)) 0 ([] ++ x17.fst ++ x17.snd.fst)
                                        else none
                                      else none
                    else none
                  else none
              else none := by kernel_rfl
theorem h10_0_eq (fl : Nat) (t127 : Int) (t128 : Int) (m0 : List Int) : h10_0 (fl + 1) t127 t128 m0 =
    if (decide (t128 < t127)) = true then if (idx m0.length t128) = true then if (m0.getD t128.toNat (dflt K.int) != 0) = true then if (m0.getD t128.toNat (dflt K.int) != 1000000) = true then some (.one (.bool false), [])
          else h10_0 fl t127 (IntKind.i64.wrap (t128 + 1)) m0
        else h10_0 fl t127 (IntKind.i64.wrap (t128 + 1)) m0
      else none
    else some (.one (.bool true), []) := by kernel_rfl
theorem loop10 (m : List Int) (hm : m.length ≤ 1000) (h : ∀ i, gx m i = 0 ∨ gx m i = 1000000) : ∀ (d fl k : Nat), m.length - k = d → k ≤ m.length → d < fl → h10_0 fl m.length k m = some (.one (.bool true), [])
  | d, fl, k, hd, hk, hf => by
    obtain ⟨fl, rfl⟩ : ∃ q, fl = q + 1 := ⟨fl - 1, by omega⟩
    rw [h10_0_eq]
    by_cases hlt : k < m.length
    · obtain ⟨d, rfl⟩ : ∃ q, d = q + 1 := ⟨d - 1, by omega⟩
      have next := loop10 m hm h d fl (k + 1) (by omega) (by omega) (by omega)
      have e1 : m.getD k (dflt K.int) = gx m k := rfl
      rw [if_pos (lt_nat hlt), if_pos (idx_nat hlt), Int.toNat_natCast, e1, wr_succ (by omega)]
      rcases h k with e | e
      · rw [e, if_neg (by decide)]; exact next
      · rw [e, if_pos (by decide), if_neg (by decide)]; exact next
    · rw [if_neg (nlt_nat hlt)]
theorem gx_append (a b : List Int) (i : Nat) : gx (a ++ b) i = if i < a.length then gx a i else gx b (i - a.length) := by
  unfold gx
  split
  · rename_i h
    rw [List.getD_eq_getElem?_getD, List.getElem?_append_left h, ← List.getD_eq_getElem?_getD]
  · rename_i h
    rw [List.getD_eq_getElem?_getD, List.getElem?_append_right (by omega), ← List.getD_eq_getElem?_getD]
theorem v10 (l : List Int) (a b : Int) (h : l.all u8B = true) (ha : u16B a = true) (hb : u16B b = true) : h10 1000 l a b = some (.one (.bool true), []) := by
  obtain ⟨x, p, e1, hx, k1⟩ := mades_ok (cok0 h)
  have hlen := hx.net.len
  have hm := hx.m
  have hn := hx.n
  obtain ⟨S, q, e2, s1, s2, k2⟩ := spans_ok false (r := x.fw) (by omega) (fun z hz => by have := hx.flows z hz; omega) k1
  have ha' : 0 ≤ a ∧ a < 65536 := by rw [u16B_iff] at ha; omega
  have hb' : 0 ≤ b ∧ b < 65536 := by rw [u16B_iff] at hb; omega
  rw [h10_eq, e1, Option.bind_some]
  by_cases c : x.fw.length = 0
  · rw [if_pos (by simp [c])]
  obtain ⟨k, p5, e5, a5, b5, k5⟩ := next_ok (n := x.fw.length) k2 (by omega)
  have hw1 : IntKind.i64.wrap ((x.fw.length : Int) - 1) = (x.fw.length : Int) - 1 := wid (by omega) (by omega)
  obtain ⟨L, p6, e6, d1, d2, k6⟩ := sources_ok (n := (x.fw.length : Int) - 1) (by omega) k5
  have ea : IntKind.i64.wrap a = a := wid (by omega) (by omega)
  have ebb : IntKind.i64.wrap b = b := wid (by omega) (by omega)
  have eab : IntKind.i64.wrap (a + b) = a + b := wid (by omega) (by omega)
  rw [if_neg (by simpa using c), e2, Option.bind_some, e5, Option.bind_some, hw1, e6, Option.bind_some, ea, ebb, eab]
  obtain ⟨y, f1, hy⟩ := pmost_ok false x.P false x.R false S true ([⟨k, 0, a + b⟩] ++ L)
  obtain ⟨z, f2, hz⟩ := pmost_ok false x.P false x.R false S true ([] ++ L ++ [⟨k, 0, a⟩, ⟨k, 0, b⟩])
  obtain ⟨u, f3, hu⟩ := pmost_ok false x.P false x.R false S false []
  have hck : checkG x.P x.R ([⟨k, 0, a + b⟩] ++ L) = checkG x.P x.R ([] ++ L ++ [⟨k, 0, a⟩, ⟨k, 0, b⟩]) := by
    have o1 : srcErr x.R.length [⟨k, 0, a + b⟩] = 0 := srcErr_ok.2 fun s hs => by
      have : s = ⟨k, 0, a + b⟩ := by simpa using hs
      subst this; dsimp only; omega
    have o2 : srcErr x.R.length [⟨k, 0, a⟩, ⟨k, 0, b⟩] = 0 := srcErr_ok.2 fun s hs => by
      have : s = ⟨k, 0, a⟩ ∨ s = ⟨k, 0, b⟩ := by simpa using hs
      rcases this with rfl | rfl <;> dsimp only <;> omega
    unfold checkG
    rw [srcErr_append, o1, if_pos rfl, List.nil_append, srcErr_append, o2]
    have h1 : ¬ ([(⟨k, 0, a + b⟩ : Source)] ++ L).length > 32 := by simp; omega
    have h2 : ¬ (L ++ [(⟨k, 0, a⟩ : Source), ⟨k, 0, b⟩]).length > 32 := by simp; omega
    rw [if_neg h1, if_neg h2]
    split
    · rfl
    · split
      · assumption
      · rfl
  have hmo : ∀ i, i < x.R.length → moG S ([⟨k, 0, a + b⟩] ++ L) i = moG S ([] ++ L ++ [⟨k, 0, a⟩, ⟨k, 0, b⟩]) i := fun i _ => by
    have e : inflow i ([⟨k, 0, a + b⟩] ++ L) = inflow i ([] ++ L ++ [⟨k, 0, a⟩, ⟨k, 0, b⟩]) := by
      rw [inflow_append, List.nil_append, inflow_append]
      simp only [inflow]
      split <;> omega
    unfold moG
    rw [e]
  have hyz := hy.same hck hmo hz
  subst hyz
  have hl := hy.plen
  have hul := hu.plen
  obtain ⟨u1, u2⟩ := hu.ok (hx.check1 ⟨by simp, fun s hs => by cases hs⟩) (by omega)
  have hno := u2.none (p0G_two _ _ _) (fun i _ => addG_zero _ _) (u2.pz (p0G_two _ _ _))
  rw [if_pos (by simp [lim]; omega), f1, Option.bind_some, if_pos (by simp [lim]; omega), if_pos (by simp [lim]; omega), f2, Option.bind_some, if_neg (by simp), ints_eq _ _ _ _ (by omega), Option.bind_some, if_neg (by simp), ints_eq _ _ _ _ (by omega), Option.bind_some, if_neg (by simp), f3, Option.bind_some, if_neg (by simp [u1]), if_pos (decide_eq_true (by unfold lim; omega)), if_pos (decide_eq_true (by unfold lim; rw [List.nil_append]; omega))]
  refine loop10 ([] ++ u.1 ++ u.2.1) (by simp; omega) (fun i => ?_) ([] ++ u.1 ++ u.2.1).length 999 0 (by omega) (by omega) (by simp; omega)
  rw [List.nil_append, gx_append]
  split
  · exact hno.1 i
  · exact hno.2 _
def s10 : Spec := ⟨false, fun av ob => match av, ob with
  | [.one (.vec false .u8 l), .one (.int .u16 a), .one (.int .u16 b)], [] => .need (l.all u8B && (u16B a && (u16B b))) (.ret (.one (.bool true), []))
  | _, _ => .fail⟩
theorem p10 : SpecOK Try.prog 10 s10 := by
  refine specOK_of (env_ok (l := l10) ⟨⟨p26, f26⟩, ⟨⟨pc43, f43⟩, ⟨⟨p44, f44⟩, ⟨⟨pc45, f45⟩, ⟨⟨pc46, f46⟩, ⟨⟨pc51, f51⟩, ⟨⟨pc147, f147⟩, ⟨⟨pc52, f52⟩, trivial⟩⟩⟩⟩⟩⟩⟩⟩) mixed_ok Try.func10 k10 fun av ob r os hrn => ?_
  simp only [s10] at hrn
  split at hrn
  · rename_i l a b
    obtain ⟨hg, hrn⟩ := need_den hrn
    cases hrn
    try simp only [Bool.and_eq_true] at hg
    obtain ⟨q1, q2, q3⟩ := hg
    have hv := v10 l a b q1 q2 q3
    unfold h10 at hv
    exact ⟨1000, hv⟩
  · cases hrn
theorem law10 (av : List AV) (h : AVs [RBytes, RU16, RU16] av) : (s10.run av []).den = some (.one (.bool true), []) := by
  obtain ⟨_, _, rfl, ⟨l, rfl, q1⟩, k1⟩ := h.cons
  obtain ⟨_, _, rfl, ⟨a, rfl, q2⟩, k2⟩ := k1.cons
  obtain ⟨_, _, rfl, ⟨b, rfl, q3⟩, k3⟩ := k2.cons
  rw [k3.nil]
  refine den_need ?_
  try simp only [Bool.and_eq_true]
  exact ⟨q1, q2, q3⟩
end Go.Proofs.Ytipfipnhgpbceaa.Sx
