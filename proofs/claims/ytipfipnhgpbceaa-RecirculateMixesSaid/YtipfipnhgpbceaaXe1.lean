/- Plain theorems and definitions for the claim, put together out of several texts. -/
import Derived.Test.YtipfipnhgpbceaaXe
/- Auxiliary fans on possible circles (plain theorems). -/


set_option linter.unusedVariables false
set_option linter.unusedSimpArgs false
set_option maxRecDepth 100000
namespace Go.Proofs.Ytipfipnhgpbceaa.Sx
open Go Go.RowKit
def thr (l : List Int) (F : List Fan) : Nat → Nat → List Int
  | 0, _ => []
  | m + 1, i => (if (F.getD i fan0).aux = true ∧ (F.getD i fan0).road ∈ l then [(i : Int)] else []) ++ thr l F m (i + 1)
noncomputable def l73 : List (FuncId × Spec) := [(65, c65)]
def k73 : Code → Keep := keepOf [(3, ⟨[2, 5, 15, 16, 17], [], []⟩), (9, ⟨[5, 8, 25, 26, 27], [(8, .int)], []⟩)]
noncomputable def h73_0 (fl : Nat) (t15 : List Int) (t16 : Int) (t17 : Int) (m0_0b : Bool) (m0_0 : List Place) (m0_1b : Bool) (m0_1 : List Road) (m0_2b : Bool) (m0_2 : List Fan) (m0_3b : Bool) (m0_3 : List Door) (m1 : List Int) : Option (AV × List Ob) := (evalH (env l73) Try.f73 k73 0 fl (stkF Try.f73 [1, 1, 0, 1, 0]) ⟨[.one (.undef), .one (.undef), .one (.ptr 0 0), .one (.undef), .one (.undef), .one (.mp 1), .one (.undef), .one (.undef), .one (.undef), .one (.undef), .one (.undef), .one (.undef), .one (.undef), .one (.undef), .one (.undef), .one (.vec false .int t15), .one (.int .i64 t16), .one (.int .i64 t17), .one (.undef), .one (.undef), .one (.undef), .one (.undef), .one (.undef), .one (.undef), .one (.undef), .one (.undef), .one (.undef), .one (.undef), .one (.undef), .one (.undef), .one (.undef), .one (.undef), .one (.undef), .one (.undef), .one (.undef), .one (.undef), .one (.undef), .one (.undef), .one (.undef), .one (.undef), .one (.undef), .one (.undef), .one (.undef), .one (.undef), .one (.undef), .one (.undef)], [((0, 0), some (.cell (.vec m0_0b .place m0_0))), ((0, 1), some (.cell (.vec m0_1b .road m0_1))), ((0, 2), some (.cell (.vec m0_2b .fan m0_2))), ((0, 3), some (.cell (.vec m0_3b .door m0_3))), ((1, 0), some (.keys m1))], 2⟩).den
noncomputable def h73_1 (fl : Nat) (t25b : Bool) (t25 : List Fan) (t26 : Int) (t27 : Int) (m0 : List Int) (m1 : List Int) : Option (AV × List Ob) := (evalH (env l73) Try.f73 k73 0 fl (stkF Try.f73 [1, 1, 1, 1, 0, 1, 0]) ⟨[.one (.undef), .one (.undef), .one (.undef), .one (.undef), .one (.undef), .one (.mp 0), .one (.undef), .one (.undef), .one (.row 1), .one (.undef), .one (.undef), .one (.undef), .one (.undef), .one (.undef), .one (.undef), .one (.undef), .one (.undef), .one (.undef), .one (.undef), .one (.undef), .one (.undef), .one (.undef), .one (.undef), .one (.undef), .one (.undef), .one (.vec t25b .fan t25), .one (.int .i64 t26), .one (.int .i64 t27), .one (.undef), .one (.undef), .one (.undef), .one (.undef), .one (.undef), .one (.undef), .one (.undef), .one (.undef), .one (.undef), .one (.undef), .one (.undef), .one (.undef), .one (.undef), .one (.undef), .one (.undef), .one (.undef), .one (.undef), .one (.undef)], [((0, 0), some (.keys m0)), ((1, 0), some (.rows .int m1))], 2⟩).den
noncomputable def h73 (fl : Nat) (b1 : Bool) (P : List Place) (b2 : Bool) (R : List Road) (b3 : Bool) (F : List Fan) (b4 : Bool) (D : List Door) (b5 : Bool) (f : List Span) : Option (AV × List Ob) := (evalF (env l73) Try.f73 k73 fl [.agg [.vec b1 .place P, .vec b2 .road R, .vec b3 .fan F, .vec b4 .door D], .one (.vec b5 .span f)] []).den
theorem h73_eq (fl : Nat) (b1 : Bool) (P : List Place) (b2 : Bool) (R : List Road) (b3 : Bool) (F : List Fan) (b4 : Bool) (D : List Door) (b5 : Bool) (f : List Span) : h73 (fl + 1) b1 P b2 R b3 F b4 D b5 f =
    (o65 b1 P b2 R b5 f).bind fun x2 =>
    h73_0 fl x2 ((↑x2.length : Int)) 0 b1 P b2 R b3 F b4 D [] := by kernel_rfl
theorem h73_0_eq (fl : Nat) (t15 : List Int) (t16 : Int) (t17 : Int) (m0_0b : Bool) (m0_0 : List Place) (m0_1b : Bool) (m0_1 : List Road) (m0_2b : Bool) (m0_2 : List Fan) (m0_3b : Bool) (m0_3 : List Door) (m1 : List Int) : h73_0 (fl + 1) t15 t16 t17 m0_0b m0_0 m0_1b m0_1 m0_2b m0_2 m0_3b m0_3 m1 =
    if (decide (t17 < t16)) = true then if (idx t15.length t17) = true then if (true && (i64In (t15.getD t17.toNat (dflt K.int)) && decide (m1.length < lim))) = true then h73_0 fl t15 t16 (IntKind.i64.wrap (t17 + 1)) m0_0b m0_0 m0_1b m0_1 m0_2b m0_2 m0_3b m0_3 (m1 ++ [t15.getD t17.toNat (dflt K.int)])
        else none
      else none
    else h73_1 fl m0_2b m0_2 ((↑m0_2.length : Int)) 0 m1 [] := by kernel_rfl
theorem h73_1_eq (fl : Nat) (t25b : Bool) (t25 : List Fan) (t26 : Int) (t27 : Int) (m0 : List Int) (m1 : List Int) : h73_1 (fl + 1) t25b t25 t26 t27 m0 m1 =
    if (decide (t27 < t26)) = true then if (idx t25.length t27) = true then if ((t25.getD t27.toNat (dflt K.fan)).aux) = true then if (i64In (t25.getD t27.toNat (dflt K.fan)).road) = true then if (m0.contains (t25.getD t27.toNat (dflt K.fan)).road) = true then if (decide ((m1).length + ([t27]).length ≤ lim)) = true then h73_1 fl t25b t25 t26 (IntKind.i64.wrap (t27 + 1)) m0 (m1 ++ [t27])
              else none
            else h73_1 fl t25b t25 t26 (IntKind.i64.wrap (t27 + 1)) m0 m1
          else none
        else h73_1 fl t25b t25 t26 (IntKind.i64.wrap (t27 + 1)) m0 m1
      else none
    else some (.one (.row 0), [.rows .int m1]) := by kernel_rfl
noncomputable def o73 (b1 : Bool) (P : List Place) (b2 : Bool) (R : List Road) (b3 : Bool) (F : List Fan) (b4 : Bool) (D : List Door) (b5 : Bool) (f : List Span) : Option (List Int) := (h73 1000 b1 P b2 R b3 F b4 D b5 f).bind (decInts)
noncomputable def c73 : Spec := ⟨false, fun av ob => match av, ob with
  | [.agg [.vec b1 .place P, .vec b2 .road R, .vec b3 .fan F, .vec b4 .door D], .one (.vec b5 .span f)], [] => .call (o73 b1 P b2 R b3 F b4 D b5 f) fun x => .ret (.one (.vec false .int x), [])
  | _, _ => .fail⟩
theorem f73 : FnOK Try.prog 73 := fnOK_of Try.func73 rfl (by kernel_rfl)
theorem pc73 : SpecOK Try.prog 73 c73 := by
  refine spec_thaw (fun av ob r os hrn => ?_) (machS_ok (env_ok (l := l73) ⟨⟨pc65, f65⟩, trivial⟩) mixed_ok Try.func73 k73 (fun _ _ => 1000) false)
  simp only [c73] at hrn
  split at hrn
  · rename_i b1 P b2 R b3 F b4 D b5 f
    obtain ⟨x, hx, hr⟩ := Option.bind_eq_some_iff.1 hrn
    cases hr
    obtain ⟨y, hy, hd⟩ := Option.bind_eq_some_iff.1 hx
    unfold h73 at hy
    obtain ⟨d1, d2⟩ := decInts_ok hd
    exact ⟨y.1, y.2, by rw [machS_run]; exact hy, d1, d2⟩
  · cases hrn
noncomputable def l74 : List (FuncId × Spec) := [(66, c66), (69, c69)]
def k74 : Code → Keep := keepOf [(4, ⟨[2, 5, 6, 7], [(6, .int)], []⟩)]
noncomputable def h74_0 (fl : Nat) (t5 : List Int) (t7 : Int) (m0_0b : Bool) (m0_0 : List Place) (m0_1b : Bool) (m0_1 : List Road) (m0_2b : Bool) (m0_2 : List Fan) (m0_3b : Bool) (m0_3 : List Door) (m1 : List Int) : Option (AV × List Ob) := (evalH (env l74) Try.f74 k74 0 fl (stkF Try.f74 [1, 1, 1, 0, 1, 0]) ⟨[.one (.undef), .one (.undef), .one (.ptr 0 0), .one (.undef), .one (.undef), .one (.vec false .int t5), .one (.row 1), .one (.int .i64 t7), .one (.undef), .one (.undef), .one (.undef), .one (.undef), .one (.undef), .one (.undef), .one (.undef), .one (.undef), .one (.undef), .one (.undef), .one (.undef), .one (.undef), .one (.undef), .one (.undef), .one (.undef), .one (.undef), .one (.undef), .one (.undef), .one (.undef), .one (.undef), .one (.undef), .one (.undef), .one (.undef), .one (.undef), .one (.undef), .one (.undef), .one (.undef), .one (.undef), .one (.undef), .one (.undef), .one (.undef), .one (.undef)], [((0, 0), some (.cell (.vec m0_0b .place m0_0))), ((0, 1), some (.cell (.vec m0_1b .road m0_1))), ((0, 2), some (.cell (.vec m0_2b .fan m0_2))), ((0, 3), some (.cell (.vec m0_3b .door m0_3))), ((1, 0), some (.rows .int m1))], 2⟩).den
noncomputable def h74 (fl : Nat) (b1 : Bool) (P : List Place) (b2 : Bool) (R : List Road) (b3 : Bool) (F : List Fan) (b4 : Bool) (D : List Door) (b5 : Bool) (f : List Span) : Option (AV × List Ob) := (evalF (env l74) Try.f74 k74 fl [.agg [.vec b1 .place P, .vec b2 .road R, .vec b3 .fan F, .vec b4 .door D], .one (.vec b5 .span f)] []).den
theorem h74_eq (fl : Nat) (b1 : Bool) (P : List Place) (b2 : Bool) (R : List Road) (b3 : Bool) (F : List Fan) (b4 : Bool) (D : List Door) (b5 : Bool) (f : List Span) : h74 (fl + 1) b1 P b2 R b3 F b4 D b5 f =
    (o66 b1 P b2 R b5 f).bind fun x2 =>
    h74_0 fl x2 0 b1 P b2 R b3 F b4 D [] := by kernel_rfl
theorem h74_0_eq (fl : Nat) (t5 : List Int) (t7 : Int) (m0_0b : Bool) (m0_0 : List Place) (m0_1b : Bool) (m0_1 : List Road) (m0_2b : Bool) (m0_2 : List Fan) (m0_3b : Bool) (m0_3 : List Door) (m1 : List Int) : h74_0 (fl + 1) t5 t7 m0_0b m0_0 m0_1b m0_1 m0_2b m0_2 m0_3b m0_3 m1 =
    if (decide (t7 < (↑m0_2.length : Int))) = true then if (idx m0_2.length t7) = true then if ((m0_2.getD t7.toNat (dflt K.fan)).aux) = true then if (idx m0_2.length t7) = true then (o69 t5 (m0_2.getD t7.toNat (dflt K.fan)).road).bind fun x6 =>
            if x6 = true then if (decide ((m1).length + ([t7]).length ≤ lim)) = true then h74_0 fl t5 (IntKind.i64.wrap (t7 + 1)) m0_0b m0_0 m0_1b m0_1 m0_2b m0_2 m0_3b m0_3 (m1 ++ [t7])
                else none
              else h74_0 fl t5 (IntKind.i64.wrap (t7 + 1)) m0_0b m0_0 m0_1b m0_1 m0_2b m0_2 m0_3b m0_3 m1
          else none
        else h74_0 fl t5 (IntKind.i64.wrap (t7 + 1)) m0_0b m0_0 m0_1b m0_1 m0_2b m0_2 m0_3b m0_3 m1
      else none
    else some (.one (.row 0), [.rows .int m1]) := by kernel_rfl
noncomputable def o74 (b1 : Bool) (P : List Place) (b2 : Bool) (R : List Road) (b3 : Bool) (F : List Fan) (b4 : Bool) (D : List Door) (b5 : Bool) (f : List Span) : Option (List Int) := (h74 1000 b1 P b2 R b3 F b4 D b5 f).bind (decInts)
noncomputable def c74 : Spec := ⟨false, fun av ob => match av, ob with
  | [.agg [.vec b1 .place P, .vec b2 .road R, .vec b3 .fan F, .vec b4 .door D], .one (.vec b5 .span f)], [] => .call (o74 b1 P b2 R b3 F b4 D b5 f) fun x => .ret (.one (.vec false .int x), [])
  | _, _ => .fail⟩
theorem f74 : FnOK Try.prog 74 := fnOK_of Try.func74 rfl (by kernel_rfl)
theorem pc74 : SpecOK Try.prog 74 c74 := by
  refine spec_thaw (fun av ob r os hrn => ?_) (machS_ok (env_ok (l := l74) ⟨⟨pc66, f66⟩, ⟨⟨pc69, f69⟩, trivial⟩⟩) mixed_ok Try.func74 k74 (fun _ _ => 1000) false)
  simp only [c74] at hrn
  split at hrn
  · rename_i b1 P b2 R b3 F b4 D b5 f
    obtain ⟨x, hx, hr⟩ := Option.bind_eq_some_iff.1 hrn
    cases hr
    obtain ⟨y, hy, hd⟩ := Option.bind_eq_some_iff.1 hx
    unfold h74 at hy
    obtain ⟨d1, d2⟩ := decInts_ok hd
    exact ⟨y.1, y.2, by rw [machS_run]; exact hy, d1, d2⟩
  · cases hrn
def FanIn (F : List Fan) : Prop := F.length ≤ 8 ∧ ∀ k, k < F.length → 0 ≤ (F.getD k fan0).road ∧ (F.getD k fan0).road ≤ 1000
theorem keys73 (b1 b2 b3 b4 : Bool) (P : List Place) (R : List Road) (F : List Fan) (D : List Door) (l : List Int) (hl : l.length ≤ 300) (hb : ∀ x ∈ l, 0 ≤ x ∧ x ≤ 1000) : ∀ (d fl k : Nat) (m : List Int), l.length - k = d → k ≤ l.length → m.length = k → h73_0 (fl + d) l l.length k b1 P b2 R b3 F b4 D m = h73_0 fl l l.length l.length b1 P b2 R b3 F b4 D (m ++ l.drop k)
  | 0, fl, k, m, hd, hk, hm => by
    have : k = l.length := by omega
    subst this
    rw [List.drop_length, List.append_nil]
    rfl
  | d + 1, fl, k, m, hd, hk, hm => by
    have hlt : k < l.length := by omega
    have h1 := hb _ (List.getElem_mem hlt)
    rw [show fl + (d + 1) = fl + d + 1 by omega, h73_0_eq, if_pos (lt_nat hlt), if_pos (idx_nat hlt), at_lt hlt, wr_succ (by omega), List.drop_eq_getElem_cons hlt]
    generalize l[k] = x at *
    rw [if_pos (show (true && (i64In x && decide (m.length < lim))) = true by simp only [Bool.true_and, Bool.and_eq_true, decide_eq_true_eq, i64In]; exact ⟨⟨by omega, by omega⟩, by unfold lim; omega⟩), keys73 b1 b2 b3 b4 P R F D l hl hb d fl (k + 1) (m ++ [x]) (by omega) (by omega) (by simp; omega), List.append_assoc]
    rfl
theorem fans73 (b : Bool) (F : List Fan) (hF : FanIn F) (l : List Int) : ∀ (d fl i : Nat) (o : List Int), F.length - i = d → i ≤ F.length → d < fl → o.length ≤ i → h73_1 fl b F F.length i l o = some (.one (.row 0), [.rows .int (o ++ thr l F d i)])
  | d, fl, i, o, hd, hi, hf, ho => by
    obtain ⟨fl, rfl⟩ : ∃ q, fl = q + 1 := ⟨fl - 1, by omega⟩
    have hf0 : dflt K.fan = fan0 := rfl
    have h8 := hF.1
    rw [h73_1_eq]
    by_cases hlt : i < F.length
    · obtain ⟨d, rfl⟩ : ∃ q, d = q + 1 := ⟨d - 1, by omega⟩
      have hr := hF.2 i hlt
      have ih := fun (o : List Int) (ho : o.length ≤ i + 1) => fans73 b F hF l d fl (i + 1) o (by omega) (by omega) (by omega) ho
      rw [if_pos (lt_nat hlt), if_pos (idx_nat hlt), hf0, Int.toNat_natCast, wr_succ (by omega), thr]
      by_cases c1 : (F.getD i fan0).aux = true
      · rw [if_pos c1, if_pos (show i64In (F.getD i fan0).road = true by simp only [Bool.and_eq_true, decide_eq_true_eq, i64In]; exact ⟨by omega, by omega⟩)]
        by_cases c2 : (F.getD i fan0).road ∈ l
        · rw [if_pos (List.contains_iff_mem.2 c2), if_pos (show decide (o.length + [_].length ≤ lim) = true by simp [lim]; omega), ih _ (by simp; omega), if_pos ⟨c1, c2⟩, List.append_assoc]
        · rw [if_neg (fun e => c2 (List.contains_iff_mem.1 e)), ih _ (by omega), if_neg (fun e => c2 e.2), List.nil_append]
      · rw [if_neg c1, ih _ (by omega), if_neg (fun e => c1 e.1), List.nil_append]
    · have : d = 0 := by omega
      subst this
      rw [if_neg (nlt_nat hlt)]
      simp [thr]
theorem circM_in {P : List Place} {R : List Road} {f : List Span} : ∀ x ∈ circM P R f, 0 ≤ x ∧ x ≤ 1000 := fun x hx => by
  obtain ⟨hr, j, h1, _, h3⟩ := mem_circM.1 hx
  have := (rightM_in hr).2.2.1
  omega
theorem through_eq (b1 : Bool) (P : List Place) (b2 : Bool) (R : List Road) (b3 : Bool) (F : List Fan) (b4 : Bool) (D : List Door) (b5 : Bool) (f : List Span) (hP : P.length ≤ 64) (hF : FanIn F) : o73 b1 P b2 R b3 F b4 D b5 f = some (thr (circM P R f) F F.length 0) := by
  have hl := circM_len P R f
  have h8 := hF.1
  unfold o73
  rw [h73_eq, circles_eq _ _ _ _ _ _ hP, Option.bind_some]
  have e := keys73 b1 b2 b3 b4 P R F D (circM P R f) (by omega) circM_in (circM P R f).length (999 - (circM P R f).length) 0 [] (by omega) (by omega) rfl
  rw [show 999 - (circM P R f).length + (circM P R f).length = 999 by omega, List.drop_zero, List.nil_append] at e
  have e' : h73_0 999 (circM P R f) (circM P R f).length 0 b1 P b2 R b3 F b4 D [] = _ := e
  obtain ⟨fl, hfl⟩ : ∃ q, 999 - (circM P R f).length = q + 1 := ⟨998 - (circM P R f).length, by omega⟩
  have g := fans73 b3 F hF (circM P R f) F.length fl 0 [] (by omega) (by omega) (by omega) (by simp)
  have g' : h73_1 fl b3 F F.length 0 (circM P R f) [] = _ := g
  rw [e', hfl, h73_0_eq, if_neg (by simp), g', List.nil_append]
  simp [decInts, slO]
theorem fans74 (b1 b2 b3 b4 : Bool) (P : List Place) (R : List Road) (F : List Fan) (hF : FanIn F) (D : List Door) (l : List Int) (hl : l.length ≤ 1000) : ∀ (d fl i : Nat) (o : List Int), F.length - i = d → i ≤ F.length → d < fl → o.length ≤ i → h74_0 fl l i b1 P b2 R b3 F b4 D o = some (.one (.row 0), [.rows .int (o ++ thr l F d i)])
  | d, fl, i, o, hd, hi, hf, ho => by
    obtain ⟨fl, rfl⟩ : ∃ q, fl = q + 1 := ⟨fl - 1, by omega⟩
    have hf0 : dflt K.fan = fan0 := rfl
    have h8 := hF.1
    rw [h74_0_eq]
    by_cases hlt : i < F.length
    · obtain ⟨d, rfl⟩ : ∃ q, d = q + 1 := ⟨d - 1, by omega⟩
      have ih := fun (o : List Int) (ho : o.length ≤ i + 1) => fans74 b1 b2 b3 b4 P R F hF D l hl d fl (i + 1) o (by omega) (by omega) (by omega) ho
      rw [if_pos (lt_nat hlt), if_pos (idx_nat hlt), hf0, Int.toNat_natCast, wr_succ (by omega), thr]
      by_cases c1 : (F.getD i fan0).aux = true
      · rw [if_pos c1, if_pos (idx_nat hlt), has_eq _ _ hl, Option.bind_some]
        by_cases c2 : (F.getD i fan0).road ∈ l
        · rw [if_pos (decide_eq_true c2), if_pos (show decide (o.length + [_].length ≤ lim) = true by simp [lim]; omega), ih _ (by simp; omega), if_pos ⟨c1, c2⟩, List.append_assoc]
        · rw [if_neg (fun e => c2 (of_decide_eq_true e)), ih _ (by omega), if_neg (fun e => c2 e.2), List.nil_append]
      · rw [if_neg c1, ih _ (by omega), if_neg (fun e => c1 e.1), List.nil_append]
    · have : d = 0 := by omega
      subst this
      rw [if_neg (nlt_nat hlt)]
      simp [thr]
theorem rthrough_eq (b1 : Bool) (P : List Place) (b2 : Bool) (R : List Road) (b3 : Bool) (F : List Fan) (b4 : Bool) (D : List Door) (b5 : Bool) (f : List Span) (hF : FanIn F) : o74 b1 P b2 R b3 F b4 D b5 f = some (thr (circM P R f) F F.length 0) := by
  have hl := circM_len P R f
  have h8 := hF.1
  unfold o74
  rw [h74_eq, rcircles_eq, Option.bind_some]
  have e := fans74 b1 b2 b3 b4 P R F hF D (circM P R f) (by omega) F.length 999 0 [] (by omega) (by omega) (by omega) (by simp)
  have e' : h74_0 999 (circM P R f) 0 b1 P b2 R b3 F b4 D [] = _ := e
  rw [e', List.nil_append]
  simp [decInts, slO]
theorem thr_len (l : List Int) (F : List Fan) : ∀ m i, (thr l F m i).length ≤ m
  | 0, i => by simp [thr]
  | m + 1, i => by
    rw [thr, List.length_append]
    have := thr_len l F m (i + 1)
    split <;> simp <;> omega
/-- The mine with its fans. -/
theorem airs_ok2 {l : List Int} (hu : l.all u8B = true) : ∃ x, o62 l = some x ∧ AirB x ∧ FanIn x.F := by
  obtain ⟨x, p, e1, hx, k1⟩ := mades_ok (cok0 hu)
  obtain ⟨v, p2, e2, k2⟩ := one_ok (n := 2) k1
  unfold o62
  rw [h62_eq, e1, Option.bind_some, e2, Option.bind_some]
  have hlen := hx.net.len
  have hm := hx.m
  by_cases c : v = true
  · obtain ⟨y, p3, e3, hy, _, k3⟩ := mine_ok k2
    obtain ⟨a, p4, e4, a1, a2, k4⟩ := next_ok (n := 3) k3 (by omega)
    obtain ⟨b, p5, e5, b1, b2, k5⟩ := next_ok (n := 3) k4 (by omega)
    rw [if_pos c, e3, Option.bind_some, e4, Option.bind_some, e5, Option.bind_some]
    have hm2 := hy.m
    obtain ⟨W, S, w1, w2, w3, w4, w5⟩ := air_loop (l.take 300) y.P y.R hy.m x.pr ([⟨a, false, true, []⟩, ⟨b, false, false, []⟩]) y.R.length 99 0 p5 [] (by omega) (by omega) (by omega) k5 rfl (fun x hx => by cases hx)
    have w6 : h62_0 99 y.R.length 0 (l.take 300) p5 y.P y.R x.pr ([⟨a, false, true, []⟩, ⟨b, false, false, []⟩]) [] = _ := w5
    refine ⟨⟨y.P, y.R, [⟨a, false, true, []⟩, ⟨b, false, false, []⟩], [], S, W⟩, ?_, ⟨hy, w2, w1, w4, fun k _ => w3.at k⟩, by show 2 ≤ 8; omega, fun k hk => ?_⟩
    · show Option.bind (h62_0 99 y.R.length 0 (l.take 300) p5 y.P y.R x.pr ([⟨a, false, true, []⟩, ⟨b, false, false, []⟩]) []) decAir = _
      rw [w6]
      simp [decAir, slO]
    · have : k = 0 ∨ k = 1 := by simp at hk; omega
      rcases this with rfl | rfl
      · show 0 ≤ a ∧ a ≤ 1000; omega
      · show 0 ≤ b ∧ b ≤ 1000; omega
  · have hfl : ∀ x' ∈ x.fw, -300 ≤ x' ∧ x' ≤ 300 := fun z hz => by
      obtain ⟨k, hk, rfl⟩ := List.getElem_of_mem hz
      have := (hx.net.road k (by omega)).flow
      rw [List.getD_eq_getElem?_getD, List.getElem?_eq_getElem hk] at this
      exact this
    obtain ⟨S, q, e, s1, s2, _⟩ := spans_ok false (r := x.fw) (by omega) (fun z hz => by have := hfl z hz; omega) k2
    obtain ⟨sF, sD, h1, h2, h3, _⟩ := hx.equip
    rw [if_neg c, e, Option.bind_some]
    refine ⟨⟨x.P, x.R, x.F, x.D, S, x.fw⟩, ?_, ⟨hx.mine, by dsimp only; omega, by dsimp only; omega, fun k hk => s2 k (by dsimp only at hk; omega), fun k hk => FlowOK.at hfl k⟩, by dsimp only; omega, fun k hk => ?_⟩
    · simp [decAir, slO]
    · have := h3.fan k hk
      dsimp only at *
      omega
end Go.Proofs.Ytipfipnhgpbceaa.Sx
/- To which places air of circles comes, and which auxiliary fans stand in circles (plain theorems). -/


set_option linter.unusedVariables false
set_option linter.unusedSimpArgs false
set_option maxRecDepth 100000
namespace Go.Proofs.Ytipfipnhgpbceaa.Sx
open Go Go.RowKit
/-- A mine of nil slices too. -/
noncomputable def c171 : Spec := ⟨false, fun av ob => match av, ob with
  | [.agg [.vec b1 .place P, .vec b2 .road R], .one (.vec b3 .span f)], [] => .call (o71 b1 P b2 R b3 f) fun x => .ret (.one (.vec false .int x), [])
  | [.agg [.nils, .nils], .one (.vec b3 .span f)], [] => .call (o71 false [] false [] b3 f) fun x => .ret (.one (.vec false .int x), [])
  | _, _ => .fail⟩
noncomputable def c172 : Spec := ⟨false, fun av ob => match av, ob with
  | [.agg [.vec b1 .place P, .vec b2 .road R], .one (.vec b3 .span f)], [] => .call (o72 b1 P b2 R b3 f) fun x => .ret (.one (.vec false .int x), [])
  | [.agg [.nils, .nils], .one (.vec b3 .span f)], [] => .call (o72 false [] false [] b3 f) fun x => .ret (.one (.vec false .int x), [])
  | _, _ => .fail⟩
theorem srel_nils {w : World} {ρ : Rho} {ok : Okp} {v : Value} {b : Bool} {E : K} (h : SRel w ρ ok v .nils) : SRel w ρ ok v (.vec b E []) := by
  cases h; exact .vec0 _ _ _ _
theorem vrel_nmine {w : World} {ρ : Rho} {ok : Okp} {v : Value} (h : VRel w ρ ok v (.agg [.nils, .nils])) : VRel w ρ ok v (.agg [.vec false .place [], .vec false .road []]) := by
  cases h with
  | agg vs l h =>
    refine .agg vs _ ?_
    match vs.toList, h with
    | [a, b], h => exact ⟨srel_nils h.1, srel_nils h.2.1, trivial⟩
theorem f171 : FnOK Try.prog 71 := f71
theorem f172 : FnOK Try.prog 72 := f72
theorem pc171 : SpecOK Try.prog 71 c171 := by
  intro w ρ ok vs avs obs r os hH hρ hv hrn
  simp only [c171] at hrn
  split at hrn
  · exact pc71 w ρ ok vs _ _ r os hH hρ hv hrn
  · rename_i b3 f
    refine pc71 w ρ ok vs [.agg [.vec false .place [], .vec false .road []], .one (.vec b3 .span f)] [] r os hH hρ ?_ hrn
    match vs, hv with
    | [v1, v2], hv => exact ⟨vrel_nmine hv.1, hv.2.1, trivial⟩
  · cases hrn
theorem pc172 : SpecOK Try.prog 72 c172 := by
  intro w ρ ok vs avs obs r os hH hρ hv hrn
  simp only [c172] at hrn
  split at hrn
  · exact pc72 w ρ ok vs _ _ r os hH hρ hv hrn
  · rename_i b3 f
    refine pc72 w ρ ok vs [.agg [.vec false .place [], .vec false .road []], .one (.vec b3 .span f)] [] r os hH hρ ?_ hrn
    match vs, hv with
    | [v1, v2], hv => exact ⟨vrel_nmine hv.1, hv.2.1, trivial⟩
  · cases hrn
noncomputable def l21 : List (FuncId × Spec) := [(62, c62), (71, c171), (72, c172), (52, c52), (73, c73), (74, c74), (67, s67)]
def k21 : Code → Keep := keepOf [(5, ⟨[5, 7, 31, 32, 33], [], []⟩)]
noncomputable def h21_0 (fl : Nat) (t32 : Int) (t33 : Int) (m1_0 : List Place) (m1_1 : List Road) (m1_2 : List Fan) (m1_3 : List Door) (m2 : List (List Span)) : Option (AV × List Ob) := (evalH (env l21) Try.f21 k21 0 fl (stkF Try.f21 [1, 1, 1, 0, 1, 0]) ⟨[.one (.undef), .one (.undef), .one (.undef), .one (.undef), .one (.undef), .one (.ptr 0 0), .one (.undef), .one (.ptr 1 0), .one (.undef), .one (.undef), .one (.undef), .one (.undef), .one (.undef), .one (.undef), .one (.undef), .one (.undef), .one (.undef), .one (.undef), .one (.undef), .one (.undef), .one (.undef), .one (.undef), .one (.undef), .one (.undef), .one (.undef), .one (.undef), .one (.undef), .one (.undef), .one (.undef), .one (.undef), .one (.undef), .one (.row 2), .one (.int .i64 t32), .one (.int .i64 t33), .one (.undef), .one (.undef), .one (.undef), .one (.undef), .one (.undef), .one (.undef), .one (.undef), .one (.undef), .one (.undef), .one (.undef), .one (.undef), .one (.undef), .one (.undef), .one (.undef), .one (.undef), .one (.undef), .one (.undef), .one (.undef), .one (.undef), .one (.undef), .one (.undef), .one (.undef), .one (.undef), .one (.undef), .one (.undef), .one (.undef), .one (.undef), .one (.undef), .one (.undef), .one (.undef), .one (.undef), .one (.undef), .one (.undef), .one (.undef), .one (.undef)], [((0, 0), some (.cell (.nils))), ((0, 1), some (.cell (.nils))), ((1, 0), some (.cell (.vec false .place m1_0))), ((1, 1), some (.cell (.vec false .road m1_1))), ((1, 2), some (.cell (.vec false .fan m1_2))), ((1, 3), some (.cell (.vec false .door m1_3))), ((2, 0), some (.rows .spans m2))], 3⟩).den
noncomputable def h21_1 (fl : Nat) (t32 : Int) (t33 : Int) (m0_0 : List Place) (m0_1 : List Road) (m1_0 : List Place) (m1_1 : List Road) (m1_2 : List Fan) (m1_3 : List Door) (m2 : List (List Span)) : Option (AV × List Ob) := (evalH (env l21) Try.f21 k21 0 fl (stkF Try.f21 [1, 1, 1, 0, 1, 0]) ⟨[.one (.undef), .one (.undef), .one (.undef), .one (.undef), .one (.undef), .one (.ptr 0 0), .one (.undef), .one (.ptr 1 0), .one (.undef), .one (.undef), .one (.undef), .one (.undef), .one (.undef), .one (.undef), .one (.undef), .one (.undef), .one (.undef), .one (.undef), .one (.undef), .one (.undef), .one (.undef), .one (.undef), .one (.undef), .one (.undef), .one (.undef), .one (.undef), .one (.undef), .one (.undef), .one (.undef), .one (.undef), .one (.undef), .one (.row 2), .one (.int .i64 t32), .one (.int .i64 t33), .one (.undef), .one (.undef), .one (.undef), .one (.undef), .one (.undef), .one (.undef), .one (.undef), .one (.undef), .one (.undef), .one (.undef), .one (.undef), .one (.undef), .one (.undef), .one (.undef), .one (.undef), .one (.undef), .one (.undef), .one (.undef), .one (.undef), .one (.undef), .one (.undef), .one (.undef), .one (.undef), .one (.undef), .one (.undef), .one (.undef), .one (.undef), .one (.undef), .one (.undef), .one (.undef), .one (.undef), .one (.undef), .one (.undef), .one (.undef), .one (.undef)], [((0, 0), some (.cell (.vec false .place m0_0))), ((0, 1), some (.cell (.vec false .road m0_1))), ((1, 0), some (.cell (.vec false .place m1_0))), ((1, 1), some (.cell (.vec false .road m1_1))), ((1, 2), some (.cell (.vec false .fan m1_2))), ((1, 3), some (.cell (.vec false .door m1_3))), ((2, 0), some (.rows .spans m2))], 3⟩).den
noncomputable def h21 (fl : Nat) (l : List Int) (s : List Span) (P : List Place) (R : List Road) : Option (AV × List Ob) := (evalF (env l21) Try.f21 k21 fl [.one (.vec false .u8 l), .one (.vec false .span s), .agg [.vec false .place P, .vec false .road R]] []).den
theorem h21_eq (fl : Nat) (l : List Int) (s : List Span) (P : List Place) (R : List Road) : h21 (fl + 1) l s P R =
    (o62 l).bind fun x2 =>
    if (decide ((↑P.length : Int) > 12)) = true then h21_0 fl ((↑[x2.S, s].length : Int)) 0 x2.P x2.R x2.F x2.D ([x2.S, s])
      else if (decide ((↑R.length : Int) > 12)) = true then h21_0 fl ((↑[x2.S, s].length : Int)) 0 x2.P x2.R x2.F x2.D ([x2.S, s])
        else h21_1 fl ((↑[x2.S, s].length : Int)) 0 P R x2.P x2.R x2.F x2.D ([x2.S, s]) := by kernel_rfl
theorem h21_0_eq (fl : Nat) (t32 : Int) (t33 : Int) (m1_0 : List Place) (m1_1 : List Road) (m1_2 : List Fan) (m1_3 : List Door) (m2 : List (List Span)) : h21_0 (fl + 1) t32 t33 m1_0 m1_1 m1_2 m1_3 m2 =
    if (decide (t33 < t32)) = true then if (idx m2.length t33) = true then (o71 false m1_0 false m1_1 false (m2.getD t33.toNat (dflt K.spans))).bind fun x4 =>
        (o72 false m1_0 false m1_1 false (m2.getD t33.toNat (dflt K.spans))).bind fun x5 =>
          (o52 false x4 false x5).bind fun x6 =>
            if (!x6) = true then some (.one (.bool false), [])
              else (o73 false m1_0 false m1_1 false m1_2 false m1_3 false (m2.getD t33.toNat (dflt K.spans))).bind fun x8 =>
                (o74 false m1_0 false m1_1 false m1_2 false m1_3 false (m2.getD t33.toNat (dflt K.spans))).bind fun x9 =>
                  (o52 false x8 false x9).bind fun x10 =>
                    if (!x10) = true then some (.one (.bool false), [])
                      else (o71 false [] false [] false (m2.getD t33.toNat (dflt K.spans))).bind fun x12 =>
                        (o72 false [] false [] false (m2.getD t33.toNat (dflt K.spans))).bind fun x13 =>
                          (o52 false x12 false x13).bind fun x14 =>
                            if (!x14) = true then some (.one (.bool false), [])
                              else h21_0 fl t32 (IntKind.i64.wrap (t33 + 1)) m1_0 m1_1 m1_2 m1_3 m2
      else none
    else some (.one (.bool true), []) := by kernel_rfl
theorem h21_1_eq (fl : Nat) (t32 : Int) (t33 : Int) (m0_0 : List Place) (m0_1 : List Road) (m1_0 : List Place) (m1_1 : List Road) (m1_2 : List Fan) (m1_3 : List Door) (m2 : List (List Span)) : h21_1 (fl + 1) t32 t33 m0_0 m0_1 m1_0 m1_1 m1_2 m1_3 m2 =
    if (decide (t33 < t32)) = true then if (idx m2.length t33) = true then (o71 false m1_0 false m1_1 false (m2.getD t33.toNat (dflt K.spans))).bind fun x4 =>
        (o72 false m1_0 false m1_1 false (m2.getD t33.toNat (dflt K.spans))).bind fun x5 =>
          (o52 false x4 false x5).bind fun x6 =>
            if (!x6) = true then some (.one (.bool false), [])
              else (o73 false m1_0 false m1_1 false m1_2 false m1_3 false (m2.getD t33.toNat (dflt K.spans))).bind fun x8 =>
                (o74 false m1_0 false m1_1 false m1_2 false m1_3 false (m2.getD t33.toNat (dflt K.spans))).bind fun x9 =>
                  (o52 false x8 false x9).bind fun x10 =>
                    if (!x10) = true then some (.one (.bool false), [])
                      else (o71 false m0_0 false m0_1 false (m2.getD t33.toNat (dflt K.spans))).bind fun x12 =>
                        (o72 false m0_0 false m0_1 false (m2.getD t33.toNat (dflt K.spans))).bind fun x13 =>
                          (o52 false x12 false x13).bind fun x14 =>
                            if (!x14) = true then some (.one (.bool false), [])
                              else h21_1 fl t32 (IntKind.i64.wrap (t33 + 1)) m0_0 m0_1 m1_0 m1_1 m1_2 m1_3 m2
      else none
    else some (.one (.bool true), []) := by kernel_rfl
theorem step21_0 (P : List Place) (hP : P.length ≤ 64) (R : List Road) (F : List Fan) (hF : FanIn F) (D : List Door) (m : List (List Span)) (hm : m.length = 2) (j : Nat) (hj : j < 2) (fl : Nat) : h21_0 (fl + 1) m.length j P R F D m = h21_0 fl m.length (j + 1 : Nat) P R F D m := by
  have hjm : j < m.length := by omega
  have l1 := mixM_len P R m[j]
  have l2 := thr_len (circM P R m[j]) F F.length 0
  have l3 := hF.1
  have l4 := mixM_len [] [] m[j]
  rw [h21_0_eq, if_pos (lt_nat hjm), if_pos (idx_nat hjm), at_lt hjm, mixed_eq, Option.bind_some, rmixed_eq _ _ _ _ _ _ hP, Option.bind_some, ints_eq _ _ _ _ (by omega), Option.bind_some, if_neg (by simp), through_eq _ _ _ _ _ _ _ _ _ _ hP hF, Option.bind_some, rthrough_eq _ _ _ _ _ _ _ _ _ _ hF, Option.bind_some, ints_eq _ _ _ _ (by omega), Option.bind_some, if_neg (by simp), mixed_eq, Option.bind_some, rmixed_eq _ _ _ _ _ _ (by simp), Option.bind_some, ints_eq _ _ _ _ (by omega), Option.bind_some, if_neg (by simp), wr_succ (by omega)]
theorem step21_1 (P0 : List Place) (hP0 : P0.length ≤ 64) (R0 : List Road) (P : List Place) (hP : P.length ≤ 64) (R : List Road) (F : List Fan) (hF : FanIn F) (D : List Door) (m : List (List Span)) (hm : m.length = 2) (j : Nat) (hj : j < 2) (fl : Nat) : h21_1 (fl + 1) m.length j P0 R0 P R F D m = h21_1 fl m.length (j + 1 : Nat) P0 R0 P R F D m := by
  have hjm : j < m.length := by omega
  have l1 := mixM_len P R m[j]
  have l2 := thr_len (circM P R m[j]) F F.length 0
  have l3 := hF.1
  have l4 := mixM_len P0 R0 m[j]
  rw [h21_1_eq, if_pos (lt_nat hjm), if_pos (idx_nat hjm), at_lt hjm, mixed_eq, Option.bind_some, rmixed_eq _ _ _ _ _ _ hP, Option.bind_some, ints_eq _ _ _ _ (by omega), Option.bind_some, if_neg (by simp), through_eq _ _ _ _ _ _ _ _ _ _ hP hF, Option.bind_some, rthrough_eq _ _ _ _ _ _ _ _ _ _ hF, Option.bind_some, ints_eq _ _ _ _ (by omega), Option.bind_some, if_neg (by simp), mixed_eq, Option.bind_some, rmixed_eq _ _ _ _ _ _ hP0, Option.bind_some, ints_eq _ _ _ _ (by omega), Option.bind_some, if_neg (by simp), wr_succ (by omega)]
theorem v21 (l : List Int) (s : List Span) (P : List Place) (R : List Road) (h : l.all u8B = true) : h21 10 l s P R = some (.one (.bool true), []) := by
  obtain ⟨x, hx, hb, hF⟩ := airs_ok2 h
  have hP : x.P.length ≤ 64 := (checkM_roads hb.mine.check).1
  have a1 := step21_0 x.P hP x.R x.F hF x.D [x.S, s] rfl 0 (by omega) 8
  have a2 := step21_0 x.P hP x.R x.F hF x.D [x.S, s] rfl 1 (by omega) 7
  have a1' : h21_0 9 ([x.S, s].length : Int) 0 x.P x.R x.F x.D [x.S, s] = _ := a1
  have e0 : h21_0 9 ([x.S, s].length : Int) 0 x.P x.R x.F x.D [x.S, s] = some (.one (.bool true), []) := by
    rw [a1', a2, h21_0_eq, if_neg (by simp)]
  rw [h21_eq, hx, Option.bind_some, e0]
  by_cases c1 : P.length > 12
  · rw [if_pos (by simp; omega)]
  rw [if_neg (by simp; omega)]
  by_cases c2 : R.length > 12
  · rw [if_pos (by simp; omega)]
  rw [if_neg (by simp; omega)]
  have b1 := step21_1 P (by omega) R x.P hP x.R x.F hF x.D [x.S, s] rfl 0 (by omega) 8
  have b2 := step21_1 P (by omega) R x.P hP x.R x.F hF x.D [x.S, s] rfl 1 (by omega) 7
  have b1' : h21_1 9 ([x.S, s].length : Int) 0 P R x.P x.R x.F x.D [x.S, s] = _ := b1
  rw [b1', b2, h21_1_eq, if_neg (by simp)]
def s21 : Spec := ⟨false, fun av ob => match av, ob with
  | [.one (.vec false .u8 l), .one (.vec false .span s), .agg [.vec false .place P, .vec false .road R]], [] => .need (l.all u8B && (s.all spanB && (P.all placeB && (R.all roadB)))) (.ret (.one (.bool true), []))
  | _, _ => .fail⟩
theorem p21 : SpecOK Try.prog 21 s21 := by
  refine specOK_of (env_ok (l := l21) ⟨⟨pc62, f62⟩, ⟨⟨pc171, f171⟩, ⟨⟨pc172, f172⟩, ⟨⟨pc52, f52⟩, ⟨⟨pc73, f73⟩, ⟨⟨pc74, f74⟩, ⟨⟨p67, f67⟩, trivial⟩⟩⟩⟩⟩⟩⟩) mixed_ok Try.func21 k21 fun av ob r os hrn => ?_
  simp only [s21] at hrn
  split at hrn
  · rename_i l s P R
    obtain ⟨hg, hrn⟩ := need_den hrn
    cases hrn
    try simp only [Bool.and_eq_true] at hg
    obtain ⟨q1, q2, q3, q3b⟩ := hg
    have hv := v21 l s P R q1
    unfold h21 at hv
    exact ⟨10, hv⟩
  · cases hrn
theorem law21 (av : List AV) (h : AVs [RBytes, RSpans, RMine] av) : (s21.run av []).den = some (.one (.bool true), []) := by
  obtain ⟨_, _, rfl, ⟨l, rfl, q1⟩, k1⟩ := h.cons
  obtain ⟨_, _, rfl, ⟨s, rfl, q2⟩, k2⟩ := k1.cons
  obtain ⟨_, _, rfl, ⟨P, R, rfl, q3, q3b⟩, k3⟩ := k2.cons
  rw [k3.nil]
  refine den_need ?_
  try simp only [Bool.and_eq_true]
  exact ⟨q1, q2, q3, q3b⟩
end Go.Proofs.Ytipfipnhgpbceaa.Sx
