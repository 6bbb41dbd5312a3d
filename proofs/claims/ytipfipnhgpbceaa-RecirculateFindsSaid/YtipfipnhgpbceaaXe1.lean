/- Plain theorems and definitions for the claim, put together out of several texts. -/
import Derived.Test.YtipfipnhgpbceaaXe
/- Circles of air that flows are named (plain theorems). -/

set_option linter.unusedVariables false
set_option linter.unusedSimpArgs false
set_option maxRecDepth 100000
namespace Go.Proofs.Ytipfipnhgpbceaa.Sx
open Go Go.RowKit
noncomputable def l19 : List (FuncId × Spec) := [(62, c62), (65, c65), (69, c69), (67, s67)]
def k19 : Code → Keep := keepOf [(5, ⟨[7, 8, 9, 32, 33, 34], [], []⟩), (15, ⟨[7, 8, 9, 10, 12, 14, 15, 32, 33, 34], [], []⟩), (18, ⟨[7, 8, 9, 10, 12, 14, 15, 32, 33, 34, 88, 89, 90], [], []⟩)]
noncomputable def h19_0 (fl : Nat) (t7 : List Int) (t9 : List Int) (t32 : List Road) (t33 : Int) (t34 : Int) (m0_0 : List Place) (m0_1 : List Road) : Option (AV × List Ob) := (evalH (env2 l19) Try.f19 k19 0 fl (stkF Try.f19 [1, 1, 1, 1, 0, 1, 0]) ⟨[.one (.undef), .one (.undef), .one (.undef), .one (.undef), .one (.undef), .one (.undef), .one (.undef), .one (.vec false .int t7), .one (.ptr 0 0), .one (.vec false .int t9), .one (.undef), .one (.undef), .one (.undef), .one (.undef), .one (.undef), .one (.undef), .one (.undef), .one (.undef), .one (.undef), .one (.undef), .one (.undef), .one (.undef), .one (.undef), .one (.undef), .one (.undef), .one (.undef), .one (.undef), .one (.undef), .one (.undef), .one (.undef), .one (.undef), .one (.undef), .one (.vec false .road t32), .one (.int .i64 t33), .one (.int .i64 t34), .one (.undef), .one (.undef), .one (.undef), .one (.undef), .one (.undef), .one (.undef), .one (.undef), .one (.undef), .one (.undef), .one (.undef), .one (.undef), .one (.undef), .one (.undef), .one (.undef), .one (.undef), .one (.undef), .one (.undef), .one (.undef), .one (.undef), .one (.undef), .one (.undef), .one (.undef), .one (.undef), .one (.undef), .one (.undef), .one (.undef), .one (.undef), .one (.undef), .one (.undef), .one (.undef), .one (.undef), .one (.undef), .one (.undef), .one (.undef), .one (.undef), .one (.undef), .one (.undef), .one (.undef), .one (.undef), .one (.undef), .one (.undef), .one (.undef), .one (.undef), .one (.undef), .one (.undef), .one (.undef), .one (.undef), .one (.undef), .one (.undef), .one (.undef), .one (.undef), .one (.undef), .one (.undef), .one (.undef), .one (.undef), .one (.undef), .one (.undef), .one (.undef), .one (.undef), .one (.undef), .one (.undef), .one (.undef), .one (.undef), .one (.undef), .one (.undef), .one (.undef), .one (.undef), .one (.undef), .one (.undef), .one (.undef), .one (.undef), .one (.undef), .one (.undef), .one (.undef), .one (.undef), .one (.undef), .one (.undef), .one (.undef), .one (.undef), .one (.undef), .one (.undef), .one (.undef), .one (.undef), .one (.undef), .one (.undef), .one (.undef), .one (.undef), .one (.undef), .one (.undef), .one (.undef), .one (.undef), .one (.undef), .one (.undef), .one (.undef), .one (.undef), .one (.undef), .one (.undef), .one (.undef), .one (.undef), .one (.undef), .one (.undef), .one (.undef), .one (.undef), .one (.undef), .one (.undef), .one (.undef), .one (.undef), .one (.undef), .one (.undef), .one (.undef), .one (.undef), .one (.undef), .one (.undef), .one (.undef), .one (.undef), .one (.undef), .one (.undef), .one (.undef), .one (.undef), .one (.undef), .one (.undef)], [((0, 0), some (.cell (.vec false .place m0_0))), ((0, 1), some (.cell (.vec false .road m0_1)))], 1⟩).den
noncomputable def h19_1 (fl : Nat) (t7 : List Int) (t9 : List Int) (t10 : Int) (t12 : Int) (t15 : Int) (t32 : List Road) (t33 : Int) (t34 : Int) (m0_0 : List Place) (m0_1 : List Road) (m1 : List Bool) : Option (AV × List Ob) := (evalH (env2 l19) Try.f19 k19 0 fl (stkF Try.f19 [1, 1, 1, 1, 0, 1, 0, 0, 1, 1, 0, 0, 1, 1, 1, 1, 1, 1, 1, 0, 1, 0]) ⟨[.one (.undef), .one (.undef), .one (.undef), .one (.undef), .one (.undef), .one (.undef), .one (.undef), .one (.vec false .int t7), .one (.ptr 0 0), .one (.vec false .int t9), .one (.int .i64 t10), .one (.undef), .one (.int .i64 t12), .one (.undef), .one (.row 1), .one (.int .i64 t15), .one (.undef), .one (.undef), .one (.undef), .one (.undef), .one (.undef), .one (.undef), .one (.undef), .one (.undef), .one (.undef), .one (.undef), .one (.undef), .one (.undef), .one (.undef), .one (.undef), .one (.undef), .one (.undef), .one (.vec false .road t32), .one (.int .i64 t33), .one (.int .i64 t34), .one (.undef), .one (.undef), .one (.undef), .one (.undef), .one (.undef), .one (.undef), .one (.undef), .one (.undef), .one (.undef), .one (.undef), .one (.undef), .one (.undef), .one (.undef), .one (.undef), .one (.undef), .one (.undef), .one (.undef), .one (.undef), .one (.undef), .one (.undef), .one (.undef), .one (.undef), .one (.undef), .one (.undef), .one (.undef), .one (.undef), .one (.undef), .one (.undef), .one (.undef), .one (.undef), .one (.undef), .one (.undef), .one (.undef), .one (.undef), .one (.undef), .one (.undef), .one (.undef), .one (.undef), .one (.undef), .one (.undef), .one (.undef), .one (.undef), .one (.undef), .one (.undef), .one (.undef), .one (.undef), .one (.undef), .one (.undef), .one (.undef), .one (.undef), .one (.undef), .one (.undef), .one (.undef), .one (.undef), .one (.undef), .one (.undef), .one (.undef), .one (.undef), .one (.undef), .one (.undef), .one (.undef), .one (.undef), .one (.undef), .one (.undef), .one (.undef), .one (.undef), .one (.undef), .one (.undef), .one (.undef), .one (.undef), .one (.undef), .one (.undef), .one (.undef), .one (.undef), .one (.undef), .one (.undef), .one (.undef), .one (.undef), .one (.undef), .one (.undef), .one (.undef), .one (.undef), .one (.undef), .one (.undef), .one (.undef), .one (.undef), .one (.undef), .one (.undef), .one (.undef), .one (.undef), .one (.undef), .one (.undef), .one (.undef), .one (.undef), .one (.undef), .one (.undef), .one (.undef), .one (.undef), .one (.undef), .one (.undef), .one (.undef), .one (.undef), .one (.undef), .one (.undef), .one (.undef), .one (.undef), .one (.undef), .one (.undef), .one (.undef), .one (.undef), .one (.undef), .one (.undef), .one (.undef), .one (.undef), .one (.undef), .one (.undef), .one (.undef), .one (.undef), .one (.undef), .one (.undef), .one (.undef)], [((0, 0), some (.cell (.vec false .place m0_0))), ((0, 1), some (.cell (.vec false .road m0_1))), ((1, 0), some (.rows .bool m1))], 2⟩).den
noncomputable def h19_2 (fl : Nat) (t7 : List Int) (t9 : List Int) (t10 : Int) (t12 : Int) (t15 : Int) (t32 : List Road) (t33 : Int) (t34 : Int) (t88 : List Road) (t89 : Int) (t90 : Int) (m0_0 : List Place) (m0_1 : List Road) (m1 : List Bool) : Option (AV × List Ob) := (evalH (env2 l19) Try.f19 k19 0 fl (stkF Try.f19 [1, 1, 1, 1, 0, 1, 0, 0, 1, 1, 0, 0, 1, 1, 1, 1, 1, 1, 1, 0, 1, 0, 0, 1, 0, 0, 1, 0]) ⟨[.one (.undef), .one (.undef), .one (.undef), .one (.undef), .one (.undef), .one (.undef), .one (.undef), .one (.vec false .int t7), .one (.ptr 0 0), .one (.vec false .int t9), .one (.int .i64 t10), .one (.undef), .one (.int .i64 t12), .one (.undef), .one (.row 1), .one (.int .i64 t15), .one (.undef), .one (.undef), .one (.undef), .one (.undef), .one (.undef), .one (.undef), .one (.undef), .one (.undef), .one (.undef), .one (.undef), .one (.undef), .one (.undef), .one (.undef), .one (.undef), .one (.undef), .one (.undef), .one (.vec false .road t32), .one (.int .i64 t33), .one (.int .i64 t34), .one (.undef), .one (.undef), .one (.undef), .one (.undef), .one (.undef), .one (.undef), .one (.undef), .one (.undef), .one (.undef), .one (.undef), .one (.undef), .one (.undef), .one (.undef), .one (.undef), .one (.undef), .one (.undef), .one (.undef), .one (.undef), .one (.undef), .one (.undef), .one (.undef), .one (.undef), .one (.undef), .one (.undef), .one (.undef), .one (.undef), .one (.undef), .one (.undef), .one (.undef), .one (.undef), .one (.undef), .one (.undef), .one (.undef), .one (.undef), .one (.undef), .one (.undef), .one (.undef), .one (.undef), .one (.undef), .one (.undef), .one (.undef), .one (.undef), .one (.undef), .one (.undef), .one (.undef), .one (.undef), .one (.undef), .one (.undef), .one (.undef), .one (.undef), .one (.undef), .one (.undef), .one (.undef), .one (.vec false .road t88), .one (.int .i64 t89), .one (.int .i64 t90), .one (.undef), .one (.undef), .one (.undef), .one (.undef), .one (.undef), .one (.undef), .one (.undef), .one (.undef), .one (.undef), .one (.undef), .one (.undef), .one (.undef), .one (.undef), .one (.undef), .one (.undef), .one (.undef), .one (.undef), .one (.undef), .one (.undef), .one (.undef), .one (.undef), .one (.undef), .one (.undef), .one (.undef), .one (.undef), .one (.undef), .one (.undef), .one (.undef), .one (.undef), .one (.undef), .one (.undef), .one (.undef), .one (.undef), .one (.undef), .one (.undef), .one (.undef), .one (.undef), .one (.undef), .one (.undef), .one (.undef), .one (.undef), .one (.undef), .one (.undef), .one (.undef), .one (.undef), .one (.undef), .one (.undef), .one (.undef), .one (.undef), .one (.undef), .one (.undef), .one (.undef), .one (.undef), .one (.undef), .one (.undef), .one (.undef), .one (.undef), .one (.undef), .one (.undef), .one (.undef), .one (.undef), .one (.undef), .one (.undef), .one (.undef), .one (.undef)], [((0, 0), some (.cell (.vec false .place m0_0))), ((0, 1), some (.cell (.vec false .road m0_1))), ((1, 0), some (.rows .bool m1))], 2⟩).den
noncomputable def h19 (fl : Nat) (l : List Int) (place : Int) : Option (AV × List Ob) := (evalF (env2 l19) Try.f19 k19 fl [.one (.vec false .u8 l), .one (.int .i64 place)] []).den
theorem h19_eq (fl : Nat) (l : List Int) (place : Int) : h19 (fl + 1) l place =
    (o62 l).bind fun x2 =>
    (o65 false x2.P false x2.R false x2.S).bind fun x3 =>
      h19_0 fl x2.W x3 x2.R ((↑x2.R.length : Int)) 0 x2.P x2.R := by kernel_rfl
theorem h19_0_eq (fl : Nat) (t7 : List Int) (t9 : List Int) (t32 : List Road) (t33 : Int) (t34 : Int) (m0_0 : List Place) (m0_1 : List Road) : h19_0 (fl + 1) t7 t9 t32 t33 t34 m0_0 m0_1 =
    if (decide (t34 < t33)) = true then if (idx t32.length t34) = true then if ((t32.getD t34.toNat (dflt K.road)).closed) = true then h19_0 fl t7 t9 t32 t33 (IntKind.i64.wrap (t34 + 1)) m0_0 m0_1
        else if (idx t7.length t34) = true then if (t7.getD t34.toNat (dflt K.int) == 0) = true then h19_0 fl t7 t9 t32 t33 (IntKind.i64.wrap (t34 + 1)) m0_0 m0_1
            else if (idx t7.length t34) = true then if (decide (t7.getD t34.toNat (dflt K.int) < 0)) = true then if (idx m0_0.length (t32.getD t34.toNat (dflt K.road)).to) = true then if ((m0_0.getD (t32.getD t34.toNat (dflt K.road)).to.toNat (dflt K.place)).surface) = true then h19_0 fl t7 t9 t32 t33 (IntKind.i64.wrap (t34 + 1)) m0_0 m0_1
                    else if (idx m0_0.length (t32.getD t34.toNat (dflt K.road)).frm) = true then if ((m0_0.getD (t32.getD t34.toNat (dflt K.road)).frm.toNat (dflt K.place)).surface) = true then h19_0 fl t7 t9 t32 t33 (IntKind.i64.wrap (t34 + 1)) m0_0 m0_1
                        else if (decide (0 ≤ (↑m0_0.length : Int)) && (decide ((↑m0_0.length : Int) ≤ 1048576) && (↑m0_0.length : Int) == (↑m0_0.length : Int))) = true then if (idx (List.replicate (↑m0_0.length : Int).toNat (dflt K.bool)).length (t32.getD t34.toNat (dflt K.road)).frm) = true then h19_1 fl t7 t9 t34 ((t32.getD t34.toNat (dflt K.road)).to) 0 t32 t33 t34 m0_0 m0_1 ((List.replicate (↑m0_0.length : Int).toNat (dflt K.bool)).set (t32.getD t34.toNat (dflt K.road)).frm.toNat true)
                            else none
                          else none
                      else none
                  else none
                else if (idx m0_0.length (t32.getD t34.toNat (dflt K.road)).frm) = true then if ((m0_0.getD (t32.getD t34.toNat (dflt K.road)).frm.toNat (dflt K.place)).surface) = true then h19_0 fl t7 t9 t32 t33 (IntKind.i64.wrap (t34 + 1)) m0_0 m0_1
                    else if (idx m0_0.length (t32.getD t34.toNat (dflt K.road)).to) = true then if ((m0_0.getD (t32.getD t34.toNat (dflt K.road)).to.toNat (dflt K.place)).surface) = true then h19_0 fl t7 t9 t32 t33 (IntKind.i64.wrap (t34 + 1)) m0_0 m0_1
                        else if (decide (0 ≤ (↑m0_0.length : Int)) && (decide ((↑m0_0.length : Int) ≤ 1048576) && (↑m0_0.length : Int) == (↑m0_0.length : Int))) = true then if (idx (List.replicate (↑m0_0.length : Int).toNat (dflt K.bool)).length (t32.getD t34.toNat (dflt K.road)).to) = true then h19_1 fl t7 t9 t34 ((t32.getD t34.toNat (dflt K.road)).frm) 0 t32 t33 t34 m0_0 m0_1 ((List.replicate (↑m0_0.length : Int).toNat (dflt K.bool)).set (t32.getD t34.toNat (dflt K.road)).to.toNat true)
                            else none
                          else none
                      else none
                  else none
              else none
          else none
      else none
    else some (.one (.bool true), []) := by kernel_rfl
theorem h19_1_eq (fl : Nat) (t7 : List Int) (t9 : List Int) (t10 : Int) (t12 : Int) (t15 : Int) (t32 : List Road) (t33 : Int) (t34 : Int) (m0_0 : List Place) (m0_1 : List Road) (m1 : List Bool) : h19_1 (fl + 1) t7 t9 t10 t12 t15 t32 t33 t34 m0_0 m0_1 m1 =
    if (decide (t15 < (↑m0_0.length : Int))) = true then h19_2 fl t7 t9 t10 t12 t15 t32 t33 t34 m0_1 ((↑m0_1.length : Int)) 0 m0_0 m0_1 m1
    else if (idx m1.length t12) = true then if (m1.getD t12.toNat (dflt K.bool)) = true then (o69 t9 t10).bind fun x5 =>
          if (!x5) = true then some (.one (.bool false), [])
            else h19_0 fl t7 t9 t32 t33 (IntKind.i64.wrap (t34 + 1)) m0_0 m0_1
        else h19_0 fl t7 t9 t32 t33 (IntKind.i64.wrap (t34 + 1)) m0_0 m0_1
      else none := by kernel_rfl
theorem h19_2_eq (fl : Nat) (t7 : List Int) (t9 : List Int) (t10 : Int) (t12 : Int) (t15 : Int) (t32 : List Road) (t33 : Int) (t34 : Int) (t88 : List Road) (t89 : Int) (t90 : Int) (m0_0 : List Place) (m0_1 : List Road) (m1 : List Bool) : h19_2 (fl + 1) t7 t9 t10 t12 t15 t32 t33 t34 t88 t89 t90 m0_0 m0_1 m1 =
    if (decide (t90 < t89)) = true then if (idx t88.length t90) = true then if (idx t7.length t90) = true then if (decide (t7.getD t90.toNat (dflt K.int) < 0)) = true then if (!(t88.getD t90.toNat (dflt K.road)).closed) = true then if (idx t7.length t90) = true then if (t7.getD t90.toNat (dflt K.int) != 0) = true then if (idx m1.length (t88.getD t90.toNat (dflt K.road)).to) = true then if (m1.getD (t88.getD t90.toNat (dflt K.road)).to.toNat (dflt K.bool)) = true then if (idx m0_0.length (t88.getD t90.toNat (dflt K.road)).to) = true then if (!(m0_0.getD (t88.getD t90.toNat (dflt K.road)).to.toNat (dflt K.place)).surface) = true then if (idx m0_0.length (t88.getD t90.toNat (dflt K.road)).frm) = true then if (!(m0_0.getD (t88.getD t90.toNat (dflt K.road)).frm.toNat (dflt K.place)).surface) = true then if (idx m1.length (t88.getD t90.toNat (dflt K.road)).frm) = true then h19_2 fl t7 t9 t10 t12 t15 t32 t33 t34 t88 t89 (IntKind.i64.wrap (t90 + 1)) m0_0 m0_1 (m1.set (t88.getD t90.toNat (dflt K.road)).frm.toNat true)
                              else none
                            else h19_2 fl t7 t9 t10 t12 t15 t32 t33 t34 t88 t89 (IntKind.i64.wrap (t90 + 1)) m0_0 m0_1 m1
                          else none
                        else h19_2 fl t7 t9 t10 t12 t15 t32 t33 t34 t88 t89 (IntKind.i64.wrap (t90 + 1)) m0_0 m0_1 m1
                      else none
                    else h19_2 fl t7 t9 t10 t12 t15 t32 t33 t34 t88 t89 (IntKind.i64.wrap (t90 + 1)) m0_0 m0_1 m1
                  else none
                else h19_2 fl t7 t9 t10 t12 t15 t32 t33 t34 t88 t89 (IntKind.i64.wrap (t90 + 1)) m0_0 m0_1 m1
              else none
            else h19_2 fl t7 t9 t10 t12 t15 t32 t33 t34 t88 t89 (IntKind.i64.wrap (t90 + 1)) m0_0 m0_1 m1
          else if (!(t88.getD t90.toNat (dflt K.road)).closed) = true then if (idx t7.length t90) = true then if (t7.getD t90.toNat (dflt K.int) != 0) = true then if (idx m1.length (t88.getD t90.toNat (dflt K.road)).frm) = true then if (m1.getD (t88.getD t90.toNat (dflt K.road)).frm.toNat (dflt K.bool)) = true then if (idx m0_0.length (t88.getD t90.toNat (dflt K.road)).frm) = true then if (!(m0_0.getD (t88.getD t90.toNat (dflt K.road)).frm.toNat (dflt K.place)).surface) = true then if (idx m0_0.length (t88.getD t90.toNat (dflt K.road)).to) = true then if (!(m0_0.getD (t88.getD t90.toNat (dflt K.road)).to.toNat (dflt K.place)).surface) = true then if (idx m1.length (t88.getD t90.toNat (dflt K.road)).to) = true then h19_2 fl t7 t9 t10 t12 t15 t32 t33 t34 t88 t89 (IntKind.i64.wrap (t90 + 1)) m0_0 m0_1 (m1.set (t88.getD t90.toNat (dflt K.road)).to.toNat true)
                              else none
                            else h19_2 fl t7 t9 t10 t12 t15 t32 t33 t34 t88 t89 (IntKind.i64.wrap (t90 + 1)) m0_0 m0_1 m1
                          else none
                        else h19_2 fl t7 t9 t10 t12 t15 t32 t33 t34 t88 t89 (IntKind.i64.wrap (t90 + 1)) m0_0 m0_1 m1
                      else none
                    else h19_2 fl t7 t9 t10 t12 t15 t32 t33 t34 t88 t89 (IntKind.i64.wrap (t90 + 1)) m0_0 m0_1 m1
                  else none
                else h19_2 fl t7 t9 t10 t12 t15 t32 t33 t34 t88 t89 (IntKind.i64.wrap (t90 + 1)) m0_0 m0_1 m1
              else none
            else h19_2 fl t7 t9 t10 t12 t15 t32 t33 t34 t88 t89 (IntKind.i64.wrap (t90 + 1)) m0_0 m0_1 m1
        else none
      else none
    else h19_1 fl t7 t9 t10 t12 (IntKind.i64.wrap (t15 + 1)) t32 t33 t34 m0_0 m0_1 m1 := by kernel_rfl
def GoodS (n : Nat) (T : Nat → Prop) (m : List Bool) : Prop := m.length = n ∧ ∀ j, bt m j = true → T j
theorem loop19_2 (W A : List Int) (P : List Place) (R : List Road) (S : List Span) (hR : RoadsIn P.length R) (hRl : R.length ≤ 9) (hW : W.length = R.length) (hn : ∀ k, k < R.length → About (S.getD k ⟨0, 0⟩) (W.getD k 0)) (T : Nat → Prop)
    (hT : ∀ (k : Nat) (d : Bool), k < R.length → d = decide (W.getD k 0 < 0) → can R S k d = true → surf P (endA R k d).toNat = false → surf P (endB R k d).toNat = false → T (endA R k d).toNat → T (endB R k d).toNat) (i a x y : Int) (n : Nat) (hnn : n ≤ 100) :
    ∀ (d fl k : Nat) (m : List Bool), R.length - k = d → k ≤ R.length → GoodS P.length T m → ∃ m', GoodS P.length T m' ∧ h19_2 (fl + d + 1) W A i a n R x y R R.length k P R m = h19_1 fl W A i a (n + 1 : Nat) R x y P R m'
  | d, fl, k, m, hd, hk, hG => by
    rw [h19_2_eq]
    by_cases hlt : k < R.length
    · have hb0 : dflt K.bool = false := rfl
      have hi0 : dflt K.int = (0 : Int) := rfl
      have hp0 : dflt K.place = place0 := rfl
      have hr0 : dflt K.road = road0 := rfl
      have hb := hR k hlt
      have hb : (0 ≤ (R.getD k road0).frm ∧ (R.getD k road0).frm < P.length) ∧ (0 ≤ (R.getD k road0).to ∧ (R.getD k road0).to < P.length) := ⟨⟨hb.1, hb.2.1⟩, hb.2.2⟩
      have iw : idx W.length (k : Int) = true := idx_nat (by omega)
      rw [if_pos (lt_nat hlt), if_pos (idx_nat hlt), if_pos iw, hb0, hi0, hp0, hr0, Int.toNat_natCast, wr_succ (by omega)]
      generalize hr : R.getD k road0 = r at *
      generalize hw : W.getD k 0 = w at *
      have i1 : ∀ (m : List Bool), m.length = P.length → ∀ {z : Int}, 0 ≤ z ∧ z < P.length → idx m.length z = true := fun m hm z hz => idx_of hz.1 (by rw [hm]; exact hz.2)
      have i2 : ∀ {z : Int}, 0 ≤ z ∧ z < P.length → idx P.length z = true := fun hz => idx_of hz.1 hz.2
      obtain ⟨d, rfl⟩ : ∃ q, d = q + 1 := ⟨d - 1, by omega⟩
      have next := fun (m : List Bool) (hG : GoodS P.length T m) => loop19_2 W A P R S hR hRl hW hn T hT i a x y n hnn d fl (k + 1) m (by omega) (by omega) hG
      have skip := next m hG
      have hn : ∀ k, k < R.length → About (S.getD k ⟨0, 0⟩) (W.getD k 0) := hn
      by_cases c0 : w < 0
      · by_cases c1 : r.closed = true
        · rw [if_pos (show decide (w < 0) = true from decide_eq_true c0)]
          rw [if_neg (show ¬ (!r.closed) = true by rw [c1]; simp)]
          exact skip
        · have c1' : r.closed = false := by simpa using c1
          rw [if_pos (show decide (w < 0) = true from decide_eq_true c0)]
          rw [if_pos (show (!r.closed) = true by rw [c1']; rfl), if_pos iw]
          by_cases c2 : w = 0
          · rw [if_neg (show ¬ (w != 0) = true by rw [c2]; simp)]
            exact skip
          · rw [if_pos (show (w != 0) = true by simpa using c2), if_pos (i1 m hG.1 hb.2)]
            by_cases c3 : bt m r.to.toNat = true
            · rw [if_pos (show m.getD r.to.toNat false = true from c3), if_pos (i2 hb.2)]
              by_cases c4 : surf P r.to.toNat = true
              · rw [if_neg (show ¬ (!(P.getD r.to.toNat place0).surface) = true by show ¬ (!surf P r.to.toNat) = true; rw [c4]; simp)]
                exact skip
              · have c4' : surf P r.to.toNat = false := by simpa using c4
                rw [if_pos (show (!(P.getD r.to.toNat place0).surface) = true by show (!surf P r.to.toNat) = true; rw [c4']; rfl), if_pos (i2 hb.1)]
                by_cases c5 : surf P r.frm.toNat = true
                · rw [if_neg (show ¬ (!(P.getD r.frm.toNat place0).surface) = true by show ¬ (!surf P r.frm.toNat) = true; rw [c5]; simp)]
                  exact skip
                · have c5' : surf P r.frm.toNat = false := by simpa using c5
                  rw [if_pos (show (!(P.getD r.frm.toNat place0).surface) = true by show (!surf P r.frm.toNat) = true; rw [c5']; rfl), if_pos (i1 m hG.1 hb.1)]
                  refine next _ ⟨by rw [List.length_set, hG.1], fun j hj => ?_⟩
                  rw [bt_set m (by rw [hG.1]; omega)] at hj
                  split at hj
                  · rename_i e
                    rw [e]
                    have hc : can R S k true = true := by
                      unfold can
                      rw [Int.toNat_natCast, hr, c1']
                      have := hn k hlt
                      unfold About at this
                      rw [hw] at this
                      simp only [Bool.not_false, Bool.true_and, if_true, Bool.false_eq_true, if_false, decide_eq_true_eq]
                      omega
                    have := hT k true hlt (by rw [hw]; exact (decide_eq_true c0).symm) hc
                    simp only [endA, endB, Int.toNat_natCast, hr, Bool.false_eq_true, if_false, if_true] at this
                    exact this c4' c5' (hG.2 _ c3)
                  · exact hG.2 j hj
            · rw [if_neg (show ¬ m.getD r.to.toNat false = true from c3)]
              exact skip
      · by_cases c1 : r.closed = true
        · rw [if_neg (show ¬ decide (w < 0) = true from fun e => c0 (of_decide_eq_true e))]
          rw [if_neg (show ¬ (!r.closed) = true by rw [c1]; simp)]
          exact skip
        · have c1' : r.closed = false := by simpa using c1
          rw [if_neg (show ¬ decide (w < 0) = true from fun e => c0 (of_decide_eq_true e))]
          rw [if_pos (show (!r.closed) = true by rw [c1']; rfl), if_pos iw]
          by_cases c2 : w = 0
          · rw [if_neg (show ¬ (w != 0) = true by rw [c2]; simp)]
            exact skip
          · rw [if_pos (show (w != 0) = true by simpa using c2), if_pos (i1 m hG.1 hb.1)]
            by_cases c3 : bt m r.frm.toNat = true
            · rw [if_pos (show m.getD r.frm.toNat false = true from c3), if_pos (i2 hb.1)]
              by_cases c4 : surf P r.frm.toNat = true
              · rw [if_neg (show ¬ (!(P.getD r.frm.toNat place0).surface) = true by show ¬ (!surf P r.frm.toNat) = true; rw [c4]; simp)]
                exact skip
              · have c4' : surf P r.frm.toNat = false := by simpa using c4
                rw [if_pos (show (!(P.getD r.frm.toNat place0).surface) = true by show (!surf P r.frm.toNat) = true; rw [c4']; rfl), if_pos (i2 hb.2)]
                by_cases c5 : surf P r.to.toNat = true
                · rw [if_neg (show ¬ (!(P.getD r.to.toNat place0).surface) = true by show ¬ (!surf P r.to.toNat) = true; rw [c5]; simp)]
                  exact skip
                · have c5' : surf P r.to.toNat = false := by simpa using c5
                  rw [if_pos (show (!(P.getD r.to.toNat place0).surface) = true by show (!surf P r.to.toNat) = true; rw [c5']; rfl), if_pos (i1 m hG.1 hb.2)]
                  refine next _ ⟨by rw [List.length_set, hG.1], fun j hj => ?_⟩
                  rw [bt_set m (by rw [hG.1]; omega)] at hj
                  split at hj
                  · rename_i e
                    rw [e]
                    have hc : can R S k false = true := by
                      unfold can
                      rw [Int.toNat_natCast, hr, c1']
                      have := hn k hlt
                      unfold About at this
                      rw [hw] at this
                      simp only [Bool.not_false, Bool.true_and, if_true, Bool.false_eq_true, if_false, decide_eq_true_eq]
                      omega
                    have := hT k false hlt (by rw [hw]; exact (decide_eq_false c0).symm) hc
                    simp only [endA, endB, Int.toNat_natCast, hr, Bool.false_eq_true, if_false, if_true] at this
                    exact this c4' c5' (hG.2 _ c3)
                  · exact hG.2 j hj
            · rw [if_neg (show ¬ m.getD r.frm.toNat false = true from c3)]
              exact skip
    · rw [if_neg (nlt_nat hlt), wr_succ (by omega)]
      have : d = 0 := by omega
      subst this
      exact ⟨m, hG, rfl⟩
theorem loop19_1 (W A : List Int) (hA : A.length ≤ 1000) (P : List Place) (hP : P.length ≤ 7) (R : List Road) (S : List Span) (hR : RoadsIn P.length R) (hRl : R.length ≤ 9) (hW : W.length = R.length) (hn : ∀ k, k < R.length → About (S.getD k ⟨0, 0⟩) (W.getD k 0)) (T : Nat → Prop)
    (hT : ∀ (k : Nat) (d : Bool), k < R.length → d = decide (W.getD k 0 < 0) → can R S k d = true → surf P (endA R k d).toNat = false → surf P (endB R k d).toNat = false → T (endA R k d).toNat → T (endB R k d).toNat) (i : Nat) (hi : i < R.length) (a : Int) (ha : 0 ≤ a ∧ a < P.length) (hTa : T a.toNat → (i : Int) ∈ A) :
    ∀ (e fl n : Nat) (m : List Bool), P.length - n = e → n ≤ P.length → (e + 1) * 12 < fl → GoodS P.length T m → ∃ fl', fl ≤ fl' + (e + 1) * 12 ∧ h19_1 fl W A i a n R R.length i P R m = h19_0 fl' W A R R.length (i + 1 : Nat) P R
  | e, fl, n, m, he, hk, hf, hG => by
    obtain ⟨fl, rfl⟩ : ∃ q, fl = q + 1 := ⟨fl - 1, by omega⟩
    rw [h19_1_eq]
    by_cases hlt : n < P.length
    · obtain ⟨e, rfl⟩ : ∃ q, e = q + 1 := ⟨e - 1, by omega⟩
      rw [if_pos (lt_nat hlt)]
      obtain ⟨m', g1, g2⟩ := loop19_2 W A P R S hR hRl hW hn T hT i a R.length i n (by omega) R.length (fl - R.length - 1) 0 m (by omega) (by omega) hG
      rw [show fl - R.length - 1 + R.length + 1 = fl by omega] at g2
      have g2' : h19_2 fl W A i a n R R.length i R R.length 0 P R m = _ := g2
      rw [g2']
      obtain ⟨fl', g3, g4⟩ := loop19_1 W A hA P hP R S hR hRl hW hn T hT i hi a ha hTa e (fl - R.length - 1) (n + 1) m' (by omega) (by omega) (by omega) g1
      exact ⟨fl', by omega, g4⟩
    · have hb0 : dflt K.bool = false := rfl
      rw [if_neg (nlt_nat hlt), if_pos (idx_of ha.1 (by rw [hG.1]; exact ha.2)), hb0, wr_succ (by omega)]
      by_cases c : bt m a.toNat = true
      · rw [if_pos (show m.getD a.toNat false = true from c), has_eq _ _ hA, Option.bind_some, if_neg (by simpa using hTa (hG.2 _ c))]
        exact ⟨fl, by omega, rfl⟩
      · rw [if_neg (show ¬ m.getD a.toNat false = true from c)]
        exact ⟨fl, by omega, rfl⟩
/-- What air of a road can come to without it, or all, if it can come back. -/
def BackT (P : List Place) (R : List Road) (S : List Span) (i : Nat) (d : Bool) (j : Nat) : Prop := RchC (Ere P R S i) (endB R i d).toNat j ∨ RchC (Ere P R S i) (endB R i d).toNat (endA R i d).toNat
theorem backT_step {P : List Place} {R : List Road} {S : List Span} {i : Nat} {d : Bool} (hR : RoadsIn P.length R) (hi : i < R.length) (k : Nat) (e : Bool) (hk : k < R.length) (hc : can R S k e = true) (h1 : surf P (endA R k e).toNat = false) (h2 : surf P (endB R k e).toNat = false) (hke : k = i → e = d) (h : BackT P R S i d (endA R k e).toNat) : BackT P R S i d (endB R k e).toNat := by
  have hx := ends_in hR hk e
  rcases h with h | h
  · by_cases c : k = i
    · have := hke c
      subst c
      subst this
      exact .inr h
    · exact .inl fun T t1 t2 => t2 _ _ ⟨k, e, hk, by omega, hc, by omega, by omega, h1, h2⟩ (h T t1 t2)
  · exact .inr h
theorem step19 (W : List Int) (P : List Place) (hP : P.length ≤ 7) (R : List Road) (S : List Span) (hR : RoadsIn P.length R) (hRl : R.length ≤ 9) (hW : W.length = R.length) (hn : ∀ k, k < R.length → About (S.getD k ⟨0, 0⟩) (W.getD k 0)) (hr : rightM P R S = true) : ∀ (d fl i : Nat), R.length - i = d → i ≤ R.length → d * 110 < fl → h19_0 fl W (circM P R S) R R.length i P R = some (.one (.bool true), [])
  | d, fl, i, hd, hi, hf => by
    obtain ⟨fl, rfl⟩ : ∃ q, fl = q + 1 := ⟨fl - 1, by omega⟩
    rw [h19_0_eq]
    by_cases hlt : i < R.length
    · obtain ⟨d, rfl⟩ : ∃ q, d = q + 1 := ⟨d - 1, by omega⟩
      have next := fun (fl : Nat) (h : d * 110 < fl) => step19 W P hP R S hR hRl hW hn hr d fl (i + 1) (by omega) (by omega) h
      have skip := next fl (by omega)
      have hb0 : dflt K.bool = false := rfl
      have hi0 : dflt K.int = (0 : Int) := rfl
      have hp0 : dflt K.place = place0 := rfl
      have hr0 : dflt K.road = road0 := rfl
      have hb := hR i hlt
      have iw : idx W.length (i : Int) = true := idx_nat (by omega)
      have hlen : (List.replicate P.length false).length = P.length := by simp
      rw [if_pos (lt_nat hlt), if_pos (idx_nat hlt), hb0, hi0, hp0, hr0, Int.toNat_natCast, wr_succ (by omega), Int.toNat_natCast]
      by_cases c1 : (R.getD i road0).closed = true
      · rw [if_pos c1]; exact skip
      have c1' : (R.getD i road0).closed = false := by simpa using c1
      rw [if_neg c1, if_pos iw]
      by_cases c2 : W.getD i 0 = 0
      · rw [if_pos (by simpa using c2)]; exact skip
      rw [if_neg (by simpa using c2), if_pos iw]
      have hal : (decide (0 ≤ ((P.length : Nat) : Int)) && (decide (((P.length : Nat) : Int) ≤ 1048576) && ((P.length : Nat) : Int) == ((P.length : Nat) : Int))) = true := by
        simp; omega
      have ab := hn i hlt
      unfold About at ab
      have fin : ∀ (d0 : Bool), d0 = decide (W.getD i 0 < 0) → surf P (endA R i d0).toNat = false → surf P (endB R i d0).toNat = false →
          h19_1 fl W (circM P R S) i (endA R i d0) 0 R R.length i P R ((List.replicate P.length false).set (endB R i d0).toNat true) = some (.one (.bool true), []) := fun d0 hd0 s1 s2 => by
        have hx := ends_in hR hlt d0
        have hc : can R S i d0 = true := by
          unfold can
          rw [Int.toNat_natCast, c1', hd0]
          by_cases c : W.getD i 0 < 0
          · rw [decide_eq_true c]
            simp only [Bool.not_false, Bool.true_and, if_true, Bool.false_eq_true, if_false, decide_eq_true_eq]
            omega
          · rw [decide_eq_false c]
            simp only [Bool.not_false, Bool.true_and, if_true, Bool.false_eq_true, if_false, decide_eq_true_eq]
            omega
        obtain ⟨fl', g1, g2⟩ := loop19_1 W (circM P R S) (by have := circM_len P R S; omega) P hP R S hR hRl hW hn (BackT P R S i d0) (fun k e hk he hcan h1 h2 h => backT_step hR hlt k e hk hcan h1 h2 (fun ki => by subst ki; rw [he, hd0]) h) i hlt (endA R i d0) ⟨hx.1, hx.2.1⟩
          (fun h => mem_circM.2 ⟨hr, i, hlt, (onDir_iff hR i).2 ⟨d0, hc, s1, s2, by rcases h with h | h <;> exact h⟩, rfl⟩) P.length fl 0 ((List.replicate P.length false).set (endB R i d0).toNat true) (by omega) (by omega) (by omega)
          ⟨by simp, fun j hj => by
            rw [(bt_single (n := P.length) (by omega) j).1 hj]
            exact .inl fun T t1 _ => t1⟩
        have g2' : h19_1 fl W (circM P R S) i (endA R i d0) 0 R R.length i P R ((List.replicate P.length false).set (endB R i d0).toNat true) = _ := g2
        rw [g2']
        exact next fl' (by omega)
      have i2 : ∀ {z : Int}, 0 ≤ z ∧ z < P.length → idx P.length z = true := fun hz => idx_of hz.1 hz.2
      have i3 : ∀ {z : Int}, 0 ≤ z ∧ z < P.length → idx (List.replicate P.length false).length z = true := fun hz => idx_of hz.1 (by rw [hlen]; exact hz.2)
      have bf : 0 ≤ (R.getD i road0).frm ∧ (R.getD i road0).frm < P.length := ⟨hb.1, hb.2.1⟩
      have bt' : 0 ≤ (R.getD i road0).to ∧ (R.getD i road0).to < P.length := hb.2.2
      by_cases c3 : W.getD i 0 < 0
      · have f := fin true (decide_eq_true c3).symm
        simp only [endA, endB, Int.toNat_natCast, if_true] at f
        rw [if_pos (decide_eq_true c3), if_pos (i2 bt')]
        by_cases c4 : surf P (R.getD i road0).to.toNat = true
        · rw [if_pos (show (P.getD (R.getD i road0).to.toNat place0).surface = true from c4)]; exact skip
        rw [if_neg (show ¬ (P.getD (R.getD i road0).to.toNat place0).surface = true from c4), if_pos (i2 bf)]
        by_cases c5 : surf P (R.getD i road0).frm.toNat = true
        · rw [if_pos (show (P.getD (R.getD i road0).frm.toNat place0).surface = true from c5)]; exact skip
        rw [if_neg (show ¬ (P.getD (R.getD i road0).frm.toNat place0).surface = true from c5), if_pos hal, if_pos (i3 bf)]
        exact f (by simpa using c4) (by simpa using c5)
      · have f := fin false (decide_eq_false c3).symm
        simp only [endA, endB, Int.toNat_natCast, Bool.false_eq_true, if_false] at f
        rw [if_neg (fun e => c3 (of_decide_eq_true e)), if_pos (i2 bf)]
        by_cases c4 : surf P (R.getD i road0).frm.toNat = true
        · rw [if_pos (show (P.getD (R.getD i road0).frm.toNat place0).surface = true from c4)]; exact skip
        rw [if_neg (show ¬ (P.getD (R.getD i road0).frm.toNat place0).surface = true from c4), if_pos (i2 bt')]
        by_cases c5 : surf P (R.getD i road0).to.toNat = true
        · rw [if_pos (show (P.getD (R.getD i road0).to.toNat place0).surface = true from c5)]; exact skip
        rw [if_neg (show ¬ (P.getD (R.getD i road0).to.toNat place0).surface = true from c5), if_pos hal, if_pos (i3 bt')]
        exact f (by simpa using c4) (by simpa using c5)
    · rw [if_neg (nlt_nat hlt)]
theorem v19 (l : List Int) (place : Int) (h : l.all u8B = true) : h19 3000 l place = some (.one (.bool true), []) := by
  obtain ⟨x, hx, hb⟩ := airs_ok h
  have hn := hb.mine.n
  have hm : x.R.length ≤ 9 := hb.mine.m
  have hr : rightM x.P x.R x.S = true := rightM_iff.2 ⟨hb.mine.check, hb.slen⟩
  have e := step19 x.W x.P hn.2 x.R x.S (rightM_in hr).1 hm hb.wlen hb.near hr x.R.length 2999 0 (by omega) (by omega) (by omega)
  have e' : h19_0 2999 x.W (circM x.P x.R x.S) x.R x.R.length 0 x.P x.R = _ := e
  rw [h19_eq, hx, Option.bind_some, circles_eq _ _ _ _ _ _ (rightM_in hr).2.2.2, Option.bind_some, e']
def s19 : Spec := ⟨false, fun av ob => match av, ob with
  | [.one (.vec false .u8 l), .one (.int .i64 place)], [] => .need (l.all u8B && (i64B place)) (.ret (.one (.bool true), []))
  | _, _ => .fail⟩
theorem p19 : SpecOK Try.prog 19 s19 := by
  refine specOK_of (env2_ok (l := l19) ⟨⟨pc62, f62⟩, ⟨⟨pc65, f65⟩, ⟨⟨pc69, f69⟩, ⟨⟨p67, f67⟩, trivial⟩⟩⟩⟩) mixed_ok Try.func19 k19 fun av ob r os hrn => ?_
  simp only [s19] at hrn
  split at hrn
  · rename_i l place
    obtain ⟨hg, hrn⟩ := need_den hrn
    cases hrn
    simp only [Bool.and_eq_true] at hg
    obtain ⟨q1, q2⟩ := hg
    have hv := v19 l place q1
    unfold h19 at hv
    exact ⟨3000, hv⟩
  · cases hrn
theorem law19 (av : List AV) (h : AVs [RBytes, RInt] av) : (s19.run av []).den = some (.one (.bool true), []) := by
  obtain ⟨_, _, rfl, ⟨l, rfl, q1⟩, k1⟩ := h.cons
  obtain ⟨_, _, rfl, ⟨place, rfl, q2⟩, k2⟩ := k1.cons
  rw [k2.nil]
  refine den_need ?_
  simp only [Bool.and_eq_true]
  exact ⟨q1, q2⟩
end Go.Proofs.Ytipfipnhgpbceaa.Sx
/- Ways that are tried, one after another (plain theorems). -/

set_option linter.unusedVariables false
set_option linter.unusedSimpArgs false
set_option maxRecDepth 100000
namespace Go.Proofs.Ytipfipnhgpbceaa.Sx
open Go Go.RowKit
abbrev W68 := Bool → List Place → Bool → List Road → Bool → List Span → Int → Int → List Bool → Int → Option Bool
noncomputable def c68 (w : W68) : Spec := ⟨true, fun av ob => match av, ob with
  | [.agg [.vec b1 .place P, .vec b2 .road R], .one (.vec b3 .span f), .one (.int .i64 a), .one (.int .i64 t), .one (.row 0), .one (.int .i64 n)], [.rows .bool u] => .call (w b1 P b2 R b3 f a t u n) fun x => .ret (.one (.bool x), [.rows .bool u])
  | _, _ => .fail⟩
noncomputable def l68 (w : W68) : List (FuncId × Spec) := [(68, c68 w)]
def k68 : Code → Keep := keepOf [(6, ⟨[1, 2, 3, 4, 5, 6, 29, 30, 31], [], []⟩)]
noncomputable def h68_0 (w : W68) (fl : Nat) (t1b : Bool) (t1 : List Span) (t2 : Int) (t3 : Int) (t5 : Int) (t29b : Bool) (t29 : List Road) (t30 : Int) (t31 : Int) (m0 : List Bool) (m1_0b : Bool) (m1_0 : List Place) (m1_1b : Bool) (m1_1 : List Road) : Option (AV × List Ob) := (evalH (env (l68 w)) Try.f68 k68 1 fl (stkF Try.f68 [1, 1, 1, 0, 1, 0]) ⟨[.one (.undef), .one (.vec t1b .span t1), .one (.int .i64 t2), .one (.int .i64 t3), .one (.row 0), .one (.int .i64 t5), .one (.ptr 1 0), .one (.undef), .one (.undef), .one (.undef), .one (.undef), .one (.undef), .one (.undef), .one (.undef), .one (.undef), .one (.undef), .one (.undef), .one (.undef), .one (.undef), .one (.undef), .one (.undef), .one (.undef), .one (.undef), .one (.undef), .one (.undef), .one (.undef), .one (.undef), .one (.undef), .one (.undef), .one (.vec t29b .road t29), .one (.int .i64 t30), .one (.int .i64 t31), .one (.undef), .one (.undef), .one (.undef), .one (.undef), .one (.undef), .one (.undef), .one (.undef), .one (.undef), .one (.undef), .one (.undef), .one (.undef), .one (.undef), .one (.undef), .one (.undef), .one (.undef), .one (.undef), .one (.undef), .one (.undef), .one (.undef), .one (.undef), .one (.undef), .one (.undef), .one (.undef), .one (.undef), .one (.undef), .one (.undef), .one (.undef), .one (.undef), .one (.undef), .one (.undef), .one (.undef), .one (.undef), .one (.undef), .one (.undef), .one (.undef), .one (.undef), .one (.undef), .one (.undef), .one (.undef), .one (.undef), .one (.undef), .one (.undef), .one (.undef), .one (.undef), .one (.undef), .one (.undef), .one (.undef), .one (.undef), .one (.undef), .one (.undef), .one (.undef), .one (.undef), .one (.undef), .one (.undef), .one (.undef), .one (.undef), .one (.undef), .one (.undef), .one (.undef), .one (.undef), .one (.undef), .one (.undef), .one (.undef), .one (.undef), .one (.undef), .one (.undef), .one (.undef), .one (.undef), .one (.undef), .one (.undef)], [((0, 0), some (.rows .bool m0)), ((1, 0), some (.cell (.vec m1_0b .place m1_0))), ((1, 1), some (.cell (.vec m1_1b .road m1_1)))], 2⟩).den
noncomputable def h68 (w : W68) (fl : Nat) (b1 : Bool) (P : List Place) (b2 : Bool) (R : List Road) (b3 : Bool) (f : List Span) (at' to' : Int) (u : List Bool) (n : Int) : Option (AV × List Ob) := (evalF (env (l68 w)) Try.f68 k68 fl [.agg [.vec b1 .place P, .vec b2 .road R], .one (.vec b3 .span f), .one (.int .i64 at'), .one (.int .i64 to'), .one (.row 0), .one (.int .i64 n)] [.rows .bool u]).den
theorem h68_eq (w : W68) (fl : Nat) (b1 : Bool) (P : List Place) (b2 : Bool) (R : List Road) (b3 : Bool) (f : List Span) (at' to' : Int) (u : List Bool) (n : Int) : h68 w (fl + 1) b1 P b2 R b3 f at' to' u n =
    if (at' == to') = true then some (.one (.bool true), [.rows .bool u])
    else if (n == 0) = true then some (.one (.bool false), [.rows .bool u])
      else if (idx P.length at') = true then if ((P.getD at'.toNat (dflt K.place)).surface) = true then some (.one (.bool false), [.rows .bool u])
          else h68_0 w fl b3 f at' to' n b2 R ((↑R.length : Int)) 0 u b1 P b2 R
        else none := by kernel_rfl
theorem h68_0_eq (w : W68) (fl : Nat) (t1b : Bool) (t1 : List Span) (t2 : Int) (t3 : Int) (t5 : Int) (t29b : Bool) (t29 : List Road) (t30 : Int) (t31 : Int) (m0 : List Bool) (m1_0b : Bool) (m1_0 : List Place) (m1_1b : Bool) (m1_1 : List Road) : h68_0 w (fl + 1) t1b t1 t2 t3 t5 t29b t29 t30 t31 m0 m1_0b m1_0 m1_1b m1_1 =
    if (decide (t31 < t30)) = true then if (idx t29.length t31) = true then if (idx m0.length t31) = true then if (m0.getD t31.toNat (dflt K.bool)) = true then h68_0 w fl t1b t1 t2 t3 t5 t29b t29 t30 (IntKind.i64.wrap (t31 + 1)) m0 m1_0b m1_0 m1_1b m1_1
          else if ((t29.getD t31.toNat (dflt K.road)).closed) = true then h68_0 w fl t1b t1 t2 t3 t5 t29b t29 t30 (IntKind.i64.wrap (t31 + 1)) m0 m1_0b m1_0 m1_1b m1_1
            else if (idx m0.length t31) = true then if ((t29.getD t31.toNat (dflt K.road)).frm == t2) = true then if (idx t1.length t31) = true then if (decide ((t1.getD t31.toNat (dflt K.span)).hi > 0)) = true then (w m1_0b m1_0 m1_1b m1_1 t1b t1 (t29.getD t31.toNat (dflt K.road)).to t3 (m0.set t31.toNat true) (IntKind.i64.wrap (t5 - 1))).bind fun x11 =>
                      if x11 = true then if (idx (m0.set t31.toNat true).length t31) = true then some (.one (.bool true), [.rows .bool ((m0.set t31.toNat true).set t31.toNat false)])
                          else none
                        else if ((t29.getD t31.toNat (dflt K.road)).to == t2) = true then if (idx t1.length t31) = true then if (decide ((t1.getD t31.toNat (dflt K.span)).lo < 0)) = true then (w m1_0b m1_0 m1_1b m1_1 t1b t1 (t29.getD t31.toNat (dflt K.road)).frm t3 (m0.set t31.toNat true) (IntKind.i64.wrap (t5 - 1))).bind fun x16 =>
                                if x16 = true then if (idx (m0.set t31.toNat true).length t31) = true then some (.one (.bool true), [.rows .bool ((m0.set t31.toNat true).set t31.toNat false)])
                                    else none
                                  else if (idx (m0.set t31.toNat true).length t31) = true then h68_0 w fl t1b t1 t2 t3 t5 t29b t29 t30 (IntKind.i64.wrap (t31 + 1)) ((m0.set t31.toNat true).set t31.toNat false) m1_0b m1_0 m1_1b m1_1
                                    else none
                              else if (idx (m0.set t31.toNat true).length t31) = true then h68_0 w fl t1b t1 t2 t3 t5 t29b t29 t30 (IntKind.i64.wrap (t31 + 1)) ((m0.set t31.toNat true).set t31.toNat false) m1_0b m1_0 m1_1b m1_1
                                else none
                            else none
                          else if (idx (m0.set t31.toNat true).length t31) = true then h68_0 w fl t1b t1 t2 t3 t5 t29b t29 t30 (IntKind.i64.wrap (t31 + 1)) ((m0.set t31.toNat true).set t31.toNat false) m1_0b m1_0 m1_1b m1_1
                            else none
                    else if ((t29.getD t31.toNat (dflt K.road)).to == t2) = true then if (idx t1.length t31) = true then if (decide ((t1.getD t31.toNat (dflt K.span)).lo < 0)) = true then (w m1_0b m1_0 m1_1b m1_1 t1b t1 (t29.getD t31.toNat (dflt K.road)).frm t3 (m0.set t31.toNat true) (IntKind.i64.wrap (t5 - 1))).bind fun x14 =>
                            if x14 = true then if (idx (m0.set t31.toNat true).length t31) = true then some (.one (.bool true), [.rows .bool ((m0.set t31.toNat true).set t31.toNat false)])
                                else none
                              else if (idx (m0.set t31.toNat true).length t31) = true then h68_0 w fl t1b t1 t2 t3 t5 t29b t29 t30 (IntKind.i64.wrap (t31 + 1)) ((m0.set t31.toNat true).set t31.toNat false) m1_0b m1_0 m1_1b m1_1
                                else none
                          else if (idx (m0.set t31.toNat true).length t31) = true then h68_0 w fl t1b t1 t2 t3 t5 t29b t29 t30 (IntKind.i64.wrap (t31 + 1)) ((m0.set t31.toNat true).set t31.toNat false) m1_0b m1_0 m1_1b m1_1
                            else none
                        else none
                      else if (idx (m0.set t31.toNat true).length t31) = true then h68_0 w fl t1b t1 t2 t3 t5 t29b t29 t30 (IntKind.i64.wrap (t31 + 1)) ((m0.set t31.toNat true).set t31.toNat false) m1_0b m1_0 m1_1b m1_1
                        else none
                  else none
                else if ((t29.getD t31.toNat (dflt K.road)).to == t2) = true then if (idx t1.length t31) = true then if (decide ((t1.getD t31.toNat (dflt K.span)).lo < 0)) = true then (w m1_0b m1_0 m1_1b m1_1 t1b t1 (t29.getD t31.toNat (dflt K.road)).frm t3 (m0.set t31.toNat true) (IntKind.i64.wrap (t5 - 1))).bind fun x12 =>
                        if x12 = true then if (idx (m0.set t31.toNat true).length t31) = true then some (.one (.bool true), [.rows .bool ((m0.set t31.toNat true).set t31.toNat false)])
                            else none
                          else if (idx (m0.set t31.toNat true).length t31) = true then h68_0 w fl t1b t1 t2 t3 t5 t29b t29 t30 (IntKind.i64.wrap (t31 + 1)) ((m0.set t31.toNat true).set t31.toNat false) m1_0b m1_0 m1_1b m1_1
                            else none
                      else if (idx (m0.set t31.toNat true).length t31) = true then h68_0 w fl t1b t1 t2 t3 t5 t29b t29 t30 (IntKind.i64.wrap (t31 + 1)) ((m0.set t31.toNat true).set t31.toNat false) m1_0b m1_0 m1_1b m1_1
                        else none
                    else none
                  else if (idx (m0.set t31.toNat true).length t31) = true then h68_0 w fl t1b t1 t2 t3 t5 t29b t29 t30 (IntKind.i64.wrap (t31 + 1)) ((m0.set t31.toNat true).set t31.toNat false) m1_0b m1_0 m1_1b m1_1
                    else none
              else none
        else none
      else none
    else some (.one (.bool false), [.rows .bool m0]) := by kernel_rfl
def decW (u : List Bool) : AV × List Ob → Option Bool
  | (.one (.bool b), [.rows .bool u']) => if u' = u then some b else none
  | _ => none
theorem decW_ok {u : List Bool} {y : AV × List Ob} {x : Bool} (h : decW u y = some x) : (AV.one (.bool x), [Ob.rows .bool u]) = y := by
  unfold decW at h
  split at h
  · split at h
    · rename_i e
      subst e
      cases h
      rfl
    · cases h
  · cases h
/-- What the search returns, by at most so many calls in one another. -/
noncomputable def w68s (w : W68) : W68 := fun b1 P b2 R b3 f a t u n => (h68 w 2000 b1 P b2 R b3 f a t u n).bind (decW u)
noncomputable def wk : Nat → W68
  | 0 => fun _ _ _ _ _ _ _ _ _ _ => none
  | k + 1 => w68s (wk k)
theorem f68 : FnOK Try.prog 68 := fnOK_of Try.func68 rfl (by kernel_rfl)
theorem pc68s (w : W68) (hw : SpecOK Try.prog 68 (c68 w)) : SpecOK Try.prog 68 (c68 (w68s w)) := by
  refine spec_le (fun av ob r os hrn => ?_) (machS_ok (env_ok (l := l68 w) ⟨⟨hw, f68⟩, trivial⟩) mixed_ok Try.func68 k68 (fun _ _ => 2000) true)
  simp only [c68] at hrn
  split at hrn
  · rename_i b1 P b2 R b3 f a t u n
    obtain ⟨x, hx, hr⟩ := Option.bind_eq_some_iff.1 hrn
    cases hr
    obtain ⟨y, hy, hd⟩ := Option.bind_eq_some_iff.1 hx
    unfold h68 at hy
    rw [machS_run, decW_ok hd]
    exact hy
  · cases hrn
theorem pc68 : ∀ k, SpecOK Try.prog 68 (c68 (wk k))
  | 0 => by
    intro w ρ ok vs av obs r os h1 h2 h3 hrn
    exfalso
    simp only [c68] at hrn
    split at hrn
    · obtain ⟨x, hx, hr⟩ := Option.bind_eq_some_iff.1 hrn
      cases hx
    · cases hrn
  | k + 1 => pc68s (wk k) (pc68 k)
/-- Whether a way of at most so many roads, each once, leads to a place. -/
def Walk (P : List Place) (R : List Road) (f : List Span) (t : Int) : Nat → Int → List Bool → Prop
  | 0, a, _ => a = t
  | n + 1, a, u => a = t ∨ (surf P a.toNat = false ∧ ∃ (i : Nat) (d : Bool), i < R.length ∧ bt u i = false ∧ can R f i d = true ∧ endA R i d = a ∧ Walk P R f t n (endB R i d) (u.set i true))
theorem set_back {u : List Bool} {j : Nat} (h : bt u j = false) : (u.set j true).set j false = u := by
  rw [List.set_set]
  refine List.ext_getElem (by simp) (fun i h1 h2 => ?_)
  rw [List.getElem_set]
  split
  · rename_i e
    subst e
    unfold bt at h
    rw [List.getD_eq_getElem?_getD, List.getElem?_eq_getElem h2] at h
    exact h.symm
  · rfl
open Classical in
theorem walk_loop (w : W68) (b1 b2 b3 : Bool) (P : List Place) (R : List Road) (hR : RoadsIn P.length R) (hRl : R.length ≤ 1000) (f : List Span) (hf : f.length = R.length) (t a : Int) (n : Nat) (hn : n ≤ 1000) (hw : ∀ (z : Int) (u : List Bool), 0 ≤ z ∧ z < P.length → u.length = R.length → w b1 P b2 R b3 f z t u n = some (decide (Walk P R f t n z u))) (u : List Bool) (hu : u.length = R.length) :
    ∀ (d fl j : Nat), R.length - j = d → j ≤ R.length → d < fl → h68_0 w fl b3 f a t (n + 1 : Nat) b2 R R.length j u b1 P b2 R = some (.one (.bool (decide (∃ (i : Nat) (e : Bool), j ≤ i ∧ i < R.length ∧ bt u i = false ∧ can R f i e = true ∧ endA R i e = a ∧ Walk P R f t n (endB R i e) (u.set i true)))), [.rows .bool u])
  | d, fl, j, hd, hj, hfl => by
    obtain ⟨fl, rfl⟩ : ∃ q, fl = q + 1 := ⟨fl - 1, by omega⟩
    rw [h68_0_eq]
    by_cases hlt : j < R.length
    · obtain ⟨d, rfl⟩ : ∃ q, d = q + 1 := ⟨d - 1, by omega⟩
      have hb0 : dflt K.bool = false := rfl
      have hs0 : dflt K.span = (⟨0, 0⟩ : Span) := rfl
      have hr0 : dflt K.road = road0 := rfl
      have hb := hR j hlt
      have hb : (0 ≤ (R.getD j road0).frm ∧ (R.getD j road0).frm < P.length) ∧ (0 ≤ (R.getD j road0).to ∧ (R.getD j road0).to < P.length) := ⟨⟨hb.1, hb.2.1⟩, hb.2.2⟩
      have ju : idx u.length (j : Int) = true := idx_nat (by omega)
      have ju2 : idx (u.set j true).length (j : Int) = true := idx_nat (by rw [List.length_set]; omega)
      have jf : idx f.length (j : Int) = true := idx_nat (by omega)
      have hn1 : IntKind.i64.wrap (((n + 1 : Nat) : Int) - 1) = (n : Int) := by rw [wid (by omega) (by omega)]; omega
      have hw0 := hw
      have hw := fun z hz => hw0 z (u.set j true) hz (by rw [List.length_set]; exact hu)
      have ih := walk_loop w b1 b2 b3 P R hR hRl f hf t a n hn hw0 u hu d fl (j + 1) (by omega) (by omega) (by omega)
      rw [if_pos (lt_nat hlt), if_pos (idx_nat hlt), if_pos ju, hb0, hs0, hr0, Int.toNat_natCast, wr_succ (by omega), hn1]
      -- a road that leads to nothing
      have skip : (∀ e : Bool, ¬ (bt u j = false ∧ can R f j e = true ∧ endA R j e = a ∧ Walk P R f t n (endB R j e) (u.set j true))) → h68_0 w fl b3 f a t (n + 1 : Nat) b2 R R.length (j + 1 : Nat) u b1 P b2 R = some (.one (.bool (decide (∃ (i : Nat) (e : Bool), j ≤ i ∧ i < R.length ∧ bt u i = false ∧ can R f i e = true ∧ endA R i e = a ∧ Walk P R f t n (endB R i e) (u.set i true)))), [.rows .bool u]) := fun hno => by
        rw [ih]
        congr 4
        apply decide_eq_decide.2
        constructor
        · rintro ⟨i, e, h1, h2⟩
          exact ⟨i, e, by omega, h2⟩
        · rintro ⟨i, e, h1, h2⟩
          by_cases c : i = j
          · subst c; exact absurd h2.2 (hno e)
          · exact ⟨i, e, by omega, h2⟩
      by_cases c0 : bt u j = true
      · rw [if_pos (show u.getD j false = true from c0)]
        exact skip (fun e h => by rw [c0] at h; cases h.1)
      have c0' : bt u j = false := by simpa using c0
      rw [if_neg (show ¬ u.getD j false = true from c0)]
      by_cases c1 : (R.getD j road0).closed = true
      · rw [if_pos c1]
        exact skip (fun e h => by
          have h2 := h.2.1
          unfold can at h2
          rw [Int.toNat_natCast, c1] at h2
          simp at h2)
      have c1' : (R.getD j road0).closed = false := by simpa using c1
      rw [if_neg c1, if_pos ju]
      have hback := set_back c0'
      have hcan : ∀ e, can R f j e = true ↔ (if e = true then (f.getD j ⟨0, 0⟩).lo < 0 else (f.getD j ⟨0, 0⟩).hi > 0) := fun e => by
        unfold can
        rw [Int.toNat_natCast, c1']
        cases e <;> simp
      have hA : ∀ e, endA R j e = if e = true then (R.getD j road0).to else (R.getD j road0).frm := fun e => by unfold endA; rw [Int.toNat_natCast]
      have hB : ∀ e, endB R j e = if e = true then (R.getD j road0).frm else (R.getD j road0).to := fun e => by unfold endB; rw [Int.toNat_natCast]
      have found0 : ∀ e : Bool, can R f j e = true → endA R j e = a → Walk P R f t n (endB R j e) (u.set j true) → (some (AV.one (.bool true), [Ob.rows .bool u]) : Option (AV × List Ob)) = some (.one (.bool (decide (∃ (i : Nat) (e : Bool), j ≤ i ∧ i < R.length ∧ bt u i = false ∧ can R f i e = true ∧ endA R i e = a ∧ Walk P R f t n (endB R i e) (u.set i true)))), [.rows .bool u]) := fun e h1 h2 h3 => by
        rw [decide_eq_true (show ∃ (i : Nat) (e : Bool), j ≤ i ∧ i < R.length ∧ bt u i = false ∧ can R f i e = true ∧ endA R i e = a ∧ Walk P R f t n (endB R i e) (u.set i true) from ⟨j, e, by omega, hlt, c0', h1, h2, h3⟩)]
      have found := fun e => found0 e
      simp only [hcan, hA, hB] at found
      have next : ¬ ((f.getD j ⟨0, 0⟩).hi > 0 ∧ (R.getD j road0).frm = a ∧ Walk P R f t n (R.getD j road0).to (u.set j true)) → ((f.getD j ⟨0, 0⟩).lo < 0 → (R.getD j road0).to = a → Walk P R f t n (R.getD j road0).frm (u.set j true) → False) → _ := fun h1 h2 => skip (fun e h => by
        obtain ⟨_, g1, g2, g3⟩ := h
        rw [hcan] at g1
        rw [hA] at g2
        rw [hB] at g3
        cases e
        · simp only [Bool.false_eq_true, if_false] at g1 g2 g3
          exact h1 ⟨g1, g2, g3⟩
        · simp only [if_true] at g1 g2 g3
          exact h2 g1 g2 g3)
      clear skip ih found0
      generalize R.getD j road0 = r at *
      generalize f.getD j ⟨0, 0⟩ = s at *
      by_cases d1 : r.frm = a
      · rw [if_pos (show (r.frm == a) = true by simpa using d1), if_pos jf]
        by_cases d2 : s.hi > 0
        · rw [if_pos (decide_eq_true d2), hw r.to hb.2, Option.bind_some]
          by_cases d3 : Walk P R f t n r.to (u.set j true)
          · rw [if_pos (decide_eq_true d3), if_pos ju2, hback]
            exact found false (by simp only [Bool.false_eq_true, if_false]; exact d2) (by simp only [Bool.false_eq_true, if_false]; exact d1) (by simp only [Bool.false_eq_true, if_false]; exact d3)
          · rw [if_neg (fun e => d3 (of_decide_eq_true e))]
            have n1 : ¬ (s.hi > 0 ∧ r.frm = a ∧ Walk P R f t n r.to (u.set j true)) := fun h => d3 h.2.2
            · by_cases c3 : r.to = a
              · rw [if_pos (show (r.to == a) = true by simpa using c3), if_pos jf]
                by_cases c4 : s.lo < 0
                · rw [if_pos (decide_eq_true c4), hw r.frm hb.1, Option.bind_some]
                  by_cases c5 : Walk P R f t n r.frm (u.set j true)
                  · rw [if_pos (decide_eq_true c5), if_pos ju2, hback]
                    exact found true (by simp only [if_true]; exact c4) (by simp only [if_true]; exact c3) (by simp only [if_true]; exact c5)
                  · rw [if_neg (fun e => c5 (of_decide_eq_true e)), if_pos ju2, hback]
                    exact next n1 (fun _ _ h => c5 h)
                · rw [if_neg (fun e => c4 (of_decide_eq_true e)), if_pos ju2, hback]
                  exact next n1 (fun h _ _ => c4 h)
              · rw [if_neg (show ¬ (r.to == a) = true by simpa using c3), if_pos ju2, hback]
                exact next n1 (fun _ h _ => c3 h)
        · rw [if_neg (fun e => d2 (of_decide_eq_true e))]
          have n1 : ¬ (s.hi > 0 ∧ r.frm = a ∧ Walk P R f t n r.to (u.set j true)) := fun h => d2 h.1
          · by_cases c3 : r.to = a
            · rw [if_pos (show (r.to == a) = true by simpa using c3), if_pos jf]
              by_cases c4 : s.lo < 0
              · rw [if_pos (decide_eq_true c4), hw r.frm hb.1, Option.bind_some]
                by_cases c5 : Walk P R f t n r.frm (u.set j true)
                · rw [if_pos (decide_eq_true c5), if_pos ju2, hback]
                  exact found true (by simp only [if_true]; exact c4) (by simp only [if_true]; exact c3) (by simp only [if_true]; exact c5)
                · rw [if_neg (fun e => c5 (of_decide_eq_true e)), if_pos ju2, hback]
                  exact next n1 (fun _ _ h => c5 h)
              · rw [if_neg (fun e => c4 (of_decide_eq_true e)), if_pos ju2, hback]
                exact next n1 (fun h _ _ => c4 h)
            · rw [if_neg (show ¬ (r.to == a) = true by simpa using c3), if_pos ju2, hback]
              exact next n1 (fun _ h _ => c3 h)
      · rw [if_neg (show ¬ (r.frm == a) = true by simpa using d1)]
        have n1 : ¬ (s.hi > 0 ∧ r.frm = a ∧ Walk P R f t n r.to (u.set j true)) := fun h => d1 h.2.1
        · by_cases c3 : r.to = a
          · rw [if_pos (show (r.to == a) = true by simpa using c3), if_pos jf]
            by_cases c4 : s.lo < 0
            · rw [if_pos (decide_eq_true c4), hw r.frm hb.1, Option.bind_some]
              by_cases c5 : Walk P R f t n r.frm (u.set j true)
              · rw [if_pos (decide_eq_true c5), if_pos ju2, hback]
                exact found true (by simp only [if_true]; exact c4) (by simp only [if_true]; exact c3) (by simp only [if_true]; exact c5)
              · rw [if_neg (fun e => c5 (of_decide_eq_true e)), if_pos ju2, hback]
                exact next n1 (fun _ _ h => c5 h)
            · rw [if_neg (fun e => c4 (of_decide_eq_true e)), if_pos ju2, hback]
              exact next n1 (fun h _ _ => c4 h)
          · rw [if_neg (show ¬ (r.to == a) = true by simpa using c3), if_pos ju2, hback]
            exact next n1 (fun _ h _ => c3 h)
    · rw [if_neg (nlt_nat hlt)]
      have : ¬ ∃ (i : Nat) (e : Bool), j ≤ i ∧ i < R.length ∧ bt u i = false ∧ can R f i e = true ∧ endA R i e = a ∧ Walk P R f t n (endB R i e) (u.set i true) := by
        rintro ⟨i, e, h1, h2, _⟩
        omega
      rw [decide_eq_false this]
end Go.Proofs.Ytipfipnhgpbceaa.Sx
/- What the search for a way finds: whether air can come back (plain theorems). -/

set_option linter.unusedVariables false
set_option linter.unusedSimpArgs false
set_option maxRecDepth 100000
namespace Go.Proofs.Ytipfipnhgpbceaa.Sx
open Go Go.RowKit
noncomputable def c168 : Spec := c68 (wk 8)
theorem pc168 : SpecOK Try.prog 68 c168 := pc68 8
theorem f168 : FnOK Try.prog 68 := f68
theorem walk_here {P : List Place} {R : List Road} {f : List Span} {t : Int} {u : List Bool} : ∀ n, Walk P R f t n t u
  | 0 => rfl
  | n + 1 => .inl rfl
open Classical in
theorem wk_eq (b1 b2 b3 : Bool) (P : List Place) (R : List Road) (hR : RoadsIn P.length R) (hRl : R.length ≤ 1000) (f : List Span) (hf : f.length = R.length) (t : Int) : ∀ (k n : Nat) (a : Int) (u : List Bool), n < k → n ≤ 1000 → 0 ≤ a ∧ a < P.length → u.length = R.length → wk k b1 P b2 R b3 f a t u n = some (decide (Walk P R f t n a u))
  | 0, n, a, u, h, _, _, _ => by omega
  | k + 1, n, a, u, h, hn, ha, hu => by
    show Option.bind (h68 (wk k) (1999 + 1) b1 P b2 R b3 f a t u n) (decW u) = _
    have hp0 : dflt K.place = place0 := rfl
    rw [h68_eq, hp0]
    by_cases c1 : a = t
    · subst c1
      rw [if_pos (by simp), decide_eq_true (walk_here n)]
      simp [decW]
    · rw [if_neg (by simpa using c1)]
      cases n with
      | zero =>
        rw [if_pos (by rfl), decide_eq_false (show ¬ Walk P R f t 0 a u from c1)]
        simp [decW]
      | succ n =>
        rw [if_neg (by simp; omega), if_pos (idx_of ha.1 ha.2)]
        by_cases c2 : surf P a.toNat = true
        · rw [if_pos (show (P.getD a.toNat place0).surface = true from c2), decide_eq_false (show ¬ Walk P R f t (n + 1) a u from fun e => by
            rcases e with e | e
            · exact c1 e
            · rw [c2] at e; cases e.1)]
          simp [decW]
        · have c2' : surf P a.toNat = false := by simpa using c2
          have e := walk_loop (wk k) b1 b2 b3 P R hR hRl f hf t a n (by omega) (fun z u' hz hu' => wk_eq b1 b2 b3 P R hR hRl f hf t k n z u' (by omega) (by omega) hz hu') u hu R.length 1999 0 (by omega) (by omega) (by omega)
          have e' : h68_0 (wk k) 1999 b3 f a t (n + 1 : Nat) b2 R R.length 0 u b1 P b2 R = _ := e
          have iff : (∃ (i : Nat) (e : Bool), 0 ≤ i ∧ i < R.length ∧ bt u i = false ∧ can R f i e = true ∧ endA R i e = a ∧ Walk P R f t n (endB R i e) (u.set i true)) ↔ Walk P R f t (n + 1) a u := by
            constructor
            · rintro ⟨i, e, _, h⟩
              exact .inr ⟨c2', i, e, h⟩
            · rintro (h | ⟨_, i, e, h⟩)
              · exact absurd h c1
              · exact ⟨i, e, Nat.zero_le _, h⟩
          have hd : decide (∃ (i : Nat) (e : Bool), 0 ≤ i ∧ i < R.length ∧ bt u i = false ∧ can R f i e = true ∧ endA R i e = a ∧ Walk P R f t n (endB R i e) (u.set i true)) = decide (Walk P R f t (n + 1) a u) := decide_eq_decide.2 iff
          rw [if_neg (show ¬ (P.getD a.toNat place0).surface = true from c2), e', hd]
          simp [decW]
/-- Places from which some place can be come to over at most so many roads. -/
def Bk (E : Nat → Nat → Prop) (t : Nat) : Nat → Nat → Prop
  | 0, v => v = t
  | n + 1, v => Bk E t n v ∨ ∃ w, E v w ∧ Bk E t n w
theorem Bk.up {E : Nat → Nat → Prop} {t v : Nat} : ∀ {n m : Nat}, n ≤ m → Bk E t n v → Bk E t m v := fun {n m} h g => by
  induction m with
  | zero => have : n = 0 := by omega
            subst this; exact g
  | succ m ih =>
    by_cases c : n = m + 1
    · subst c; exact g
    · exact .inl (ih (by omega))
theorem Bk.more {E : Nat → Nat → Prop} {x y : Nat} (hE : E x y) {v : Nat} : ∀ {n : Nat}, Bk E x n v → Bk E y (n + 1) v := fun {n} g => by
  induction n generalizing v with
  | zero =>
    have : v = x := g
    subst this
    exact .inr ⟨y, hE, rfl⟩
  | succ n ih =>
    rcases g with g | ⟨w, h1, h2⟩
    · exact .inl (ih g)
    · exact .inr ⟨w, h1, ih h2⟩
theorem RchC.bk {E : Nat → Nat → Prop} {b a : Nat} (h : RchC E b a) : ∃ n, Bk E a n b :=
  h (fun x => ∃ n, Bk E x n b) ⟨0, rfl⟩ fun x y hE ⟨n, g⟩ => ⟨n + 1, g.more hE⟩
theorem Bk.below {P : List Place} {R : List Road} {f : List Span} {w : Int} {t : Nat} (ht : surf P t = false) : ∀ {n v : Nat}, Bk (Ere P R f w) t n v → surf P v = false := fun {n} => by
  induction n with
  | zero => rintro v rfl; exact ht
  | succ n ih =>
    rintro v (g | ⟨x, h1, _⟩)
    · exact ih g
    · obtain ⟨_, _, _, _, _, _, _, h, _⟩ := h1
      exact h
/-- Along ways that get shorter no road is met twice. -/
theorem walk_of (P : List Place) (R : List Road) (f : List Span) (hR : RoadsIn P.length R) (i : Nat) (t : Nat) (ht : surf P t = false) : ∀ (n v : Nat) (u : List Bool), u.length = R.length → Bk (Ere P R f i) t n v → (∀ m, m < n → ¬ Bk (Ere P R f i) t m v) →
    (∀ k, bt u k = true → k = i ∨ ¬ Bk (Ere P R f i) t n (R.getD k road0).frm.toNat ∨ ¬ Bk (Ere P R f i) t n (R.getD k road0).to.toNat) → Walk P R f t n v u
  | 0, v, u, hu, g, _, _ => by
    have : v = t := g
    subst this
    rfl
  | n + 1, v, u, hu, g, hmin, hused => by
    rcases g with g | ⟨x, hE, g⟩
    · exact absurd g (hmin n (by omega))
    · have hx : ∀ m, m < n → ¬ Bk (Ere P R f i) t m x := fun m hm hb => hmin (m + 1) (by omega) (.inr ⟨x, hE, hb⟩)
      obtain ⟨k, d, h1, h2, h3, h4, h5, h6, h7⟩ := hE
      have hv : Bk (Ere P R f i) t (n + 1) v := .inr ⟨x, ⟨k, d, h1, h2, h3, h4, h5, h6, h7⟩, g⟩
      have hnv : ¬ Bk (Ere P R f i) t n v := hmin n (by omega)
      have hends : (R.getD k road0).frm.toNat = v ∧ (R.getD k road0).to.toNat = x ∨ (R.getD k road0).frm.toNat = x ∧ (R.getD k road0).to.toNat = v := by
        unfold endA at h4
        unfold endB at h5
        rw [Int.toNat_natCast] at h4 h5
        cases d
        · simp only [Bool.false_eq_true, if_false] at h4 h5; omega
        · simp only [if_true] at h4 h5; omega
      refine .inr ⟨by rw [Int.toNat_natCast]; exact h6, k, d, h1, ?_, h3, h4, ?_⟩
      · cases hbk : bt u k with
        | false => rfl
        | true =>
          exfalso
          have gx : Bk (Ere P R f i) t (n + 1) x := .inl g
          rcases hused k hbk with h | h | h
          · omega
          · rcases hends with ⟨e1, e2⟩ | ⟨e1, e2⟩
            · rw [e1] at h; exact h hv
            · rw [e1] at h; exact h gx
          · rcases hends with ⟨e1, e2⟩ | ⟨e1, e2⟩
            · rw [e2] at h; exact h gx
            · rw [e2] at h; exact h hv
      · rw [h5]
        refine walk_of P R f hR i t ht n x (u.set k true) (by rw [List.length_set]; exact hu) g hx (fun j hj => ?_)
        rw [bt_set u (by omega)] at hj
        split at hj
        · rename_i e
          subst e
          rcases hends with ⟨e1, e2⟩ | ⟨e1, e2⟩
          · exact .inr (.inl (by rw [e1]; exact hnv))
          · exact .inr (.inr (by rw [e2]; exact hnv))
        · rcases hused j hj with h | h | h
          · exact .inl h
          · exact .inr (.inl fun e => h (.inl e))
          · exact .inr (.inr fun e => h (.inl e))
theorem walk_up {P : List Place} {R : List Road} {f : List Span} {t : Int} : ∀ {n : Nat} {a : Int} {u : List Bool}, Walk P R f t n a u → Walk P R f t (n + 1) a u := fun {n} => by
  induction n with
  | zero => intro a u h; exact .inl h
  | succ n ih =>
    rintro a u (h | ⟨h1, i, d, h2, h3, h4, h5, h6⟩)
    · exact .inl h
    · exact .inr ⟨h1, i, d, h2, h3, h4, h5, ih h6⟩
theorem walk_le {P : List Place} {R : List Road} {f : List Span} {t : Int} {n m : Nat} (h : n ≤ m) {a : Int} {u : List Bool} (g : Walk P R f t n a u) : Walk P R f t m a u := by
  induction m with
  | zero => have : n = 0 := by omega
            subst this; exact g
  | succ m ih =>
    by_cases c : n = m + 1
    · subst c; exact g
    · exact walk_up (ih (by omega))
theorem walk_rch {P : List Place} {R : List Road} {f : List Span} (hR : RoadsIn P.length R) {i : Nat} {t : Nat} (ht : surf P t = false) : ∀ {n : Nat} {a : Nat} {u : List Bool}, i < u.length → bt u i = true → Walk P R f t n a u → RchC (Ere P R f i) a t := fun {n} => by
  induction n with
  | zero =>
    intro a u _ _ h
    have : (a : Int) = t := h
    have : a = t := by omega
    subst this
    exact fun T t1 _ => t1
  | succ n ih =>
    rintro a u hl hu (h | ⟨h1, k, d, h2, h3, h4, h5, h6⟩)
    · have : a = t := by omega
      subst this
      exact fun T t1 _ => t1
    · have hki : k ≠ i := fun e => by subst e; rw [hu] at h3; cases h3
      have hx := ends_in hR h2 d
      obtain ⟨b, hb⟩ : ∃ b : Nat, endB R k d = b := ⟨(endB R k d).toNat, by omega⟩
      rw [hb] at h6
      have hub : bt (u.set k true) i = true := by
        by_cases c : k < u.length
        · rw [bt_set u c]; split
          · rfl
          · exact hu
        · rw [List.set_eq_of_length_le (by omega)]; exact hu
      have g := ih (by rw [List.length_set]; exact hl) hub h6
      have hs : surf P b = false := by
        cases n with
        | zero =>
          have : (b : Int) = t := h6
          have : b = t := by omega
          subst this; exact ht
        | succ n =>
          rcases h6 with h6 | h6
          · have : b = t := by omega
            subst this; exact ht
          · simpa using h6.1
      exact fun T t1 t2 => g T (t2 a b ⟨k, d, h2, by omega, h4, h5, hb, by simpa using h1, hs⟩ t1) t2
theorem cnt_lt : ∀ {a b : List Bool}, a.length = b.length → (∀ i, bt a i = true → bt b i = true) → (∃ i, bt b i = true ∧ bt a i = false) → cnt a < cnt b
  | [], [], _, _, ⟨i, h, _⟩ => by simp [bt] at h
  | x :: a, y :: b, hl, hs, ⟨i, h1, h2⟩ => by
    have hs' : ∀ i, bt a i = true → bt b i = true := fun i h => hs (i + 1) h
    have h0 := hs 0
    have le : cnt a ≤ cnt b := by
      by_cases c : ∃ i, bt b i = true ∧ bt a i = false
      · exact Nat.le_of_lt (cnt_lt (by simpa using hl) hs' c)
      · have : a = b := List.ext_getElem (by simpa using hl) (fun i g1 g2 => by
          have e1 : bt a i = a[i] := by unfold bt; rw [List.getD_eq_getElem?_getD, List.getElem?_eq_getElem g1]; rfl
          have e2 : bt b i = b[i] := by unfold bt; rw [List.getD_eq_getElem?_getD, List.getElem?_eq_getElem g2]; rfl
          rw [← e1, ← e2]
          cases e : bt a i with
          | true => exact (hs' i e).symm
          | false =>
            cases e' : bt b i with
            | false => rfl
            | true => exact absurd ⟨i, e', e⟩ c)
        rw [this]; exact Nat.le_refl _
    cases i with
    | zero =>
      have e1 : y = true := h1
      have e2 : x = false := h2
      subst e1; subst e2
      simp [cnt]; omega
    | succ i =>
      have := cnt_lt (a := a) (b := b) (by simpa using hl) hs' ⟨i, h1, h2⟩
      simp only [cnt]
      by_cases c : x = true
      · have := h0 c
        have e : y = true := this
        rw [if_pos c, if_pos e]; omega
      · rw [if_neg c]; omega
open Classical in
noncomputable def bkL (E : Nat → Nat → Prop) (t n N : Nat) : List Bool := (List.range N).map fun v => decide (Bk E t n v)
open Classical in
theorem bt_bkL (E : Nat → Nat → Prop) (t n N v : Nat) : bt (bkL E t n N) v = true ↔ v < N ∧ Bk E t n v := by
  unfold bt bkL
  rw [List.getD_eq_getElem?_getD, List.getElem?_map]
  by_cases h : v < N
  · rw [List.getElem?_range h]; simp [h]
  · rw [List.getElem?_eq_none (by simp; omega)]; simp [h]
theorem bkL_len (E : Nat → Nat → Prop) (t n N : Nat) : (bkL E t n N).length = N := by simp [bkL]
/-- The least number of roads is less than that of the places below ground. -/
theorem bk_few {P : List Place} {R : List Road} {f : List Span} (hR : RoadsIn P.length R) {w : Int} (h0 : surf P 0 = true) {t : Nat} (ht : surf P t = false) (htl : t < P.length) {b : Nat} : ∀ n, Bk (Ere P R f w) t n b → (∀ m, m < n → ¬ Bk (Ere P R f w) t m b) → n + 1 < P.length := by
  have hin : ∀ n v, Bk (Ere P R f w) t n v → v < P.length := fun n => by
    induction n with
    | zero => rintro v rfl; exact htl
    | succ n ih =>
      rintro v (g | ⟨x, h1, _⟩)
      · exact ih v g
      · obtain ⟨k, d, h2, _, _, h5, _⟩ := h1
        have := ends_in hR h2 d
        omega
  -- at each distance there is a place
  have each : ∀ n b, Bk (Ere P R f w) t n b → (∀ m, m < n → ¬ Bk (Ere P R f w) t m b) → ∀ m, m ≤ n → ∃ v, Bk (Ere P R f w) t m v ∧ ∀ k, k < m → ¬ Bk (Ere P R f w) t k v := fun n => by
    induction n with
    | zero => intro b g _ m hm; exact ⟨b, by have : m = 0 := by omega
                                             subst this; exact g, fun k hk => by omega⟩
    | succ n ih =>
      intro b g hmin m hm
      by_cases c : m = n + 1
      · subst c; exact ⟨b, g, hmin⟩
      · rcases g with g | ⟨x, hE, g⟩
        · exact absurd g (hmin n (by omega))
        · exact ih x g (fun k hk hb => hmin (k + 1) (by omega) (.inr ⟨x, hE, hb⟩)) m (by omega)
  intro n g hmin
  have grow : ∀ m, m ≤ n → m + 1 ≤ cnt (bkL (Ere P R f w) t m P.length) := fun m => by
    induction m with
    | zero =>
      intro _
      have : cnt (List.replicate P.length false) < cnt (bkL (Ere P R f w) t 0 P.length) := cnt_lt (by simp [bkL_len]) (fun i h => by rw [bt_replicate] at h; cases h) ⟨t, (bt_bkL _ _ _ _ _).2 ⟨htl, rfl⟩, bt_replicate _ _⟩
      omega
    | succ m ih =>
      intro hm
      obtain ⟨v, h1, h2⟩ := each n b g hmin (m + 1) hm
      have : cnt (bkL (Ere P R f w) t m P.length) < cnt (bkL (Ere P R f w) t (m + 1) P.length) := cnt_lt (by simp [bkL_len]) (fun i h => by
        rw [bt_bkL] at *
        exact ⟨h.1, .inl h.2⟩) ⟨v, (bt_bkL _ _ _ _ _).2 ⟨hin _ _ h1, h1⟩, by
          cases e : bt (bkL (Ere P R f w) t m P.length) v with
          | false => rfl
          | true => exact absurd ((bt_bkL _ _ _ _ _).1 e).2 (h2 m (by omega))⟩
      have := ih (by omega)
      omega
  have h := grow n (Nat.le_refl _)
  have hl := bkL_len (Ere P R f w) t n P.length
  have hz : bt (bkL (Ere P R f w) t n P.length) 0 = false := by
    cases e : bt (bkL (Ere P R f w) t n P.length) 0 with
    | false => rfl
    | true =>
      have := ((bt_bkL _ _ _ _ _).1 e).2.below ht
      rw [h0] at this; cases this
  generalize bkL (Ere P R f w) t n P.length = L at *
  cases L with
  | nil => simp at hl; omega
  | cons x L =>
    have : x = false := hz
    subst this
    have := cnt_le L
    simp [cnt] at h
    simp at hl
    omega
/-- The search finds a way exactly if there is one. -/
theorem walk_iff {P : List Place} {R : List Road} {f : List Span} (hR : RoadsIn P.length R) (hP : P.length ≤ 7) (h0 : surf P 0 = true) {i : Nat} (hi : i < R.length) {t b : Nat} (ht : surf P t = false) (htl : t < P.length) (u : List Bool) (hu : u.length = R.length) (hui : ∀ k, bt u k = true ↔ k = i) : Walk P R f t 6 b u ↔ RchC (Ere P R f i) b t := by
  constructor
  · exact walk_rch hR ht (by omega) ((hui i).2 rfl)
  · intro h
    obtain ⟨n, hn⟩ := h.bk
    have : ∃ n, Bk (Ere P R f i) t n b ∧ ∀ m, m < n → ¬ Bk (Ere P R f i) t m b := by
      induction n with
      | zero => exact ⟨0, hn, fun m hm => by omega⟩
      | succ n ih =>
        by_cases c : Bk (Ere P R f i) t n b
        · exact ih c
        · exact ⟨n + 1, hn, fun m hm hb => c (hb.up (by omega))⟩
    obtain ⟨n, h1, h2⟩ := this
    have := bk_few hR h0 ht htl n h1 h2
    exact walk_le (by omega) (walk_of P R f hR i t ht n b u hu h1 h2 (fun k hk => .inl ((hui k).1 hk)))
end Go.Proofs.Ytipfipnhgpbceaa.Sx
/- A road is on a possible circle exactly if air can come back over other roads (plain theorems). -/

set_option linter.unusedVariables false
set_option linter.unusedSimpArgs false
set_option maxRecDepth 100000
namespace Go.Proofs.Ytipfipnhgpbceaa.Sx
open Go Go.RowKit
noncomputable def l18 : List (FuncId × Spec) := [(62, c62), (65, c65), (68, c168), (69, c69), (67, s67)]
def k18 : Code → Keep := keepOf [(5, ⟨[4, 6, 7, 24, 25, 26], [], []⟩)]
noncomputable def h18_0 (fl : Nat) (t4 : List Span) (t7 : List Int) (t24 : List Road) (t25 : Int) (t26 : Int) (m0_0 : List Place) (m0_1 : List Road) : Option (AV × List Ob) := (evalH (env2 l18) Try.f18 k18 0 fl (stkF Try.f18 [1, 1, 1, 1, 0, 1, 0]) ⟨[.one (.undef), .one (.undef), .one (.undef), .one (.undef), .one (.vec false .span t4), .one (.undef), .one (.ptr 0 0), .one (.vec false .int t7), .one (.undef), .one (.undef), .one (.undef), .one (.undef), .one (.undef), .one (.undef), .one (.undef), .one (.undef), .one (.undef), .one (.undef), .one (.undef), .one (.undef), .one (.undef), .one (.undef), .one (.undef), .one (.undef), .one (.vec false .road t24), .one (.int .i64 t25), .one (.int .i64 t26), .one (.undef), .one (.undef), .one (.undef), .one (.undef), .one (.undef), .one (.undef), .one (.undef), .one (.undef), .one (.undef), .one (.undef), .one (.undef), .one (.undef), .one (.undef), .one (.undef), .one (.undef), .one (.undef), .one (.undef), .one (.undef), .one (.undef), .one (.undef), .one (.undef), .one (.undef), .one (.undef), .one (.undef), .one (.undef), .one (.undef), .one (.undef), .one (.undef), .one (.undef), .one (.undef), .one (.undef), .one (.undef), .one (.undef), .one (.undef), .one (.undef), .one (.undef), .one (.undef), .one (.undef), .one (.undef), .one (.undef), .one (.undef), .one (.undef), .one (.undef), .one (.undef), .one (.undef), .one (.undef), .one (.undef), .one (.undef), .one (.undef), .one (.undef), .one (.undef), .one (.undef), .one (.undef), .one (.undef), .one (.undef), .one (.undef), .one (.undef), .one (.undef), .one (.undef), .one (.undef), .one (.undef), .one (.undef), .one (.undef), .one (.undef), .one (.undef), .one (.undef), .one (.undef), .one (.undef), .one (.undef), .one (.undef), .one (.undef), .one (.undef), .one (.undef), .one (.undef), .one (.undef)], [((0, 0), some (.cell (.vec false .place m0_0))), ((0, 1), some (.cell (.vec false .road m0_1)))], 1⟩).den
noncomputable def h18 (fl : Nat) (l : List Int) : Option (AV × List Ob) := (evalF (env2 l18) Try.f18 k18 fl [.one (.vec false .u8 l)] []).den
theorem h18_eq (fl : Nat) (l : List Int) : h18 (fl + 1) l =
    (o62 l).bind fun x2 =>
    (o65 false x2.P false x2.R false x2.S).bind fun x3 =>
      h18_0 fl x2.S x3 x2.R ((↑x2.R.length : Int)) 0 x2.P x2.R := by kernel_rfl
theorem h18_0_eq (fl : Nat) (t4 : List Span) (t7 : List Int) (t24 : List Road) (t25 : Int) (t26 : Int) (m0_0 : List Place) (m0_1 : List Road) : h18_0 (fl + 1) t4 t7 t24 t25 t26 m0_0 m0_1 =
    if (decide (t26 < t25)) = true then if (idx t24.length t26) = true then if (!(t24.getD t26.toNat (dflt K.road)).closed) = true then if (idx m0_0.length (t24.getD t26.toNat (dflt K.road)).frm) = true then if (!(m0_0.getD (t24.getD t26.toNat (dflt K.road)).frm.toNat (dflt K.place)).surface) = true then if (idx m0_0.length (t24.getD t26.toNat (dflt K.road)).to) = true then if (!(m0_0.getD (t24.getD t26.toNat (dflt K.road)).to.toNat (dflt K.place)).surface) = true then if (decide (0 ≤ (↑m0_1.length : Int)) && (decide ((↑m0_1.length : Int) ≤ 1048576) && (↑m0_1.length : Int) == (↑m0_1.length : Int))) = true then if (idx (List.replicate (↑m0_1.length : Int).toNat (dflt K.bool)).length t26) = true then if (idx t4.length t26) = true then if (decide ((t4.getD t26.toNat (dflt K.span)).hi > 0)) = true then (wk 8 false m0_0 false m0_1 false t4 (t24.getD t26.toNat (dflt K.road)).to (t24.getD t26.toNat (dflt K.road)).frm ((List.replicate (↑m0_1.length : Int).toNat (dflt K.bool)).set t26.toNat true) 6).bind fun x13 =>
                          if x13 = true then (o69 t7 t26).bind fun x15 =>
                              if (!true == x15) = true then some (.one (.bool false), [])
                                else h18_0 fl t4 t7 t24 t25 (IntKind.i64.wrap (t26 + 1)) m0_0 m0_1
                            else if (idx t4.length t26) = true then if (decide ((t4.getD t26.toNat (dflt K.span)).lo < 0)) = true then (wk 8 false m0_0 false m0_1 false t4 (t24.getD t26.toNat (dflt K.road)).frm (t24.getD t26.toNat (dflt K.road)).to ((List.replicate (↑m0_1.length : Int).toNat (dflt K.bool)).set t26.toNat true) 6).bind fun x17 =>
                                  (o69 t7 t26).bind fun x18 =>
                                    if (!x17 == x18) = true then some (.one (.bool false), [])
                                      else h18_0 fl t4 t7 t24 t25 (IntKind.i64.wrap (t26 + 1)) m0_0 m0_1
                                else (o69 t7 t26).bind fun x17 =>
                                  if (!false == x17) = true then some (.one (.bool false), [])
                                    else h18_0 fl t4 t7 t24 t25 (IntKind.i64.wrap (t26 + 1)) m0_0 m0_1
                              else none
                        else if (idx t4.length t26) = true then if (decide ((t4.getD t26.toNat (dflt K.span)).lo < 0)) = true then (wk 8 false m0_0 false m0_1 false t4 (t24.getD t26.toNat (dflt K.road)).frm (t24.getD t26.toNat (dflt K.road)).to ((List.replicate (↑m0_1.length : Int).toNat (dflt K.bool)).set t26.toNat true) 6).bind fun x15 =>
                              (o69 t7 t26).bind fun x16 =>
                                if (!x15 == x16) = true then some (.one (.bool false), [])
                                  else h18_0 fl t4 t7 t24 t25 (IntKind.i64.wrap (t26 + 1)) m0_0 m0_1
                            else (o69 t7 t26).bind fun x15 =>
                              if (!false == x15) = true then some (.one (.bool false), [])
                                else h18_0 fl t4 t7 t24 t25 (IntKind.i64.wrap (t26 + 1)) m0_0 m0_1
                          else none
                      else none
                    else none
                  else none
                else (o69 t7 t26).bind fun x9 =>
                  if (!false == x9) = true then some (.one (.bool false), [])
                    else h18_0 fl t4 t7 t24 t25 (IntKind.i64.wrap (t26 + 1)) m0_0 m0_1
              else none
            else (o69 t7 t26).bind fun x7 =>
              if (!false == x7) = true then some (.one (.bool false), [])
                else h18_0 fl t4 t7 t24 t25 (IntKind.i64.wrap (t26 + 1)) m0_0 m0_1
          else none
        else (o69 t7 t26).bind fun x5 =>
          if (!false == x5) = true then some (.one (.bool false), [])
            else h18_0 fl t4 t7 t24 t25 (IntKind.i64.wrap (t26 + 1)) m0_0 m0_1
      else none
    else some (.one (.bool true), []) := by kernel_rfl
open Classical in
theorem ans18 {A : List Int} (hA : A.length ≤ 1000) {i : Int} {on : Bool} (h : on = true ↔ i ∈ A) (X Y : Option (AV × List Ob)) : ((o69 A i).bind fun x => if (!on == x) = true then X else Y) = Y := by
  have e : on = decide (i ∈ A) := by
    cases on
    · exact (decide_eq_false (fun e => by simpa using h.2 e)).symm
    · exact (decide_eq_true (h.1 rfl)).symm
  rw [has_eq _ _ hA, Option.bind_some, e, if_neg]
  cases h1 : decide (i ∈ A) <;> simp
open Classical in
theorem step18 (P : List Place) (hP : P.length ≤ 7) (h0 : surf P 0 = true) (R : List Road) (hRl : R.length ≤ 9) (S : List Span) (hr : rightM P R S = true) : ∀ (d fl i : Nat), R.length - i = d → i ≤ R.length → d < fl → h18_0 fl S (circM P R S) R R.length i P R = some (.one (.bool true), [])
  | d, fl, i, hd, hi, hf => by
    obtain ⟨fl, rfl⟩ : ∃ q, fl = q + 1 := ⟨fl - 1, by omega⟩
    rw [h18_0_eq]
    by_cases hlt : i < R.length
    · obtain ⟨d, rfl⟩ : ∃ q, d = q + 1 := ⟨d - 1, by omega⟩
      have hR := (rightM_in hr).1
      have hSl := (rightM_in hr).2.1
      have hA : (circM P R S).length ≤ 1000 := by have := circM_len P R S; omega
      have next := step18 P hP h0 R hRl S hr d fl (i + 1) (by omega) (by omega) (by omega)
      have hb0 : dflt K.bool = false := rfl
      have hs0 : dflt K.span = (⟨0, 0⟩ : Span) := rfl
      have hp0 : dflt K.place = place0 := rfl
      have hr0 : dflt K.road = road0 := rfl
      have hb := hR i hlt
      have bf : 0 ≤ (R.getD i road0).frm ∧ (R.getD i road0).frm < P.length := ⟨hb.1, hb.2.1⟩
      have bo : 0 ≤ (R.getD i road0).to ∧ (R.getD i road0).to < P.length := hb.2.2
      have i2 : ∀ {z : Int}, 0 ≤ z ∧ z < P.length → idx P.length z = true := fun hz => idx_of hz.1 hz.2
      have iS : idx S.length (i : Int) = true := idx_nat (by omega)
      have hal : (decide (0 ≤ ((R.length : Nat) : Int)) && (decide (((R.length : Nat) : Int) ≤ 1048576) && ((R.length : Nat) : Int) == ((R.length : Nat) : Int))) = true := by
        simp; omega
      have hu : (single R.length i).length = R.length := by simp [single]
      have hui : ∀ k, bt (single R.length i) k = true ↔ k = i := bt_single hlt
      have il : idx (List.replicate R.length false).length (i : Int) = true := idx_nat (by simpa using hlt)
      rw [if_pos (lt_nat hlt), if_pos (idx_nat hlt), hb0, hs0, hp0, hr0, Int.toNat_natCast, wr_succ (by omega), Int.toNat_natCast]
      have hm : ((i : Int) ∈ circM P R S) ↔ ∃ d, onDir P R S i d := by
        rw [mem_circM, ← onDir_iff hR]
        constructor
        · rintro ⟨_, j, h1, h2, h3⟩
          have : j = i := by omega
          subst this; exact h2
        · exact fun h => ⟨hr, i, hlt, h, rfl⟩
      have hm2 : ((i : Int) ∈ circM P R S) ↔ (R.getD i road0).closed = false ∧ surf P (R.getD i road0).frm.toNat = false ∧ surf P (R.getD i road0).to.toNat = false ∧ (((S.getD i ⟨0, 0⟩).hi > 0 ∧ RchC (Ere P R S i) (R.getD i road0).to.toNat (R.getD i road0).frm.toNat) ∨ ((S.getD i ⟨0, 0⟩).lo < 0 ∧ RchC (Ere P R S i) (R.getD i road0).frm.toNat (R.getD i road0).to.toNat)) := by
        rw [hm]
        unfold onDir can endA endB
        simp only [Int.toNat_natCast]
        constructor
        · rintro ⟨d, h1, h2, h3, h4⟩
          rw [Bool.and_eq_true] at h1
          have hc : (R.getD i road0).closed = false := by simpa using h1.1
          cases d
          · simp only [Bool.false_eq_true, if_false, decide_eq_true_eq] at *
            exact ⟨hc, h2, h3, .inl ⟨h1.2, h4⟩⟩
          · simp only [if_true, decide_eq_true_eq] at *
            exact ⟨hc, h3, h2, .inr ⟨h1.2, h4⟩⟩
        · rintro ⟨h1, h2, h3, ⟨h4, h5⟩ | ⟨h4, h5⟩⟩
          · refine ⟨false, ?_, ?_, ?_, ?_⟩ <;> simp only [Bool.false_eq_true, if_false]
            · rw [h1, decide_eq_true h4]; rfl
            · exact h2
            · exact h3
            · exact h5
          · refine ⟨true, ?_, ?_, ?_, ?_⟩ <;> simp only [if_true]
            · rw [h1, decide_eq_true h4]; rfl
            · exact h3
            · exact h2
            · exact h5
      have hwk : ∀ (a b : Int), 0 ≤ a ∧ a < P.length → 0 ≤ b ∧ b < P.length → surf P b.toNat = false → wk 8 false P false R false S a b ((List.replicate R.length false).set i true) 6 = some (decide (RchC (Ere P R S i) a.toNat b.toNat)) := fun a b ha hb hs => by
        have e := wk_eq false false false P R hR (by omega) S hSl b 8 6 a (single R.length i) (by omega) (by omega) ha hu
        have iff := walk_iff (f := S) hR hP h0 hlt (t := b.toNat) (b := a.toNat) hs (by omega) (single R.length i) hu hui
        rw [Int.toNat_of_nonneg ha.1, Int.toNat_of_nonneg hb.1] at iff
        have hd : decide (Walk P R S b 6 a (single R.length i)) = decide (RchC (Ere P R S i) a.toNat b.toNat) := decide_eq_decide.2 iff
        rw [hd] at e
        exact e
      generalize R.getD i road0 = r at *
      generalize S.getD i ⟨0, 0⟩ = s at *
      by_cases c1 : r.closed = true
      · rw [if_neg (by rw [c1]; simp), ans18 hA (by rw [hm2, c1]; simp)]
        exact next
      have c1' : r.closed = false := by simpa using c1
      rw [if_pos (by rw [c1']; rfl), if_pos (i2 bf)]
      by_cases c2 : surf P r.frm.toNat = true
      · rw [if_neg (show ¬ (!(P.getD r.frm.toNat place0).surface) = true by show ¬ (!surf P r.frm.toNat) = true; rw [c2]; simp), ans18 hA (by rw [hm2, c2]; simp)]
        exact next
      have c2' : surf P r.frm.toNat = false := by simpa using c2
      rw [if_pos (show (!(P.getD r.frm.toNat place0).surface) = true by show (!surf P r.frm.toNat) = true; rw [c2']; rfl), if_pos (i2 bo)]
      by_cases c3 : surf P r.to.toNat = true
      · rw [if_neg (show ¬ (!(P.getD r.to.toNat place0).surface) = true by show ¬ (!surf P r.to.toNat) = true; rw [c3]; simp), ans18 hA (by rw [hm2, c3]; simp)]
        exact next
      have c3' : surf P r.to.toNat = false := by simpa using c3
      rw [if_pos (show (!(P.getD r.to.toNat place0).surface) = true by show (!surf P r.to.toNat) = true; rw [c3']; rfl), if_pos hal, if_pos il, if_pos iS]
      have hm3 : ((i : Int) ∈ circM P R S) ↔ (s.hi > 0 ∧ RchC (Ere P R S i) r.to.toNat r.frm.toNat) ∨ (s.lo < 0 ∧ RchC (Ere P R S i) r.frm.toNat r.to.toNat) := by
        rw [hm2, c1', c2', c3']; simp
      by_cases c4 : s.hi > 0
      · rw [if_pos (decide_eq_true c4), hwk r.to r.frm bo bf c2', Option.bind_some]
        by_cases c5 : RchC (Ere P R S i) r.to.toNat r.frm.toNat
        · rw [if_pos (decide_eq_true c5), ans18 hA (by rw [hm3]; simp [c4, c5])]
          exact next
        · rw [if_neg (fun e => c5 (of_decide_eq_true e)), if_pos iS]
          by_cases c6 : s.lo < 0
          · rw [if_pos (decide_eq_true c6), hwk r.frm r.to bf bo c3', Option.bind_some, ans18 hA (by rw [hm3]; simp [c5, c6])]
            exact next
          · rw [if_neg (fun e => c6 (of_decide_eq_true e)), ans18 hA (by rw [hm3]; simp [c5, c6])]
            exact next
      · rw [if_neg (fun e => c4 (of_decide_eq_true e)), if_pos iS]
        by_cases c6 : s.lo < 0
        · rw [if_pos (decide_eq_true c6), hwk r.frm r.to bf bo c3', Option.bind_some, ans18 hA (by rw [hm3]; simp [c4, c6])]
          exact next
        · rw [if_neg (fun e => c6 (of_decide_eq_true e)), ans18 hA (by rw [hm3]; simp [c4, c6])]
          exact next
    · rw [if_neg (nlt_nat hlt)]
theorem v18 (l : List Int) (h : l.all u8B = true) : h18 100 l = some (.one (.bool true), []) := by
  obtain ⟨x, hx, hb⟩ := airs_ok h
  have hn := hb.mine.n
  have hm : x.R.length ≤ 9 := hb.mine.m
  have hr : rightM x.P x.R x.S = true := rightM_iff.2 ⟨hb.mine.check, hb.slen⟩
  have e := step18 x.P hn.2 hb.mine.s0 x.R hm x.S hr x.R.length 99 0 (by omega) (by omega) (by omega)
  have e' : h18_0 99 x.S (circM x.P x.R x.S) x.R x.R.length 0 x.P x.R = _ := e
  rw [h18_eq, hx, Option.bind_some, circles_eq _ _ _ _ _ _ (rightM_in hr).2.2.2, Option.bind_some, e']
def s18 : Spec := ⟨false, fun av ob => match av, ob with
  | [.one (.vec false .u8 l)], [] => .need (l.all u8B) (.ret (.one (.bool true), []))
  | _, _ => .fail⟩
theorem p18 : SpecOK Try.prog 18 s18 := by
  refine specOK_of (env2_ok (l := l18) ⟨⟨pc62, f62⟩, ⟨⟨pc65, f65⟩, ⟨⟨pc168, f168⟩, ⟨⟨pc69, f69⟩, ⟨⟨p67, f67⟩, trivial⟩⟩⟩⟩⟩) mixed_ok Try.func18 k18 fun av ob r os hrn => ?_
  simp only [s18] at hrn
  split at hrn
  · rename_i l
    obtain ⟨hg, hrn⟩ := need_den hrn
    cases hrn
    try simp only [Bool.and_eq_true] at hg
    have q1 := hg
    have hv := v18 l q1
    unfold h18 at hv
    exact ⟨100, hv⟩
  · cases hrn
theorem law18 (av : List AV) (h : AVs [RBytes] av) : (s18.run av []).den = some (.one (.bool true), []) := by
  obtain ⟨_, _, rfl, ⟨l, rfl, q1⟩, k1⟩ := h.cons
  rw [k1.nil]
  refine den_need ?_
  try simp only [Bool.and_eq_true]
  exact q1
end Go.Proofs.Ytipfipnhgpbceaa.Sx
