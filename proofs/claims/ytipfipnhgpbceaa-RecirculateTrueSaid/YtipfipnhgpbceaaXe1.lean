/- Plain theorems and definitions for the claim, put together out of several texts. -/
import Derived.Test.YtipfipnhgpbceaaXe
/- Circles of air that flows are named (plain theorems). -/

set_option linter.unusedVariables false
set_option linter.unusedSimpArgs false
set_option maxRecDepth 100000
namespace Go.Proofs.Ytipfipnhgpbceaa.Sx
open Go Go.RowKit
noncomputable def l19 : List (FuncId × Spec) := [(62, c62), (65, c65), (69, c69), (67, s67)]
def k19 : Code → Keep := keepOf [(5, ⟨[7, 8, 9, 32, 33, 34], [], []⟩), (15, ⟨[7, 8, 9, 10, 12, 14, 15, 32, 33, 34], [], []⟩), (18, ⟨[7, 8, 9, 10, 12, 14, 15, 32, 33, 34, 88, 89, 90], [], []⟩)]
noncomputable def h19_0 (fl : Nat) (t7 : List Int) (t9 : List Int) (t32 : List Road) (t33 : Int) (t34 : Int) (m0_0 : List Place) (m0_1 : List Road) : Option (AV × List Ob) := (evalH (env2 l19) Try.f19 k19 0 fl (stkF Try.f19 [1, 1, 1, 1, 0, 1, 0]) ⟨[.one (.undef), .one (.undef), .one (.undef), .one (.undef), .one (.undef), .one (.undef), .one (.undef), .one (.vec false .int t7), .one (.ptr 0 0), .one (.vec false .int t9), .one (.undef), .one (.undef), .one (.undef), .one (.undef), .one (.undef), .one (.undef), .one (.undef), .one (.undef), .one (.undef), .one (.undef), .one (.undef), .one (.undef), .one (.undef), .one (.undef), .one (.undef), .one (.undef), .one (.undef), .one (.undef), .one (.undef), .one (.undef), .one (.undef), .one (.undef), .one (.vec false .road t32), .one (.int .i64 t33), .one (.int .i64 t34), .one (.undef), .one (.undef), .one (.undef), .one (.undef), .one (.undef), .one (.undef), .one (.undef), .one (.undef), .one (.undef), .one (.undef), .one (.undef), .one (.undef), .one (.undef), .one (.undef), .one (.undef), .one (.undef), .one (.undef), .one (.undef), .one (.undef), .one (.undef), .one (.undef), .one (.undef), .one (.undef), .one (.undef), .one (.undef), .one (.undef), .one (.undef), .one (.undef), .one (.undef), .one (.undef), .one (.undef), .one (.undef), .one (.undef), .one (.undef), .one (.undef), .one (.undef), .one (.undef), .one (.undef), .one (.undef), .one (.undef), .one (.undef), .one (.undef), .one (.undef), .one (.undef), .one (.undef), .one (.undef), .one (.undef), .one (.undef), .one (.undef), .one (.undef), .one (.undef), .one (.undef), .one (.undef), .one (.undef), .one (.undef), .one (.undef), .one (.undef), .one (.undef), .one (.undef), .one (.undef), .one (.undef), .one (.undef), .one (.undef), .one (.undef), .one (.undef), .one (.undef), .one (.undef), .one (.undef), .one (.undef), .one (.undef), .one (.undef), .one (.undef), .one (.undef), .one (.undef), .one (.undef), .one (.undef), .one (.undef), .one (.undef), .one (.undef), .one (.undef), .one (.undef), .one (.undef), .one (.undef), .one (.undef), .one (.undef), .one (.undef), .one (.undef), .one (.undef), .one (.undef), .one (.undef), .one (.undef), .one (.undef), .one (.undef), .one (.undef), .one (.undef), .one (.undef), .one (.undef), .one (.undef), .one (.undef), .one (.undef), .one (.undef), .one (.undef), .one (.undef), .one (.undef), .one (.undef), .one (.undef), .one (.undef), .one (.undef), .one (.undef), .one (.undef), .one (.undef), .one (.undef), .one (.undef), .one (.undef), .one (.undef), .one (.undef), .one (.undef), .one (.undef), .one (.undef), .one (.undef), .one (.undef)], [((0, 0), some (.cell (.vec false .place m0_0))), ((0, 1), some (.cell (.vec false .road m0_1)))], 1⟩).den
noncomputable def h19_1 (fl : Nat) (t7 : List Int) (t9 : List Int) (t10 : Int) (t12 : Int) (t15 : Int) (t32 : List Road) (t33 : Int) (t34 : Int) (m0_0 : List Place) (m0_1 : List Road) (m1 : List Bool) : Option (AV × List Ob) := (evalH (env2 l19) Try.f19 k19 0 fl (stkF Try.f19 [1, 1, 1, 1, 0, 1, 0, 0, 1, 1, 0, 0, 1, 1, 1, 1, 1, 1, 1, 0, 1, 0]) ⟨[.one (.undef), .one (.undef), .one (.undef), .one (.undef), .one (.undef), .one (.undef), .one (.undef), .one (.vec false .int t7), .one (.ptr 0 0), .one (.vec false .int t9), .one (.int .i64 t10), .one (.undef), .one (.int .i64 t12), .one (.undef), .one (.row 1), .one (.int .i64 t15), .one (.undef), .one (.undef), .one (.undef), .one (.undef), .one (.undef), .one (.undef), .one (.undef), .one (.undef), .one (.undef), .one (.undef), .one (.undef), .one (.undef), .one (.undef), .one (.undef), .one (.undef), .one (.undef), .one (.vec false .road t32), .one (.int .i64 t33), .one (.int .i64 t34), .one (.undef), .one (.undef), .one (.undef), .one (.undef), .one (.undef), .one (.undef), .one (.undef), .one (.undef), .one (.undef), .one (.undef), .one (.undef), .one (.undef), .one (.undef), .one (.undef), .one (.undef), .one (.undef), .one (.undef), .one (.undef), .one (.undef), .one (.undef), .one (.undef), .one (.undef), .one (.undef), .one (.undef), .one (.undef), .one (.undef), .one (.undef), .one (.undef), .one (.undef), .one (.undef), .one (.undef), .one (.undef), .one (.undef), .one (.undef), .one (.undef), .one (.undef), .one (.undef), .one (.undef), .one (.undef), .one (.undef), .one (.undef), .one (.undef), .one (.undef), .one (.undef), .one (.undef), .one (.undef), .one (.undef), .one (.undef), .one (.undef), .one (.undef), .one (.undef), .one (.undef), .one (.undef), .one (.undef), .one (.undef), .one (.undef), .one (.undef), .one (.undef), .one (.undef), .one (.undef), .one (.undef), .one (.undef), .one (.undef), .one (.undef), .one (.undef), .one (.undef), .one (.undef), .one (.undef), .one (.undef), .one (.undef), .one (.undef), .one (.undef), .one (.undef), .one (.undef), .one (.undef), .one (.undef), .one (.undef), .one (.undef), .one (.undef), .one (.undef), .one (.undef), .one (.undef), .one (.undef), .one (.undef), .one (.undef), .one (.undef), .one (.undef), .one (.undef), .one (.undef), .one (.undef), .one (.undef), .one (.undef), .one (.undef), .one (.undef), .one (.undef), .one (.undef), .one (.undef), .one (.undef), .one (.undef), .one (.undef), .one (.undef), .one (.undef), .one (.undef), .one (.undef), .one (.undef), .one (.undef), .one (.undef), .one (.undef), .one (.undef), .one (.undef), .one (.undef), .one (.undef), .one (.undef), .one (.undef), .one (.undef), .one (.undef), .one (.undef), .one (.undef), .one (.undef), .one (.undef), .one (.undef)], [((0, 0), some (.cell (.vec false .place m0_0))), ((0, 1), some (.cell (.vec false .road m0_1))), ((1, 0), some (.rows .bool m1))], 2⟩).den
noncomputable def h19_2 (fl : Nat) (t7 : List Int) (t9 : List Int) (t10 : Int) (t12 : Int) (t15 : Int) (t32 : List Road) (t33 : Int) (t34 : Int) (t88 : List Road) (t89 : Int) (t90 : Int) (m0_0 : List Place) (m0_1 : List Road) (m1 : List Bool) : Option (AV × List Ob) := (evalH (env2 l19) Try.f19 k19 0 fl (stkF Try.f19 [1, 1, 1, 1, 0, 1, 0, 0, 1, 1, 0, 0, 1, 1, 1, 1, 1, 1, 1, 0, 1, 0, 0, 1, 0, 0, 1, 0]) ⟨[.one (.undef), .one (.undef), .one (.undef), .one (.undef), .one (.undef), .one (.undef), .one (.undef), .one (.vec false .int t7), .one (.ptr 0 0), .one (.vec false .int t9), .one (.int .i64 t10), .one (.undef), .one (.int .i64 t12), .one (.undef), .one (.row 1), .one (.int .i64 t15), .one (.undef), .one (.undef), .one (.undef), .one (.undef), .one (.undef), .one (.undef), .one (.undef), .one (.undef), .one (.undef), .one (.undef), .one (.undef), .one (.undef), .one (.undef), .one (.undef), .one (.undef), .one (.undef), .one (.vec false .road t32), .one (.int .i64 t33), .one (.int .i64 t34), .one (.undef), .one (.undef), .one (.undef), .one (.undef), .one (.undef), .one (.undef), .one (.undef), .one (.undef), .one (.undef), .one (.undef), .one (.undef), .one (.undef), .one (.undef), .one (.undef), .one (.undef), .one (.undef), .one (.undef), .one (.undef), .one (.undef), .one (.undef), .one (.undef), .one (.undef), .one (.undef), .one (.undef), .one (.undef), .one (.undef), .one (.undef), .one (.undef), .one (.undef), .one (.undef), .one (.undef), .one (.undef), .one (.undef), .one (.undef), .one (.undef), .one (.undef), .one (.undef), .one (.undef), .one (.undef), .one (.undef), .one (.undef), .one (.undef), .one (.undef), .one (.undef), .one (.undef), .one (.undef), .one (.undef), .one (.undef), .one (.undef), .one (.undef), .one (.undef), .one (.undef), .one (.undef), .one (.vec false .road t88), .one (.int .i64 t89), .one (.int .i64 t90), .one (.undef), .one (.undef), .one (.undef), .one (.undef), .one (.undef), .one (.undef), .one (.undef), .one (.undef), .one (.undef), .one (.undef), .one (.undef), .one (.undef), .one (.undef), .one (.undef), .one (.undef), .one (.undef), .one (.undef), .one (.undef), .one (.undef), .one (.undef), .one (.undef), .one (.undef), .one (.undef), .one (.undef), .one (.undef), .one (.undef), .one (.undef), .one (.undef), .one (.undef), .one (.undef), .one (.undef), .one (.undef), .one (.undef), .one (.undef), .one (.undef), .one (.undef), .one (.undef), .one (.undef), .one (.undef), .one (.undef), .one (.undef), .one (.undef), .one (.undef), .one (.undef), .one (.undef), .one (.undef), .one (.undef), .one (.undef), .one (.undef), .one (.undef), .one (.undef), .one (.undef), .one (.undef), .one (.undef), .one (.undef), .one (.undef), .one (.undef), .one (.undef), .one (.undef), .one (.undef), .one (.undef), .one (.undef), .one (.undef), .one (.undef), .one (.undef)], [((0, 0), some (.cell (.vec false .place m0_0))), ((0, 1), some (.cell (.vec false .road m0_1))), ((1, 0), some (.rows .bool m1))], 2⟩).den
noncomputable def h19 (fl : Nat) (l : List Int) (place : Int) : Option (AV × List Ob) := (evalF (env2 l19) Try.f19 k19 fl [.one (.vec false .u8 l), .one (.int .i64 place)] []).den
theorem h19_eq (fl : Nat) (l : List Int) (place : Int) : h19 (fl + 1) l place =
    (o62 l).bind fun x2 =>
    (o65 false x2.P false x2.R false x2.S).bind fun x3 =>
      h19_0 fl x2.W x3 x2.R ((↑x2.R.length : Int)) 0 x2.P x2.R := by kernel_rfl
theorem h19_0_eq (fl : Nat) (t7 : List Int) (t9 : List Int) (t32 : List Road) (t33 : Int) (t34 : Int) (m0_0 : List Place) (m0_1 : List Road) : h19_0 (fl + 1) t7 t9 t32 t33 t34 m0_0 m0_1 =
    if (decide (t34 < t33)) = true then if (idx t32.length t34) = true then if ((t32.getD t34.toNat (dflt K.road)).closed) = true then h19_0 fl t7 t9 t32 t33 (IntKind.i64.wrap (t34 + 1)) m0_0 m0_1
        else if (idx t7.length t34) = true then if (t7.getD t34.toNat (dflt K.int) == 0) = true then h19_0 fl t7 t9 t32 t33 (IntKind.i64.wrap (t34 + 1)) m0_0 m0_1
            else if (idx t7.length t34) = true then if (decide (t7.getD t34.toNat (dflt K.int) < 0)) = true then if (idx m0_0.length (t32.getD t34.toNat (dflt K.road)).to) = true then if ((m0_0.getD (t32.getD t34.toNat (dflt K.road)).to.toNat (dflt K.place)).surface) = true then h19_0 fl t7 t9 t32 t33 (IntKind.i64.wrap (t34 + 1)) m0_0 m0_1
                    else if (idx m0_0.length (t32.getD t34.toNat (dflt K.road)).frm) = true then if ((m0_0.getD (t32.getD t34.toNat (dflt K.road)).frm.toNat (dflt K.place)).surface) = true then h19_0 fl t7 t9 t32 t33 (IntKind.i64.wrap (t34 + 1)) m0_0 m0_1
                        else if (decide (0 ≤ (↑m0_0.length : Int)) && (decide ((↑m0_0.length : Int) ≤ 1048576) && (↑m0_0.length : Int) == (↑m0_0.length : Int))) = true then if (idx (List.replicate (↑m0_0.length : Int).toNat (dflt K.bool)).length (t32.getD t34.toNat (dflt K.road)).frm) = true then h19_1 fl t7 t9 t34 ((t32.getD t34.toNat (dflt K.road)).to) 0 t32 t33 t34 m0_0 m0_1 ((List.replicate (↑m0_0.length : Int).toNat (dflt K.bool)).set (t32.getD t34.toNat (dflt K.road)).frm.toNat true)
                            else none
                          else none
                      else none
                  else none
                else if (idx m0_0.length (t32.getD t34.toNat (dflt K.road)).frm) = true then if ((m0_0.getD (t32.getD t34.toNat (dflt K.road)).frm.toNat (dflt K.place)).surface) = true then h19_0 fl t7 t9 t32 t33 (IntKind.i64.wrap (t34 + 1)) m0_0 m0_1
                    else if (idx m0_0.length (t32.getD t34.toNat (dflt K.road)).to) = true then if ((m0_0.getD (t32.getD t34.toNat (dflt K.road)).to.toNat (dflt K.place)).surface) = true then h19_0 fl t7 t9 t32 t33 (IntKind.i64.wrap (t34 + 1)) m0_0 m0_1
                        else if (decide (0 ≤ (↑m0_0.length : Int)) && (decide ((↑m0_0.length : Int) ≤ 1048576) && (↑m0_0.length : Int) == (↑m0_0.length : Int))) = true then if (idx (List.replicate (↑m0_0.length : Int).toNat (dflt K.bool)).length (t32.getD t34.toNat (dflt K.road)).to) = true then h19_1 fl t7 t9 t34 ((t32.getD t34.toNat (dflt K.road)).frm) 0 t32 t33 t34 m0_0 m0_1 ((List.replicate (↑m0_0.length : Int).toNat (dflt K.bool)).set (t32.getD t34.toNat (dflt K.road)).to.toNat true)
                            else none
                          else none
                      else none
                  else none
              else none
          else none
      else none
    else some (.one (.bool true), []) := by kernel_rfl
theorem h19_1_eq (fl : Nat) (t7 : List Int) (t9 : List Int) (t10 : Int) (t12 : Int) (t15 : Int) (t32 : List Road) (t33 : Int) (t34 : Int) (m0_0 : List Place) (m0_1 : List Road) (m1 : List Bool) : h19_1 (fl + 1) t7 t9 t10 t12 t15 t32 t33 t34 m0_0 m0_1 m1 =
    if (decide (t15 < (↑m0_0.length : Int))) = true then h19_2 fl t7 t9 t10 t12 t15 t32 t33 t34 m0_1 ((↑m0_1.length : Int)) 0 m0_0 m0_1 m1
    else if (idx m1.length t12) = true then if (m1.getD t12.toNat (dflt K.bool)) = true then (o69 t9 t10).bind fun x5 =>
          if (!x5) = true then some (.one (.bool false), [])
            else h19_0 fl t7 t9 t32 t33 (IntKind.i64.wrap (t34 + 1)) m0_0 m0_1
        else h19_0 fl t7 t9 t32 t33 (IntKind.i64.wrap (t34 + 1)) m0_0 m0_1
      else none := by kernel_rfl
theorem h19_2_eq (fl : Nat) (t7 : List Int) (t9 : List Int) (t10 : Int) (t12 : Int) (t15 : Int) (t32 : List Road) (t33 : Int) (t34 : Int) (t88 : List Road) (t89 : Int) (t90 : Int) (m0_0 : List Place) (m0_1 : List Road) (m1 : List Bool) : h19_2 (fl + 1) t7 t9 t10 t12 t15 t32 t33 t34 t88 t89 t90 m0_0 m0_1 m1 =
    if (decide (t90 < t89)) = true then if (idx t88.length t90) = true then if (idx t7.length t90) = true then if (decide (t7.getD t90.toNat (dflt K.int) < 0)) = true then if (!(t88.getD t90.toNat (dflt K.road)).closed) = true then if (idx t7.length t90) = true then if (t7.getD t90.toNat (dflt K.int) != 0) = true then if (idx m1.length (t88.getD t90.toNat (dflt K.road)).to) = true then if (m1.getD (t88.getD t90.toNat (dflt K.road)).to.toNat (dflt K.bool)) = true then if (idx m0_0.length (t88.getD t90.toNat (dflt K.road)).to) = true then if (!(m0_0.getD (t88.getD t90.toNat (dflt K.road)).to.toNat (dflt K.place)).surface) = true then if (idx m0_0.length (t88.getD t90.toNat (dflt K.road)).frm) = true then if (!(m0_0.getD (t88.getD t90.toNat (dflt K.road)).frm.toNat (dflt K.place)).surface) = true then if (idx m1.length (t88.getD t90.toNat (dflt K.road)).frm) = true then h19_2 fl t7 t9 t10 t12 t15 t32 t33 t34 t88 t89 (IntKind.i64.wrap (t90 + 1)) m0_0 m0_1 (m1.set (t88.getD t90.toNat (dflt K.road)).frm.toNat true)
                              else none
                            else h19_2 fl t7 t9 t10 t12 t15 t32 t33 t34 t88 t89 (IntKind.i64.wrap (t90 + 1)) m0_0 m0_1 m1
                          else none
                        else h19_2 fl t7 t9 t10 t12 t15 t32 t33 t34 t88 t89 (IntKind.i64.wrap (t90 + 1)) m0_0 m0_1 m1
                      else none
                    else h19_2 fl t7 t9 t10 t12 t15 t32 t33 t34 t88 t89 (IntKind.i64.wrap (t90 + 1)) m0_0 m0_1 m1
                  else none
                else h19_2 fl t7 t9 t10 t12 t15 t32 t33 t34 t88 t89 (IntKind.i64.wrap (t90 + 1)) m0_0 m0_1 m1
              else none
            else h19_2 fl t7 t9 t10 t12 t15 t32 t33 t34 t88 t89 (IntKind.i64.wrap (t90 + 1)) m0_0 m0_1 m1
          else if (!(t88.getD t90.toNat (dflt K.road)).closed) = true then if (idx t7.length t90) = true then if (t7.getD t90.toNat (dflt K.int) != 0) = true then if (idx m1.length (t88.getD t90.toNat (dflt K.road)).frm) = true then if (m1.getD (t88.getD t90.toNat (dflt K.road)).frm.toNat (dflt K.bool)) = true then if (idx m0_0.length (t88.getD t90.toNat (dflt K.road)).frm) = true then if (!(m0_0.getD (t88.getD t90.toNat (dflt K.road)).frm.toNat (dflt K.place)).surface) = true then if (idx m0_0.length (t88.getD t90.toNat (dflt K.road)).to) = true then if (!(m0_0.getD (t88.getD t90.toNat (dflt K.road)).to.toNat (dflt K.place)).surface) = true then if (idx m1.length (t88.getD t90.toNat (dflt K.road)).to) = true then h19_2 fl t7 t9 t10 t12 t15 t32 t33 t34 t88 t89 (IntKind.i64.wrap (t90 + 1)) m0_0 m0_1 (m1.set (t88.getD t90.toNat (dflt K.road)).to.toNat true)
                              else none
                            else h19_2 fl t7 t9 t10 t12 t15 t32 t33 t34 t88 t89 (IntKind.i64.wrap (t90 + 1)) m0_0 m0_1 m1
                          else none
                        else h19_2 fl t7 t9 t10 t12 t15 t32 t33 t34 t88 t89 (IntKind.i64.wrap (t90 + 1)) m0_0 m0_1 m1
                      else none
                    else h19_2 fl t7 t9 t10 t12 t15 t32 t33 t34 t88 t89 (IntKind.i64.wrap (t90 + 1)) m0_0 m0_1 m1
                  else none
                else h19_2 fl t7 t9 t10 t12 t15 t32 t33 t34 t88 t89 (IntKind.i64.wrap (t90 + 1)) m0_0 m0_1 m1
              else none
            else h19_2 fl t7 t9 t10 t12 t15 t32 t33 t34 t88 t89 (IntKind.i64.wrap (t90 + 1)) m0_0 m0_1 m1
        else none
      else none
    else h19_1 fl t7 t9 t10 t12 (IntKind.i64.wrap (t15 + 1)) t32 t33 t34 m0_0 m0_1 m1 := by kernel_rfl
def GoodS (n : Nat) (T : Nat → Prop) (m : List Bool) : Prop := m.length = n ∧ ∀ j, bt m j = true → T j
theorem loop19_2 (W A : List Int) (P : List Place) (R : List Road) (S : List Span) (hR : RoadsIn P.length R) (hRl : R.length ≤ 9) (hW : W.length = R.length) (hn : ∀ k, k < R.length → About (S.getD k ⟨0, 0⟩) (W.getD k 0)) (T : Nat → Prop)
    (hT : ∀ (k : Nat) (d : Bool), k < R.length → d = decide (W.getD k 0 < 0) → can R S k d = true → surf P (endA R k d).toNat = false → surf P (endB R k d).toNat = false → T (endA R k d).toNat → T (endB R k d).toNat) (i a x y : Int) (n : Nat) (hnn : n ≤ 100) :
    ∀ (d fl k : Nat) (m : List Bool), R.length - k = d → k ≤ R.length → GoodS P.length T m → ∃ m', GoodS P.length T m' ∧ h19_2 (fl + d + 1) W A i a n R x y R R.length k P R m = h19_1 fl W A i a (n + 1 : Nat) R x y P R m'
  | d, fl, k, m, hd, hk, hG => by
    rw [h19_2_eq]
    by_cases hlt : k < R.length
    · have hb0 : dflt K.bool = false := rfl
      have hi0 : dflt K.int = (0 : Int) := rfl
      have hp0 : dflt K.place = place0 := rfl
      have hr0 : dflt K.road = road0 := rfl
      have hb := hR k hlt
      have hb : (0 ≤ (R.getD k road0).frm ∧ (R.getD k road0).frm < P.length) ∧ (0 ≤ (R.getD k road0).to ∧ (R.getD k road0).to < P.length) := ⟨⟨hb.1, hb.2.1⟩, hb.2.2⟩
      have iw : idx W.length (k : Int) = true := idx_nat (by omega)
      rw [if_pos (lt_nat hlt), if_pos (idx_nat hlt), if_pos iw, hb0, hi0, hp0, hr0, Int.toNat_natCast, wr_succ (by omega)]
      generalize hr : R.getD k road0 = r at *
      generalize hw : W.getD k 0 = w at *
      have i1 : ∀ (m : List Bool), m.length = P.length → ∀ {z : Int}, 0 ≤ z ∧ z < P.length → idx m.length z = true := fun m hm z hz => idx_of hz.1 (by rw [hm]; exact hz.2)
      have i2 : ∀ {z : Int}, 0 ≤ z ∧ z < P.length → idx P.length z = true := fun hz => idx_of hz.1 hz.2
      obtain ⟨d, rfl⟩ : ∃ q, d = q + 1 := ⟨d - 1, by omega⟩
      have next := fun (m : List Bool) (hG : GoodS P.length T m) => loop19_2 W A P R S hR hRl hW hn T hT i a x y n hnn d fl (k + 1) m (by omega) (by omega) hG
      have skip := next m hG
      have hn : ∀ k, k < R.length → About (S.getD k ⟨0, 0⟩) (W.getD k 0) := hn
      by_cases c0 : w < 0
      · by_cases c1 : r.closed = true
        · rw [if_pos (show decide (w < 0) = true from decide_eq_true c0)]
          rw [if_neg (show ¬ (!r.closed) = true by rw [c1]; simp)]
          exact skip
        · have c1' : r.closed = false := by simpa using c1
          rw [if_pos (show decide (w < 0) = true from decide_eq_true c0)]
          rw [if_pos (show (!r.closed) = true by rw [c1']; rfl), if_pos iw]
          by_cases c2 : w = 0
          · rw [if_neg (show ¬ (w != 0) = true by rw [c2]; simp)]
            exact skip
          · rw [if_pos (show (w != 0) = true by simpa using c2), if_pos (i1 m hG.1 hb.2)]
            by_cases c3 : bt m r.to.toNat = true
            · rw [if_pos (show m.getD r.to.toNat false = true from c3), if_pos (i2 hb.2)]
              by_cases c4 : surf P r.to.toNat = true
              · rw [if_neg (show ¬ (!(P.getD r.to.toNat place0).surface) = true by show ¬ (!surf P r.to.toNat) = true; rw [c4]; simp)]
                exact skip
              · have c4' : surf P r.to.toNat = false := by simpa using c4
                rw [if_pos (show (!(P.getD r.to.toNat place0).surface) = true by show (!surf P r.to.toNat) = true; rw [c4']; rfl), if_pos (i2 hb.1)]
                by_cases c5 : surf P r.frm.toNat = true
                · rw [if_neg (show ¬ (!(P.getD r.frm.toNat place0).surface) = true by show ¬ (!surf P r.frm.toNat) = true; rw [c5]; simp)]
                  exact skip
                · have c5' : surf P r.frm.toNat = false := by simpa using c5
                  rw [if_pos (show (!(P.getD r.frm.toNat place0).surface) = true by show (!surf P r.frm.toNat) = true; rw [c5']; rfl), if_pos (i1 m hG.1 hb.1)]
                  refine next _ ⟨by rw [List.length_set, hG.1], fun j hj => ?_⟩
                  rw [bt_set m (by rw [hG.1]; omega)] at hj
                  split at hj
                  · rename_i e
                    rw [e]
                    have hc : can R S k true = true := by
                      unfold can
                      rw [Int.toNat_natCast, hr, c1']
                      have := hn k hlt
                      unfold About at this
                      rw [hw] at this
                      simp only [Bool.not_false, Bool.true_and, if_true, Bool.false_eq_true, if_false, decide_eq_true_eq]
                      omega
                    have := hT k true hlt (by rw [hw]; exact (decide_eq_true c0).symm) hc
                    simp only [endA, endB, Int.toNat_natCast, hr, Bool.false_eq_true, if_false, if_true] at this
                    exact this c4' c5' (hG.2 _ c3)
                  · exact hG.2 j hj
            · rw [if_neg (show ¬ m.getD r.to.toNat false = true from c3)]
              exact skip
      · by_cases c1 : r.closed = true
        · rw [if_neg (show ¬ decide (w < 0) = true from fun e => c0 (of_decide_eq_true e))]
          rw [if_neg (show ¬ (!r.closed) = true by rw [c1]; simp)]
          exact skip
        · have c1' : r.closed = false := by simpa using c1
          rw [if_neg (show ¬ decide (w < 0) = true from fun e => c0 (of_decide_eq_true e))]
          rw [if_pos (show (!r.closed) = true by rw [c1']; rfl), if_pos iw]
          by_cases c2 : w = 0
          · rw [if_neg (show ¬ (w != 0) = true by rw [c2]; simp)]
            exact skip
          · rw [if_pos (show (w != 0) = true by simpa using c2), if_pos (i1 m hG.1 hb.1)]
            by_cases c3 : bt m r.frm.toNat = true
            · rw [if_pos (show m.getD r.frm.toNat false = true from c3), if_pos (i2 hb.1)]
              by_cases c4 : surf P r.frm.toNat = true
              · rw [if_neg (show ¬ (!(P.getD r.frm.toNat place0).surface) = true by show ¬ (!surf P r.frm.toNat) = true; rw [c4]; simp)]
                exact skip
              · have c4' : surf P r.frm.toNat = false := by simpa using c4
                rw [if_pos (show (!(P.getD r.frm.toNat place0).surface) = true by show (!surf P r.frm.toNat) = true; rw [c4']; rfl), if_pos (i2 hb.2)]
                by_cases c5 : surf P r.to.toNat = true
                · rw [if_neg (show ¬ (!(P.getD r.to.toNat place0).surface) = true by show ¬ (!surf P r.to.toNat) = true; rw [c5]; simp)]
                  exact skip
                · have c5' : surf P r.to.toNat = false := by simpa using c5
                  rw [if_pos (show (!(P.getD r.to.toNat place0).surface) = true by show (!surf P r.to.toNat) = true; rw [c5']; rfl), if_pos (i1 m hG.1 hb.2)]
                  refine next _ ⟨by rw [List.length_set, hG.1], fun j hj => ?_⟩
                  rw [bt_set m (by rw [hG.1]; omega)] at hj
                  split at hj
                  · rename_i e
                    rw [e]
                    have hc : can R S k false = true := by
                      unfold can
                      rw [Int.toNat_natCast, hr, c1']
                      have := hn k hlt
                      unfold About at this
                      rw [hw] at this
                      simp only [Bool.not_false, Bool.true_and, if_true, Bool.false_eq_true, if_false, decide_eq_true_eq]
                      omega
                    have := hT k false hlt (by rw [hw]; exact (decide_eq_false c0).symm) hc
                    simp only [endA, endB, Int.toNat_natCast, hr, Bool.false_eq_true, if_false, if_true] at this
                    exact this c4' c5' (hG.2 _ c3)
                  · exact hG.2 j hj
            · rw [if_neg (show ¬ m.getD r.frm.toNat false = true from c3)]
              exact skip
    · rw [if_neg (nlt_nat hlt), wr_succ (by omega)]
      have : d = 0 := by omega
      subst this
      exact ⟨m, hG, rfl⟩
theorem loop19_1 (W A : List Int) (hA : A.length ≤ 1000) (P : List Place) (hP : P.length ≤ 7) (R : List Road) (S : List Span) (hR : RoadsIn P.length R) (hRl : R.length ≤ 9) (hW : W.length = R.length) (hn : ∀ k, k < R.length → About (S.getD k ⟨0, 0⟩) (W.getD k 0)) (T : Nat → Prop)
    (hT : ∀ (k : Nat) (d : Bool), k < R.length → d = decide (W.getD k 0 < 0) → can R S k d = true → surf P (endA R k d).toNat = false → surf P (endB R k d).toNat = false → T (endA R k d).toNat → T (endB R k d).toNat) (i : Nat) (hi : i < R.length) (a : Int) (ha : 0 ≤ a ∧ a < P.length) (hTa : T a.toNat → (i : Int) ∈ A) :
    ∀ (e fl n : Nat) (m : List Bool), P.length - n = e → n ≤ P.length → (e + 1) * 12 < fl → GoodS P.length T m → ∃ fl', fl ≤ fl' + (e + 1) * 12 ∧ h19_1 fl W A i a n R R.length i P R m = h19_0 fl' W A R R.length (i + 1 : Nat) P R
  | e, fl, n, m, he, hk, hf, hG => by
    obtain ⟨fl, rfl⟩ : ∃ q, fl = q + 1 := ⟨fl - 1, by omega⟩
    rw [h19_1_eq]
    by_cases hlt : n < P.length
    · obtain ⟨e, rfl⟩ : ∃ q, e = q + 1 := ⟨e - 1, by omega⟩
      rw [if_pos (lt_nat hlt)]
      obtain ⟨m', g1, g2⟩ := loop19_2 W A P R S hR hRl hW hn T hT i a R.length i n (by omega) R.length (fl - R.length - 1) 0 m (by omega) (by omega) hG
      rw [show fl - R.length - 1 + R.length + 1 = fl by omega] at g2
      have g2' : h19_2 fl W A i a n R R.length i R R.length 0 P R m = _ := g2
      rw [g2']
      obtain ⟨fl', g3, g4⟩ := loop19_1 W A hA P hP R S hR hRl hW hn T hT i hi a ha hTa e (fl - R.length - 1) (n + 1) m' (by omega) (by omega) (by omega) g1
      exact ⟨fl', by omega, g4⟩
    · have hb0 : dflt K.bool = false := rfl
      rw [if_neg (nlt_nat hlt), if_pos (idx_of ha.1 (by rw [hG.1]; exact ha.2)), hb0, wr_succ (by omega)]
      by_cases c : bt m a.toNat = true
      · rw [if_pos (show m.getD a.toNat false = true from c), has_eq _ _ hA, Option.bind_some, if_neg (by simpa using hTa (hG.2 _ c))]
        exact ⟨fl, by omega, rfl⟩
      · rw [if_neg (show ¬ m.getD a.toNat false = true from c)]
        exact ⟨fl, by omega, rfl⟩
/-- What air of a road can come to without it, or all, if it can come back. -/
def BackT (P : List Place) (R : List Road) (S : List Span) (i : Nat) (d : Bool) (j : Nat) : Prop := RchC (Ere P R S i) (endB R i d).toNat j ∨ RchC (Ere P R S i) (endB R i d).toNat (endA R i d).toNat
theorem backT_step {P : List Place} {R : List Road} {S : List Span} {i : Nat} {d : Bool} (hR : RoadsIn P.length R) (hi : i < R.length) (k : Nat) (e : Bool) (hk : k < R.length) (hc : can R S k e = true) (h1 : surf P (endA R k e).toNat = false) (h2 : surf P (endB R k e).toNat = false) (hke : k = i → e = d) (h : BackT P R S i d (endA R k e).toNat) : BackT P R S i d (endB R k e).toNat := by
  have hx := ends_in hR hk e
  rcases h with h | h
  · by_cases c : k = i
    · have := hke c
      subst c
      subst this
      exact .inr h
    · exact .inl fun T t1 t2 => t2 _ _ ⟨k, e, hk, by omega, hc, by omega, by omega, h1, h2⟩ (h T t1 t2)
  · exact .inr h
theorem step19 (W : List Int) (P : List Place) (hP : P.length ≤ 7) (R : List Road) (S : List Span) (hR : RoadsIn P.length R) (hRl : R.length ≤ 9) (hW : W.length = R.length) (hn : ∀ k, k < R.length → About (S.getD k ⟨0, 0⟩) (W.getD k 0)) (hr : rightM P R S = true) : ∀ (d fl i : Nat), R.length - i = d → i ≤ R.length → d * 110 < fl → h19_0 fl W (circM P R S) R R.length i P R = some (.one (.bool true), [])
  | d, fl, i, hd, hi, hf => by
    obtain ⟨fl, rfl⟩ : ∃ q, fl = q + 1 := ⟨fl - 1, by omega⟩
    rw [h19_0_eq]
    by_cases hlt : i < R.length
    · obtain ⟨d, rfl⟩ : ∃ q, d = q + 1 := ⟨d - 1, by omega⟩
      have next := fun (fl : Nat) (h : d * 110 < fl) => step19 W P hP R S hR hRl hW hn hr d fl (i + 1) (by omega) (by omega) h
      have skip := next fl (by omega)
      have hb0 : dflt K.bool = false := rfl
      have hi0 : dflt K.int = (0 : Int) := rfl
      have hp0 : dflt K.place = place0 := rfl
      have hr0 : dflt K.road = road0 := rfl
      have hb := hR i hlt
      have iw : idx W.length (i : Int) = true := idx_nat (by omega)
      have hlen : (List.replicate P.length false).length = P.length := by simp
      rw [if_pos (lt_nat hlt), if_pos (idx_nat hlt), hb0, hi0, hp0, hr0, Int.toNat_natCast, wr_succ (by omega), Int.toNat_natCast]
      by_cases c1 : (R.getD i road0).closed = true
      · rw [if_pos c1]; exact skip
      have c1' : (R.getD i road0).closed = false := by simpa using c1
      rw [if_neg c1, if_pos iw]
      by_cases c2 : W.getD i 0 = 0
      · rw [if_pos (by simpa using c2)]; exact skip
      rw [if_neg (by simpa using c2), if_pos iw]
      have hal : (decide (0 ≤ ((P.length : Nat) : Int)) && (decide (((P.length : Nat) : Int) ≤ 1048576) && ((P.length : Nat) : Int) == ((P.length : Nat) : Int))) = true := by
        simp; omega
      have ab := hn i hlt
      unfold About at ab
      have fin : ∀ (d0 : Bool), d0 = decide (W.getD i 0 < 0) → surf P (endA R i d0).toNat = false → surf P (endB R i d0).toNat = false →
          h19_1 fl W (circM P R S) i (endA R i d0) 0 R R.length i P R ((List.replicate P.length false).set (endB R i d0).toNat true) = some (.one (.bool true), []) := fun d0 hd0 s1 s2 => by
        have hx := ends_in hR hlt d0
        have hc : can R S i d0 = true := by
          unfold can
          rw [Int.toNat_natCast, c1', hd0]
          by_cases c : W.getD i 0 < 0
          · rw [decide_eq_true c]
            simp only [Bool.not_false, Bool.true_and, if_true, Bool.false_eq_true, if_false, decide_eq_true_eq]
            omega
          · rw [decide_eq_false c]
            simp only [Bool.not_false, Bool.true_and, if_true, Bool.false_eq_true, if_false, decide_eq_true_eq]
            omega
        obtain ⟨fl', g1, g2⟩ := loop19_1 W (circM P R S) (by have := circM_len P R S; omega) P hP R S hR hRl hW hn (BackT P R S i d0) (fun k e hk he hcan h1 h2 h => backT_step hR hlt k e hk hcan h1 h2 (fun ki => by subst ki; rw [he, hd0]) h) i hlt (endA R i d0) ⟨hx.1, hx.2.1⟩
          (fun h => mem_circM.2 ⟨hr, i, hlt, (onDir_iff hR i).2 ⟨d0, hc, s1, s2, by rcases h with h | h <;> exact h⟩, rfl⟩) P.length fl 0 ((List.replicate P.length false).set (endB R i d0).toNat true) (by omega) (by omega) (by omega)
          ⟨by simp, fun j hj => by
            rw [(bt_single (n := P.length) (by omega) j).1 hj]
            exact .inl fun T t1 _ => t1⟩
        have g2' : h19_1 fl W (circM P R S) i (endA R i d0) 0 R R.length i P R ((List.replicate P.length false).set (endB R i d0).toNat true) = _ := g2
        rw [g2']
        exact next fl' (by omega)
      have i2 : ∀ {z : Int}, 0 ≤ z ∧ z < P.length → idx P.length z = true := fun hz => idx_of hz.1 hz.2
      have i3 : ∀ {z : Int}, 0 ≤ z ∧ z < P.length → idx (List.replicate P.length false).length z = true := fun hz => idx_of hz.1 (by rw [hlen]; exact hz.2)
      have bf : 0 ≤ (R.getD i road0).frm ∧ (R.getD i road0).frm < P.length := ⟨hb.1, hb.2.1⟩
      have bt' : 0 ≤ (R.getD i road0).to ∧ (R.getD i road0).to < P.length := hb.2.2
      by_cases c3 : W.getD i 0 < 0
      · have f := fin true (decide_eq_true c3).symm
        simp only [endA, endB, Int.toNat_natCast, if_true] at f
        rw [if_pos (decide_eq_true c3), if_pos (i2 bt')]
        by_cases c4 : surf P (R.getD i road0).to.toNat = true
        · rw [if_pos (show (P.getD (R.getD i road0).to.toNat place0).surface = true from c4)]; exact skip
        rw [if_neg (show ¬ (P.getD (R.getD i road0).to.toNat place0).surface = true from c4), if_pos (i2 bf)]
        by_cases c5 : surf P (R.getD i road0).frm.toNat = true
        · rw [if_pos (show (P.getD (R.getD i road0).frm.toNat place0).surface = true from c5)]; exact skip
        rw [if_neg (show ¬ (P.getD (R.getD i road0).frm.toNat place0).surface = true from c5), if_pos hal, if_pos (i3 bf)]
        exact f (by simpa using c4) (by simpa using c5)
      · have f := fin false (decide_eq_false c3).symm
        simp only [endA, endB, Int.toNat_natCast, Bool.false_eq_true, if_false] at f
        rw [if_neg (fun e => c3 (of_decide_eq_true e)), if_pos (i2 bf)]
        by_cases c4 : surf P (R.getD i road0).frm.toNat = true
        · rw [if_pos (show (P.getD (R.getD i road0).frm.toNat place0).surface = true from c4)]; exact skip
        rw [if_neg (show ¬ (P.getD (R.getD i road0).frm.toNat place0).surface = true from c4), if_pos (i2 bt')]
        by_cases c5 : surf P (R.getD i road0).to.toNat = true
        · rw [if_pos (show (P.getD (R.getD i road0).to.toNat place0).surface = true from c5)]; exact skip
        rw [if_neg (show ¬ (P.getD (R.getD i road0).to.toNat place0).surface = true from c5), if_pos hal, if_pos (i3 bt')]
        exact f (by simpa using c4) (by simpa using c5)
    · rw [if_neg (nlt_nat hlt)]
theorem v19 (l : List Int) (place : Int) (h : l.all u8B = true) : h19 3000 l place = some (.one (.bool true), []) := by
  obtain ⟨x, hx, hb⟩ := airs_ok h
  have hn := hb.mine.n
  have hm : x.R.length ≤ 9 := hb.mine.m
  have hr : rightM x.P x.R x.S = true := rightM_iff.2 ⟨hb.mine.check, hb.slen⟩
  have e := step19 x.W x.P hn.2 x.R x.S (rightM_in hr).1 hm hb.wlen hb.near hr x.R.length 2999 0 (by omega) (by omega) (by omega)
  have e' : h19_0 2999 x.W (circM x.P x.R x.S) x.R x.R.length 0 x.P x.R = _ := e
  rw [h19_eq, hx, Option.bind_some, circles_eq _ _ _ _ _ _ (rightM_in hr).2.2.2, Option.bind_some, e']
def s19 : Spec := ⟨false, fun av ob => match av, ob with
  | [.one (.vec false .u8 l), .one (.int .i64 place)], [] => .need (l.all u8B && (i64B place)) (.ret (.one (.bool true), []))
  | _, _ => .fail⟩
theorem p19 : SpecOK Try.prog 19 s19 := by
  refine specOK_of (env2_ok (l := l19) ⟨⟨pc62, f62⟩, ⟨⟨pc65, f65⟩, ⟨⟨pc69, f69⟩, ⟨⟨p67, f67⟩, trivial⟩⟩⟩⟩) mixed_ok Try.func19 k19 fun av ob r os hrn => ?_
  simp only [s19] at hrn
  split at hrn
  · rename_i l place
    obtain ⟨hg, hrn⟩ := need_den hrn
    cases hrn
    simp only [Bool.and_eq_true] at hg
    obtain ⟨q1, q2⟩ := hg
    have hv := v19 l place q1
    unfold h19 at hv
    exact ⟨3000, hv⟩
  · cases hrn
theorem law19 (av : List AV) (h : AVs [RBytes, RInt] av) : (s19.run av []).den = some (.one (.bool true), []) := by
  obtain ⟨_, _, rfl, ⟨l, rfl, q1⟩, k1⟩ := h.cons
  obtain ⟨_, _, rfl, ⟨place, rfl, q2⟩, k2⟩ := k1.cons
  rw [k2.nil]
  refine den_need ?_
  simp only [Bool.and_eq_true]
  exact ⟨q1, q2⟩
end Go.Proofs.Ytipfipnhgpbceaa.Sx
