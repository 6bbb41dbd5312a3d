/-
  No cell of these rows narrows 'for every input' (looked for: loops, veiled, ifaces, maps, wideKeys, modest, calm, conditions, laid).
  DERIVED. THE GIVEN ROWS OF THIS SEAT. 22 by the template 'for every input the law returns true; each argument reads behind the call as it read before'; 0 by the template 'total and deterministic' (their statements: YtipfipnhgpbceaaTotals.lean).
  GIVEN WITH THE SEED: the statements are not yours to turn. If you find one false, say at which input.
  Laid BY PROGRAM, IN A SANDBOX (cutbox-rows.mjs): the forced cells as the released guide's own fill.sh prints them over the translation acbc2ad04f0733e4… (all of the seat's roots in one cut). By AI agents, Wed Nov 11 2026. No macro, syntax, notation, axiom, sorry.
-/
import Derived.Test.YtipfipnhgpbceaaChecked
import GoSem.Claim
import GoSem.ClaimJoined
import GoSem.ClaimMapViews
import Derived.JoinedTies
import Derived.KernelRfl
namespace Go.Proofs.Ytipfipnhgpbceaa
/- THE CELL 'sum', in the pinned program and in every row, IS THE sha256 OF THE DUMP (.gsa) THAT YtipfipnhgpbceaaProg.lean LOADS. Nothing in Lean hashes anything: it is a label: what it is worth is what the hold of that sum in a sandbox is worth. -/
noncomputable def Try.pinned : Pinned := { name := "ytipfipnhgpbceaa", sum := "acbc2ad04f0733e4077cd8f4ca6a2382b923f254e63ccb089ada1b567ba768cb", checked := Try.checked }
namespace Rows
def none {H : Type} : Left H := { results := [], args := [] }

/-- 'minecontrollaw06.WindowAbove': WHATEVER THE INPUT: true; the input reads as it did. -/
def windowAboveSpec : ChangeSpec := { name := "windowAbove", fn := fun _ => fun
  | [d1, d2, d3] => { results := [.lit (.bool true)], args := [d1, d2, d3] }
  | _ => none }
def windowAboveRow : OpenClaim := { program := "ytipfipnhgpbceaa", sum := "acbc2ad04f0733e4077cd8f4ca6a2382b923f254e63ccb089ada1b567ba768cb", func := "minecontrol/minecontrollaw06.WindowAbove", spec := "windowAbove", apart := false }
def WindowAboveSaid : Prop := windowAboveRow.holds Try.pinned (OpenSpec.ofChange windowAboveSpec)

/-- ITS FALSE NEIGHBOUR: 'it returns false'. Refute it at one input. -/
def windowAboveWrong : ChangeSpec := { name := "windowAbove", fn := fun _ => fun
  | [d1, d2, d3] => { results := [.lit (.bool false)], args := [d1, d2, d3] }
  | _ => none }
def WindowAboveWrongFalsely : Prop := windowAboveRow.holds Try.pinned (OpenSpec.ofChange windowAboveWrong)

/-- 'minecontrollaw06.WindowUntil': WHATEVER THE INPUT: true; the input reads as it did. -/
def windowUntilSpec : ChangeSpec := { name := "windowUntil", fn := fun _ => fun
  | [d1, d2] => { results := [.lit (.bool true)], args := [d1, d2] }
  | _ => none }
def windowUntilRow : OpenClaim := { program := "ytipfipnhgpbceaa", sum := "acbc2ad04f0733e4077cd8f4ca6a2382b923f254e63ccb089ada1b567ba768cb", func := "minecontrol/minecontrollaw06.WindowUntil", spec := "windowUntil", apart := false }
def WindowUntilSaid : Prop := windowUntilRow.holds Try.pinned (OpenSpec.ofChange windowUntilSpec)

/-- ITS FALSE NEIGHBOUR: 'it returns false'. Refute it at one input. -/
def windowUntilWrong : ChangeSpec := { name := "windowUntil", fn := fun _ => fun
  | [d1, d2] => { results := [.lit (.bool false)], args := [d1, d2] }
  | _ => none }
def WindowUntilWrongFalsely : Prop := windowUntilRow.holds Try.pinned (OpenSpec.ofChange windowUntilWrong)

/-- 'minecontrollaw06.WindowWidens': WHATEVER THE INPUT: true; the input reads as it did. -/
def windowWidensSpec : ChangeSpec := { name := "windowWidens", fn := fun _ => fun
  | [d1, d2, d3, d4] => { results := [.lit (.bool true)], args := [d1, d2, d3, d4] }
  | _ => none }
def windowWidensRow : OpenClaim := { program := "ytipfipnhgpbceaa", sum := "acbc2ad04f0733e4077cd8f4ca6a2382b923f254e63ccb089ada1b567ba768cb", func := "minecontrol/minecontrollaw06.WindowWidens", spec := "windowWidens", apart := false }
def WindowWidensSaid : Prop := windowWidensRow.holds Try.pinned (OpenSpec.ofChange windowWidensSpec)

/-- ITS FALSE NEIGHBOUR: 'it returns false'. Refute it at one input. -/
def windowWidensWrong : ChangeSpec := { name := "windowWidens", fn := fun _ => fun
  | [d1, d2, d3, d4] => { results := [.lit (.bool false)], args := [d1, d2, d3, d4] }
  | _ => none }
def WindowWidensWrongFalsely : Prop := windowWidensRow.holds Try.pinned (OpenSpec.ofChange windowWidensWrong)

/-- 'minecontrollaw05.SensorChecks': WHATEVER THE INPUT: true; the input reads as it did. -/
def sensorChecksSpec : ChangeSpec := { name := "sensorChecks", fn := fun _ => fun
  | [d1, d2, d3] => { results := [.lit (.bool true)], args := [d1, d2, d3] }
  | _ => none }
def sensorChecksRow : OpenClaim := { program := "ytipfipnhgpbceaa", sum := "acbc2ad04f0733e4077cd8f4ca6a2382b923f254e63ccb089ada1b567ba768cb", func := "minecontrol/minecontrollaw05.SensorChecks", spec := "sensorChecks", apart := false }
def SensorChecksSaid : Prop := sensorChecksRow.holds Try.pinned (OpenSpec.ofChange sensorChecksSpec)

/-- ITS FALSE NEIGHBOUR: 'it returns false'. Refute it at one input. -/
def sensorChecksWrong : ChangeSpec := { name := "sensorChecks", fn := fun _ => fun
  | [d1, d2, d3] => { results := [.lit (.bool false)], args := [d1, d2, d3] }
  | _ => none }
def SensorChecksWrongFalsely : Prop := sensorChecksRow.holds Try.pinned (OpenSpec.ofChange sensorChecksWrong)

/-- 'minecontrollaw05.SensorValues': WHATEVER THE INPUT: true; the input reads as it did. -/
def sensorValuesSpec : ChangeSpec := { name := "sensorValues", fn := fun _ => fun
  | [d1, d2, d3, d4] => { results := [.lit (.bool true)], args := [d1, d2, d3, d4] }
  | _ => none }
def sensorValuesRow : OpenClaim := { program := "ytipfipnhgpbceaa", sum := "acbc2ad04f0733e4077cd8f4ca6a2382b923f254e63ccb089ada1b567ba768cb", func := "minecontrol/minecontrollaw05.SensorValues", spec := "sensorValues", apart := false }
def SensorValuesSaid : Prop := sensorValuesRow.holds Try.pinned (OpenSpec.ofChange sensorValuesSpec)

/-- ITS FALSE NEIGHBOUR: 'it returns false'. Refute it at one input. -/
def sensorValuesWrong : ChangeSpec := { name := "sensorValues", fn := fun _ => fun
  | [d1, d2, d3, d4] => { results := [.lit (.bool false)], args := [d1, d2, d3, d4] }
  | _ => none }
def SensorValuesWrongFalsely : Prop := sensorValuesRow.holds Try.pinned (OpenSpec.ofChange sensorValuesWrong)

/-- 'minecontrollaw16.GasGrows': WHATEVER THE INPUT: true; the input reads as it did. -/
def gasGrowsSpec : ChangeSpec := { name := "gasGrows", fn := fun _ => fun
  | [d1, d2, d3, d4] => { results := [.lit (.bool true)], args := [d1, d2, d3, d4] }
  | _ => none }
def gasGrowsRow : OpenClaim := { program := "ytipfipnhgpbceaa", sum := "acbc2ad04f0733e4077cd8f4ca6a2382b923f254e63ccb089ada1b567ba768cb", func := "minecontrol/minecontrollaw16.GasGrows", spec := "gasGrows", apart := false }
def GasGrowsSaid : Prop := gasGrowsRow.holds Try.pinned (OpenSpec.ofChange gasGrowsSpec)

/-- ITS FALSE NEIGHBOUR: 'it returns false'. Refute it at one input. -/
def gasGrowsWrong : ChangeSpec := { name := "gasGrows", fn := fun _ => fun
  | [d1, d2, d3, d4] => { results := [.lit (.bool false)], args := [d1, d2, d3, d4] }
  | _ => none }
def GasGrowsWrongFalsely : Prop := gasGrowsRow.holds Try.pinned (OpenSpec.ofChange gasGrowsWrong)

/-- 'minecontrollaw05.SensorDecodes': WHATEVER THE INPUT: true; the input reads as it did. -/
def sensorDecodesSpec : ChangeSpec := { name := "sensorDecodes", fn := fun _ => fun
  | [d1, d2, d3, d4] => { results := [.lit (.bool true)], args := [d1, d2, d3, d4] }
  | _ => none }
def sensorDecodesRow : OpenClaim := { program := "ytipfipnhgpbceaa", sum := "acbc2ad04f0733e4077cd8f4ca6a2382b923f254e63ccb089ada1b567ba768cb", func := "minecontrol/minecontrollaw05.SensorDecodes", spec := "sensorDecodes", apart := false }
def SensorDecodesSaid : Prop := sensorDecodesRow.holds Try.pinned (OpenSpec.ofChange sensorDecodesSpec)

/-- ITS FALSE NEIGHBOUR: 'it returns false'. Refute it at one input. -/
def sensorDecodesWrong : ChangeSpec := { name := "sensorDecodes", fn := fun _ => fun
  | [d1, d2, d3, d4] => { results := [.lit (.bool false)], args := [d1, d2, d3, d4] }
  | _ => none }
def SensorDecodesWrongFalsely : Prop := sensorDecodesRow.holds Try.pinned (OpenSpec.ofChange sensorDecodesWrong)

/-- 'minecontrollaw16.GasAdds': WHATEVER THE INPUT: true; the input reads as it did. -/
def gasAddsSpec : ChangeSpec := { name := "gasAdds", fn := fun _ => fun
  | [d1, d2, d3] => { results := [.lit (.bool true)], args := [d1, d2, d3] }
  | _ => none }
def gasAddsRow : OpenClaim := { program := "ytipfipnhgpbceaa", sum := "acbc2ad04f0733e4077cd8f4ca6a2382b923f254e63ccb089ada1b567ba768cb", func := "minecontrol/minecontrollaw16.GasAdds", spec := "gasAdds", apart := false }
def GasAddsSaid : Prop := gasAddsRow.holds Try.pinned (OpenSpec.ofChange gasAddsSpec)

/-- ITS FALSE NEIGHBOUR: 'it returns false'. Refute it at one input. -/
def gasAddsWrong : ChangeSpec := { name := "gasAdds", fn := fun _ => fun
  | [d1, d2, d3] => { results := [.lit (.bool false)], args := [d1, d2, d3] }
  | _ => none }
def GasAddsWrongFalsely : Prop := gasAddsRow.holds Try.pinned (OpenSpec.ofChange gasAddsWrong)

/-- 'minecontrollaw05.SensorTrue': WHATEVER THE INPUT: true; the input reads as it did. -/
def sensorTrueSpec : ChangeSpec := { name := "sensorTrue", fn := fun _ => fun
  | [d1, d2, d3, d4] => { results := [.lit (.bool true)], args := [d1, d2, d3, d4] }
  | _ => none }
def sensorTrueRow : OpenClaim := { program := "ytipfipnhgpbceaa", sum := "acbc2ad04f0733e4077cd8f4ca6a2382b923f254e63ccb089ada1b567ba768cb", func := "minecontrol/minecontrollaw05.SensorTrue", spec := "sensorTrue", apart := false }
def SensorTrueSaid : Prop := sensorTrueRow.holds Try.pinned (OpenSpec.ofChange sensorTrueSpec)

/-- ITS FALSE NEIGHBOUR: 'it returns false'. Refute it at one input. -/
def sensorTrueWrong : ChangeSpec := { name := "sensorTrue", fn := fun _ => fun
  | [d1, d2, d3, d4] => { results := [.lit (.bool false)], args := [d1, d2, d3, d4] }
  | _ => none }
def SensorTrueWrongFalsely : Prop := sensorTrueRow.holds Try.pinned (OpenSpec.ofChange sensorTrueWrong)

/-- 'minecontrollaw05.SensorFaults': WHATEVER THE INPUT: true; the input reads as it did. -/
def sensorFaultsSpec : ChangeSpec := { name := "sensorFaults", fn := fun _ => fun
  | [d1, d2, d3] => { results := [.lit (.bool true)], args := [d1, d2, d3] }
  | _ => none }
def sensorFaultsRow : OpenClaim := { program := "ytipfipnhgpbceaa", sum := "acbc2ad04f0733e4077cd8f4ca6a2382b923f254e63ccb089ada1b567ba768cb", func := "minecontrol/minecontrollaw05.SensorFaults", spec := "sensorFaults", apart := false }
def SensorFaultsSaid : Prop := sensorFaultsRow.holds Try.pinned (OpenSpec.ofChange sensorFaultsSpec)

/-- ITS FALSE NEIGHBOUR: 'it returns false'. Refute it at one input. -/
def sensorFaultsWrong : ChangeSpec := { name := "sensorFaults", fn := fun _ => fun
  | [d1, d2, d3] => { results := [.lit (.bool false)], args := [d1, d2, d3] }
  | _ => none }
def SensorFaultsWrongFalsely : Prop := sensorFaultsRow.holds Try.pinned (OpenSpec.ofChange sensorFaultsWrong)

/-- 'minecontrollaw06.WindowTogether': WHATEVER THE INPUT: true; the input reads as it did. -/
def windowTogetherSpec : ChangeSpec := { name := "windowTogether", fn := fun _ => fun
  | [d1, d2] => { results := [.lit (.bool true)], args := [d1, d2] }
  | _ => none }
def windowTogetherRow : OpenClaim := { program := "ytipfipnhgpbceaa", sum := "acbc2ad04f0733e4077cd8f4ca6a2382b923f254e63ccb089ada1b567ba768cb", func := "minecontrol/minecontrollaw06.WindowTogether", spec := "windowTogether", apart := false }
def WindowTogetherSaid : Prop := windowTogetherRow.holds Try.pinned (OpenSpec.ofChange windowTogetherSpec)

/-- ITS FALSE NEIGHBOUR: 'it returns false'. Refute it at one input. -/
def windowTogetherWrong : ChangeSpec := { name := "windowTogether", fn := fun _ => fun
  | [d1, d2] => { results := [.lit (.bool false)], args := [d1, d2] }
  | _ => none }
def WindowTogetherWrongFalsely : Prop := windowTogetherRow.holds Try.pinned (OpenSpec.ofChange windowTogetherWrong)

/-- 'minecontrollaw06.WindowMeets': WHATEVER THE INPUT: true; the input reads as it did. -/
def windowMeetsSpec : ChangeSpec := { name := "windowMeets", fn := fun _ => fun
  | [d1, d2] => { results := [.lit (.bool true)], args := [d1, d2] }
  | _ => none }
def windowMeetsRow : OpenClaim := { program := "ytipfipnhgpbceaa", sum := "acbc2ad04f0733e4077cd8f4ca6a2382b923f254e63ccb089ada1b567ba768cb", func := "minecontrol/minecontrollaw06.WindowMeets", spec := "windowMeets", apart := false }
def WindowMeetsSaid : Prop := windowMeetsRow.holds Try.pinned (OpenSpec.ofChange windowMeetsSpec)

/-- ITS FALSE NEIGHBOUR: 'it returns false'. Refute it at one input. -/
def windowMeetsWrong : ChangeSpec := { name := "windowMeets", fn := fun _ => fun
  | [d1, d2] => { results := [.lit (.bool false)], args := [d1, d2] }
  | _ => none }
def WindowMeetsWrongFalsely : Prop := windowMeetsRow.holds Try.pinned (OpenSpec.ofChange windowMeetsWrong)

/-- 'minecontrollaw05.SensorRaw': WHATEVER THE INPUT: true; the input reads as it did. -/
def sensorRawSpec : ChangeSpec := { name := "sensorRaw", fn := fun _ => fun
  | [d1, d2, d3] => { results := [.lit (.bool true)], args := [d1, d2, d3] }
  | _ => none }
def sensorRawRow : OpenClaim := { program := "ytipfipnhgpbceaa", sum := "acbc2ad04f0733e4077cd8f4ca6a2382b923f254e63ccb089ada1b567ba768cb", func := "minecontrol/minecontrollaw05.SensorRaw", spec := "sensorRaw", apart := false }
def SensorRawSaid : Prop := sensorRawRow.holds Try.pinned (OpenSpec.ofChange sensorRawSpec)

/-- ITS FALSE NEIGHBOUR: 'it returns false'. Refute it at one input. -/
def sensorRawWrong : ChangeSpec := { name := "sensorRaw", fn := fun _ => fun
  | [d1, d2, d3] => { results := [.lit (.bool false)], args := [d1, d2, d3] }
  | _ => none }
def SensorRawWrongFalsely : Prop := sensorRawRow.holds Try.pinned (OpenSpec.ofChange sensorRawWrong)

/-- 'minecontrollaw05.SensorBack': WHATEVER THE INPUT: true; the input reads as it did. -/
def sensorBackSpec : ChangeSpec := { name := "sensorBack", fn := fun _ => fun
  | [d1, d2] => { results := [.lit (.bool true)], args := [d1, d2] }
  | _ => none }
def sensorBackRow : OpenClaim := { program := "ytipfipnhgpbceaa", sum := "acbc2ad04f0733e4077cd8f4ca6a2382b923f254e63ccb089ada1b567ba768cb", func := "minecontrol/minecontrollaw05.SensorBack", spec := "sensorBack", apart := false }
def SensorBackSaid : Prop := sensorBackRow.holds Try.pinned (OpenSpec.ofChange sensorBackSpec)

/-- ITS FALSE NEIGHBOUR: 'it returns false'. Refute it at one input. -/
def sensorBackWrong : ChangeSpec := { name := "sensorBack", fn := fun _ => fun
  | [d1, d2] => { results := [.lit (.bool false)], args := [d1, d2] }
  | _ => none }
def SensorBackWrongFalsely : Prop := sensorBackRow.holds Try.pinned (OpenSpec.ofChange sensorBackWrong)

/-- 'minecontrollaw14.RecirculateWays': WHATEVER THE INPUT: true; the input reads as it did. -/
def recirculateWaysSpec : ChangeSpec := { name := "recirculateWays", fn := fun _ => fun
  | [d1, d2] => { results := [.lit (.bool true)], args := [d1, d2] }
  | _ => none }
def recirculateWaysRow : OpenClaim := { program := "ytipfipnhgpbceaa", sum := "acbc2ad04f0733e4077cd8f4ca6a2382b923f254e63ccb089ada1b567ba768cb", func := "minecontrol/minecontrollaw14.RecirculateWays", spec := "recirculateWays", apart := false }
def RecirculateWaysSaid : Prop := recirculateWaysRow.holds Try.pinned (OpenSpec.ofChange recirculateWaysSpec)

/-- ITS FALSE NEIGHBOUR: 'it returns false'. Refute it at one input. -/
def recirculateWaysWrong : ChangeSpec := { name := "recirculateWays", fn := fun _ => fun
  | [d1, d2] => { results := [.lit (.bool false)], args := [d1, d2] }
  | _ => none }
def RecirculateWaysWrongFalsely : Prop := recirculateWaysRow.holds Try.pinned (OpenSpec.ofChange recirculateWaysWrong)

/-- 'minecontrollaw14.RecirculateFinds': WHATEVER THE INPUT: true; the input reads as it did. -/
def recirculateFindsSpec : ChangeSpec := { name := "recirculateFinds", fn := fun _ => fun
  | [d] => { results := [.lit (.bool true)], args := [d] }
  | _ => none }
def recirculateFindsRow : OpenClaim := { program := "ytipfipnhgpbceaa", sum := "acbc2ad04f0733e4077cd8f4ca6a2382b923f254e63ccb089ada1b567ba768cb", func := "minecontrol/minecontrollaw14.RecirculateFinds", spec := "recirculateFinds", recurses := true, apart := false }
def RecirculateFindsSaid : Prop := recirculateFindsRow.holds Try.pinned (OpenSpec.ofChange recirculateFindsSpec)

/-- ITS FALSE NEIGHBOUR: 'it returns false'. Refute it at one input. -/
def recirculateFindsWrong : ChangeSpec := { name := "recirculateFinds", fn := fun _ => fun
  | [d] => { results := [.lit (.bool false)], args := [d] }
  | _ => none }
def RecirculateFindsWrongFalsely : Prop := recirculateFindsRow.holds Try.pinned (OpenSpec.ofChange recirculateFindsWrong)

/-- 'minecontrollaw14.RecirculateTrue': WHATEVER THE INPUT: true; the input reads as it did. -/
def recirculateTrueSpec : ChangeSpec := { name := "recirculateTrue", fn := fun _ => fun
  | [d1, d2] => { results := [.lit (.bool true)], args := [d1, d2] }
  | _ => none }
def recirculateTrueRow : OpenClaim := { program := "ytipfipnhgpbceaa", sum := "acbc2ad04f0733e4077cd8f4ca6a2382b923f254e63ccb089ada1b567ba768cb", func := "minecontrol/minecontrollaw14.RecirculateTrue", spec := "recirculateTrue", apart := false }
def RecirculateTrueSaid : Prop := recirculateTrueRow.holds Try.pinned (OpenSpec.ofChange recirculateTrueSpec)

/-- ITS FALSE NEIGHBOUR: 'it returns false'. Refute it at one input. -/
def recirculateTrueWrong : ChangeSpec := { name := "recirculateTrue", fn := fun _ => fun
  | [d1, d2] => { results := [.lit (.bool false)], args := [d1, d2] }
  | _ => none }
def RecirculateTrueWrongFalsely : Prop := recirculateTrueRow.holds Try.pinned (OpenSpec.ofChange recirculateTrueWrong)

/-- 'minecontrollaw14.RecirculateWider': WHATEVER THE INPUT: true; the input reads as it did. -/
def recirculateWiderSpec : ChangeSpec := { name := "recirculateWider", fn := fun _ => fun
  | [d1, d2, d3] => { results := [.lit (.bool true)], args := [d1, d2, d3] }
  | _ => none }
def recirculateWiderRow : OpenClaim := { program := "ytipfipnhgpbceaa", sum := "acbc2ad04f0733e4077cd8f4ca6a2382b923f254e63ccb089ada1b567ba768cb", func := "minecontrol/minecontrollaw14.RecirculateWider", spec := "recirculateWider", apart := false }
def RecirculateWiderSaid : Prop := recirculateWiderRow.holds Try.pinned (OpenSpec.ofChange recirculateWiderSpec)

/-- ITS FALSE NEIGHBOUR: 'it returns false'. Refute it at one input. -/
def recirculateWiderWrong : ChangeSpec := { name := "recirculateWider", fn := fun _ => fun
  | [d1, d2, d3] => { results := [.lit (.bool false)], args := [d1, d2, d3] }
  | _ => none }
def RecirculateWiderWrongFalsely : Prop := recirculateWiderRow.holds Try.pinned (OpenSpec.ofChange recirculateWiderWrong)

/-- 'minecontrollaw14.RecirculateMixes': WHATEVER THE INPUT: true; the input reads as it did. -/
def recirculateMixesSpec : ChangeSpec := { name := "recirculateMixes", fn := fun _ => fun
  | [d1, d2, d3] => { results := [.lit (.bool true)], args := [d1, d2, d3] }
  | _ => none }
def recirculateMixesRow : OpenClaim := { program := "ytipfipnhgpbceaa", sum := "acbc2ad04f0733e4077cd8f4ca6a2382b923f254e63ccb089ada1b567ba768cb", func := "minecontrol/minecontrollaw14.RecirculateMixes", spec := "recirculateMixes", apart := false }
def RecirculateMixesSaid : Prop := recirculateMixesRow.holds Try.pinned (OpenSpec.ofChange recirculateMixesSpec)

/-- ITS FALSE NEIGHBOUR: 'it returns false'. Refute it at one input. -/
def recirculateMixesWrong : ChangeSpec := { name := "recirculateMixes", fn := fun _ => fun
  | [d1, d2, d3] => { results := [.lit (.bool false)], args := [d1, d2, d3] }
  | _ => none }
def RecirculateMixesWrongFalsely : Prop := recirculateMixesRow.holds Try.pinned (OpenSpec.ofChange recirculateMixesWrong)

/-- 'minecontrollaw16.GasBounds': WHATEVER THE INPUT: true; the input reads as it did. -/
def gasBoundsSpec : ChangeSpec := { name := "gasBounds", fn := fun _ => fun
  | [d1, d2, d3] => { results := [.lit (.bool true)], args := [d1, d2, d3] }
  | _ => none }
def gasBoundsRow : OpenClaim := { program := "ytipfipnhgpbceaa", sum := "acbc2ad04f0733e4077cd8f4ca6a2382b923f254e63ccb089ada1b567ba768cb", func := "minecontrol/minecontrollaw16.GasBounds", spec := "gasBounds", apart := false }
def GasBoundsSaid : Prop := gasBoundsRow.holds Try.pinned (OpenSpec.ofChange gasBoundsSpec)

/-- ITS FALSE NEIGHBOUR: 'it returns false'. Refute it at one input. -/
def gasBoundsWrong : ChangeSpec := { name := "gasBounds", fn := fun _ => fun
  | [d1, d2, d3] => { results := [.lit (.bool false)], args := [d1, d2, d3] }
  | _ => none }
def GasBoundsWrongFalsely : Prop := gasBoundsRow.holds Try.pinned (OpenSpec.ofChange gasBoundsWrong)

/-- 'minecontrollaw16.GasAnyMine': WHATEVER THE INPUT: true; the input reads as it did. -/
def gasAnyMineSpec : ChangeSpec := { name := "gasAnyMine", fn := fun _ => fun
  | [d1, d2] => { results := [.lit (.bool true)], args := [d1, d2] }
  | _ => none }
def gasAnyMineRow : OpenClaim := { program := "ytipfipnhgpbceaa", sum := "acbc2ad04f0733e4077cd8f4ca6a2382b923f254e63ccb089ada1b567ba768cb", func := "minecontrol/minecontrollaw16.GasAnyMine", spec := "gasAnyMine", apart := false }
def GasAnyMineSaid : Prop := gasAnyMineRow.holds Try.pinned (OpenSpec.ofChange gasAnyMineSpec)

/-- ITS FALSE NEIGHBOUR: 'it returns false'. Refute it at one input. -/
def gasAnyMineWrong : ChangeSpec := { name := "gasAnyMine", fn := fun _ => fun
  | [d1, d2] => { results := [.lit (.bool false)], args := [d1, d2] }
  | _ => none }
def GasAnyMineWrongFalsely : Prop := gasAnyMineRow.holds Try.pinned (OpenSpec.ofChange gasAnyMineWrong)

/-- 'minecontrollaw16.GasTrue': WHATEVER THE INPUT: true; the input reads as it did. -/
def gasTrueSpec : ChangeSpec := { name := "gasTrue", fn := fun _ => fun
  | [d] => { results := [.lit (.bool true)], args := [d] }
  | _ => none }
def gasTrueRow : OpenClaim := { program := "ytipfipnhgpbceaa", sum := "acbc2ad04f0733e4077cd8f4ca6a2382b923f254e63ccb089ada1b567ba768cb", func := "minecontrol/minecontrollaw16.GasTrue", spec := "gasTrue", apart := false }
def GasTrueSaid : Prop := gasTrueRow.holds Try.pinned (OpenSpec.ofChange gasTrueSpec)

/-- ITS FALSE NEIGHBOUR: 'it returns false'. Refute it at one input. -/
def gasTrueWrong : ChangeSpec := { name := "gasTrue", fn := fun _ => fun
  | [d] => { results := [.lit (.bool false)], args := [d] }
  | _ => none }
def GasTrueWrongFalsely : Prop := gasTrueRow.holds Try.pinned (OpenSpec.ofChange gasTrueWrong)

/- THE SECOND FORM. 'bulk': how many values and letters a reading holds, each counted each time it is reached (what is shared counts as often as it is met; a slice's spare places count too). A statement '..UptoSaid' is the law's where the arguments, and the package variables that the reading takes, are together of bulk at most 1048576: NARROWER than '..Said'. Prove '..Said' where nothing that the law and all that it calls make is longer than what came in: it says more and counts as full. Else prove '..UptoSaid'. A law counts once. -/
mutual
def uptoBulk {H : Type} : DataW H → Nat
  | .lit (.string bytes) => bytes.length + 1
  | .lit _ => 1
  | .nil => 1
  | .ptr d => uptoBulk d + 1
  | .slice elems spare => uptoBulkAll elems + uptoBulkAll spare + 1
  | .agg parts => uptoBulkAll parts + 1
  | .iface _ d => uptoBulk d + 1
  | .map entries => uptoBulkEntries entries + 1
  | .held _ => 1
def uptoBulkAll {H : Type} : List (DataW H) → Nat
  | [] => 0
  | d :: r => uptoBulk d + uptoBulkAll r
def uptoBulkEntries {H : Type} : List (Lit × DataW H) → Nat
  | [] => 0
  | x :: r => uptoBulkEntry x + uptoBulkEntries r
def uptoBulkEntry {H : Type} : Lit × DataW H → Nat
  | (.string bytes, d) => bytes.length + uptoBulk d + 1
  | (_, d) => uptoBulk d + 1
 end
def uptoSmall : (H : Type) → List (DataW H) → Bool := fun _ ds => decide (uptoBulkAll ds ≤ 1048576)
def OpenSpec.upto (s : _root_.Go.ChangeSpec) : _root_.Go.OpenSpec := { _root_.Go.OpenSpec.ofChange s with cond := some uptoSmall }

/-- 'minecontrollaw06.WindowAbove', WHERE WHAT IT READS IS OF BULK AT MOST 1048576: true; the input reads as it did. -/
def windowAboveUptoRow : OpenClaim := { program := "ytipfipnhgpbceaa", sum := "acbc2ad04f0733e4077cd8f4ca6a2382b923f254e63ccb089ada1b567ba768cb", func := "minecontrol/minecontrollaw06.WindowAbove", spec := "windowAbove", apart := false, narrowed := true }
def WindowAboveUptoSaid : Prop := windowAboveUptoRow.holds Try.pinned (OpenSpec.upto windowAboveSpec)

/-- 'minecontrollaw06.WindowUntil', WHERE WHAT IT READS IS OF BULK AT MOST 1048576: true; the input reads as it did. -/
def windowUntilUptoRow : OpenClaim := { program := "ytipfipnhgpbceaa", sum := "acbc2ad04f0733e4077cd8f4ca6a2382b923f254e63ccb089ada1b567ba768cb", func := "minecontrol/minecontrollaw06.WindowUntil", spec := "windowUntil", apart := false, narrowed := true }
def WindowUntilUptoSaid : Prop := windowUntilUptoRow.holds Try.pinned (OpenSpec.upto windowUntilSpec)

/-- 'minecontrollaw06.WindowWidens', WHERE WHAT IT READS IS OF BULK AT MOST 1048576: true; the input reads as it did. -/
def windowWidensUptoRow : OpenClaim := { program := "ytipfipnhgpbceaa", sum := "acbc2ad04f0733e4077cd8f4ca6a2382b923f254e63ccb089ada1b567ba768cb", func := "minecontrol/minecontrollaw06.WindowWidens", spec := "windowWidens", apart := false, narrowed := true }
def WindowWidensUptoSaid : Prop := windowWidensUptoRow.holds Try.pinned (OpenSpec.upto windowWidensSpec)

/-- 'minecontrollaw05.SensorChecks', WHERE WHAT IT READS IS OF BULK AT MOST 1048576: true; the input reads as it did. -/
def sensorChecksUptoRow : OpenClaim := { program := "ytipfipnhgpbceaa", sum := "acbc2ad04f0733e4077cd8f4ca6a2382b923f254e63ccb089ada1b567ba768cb", func := "minecontrol/minecontrollaw05.SensorChecks", spec := "sensorChecks", apart := false, narrowed := true }
def SensorChecksUptoSaid : Prop := sensorChecksUptoRow.holds Try.pinned (OpenSpec.upto sensorChecksSpec)

/-- 'minecontrollaw05.SensorValues', WHERE WHAT IT READS IS OF BULK AT MOST 1048576: true; the input reads as it did. -/
def sensorValuesUptoRow : OpenClaim := { program := "ytipfipnhgpbceaa", sum := "acbc2ad04f0733e4077cd8f4ca6a2382b923f254e63ccb089ada1b567ba768cb", func := "minecontrol/minecontrollaw05.SensorValues", spec := "sensorValues", apart := false, narrowed := true }
def SensorValuesUptoSaid : Prop := sensorValuesUptoRow.holds Try.pinned (OpenSpec.upto sensorValuesSpec)

/-- 'minecontrollaw16.GasGrows', WHERE WHAT IT READS IS OF BULK AT MOST 1048576: true; the input reads as it did. -/
def gasGrowsUptoRow : OpenClaim := { program := "ytipfipnhgpbceaa", sum := "acbc2ad04f0733e4077cd8f4ca6a2382b923f254e63ccb089ada1b567ba768cb", func := "minecontrol/minecontrollaw16.GasGrows", spec := "gasGrows", apart := false, narrowed := true }
def GasGrowsUptoSaid : Prop := gasGrowsUptoRow.holds Try.pinned (OpenSpec.upto gasGrowsSpec)

/-- 'minecontrollaw05.SensorDecodes', WHERE WHAT IT READS IS OF BULK AT MOST 1048576: true; the input reads as it did. -/
def sensorDecodesUptoRow : OpenClaim := { program := "ytipfipnhgpbceaa", sum := "acbc2ad04f0733e4077cd8f4ca6a2382b923f254e63ccb089ada1b567ba768cb", func := "minecontrol/minecontrollaw05.SensorDecodes", spec := "sensorDecodes", apart := false, narrowed := true }
def SensorDecodesUptoSaid : Prop := sensorDecodesUptoRow.holds Try.pinned (OpenSpec.upto sensorDecodesSpec)

/-- 'minecontrollaw16.GasAdds', WHERE WHAT IT READS IS OF BULK AT MOST 1048576: true; the input reads as it did. -/
def gasAddsUptoRow : OpenClaim := { program := "ytipfipnhgpbceaa", sum := "acbc2ad04f0733e4077cd8f4ca6a2382b923f254e63ccb089ada1b567ba768cb", func := "minecontrol/minecontrollaw16.GasAdds", spec := "gasAdds", apart := false, narrowed := true }
def GasAddsUptoSaid : Prop := gasAddsUptoRow.holds Try.pinned (OpenSpec.upto gasAddsSpec)

/-- 'minecontrollaw05.SensorTrue', WHERE WHAT IT READS IS OF BULK AT MOST 1048576: true; the input reads as it did. -/
def sensorTrueUptoRow : OpenClaim := { program := "ytipfipnhgpbceaa", sum := "acbc2ad04f0733e4077cd8f4ca6a2382b923f254e63ccb089ada1b567ba768cb", func := "minecontrol/minecontrollaw05.SensorTrue", spec := "sensorTrue", apart := false, narrowed := true }
def SensorTrueUptoSaid : Prop := sensorTrueUptoRow.holds Try.pinned (OpenSpec.upto sensorTrueSpec)

/-- 'minecontrollaw05.SensorFaults', WHERE WHAT IT READS IS OF BULK AT MOST 1048576: true; the input reads as it did. -/
def sensorFaultsUptoRow : OpenClaim := { program := "ytipfipnhgpbceaa", sum := "acbc2ad04f0733e4077cd8f4ca6a2382b923f254e63ccb089ada1b567ba768cb", func := "minecontrol/minecontrollaw05.SensorFaults", spec := "sensorFaults", apart := false, narrowed := true }
def SensorFaultsUptoSaid : Prop := sensorFaultsUptoRow.holds Try.pinned (OpenSpec.upto sensorFaultsSpec)

/-- 'minecontrollaw06.WindowTogether', WHERE WHAT IT READS IS OF BULK AT MOST 1048576: true; the input reads as it did. -/
def windowTogetherUptoRow : OpenClaim := { program := "ytipfipnhgpbceaa", sum := "acbc2ad04f0733e4077cd8f4ca6a2382b923f254e63ccb089ada1b567ba768cb", func := "minecontrol/minecontrollaw06.WindowTogether", spec := "windowTogether", apart := false, narrowed := true }
def WindowTogetherUptoSaid : Prop := windowTogetherUptoRow.holds Try.pinned (OpenSpec.upto windowTogetherSpec)

/-- 'minecontrollaw06.WindowMeets', WHERE WHAT IT READS IS OF BULK AT MOST 1048576: true; the input reads as it did. -/
def windowMeetsUptoRow : OpenClaim := { program := "ytipfipnhgpbceaa", sum := "acbc2ad04f0733e4077cd8f4ca6a2382b923f254e63ccb089ada1b567ba768cb", func := "minecontrol/minecontrollaw06.WindowMeets", spec := "windowMeets", apart := false, narrowed := true }
def WindowMeetsUptoSaid : Prop := windowMeetsUptoRow.holds Try.pinned (OpenSpec.upto windowMeetsSpec)

/-- 'minecontrollaw05.SensorRaw', WHERE WHAT IT READS IS OF BULK AT MOST 1048576: true; the input reads as it did. -/
def sensorRawUptoRow : OpenClaim := { program := "ytipfipnhgpbceaa", sum := "acbc2ad04f0733e4077cd8f4ca6a2382b923f254e63ccb089ada1b567ba768cb", func := "minecontrol/minecontrollaw05.SensorRaw", spec := "sensorRaw", apart := false, narrowed := true }
def SensorRawUptoSaid : Prop := sensorRawUptoRow.holds Try.pinned (OpenSpec.upto sensorRawSpec)

/-- 'minecontrollaw05.SensorBack', WHERE WHAT IT READS IS OF BULK AT MOST 1048576: true; the input reads as it did. -/
def sensorBackUptoRow : OpenClaim := { program := "ytipfipnhgpbceaa", sum := "acbc2ad04f0733e4077cd8f4ca6a2382b923f254e63ccb089ada1b567ba768cb", func := "minecontrol/minecontrollaw05.SensorBack", spec := "sensorBack", apart := false, narrowed := true }
def SensorBackUptoSaid : Prop := sensorBackUptoRow.holds Try.pinned (OpenSpec.upto sensorBackSpec)

/-- 'minecontrollaw14.RecirculateWays', WHERE WHAT IT READS IS OF BULK AT MOST 1048576: true; the input reads as it did. -/
def recirculateWaysUptoRow : OpenClaim := { program := "ytipfipnhgpbceaa", sum := "acbc2ad04f0733e4077cd8f4ca6a2382b923f254e63ccb089ada1b567ba768cb", func := "minecontrol/minecontrollaw14.RecirculateWays", spec := "recirculateWays", apart := false, narrowed := true }
def RecirculateWaysUptoSaid : Prop := recirculateWaysUptoRow.holds Try.pinned (OpenSpec.upto recirculateWaysSpec)

/-- 'minecontrollaw14.RecirculateFinds', WHERE WHAT IT READS IS OF BULK AT MOST 1048576: true; the input reads as it did. -/
def recirculateFindsUptoRow : OpenClaim := { program := "ytipfipnhgpbceaa", sum := "acbc2ad04f0733e4077cd8f4ca6a2382b923f254e63ccb089ada1b567ba768cb", func := "minecontrol/minecontrollaw14.RecirculateFinds", spec := "recirculateFinds", recurses := true, apart := false, narrowed := true }
def RecirculateFindsUptoSaid : Prop := recirculateFindsUptoRow.holds Try.pinned (OpenSpec.upto recirculateFindsSpec)

/-- 'minecontrollaw14.RecirculateTrue', WHERE WHAT IT READS IS OF BULK AT MOST 1048576: true; the input reads as it did. -/
def recirculateTrueUptoRow : OpenClaim := { program := "ytipfipnhgpbceaa", sum := "acbc2ad04f0733e4077cd8f4ca6a2382b923f254e63ccb089ada1b567ba768cb", func := "minecontrol/minecontrollaw14.RecirculateTrue", spec := "recirculateTrue", apart := false, narrowed := true }
def RecirculateTrueUptoSaid : Prop := recirculateTrueUptoRow.holds Try.pinned (OpenSpec.upto recirculateTrueSpec)

/-- 'minecontrollaw14.RecirculateWider', WHERE WHAT IT READS IS OF BULK AT MOST 1048576: true; the input reads as it did. -/
def recirculateWiderUptoRow : OpenClaim := { program := "ytipfipnhgpbceaa", sum := "acbc2ad04f0733e4077cd8f4ca6a2382b923f254e63ccb089ada1b567ba768cb", func := "minecontrol/minecontrollaw14.RecirculateWider", spec := "recirculateWider", apart := false, narrowed := true }
def RecirculateWiderUptoSaid : Prop := recirculateWiderUptoRow.holds Try.pinned (OpenSpec.upto recirculateWiderSpec)

/-- 'minecontrollaw14.RecirculateMixes', WHERE WHAT IT READS IS OF BULK AT MOST 1048576: true; the input reads as it did. -/
def recirculateMixesUptoRow : OpenClaim := { program := "ytipfipnhgpbceaa", sum := "acbc2ad04f0733e4077cd8f4ca6a2382b923f254e63ccb089ada1b567ba768cb", func := "minecontrol/minecontrollaw14.RecirculateMixes", spec := "recirculateMixes", apart := false, narrowed := true }
def RecirculateMixesUptoSaid : Prop := recirculateMixesUptoRow.holds Try.pinned (OpenSpec.upto recirculateMixesSpec)

/-- 'minecontrollaw16.GasBounds', WHERE WHAT IT READS IS OF BULK AT MOST 1048576: true; the input reads as it did. -/
def gasBoundsUptoRow : OpenClaim := { program := "ytipfipnhgpbceaa", sum := "acbc2ad04f0733e4077cd8f4ca6a2382b923f254e63ccb089ada1b567ba768cb", func := "minecontrol/minecontrollaw16.GasBounds", spec := "gasBounds", apart := false, narrowed := true }
def GasBoundsUptoSaid : Prop := gasBoundsUptoRow.holds Try.pinned (OpenSpec.upto gasBoundsSpec)

/-- 'minecontrollaw16.GasAnyMine', WHERE WHAT IT READS IS OF BULK AT MOST 1048576: true; the input reads as it did. -/
def gasAnyMineUptoRow : OpenClaim := { program := "ytipfipnhgpbceaa", sum := "acbc2ad04f0733e4077cd8f4ca6a2382b923f254e63ccb089ada1b567ba768cb", func := "minecontrol/minecontrollaw16.GasAnyMine", spec := "gasAnyMine", apart := false, narrowed := true }
def GasAnyMineUptoSaid : Prop := gasAnyMineUptoRow.holds Try.pinned (OpenSpec.upto gasAnyMineSpec)

/-- 'minecontrollaw16.GasTrue', WHERE WHAT IT READS IS OF BULK AT MOST 1048576: true; the input reads as it did. -/
def gasTrueUptoRow : OpenClaim := { program := "ytipfipnhgpbceaa", sum := "acbc2ad04f0733e4077cd8f4ca6a2382b923f254e63ccb089ada1b567ba768cb", func := "minecontrol/minecontrollaw16.GasTrue", spec := "gasTrue", apart := false, narrowed := true }
def GasTrueUptoSaid : Prop := gasTrueUptoRow.holds Try.pinned (OpenSpec.upto gasTrueSpec)

end Rows
end Go.Proofs.Ytipfipnhgpbceaa
