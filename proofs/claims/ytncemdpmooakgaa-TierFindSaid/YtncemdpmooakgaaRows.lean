/-
  No cell of these rows narrows 'for every input' (looked for: loops, veiled, ifaces, maps, wideKeys, modest, calm, conditions, laid).
  DERIVED. THE GIVEN ROWS OF THIS SEAT. 10 by the template 'for every input the law returns true; each argument reads behind the call as it read before'; 0 by the template 'total and deterministic' (their statements: YtncemdpmooakgaaTotals.lean).
  GIVEN WITH THE SEED: the statements are not yours to turn. If you find one false, say at which input.
  Laid BY PROGRAM, IN A SANDBOX (cutbox-rows.mjs): the forced cells as the released guide's own fill.sh prints them over the translation ab1ceb8f020201d1… (all of the seat's roots in one cut). By AI agents, Wed Nov 11 2026. No macro, syntax, notation, axiom, sorry.
-/
import Derived.Test.YtncemdpmooakgaaChecked
import GoSem.Claim
import GoSem.ClaimJoined
import GoSem.ClaimMapViews
import Derived.JoinedTies
import Derived.KernelRfl
namespace Go.Proofs.Ytncemdpmooakgaa
/- THE CELL 'sum', in the pinned program and in every row, IS THE sha256 OF THE DUMP (.gsa) THAT YtncemdpmooakgaaProg.lean LOADS. Nothing in Lean hashes anything: it is a label: what it is worth is what the hold of that sum in a sandbox is worth. -/
noncomputable def Try.pinned : Pinned := { name := "ytncemdpmooakgaa", sum := "ab1ceb8f020201d1963af9494c0e23ad69c9ff95bad893b9327c0af3b4b2bd34", checked := Try.checked }
namespace Rows
def none {H : Type} : Left H := { results := [], args := [] }

/-- 'culetlaw39.OptimizeKeep': WHATEVER THE INPUT: true; the input reads as it did. -/
def optimizeKeepSpec : ChangeSpec := { name := "optimizeKeep", fn := fun _ => fun
  | [d] => { results := [.lit (.bool true)], args := [d] }
  | _ => none }
def optimizeKeepRow : OpenClaim := { program := "ytncemdpmooakgaa", sum := "ab1ceb8f020201d1963af9494c0e23ad69c9ff95bad893b9327c0af3b4b2bd34", func := "culet/culetlaw39.OptimizeKeep", spec := "optimizeKeep", apart := false }
def OptimizeKeepSaid : Prop := optimizeKeepRow.holds Try.pinned (OpenSpec.ofChange optimizeKeepSpec)

/-- ITS FALSE NEIGHBOUR: 'it returns false'. Refute it at one input. -/
def optimizeKeepWrong : ChangeSpec := { name := "optimizeKeep", fn := fun _ => fun
  | [d] => { results := [.lit (.bool false)], args := [d] }
  | _ => none }
def OptimizeKeepWrongFalsely : Prop := optimizeKeepRow.holds Try.pinned (OpenSpec.ofChange optimizeKeepWrong)

/-- 'culetlaw16.TierOrbit': WHATEVER THE INPUT: true; the input reads as it did. -/
def tierOrbitSpec : ChangeSpec := { name := "tierOrbit", fn := fun _ => fun
  | [d] => { results := [.lit (.bool true)], args := [d] }
  | _ => none }
def tierOrbitRow : OpenClaim := { program := "ytncemdpmooakgaa", sum := "ab1ceb8f020201d1963af9494c0e23ad69c9ff95bad893b9327c0af3b4b2bd34", func := "culet/culetlaw16.TierOrbit", spec := "tierOrbit", apart := false }
def TierOrbitSaid : Prop := tierOrbitRow.holds Try.pinned (OpenSpec.ofChange tierOrbitSpec)

/-- ITS FALSE NEIGHBOUR: 'it returns false'. Refute it at one input. -/
def tierOrbitWrong : ChangeSpec := { name := "tierOrbit", fn := fun _ => fun
  | [d] => { results := [.lit (.bool false)], args := [d] }
  | _ => none }
def TierOrbitWrongFalsely : Prop := tierOrbitRow.holds Try.pinned (OpenSpec.ofChange tierOrbitWrong)

/-- 'culetlaw16.TierClosed': WHATEVER THE INPUT: true; the input reads as it did. -/
def tierClosedSpec : ChangeSpec := { name := "tierClosed", fn := fun _ => fun
  | [d1, d2] => { results := [.lit (.bool true)], args := [d1, d2] }
  | _ => none }
def tierClosedRow : OpenClaim := { program := "ytncemdpmooakgaa", sum := "ab1ceb8f020201d1963af9494c0e23ad69c9ff95bad893b9327c0af3b4b2bd34", func := "culet/culetlaw16.TierClosed", spec := "tierClosed", apart := false }
def TierClosedSaid : Prop := tierClosedRow.holds Try.pinned (OpenSpec.ofChange tierClosedSpec)

/-- ITS FALSE NEIGHBOUR: 'it returns false'. Refute it at one input. -/
def tierClosedWrong : ChangeSpec := { name := "tierClosed", fn := fun _ => fun
  | [d1, d2] => { results := [.lit (.bool false)], args := [d1, d2] }
  | _ => none }
def TierClosedWrongFalsely : Prop := tierClosedRow.holds Try.pinned (OpenSpec.ofChange tierClosedWrong)

/-- 'culetlaw16.TierFind': WHATEVER THE INPUT: true; the input reads as it did. -/
def tierFindSpec : ChangeSpec := { name := "tierFind", fn := fun _ => fun
  | [d1, d2, d3] => { results := [.lit (.bool true)], args := [d1, d2, d3] }
  | _ => none }
def tierFindRow : OpenClaim := { program := "ytncemdpmooakgaa", sum := "ab1ceb8f020201d1963af9494c0e23ad69c9ff95bad893b9327c0af3b4b2bd34", func := "culet/culetlaw16.TierFind", spec := "tierFind", unfollowed := true, recurses := true, apart := false }
def TierFindSaid : Prop := tierFindRow.holds Try.pinned (OpenSpec.ofChange tierFindSpec)

/-- ITS FALSE NEIGHBOUR: 'it returns false'. Refute it at one input. -/
def tierFindWrong : ChangeSpec := { name := "tierFind", fn := fun _ => fun
  | [d1, d2, d3] => { results := [.lit (.bool false)], args := [d1, d2, d3] }
  | _ => none }
def TierFindWrongFalsely : Prop := tierFindRow.holds Try.pinned (OpenSpec.ofChange tierFindWrong)

/-- 'culetlaw53.ParcelDo': WHATEVER THE INPUT: true; the input reads as it did. -/
def parcelDoSpec : ChangeSpec := { name := "parcelDo", fn := fun _ => fun
  | [d1, d2] => { results := [.lit (.bool true)], args := [d1, d2] }
  | _ => none }
def parcelDoRow : OpenClaim := { program := "ytncemdpmooakgaa", sum := "ab1ceb8f020201d1963af9494c0e23ad69c9ff95bad893b9327c0af3b4b2bd34", func := "culet/culetlaw53.ParcelDo", spec := "parcelDo", inPlace := ["internal/bytealg.abigen_runtime_cmpstring", "slices.overlaps[culet/api.Piece]"], unfollowed := true, recurses := true, apart := false }
def ParcelDoSaid : Prop := parcelDoRow.holds Try.pinned (OpenSpec.ofChange parcelDoSpec)

/-- ITS FALSE NEIGHBOUR: 'it returns false'. Refute it at one input. -/
def parcelDoWrong : ChangeSpec := { name := "parcelDo", fn := fun _ => fun
  | [d1, d2] => { results := [.lit (.bool false)], args := [d1, d2] }
  | _ => none }
def ParcelDoWrongFalsely : Prop := parcelDoRow.holds Try.pinned (OpenSpec.ofChange parcelDoWrong)

/-- 'culetlaw53.ParcelBalance': WHATEVER THE INPUT: true; the input reads as it did. -/
def parcelBalanceSpec : ChangeSpec := { name := "parcelBalance", fn := fun _ => fun
  | [d1, d2] => { results := [.lit (.bool true)], args := [d1, d2] }
  | _ => none }
def parcelBalanceRow : OpenClaim := { program := "ytncemdpmooakgaa", sum := "ab1ceb8f020201d1963af9494c0e23ad69c9ff95bad893b9327c0af3b4b2bd34", func := "culet/culetlaw53.ParcelBalance", spec := "parcelBalance", inPlace := ["internal/bytealg.abigen_runtime_cmpstring", "slices.overlaps[culet/api.Piece]"], unfollowed := true, recurses := true, apart := false }
def ParcelBalanceSaid : Prop := parcelBalanceRow.holds Try.pinned (OpenSpec.ofChange parcelBalanceSpec)

/-- ITS FALSE NEIGHBOUR: 'it returns false'. Refute it at one input. -/
def parcelBalanceWrong : ChangeSpec := { name := "parcelBalance", fn := fun _ => fun
  | [d1, d2] => { results := [.lit (.bool false)], args := [d1, d2] }
  | _ => none }
def ParcelBalanceWrongFalsely : Prop := parcelBalanceRow.holds Try.pinned (OpenSpec.ofChange parcelBalanceWrong)

/-- 'culetlaw53.ParcelKept': WHATEVER THE INPUT: true; the input reads as it did. -/
def parcelKeptSpec : ChangeSpec := { name := "parcelKept", fn := fun _ => fun
  | [d1, d2, d3] => { results := [.lit (.bool true)], args := [d1, d2, d3] }
  | _ => none }
def parcelKeptRow : OpenClaim := { program := "ytncemdpmooakgaa", sum := "ab1ceb8f020201d1963af9494c0e23ad69c9ff95bad893b9327c0af3b4b2bd34", func := "culet/culetlaw53.ParcelKept", spec := "parcelKept", inPlace := ["internal/bytealg.abigen_runtime_cmpstring", "slices.overlaps[culet/api.Piece]"], unfollowed := true, recurses := true, apart := false }
def ParcelKeptSaid : Prop := parcelKeptRow.holds Try.pinned (OpenSpec.ofChange parcelKeptSpec)

/-- ITS FALSE NEIGHBOUR: 'it returns false'. Refute it at one input. -/
def parcelKeptWrong : ChangeSpec := { name := "parcelKept", fn := fun _ => fun
  | [d1, d2, d3] => { results := [.lit (.bool false)], args := [d1, d2, d3] }
  | _ => none }
def ParcelKeptWrongFalsely : Prop := parcelKeptRow.holds Try.pinned (OpenSpec.ofChange parcelKeptWrong)

/-- 'culetlaw53.ParcelInverse': WHATEVER THE INPUT: true; the input reads as it did. -/
def parcelInverseSpec : ChangeSpec := { name := "parcelInverse", fn := fun _ => fun
  | [d1, d2] => { results := [.lit (.bool true)], args := [d1, d2] }
  | _ => none }
def parcelInverseRow : OpenClaim := { program := "ytncemdpmooakgaa", sum := "ab1ceb8f020201d1963af9494c0e23ad69c9ff95bad893b9327c0af3b4b2bd34", func := "culet/culetlaw53.ParcelInverse", spec := "parcelInverse", inPlace := ["internal/bytealg.abigen_runtime_cmpstring", "slices.overlaps[culet/api.Piece]"], unfollowed := true, recurses := true, apart := false }
def ParcelInverseSaid : Prop := parcelInverseRow.holds Try.pinned (OpenSpec.ofChange parcelInverseSpec)

/-- ITS FALSE NEIGHBOUR: 'it returns false'. Refute it at one input. -/
def parcelInverseWrong : ChangeSpec := { name := "parcelInverse", fn := fun _ => fun
  | [d1, d2] => { results := [.lit (.bool false)], args := [d1, d2] }
  | _ => none }
def ParcelInverseWrongFalsely : Prop := parcelInverseRow.holds Try.pinned (OpenSpec.ofChange parcelInverseWrong)

/-- 'culetlaw53.ParcelSteps': WHATEVER THE INPUT: true; the input reads as it did. -/
def parcelStepsSpec : ChangeSpec := { name := "parcelSteps", fn := fun _ => fun
  | [d1, d2] => { results := [.lit (.bool true)], args := [d1, d2] }
  | _ => none }
def parcelStepsRow : OpenClaim := { program := "ytncemdpmooakgaa", sum := "ab1ceb8f020201d1963af9494c0e23ad69c9ff95bad893b9327c0af3b4b2bd34", func := "culet/culetlaw53.ParcelSteps", spec := "parcelSteps", inPlace := ["internal/bytealg.abigen_runtime_cmpstring", "slices.overlaps[culet/api.Piece]"], unfollowed := true, recurses := true, apart := false }
def ParcelStepsSaid : Prop := parcelStepsRow.holds Try.pinned (OpenSpec.ofChange parcelStepsSpec)

/-- ITS FALSE NEIGHBOUR: 'it returns false'. Refute it at one input. -/
def parcelStepsWrong : ChangeSpec := { name := "parcelSteps", fn := fun _ => fun
  | [d1, d2] => { results := [.lit (.bool false)], args := [d1, d2] }
  | _ => none }
def ParcelStepsWrongFalsely : Prop := parcelStepsRow.holds Try.pinned (OpenSpec.ofChange parcelStepsWrong)

/-- 'culetlaw53.ParcelForms': WHATEVER THE INPUT: true; the input reads as it did. -/
def parcelFormsSpec : ChangeSpec := { name := "parcelForms", fn := fun _ => fun
  | [d1, d2, d3] => { results := [.lit (.bool true)], args := [d1, d2, d3] }
  | _ => none }
def parcelFormsRow : OpenClaim := { program := "ytncemdpmooakgaa", sum := "ab1ceb8f020201d1963af9494c0e23ad69c9ff95bad893b9327c0af3b4b2bd34", func := "culet/culetlaw53.ParcelForms", spec := "parcelForms", inPlace := ["internal/bytealg.abigen_runtime_cmpstring", "slices.overlaps[culet/api.Piece]"], unfollowed := true, recurses := true, apart := false }
def ParcelFormsSaid : Prop := parcelFormsRow.holds Try.pinned (OpenSpec.ofChange parcelFormsSpec)

/-- ITS FALSE NEIGHBOUR: 'it returns false'. Refute it at one input. -/
def parcelFormsWrong : ChangeSpec := { name := "parcelForms", fn := fun _ => fun
  | [d1, d2, d3] => { results := [.lit (.bool false)], args := [d1, d2, d3] }
  | _ => none }
def ParcelFormsWrongFalsely : Prop := parcelFormsRow.holds Try.pinned (OpenSpec.ofChange parcelFormsWrong)

/- THE SECOND FORM. 'bulk': how many values and letters a reading holds, each counted each time it is reached (what is shared counts as often as it is met; a slice's spare places count too). A statement '..UptoSaid' is the law's where the arguments, and the package variables that the reading takes, are together of bulk at most 1048576: NARROWER than '..Said'. Prove '..Said' where nothing that the law and all that it calls make is longer than what came in: it says more and counts as full. Else prove '..UptoSaid'. A law counts once. -/
mutual
def uptoBulk {H : Type} : DataW H → Nat
  | .lit (.string bytes) => bytes.length + 1
  | .lit _ => 1
  | .nil => 1
  | .ptr d => uptoBulk d + 1
  | .slice elems spare => uptoBulkAll elems + uptoBulkAll spare + 1
  | .agg parts => uptoBulkAll parts + 1
  | .iface _ d => uptoBulk d + 1
  | .map entries => uptoBulkEntries entries + 1
  | .held _ => 1
def uptoBulkAll {H : Type} : List (DataW H) → Nat
  | [] => 0
  | d :: r => uptoBulk d + uptoBulkAll r
def uptoBulkEntries {H : Type} : List (Lit × DataW H) → Nat
  | [] => 0
  | x :: r => uptoBulkEntry x + uptoBulkEntries r
def uptoBulkEntry {H : Type} : Lit × DataW H → Nat
  | (.string bytes, d) => bytes.length + uptoBulk d + 1
  | (_, d) => uptoBulk d + 1
 end
def uptoSmall : (H : Type) → List (DataW H) → Bool := fun _ ds => decide (uptoBulkAll ds ≤ 1048576)
def OpenSpec.upto (s : _root_.Go.ChangeSpec) : _root_.Go.OpenSpec := { _root_.Go.OpenSpec.ofChange s with cond := some uptoSmall }

/-- 'culetlaw39.OptimizeKeep', WHERE WHAT IT READS IS OF BULK AT MOST 1048576: true; the input reads as it did. -/
def optimizeKeepUptoRow : OpenClaim := { program := "ytncemdpmooakgaa", sum := "ab1ceb8f020201d1963af9494c0e23ad69c9ff95bad893b9327c0af3b4b2bd34", func := "culet/culetlaw39.OptimizeKeep", spec := "optimizeKeep", apart := false, narrowed := true }
def OptimizeKeepUptoSaid : Prop := optimizeKeepUptoRow.holds Try.pinned (OpenSpec.upto optimizeKeepSpec)

/-- 'culetlaw16.TierOrbit', WHERE WHAT IT READS IS OF BULK AT MOST 1048576: true; the input reads as it did. -/
def tierOrbitUptoRow : OpenClaim := { program := "ytncemdpmooakgaa", sum := "ab1ceb8f020201d1963af9494c0e23ad69c9ff95bad893b9327c0af3b4b2bd34", func := "culet/culetlaw16.TierOrbit", spec := "tierOrbit", apart := false, narrowed := true }
def TierOrbitUptoSaid : Prop := tierOrbitUptoRow.holds Try.pinned (OpenSpec.upto tierOrbitSpec)

/-- 'culetlaw16.TierClosed', WHERE WHAT IT READS IS OF BULK AT MOST 1048576: true; the input reads as it did. -/
def tierClosedUptoRow : OpenClaim := { program := "ytncemdpmooakgaa", sum := "ab1ceb8f020201d1963af9494c0e23ad69c9ff95bad893b9327c0af3b4b2bd34", func := "culet/culetlaw16.TierClosed", spec := "tierClosed", apart := false, narrowed := true }
def TierClosedUptoSaid : Prop := tierClosedUptoRow.holds Try.pinned (OpenSpec.upto tierClosedSpec)

/-- 'culetlaw16.TierFind', WHERE WHAT IT READS IS OF BULK AT MOST 1048576: true; the input reads as it did. -/
def tierFindUptoRow : OpenClaim := { program := "ytncemdpmooakgaa", sum := "ab1ceb8f020201d1963af9494c0e23ad69c9ff95bad893b9327c0af3b4b2bd34", func := "culet/culetlaw16.TierFind", spec := "tierFind", unfollowed := true, recurses := true, apart := false, narrowed := true }
def TierFindUptoSaid : Prop := tierFindUptoRow.holds Try.pinned (OpenSpec.upto tierFindSpec)

/-- 'culetlaw53.ParcelDo', WHERE WHAT IT READS IS OF BULK AT MOST 1048576: true; the input reads as it did. -/
def parcelDoUptoRow : OpenClaim := { program := "ytncemdpmooakgaa", sum := "ab1ceb8f020201d1963af9494c0e23ad69c9ff95bad893b9327c0af3b4b2bd34", func := "culet/culetlaw53.ParcelDo", spec := "parcelDo", inPlace := ["internal/bytealg.abigen_runtime_cmpstring", "slices.overlaps[culet/api.Piece]"], unfollowed := true, recurses := true, apart := false, narrowed := true }
def ParcelDoUptoSaid : Prop := parcelDoUptoRow.holds Try.pinned (OpenSpec.upto parcelDoSpec)

/-- 'culetlaw53.ParcelBalance', WHERE WHAT IT READS IS OF BULK AT MOST 1048576: true; the input reads as it did. -/
def parcelBalanceUptoRow : OpenClaim := { program := "ytncemdpmooakgaa", sum := "ab1ceb8f020201d1963af9494c0e23ad69c9ff95bad893b9327c0af3b4b2bd34", func := "culet/culetlaw53.ParcelBalance", spec := "parcelBalance", inPlace := ["internal/bytealg.abigen_runtime_cmpstring", "slices.overlaps[culet/api.Piece]"], unfollowed := true, recurses := true, apart := false, narrowed := true }
def ParcelBalanceUptoSaid : Prop := parcelBalanceUptoRow.holds Try.pinned (OpenSpec.upto parcelBalanceSpec)

/-- 'culetlaw53.ParcelKept', WHERE WHAT IT READS IS OF BULK AT MOST 1048576: true; the input reads as it did. -/
def parcelKeptUptoRow : OpenClaim := { program := "ytncemdpmooakgaa", sum := "ab1ceb8f020201d1963af9494c0e23ad69c9ff95bad893b9327c0af3b4b2bd34", func := "culet/culetlaw53.ParcelKept", spec := "parcelKept", inPlace := ["internal/bytealg.abigen_runtime_cmpstring", "slices.overlaps[culet/api.Piece]"], unfollowed := true, recurses := true, apart := false, narrowed := true }
def ParcelKeptUptoSaid : Prop := parcelKeptUptoRow.holds Try.pinned (OpenSpec.upto parcelKeptSpec)

/-- 'culetlaw53.ParcelInverse', WHERE WHAT IT READS IS OF BULK AT MOST 1048576: true; the input reads as it did. -/
def parcelInverseUptoRow : OpenClaim := { program := "ytncemdpmooakgaa", sum := "ab1ceb8f020201d1963af9494c0e23ad69c9ff95bad893b9327c0af3b4b2bd34", func := "culet/culetlaw53.ParcelInverse", spec := "parcelInverse", inPlace := ["internal/bytealg.abigen_runtime_cmpstring", "slices.overlaps[culet/api.Piece]"], unfollowed := true, recurses := true, apart := false, narrowed := true }
def ParcelInverseUptoSaid : Prop := parcelInverseUptoRow.holds Try.pinned (OpenSpec.upto parcelInverseSpec)

/-- 'culetlaw53.ParcelSteps', WHERE WHAT IT READS IS OF BULK AT MOST 1048576: true; the input reads as it did. -/
def parcelStepsUptoRow : OpenClaim := { program := "ytncemdpmooakgaa", sum := "ab1ceb8f020201d1963af9494c0e23ad69c9ff95bad893b9327c0af3b4b2bd34", func := "culet/culetlaw53.ParcelSteps", spec := "parcelSteps", inPlace := ["internal/bytealg.abigen_runtime_cmpstring", "slices.overlaps[culet/api.Piece]"], unfollowed := true, recurses := true, apart := false, narrowed := true }
def ParcelStepsUptoSaid : Prop := parcelStepsUptoRow.holds Try.pinned (OpenSpec.upto parcelStepsSpec)

/-- 'culetlaw53.ParcelForms', WHERE WHAT IT READS IS OF BULK AT MOST 1048576: true; the input reads as it did. -/
def parcelFormsUptoRow : OpenClaim := { program := "ytncemdpmooakgaa", sum := "ab1ceb8f020201d1963af9494c0e23ad69c9ff95bad893b9327c0af3b4b2bd34", func := "culet/culetlaw53.ParcelForms", spec := "parcelForms", inPlace := ["internal/bytealg.abigen_runtime_cmpstring", "slices.overlaps[culet/api.Piece]"], unfollowed := true, recurses := true, apart := false, narrowed := true }
def ParcelFormsUptoSaid : Prop := parcelFormsUptoRow.holds Try.pinned (OpenSpec.upto parcelFormsSpec)

end Rows
end Go.Proofs.Ytncemdpmooakgaa
