/-
  No cell of these rows narrows 'for every input' (looked for: loops, veiled, ifaces, maps, wideKeys, modest, calm, conditions, laid).
  DERIVED. THE GIVEN ROWS OF THIS SEAT. 12 by the template 'for every input the law returns true; each argument reads behind the call as it read before'; 0 by the template 'total and deterministic' (their statements: YtndbchcfjajgbaaTotals.lean).
  GIVEN WITH THE SEED: the statements are not yours to turn. If you find one false, say at which input.
  Laid BY PROGRAM, IN A SANDBOX (cutbox-rows.mjs): the forced cells as the released guide's own fill.sh prints them over the translation 1f463fc99434a1dc… (all of the seat's roots in one cut). By AI agents, Wed Nov 11 2026. No macro, syntax, notation, axiom, sorry.
-/
import Derived.Test.YtndbchcfjajgbaaChecked
import GoSem.Claim
import GoSem.ClaimJoined
import GoSem.ClaimMapViews
import Derived.JoinedTies
import Derived.KernelRfl
namespace Go.Proofs.Ytndbchcfjajgbaa
/- THE CELL 'sum', in the pinned program and in every row, IS THE sha256 OF THE DUMP (.gsa) THAT YtndbchcfjajgbaaProg.lean LOADS. Nothing in Lean hashes anything: it is a label: what it is worth is what the hold of that sum in a sandbox is worth. -/
noncomputable def Try.pinned : Pinned := { name := "ytndbchcfjajgbaa", sum := "1f463fc99434a1dc0f64e098ac140f89f2ee1dff89cf659c2a4a7050c2553457", checked := Try.checked }
namespace Rows
def none {H : Type} : Left H := { results := [], args := [] }

/-- 'culetlaw53.ParcelDo': WHATEVER THE INPUT: true; the input reads as it did. -/
def parcelDoSpec : ChangeSpec := { name := "parcelDo", fn := fun _ => fun
  | [d1, d2] => { results := [.lit (.bool true)], args := [d1, d2] }
  | _ => none }
def parcelDoRow : OpenClaim := { program := "ytndbchcfjajgbaa", sum := "1f463fc99434a1dc0f64e098ac140f89f2ee1dff89cf659c2a4a7050c2553457", func := "culet/culetlaw53.ParcelDo", spec := "parcelDo", inPlace := ["internal/bytealg.abigen_runtime_cmpstring", "slices.overlaps[culet/api.Piece]"], unfollowed := true, recurses := true, apart := false }
def ParcelDoSaid : Prop := parcelDoRow.holds Try.pinned (OpenSpec.ofChange parcelDoSpec)

/-- ITS FALSE NEIGHBOUR: 'it returns false'. Refute it at one input. -/
def parcelDoWrong : ChangeSpec := { name := "parcelDo", fn := fun _ => fun
  | [d1, d2] => { results := [.lit (.bool false)], args := [d1, d2] }
  | _ => none }
def ParcelDoWrongFalsely : Prop := parcelDoRow.holds Try.pinned (OpenSpec.ofChange parcelDoWrong)

/-- 'culetlaw53.ParcelBalance': WHATEVER THE INPUT: true; the input reads as it did. -/
def parcelBalanceSpec : ChangeSpec := { name := "parcelBalance", fn := fun _ => fun
  | [d1, d2] => { results := [.lit (.bool true)], args := [d1, d2] }
  | _ => none }
def parcelBalanceRow : OpenClaim := { program := "ytndbchcfjajgbaa", sum := "1f463fc99434a1dc0f64e098ac140f89f2ee1dff89cf659c2a4a7050c2553457", func := "culet/culetlaw53.ParcelBalance", spec := "parcelBalance", inPlace := ["internal/bytealg.abigen_runtime_cmpstring", "slices.overlaps[culet/api.Piece]"], unfollowed := true, recurses := true, apart := false }
def ParcelBalanceSaid : Prop := parcelBalanceRow.holds Try.pinned (OpenSpec.ofChange parcelBalanceSpec)

/-- ITS FALSE NEIGHBOUR: 'it returns false'. Refute it at one input. -/
def parcelBalanceWrong : ChangeSpec := { name := "parcelBalance", fn := fun _ => fun
  | [d1, d2] => { results := [.lit (.bool false)], args := [d1, d2] }
  | _ => none }
def ParcelBalanceWrongFalsely : Prop := parcelBalanceRow.holds Try.pinned (OpenSpec.ofChange parcelBalanceWrong)

/-- 'culetlaw53.ParcelKept': WHATEVER THE INPUT: true; the input reads as it did. -/
def parcelKeptSpec : ChangeSpec := { name := "parcelKept", fn := fun _ => fun
  | [d1, d2, d3] => { results := [.lit (.bool true)], args := [d1, d2, d3] }
  | _ => none }
def parcelKeptRow : OpenClaim := { program := "ytndbchcfjajgbaa", sum := "1f463fc99434a1dc0f64e098ac140f89f2ee1dff89cf659c2a4a7050c2553457", func := "culet/culetlaw53.ParcelKept", spec := "parcelKept", inPlace := ["internal/bytealg.abigen_runtime_cmpstring", "slices.overlaps[culet/api.Piece]"], unfollowed := true, recurses := true, apart := false }
def ParcelKeptSaid : Prop := parcelKeptRow.holds Try.pinned (OpenSpec.ofChange parcelKeptSpec)

/-- ITS FALSE NEIGHBOUR: 'it returns false'. Refute it at one input. -/
def parcelKeptWrong : ChangeSpec := { name := "parcelKept", fn := fun _ => fun
  | [d1, d2, d3] => { results := [.lit (.bool false)], args := [d1, d2, d3] }
  | _ => none }
def ParcelKeptWrongFalsely : Prop := parcelKeptRow.holds Try.pinned (OpenSpec.ofChange parcelKeptWrong)

/-- 'culetlaw53.ParcelInverse': WHATEVER THE INPUT: true; the input reads as it did. -/
def parcelInverseSpec : ChangeSpec := { name := "parcelInverse", fn := fun _ => fun
  | [d1, d2] => { results := [.lit (.bool true)], args := [d1, d2] }
  | _ => none }
def parcelInverseRow : OpenClaim := { program := "ytndbchcfjajgbaa", sum := "1f463fc99434a1dc0f64e098ac140f89f2ee1dff89cf659c2a4a7050c2553457", func := "culet/culetlaw53.ParcelInverse", spec := "parcelInverse", inPlace := ["internal/bytealg.abigen_runtime_cmpstring", "slices.overlaps[culet/api.Piece]"], unfollowed := true, recurses := true, apart := false }
def ParcelInverseSaid : Prop := parcelInverseRow.holds Try.pinned (OpenSpec.ofChange parcelInverseSpec)

/-- ITS FALSE NEIGHBOUR: 'it returns false'. Refute it at one input. -/
def parcelInverseWrong : ChangeSpec := { name := "parcelInverse", fn := fun _ => fun
  | [d1, d2] => { results := [.lit (.bool false)], args := [d1, d2] }
  | _ => none }
def ParcelInverseWrongFalsely : Prop := parcelInverseRow.holds Try.pinned (OpenSpec.ofChange parcelInverseWrong)

/-- 'culetlaw53.ParcelSteps': WHATEVER THE INPUT: true; the input reads as it did. -/
def parcelStepsSpec : ChangeSpec := { name := "parcelSteps", fn := fun _ => fun
  | [d1, d2] => { results := [.lit (.bool true)], args := [d1, d2] }
  | _ => none }
def parcelStepsRow : OpenClaim := { program := "ytndbchcfjajgbaa", sum := "1f463fc99434a1dc0f64e098ac140f89f2ee1dff89cf659c2a4a7050c2553457", func := "culet/culetlaw53.ParcelSteps", spec := "parcelSteps", inPlace := ["internal/bytealg.abigen_runtime_cmpstring", "slices.overlaps[culet/api.Piece]"], unfollowed := true, recurses := true, apart := false }
def ParcelStepsSaid : Prop := parcelStepsRow.holds Try.pinned (OpenSpec.ofChange parcelStepsSpec)

/-- ITS FALSE NEIGHBOUR: 'it returns false'. Refute it at one input. -/
def parcelStepsWrong : ChangeSpec := { name := "parcelSteps", fn := fun _ => fun
  | [d1, d2] => { results := [.lit (.bool false)], args := [d1, d2] }
  | _ => none }
def ParcelStepsWrongFalsely : Prop := parcelStepsRow.holds Try.pinned (OpenSpec.ofChange parcelStepsWrong)

/-- 'culetlaw53.ParcelForms': WHATEVER THE INPUT: true; the input reads as it did. -/
def parcelFormsSpec : ChangeSpec := { name := "parcelForms", fn := fun _ => fun
  | [d1, d2, d3] => { results := [.lit (.bool true)], args := [d1, d2, d3] }
  | _ => none }
def parcelFormsRow : OpenClaim := { program := "ytndbchcfjajgbaa", sum := "1f463fc99434a1dc0f64e098ac140f89f2ee1dff89cf659c2a4a7050c2553457", func := "culet/culetlaw53.ParcelForms", spec := "parcelForms", inPlace := ["internal/bytealg.abigen_runtime_cmpstring", "slices.overlaps[culet/api.Piece]"], unfollowed := true, recurses := true, apart := false }
def ParcelFormsSaid : Prop := parcelFormsRow.holds Try.pinned (OpenSpec.ofChange parcelFormsSpec)

/-- ITS FALSE NEIGHBOUR: 'it returns false'. Refute it at one input. -/
def parcelFormsWrong : ChangeSpec := { name := "parcelForms", fn := fun _ => fun
  | [d1, d2, d3] => { results := [.lit (.bool false)], args := [d1, d2, d3] }
  | _ => none }
def ParcelFormsWrongFalsely : Prop := parcelFormsRow.holds Try.pinned (OpenSpec.ofChange parcelFormsWrong)

/-- 'culetlaw54.JobDo': WHATEVER THE INPUT: true; the input reads as it did. -/
def jobDoSpec : ChangeSpec := { name := "jobDo", fn := fun _ => fun
  | [d1, d2] => { results := [.lit (.bool true)], args := [d1, d2] }
  | _ => none }
def jobDoRow : OpenClaim := { program := "ytndbchcfjajgbaa", sum := "1f463fc99434a1dc0f64e098ac140f89f2ee1dff89cf659c2a4a7050c2553457", func := "culet/culetlaw54.JobDo", spec := "jobDo", inPlace := ["internal/bytealg.abigen_runtime_cmpstring", "slices.overlaps[culet/job.Item]", "slices.overlaps[culet/api.Piece]"], unfollowed := true, recurses := true, apart := false }
def JobDoSaid : Prop := jobDoRow.holds Try.pinned (OpenSpec.ofChange jobDoSpec)

/-- ITS FALSE NEIGHBOUR: 'it returns false'. Refute it at one input. -/
def jobDoWrong : ChangeSpec := { name := "jobDo", fn := fun _ => fun
  | [d1, d2] => { results := [.lit (.bool false)], args := [d1, d2] }
  | _ => none }
def JobDoWrongFalsely : Prop := jobDoRow.holds Try.pinned (OpenSpec.ofChange jobDoWrong)

/-- 'culetlaw54.JobWeight': WHATEVER THE INPUT: true; the input reads as it did. -/
def jobWeightSpec : ChangeSpec := { name := "jobWeight", fn := fun _ => fun
  | [d1, d2] => { results := [.lit (.bool true)], args := [d1, d2] }
  | _ => none }
def jobWeightRow : OpenClaim := { program := "ytndbchcfjajgbaa", sum := "1f463fc99434a1dc0f64e098ac140f89f2ee1dff89cf659c2a4a7050c2553457", func := "culet/culetlaw54.JobWeight", spec := "jobWeight", inPlace := ["internal/bytealg.abigen_runtime_cmpstring", "slices.overlaps[culet/job.Item]", "slices.overlaps[culet/api.Piece]"], unfollowed := true, recurses := true, apart := false }
def JobWeightSaid : Prop := jobWeightRow.holds Try.pinned (OpenSpec.ofChange jobWeightSpec)

/-- ITS FALSE NEIGHBOUR: 'it returns false'. Refute it at one input. -/
def jobWeightWrong : ChangeSpec := { name := "jobWeight", fn := fun _ => fun
  | [d1, d2] => { results := [.lit (.bool false)], args := [d1, d2] }
  | _ => none }
def JobWeightWrongFalsely : Prop := jobWeightRow.holds Try.pinned (OpenSpec.ofChange jobWeightWrong)

/-- 'culetlaw54.JobEarned': WHATEVER THE INPUT: true; the input reads as it did. -/
def jobEarnedSpec : ChangeSpec := { name := "jobEarned", fn := fun _ => fun
  | [d1, d2] => { results := [.lit (.bool true)], args := [d1, d2] }
  | _ => none }
def jobEarnedRow : OpenClaim := { program := "ytndbchcfjajgbaa", sum := "1f463fc99434a1dc0f64e098ac140f89f2ee1dff89cf659c2a4a7050c2553457", func := "culet/culetlaw54.JobEarned", spec := "jobEarned", inPlace := ["internal/bytealg.abigen_runtime_cmpstring", "slices.overlaps[culet/job.Item]", "slices.overlaps[culet/api.Piece]"], unfollowed := true, recurses := true, apart := false }
def JobEarnedSaid : Prop := jobEarnedRow.holds Try.pinned (OpenSpec.ofChange jobEarnedSpec)

/-- ITS FALSE NEIGHBOUR: 'it returns false'. Refute it at one input. -/
def jobEarnedWrong : ChangeSpec := { name := "jobEarned", fn := fun _ => fun
  | [d1, d2] => { results := [.lit (.bool false)], args := [d1, d2] }
  | _ => none }
def JobEarnedWrongFalsely : Prop := jobEarnedRow.holds Try.pinned (OpenSpec.ofChange jobEarnedWrong)

/-- 'culetlaw54.JobCancelled': WHATEVER THE INPUT: true; the input reads as it did. -/
def jobCancelledSpec : ChangeSpec := { name := "jobCancelled", fn := fun _ => fun
  | [d1, d2, d3] => { results := [.lit (.bool true)], args := [d1, d2, d3] }
  | _ => none }
def jobCancelledRow : OpenClaim := { program := "ytndbchcfjajgbaa", sum := "1f463fc99434a1dc0f64e098ac140f89f2ee1dff89cf659c2a4a7050c2553457", func := "culet/culetlaw54.JobCancelled", spec := "jobCancelled", inPlace := ["internal/bytealg.abigen_runtime_cmpstring", "slices.overlaps[culet/job.Item]", "slices.overlaps[culet/api.Piece]"], unfollowed := true, recurses := true, apart := false }
def JobCancelledSaid : Prop := jobCancelledRow.holds Try.pinned (OpenSpec.ofChange jobCancelledSpec)

/-- ITS FALSE NEIGHBOUR: 'it returns false'. Refute it at one input. -/
def jobCancelledWrong : ChangeSpec := { name := "jobCancelled", fn := fun _ => fun
  | [d1, d2, d3] => { results := [.lit (.bool false)], args := [d1, d2, d3] }
  | _ => none }
def JobCancelledWrongFalsely : Prop := jobCancelledRow.holds Try.pinned (OpenSpec.ofChange jobCancelledWrong)

/-- 'culetlaw54.JobCommute': WHATEVER THE INPUT: true; the input reads as it did. -/
def jobCommuteSpec : ChangeSpec := { name := "jobCommute", fn := fun _ => fun
  | [d1, d2, d3] => { results := [.lit (.bool true)], args := [d1, d2, d3] }
  | _ => none }
def jobCommuteRow : OpenClaim := { program := "ytndbchcfjajgbaa", sum := "1f463fc99434a1dc0f64e098ac140f89f2ee1dff89cf659c2a4a7050c2553457", func := "culet/culetlaw54.JobCommute", spec := "jobCommute", inPlace := ["internal/bytealg.abigen_runtime_cmpstring", "slices.overlaps[culet/job.Item]", "slices.overlaps[culet/api.Piece]"], unfollowed := true, recurses := true, apart := false }
def JobCommuteSaid : Prop := jobCommuteRow.holds Try.pinned (OpenSpec.ofChange jobCommuteSpec)

/-- ITS FALSE NEIGHBOUR: 'it returns false'. Refute it at one input. -/
def jobCommuteWrong : ChangeSpec := { name := "jobCommute", fn := fun _ => fun
  | [d1, d2, d3] => { results := [.lit (.bool false)], args := [d1, d2, d3] }
  | _ => none }
def JobCommuteWrongFalsely : Prop := jobCommuteRow.holds Try.pinned (OpenSpec.ofChange jobCommuteWrong)

/-- 'culetlaw54.JobForms': WHATEVER THE INPUT: true; the input reads as it did. -/
def jobFormsSpec : ChangeSpec := { name := "jobForms", fn := fun _ => fun
  | [d1, d2, d3] => { results := [.lit (.bool true)], args := [d1, d2, d3] }
  | _ => none }
def jobFormsRow : OpenClaim := { program := "ytndbchcfjajgbaa", sum := "1f463fc99434a1dc0f64e098ac140f89f2ee1dff89cf659c2a4a7050c2553457", func := "culet/culetlaw54.JobForms", spec := "jobForms", inPlace := ["internal/bytealg.abigen_runtime_cmpstring", "slices.overlaps[culet/job.Item]", "slices.overlaps[culet/api.Piece]"], unfollowed := true, recurses := true, apart := false }
def JobFormsSaid : Prop := jobFormsRow.holds Try.pinned (OpenSpec.ofChange jobFormsSpec)

/-- ITS FALSE NEIGHBOUR: 'it returns false'. Refute it at one input. -/
def jobFormsWrong : ChangeSpec := { name := "jobForms", fn := fun _ => fun
  | [d1, d2, d3] => { results := [.lit (.bool false)], args := [d1, d2, d3] }
  | _ => none }
def JobFormsWrongFalsely : Prop := jobFormsRow.holds Try.pinned (OpenSpec.ofChange jobFormsWrong)

/- THE SECOND FORM. 'bulk': how many values and letters a reading holds, each counted each time it is reached (what is shared counts as often as it is met; a slice's spare places count too). A statement '..UptoSaid' is the law's where the arguments, and the package variables that the reading takes, are together of bulk at most 1048576: NARROWER than '..Said'. Prove '..Said' where nothing that the law and all that it calls make is longer than what came in: it says more and counts as full. Else prove '..UptoSaid'. A law counts once. -/
mutual
def uptoBulk {H : Type} : DataW H → Nat
  | .lit (.string bytes) => bytes.length + 1
  | .lit _ => 1
  | .nil => 1
  | .ptr d => uptoBulk d + 1
  | .slice elems spare => uptoBulkAll elems + uptoBulkAll spare + 1
  | .agg parts => uptoBulkAll parts + 1
  | .iface _ d => uptoBulk d + 1
  | .map entries => uptoBulkEntries entries + 1
  | .held _ => 1
def uptoBulkAll {H : Type} : List (DataW H) → Nat
  | [] => 0
  | d :: r => uptoBulk d + uptoBulkAll r
def uptoBulkEntries {H : Type} : List (Lit × DataW H) → Nat
  | [] => 0
  | x :: r => uptoBulkEntry x + uptoBulkEntries r
def uptoBulkEntry {H : Type} : Lit × DataW H → Nat
  | (.string bytes, d) => bytes.length + uptoBulk d + 1
  | (_, d) => uptoBulk d + 1
 end
def uptoSmall : (H : Type) → List (DataW H) → Bool := fun _ ds => decide (uptoBulkAll ds ≤ 1048576)
def OpenSpec.upto (s : _root_.Go.ChangeSpec) : _root_.Go.OpenSpec := { _root_.Go.OpenSpec.ofChange s with cond := some uptoSmall }

/-- 'culetlaw53.ParcelDo', WHERE WHAT IT READS IS OF BULK AT MOST 1048576: true; the input reads as it did. -/
def parcelDoUptoRow : OpenClaim := { program := "ytndbchcfjajgbaa", sum := "1f463fc99434a1dc0f64e098ac140f89f2ee1dff89cf659c2a4a7050c2553457", func := "culet/culetlaw53.ParcelDo", spec := "parcelDo", inPlace := ["internal/bytealg.abigen_runtime_cmpstring", "slices.overlaps[culet/api.Piece]"], unfollowed := true, recurses := true, apart := false, narrowed := true }
def ParcelDoUptoSaid : Prop := parcelDoUptoRow.holds Try.pinned (OpenSpec.upto parcelDoSpec)

/-- 'culetlaw53.ParcelBalance', WHERE WHAT IT READS IS OF BULK AT MOST 1048576: true; the input reads as it did. -/
def parcelBalanceUptoRow : OpenClaim := { program := "ytndbchcfjajgbaa", sum := "1f463fc99434a1dc0f64e098ac140f89f2ee1dff89cf659c2a4a7050c2553457", func := "culet/culetlaw53.ParcelBalance", spec := "parcelBalance", inPlace := ["internal/bytealg.abigen_runtime_cmpstring", "slices.overlaps[culet/api.Piece]"], unfollowed := true, recurses := true, apart := false, narrowed := true }
def ParcelBalanceUptoSaid : Prop := parcelBalanceUptoRow.holds Try.pinned (OpenSpec.upto parcelBalanceSpec)

/-- 'culetlaw53.ParcelKept', WHERE WHAT IT READS IS OF BULK AT MOST 1048576: true; the input reads as it did. -/
def parcelKeptUptoRow : OpenClaim := { program := "ytndbchcfjajgbaa", sum := "1f463fc99434a1dc0f64e098ac140f89f2ee1dff89cf659c2a4a7050c2553457", func := "culet/culetlaw53.ParcelKept", spec := "parcelKept", inPlace := ["internal/bytealg.abigen_runtime_cmpstring", "slices.overlaps[culet/api.Piece]"], unfollowed := true, recurses := true, apart := false, narrowed := true }
def ParcelKeptUptoSaid : Prop := parcelKeptUptoRow.holds Try.pinned (OpenSpec.upto parcelKeptSpec)

/-- 'culetlaw53.ParcelInverse', WHERE WHAT IT READS IS OF BULK AT MOST 1048576: true; the input reads as it did. -/
def parcelInverseUptoRow : OpenClaim := { program := "ytndbchcfjajgbaa", sum := "1f463fc99434a1dc0f64e098ac140f89f2ee1dff89cf659c2a4a7050c2553457", func := "culet/culetlaw53.ParcelInverse", spec := "parcelInverse", inPlace := ["internal/bytealg.abigen_runtime_cmpstring", "slices.overlaps[culet/api.Piece]"], unfollowed := true, recurses := true, apart := false, narrowed := true }
def ParcelInverseUptoSaid : Prop := parcelInverseUptoRow.holds Try.pinned (OpenSpec.upto parcelInverseSpec)

/-- 'culetlaw53.ParcelSteps', WHERE WHAT IT READS IS OF BULK AT MOST 1048576: true; the input reads as it did. -/
def parcelStepsUptoRow : OpenClaim := { program := "ytndbchcfjajgbaa", sum := "1f463fc99434a1dc0f64e098ac140f89f2ee1dff89cf659c2a4a7050c2553457", func := "culet/culetlaw53.ParcelSteps", spec := "parcelSteps", inPlace := ["internal/bytealg.abigen_runtime_cmpstring", "slices.overlaps[culet/api.Piece]"], unfollowed := true, recurses := true, apart := false, narrowed := true }
def ParcelStepsUptoSaid : Prop := parcelStepsUptoRow.holds Try.pinned (OpenSpec.upto parcelStepsSpec)

/-- 'culetlaw53.ParcelForms', WHERE WHAT IT READS IS OF BULK AT MOST 1048576: true; the input reads as it did. -/
def parcelFormsUptoRow : OpenClaim := { program := "ytndbchcfjajgbaa", sum := "1f463fc99434a1dc0f64e098ac140f89f2ee1dff89cf659c2a4a7050c2553457", func := "culet/culetlaw53.ParcelForms", spec := "parcelForms", inPlace := ["internal/bytealg.abigen_runtime_cmpstring", "slices.overlaps[culet/api.Piece]"], unfollowed := true, recurses := true, apart := false, narrowed := true }
def ParcelFormsUptoSaid : Prop := parcelFormsUptoRow.holds Try.pinned (OpenSpec.upto parcelFormsSpec)

/-- 'culetlaw54.JobDo', WHERE WHAT IT READS IS OF BULK AT MOST 1048576: true; the input reads as it did. -/
def jobDoUptoRow : OpenClaim := { program := "ytndbchcfjajgbaa", sum := "1f463fc99434a1dc0f64e098ac140f89f2ee1dff89cf659c2a4a7050c2553457", func := "culet/culetlaw54.JobDo", spec := "jobDo", inPlace := ["internal/bytealg.abigen_runtime_cmpstring", "slices.overlaps[culet/job.Item]", "slices.overlaps[culet/api.Piece]"], unfollowed := true, recurses := true, apart := false, narrowed := true }
def JobDoUptoSaid : Prop := jobDoUptoRow.holds Try.pinned (OpenSpec.upto jobDoSpec)

/-- 'culetlaw54.JobWeight', WHERE WHAT IT READS IS OF BULK AT MOST 1048576: true; the input reads as it did. -/
def jobWeightUptoRow : OpenClaim := { program := "ytndbchcfjajgbaa", sum := "1f463fc99434a1dc0f64e098ac140f89f2ee1dff89cf659c2a4a7050c2553457", func := "culet/culetlaw54.JobWeight", spec := "jobWeight", inPlace := ["internal/bytealg.abigen_runtime_cmpstring", "slices.overlaps[culet/job.Item]", "slices.overlaps[culet/api.Piece]"], unfollowed := true, recurses := true, apart := false, narrowed := true }
def JobWeightUptoSaid : Prop := jobWeightUptoRow.holds Try.pinned (OpenSpec.upto jobWeightSpec)

/-- 'culetlaw54.JobEarned', WHERE WHAT IT READS IS OF BULK AT MOST 1048576: true; the input reads as it did. -/
def jobEarnedUptoRow : OpenClaim := { program := "ytndbchcfjajgbaa", sum := "1f463fc99434a1dc0f64e098ac140f89f2ee1dff89cf659c2a4a7050c2553457", func := "culet/culetlaw54.JobEarned", spec := "jobEarned", inPlace := ["internal/bytealg.abigen_runtime_cmpstring", "slices.overlaps[culet/job.Item]", "slices.overlaps[culet/api.Piece]"], unfollowed := true, recurses := true, apart := false, narrowed := true }
def JobEarnedUptoSaid : Prop := jobEarnedUptoRow.holds Try.pinned (OpenSpec.upto jobEarnedSpec)

/-- 'culetlaw54.JobCancelled', WHERE WHAT IT READS IS OF BULK AT MOST 1048576: true; the input reads as it did. -/
def jobCancelledUptoRow : OpenClaim := { program := "ytndbchcfjajgbaa", sum := "1f463fc99434a1dc0f64e098ac140f89f2ee1dff89cf659c2a4a7050c2553457", func := "culet/culetlaw54.JobCancelled", spec := "jobCancelled", inPlace := ["internal/bytealg.abigen_runtime_cmpstring", "slices.overlaps[culet/job.Item]", "slices.overlaps[culet/api.Piece]"], unfollowed := true, recurses := true, apart := false, narrowed := true }
def JobCancelledUptoSaid : Prop := jobCancelledUptoRow.holds Try.pinned (OpenSpec.upto jobCancelledSpec)

/-- 'culetlaw54.JobCommute', WHERE WHAT IT READS IS OF BULK AT MOST 1048576: true; the input reads as it did. -/
def jobCommuteUptoRow : OpenClaim := { program := "ytndbchcfjajgbaa", sum := "1f463fc99434a1dc0f64e098ac140f89f2ee1dff89cf659c2a4a7050c2553457", func := "culet/culetlaw54.JobCommute", spec := "jobCommute", inPlace := ["internal/bytealg.abigen_runtime_cmpstring", "slices.overlaps[culet/job.Item]", "slices.overlaps[culet/api.Piece]"], unfollowed := true, recurses := true, apart := false, narrowed := true }
def JobCommuteUptoSaid : Prop := jobCommuteUptoRow.holds Try.pinned (OpenSpec.upto jobCommuteSpec)

/-- 'culetlaw54.JobForms', WHERE WHAT IT READS IS OF BULK AT MOST 1048576: true; the input reads as it did. -/
def jobFormsUptoRow : OpenClaim := { program := "ytndbchcfjajgbaa", sum := "1f463fc99434a1dc0f64e098ac140f89f2ee1dff89cf659c2a4a7050c2553457", func := "culet/culetlaw54.JobForms", spec := "jobForms", inPlace := ["internal/bytealg.abigen_runtime_cmpstring", "slices.overlaps[culet/job.Item]", "slices.overlaps[culet/api.Piece]"], unfollowed := true, recurses := true, apart := false, narrowed := true }
def JobFormsUptoSaid : Prop := jobFormsUptoRow.holds Try.pinned (OpenSpec.upto jobFormsSpec)

end Rows
end Go.Proofs.Ytndbchcfjajgbaa
