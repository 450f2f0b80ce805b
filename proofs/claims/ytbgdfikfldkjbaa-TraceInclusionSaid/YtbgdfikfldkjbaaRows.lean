/-
  No cell of these rows narrows 'for every input' (looked for: loops, veiled, ifaces, maps, wideKeys, modest, calm, conditions, laid).
  DERIVED. THE GIVEN ROWS OF THIS SEAT. 5 by the template 'for every input the law returns true; each argument reads behind the call as it read before'; 0 by the template 'total and deterministic' (their statements: YtbgdfikfldkjbaaTotals.lean).
  GIVEN WITH THE SEED: the statements are not yours to turn. If you find one false, say at which input.
  Laid BY PROGRAM, IN A SANDBOX (cutbox-rows.mjs): the forced cells as the released guide's own fill.sh prints them over the translation c75d77494b1a177f… (all of the seat's roots in one cut). By AI agents, Wed Nov 11 2026. No macro, syntax, notation, axiom, sorry.
-/
import Derived.Test.YtbgdfikfldkjbaaChecked
import GoSem.Claim
import GoSem.ClaimJoined
import GoSem.ClaimMapViews
import Derived.JoinedTies
import Derived.KernelRfl
namespace Go.Proofs.Ytbgdfikfldkjbaa
/- THE CELL 'sum', in the pinned program and in every row, IS THE sha256 OF THE DUMP (.gsa) THAT YtbgdfikfldkjbaaProg.lean LOADS. Nothing in Lean hashes anything: it is a label: what it is worth is what the hold of that sum in a sandbox is worth. -/
noncomputable def Try.pinned : Pinned := { name := "ytbgdfikfldkjbaa", sum := "c75d77494b1a177f275b5cd8b71d3accd52cd3b97f6e47122b2267711c55890d", checked := Try.checked }
namespace Rows
def none {H : Type} : Left H := { results := [], args := [] }

/-- 'culetlaw31.TracePoint': WHATEVER THE INPUT: true; the input reads as it did. -/
def tracePointSpec : ChangeSpec := { name := "tracePoint", fn := fun _ => fun
  | [d1, d2] => { results := [.lit (.bool true)], args := [d1, d2] }
  | _ => none }
def tracePointRow : OpenClaim := { program := "ytbgdfikfldkjbaa", sum := "c75d77494b1a177f275b5cd8b71d3accd52cd3b97f6e47122b2267711c55890d", func := "culet/culetlaw31.TracePoint", spec := "tracePoint", unfollowed := true, recurses := true, apart := false }
def TracePointSaid : Prop := tracePointRow.holds Try.pinned (OpenSpec.ofChange tracePointSpec)

/-- ITS FALSE NEIGHBOUR: 'it returns false'. Refute it at one input. -/
def tracePointWrong : ChangeSpec := { name := "tracePoint", fn := fun _ => fun
  | [d1, d2] => { results := [.lit (.bool false)], args := [d1, d2] }
  | _ => none }
def TracePointWrongFalsely : Prop := tracePointRow.holds Try.pinned (OpenSpec.ofChange tracePointWrong)

/-- 'culetlaw31.TraceScale': WHATEVER THE INPUT: true; the input reads as it did. -/
def traceScaleSpec : ChangeSpec := { name := "traceScale", fn := fun _ => fun
  | [d1, d2] => { results := [.lit (.bool true)], args := [d1, d2] }
  | _ => none }
def traceScaleRow : OpenClaim := { program := "ytbgdfikfldkjbaa", sum := "c75d77494b1a177f275b5cd8b71d3accd52cd3b97f6e47122b2267711c55890d", func := "culet/culetlaw31.TraceScale", spec := "traceScale", unfollowed := true, recurses := true, apart := false }
def TraceScaleSaid : Prop := traceScaleRow.holds Try.pinned (OpenSpec.ofChange traceScaleSpec)

/-- ITS FALSE NEIGHBOUR: 'it returns false'. Refute it at one input. -/
def traceScaleWrong : ChangeSpec := { name := "traceScale", fn := fun _ => fun
  | [d1, d2] => { results := [.lit (.bool false)], args := [d1, d2] }
  | _ => none }
def TraceScaleWrongFalsely : Prop := traceScaleRow.holds Try.pinned (OpenSpec.ofChange traceScaleWrong)

/-- 'culetlaw31.TraceInside': WHATEVER THE INPUT: true; the input reads as it did. -/
def traceInsideSpec : ChangeSpec := { name := "traceInside", fn := fun _ => fun
  | [d1, d2] => { results := [.lit (.bool true)], args := [d1, d2] }
  | _ => none }
def traceInsideRow : OpenClaim := { program := "ytbgdfikfldkjbaa", sum := "c75d77494b1a177f275b5cd8b71d3accd52cd3b97f6e47122b2267711c55890d", func := "culet/culetlaw31.TraceInside", spec := "traceInside", unfollowed := true, recurses := true, apart := false }
def TraceInsideSaid : Prop := traceInsideRow.holds Try.pinned (OpenSpec.ofChange traceInsideSpec)

/-- ITS FALSE NEIGHBOUR: 'it returns false'. Refute it at one input. -/
def traceInsideWrong : ChangeSpec := { name := "traceInside", fn := fun _ => fun
  | [d1, d2] => { results := [.lit (.bool false)], args := [d1, d2] }
  | _ => none }
def TraceInsideWrongFalsely : Prop := traceInsideRow.holds Try.pinned (OpenSpec.ofChange traceInsideWrong)

/-- 'culetlaw31.TraceInclusion': WHATEVER THE INPUT: true; the input reads as it did. -/
def traceInclusionSpec : ChangeSpec := { name := "traceInclusion", fn := fun _ => fun
  | [d1, d2, d3] => { results := [.lit (.bool true)], args := [d1, d2, d3] }
  | _ => none }
def traceInclusionRow : OpenClaim := { program := "ytbgdfikfldkjbaa", sum := "c75d77494b1a177f275b5cd8b71d3accd52cd3b97f6e47122b2267711c55890d", func := "culet/culetlaw31.TraceInclusion", spec := "traceInclusion", unfollowed := true, recurses := true, apart := false }
def TraceInclusionSaid : Prop := traceInclusionRow.holds Try.pinned (OpenSpec.ofChange traceInclusionSpec)

/-- ITS FALSE NEIGHBOUR: 'it returns false'. Refute it at one input. -/
def traceInclusionWrong : ChangeSpec := { name := "traceInclusion", fn := fun _ => fun
  | [d1, d2, d3] => { results := [.lit (.bool false)], args := [d1, d2, d3] }
  | _ => none }
def TraceInclusionWrongFalsely : Prop := traceInclusionRow.holds Try.pinned (OpenSpec.ofChange traceInclusionWrong)

/-- 'culetlaw31.TraceLight': WHATEVER THE INPUT: true; the input reads as it did. -/
def traceLightSpec : ChangeSpec := { name := "traceLight", fn := fun _ => fun
  | [d1, d2, d3] => { results := [.lit (.bool true)], args := [d1, d2, d3] }
  | _ => none }
def traceLightRow : OpenClaim := { program := "ytbgdfikfldkjbaa", sum := "c75d77494b1a177f275b5cd8b71d3accd52cd3b97f6e47122b2267711c55890d", func := "culet/culetlaw31.TraceLight", spec := "traceLight", unfollowed := true, recurses := true, apart := false }
def TraceLightSaid : Prop := traceLightRow.holds Try.pinned (OpenSpec.ofChange traceLightSpec)

/-- ITS FALSE NEIGHBOUR: 'it returns false'. Refute it at one input. -/
def traceLightWrong : ChangeSpec := { name := "traceLight", fn := fun _ => fun
  | [d1, d2, d3] => { results := [.lit (.bool false)], args := [d1, d2, d3] }
  | _ => none }
def TraceLightWrongFalsely : Prop := traceLightRow.holds Try.pinned (OpenSpec.ofChange traceLightWrong)

/- THE SECOND FORM. 'bulk': how many values and letters a reading holds, each counted each time it is reached (what is shared counts as often as it is met; a slice's spare places count too). A statement '..UptoSaid' is the law's where the arguments, and the package variables that the reading takes, are together of bulk at most 1048576: NARROWER than '..Said'. Prove '..Said' where nothing that the law and all that it calls make is longer than what came in: it says more and counts as full. Else prove '..UptoSaid'. A law counts once. -/
mutual
def uptoBulk {H : Type} : DataW H → Nat
  | .lit (.string bytes) => bytes.length + 1
  | .lit _ => 1
  | .nil => 1
  | .ptr d => uptoBulk d + 1
  | .slice elems spare => uptoBulkAll elems + uptoBulkAll spare + 1
  | .agg parts => uptoBulkAll parts + 1
  | .iface _ d => uptoBulk d + 1
  | .map entries => uptoBulkEntries entries + 1
  | .held _ => 1
def uptoBulkAll {H : Type} : List (DataW H) → Nat
  | [] => 0
  | d :: r => uptoBulk d + uptoBulkAll r
def uptoBulkEntries {H : Type} : List (Lit × DataW H) → Nat
  | [] => 0
  | x :: r => uptoBulkEntry x + uptoBulkEntries r
def uptoBulkEntry {H : Type} : Lit × DataW H → Nat
  | (.string bytes, d) => bytes.length + uptoBulk d + 1
  | (_, d) => uptoBulk d + 1
 end
def uptoSmall : (H : Type) → List (DataW H) → Bool := fun _ ds => decide (uptoBulkAll ds ≤ 1048576)
def OpenSpec.upto (s : _root_.Go.ChangeSpec) : _root_.Go.OpenSpec := { _root_.Go.OpenSpec.ofChange s with cond := some uptoSmall }

/-- 'culetlaw31.TracePoint', WHERE WHAT IT READS IS OF BULK AT MOST 1048576: true; the input reads as it did. -/
def tracePointUptoRow : OpenClaim := { program := "ytbgdfikfldkjbaa", sum := "c75d77494b1a177f275b5cd8b71d3accd52cd3b97f6e47122b2267711c55890d", func := "culet/culetlaw31.TracePoint", spec := "tracePoint", unfollowed := true, recurses := true, apart := false, narrowed := true }
def TracePointUptoSaid : Prop := tracePointUptoRow.holds Try.pinned (OpenSpec.upto tracePointSpec)

/-- 'culetlaw31.TraceScale', WHERE WHAT IT READS IS OF BULK AT MOST 1048576: true; the input reads as it did. -/
def traceScaleUptoRow : OpenClaim := { program := "ytbgdfikfldkjbaa", sum := "c75d77494b1a177f275b5cd8b71d3accd52cd3b97f6e47122b2267711c55890d", func := "culet/culetlaw31.TraceScale", spec := "traceScale", unfollowed := true, recurses := true, apart := false, narrowed := true }
def TraceScaleUptoSaid : Prop := traceScaleUptoRow.holds Try.pinned (OpenSpec.upto traceScaleSpec)

/-- 'culetlaw31.TraceInside', WHERE WHAT IT READS IS OF BULK AT MOST 1048576: true; the input reads as it did. -/
def traceInsideUptoRow : OpenClaim := { program := "ytbgdfikfldkjbaa", sum := "c75d77494b1a177f275b5cd8b71d3accd52cd3b97f6e47122b2267711c55890d", func := "culet/culetlaw31.TraceInside", spec := "traceInside", unfollowed := true, recurses := true, apart := false, narrowed := true }
def TraceInsideUptoSaid : Prop := traceInsideUptoRow.holds Try.pinned (OpenSpec.upto traceInsideSpec)

/-- 'culetlaw31.TraceInclusion', WHERE WHAT IT READS IS OF BULK AT MOST 1048576: true; the input reads as it did. -/
def traceInclusionUptoRow : OpenClaim := { program := "ytbgdfikfldkjbaa", sum := "c75d77494b1a177f275b5cd8b71d3accd52cd3b97f6e47122b2267711c55890d", func := "culet/culetlaw31.TraceInclusion", spec := "traceInclusion", unfollowed := true, recurses := true, apart := false, narrowed := true }
def TraceInclusionUptoSaid : Prop := traceInclusionUptoRow.holds Try.pinned (OpenSpec.upto traceInclusionSpec)

/-- 'culetlaw31.TraceLight', WHERE WHAT IT READS IS OF BULK AT MOST 1048576: true; the input reads as it did. -/
def traceLightUptoRow : OpenClaim := { program := "ytbgdfikfldkjbaa", sum := "c75d77494b1a177f275b5cd8b71d3accd52cd3b97f6e47122b2267711c55890d", func := "culet/culetlaw31.TraceLight", spec := "traceLight", unfollowed := true, recurses := true, apart := false, narrowed := true }
def TraceLightUptoSaid : Prop := traceLightUptoRow.holds Try.pinned (OpenSpec.upto traceLightSpec)

end Rows
end Go.Proofs.Ytbgdfikfldkjbaa
