/- What parcel.Find finds, in lists. -/
import Derived.Test.YtndbchcfjajgbaaHandFind
namespace Go.Proofs.Ytndbchcfjajgbaa.XP
open Go.RowKit Go.Proofs Go.Proofs.YtndbchcfjajgbaaW.PrintWords Go.Proofs.YtndbchcfjajgbaaW.PrintLast Go.Proofs.Ytndbchcfjajgbaa.XH
set_option linter.unusedVariables false
set_option linter.unusedSimpArgs false
def fnd (l : List S24) (s : ByteArray) : S24 := if 0 ≤ idx (isId s) l 0 then rd_T24 l (idx (isId s) l 0) else z24
def hasF (l : List S24) (s : ByteArray) : Bool := decide (0 ≤ idx (isId s) l 0)
theorem find_eq (l : List S24) (s : ByteArray) : parcel_Find.f l s = some ((fnd l s).f0, (fnd l s).f1, (fnd l s).f2, (fnd l s).f3, hasF l s) := by
  unfold parcel_Find.f fnd hasF
  by_cases h : 0 ≤ idx (isId s) l 0
  · rw [if_pos h, if_pos h, decide_eq_true h]
  · rw [if_neg h, if_neg h, decide_eq_false h]; rfl
end Go.Proofs.Ytndbchcfjajgbaa.XP
