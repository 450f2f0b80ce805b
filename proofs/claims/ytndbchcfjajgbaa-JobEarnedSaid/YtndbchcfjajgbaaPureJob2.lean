/- Shops, by keys: weights, what was earned, and that a right shop stays one. Plain lists. -/
import Derived.Test.YtndbchcfjajgbaaPureJob
namespace Go.Proofs.Ytndbchcfjajgbaa.XP
open Go Go.RowKit
set_option linter.unusedVariables false
set_option linter.unusedSimpArgs false
section
variable {d : Int} {l : List S99} {mm : List S24} {e t : Int} {ek ed : Int} {j : S81} {id : ByteArray} {wt : Int} {l' : List S99} {m' : List S24} {e' t' : Int}
def price (x : S99) : Int := if x.f1 = 4 then x.f0.f4 else 0
def late (x : S99) : Int := if x.f1 = 4 then max 0 (wrap64 (x.f2 - x.f0.f3)) else 0
theorem wrap_add (a b : Int) : wrap64 (wrap64 a + b) = wrap64 (a + b) := by unfold wrap64; omega
/-- What was earned, and how late. -/
theorem step_earned (hr : rightS d l mm e t = true) (H : StepJ l mm e t ek ed j id wt l' m' e' t') (he : e = wrap64 (sumL price l)) (ht : t = wrap64 (sumL late l)) : e' = wrap64 (sumL price l') ∧ t' = wrap64 (sumL late l') := by
  obtain ⟨_, _, _, _, hv, hI, hS, _⟩ := (rightS_iff d l mm e t).1 hr
  rcases H with ⟨_, _, _, _, _, rfl, rfl, rfl, rfl⟩ | ⟨_, x, y, hx, hSt, _, _, rfl⟩
  · unfold insJ
    rw [sumL_put, sumL_put, he, ht]
    simp [newItem, price, late]
  · have hat := posK_at (key := kI) hS hx
    rw [sumL_set price l _ x y hat, sumL_set late l _ x y hat]
    rcases hSt with ⟨_, h1, ⟨p, hp, rfl, rfl⟩, rfl, rfl⟩ | ⟨_, h1, _, _, rfl, rfl, rfl, rfl⟩ | ⟨_, h1, rfl, rfl, rfl, rfl⟩ | ⟨_, h1, rfl, rfl, rfl, rfl⟩ | ⟨_, h1, rfl, h2, h3, rfl, rfl, rfl⟩
    · simp [price, late, h1, he, ht]
    · simp [price, late, h1, he, ht]
    · rw [he, ht, wrap_add, wrap_add]
      simp [price, late, h1]
    · simp [price, late, h1, he, ht]
    · simp [price, late, h1, he, ht]
theorem step_len (hr : rightS d l mm e t = true) (H : StepJ l mm e t ek ed j id wt l' m' e' t') : l'.length ≤ 61 ∧ m'.length ≤ 101 := by
  obtain ⟨_, h60, _, _, hv, hI, hS, _⟩ := (rightS_iff d l mm e t).1 hr
  have h100 := ((validB_iff mm).1 hv).2.2
  rcases H with ⟨_, _, _, _, _, rfl, rfl, _, _⟩ | ⟨_, x, y, hx, hSt, _, _, rfl⟩
  · refine ⟨?_, by omega⟩
    unfold insJ
    simp only [List.length_append, List.length_take, List.length_cons, List.length_drop]; omega
  · rw [List.length_set]
    refine ⟨by omega, ?_⟩
    rcases hSt with ⟨_, h1, ⟨p, hp, rfl, rfl⟩, rfl, rfl⟩ | ⟨_, h1, _, _, rfl, rfl, rfl, rfl⟩ | ⟨_, h1, rfl, rfl, rfl, rfl⟩ | ⟨_, h1, rfl, rfl, rfl, rfl⟩ | ⟨_, h1, rfl, h2, h3, rfl, rfl, rfl⟩
    · rw [List.length_eraseIdx]; split <;> omega
    · omega
    · omega
    · omega
    · unfold insP
      simp only [List.length_append, List.length_take, List.length_cons, List.length_drop]; omega
end
end Go.Proofs.Ytndbchcfjajgbaa.XP
