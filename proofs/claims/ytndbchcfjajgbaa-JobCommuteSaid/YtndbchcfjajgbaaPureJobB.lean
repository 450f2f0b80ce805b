/- Items and shops: what the program says of them, in lists. -/
import Derived.Test.YtndbchcfjajgbaaHandValid
import Derived.Test.YtndbchcfjajgbaaHandTaken
import Derived.Test.YtndbchcfjajgbaaHandBsI
import Derived.Test.YtndbchcfjajgbaaXP10
import Derived.Test.YtndbchcfjajgbaaXP11
namespace Go.Proofs.Ytndbchcfjajgbaa.XP
open Go Go.RowKit Go.Proofs Go.Proofs.YtndbchcfjajgbaaW.PrintWords Go.Proofs.YtndbchcfjajgbaaW.PrintLast
set_option linter.unusedVariables false
set_option linter.unusedSimpArgs false
def dayB (n : Int) : Bool := decide (0 ≤ n) && decide (n ≤ 100000)
theorem day_eq (n : Int) : job_day.f n = some (dayB n) := by
  unfold job_day.f dayB
  by_cases h : n ≥ 0
  · rw [if_pos h, decide_eq_true (show 0 ≤ n from h)]; rfl
  · rw [if_neg h, decide_eq_false (show ¬ 0 ≤ n from h)]; rfl
def validJ (x : S81) : Bool := nameB x.f0 && (nameB x.f1 && (nameB x.f2 && (dayB x.f3 && (decide (0 ≤ x.f4) && decide (x.f4 ≤ 1000000)))))
theorem validJ_eq (x : S81) : job_Valid.f x.f0 x.f1 x.f2 x.f3 x.f4 = some (validJ x) := by
  unfold job_Valid.f validJ
  rw [isName_eq, isName_eq, isName_eq, day_eq]
  simp only [Option.bind_some]
  cases nameB x.f0
  · rfl
  cases nameB x.f1
  · rfl
  cases nameB x.f2
  · rfl
  cases dayB x.f3
  · rfl
  simp only [if_true, Bool.true_and]
  by_cases h : x.f4 ≥ 0
  · rw [if_pos h, decide_eq_true (show 0 ≤ x.f4 from h)]; rfl
  · rw [if_neg h, decide_eq_false (show ¬ 0 ≤ x.f4 from h)]; rfl
def zeroP (x : S24) : Bool := x.f0.toList == ([] : List UInt8) && (x.f1.toList == ([] : List UInt8) && (x.f2 == 0 && (x.f3 == 0)))
/-- An item's numbers, by its status. -/
def statJ (x : S99) : Bool :=
  if x.f1 = 1 ∨ x.f1 = 5 then decide (x.f3 = 0) && (decide (x.f4 = 0) && zeroP x.f5)
  else if x.f1 = 2 then decide (1 ≤ x.f3) && (decide (x.f4 = 0) && (validB [x.f5] && (decide (x.f5.f0 = x.f0.f1) && decide (x.f5.f2 = x.f3))))
  else if x.f1 = 3 ∨ x.f1 = 4 then decide (1 ≤ x.f4) && (decide (x.f4 ≤ x.f3) && zeroP x.f5)
  else false
def rightJ (x : S99) (t : Int) : Bool := validJ x.f0 && (decide (0 ≤ x.f2) && (decide (x.f2 ≤ t) && statJ x))
theorem validB1 (p : S24) (k : Nat) : parcel_Valid.f (k + 2) [(⟨p.f0, p.f1, p.f2, p.f3⟩ : S24)] = some (validB [p]) := by
  have := valid_loop [p] (by simp) 1 0 (k + 2) rfl (by omega)
  unfold parcel_Valid.f validB
  simpa using this
theorem j3_eq (k : Nat) (x7 b : Bool) (x : S99) : job_right.j3 (k + 3) x7 b x.f0.f0 x.f0.f1 x.f0.f2 x.f0.f3 x.f0.f4 x.f1 x.f2 x.f3 x.f4 x.f5.f0 x.f5.f1 x.f5.f2 x.f5.f3 = some (!b && (if x7 = true then validB [x.f5] && (decide (x.f5.f0 = x.f0.f1) && decide (x.f5.f2 = x.f3)) else zeroP x.f5)) := by
  simp only [job_right.j3]
  cases b
  · rw [if_neg (by decide), Bool.not_false, Bool.true_and]
    cases x7
    · rw [if_neg (by decide), if_neg (by decide)]; rfl
    · rw [if_pos rfl, if_pos rfl, validB1]
      simp only [Option.bind_some]
      cases validB [x.f5]
      · rfl
      · rw [if_pos rfl, Bool.true_and]
        by_cases h : x.f5.f0 = x.f0.f1
        · rw [if_pos (toList_inj.2 h), decide_eq_true h, Bool.true_and]
          congr 1
        · rw [if_neg (fun e => h (toList_inj.1 e)), decide_eq_false h]; rfl
  · rfl
theorem right54_eq (k : Nat) (x : S99) (t : Int) : job_right.f (k + 6) x.f0.f0 x.f0.f1 x.f0.f2 x.f0.f3 x.f0.f4 x.f1 x.f2 x.f3 x.f4 x.f5.f0 x.f5.f1 x.f5.f2 x.f5.f3 t = some (rightJ x t) := by
  unfold job_right.f rightJ
  rw [validJ_eq]
  simp only [Option.bind_some]
  cases validJ x.f0
  · rfl
  rw [if_pos rfl, Bool.true_and]
  by_cases h1 : x.f2 < 0
  · rw [if_pos h1, decide_eq_false (show ¬ 0 ≤ x.f2 by omega)]
    simp only [job_right.j0]
    simp
  rw [if_neg h1, decide_eq_true (show 0 ≤ x.f2 by omega), Bool.true_and]
  simp only [job_right.j0]
  have hb : ∀ b : Bool, (if b = true then (some false : Option Bool) else none) = if b = true then some false else none := fun _ => rfl
  cases hd : decide (x.f2 > t) with
  | true =>
    rw [if_pos rfl, decide_eq_false (show ¬ x.f2 ≤ t by have := of_decide_eq_true hd; omega)]; rfl
  | false =>
  rw [if_neg (by decide), decide_eq_true (show x.f2 ≤ t by have := of_decide_eq_false hd; omega), Bool.true_and]
  unfold statJ
  simp only [job_right.j1, job_right.j2, j3_eq]
  have q4 : (x.f4 < 1) = ¬ (1 ≤ x.f4) := by rw [eq_iff_iff]; omega
  have q5 : (x.f4 > x.f3) = ¬ (x.f4 ≤ x.f3) := by rw [eq_iff_iff]; omega
  have q3 : (x.f3 ≥ 1) = (1 ≤ x.f3) := rfl
  simp only [q3, q4, q5]
  generalize zeroP x.f5 = Z
  generalize validB [x.f5] = V
  generalize decide (x.f5.f0 = x.f0.f1) = A
  generalize decide (x.f5.f2 = x.f3) = B
  clear q3 q4 q5 hd h1
  by_cases e1 : x.f1 = 1
  · by_cases a1 : 1 ≤ x.f3 <;> by_cases a2 : x.f3 = 0 <;> by_cases a3 : x.f4 = 0 <;> first | omega | (simp [e1, a1, a2, a3]; done)
  by_cases e5 : x.f1 = 5
  · by_cases a1 : 1 ≤ x.f3 <;> by_cases a2 : x.f3 = 0 <;> by_cases a3 : x.f4 = 0 <;> first | omega | (simp [e5, a1, a2, a3]; done)
  by_cases e2 : x.f1 = 2
  · by_cases a1 : 1 ≤ x.f3 <;> by_cases a3 : x.f4 = 0 <;> first | omega | (simp [e2, a1, a3]; done)
  by_cases e3 : x.f1 = 3
  · by_cases a1 : 1 ≤ x.f3 <;> by_cases a4 : 1 ≤ x.f4 <;> by_cases a5 : x.f4 ≤ x.f3 <;> first | omega | (simp [e3, a1, a4, a5]; done)
  by_cases e4 : x.f1 = 4
  · by_cases a1 : 1 ≤ x.f3 <;> by_cases a4 : 1 ≤ x.f4 <;> by_cases a5 : x.f4 ≤ x.f3 <;> first | omega | (simp [e4, a1, a4, a5]; done)
  simp [e1, e2, e3, e4, e5]
end Go.Proofs.Ytndbchcfjajgbaa.XP
