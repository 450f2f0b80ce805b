/- Shops, by keys: weights, what was earned, and that a right shop stays one. Plain lists. -/
import Derived.Test.YtndbchcfjajgbaaPureJob
namespace Go.Proofs.Ytndbchcfjajgbaa.XP
open Go Go.RowKit
set_option linter.unusedVariables false
set_option linter.unusedSimpArgs false
theorem rightJ_split {x : S99} {t : Int} (h : rightJ x t = true) : validJ x.f0 = true ∧ 0 ≤ x.f2 ∧ x.f2 ≤ t ∧ statJ x = true := by
  unfold rightJ at h
  simpa only [Bool.and_eq_true, decide_eq_true_eq] using h
theorem stat_open {x : S99} (h : statJ x = true) (hx : x.f1 = 1 ∨ x.f1 = 5) : x.f3 = 0 ∧ x.f4 = 0 ∧ zeroP x.f5 = true := by
  unfold statJ at h
  rw [if_pos hx] at h
  simpa only [Bool.and_eq_true, decide_eq_true_eq] using h
theorem stat_started {x : S99} (h : statJ x = true) (hx : x.f1 = 2) : 1 ≤ x.f3 ∧ x.f4 = 0 ∧ rightB x.f5 = true ∧ x.f5.f0 = x.f0.f1 ∧ x.f5.f2 = x.f3 := by
  unfold statJ at h
  rw [if_neg (by omega), if_pos hx] at h
  simp only [Bool.and_eq_true, decide_eq_true_eq] at h
  obtain ⟨h1, h2, h3, h4, h5⟩ := h
  exact ⟨h1, h2, ((validB_iff _).1 h3).1 _ (by simp), h4, h5⟩
section
variable {d : Int} {l : List S99} {mm : List S24} {e t : Int} {ek ed : Int} {j : S81} {id : ByteArray} {wt : Int} {l' : List S99} {m' : List S24} {e' t' : Int}
def roughs (l : List S99) : Int := sumL (fun x : S99 => x.f3) l
def weights (m : List S24) : Int := sumL (fun p : S24 => p.f2) m
/-- What is in the workshop stays. -/
theorem step_weights (hr : rightS d l mm e t = true) (H : StepJ l mm e t ek ed j id wt l' m' e' t') : weights m' + roughs l' = weights mm + roughs l := by
  obtain ⟨_, _, _, _, hv, hI, hS, _⟩ := (rightS_iff d l mm e t).1 hr
  have hSm := ((validB_iff mm).1 hv).2.1
  rcases H with ⟨_, _, _, _, _, rfl, rfl, _, _⟩ | ⟨_, x, y, hx, hSt, _, _, rfl⟩
  · unfold insJ roughs
    rw [sumL_put]
    simp [newItem]
  · have hat := posK_at (key := kI) hS hx
    have hst := (rightJ_split (hI x (getK_some hx).1)).2.2.2
    have hset : roughs (l.set (posK kI id l) y) = roughs l - x.f3 + y.f3 := sumL_set (fun x : S99 => x.f3) l _ x y hat
    rw [hset]
    rcases hSt with ⟨_, h1, ⟨p, hp, rfl, rfl⟩, _, _⟩ | ⟨_, h1, _, _, rfl, rfl, _, _⟩ | ⟨_, h1, rfl, rfl, _, _⟩ | ⟨_, h1, rfl, rfl, _, _⟩ | ⟨_, h1, rfl, h2, h3, rfl, _, _⟩
    · have := (stat_open hst (.inl h1)).1
      have he : weights (mm.eraseIdx (posK S24.f0 x.f0.f1 mm)) = weights mm - p.f2 := sumL_erase (fun p : S24 => p.f2) mm _ p (posK_at (key := S24.f0) hSm hp)
      rw [he]
      simp only
      omega
    · simp only; omega
    · simp only; omega
    · have := (stat_open hst (.inl h1)).1
      simp only
      omega
    · obtain ⟨_, _, _, _, h5⟩ := stat_started hst h1
      have he : weights (insP mm x.f5) = weights mm + x.f5.f2 := sumL_put (fun p : S24 => p.f2) mm x.f5 _
      rw [he]
      simp only
      omega
theorem wrap_add (a b : Int) : wrap64 (wrap64 a + b) = wrap64 (a + b) := by unfold wrap64; omega
theorem step_len (hr : rightS d l mm e t = true) (H : StepJ l mm e t ek ed j id wt l' m' e' t') : l'.length ≤ 61 ∧ m'.length ≤ 101 := by
  obtain ⟨_, h60, _, _, hv, hI, hS, _⟩ := (rightS_iff d l mm e t).1 hr
  have h100 := ((validB_iff mm).1 hv).2.2
  rcases H with ⟨_, _, _, _, _, rfl, rfl, _, _⟩ | ⟨_, x, y, hx, hSt, _, _, rfl⟩
  · refine ⟨?_, by omega⟩
    unfold insJ
    simp only [List.length_append, List.length_take, List.length_cons, List.length_drop]; omega
  · rw [List.length_set]
    refine ⟨by omega, ?_⟩
    rcases hSt with ⟨_, h1, ⟨p, hp, rfl, rfl⟩, rfl, rfl⟩ | ⟨_, h1, _, _, rfl, rfl, rfl, rfl⟩ | ⟨_, h1, rfl, rfl, rfl, rfl⟩ | ⟨_, h1, rfl, rfl, rfl, rfl⟩ | ⟨_, h1, rfl, h2, h3, rfl, rfl, rfl⟩
    · rw [List.length_eraseIdx]; split <;> omega
    · omega
    · omega
    · omega
    · unfold insP
      simp only [List.length_append, List.length_take, List.length_cons, List.length_drop]; omega
end
end Go.Proofs.Ytndbchcfjajgbaa.XP
