/- The law ParcelInverse, over lists: joining what was split leads back. -/
import Derived.Test.YtndbchcfjajgbaaPureFew
import Derived.Test.YtndbchcfjajgbaaXP15
namespace Go.Proofs.Ytndbchcfjajgbaa.Pure
open Go Go.RowKit Go.Proofs.Ytndbchcfjajgbaa.XP Go.Proofs.Ytndbchcfjajgbaa.XW Go.Proofs.YtndbchcfjajgbaaW.PrintWords Go.Proofs.YtndbchcfjajgbaaW.PrintLast
set_option linter.unusedVariables false
set_option linter.unusedSimpArgs false
set_option maxRecDepth 100000 in
theorem ParcelInverse : culetlaw53_ParcelInverse.Pure := by
  intro l x _ _
  obtain ⟨b1, hb1, hb1'⟩ := few_eq l 1000 (by omega)
  obtain ⟨b2, hb2, _⟩ := fewE_eq [(⟨x.f0, (⟨x.f1.f0, x.f1.f1, x.f1.f2, x.f1.f3⟩ : S24), x.f2, x.f3, x.f4, x.f5⟩ : S26)] 1000 (by omega)
  refine ⟨1000, ?_⟩
  unfold culetlaw53_ParcelInverse.f
  rw [awake_eq 1000 (by omega), hb1, hb2]
  simp only [Option.bind_some, if_true]
  have hT : ∀ k, 100 ≤ k → ∀ (a0 : Int) (a1 a2 : ByteArray) (a3 a4 : Int) (a5 a6 : ByteArray) (a7 a8 : Int), culetlaw53_ParcelInverse.j0 (k + 1) l true a0 a1 a2 a3 a4 a5 a6 a7 a8 = some true := fun k hk a0 a1 a2 a3 a4 a5 a6 a7 a8 => by
    simp only [culetlaw53_ParcelInverse.j0]
    rw [if_pos trivial, awake_eq k (by omega)]; rfl
  cases b1 with
  | false => rw [if_neg (by decide)]; exact hT 999 (by omega) _ _ _ _ _ _ _ _ _
  | true =>
    rw [if_pos rfl]
    have hl : l.length ≤ 102 := hb1' rfl
    cases b2 with
    | false => rw [if_neg (by decide)]; exact hT 999 (by omega) _ _ _ _ _ _ _ _ _
    | true =>
      rw [if_pos rfl]
      by_cases h3 : x.f0 = 3
      · rw [show (x.f0 != 3) = false by simp [h3], h3]
        show culetlaw53_ParcelInverse.j0 (999 + 1) _ _ _ _ _ _ _ _ _ _ _ = _
        simp only [culetlaw53_ParcelInverse.j0]
        rw [if_neg (by decide), do_eqk l (by omega)]
        simp only [Option.bind_some]
        by_cases he : (doR l 3 x.f1.f0 x.f1.f1 x.f1.f2 x.f1.f3 x.f2 x.f3 x.f4 x.f5).2 = 0
        · rw [if_pos he]
          have hlen := doR_len l 3 x.f1.f0 x.f1.f1 x.f1.f2 x.f1.f3 x.f2 x.f3 x.f4 x.f5
          obtain ⟨l', hl'⟩ : ∃ l', l' = (doR l 3 x.f1.f0 x.f1.f1 x.f1.f2 x.f1.f3 x.f2 x.f3 x.f4 x.f5).1 := ⟨_, rfl⟩
          rw [← hl'] at hlen ⊢
          have H : doR l 3 x.f1.f0 x.f1.f1 x.f1.f2 x.f1.f3 x.f2 x.f3 x.f4 x.f5 = (l', 0) := by rw [hl', ← he]
          rw [do_eqk l' (by omega), split_join H]
          simp only [Option.bind_some, if_true]
          rw [same_eq l (by omega) 999 (by omega)]; rfl
        · rw [if_neg he]
      · rw [show (x.f0 != 3) = true by simp [h3]]
        exact hT 999 (by omega) _ _ _ _ _ _ _ _ _
end Go.Proofs.Ytndbchcfjajgbaa.Pure
