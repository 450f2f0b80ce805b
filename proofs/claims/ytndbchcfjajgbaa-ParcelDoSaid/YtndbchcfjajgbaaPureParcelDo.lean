/- The law ParcelDo, over lists: the step of the book is the reference's, and leaves a parcel. -/
import Derived.Test.YtndbchcfjajgbaaHandRefDoF
import Derived.Test.YtndbchcfjajgbaaXP14
namespace Go.Proofs.Ytndbchcfjajgbaa.XP
open Go Go.RowKit Go.Proofs Go.Proofs.YtndbchcfjajgbaaW.PrintWords Go.Proofs.YtndbchcfjajgbaaW.PrintLast Go.Proofs.Ytndbchcfjajgbaa.XH
set_option linter.unusedVariables false
set_option linter.unusedSimpArgs false
theorem fewE40 (x : S26) (k : Nat) (hk : 10 ≤ k) : ∃ b, culetref53_FewEntries.f k [x] = some b ∧ (b = true → x.f1.f0.size ≤ 40 ∧ x.f1.f1.size ≤ 40 ∧ x.f2.size ≤ 40 ∧ x.f3.size ≤ 40) := by
  obtain ⟨k, rfl⟩ : ∃ m, k = m + 4 := ⟨k - 4, by omega⟩
  have e0 : rd_T26 [x] 0 = x := rfl
  unfold culetref53_FewEntries.f
  simp only [culetref53_FewEntries.l0, culetref53_FewEntries.j1]
  rw [if_pos (by simp), if_pos (by decide), if_pos (by omega), if_pos (by simp), e0]
  by_cases h1 : (x.f2.size : Int) > 40
  · rw [if_pos h1]; exact ⟨false, rfl, by simp⟩
  rw [if_neg h1]
  by_cases h2 : (x.f3.size : Int) > 40
  · rw [if_pos h2]; exact ⟨false, rfl, by simp⟩
  rw [if_neg h2]
  by_cases h3 : (x.f1.f0.size : Int) > 40
  · rw [if_pos h3]; exact ⟨false, rfl, by simp⟩
  rw [if_neg h3]
  by_cases h4 : (x.f1.f1.size : Int) > 40
  · rw [if_pos h4]; exact ⟨false, rfl, by simp⟩
  rw [if_neg h4, if_neg (by simp [wrap64]), if_neg (by decide)]
  exact ⟨_, rfl, fun _ => ⟨by omega, by omega, by omega, by omega⟩⟩
end Go.Proofs.Ytndbchcfjajgbaa.XP
namespace Go.Proofs.Ytndbchcfjajgbaa.Pure
open Go Go.RowKit Go.Proofs.Ytndbchcfjajgbaa.XP Go.Proofs.Ytndbchcfjajgbaa.XW Go.Proofs.YtndbchcfjajgbaaW.PrintWords Go.Proofs.YtndbchcfjajgbaaW.PrintLast
set_option linter.unusedVariables false
set_option linter.unusedSimpArgs false
set_option maxRecDepth 100000 in
theorem ParcelDo : culetlaw53_ParcelDo.Pure := by
  intro l x _ _
  obtain ⟨b1, hb1, hb1'⟩ := few40 l 1000 (by omega)
  obtain ⟨b2, hb2, hb2'⟩ := fewE40 (⟨x.f0, (⟨x.f1.f0, x.f1.f1, x.f1.f2, x.f1.f3⟩ : S24), x.f2, x.f3, x.f4, x.f5⟩ : S26) 1000 (by omega)
  refine ⟨1000, ?_⟩
  unfold culetlaw53_ParcelDo.f
  rw [awake_eq 1000 (by omega), hb1, hb2]
  simp only [Option.bind_some, if_true]
  have hT : ∀ k, 100 ≤ k → ∀ (a0 : Int) (a1 a2 : ByteArray) (a3 a4 : Int) (a5 a6 : ByteArray) (a7 a8 : Int), culetlaw53_ParcelDo.j0 (k + 1) l true a0 a1 a2 a3 a4 a5 a6 a7 a8 = some true := fun k hk a0 a1 a2 a3 a4 a5 a6 a7 a8 => by
    simp only [culetlaw53_ParcelDo.j0]
    rw [if_pos trivial, awake_eq k (by omega)]; rfl
  cases b1 with
  | false => rw [if_neg (by decide)]; exact hT 999 (by omega) _ _ _ _ _ _ _ _ _
  | true =>
    rw [if_pos rfl]
    obtain ⟨hl, hsm⟩ := hb1' rfl
    cases b2 with
    | false => exact hT 999 (by omega) _ _ _ _ _ _ _ _ _
    | true =>
      obtain ⟨n1, n2, n3, n4⟩ := hb2' rfl
      show culetlaw53_ParcelDo.j0 (999 + 1) _ _ _ _ _ _ _ _ _ _ _ = _
      simp only [culetlaw53_ParcelDo.j0]
      have hfew : fewIn l x.f1.f0 x.f1.f1 x.f3 = true := by
        unfold fewIn
        rw [(smallB_iff l).2 hsm, decide_eq_true hl, decide_eq_true (show x.f1.f0.size ≤ 40 from n1), decide_eq_true (show x.f1.f1.size ≤ 40 from n2), decide_eq_true (show x.f3.size ≤ 40 from n4)]
        rfl
      rw [if_neg (by decide), do_eqk l (by omega)]
      have hD : culetref53_Do.f l x.f0 x.f1.f0 x.f1.f1 x.f1.f2 x.f1.f3 x.f2 x.f3 x.f4 x.f5 = some (doR l x.f0 x.f1.f0 x.f1.f1 x.f1.f2 x.f1.f3 x.f2 x.f3 x.f4 x.f5) := by
        unfold culetref53_Do.f
        rw [if_pos hfew, doW_eq]
      rw [hD]
      simp only [Option.bind_some]
      obtain ⟨R, hR⟩ : ∃ R, R = doR l x.f0 x.f1.f0 x.f1.f1 x.f1.f2 x.f1.f3 x.f2 x.f3 x.f4 x.f5 := ⟨_, rfl⟩
      rw [← hR]
      by_cases he : R.2 = 0
      · obtain ⟨l', e'⟩ := R
        simp only at he
        subst he
        obtain ⟨hv, hsh, hS⟩ := do_ok hR.symm
        have hv' := step_valid hv hsh hS
        have hlen' := ((validB_iff l').1 hv').2.2
        rw [same_eq l' (by omega) 999 (by omega)]
        simp only [Option.bind_some, if_true]
        rw [valid_eqk l' (by omega) 999 (by omega), hv']
        rfl
      · have hnil : R.1 = [] := by rw [hR] at he ⊢; exact do_err _ _ _ _ _ _ _ _ _ _ he
        rw [hnil, same_eq [] (by simp) 999 (by simp)]
        simp only [Option.bind_some, if_true]
        rw [if_neg he]
end Go.Proofs.Ytndbchcfjajgbaa.Pure
