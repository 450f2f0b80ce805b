/- The law ParcelForms, over lists: Valid, Find, Weigh and Value answer as the reference. -/
import Derived.Test.YtndbchcfjajgbaaPureForms
import Derived.Test.YtndbchcfjajgbaaXP9
import Derived.Test.YtndbchcfjajgbaaXP18
namespace Go.Proofs.Ytndbchcfjajgbaa.XP
open Go Go.RowKit Go.Proofs Go.Proofs.Ytndbchcfjajgbaa.XW Go.Proofs.YtndbchcfjajgbaaW.PrintWords Go.Proofs.YtndbchcfjajgbaaW.PrintLast
set_option linter.unusedVariables false
set_option linter.unusedSimpArgs false
theorem awake0 : culetlaw53_awake.f 10 = some true := by decide +kernel
theorem awake_eq : ∀ k : Nat, 10 ≤ k → culetlaw53_awake.f k = some true
  | 0, h => by omega
  | k + 1, h => by
    by_cases e : k + 1 = 10
    · rw [e]; exact awake0
    · exact culetlaw53_awake.mono k _ (awake_eq k (by omega))
theorem value53 (l : List S24) (hn : l.length ≤ 102) (hs : Small l) (m : ByteArray) (hm : m.size ≤ 40) (t : List S138) (ht : t.length ≤ 22) : ∃ V : Int × Int, parcel_Value.f 1999 l m (t.map conv44) = some V ∧ culetref53_Value.f 1999 l m t = some V := by
  unfold parcel_Value.f culetref53_Value.f
  rw [valid_eqk l (by omega) 1999 (by omega), valid53 l (by omega) hs 1999 (by omega), tv_eq m (t.map conv44) (by rw [List.length_map]; omega) 1999 (by rw [List.length_map]; omega), rv_eq m (by omega) t (by omega) 1999 (by omega) (by omega)]
  simp only [Option.bind_some]
  have hT : ∀ t' : List S139, parcel_Value.j0 1999 l true m t' = some (0, 1) := fun t' => by
    show parcel_Value.j0 (1998 + 1) l true m t' = _
    simp only [parcel_Value.j0]
    rw [if_pos trivial]
  have hT2 : culetref53_Value.j0 1999 l true m t = some (0, 1) := by
    show culetref53_Value.j0 (1998 + 1) l true m t = _
    simp only [culetref53_Value.j0]
    rw [if_pos trivial]
  cases hv : validB l
  · rw [if_neg (by decide), if_neg (by decide), hT, hT2]
    exact ⟨_, rfl, rfl⟩
  · rw [if_pos rfl, if_pos rfl]
    cases hq : validT m (t.map conv44)
    · simp only [Bool.not_false]
      rw [hT, hT2]
      exact ⟨_, rfl, rfl⟩
    · simp only [Bool.not_true]
      show ∃ V, parcel_Value.j0 (1998 + 1) l false m (t.map conv44) = some V ∧ culetref53_Value.j0 (1998 + 1) l false m t = some V
      simp only [parcel_Value.j0, culetref53_Value.j0]
      rw [if_neg (by decide), if_neg (by decide)]
      obtain ⟨r, h1, h2⟩ := value_both l (by omega) ((validB_iff l).1 hv).1 m hm t (by omega) hq l.length 0 1998 1998 0 (by omega) (by omega) (by omega)
      exact ⟨_, h1, h2⟩
end Go.Proofs.Ytndbchcfjajgbaa.XP
namespace Go.Proofs.Ytndbchcfjajgbaa.Pure
open Go Go.RowKit Go.Proofs.Ytndbchcfjajgbaa.XP Go.Proofs.Ytndbchcfjajgbaa.XW Go.Proofs.YtndbchcfjajgbaaW.PrintWords Go.Proofs.YtndbchcfjajgbaaW.PrintLast
set_option linter.unusedVariables false
set_option linter.unusedSimpArgs false
set_option maxRecDepth 100000 in
theorem ParcelForms : culetlaw53_ParcelForms.Pure := by
  intro l s t _ _ _
  obtain ⟨b1, hb1, hb1'⟩ := few40 l 2000 (by omega)
  refine ⟨2000, ?_⟩
  unfold culetlaw53_ParcelForms.f
  rw [awake_eq 2000 (by omega), hb1]
  simp only [Option.bind_some, if_true]
  have hT : culetlaw53_ParcelForms.j0 2000 l s true t.f0 t.f1 = some true := by
    show culetlaw53_ParcelForms.j0 (1999 + 1) l s true t.f0 t.f1 = _
    simp only [culetlaw53_ParcelForms.j0]
    rw [if_pos trivial, awake_eq 1999 (by omega)]; rfl
  cases b1 with
  | false => rw [if_neg (by decide)]; exact hT
  | true =>
    rw [if_pos rfl]
    obtain ⟨hl, hs⟩ := hb1' rfl
    by_cases hsz : (s.size : Int) > 40
    · rw [if_pos hsz]; exact hT
    · rw [if_neg hsz]
      unfold culetref44_Few.f
      by_cases hc : (t.f1.length : Int) ≤ 22
      · rw [if_pos hc]
        simp only [Option.bind_some]
        by_cases hm : (t.f0.size : Int) ≤ 40
        · rw [decide_eq_true hm]
          show culetlaw53_ParcelForms.j0 (1999 + 1) l s false t.f0 t.f1 = _
          simp only [culetlaw53_ParcelForms.j0]
          obtain ⟨F, hF⟩ : ∃ F, parcel_Find.f l s = some F := ⟨_, rfl⟩
          obtain ⟨W, w1, w2⟩ := weigh_both l s (by omega) hs l.length 0 1999 1999 0 0 (by omega) (by omega) (by omega)
          have w1' : culetref53_Weigh.f 1999 l s = some W := w1
          have w2' : parcel_Weigh.f 1999 l s = some W := w2
          obtain ⟨V, v1, v2⟩ := value53 l hl hs t.f0 (by omega) t.f1 (by omega)
          rw [if_neg (by decide), find53 l s (by omega) 1999 (by omega), hF, w1', w2', own44 t.f0 t.f1 (by omega) 1999 (by omega), v2, valid_eqk l (by omega) 1999 (by omega), valid53 l (by omega) hs 1999 (by omega)]
          simp only [Option.bind_some]
          rw [v1]
          simp
        · rw [decide_eq_false hm]; exact hT
      · rw [if_neg hc]; exact hT
end Go.Proofs.Ytndbchcfjajgbaa.Pure
