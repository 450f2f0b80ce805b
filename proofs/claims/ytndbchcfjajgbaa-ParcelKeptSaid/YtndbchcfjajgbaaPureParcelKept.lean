/- The law ParcelKept, over lists: a step that splits or joins changes no weight and no count of a material, and a loss its own weight alone. -/
import Derived.Test.YtndbchcfjajgbaaPureFew
import Derived.Test.YtndbchcfjajgbaaXP13
namespace Go.Proofs.Ytndbchcfjajgbaa.Pure
open Go Go.RowKit Go.Proofs.Ytndbchcfjajgbaa.XP Go.Proofs.Ytndbchcfjajgbaa.XW Go.Proofs.YtndbchcfjajgbaaW.PrintWords Go.Proofs.YtndbchcfjajgbaaW.PrintLast
set_option linter.unusedVariables false
set_option linter.unusedSimpArgs false
set_option maxRecDepth 100000 in
theorem ParcelKept : culetlaw53_ParcelKept.Pure := by
  intro l x m _ _ _
  obtain ⟨b1, hb1, hb1'⟩ := few_eq l 1000 (by omega)
  obtain ⟨b2, hb2, _⟩ := fewE_eq [(⟨x.f0, (⟨x.f1.f0, x.f1.f1, x.f1.f2, x.f1.f3⟩ : S24), x.f2, x.f3, x.f4, x.f5⟩ : S26)] 1000 (by omega)
  refine ⟨1000, ?_⟩
  unfold culetlaw53_ParcelKept.f
  rw [awake_eq 1000 (by omega), hb1, hb2]
  simp only [Option.bind_some, if_true]
  have hT : ∀ k, 100 ≤ k → ∀ (a0 : Int) (a1 a2 : ByteArray) (a3 a4 : Int) (a5 a6 : ByteArray) (a7 a8 : Int), culetlaw53_ParcelKept.j0 (k + 1) l m true a0 a1 a2 a3 a4 a5 a6 a7 a8 = some true := fun k hk a0 a1 a2 a3 a4 a5 a6 a7 a8 => by
    simp only [culetlaw53_ParcelKept.j0]
    rw [if_pos trivial, awake_eq k (by omega)]; rfl
  cases b1 with
  | false => rw [if_neg (by decide)]; exact hT 999 (by omega) _ _ _ _ _ _ _ _ _
  | true =>
    rw [if_pos rfl]
    have hl : l.length ≤ 102 := hb1' rfl
    cases b2 with
    | false => rw [if_neg (by decide)]; exact hT 999 (by omega) _ _ _ _ _ _ _ _ _
    | true =>
      rw [if_pos rfl]
      cases hm : decide ((m.size : Int) > 40) with
      | true => exact hT 999 (by omega) _ _ _ _ _ _ _ _ _
      | false =>
        show culetlaw53_ParcelKept.j0 (999 + 1) _ _ _ _ _ _ _ _ _ _ _ _ = _
        simp only [culetlaw53_ParcelKept.j0]
        rw [if_neg (by decide), do_eqk l (by omega)]
        simp only [Option.bind_some]
        by_cases he : (doR l x.f0 x.f1.f0 x.f1.f1 x.f1.f2 x.f1.f3 x.f2 x.f3 x.f4 x.f5).2 = 0
        · rw [if_pos he]
          obtain ⟨l', hl'⟩ : ∃ l', l' = (doR l x.f0 x.f1.f0 x.f1.f1 x.f1.f2 x.f1.f3 x.f2 x.f3 x.f4 x.f5).1 := ⟨_, rfl⟩
          rw [← hl']
          have H : doR l x.f0 x.f1.f0 x.f1.f1 x.f1.f2 x.f1.f3 x.f2 x.f3 x.f4 x.f5 = (l', 0) := by rw [hl', ← he]
          obtain ⟨hv, hsh, hS⟩ := do_ok H
          have hv' := step_valid hv hsh hS
          have hlen' := ((validB_iff l').1 hv').2.2
          have hlen := ((validB_iff l).1 hv).2.2
          rw [weigh_eqk l m (by omega) 999 (by omega), weigh_eqk l' m (by omega) 999 (by omega)]
          simp only [Option.bind_some]
          have hW := step_weight hv m hsh hS
          rcases hW with ⟨k1, _⟩ | ⟨k2, _⟩ | ⟨k34, e1, e2⟩ | ⟨k5, p, hp, e1, e2, h1, h2⟩
          · rw [if_neg (by omega)]
            show culetlaw53_ParcelKept.j1 (998 + 1) _ _ _ _ _ _ _ _ _ _ _ _ _ _ _ _ _ = _
            simp only [culetlaw53_ParcelKept.j1]
            rw [show (x.f0 == 4) = false from beq_eq_false_iff_ne.2 (by omega), if_neg (by decide), if_neg (by omega)]
          · rw [if_neg (by omega)]
            show culetlaw53_ParcelKept.j1 (998 + 1) _ _ _ _ _ _ _ _ _ _ _ _ _ _ _ _ _ = _
            simp only [culetlaw53_ParcelKept.j1]
            rw [show (x.f0 == 4) = false from beq_eq_false_iff_ne.2 (by omega), if_neg (by decide), if_neg (by omega)]
          · have hb : (if x.f0 = 3 then culetlaw53_ParcelKept.j1 999 l m (sumL (wf m) l) (sumL (cf m) l) (sumL (wf m) l') (sumL (cf m) l') x.f0 (x.f0 == 3) x.f0 x.f1.f0 x.f1.f1 x.f1.f2 x.f1.f3 x.f2 x.f3 x.f4 x.f5 else culetlaw53_ParcelKept.j1 999 l m (sumL (wf m) l) (sumL (cf m) l) (sumL (wf m) l') (sumL (cf m) l') x.f0 (x.f0 == 4) x.f0 x.f1.f0 x.f1.f1 x.f1.f2 x.f1.f3 x.f2 x.f3 x.f4 x.f5) = culetlaw53_ParcelKept.j1 (998 + 1) l m (sumL (wf m) l) (sumL (cf m) l) (sumL (wf m) l') (sumL (cf m) l') x.f0 true x.f0 x.f1.f0 x.f1.f1 x.f1.f2 x.f1.f3 x.f2 x.f3 x.f4 x.f5 := by
              rcases k34 with k | k
              · rw [if_pos k, show (x.f0 == 3) = true from beq_iff_eq.2 k]
              · rw [if_neg (by omega), show (x.f0 == 4) = true from beq_iff_eq.2 k]
            rw [hb]
            simp only [culetlaw53_ParcelKept.j1]
            rw [if_pos trivial, if_pos e1.symm, e2, beq_self_eq_true]
          · rw [if_neg (by omega)]
            show culetlaw53_ParcelKept.j1 (998 + 1) _ _ _ _ _ _ _ _ _ _ _ _ _ _ _ _ _ = _
            simp only [culetlaw53_ParcelKept.j1]
            rw [show (x.f0 == 4) = false from beq_eq_false_iff_ne.2 (by omega), if_neg (by decide), if_pos k5, find_eq]
            obtain ⟨f1, f2⟩ := (fnd_get l x.f2).1 p hp
            simp only [Option.bind_some]
            rw [f1, f2]
            obtain ⟨w1, w2⟩ := sumL_bound (wf m) 1000000 l (fun y _ => wf_bound m y)
            by_cases hmat : p.f1.toList = m.toList
            · rw [if_pos hmat] at e1 ⊢
              rw [if_pos rfl, if_pos (by unfold wrap64; omega), e2, beq_self_eq_true]
            · rw [if_neg hmat] at e1 ⊢
              rw [if_pos rfl, if_pos (by omega), e2, beq_self_eq_true]
        · rw [if_neg he, do_err _ _ _ _ _ _ _ _ _ _ he]; rfl
end Go.Proofs.Ytndbchcfjajgbaa.Pure
