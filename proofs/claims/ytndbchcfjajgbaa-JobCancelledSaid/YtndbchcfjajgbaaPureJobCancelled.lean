/- The law JobCancelled, over lists. -/
import Derived.Test.YtndbchcfjajgbaaPureJob3
import Derived.Test.YtndbchcfjajgbaaPureJobCan
import Derived.Test.YtndbchcfjajgbaaXP18
import Derived.Test.YtndbchcfjajgbaaXP19
namespace Go.Proofs.Ytndbchcfjajgbaa.Pure
open Go Go.RowKit Go.Proofs.Ytndbchcfjajgbaa.XP Go.Proofs.Ytndbchcfjajgbaa.XW Go.Proofs.YtndbchcfjajgbaaW.PrintWords Go.Proofs.YtndbchcfjajgbaaW.PrintLast
set_option linter.unusedVariables false
set_option linter.unusedSimpArgs false
theorem same_loop (l : List S24) (hn : l.length ≤ 1000) : ∀ (d i k : Nat), i + d = l.length → d < k → culetref53_Same.l0 k l l (i : Int) = some true
  | 0, i, k, h, hk => by
    obtain ⟨k, rfl⟩ : ∃ m, k = m + 1 := ⟨k - 1, by omega⟩
    simp only [culetref53_Same.l0]
    rw [if_neg (by omega)]
  | d + 1, i, k, h, hk => by
    obtain ⟨k, rfl⟩ : ∃ m, k = m + 1 := ⟨k - 1, by omega⟩
    simp only [culetref53_Same.l0]
    rw [if_pos (by omega), if_pos (by omega), if_pos (by omega), if_neg (by simp), show wrap64 ((i : Int) + 1) = ((i + 1 : Nat) : Int) by unfold wrap64; omega]
    exact same_loop l hn d (i + 1) k (by omega) (by omega)
theorem same_eq (l : List S24) (hn : l.length ≤ 1000) (k : Nat) (hk : l.length < k) : culetref53_Same.f k l l = some true := by
  unfold culetref53_Same.f
  rw [if_pos rfl]
  exact same_loop l hn l.length 0 k (by omega) hk
set_option maxRecDepth 100000 in
theorem JobCancelled : culetlaw54_JobCancelled.Pure := by
  intro s id n hV _ hn
  obtain ⟨b1, hb1, hb1'⟩ := few54_eq s.f0 s.f1 s.f2 s.f3 s.f4 1000 (by omega)
  refine ⟨1000, ?_⟩
  unfold culetlaw54_JobCancelled.f
  rw [awake_eq 1000 (by omega), hb1]
  simp only [Option.bind_some, if_true]
  have hT : culetlaw54_JobCancelled.j0 (999 + 1) id n true s.f0 s.f1 s.f2 s.f3 s.f4 = some true := by
    simp only [culetlaw54_JobCancelled.j0]
    rw [if_pos trivial, awake_eq 999 (by omega)]; rfl
  cases b1 with
  | false => rw [if_neg (by decide)]; exact hT
  | true =>
    rw [if_pos rfl]
    obtain ⟨hl, hm, _, _⟩ := hb1' rfl
    cases hsz : decide ((id.size : Int) > 40) with
    | true => exact hT
    | false =>
      show culetlaw54_JobCancelled.j0 (999 + 1) _ _ false _ _ _ _ _ = _
      simp only [culetlaw54_JobCancelled.j0]
      rw [if_neg (by decide), own_eq s.f1 (by omega) s.f0 s.f2 s.f3 s.f4 999 (by omega)]
      simp only [Option.bind_some]
      rw [jdo_eqk _ _ _ (by omega)]
      simp only [Option.bind_some]
      have hT2 : ∀ (b0 : Int) (b1 : List S99) (b2 : List S24) (b3 b4 : Int), culetlaw54_JobCancelled.j1 (998 + 1) id n true s.f0 s.f1 s.f2 s.f3 s.f4 b0 b1 b2 b3 b4 = some true := fun _ _ _ _ _ => by
        simp only [culetlaw54_JobCancelled.j1]
        rw [if_pos trivial]
      cases hD : doJ s.f0 (s.f1.map cvI) s.f2 s.f3 s.f4 2 s.f0 ⟨⟨#[]⟩, ⟨#[]⟩, ⟨#[]⟩, 0, 0⟩ id 0 with
      | mk d' r =>
      obtain ⟨l', m', e', t', er⟩ := r
      by_cases h0 : er = 0
      case neg => exact (if_neg h0).trans (hT2 _ _ _ _ _)
      case pos =>
      subst h0
      rw [if_pos rfl]
      obtain ⟨hr, hsh, _, _, _⟩ := doJ_ok hD
      have hday := shapeJ_day hsh
      have hnn : 0 ≤ n ∧ n ≤ 255 := by
        simpa [Lit.wf, IntKind.min, IntKind.max, IntKind.signed, IntKind.bits] using hn
      rw [show wrap64 (s.f0 + wrap64 n) = s.f0 + n by unfold wrap64; omega]
      by_cases hc : s.f0 + n > 100000
      · rw [decide_eq_true hc]; exact hT2 _ _ _ _ _
      rw [decide_eq_false hc]
      show culetlaw54_JobCancelled.j1 (998 + 1) _ _ false _ _ _ _ _ _ _ _ _ _ = _
      simp only [culetlaw54_JobCancelled.j1]
      obtain ⟨x, l2, h1, h2, h3, h4⟩ := start_cancel hD (ed := s.f0 + n) (by omega) (by omega)
      rw [if_neg (by decide), jdo_eqk _ _ _ (by omega), show (⟨⟨#[]⟩, ⟨#[]⟩, ⟨#[]⟩, 0, 0⟩ : S81) = noJob from rfl, show wrap64 (s.f0 + wrap64 n) = s.f0 + n by unfold wrap64; omega, h1]
      obtain ⟨f1, f2⟩ := (fndI_get l2 id).1 x h2
      simp only [Option.bind_some, job_Find.f, f1, f2, h3, if_true]
      rw [same_eq s.f2 (by omega) 998 (by omega)]
      simp
end Go.Proofs.Ytndbchcfjajgbaa.Pure
