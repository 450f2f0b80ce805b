/- The law JobEarned, over lists. -/
import Derived.Test.YtndbchcfjajgbaaPureJob3
import Derived.Test.YtndbchcfjajgbaaHandBegin
import Derived.Test.YtndbchcfjajgbaaXP12
import Derived.Test.YtndbchcfjajgbaaXP18
namespace Go.Proofs.Ytndbchcfjajgbaa.Pure
open Go Go.RowKit Go.Proofs.Ytndbchcfjajgbaa.XP Go.Proofs.Ytndbchcfjajgbaa.XW Go.Proofs.YtndbchcfjajgbaaW.PrintWords Go.Proofs.YtndbchcfjajgbaaW.PrintLast
set_option linter.unusedVariables false
set_option linter.unusedSimpArgs false
def cvE (x : S71) : S83 := ⟨x.f0, x.f1, ⟨x.f2.f0, x.f2.f1, x.f2.f2, x.f2.f3, x.f2.f4⟩, x.f3, x.f4⟩
theorem events_loop (l : List S71) (hn : l.length ≤ 1000) : ∀ (d i k : Nat), i + d = l.length → d < k → culetlaw54_events.l0 k ((l.take i).map cvE) l (l.length : Int) (i : Int) = some (l.map cvE)
  | 0, i, k, h, hk => by
    obtain ⟨k, rfl⟩ : ∃ m, k = m + 1 := ⟨k - 1, by omega⟩
    simp only [culetlaw54_events.l0]
    rw [if_neg (by omega), List.take_of_length_le (by omega)]
  | d + 1, i, k, h, hk => by
    obtain ⟨k, rfl⟩ : ∃ m, k = m + 1 := ⟨k - 1, by omega⟩
    simp only [culetlaw54_events.l0, culetlaw54_event.f, Option.bind_some]
    have hi : i < l.length := by omega
    rw [if_pos (by omega), if_pos (by omega), if_pos (by omega), if_pos (by rw [List.length_map, List.length_take]; omega)]
    rw [show wrap64 ((i : Int) + 1) = ((i + 1 : Nat) : Int) by unfold wrap64; omega]
    have e : (l.take i).map cvE ++ [cvE (rd_T71 l (i : Int))] = (l.take (i + 1)).map cvE := by
      have e0 : rd_T71 l (i : Int) = l[i] := by unfold rd_T71; simp [List.getD_eq_getElem?_getD, hi]
      rw [e0, List.take_add_one, List.getElem?_eq_getElem hi, List.map_append]; rfl
    have := events_loop l hn d (i + 1) k (by omega) (by omega)
    rw [← e] at this
    exact this
theorem events_eq (l : List S71) (hn : l.length ≤ 1000) (k : Nat) (hk : l.length < k) : culetlaw54_events.f k l = some (l.map cvE) := events_loop l hn l.length 0 k (by omega) hk
/-- What an answer of job.Of says of what was earned. -/
def Good (r : Int × List S99 × List S24 × Int × Int × Int × Int) : Prop := r.2.1.length ≤ 61 ∧ (r.2.2.2.2.2.2 = 0 → r.2.2.2.1 = wrap64 (sumL price r.2.1) ∧ r.2.2.2.2.1 = wrap64 (sumL late r.2.1))
theorem of_loop (l1 l : List S83) (hn : l.length ≤ 1000) : ∀ (d i k : Nat), i + d = l.length → d < k → ∀ (a0 : Int) (it : List S99) (mm : List S24) (e t : Int), it.length ≤ 61 → mm.length ≤ 1000 → e = wrap64 (sumL price it) → t = wrap64 (sumL late it) →
    ∃ r, job_Of.l0 k l1 l (l.length : Int) (i : Int) a0 it mm e t = some r ∧ Good r
  | 0, i, k, h, hk => by
    intro a0 it mm e t h1 h2 h3 h4
    obtain ⟨k, rfl⟩ : ∃ m, k = m + 1 := ⟨k - 1, by omega⟩
    simp only [job_Of.l0]
    rw [if_neg (by omega)]
    exact ⟨_, rfl, h1, fun _ => ⟨h3, h4⟩⟩
  | d + 1, i, k, h, hk => by
    intro a0 it mm e t h1 h2 h3 h4
    obtain ⟨k, rfl⟩ : ∃ m, k = m + 1 := ⟨k - 1, by omega⟩
    simp only [job_Of.l0]
    rw [if_pos (by omega), if_pos (by omega), if_pos (by omega), jdo_eqk _ _ _ h2]
    simp only [Option.bind_some]
    rw [show wrap64 ((i : Int) + 1) = ((i + 1 : Nat) : Int) by unfold wrap64; omega]
    cases hD : doJ a0 it mm e t (rd_T83 l (i : Int)).f0 (rd_T83 l (i : Int)).f1 ⟨(rd_T83 l (i : Int)).f2.f0, (rd_T83 l (i : Int)).f2.f1, (rd_T83 l (i : Int)).f2.f2, (rd_T83 l (i : Int)).f2.f3, (rd_T83 l (i : Int)).f2.f4⟩ (rd_T83 l (i : Int)).f3 (rd_T83 l (i : Int)).f4 with
    | mk d' r =>
    obtain ⟨l', m', e', t', er⟩ := r
    by_cases h0 : er = 0
    · subst h0
      rw [if_pos rfl]
      obtain ⟨hr, _, _, _, hS⟩ := doJ_ok hD
      obtain ⟨g1, g2⟩ := step_len hr hS
      obtain ⟨q1, q2⟩ := step_earned hr hS h3 h4
      exact of_loop l1 l hn d (i + 1) k (by omega) (by omega) d' l' m' e' t' g1 (by omega) q1 q2
    · exact ⟨_, if_neg h0, Nat.zero_le _, fun hc => absurd hc h0⟩
theorem of_good (l0 : List S24) (h0 : l0.length ≤ 1000) (l : List S83) (hn : l.length ≤ 1000) (k : Nat) (hk : l.length < k) : ∃ r, job_Of.f k l0 l = some r ∧ Good r := by
  unfold job_Of.f
  by_cases h2 : (l.length : Int) > 200
  · rw [if_pos h2]
    exact ⟨_, rfl, Nat.zero_le _, fun hc => absurd hc (by simp)⟩
  rw [if_neg h2]
  unfold job_Begin.f
  rw [if_pos h0, Option.bind_some]
  unfold beginR
  by_cases hv : validB l0 = true
  · rw [if_pos hv, if_pos rfl]
    have w0 : (0 : Int) = wrap64 0 := by unfold wrap64; omega
    exact of_loop l l hn l.length 0 k (by omega) hk 0 [] l0 0 0 (by simp) h0 w0 w0
  · rw [if_neg hv]
    exact ⟨_, if_neg (by simp), Nat.zero_le _, fun hc => absurd hc (by simp)⟩
theorem sumL_take (f : S99 → Int) (l : List S99) (i : Nat) (h : i < l.length) : sumL f (l.take (i + 1)) = sumL f (l.take i) + f (rd_T99 l (i : Int)) := by
  rw [List.take_add_one, List.getElem?_eq_getElem h, sumL_append]
  simp [sumL, rd_T99, List.getD_eq_getElem?_getD, h]
theorem earned_loop (er : Int) (l : List S99) (hn : l.length ≤ 1000) (a0 : Int) (it : List S99) (mm : List S24) (e t : Int) (hG : er = 0 → e = wrap64 (sumL price l) ∧ t = wrap64 (sumL late l)) : ∀ (d i k : Nat), i + d = l.length → d < k →
    culetlaw54_JobEarned.l0 k er (wrap64 (sumL price (l.take i))) (wrap64 (sumL late (l.take i))) l (l.length : Int) (i : Int) a0 it mm e t = some true
  | 0, i, k, h, hk => by
    obtain ⟨k, rfl⟩ : ∃ m, k = m + 1 := ⟨k - 1, by omega⟩
    simp only [culetlaw54_JobEarned.l0]
    rw [if_neg (by omega), List.take_of_length_le (by omega)]
    by_cases h0 : er = 0
    · obtain ⟨h1, h2⟩ := hG h0
      rw [if_pos h0, if_pos h1, h2, beq_self_eq_true]
    · rw [if_neg h0]
  | d + 1, i, k, h, hk => by
    obtain ⟨k, rfl⟩ : ∃ m, k = m + 1 := ⟨k - 1, by omega⟩
    simp only [culetlaw54_JobEarned.l0]
    rw [if_pos (by omega), if_pos (by omega), if_pos (by omega)]
    rw [show wrap64 ((i : Int) + 1) = ((i + 1 : Nat) : Int) by unfold wrap64; omega]
    have ih := earned_loop er l hn a0 it mm e t hG d (i + 1) k (by omega) (by omega)
    rw [sumL_take price l i (by omega), sumL_take late l i (by omega)] at ih
    by_cases h4 : (rd_T99 l (i : Int)).f1 = 4
    · rw [if_pos h4, wrap_add, wrap_add]
      have e1 : price (rd_T99 l (i : Int)) = (rd_T99 l (i : Int)).f0.f4 := if_pos h4
      have e2 : late (rd_T99 l (i : Int)) = max 0 (wrap64 ((rd_T99 l (i : Int)).f2 - (rd_T99 l (i : Int)).f0.f3)) := if_pos h4
      rw [e1, e2] at ih
      rw [show mx 0 (wrap64 ((rd_T99 l (i : Int)).f2 - (rd_T99 l (i : Int)).f0.f3)) = max 0 (wrap64 ((rd_T99 l (i : Int)).f2 - (rd_T99 l (i : Int)).f0.f3)) by unfold mx; omega]
      exact ih
    · rw [if_neg h4]
      have e1 : price (rd_T99 l (i : Int)) = 0 := if_neg h4
      have e2 : late (rd_T99 l (i : Int)) = 0 := if_neg h4
      rw [e1, e2, Int.add_zero, Int.add_zero] at ih
      exact ih
set_option maxRecDepth 100000 in
theorem JobEarned : culetlaw54_JobEarned.Pure := by
  intro l x _ _
  obtain ⟨b1, hb1, hb1'⟩ := few_eq l 1000 (by omega)
  obtain ⟨b2, hb2, hb2'⟩ := fewEv_eq x 1000 (by omega)
  refine ⟨1000, ?_⟩
  unfold culetlaw54_JobEarned.f
  rw [awake_eq 1000 (by omega), hb1, hb2]
  simp only [Option.bind_some, if_true]
  have hT : culetlaw54_JobEarned.j0 (999 + 1) l x true = some true := by
    simp only [culetlaw54_JobEarned.j0]
    rw [if_pos trivial, awake_eq 999 (by omega)]; rfl
  cases b1 with
  | false => rw [if_neg (by decide)]; exact hT
  | true =>
    rw [if_pos rfl]
    have hl := hb1' rfl
    cases b2 with
    | false => exact hT
    | true =>
      have hx := hb2' rfl
      show culetlaw54_JobEarned.j0 (999 + 1) l x false = _
      simp only [culetlaw54_JobEarned.j0]
      rw [if_neg (by decide), events_eq x (by omega) 999 (by omega)]
      simp only [Option.bind_some]
      have hlm : (x.map cvE).length = x.length := List.length_map cvE
      obtain ⟨r, h1, h2, h3⟩ := of_good l (by omega) (x.map cvE) (by omega) 999 (by omega)
      rw [h1]
      simp only [Option.bind_some]
      have := earned_loop r.2.2.2.2.2.2 r.2.1 (by omega) r.1 r.2.1 r.2.2.1 r.2.2.2.1 r.2.2.2.2.1 h3 r.2.1.length 0 999 (by omega) (by omega)
      simp only [List.take_zero, sumL] at this
      rw [show wrap64 0 = 0 from by unfold wrap64; omega] at this
      rw [show ((0 : Nat) : Int) = 0 from rfl] at this
      exact this
end Go.Proofs.Ytndbchcfjajgbaa.Pure
