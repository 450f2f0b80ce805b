/- The law JobWeight, over lists. -/
import Derived.Test.YtndbchcfjajgbaaPureJob3
import Derived.Test.YtndbchcfjajgbaaXP16
import Derived.Test.YtndbchcfjajgbaaXP17
namespace Go.Proofs.Ytndbchcfjajgbaa.Pure
open Go Go.RowKit Go.Proofs.Ytndbchcfjajgbaa.XP Go.Proofs.Ytndbchcfjajgbaa.XW Go.Proofs.YtndbchcfjajgbaaW.PrintWords Go.Proofs.YtndbchcfjajgbaaW.PrintLast
set_option linter.unusedVariables false
set_option linter.unusedSimpArgs false
theorem sumL_take24 (l : List S24) (i : Nat) (h : i < l.length) : sumL (fun p : S24 => p.f2) (l.take (i + 1)) = sumL (fun p : S24 => p.f2) (l.take i) + (rd_T24 l (i : Int)).f2 := by
  rw [List.take_add_one, List.getElem?_eq_getElem h, sumL_append]
  simp [sumL, rd_T24, List.getD_eq_getElem?_getD, h]
theorem sumL_take99 (f : S99 → Int) (l : List S99) (i : Nat) (h : i < l.length) : sumL f (l.take (i + 1)) = sumL f (l.take i) + f (rd_T99 l (i : Int)) := by
  rw [List.take_add_one, List.getElem?_eq_getElem h, sumL_append]
  simp [sumL, rd_T99, List.getD_eq_getElem?_getD, h]
theorem weight_l1 (l : List S99) (hn : l.length ≤ 1000) (c : Int) : ∀ (d i k : Nat), i + d = l.length → d < k → culetlaw54_weight.l1 k (wrap64 (c + sumL (fun x : S99 => x.f3) (l.take i))) l (l.length : Int) (i : Int) = some (wrap64 (c + roughs l))
  | 0, i, k, h, hk => by
    obtain ⟨k, rfl⟩ : ∃ m, k = m + 1 := ⟨k - 1, by omega⟩
    simp only [culetlaw54_weight.l1]
    rw [if_neg (by omega), List.take_of_length_le (by omega)]; rfl
  | d + 1, i, k, h, hk => by
    obtain ⟨k, rfl⟩ : ∃ m, k = m + 1 := ⟨k - 1, by omega⟩
    simp only [culetlaw54_weight.l1]
    rw [if_pos (by omega), if_pos (by omega), if_pos (by omega)]
    rw [show wrap64 ((i : Int) + 1) = ((i + 1 : Nat) : Int) by unfold wrap64; omega]
    rw [wrap_add, Int.add_assoc, ← sumL_take99 _ l i (by omega)]
    exact weight_l1 l hn c d (i + 1) k (by omega) (by omega)
theorem weight_l0 (a0 : Int) (l : List S99) (hl : l.length ≤ 1000) (m : List S24) (hn : m.length ≤ 1000) (a3 a4 : Int) : ∀ (d i k : Nat), i + d = m.length → d + l.length + 2 < k → culetlaw54_weight.l0 k (wrap64 (sumL (fun p : S24 => p.f2) (m.take i))) m (m.length : Int) (i : Int) a0 l m a3 a4 = some (wrap64 (weights m + roughs l))
  | 0, i, k, h, hk => by
    obtain ⟨k, rfl⟩ : ∃ m, k = m + 1 := ⟨k - 1, by omega⟩
    simp only [culetlaw54_weight.l0]
    rw [if_neg (by omega), List.take_of_length_le (by omega)]
    have := weight_l1 l hl (weights m) l.length 0 k (by omega) (by omega)
    simp only [List.take_zero, sumL, Int.add_zero] at this
    exact this
  | d + 1, i, k, h, hk => by
    obtain ⟨k, rfl⟩ : ∃ m, k = m + 1 := ⟨k - 1, by omega⟩
    simp only [culetlaw54_weight.l0]
    rw [if_pos (by omega), if_pos (by omega), if_pos (by omega)]
    rw [show wrap64 ((i : Int) + 1) = ((i + 1 : Nat) : Int) by unfold wrap64; omega]
    rw [wrap_add, ← sumL_take24 m i (by omega)]
    exact weight_l0 a0 l hl m hn a3 a4 d (i + 1) k (by omega) (by omega)
theorem weight_eq (a0 : Int) (l : List S99) (hl : l.length ≤ 1000) (m : List S24) (hn : m.length ≤ 1000) (a3 a4 : Int) (k : Nat) (hk : m.length + l.length + 2 < k) : culetlaw54_weight.f k a0 l m a3 a4 = some (wrap64 (weights m + roughs l)) := by
  have := weight_l0 a0 l hl m hn a3 a4 m.length 0 k (by omega) hk
  simp only [List.take_zero, sumL] at this
  rw [show wrap64 0 = 0 from by unfold wrap64; omega] at this
  exact this
set_option maxRecDepth 100000 in
theorem JobWeight : culetlaw54_JobWeight.Pure := by
  intro s x _ _
  obtain ⟨b1, hb1, hb1'⟩ := few54_eq s.f0 s.f1 s.f2 s.f3 s.f4 1000 (by omega)
  obtain ⟨b2, hb2, _⟩ := fewEv_eq [(⟨x.f0, x.f1, (⟨x.f2.f0, x.f2.f1, x.f2.f2, x.f2.f3, x.f2.f4⟩ : S69), x.f3, x.f4⟩ : S71)] 1000 (by omega)
  refine ⟨1000, ?_⟩
  unfold culetlaw54_JobWeight.f
  rw [awake_eq 1000 (by omega), hb1, hb2]
  simp only [Option.bind_some, if_true]
  have hT : culetlaw54_JobWeight.j0 (999 + 1) true s.f0 s.f1 s.f2 s.f3 s.f4 x.f0 x.f1 x.f2.f0 x.f2.f1 x.f2.f2 x.f2.f3 x.f2.f4 x.f3 x.f4 = some true := by
    simp only [culetlaw54_JobWeight.j0]
    rw [if_pos trivial, awake_eq 999 (by omega)]; rfl
  cases b1 with
  | false => rw [if_neg (by decide)]; exact hT
  | true =>
    rw [if_pos rfl]
    obtain ⟨hl, hm, _, _⟩ := hb1' rfl
    cases b2 with
    | false => exact hT
    | true =>
      show culetlaw54_JobWeight.j0 (999 + 1) false _ _ _ _ _ _ _ _ _ _ _ _ _ _ = _
      simp only [culetlaw54_JobWeight.j0]
      rw [if_neg (by decide), own_eq s.f1 (by omega) s.f0 s.f2 s.f3 s.f4 999 (by omega)]
      simp only [Option.bind_some, culetlaw54_event.f]
      rw [jdo_eqk _ _ _ (by omega)]
      simp only [Option.bind_some]
      cases hD : doJ s.f0 (s.f1.map cvI) s.f2 s.f3 s.f4 x.f0 x.f1 ⟨x.f2.f0, x.f2.f1, x.f2.f2, x.f2.f3, x.f2.f4⟩ x.f3 x.f4 with
      | mk d' r =>
      obtain ⟨l', m', e', t', er⟩ := r
      by_cases h0 : er = 0
      · subst h0
        rw [if_pos rfl]
        obtain ⟨hr, _, _, _, hS⟩ := doJ_ok hD
        have hw := step_weights hr hS
        obtain ⟨l1, l2⟩ := step_len hr hS
        have l0 : (s.f1.map cvI).length = s.f1.length := List.length_map cvI
        rw [weight_eq d' l' (by omega) m' (by omega) e' t' 999 (by omega), weight_eq s.f0 (s.f1.map cvI) (by omega) s.f2 (by omega) s.f3 s.f4 999 (by omega)]
        simp only [Option.bind_some]
        rw [hw, beq_self_eq_true]
      · exact if_neg h0
end Go.Proofs.Ytndbchcfjajgbaa.Pure
