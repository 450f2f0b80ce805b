/- Two texts, laid into one by mkclaim.py. -/
import Derived.Test.YtndbchcfjajgbaaPureJob
import Derived.Test.YtndbchcfjajgbaaXP15
import Derived.Test.YtndbchcfjajgbaaXP16
import Derived.Test.YtndbchcfjajgbaaXP14
section
/- Shops, by keys: weights, what was earned, and that a right shop stays one. Plain lists. -/
namespace Go.Proofs.Ytndbchcfjajgbaa.XP
open Go Go.RowKit
set_option linter.unusedVariables false
set_option linter.unusedSimpArgs false
theorem shapeJ_job {ed : Int} {j : S81} {id : ByteArray} {wt : Int} (h : shapeJ 1 ed j id wt = true) : validJ j = true ∧ id = ⟨#[]⟩ ∧ wt = 0 := by
  unfold shapeJ at h
  rw [if_pos rfl] at h
  simp only [Bool.and_eq_true, decide_eq_true_eq, beq_iff_eq] at h
  refine ⟨h.2.1, toList_inj.1 (h.2.2.1.trans ?_), h.2.2.2⟩
  rw [ByteArray.toList_eq]
section
variable {d : Int} {l : List S99} {mm : List S24} {e t : Int} {ek ed : Int} {j : S81} {id : ByteArray} {wt : Int} {l' : List S99} {m' : List S24} {e' t' : Int}
theorem step_len (hr : rightS d l mm e t = true) (H : StepJ l mm e t ek ed j id wt l' m' e' t') : l'.length ≤ 61 ∧ m'.length ≤ 101 := by
  obtain ⟨_, h60, _, _, hv, hI, hS, _⟩ := (rightS_iff d l mm e t).1 hr
  have h100 := ((validB_iff mm).1 hv).2.2
  rcases H with ⟨_, _, _, _, _, rfl, rfl, _, _⟩ | ⟨_, x, y, hx, hSt, _, _, rfl⟩
  · refine ⟨?_, by omega⟩
    unfold insJ
    simp only [List.length_append, List.length_take, List.length_cons, List.length_drop]; omega
  · rw [List.length_set]
    refine ⟨by omega, ?_⟩
    rcases hSt with ⟨_, h1, ⟨p, hp, rfl, rfl⟩, rfl, rfl⟩ | ⟨_, h1, _, _, rfl, rfl, rfl, rfl⟩ | ⟨_, h1, rfl, rfl, rfl, rfl⟩ | ⟨_, h1, rfl, rfl, rfl, rfl⟩ | ⟨_, h1, rfl, h2, h3, rfl, rfl, rfl⟩
    · rw [List.length_eraseIdx]; split <;> omega
    · omega
    · omega
    · omega
    · unfold insP
      simp only [List.length_append, List.length_take, List.length_cons, List.length_drop]; omega
theorem insJ_rises {l : List S99} (hs : SortedI l) (p : S99) (h : getK kI l (kI p) = none) : SortedI (insJ l p) ∧ ∀ s, getK kI (insJ l p) s = if kI p = s then some p else getK kI l s := rises_put (key := kI) hs p h
theorem setJ_rises {l : List S99} (hs : SortedI l) {s0 : ByteArray} {x : S99} (h : getK kI l s0 = some x) (q : S99) (hq : q.f0 = x.f0) : SortedI (l.set (posK kI s0 l) q) ∧ ∀ s, getK kI (l.set (posK kI s0 l) q) s = if s0 = s then some q else getK kI l s :=
  rises_set (key := kI) hs h q (by show q.f0.f0 = s0; rw [hq]; exact (getK_some h).2)
end
end Go.Proofs.Ytndbchcfjajgbaa.XP
end
section
/- The guards of the Job laws, and their conversions. Plain lists. -/
namespace Go.Proofs.Ytndbchcfjajgbaa.XP
open Go Go.RowKit
set_option linter.unusedVariables false
set_option linter.unusedSimpArgs false
theorem few_loop (l : List S24) : ∀ (d i k : Nat), i + d = 103 → 2 * d + 2 ≤ k → ∃ b, culetref53_Few.l0 k l (i : Int) = some b ∧ (b = true → l.length ≤ 102)
  | 0, i, k, h, hk => by
    obtain ⟨k, rfl⟩ : ∃ m, k = m + 2 := ⟨k - 2, by omega⟩
    simp only [culetref53_Few.l0, culetref53_Few.j1]
    rw [show decide ((i : Int) < 103) = false from decide_eq_false (by omega)]
    refine ⟨decide ((l.length : Int) ≤ 102), by split <;> simp, fun hb => ?_⟩
    have := of_decide_eq_true hb; omega
  | d + 1, i, k, h, hk => by
    obtain ⟨k, rfl⟩ : ∃ m, k = m + 2 := ⟨k - 2, by omega⟩
    simp only [culetref53_Few.l0, culetref53_Few.j1]
    by_cases hl : (i : Int) < (l.length : Int)
    · rw [if_pos hl, show decide ((i : Int) < 103) = true from decide_eq_true (by omega), if_pos rfl, if_pos (by omega), if_pos hl]
      split
      · exact ⟨false, rfl, by simp⟩
      · split
        · exact ⟨false, rfl, by simp⟩
        · rw [show wrap64 ((i : Int) + 1) = ((i + 1 : Nat) : Int) by unfold wrap64; omega]
          exact few_loop l d (i + 1) k (by omega) (by omega)
    · rw [if_neg hl, if_neg (by decide)]
      refine ⟨_, rfl, fun hb => ?_⟩
      have := of_decide_eq_true hb; omega
theorem few_eq (l : List S24) (k : Nat) (hk : 300 ≤ k) : ∃ b, culetref53_Few.f k l = some b ∧ (b = true → l.length ≤ 102) := few_loop l 103 0 k (by omega) (by omega)
theorem few54_loop (a0 : Int) (l : List S107) (m : List S24) (a3 a4 : Int) : ∀ (d i k : Nat), i + d = 63 → 2 * d + 302 ≤ k → ∃ b, culetref54_Few.l0 k (i : Int) a0 l m a3 a4 = some b ∧ (b = true → l.length ≤ 62 ∧ m.length ≤ 102 ∧ a3 ≤ 1099511627776 ∧ a4 ≤ 1099511627776)
  | 0, i, k, h, hk => by
    obtain ⟨k, rfl⟩ : ∃ m, k = m + 2 := ⟨k - 2, by omega⟩
    simp only [culetref54_Few.l0, culetref54_Few.j1]
    rw [show decide ((i : Int) < 63) = false from decide_eq_false (by omega)]
    obtain ⟨b, hb, hb'⟩ := few_eq m k (by omega)
    rw [ite_self, if_neg (by decide), hb]
    by_cases h1 : (l.length : Int) ≤ 62
    · rw [if_pos h1, Option.bind_some]
      cases b with
      | false => exact ⟨false, rfl, by simp⟩
      | true =>
        rw [if_pos rfl]
        by_cases h2 : a3 ≤ 1099511627776
        · rw [if_pos h2]
          exact ⟨_, rfl, fun h3 => ⟨by omega, hb' rfl, h2, of_decide_eq_true h3⟩⟩
        · rw [if_neg h2]; exact ⟨false, rfl, by simp⟩
    · rw [if_neg h1]; exact ⟨false, rfl, by simp⟩
  | d + 1, i, k, h, hk => by
    obtain ⟨k, rfl⟩ : ∃ m, k = m + 2 := ⟨k - 2, by omega⟩
    simp only [culetref54_Few.l0, culetref54_Few.j1]
    by_cases hl : (i : Int) < (l.length : Int)
    · rw [if_pos hl, show decide ((i : Int) < 63) = true from decide_eq_true (by omega), if_pos rfl, if_pos (by omega), if_pos hl]
      split
      · exact ⟨false, rfl, by simp⟩
      split
      · exact ⟨false, rfl, by simp⟩
      split
      · exact ⟨false, rfl, by simp⟩
      obtain ⟨b, hb, hb'⟩ := few_eq [(⟨(rd_T107 l (i : Int)).f5.f0, (rd_T107 l (i : Int)).f5.f1, (rd_T107 l (i : Int)).f5.f2, (rd_T107 l (i : Int)).f5.f3⟩ : S24)] k (by omega)
      rw [hb, Option.bind_some]
      cases b with
      | false => exact ⟨false, rfl, by simp⟩
      | true =>
        rw [if_pos rfl]
        rw [show wrap64 ((i : Int) + 1) = ((i + 1 : Nat) : Int) by unfold wrap64; omega]
        exact few54_loop a0 l m a3 a4 d (i + 1) k (by omega) (by omega)
    · rw [if_neg hl, if_neg (by decide)]
      obtain ⟨b, hb, hb'⟩ := few_eq m k (by omega)
      rw [hb]
      by_cases h1 : (l.length : Int) ≤ 62
      · rw [if_pos h1, Option.bind_some]
        cases b with
        | false => exact ⟨false, rfl, by simp⟩
        | true =>
          rw [if_pos rfl]
          by_cases h2 : a3 ≤ 1099511627776
          · rw [if_pos h2]
            exact ⟨_, rfl, fun h3 => ⟨by omega, hb' rfl, h2, of_decide_eq_true h3⟩⟩
          · rw [if_neg h2]; exact ⟨false, rfl, by simp⟩
      · rw [if_neg h1]; exact ⟨false, rfl, by simp⟩
theorem few54_eq (a0 : Int) (l : List S107) (m : List S24) (a3 a4 : Int) (k : Nat) (hk : 500 ≤ k) : ∃ b, culetref54_Few.f k a0 l m a3 a4 = some b ∧ (b = true → l.length ≤ 62 ∧ m.length ≤ 102 ∧ a3 ≤ 1099511627776 ∧ a4 ≤ 1099511627776) := few54_loop a0 l m a3 a4 63 0 k (by omega) (by omega)
theorem awake0 : culetlaw54_awake.f 20 = some true := by decide +kernel
theorem awake_eq : ∀ k : Nat, 20 ≤ k → culetlaw54_awake.f k = some true
  | 0, h => by omega
  | k + 1, h => by
    by_cases e : k + 1 = 20
    · rw [e]; exact awake0
    · exact culetlaw54_awake.mono k _ (awake_eq k (by omega))
/-- An item of the reference, as one of the program. -/
def cvI (x : S107) : S99 := ⟨⟨x.f0.f0, x.f0.f1, x.f0.f2, x.f0.f3, x.f0.f4⟩, x.f1, x.f2, x.f3, x.f4, ⟨x.f5.f0, x.f5.f1, x.f5.f2, x.f5.f3⟩⟩
theorem own_loop (l : List S107) (hn : l.length ≤ 1000) (a0 : Int) (m : List S24) (a3 a4 : Int) : ∀ (d i k : Nat), i + d = l.length → d < k → culetlaw54_Own.l0 k l (l.length : Int) (i : Int) a0 ((l.take i).map cvI) m a3 a4 = some (a0, l.map cvI, m, a3, a4)
  | 0, i, k, h, hk => by
    obtain ⟨k, rfl⟩ : ∃ m, k = m + 1 := ⟨k - 1, by omega⟩
    simp only [culetlaw54_Own.l0]
    rw [if_neg (by omega), List.take_of_length_le (by omega)]
  | d + 1, i, k, h, hk => by
    obtain ⟨k, rfl⟩ : ∃ m, k = m + 1 := ⟨k - 1, by omega⟩
    simp only [culetlaw54_Own.l0]
    have hi : i < l.length := by omega
    rw [if_pos (by omega), if_pos (by omega), if_pos (by omega), if_pos (by rw [List.length_map, List.length_take]; omega)]
    rw [show wrap64 ((i : Int) + 1) = ((i + 1 : Nat) : Int) by unfold wrap64; omega]
    have e : (l.take i).map cvI ++ [cvI (rd_T107 l (i : Int))] = (l.take (i + 1)).map cvI := by
      have e0 : rd_T107 l (i : Int) = l[i] := by unfold rd_T107; simp [List.getD_eq_getElem?_getD, hi]
      rw [e0, List.take_add_one, List.getElem?_eq_getElem hi, List.map_append]; rfl
    have := own_loop l hn a0 m a3 a4 d (i + 1) k (by omega) (by omega)
    rw [← e] at this
    exact this
theorem own_eq (l : List S107) (hn : l.length ≤ 1000) (a0 : Int) (m : List S24) (a3 a4 : Int) (k : Nat) (hk : l.length < k) : culetlaw54_Own.f k a0 l m a3 a4 = some (a0, l.map cvI, m, a3, a4) := own_loop l hn a0 m a3 a4 l.length 0 k (by omega) hk
theorem jdo_eqk (d : Int) (l : List S99) (mm : List S24) (hn : mm.length ≤ 1000) (e t ek ed : Int) (j0 j1 j2 : ByteArray) (j3 j4 : Int) (id : ByteArray) (wt : Int) : job_Do.f d l mm e t ek ed j0 j1 j2 j3 j4 id wt = some (doJ d l mm e t ek ed ⟨j0, j1, j2, j3, j4⟩ id wt) := by
  unfold job_Do.f; rw [if_pos hn]
end Go.Proofs.Ytndbchcfjajgbaa.XP
end
