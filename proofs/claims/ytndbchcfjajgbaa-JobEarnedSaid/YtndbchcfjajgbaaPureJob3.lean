/- The guards of the Job laws, and their conversions. Plain lists. -/
import Derived.Test.YtndbchcfjajgbaaPureJob2
import Derived.Test.YtndbchcfjajgbaaXP15
import Derived.Test.YtndbchcfjajgbaaXP16
import Derived.Test.YtndbchcfjajgbaaXP14
namespace Go.Proofs.Ytndbchcfjajgbaa.XP
open Go Go.RowKit
set_option linter.unusedVariables false
set_option linter.unusedSimpArgs false
theorem few_loop (l : List S24) : ∀ (d i k : Nat), i + d = 103 → 2 * d + 2 ≤ k → ∃ b, culetref53_Few.l0 k l (i : Int) = some b ∧ (b = true → l.length ≤ 102)
  | 0, i, k, h, hk => by
    obtain ⟨k, rfl⟩ : ∃ m, k = m + 2 := ⟨k - 2, by omega⟩
    simp only [culetref53_Few.l0, culetref53_Few.j1]
    rw [show decide ((i : Int) < 103) = false from decide_eq_false (by omega)]
    refine ⟨decide ((l.length : Int) ≤ 102), by split <;> simp, fun hb => ?_⟩
    have := of_decide_eq_true hb; omega
  | d + 1, i, k, h, hk => by
    obtain ⟨k, rfl⟩ : ∃ m, k = m + 2 := ⟨k - 2, by omega⟩
    simp only [culetref53_Few.l0, culetref53_Few.j1]
    by_cases hl : (i : Int) < (l.length : Int)
    · rw [if_pos hl, show decide ((i : Int) < 103) = true from decide_eq_true (by omega), if_pos rfl, if_pos (by omega), if_pos hl]
      split
      · exact ⟨false, rfl, by simp⟩
      · split
        · exact ⟨false, rfl, by simp⟩
        · rw [show wrap64 ((i : Int) + 1) = ((i + 1 : Nat) : Int) by unfold wrap64; omega]
          exact few_loop l d (i + 1) k (by omega) (by omega)
    · rw [if_neg hl, if_neg (by decide)]
      refine ⟨_, rfl, fun hb => ?_⟩
      have := of_decide_eq_true hb; omega
theorem few_eq (l : List S24) (k : Nat) (hk : 300 ≤ k) : ∃ b, culetref53_Few.f k l = some b ∧ (b = true → l.length ≤ 102) := few_loop l 103 0 k (by omega) (by omega)
set_option maxRecDepth 100000 in
theorem fewEv_loop (l : List S71) : ∀ (d i k : Nat), i + d = 203 → 2 * d + 2 ≤ k → ∃ b, culetref54_FewEvents.l0 k l (i : Int) = some b ∧ (b = true → l.length ≤ 202)
  | 0, i, k, h, hk => by
    obtain ⟨k, rfl⟩ : ∃ m, k = m + 2 := ⟨k - 2, by omega⟩
    simp only [culetref54_FewEvents.l0, culetref54_FewEvents.j1]
    rw [show decide ((i : Int) < 203) = false from decide_eq_false (by omega)]
    refine ⟨decide ((l.length : Int) ≤ 202), by split <;> simp, fun hb => ?_⟩
    have := of_decide_eq_true hb; omega
  | d + 1, i, k, h, hk => by
    obtain ⟨k, rfl⟩ : ∃ m, k = m + 2 := ⟨k - 2, by omega⟩
    simp only [culetref54_FewEvents.l0, culetref54_FewEvents.j1]
    by_cases hl : (i : Int) < (l.length : Int)
    · rw [if_pos hl, show decide ((i : Int) < 203) = true from decide_eq_true (by omega), if_pos rfl, if_pos (by omega), if_pos hl]
      repeat' (first | exact ⟨false, rfl, by simp⟩ | (rw [show wrap64 ((i : Int) + 1) = ((i + 1 : Nat) : Int) by unfold wrap64; omega]; exact fewEv_loop l d (i + 1) k (by omega) (by omega)) | split)
    · rw [if_neg hl, if_neg (by decide)]
      refine ⟨_, rfl, fun hb => ?_⟩
      have := of_decide_eq_true hb; omega
theorem fewEv_eq (l : List S71) (k : Nat) (hk : 500 ≤ k) : ∃ b, culetref54_FewEvents.f k l = some b ∧ (b = true → l.length ≤ 202) := fewEv_loop l 203 0 k (by omega) (by omega)
theorem awake0 : culetlaw54_awake.f 20 = some true := by decide +kernel
theorem awake_eq : ∀ k : Nat, 20 ≤ k → culetlaw54_awake.f k = some true
  | 0, h => by omega
  | k + 1, h => by
    by_cases e : k + 1 = 20
    · rw [e]; exact awake0
    · exact culetlaw54_awake.mono k _ (awake_eq k (by omega))
theorem jdo_eqk (d : Int) (l : List S99) (mm : List S24) (hn : mm.length ≤ 1000) (e t ek ed : Int) (j0 j1 j2 : ByteArray) (j3 j4 : Int) (id : ByteArray) (wt : Int) : job_Do.f d l mm e t ek ed j0 j1 j2 j3 j4 id wt = some (doJ d l mm e t ek ed ⟨j0, j1, j2, j3, j4⟩ id wt) := by
  unfold job_Do.f; rw [if_pos hn]
end Go.Proofs.Ytndbchcfjajgbaa.XP
