/- The guards of the Parcel laws, and the example. Plain lists. -/
import Derived.Test.YtndbchcfjajgbaaPureDo
import Derived.Test.YtndbchcfjajgbaaXP12
import Derived.Test.YtndbchcfjajgbaaXP10
import Derived.Test.YtndbchcfjajgbaaXP14
import Derived.Test.YtndbchcfjajgbaaXP9
namespace Go.Proofs.Ytndbchcfjajgbaa.XP
open Go Go.RowKit Go.Proofs.Ytndbchcfjajgbaa.XH
set_option linter.unusedVariables false
set_option linter.unusedSimpArgs false
theorem few_loop (l : List S24) : ∀ (d i k : Nat), i + d = 103 → 2 * d + 2 ≤ k → ∃ b, culetref53_Few.l0 k l (i : Int) = some b ∧ (b = true → l.length ≤ 102)
  | 0, i, k, h, hk => by
    obtain ⟨k, rfl⟩ : ∃ m, k = m + 2 := ⟨k - 2, by omega⟩
    simp only [culetref53_Few.l0, culetref53_Few.j1]
    rw [show decide ((i : Int) < 103) = false from decide_eq_false (by omega)]
    refine ⟨decide ((l.length : Int) ≤ 102), by split <;> simp, fun hb => ?_⟩
    have := of_decide_eq_true hb; omega
  | d + 1, i, k, h, hk => by
    obtain ⟨k, rfl⟩ : ∃ m, k = m + 2 := ⟨k - 2, by omega⟩
    simp only [culetref53_Few.l0, culetref53_Few.j1]
    by_cases hl : (i : Int) < (l.length : Int)
    · rw [if_pos hl, show decide ((i : Int) < 103) = true from decide_eq_true (by omega), if_pos rfl, if_pos (by omega), if_pos hl]
      split
      · exact ⟨false, rfl, by simp⟩
      · split
        · exact ⟨false, rfl, by simp⟩
        · rw [show wrap64 ((i : Int) + 1) = ((i + 1 : Nat) : Int) by unfold wrap64; omega]
          exact few_loop l d (i + 1) k (by omega) (by omega)
    · rw [if_neg hl, if_neg (by decide)]
      refine ⟨_, rfl, fun hb => ?_⟩
      have := of_decide_eq_true hb; omega
theorem few_eq (l : List S24) (k : Nat) (hk : 300 ≤ k) : ∃ b, culetref53_Few.f k l = some b ∧ (b = true → l.length ≤ 102) := few_loop l 103 0 k (by omega) (by omega)
set_option maxRecDepth 100000 in
theorem fewE_loop (l : List S26) : ∀ (d i k : Nat), i + d = 203 → 2 * d + 2 ≤ k → ∃ b, culetref53_FewEntries.l0 k l (i : Int) = some b ∧ (b = true → l.length ≤ 202)
  | 0, i, k, h, hk => by
    obtain ⟨k, rfl⟩ : ∃ m, k = m + 2 := ⟨k - 2, by omega⟩
    simp only [culetref53_FewEntries.l0, culetref53_FewEntries.j1]
    rw [show decide ((i : Int) < 203) = false from decide_eq_false (by omega)]
    refine ⟨decide ((l.length : Int) ≤ 202), by split <;> simp, fun hb => ?_⟩
    have := of_decide_eq_true hb; omega
  | d + 1, i, k, h, hk => by
    obtain ⟨k, rfl⟩ : ∃ m, k = m + 2 := ⟨k - 2, by omega⟩
    simp only [culetref53_FewEntries.l0, culetref53_FewEntries.j1]
    by_cases hl : (i : Int) < (l.length : Int)
    · rw [if_pos hl, show decide ((i : Int) < 203) = true from decide_eq_true (by omega), if_pos rfl, if_pos (by omega), if_pos hl]
      repeat' (first | exact ⟨false, rfl, by simp⟩ | (rw [show wrap64 ((i : Int) + 1) = ((i + 1 : Nat) : Int) by unfold wrap64; omega]; exact fewE_loop l d (i + 1) k (by omega) (by omega)) | split)
    · rw [if_neg hl, if_neg (by decide)]
      refine ⟨_, rfl, fun hb => ?_⟩
      have := of_decide_eq_true hb; omega
theorem fewE_eq (l : List S26) (k : Nat) (hk : 500 ≤ k) : ∃ b, culetref53_FewEntries.f k l = some b ∧ (b = true → l.length ≤ 202) := fewE_loop l 203 0 k (by omega) (by omega)
theorem awake0 : culetlaw53_awake.f 10 = some true := by decide +kernel
theorem awake_eq : ∀ k : Nat, 10 ≤ k → culetlaw53_awake.f k = some true
  | 0, h => by omega
  | k + 1, h => by
    by_cases e : k + 1 = 10
    · rw [e]; exact awake0
    · exact culetlaw53_awake.mono k _ (awake_eq k (by omega))
theorem same_loop (l : List S24) (hn : l.length ≤ 1000) : ∀ (d i k : Nat), i + d = l.length → d < k → culetref53_Same.l0 k l l (i : Int) = some true
  | 0, i, k, h, hk => by
    obtain ⟨k, rfl⟩ : ∃ m, k = m + 1 := ⟨k - 1, by omega⟩
    simp only [culetref53_Same.l0]
    rw [if_neg (by omega)]
  | d + 1, i, k, h, hk => by
    obtain ⟨k, rfl⟩ : ∃ m, k = m + 1 := ⟨k - 1, by omega⟩
    simp only [culetref53_Same.l0]
    rw [if_pos (by omega), if_pos (by omega), if_pos (by omega), if_neg (by simp), show wrap64 ((i : Int) + 1) = ((i + 1 : Nat) : Int) by unfold wrap64; omega]
    exact same_loop l hn d (i + 1) k (by omega) (by omega)
theorem same_eq (l : List S24) (hn : l.length ≤ 1000) (k : Nat) (hk : l.length < k) : culetref53_Same.f k l l = some true := by
  unfold culetref53_Same.f
  rw [if_pos rfl]
  exact same_loop l hn l.length 0 k (by omega) hk
theorem weigh_eqk (l : List S24) (m : ByteArray) (hn : l.length ≤ 1000) (k : Nat) (hk : l.length < k) : parcel_Weigh.f k l m = some (sumL (wf m) l, sumL (cf m) l) := by
  unfold parcel_Weigh.f
  have := weigh_loop m l hn l.length 0 k (0, 0) (by omega) hk
  have h2 := weighW_eq l m hn
  unfold weighW at h2
  simp only at this
  rw [List.drop_zero, h2] at this
  exact this
theorem do_eqk (l : List S24) (hn : l.length ≤ 1000) (a : Int) (b c : ByteArray) (d e : Int) (f g : ByteArray) (h i : Int) : parcel_Do.f l a b c d e f g h i = some (doR l a b c d e f g h i) := by
  unfold parcel_Do.f; rw [if_pos hn]
theorem fnd_get (l : List S24) (s : ByteArray) : (∀ x, getK S24.f0 l s = some x → fnd l s = x ∧ hasF l s = true) ∧ (getK S24.f0 l s = none → fnd l s = z24 ∧ hasF l s = false) := by
  have key : ∀ (l : List S24) (i : Int), 0 ≤ i → (∀ x, getK S24.f0 l s = some x → ∃ j : Nat, idx (isId s) l i = i + j ∧ l[j]? = some x) ∧ (getK S24.f0 l s = none → idx (isId s) l i = -1) := by
    intro l
    induction l with
    | nil => intro i hi; exact ⟨fun x h => by simp [getK_nil] at h, fun _ => rfl⟩
    | cons y l ih =>
      intro i hi
      have e : isId s y = true ↔ y.f0 = s := by unfold isId; rw [beq_iff_eq, toList_inj]
      rw [getK_cons]
      unfold idx
      by_cases h : y.f0 = s
      · rw [if_pos h, if_pos (e.2 h)]
        exact ⟨fun x hx => ⟨0, by simp, by simpa using hx⟩, fun hx => by cases hx⟩
      · rw [if_neg h, if_neg (fun hc => h (e.1 hc))]
        obtain ⟨h1, h2⟩ := ih (i + 1) (by omega)
        refine ⟨fun x hx => ?_, h2⟩
        obtain ⟨j, q1, q2⟩ := h1 x hx
        exact ⟨j + 1, by rw [q1]; omega, by simpa using q2⟩
  obtain ⟨h1, h2⟩ := key l 0 (by omega)
  unfold fnd hasF
  constructor
  · intro x hx
    obtain ⟨j, q1, q2⟩ := h1 x hx
    rw [q1, Int.zero_add]
    rw [if_pos (by omega), rd_of_get q2]
    exact ⟨rfl, decide_eq_true (by omega)⟩
  · intro hx
    rw [h2 hx]
    exact ⟨rfl, rfl⟩
end Go.Proofs.Ytndbchcfjajgbaa.XP
