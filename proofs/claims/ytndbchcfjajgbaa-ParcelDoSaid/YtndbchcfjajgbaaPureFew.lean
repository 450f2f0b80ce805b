/- The guards of the Parcel laws, and the example. Plain lists. -/
import Derived.Test.YtndbchcfjajgbaaPureDo
import Derived.Test.YtndbchcfjajgbaaXP10
import Derived.Test.YtndbchcfjajgbaaXP13
import Derived.Test.YtndbchcfjajgbaaXP9
namespace Go.Proofs.Ytndbchcfjajgbaa.XP
open Go Go.RowKit Go.Proofs.Ytndbchcfjajgbaa.XH
set_option linter.unusedVariables false
set_option linter.unusedSimpArgs false
theorem awake0 : culetlaw53_awake.f 10 = some true := by decide +kernel
theorem awake_eq : ∀ k : Nat, 10 ≤ k → culetlaw53_awake.f k = some true
  | 0, h => by omega
  | k + 1, h => by
    by_cases e : k + 1 = 10
    · rw [e]; exact awake0
    · exact culetlaw53_awake.mono k _ (awake_eq k (by omega))
theorem same_loop (l : List S24) (hn : l.length ≤ 1000) : ∀ (d i k : Nat), i + d = l.length → d < k → culetref53_Same.l0 k l l (i : Int) = some true
  | 0, i, k, h, hk => by
    obtain ⟨k, rfl⟩ : ∃ m, k = m + 1 := ⟨k - 1, by omega⟩
    simp only [culetref53_Same.l0]
    rw [if_neg (by omega)]
  | d + 1, i, k, h, hk => by
    obtain ⟨k, rfl⟩ : ∃ m, k = m + 1 := ⟨k - 1, by omega⟩
    simp only [culetref53_Same.l0]
    rw [if_pos (by omega), if_pos (by omega), if_pos (by omega), if_neg (by simp), show wrap64 ((i : Int) + 1) = ((i + 1 : Nat) : Int) by unfold wrap64; omega]
    exact same_loop l hn d (i + 1) k (by omega) (by omega)
theorem same_eq (l : List S24) (hn : l.length ≤ 1000) (k : Nat) (hk : l.length < k) : culetref53_Same.f k l l = some true := by
  unfold culetref53_Same.f
  rw [if_pos rfl]
  exact same_loop l hn l.length 0 k (by omega) hk
theorem do_eqk (l : List S24) (hn : l.length ≤ 1000) (a : Int) (b c : ByteArray) (d e : Int) (f g : ByteArray) (h i : Int) : parcel_Do.f l a b c d e f g h i = some (doR l a b c d e f g h i) := by
  unfold parcel_Do.f; rw [if_pos hn]
theorem fnd_get (l : List S24) (s : ByteArray) : (∀ x, getK S24.f0 l s = some x → fnd l s = x ∧ hasF l s = true) ∧ (getK S24.f0 l s = none → fnd l s = z24 ∧ hasF l s = false) := by
  have key : ∀ (l : List S24) (i : Int), 0 ≤ i → (∀ x, getK S24.f0 l s = some x → ∃ j : Nat, idx (isId s) l i = i + j ∧ l[j]? = some x) ∧ (getK S24.f0 l s = none → idx (isId s) l i = -1) := by
    intro l
    induction l with
    | nil => intro i hi; exact ⟨fun x h => by simp [getK_nil] at h, fun _ => rfl⟩
    | cons y l ih =>
      intro i hi
      have e : isId s y = true ↔ y.f0 = s := by unfold isId; rw [beq_iff_eq, toList_inj]
      rw [getK_cons]
      unfold idx
      by_cases h : y.f0 = s
      · rw [if_pos h, if_pos (e.2 h)]
        exact ⟨fun x hx => ⟨0, by simp, by simpa using hx⟩, fun hx => by cases hx⟩
      · rw [if_neg h, if_neg (fun hc => h (e.1 hc))]
        obtain ⟨h1, h2⟩ := ih (i + 1) (by omega)
        refine ⟨fun x hx => ?_, h2⟩
        obtain ⟨j, q1, q2⟩ := h1 x hx
        exact ⟨j + 1, by rw [q1]; omega, by simpa using q2⟩
  obtain ⟨h1, h2⟩ := key l 0 (by omega)
  unfold fnd hasF
  constructor
  · intro x hx
    obtain ⟨j, q1, q2⟩ := h1 x hx
    rw [q1, Int.zero_add]
    rw [if_pos (by omega), rd_of_get q2]
    exact ⟨rfl, decide_eq_true (by omega)⟩
  · intro hx
    rw [h2 hx]
    exact ⟨rfl, rfl⟩
end Go.Proofs.Ytndbchcfjajgbaa.XP
