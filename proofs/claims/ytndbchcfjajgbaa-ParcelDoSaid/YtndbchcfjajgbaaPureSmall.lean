/- Short names: Valid and Find of a list of pieces answer alike in the program and the reference. Plain lists. -/
import Derived.Test.YtndbchcfjajgbaaPureName
import Derived.Test.YtndbchcfjajgbaaHandFind
import Derived.Test.YtndbchcfjajgbaaXP10
import Derived.Test.YtndbchcfjajgbaaXP12
namespace Go.Proofs.Ytndbchcfjajgbaa.XP
open Go Go.RowKit Go.Proofs Go.Proofs.YtndbchcfjajgbaaW.PrintWords Go.Proofs.YtndbchcfjajgbaaW.PrintLast Go.Proofs.Ytndbchcfjajgbaa.XH
set_option linter.unusedVariables false
set_option linter.unusedSimpArgs false
def Small (l : List S24) : Prop := ∀ x ∈ l, x.f0.size ≤ 40 ∧ x.f1.size ≤ 40
theorem few40_loop (l : List S24) : ∀ (d i k : Nat), i + d = 103 → 2 * d + 2 ≤ k → ∃ b, culetref53_Few.l0 k l (i : Int) = some b ∧ (b = true → l.length ≤ 102 ∧ Small (l.drop i))
  | 0, i, k, h, hk => by
    obtain ⟨k, rfl⟩ : ∃ m, k = m + 2 := ⟨k - 2, by omega⟩
    simp only [culetref53_Few.l0, culetref53_Few.j1]
    rw [show decide ((i : Int) < 103) = false from decide_eq_false (by omega)]
    refine ⟨decide ((l.length : Int) ≤ 102), by split <;> simp, fun hb => ?_⟩
    have := of_decide_eq_true hb
    refine ⟨by omega, fun x hx => ?_⟩
    rw [List.drop_of_length_le (by omega)] at hx; simp at hx
  | d + 1, i, k, h, hk => by
    obtain ⟨k, rfl⟩ : ∃ m, k = m + 2 := ⟨k - 2, by omega⟩
    simp only [culetref53_Few.l0, culetref53_Few.j1]
    by_cases hl : (i : Int) < (l.length : Int)
    · have hlt : i < l.length := by omega
      rw [if_pos hl, show decide ((i : Int) < 103) = true from decide_eq_true (by omega), if_pos rfl, if_pos (by omega), if_pos hl, rd24 l i hlt]
      by_cases h1 : (l[i].f0.size : Int) > 40
      · rw [if_pos h1]; exact ⟨false, rfl, by simp⟩
      · rw [if_neg h1]
        by_cases h2 : (l[i].f1.size : Int) > 40
        · rw [if_pos h2]; exact ⟨false, rfl, by simp⟩
        · rw [if_neg h2, show wrap64 ((i : Int) + 1) = ((i + 1 : Nat) : Int) by unfold wrap64; omega]
          obtain ⟨b, e1, e2⟩ := few40_loop l d (i + 1) k (by omega) (by omega)
          refine ⟨b, e1, fun hb => ⟨(e2 hb).1, fun x hx => ?_⟩⟩
          rw [List.drop_eq_getElem_cons hlt] at hx
          rcases List.mem_cons.1 hx with rfl | hx
          · exact ⟨by omega, by omega⟩
          · exact (e2 hb).2 x hx
    · rw [if_neg hl, if_neg (by decide)]
      refine ⟨_, rfl, fun hb => ?_⟩
      have := of_decide_eq_true hb
      refine ⟨by omega, fun x hx => ?_⟩
      rw [List.drop_of_length_le (by omega)] at hx; simp at hx
theorem few40 (l : List S24) (k : Nat) (hk : 300 ≤ k) : ∃ b, culetref53_Few.f k l = some b ∧ (b = true → l.length ≤ 102 ∧ Small l) := few40_loop l 103 0 k (by omega) (by omega)
theorem valid_eqk (l : List S24) (hn : l.length ≤ 1000) (k : Nat) (hk : l.length < k) : parcel_Valid.f k l = some (validB l) := by
  unfold parcel_Valid.f validB
  have := valid_loop l hn l.length 0 k (by omega) hk
  simpa using this
theorem small_piece {l : List S24} (hs : Small l) (i : Nat) (h : i < l.length) (k : Nat) (hk : 50 < k) : culetref53_piece.f k l[i].f0 l[i].f1 l[i].f2 l[i].f3 = some (rightB l[i]) := by
  obtain ⟨h1, h2⟩ := hs l[i] (List.getElem_mem h)
  exact piece13 l[i] (by omega) (by omega) k (by omega) (by omega) (by omega)
theorem valid53_loop (l : List S24) (hn : l.length ≤ 1000) (hs : Small l) : ∀ (d i k : Nat), i + d = l.length → d + 60 < k → culetref53_Valid.l0 k l (i : Int) = some (validGo (l.drop i) (if i = 0 then none else some (rd_T24 l ((i : Int) - 1))) && decide ((l.length : Int) ≤ 100))
  | 0, i, k, h, hk => by
    obtain ⟨k, rfl⟩ : ∃ m, k = m + 1 := ⟨k - 1, by omega⟩
    simp only [culetref53_Valid.l0]
    rw [if_neg (by omega), List.drop_of_length_le (by omega)]
    rfl
  | d + 1, i, k, h, hk => by
    obtain ⟨k, rfl⟩ : ∃ m, k = m + 1 := ⟨k - 1, by omega⟩
    have hlt : i < l.length := by omega
    have ih := valid53_loop l hn hs d (i + 1) k (by omega) (by omega)
    simp only [culetref53_Valid.l0]
    rw [if_pos (by omega), if_pos (by omega), rd24 l i hlt, small_piece hs i hlt k (by omega)]
    simp only [Option.bind_some]
    rw [show wrap64 ((i : Int) + 1) = ((i + 1 : Nat) : Int) by unfold wrap64; omega, ih, List.drop_eq_getElem_cons hlt]
    simp only [validGo]
    rw [if_neg (by omega : ¬ i + 1 = 0), show (((i + 1 : Nat) : Int) - 1) = (i : Int) by omega, rd24 l i hlt]
    cases hr : rightB l[i]
    · simp
    · simp only [if_true, Bool.true_and]
      by_cases h0 : i = 0
      · subst h0
        rw [if_neg (by omega), if_pos rfl]
        simp [lessP]
      · rw [if_pos (by omega), if_neg h0, show wrap64 ((i : Int) - 1) = (i : Int) - 1 by unfold wrap64; omega, if_pos (by omega), if_pos (by omega)]
        simp only [lessP]
        cases Op.bytesLess (rd_T24 l ((i : Int) - 1)).f0.toList l[i].f0.toList <;> simp
theorem valid53 (l : List S24) (hn : l.length ≤ 1000) (hs : Small l) (k : Nat) (hk : l.length + 60 < k) : culetref53_Valid.f k l = some (validB l) := by
  unfold culetref53_Valid.f validB
  have := valid53_loop l hn hs l.length 0 k (by omega) hk
  simpa using this
theorem find53_loop (l : List S24) (s : ByteArray) (hn : l.length ≤ 1000) : ∀ (d i k : Nat), i + d = l.length → d < k → culetref53_Find.l0 k l s (i : Int) = some (if 0 ≤ idx (isId s) (l.drop i) i then ((rd_T24 l (idx (isId s) (l.drop i) i)).f0, (rd_T24 l (idx (isId s) (l.drop i) i)).f1, (rd_T24 l (idx (isId s) (l.drop i) i)).f2, (rd_T24 l (idx (isId s) (l.drop i) i)).f3, true) else ((⟨#[]⟩ : ByteArray), (⟨#[]⟩ : ByteArray), 0, 0, false))
  | 0, i, k, h, hk => by
    obtain ⟨k, rfl⟩ : ∃ m, k = m + 1 := ⟨k - 1, by omega⟩
    simp only [culetref53_Find.l0]
    rw [if_neg (by omega), List.drop_of_length_le (by omega)]
    rfl
  | d + 1, i, k, h, hk => by
    obtain ⟨k, rfl⟩ : ∃ m, k = m + 1 := ⟨k - 1, by omega⟩
    have hlt : i < l.length := by omega
    have ih := find53_loop l s hn d (i + 1) k (by omega) (by omega)
    have e : idx (isId s) (l.drop i) i = if isId s l[i] = true then (i : Int) else idx (isId s) (l.drop (i + 1)) ((i + 1 : Nat) : Int) := by
      rw [List.drop_eq_getElem_cons hlt]; rfl
    rw [e]
    simp only [culetref53_Find.l0]
    rw [if_pos (by omega), if_pos (by omega), show wrap64 ((i : Int) + 1) = ((i + 1 : Nat) : Int) by unfold wrap64; omega, ih]
    have e2 : isId s l[i] = true ↔ (rd_T24 l (i : Int)).f0.toList = s.toList := by rw [rd24 l i hlt]; unfold isId; rw [beq_iff_eq]
    by_cases h1 : (rd_T24 l (i : Int)).f0.toList = s.toList
    · rw [if_pos h1, if_pos (e2.2 h1), if_pos (by omega)]
    · rw [if_neg h1, if_neg (fun h => h1 (e2.1 h))]
theorem find53 (l : List S24) (s : ByteArray) (hn : l.length ≤ 1000) (k : Nat) (hk : l.length < k) : culetref53_Find.f k l s = parcel_Find.f l s := by
  unfold culetref53_Find.f parcel_Find.f
  exact find53_loop l s hn l.length 0 k (by omega) hk
end Go.Proofs.Ytndbchcfjajgbaa.XP
