/- Tariffs: the program's answers are the reference's. Plain lists. -/
import Derived.Test.YtndbchcfjajgbaaPureName
import Derived.Test.YtndbchcfjajgbaaHandClass
import Derived.Test.YtndbchcfjajgbaaHandRight
import Derived.Test.YtndbchcfjajgbaaXP13
import Derived.Test.YtndbchcfjajgbaaXP16
namespace Go.Proofs.Ytndbchcfjajgbaa.XP
open Go Go.RowKit Go.Proofs Go.Proofs.YtndbchcfjajgbaaW.PrintWords Go.Proofs.YtndbchcfjajgbaaW.PrintLast Go.Proofs.Ytndbchcfjajgbaa.XH
set_option linter.unusedVariables false
set_option linter.unusedSimpArgs false
def conv44 (x : S138) : S139 := ⟨x.f0, x.f1⟩
def prevOk (p : Option S139) (c : S139) : Bool := match p with | none => decide (c.f0 = 0) | some q => decide (q.f0 < c.f0)
def clsGo : List S139 → Option S139 → Bool
  | [], _ => true
  | c :: r, p => decide (c.f0 ≤ 1000000) && (decide (0 ≤ c.f1) && (decide (c.f1 ≤ 1000000) && (prevOk p c && clsGo r (some c))))
theorem rd139 (l : List S139) (i : Nat) (h : i < l.length) : rd_T139 l (i : Int) = l[i] := by
  unfold rd_T139; simp [List.getD_eq_getElem?_getD, h]
theorem rd138 (l : List S138) (i : Nat) (h : i < l.length) : rd_T138 l (i : Int) = l[i] := by
  unfold rd_T138; simp [List.getD_eq_getElem?_getD, h]
def tailB (m : ByteArray) (n : Nat) : Bool := nameB m && (decide (1 ≤ n) && decide (n ≤ 20))
theorem tv_loop (m : ByteArray) (l : List S139) (hn : l.length ≤ 1000) : ∀ (d i k : Nat), i + d = l.length → d < k → tariff_Valid.l0 k l (l.length : Int) (i : Int) m l = some (clsGo (l.drop i) (if i = 0 then none else some (rd_T139 l ((i : Int) - 1))) && tailB m l.length)
  | 0, i, k, h, hk => by
    obtain ⟨k, rfl⟩ : ∃ q, k = q + 1 := ⟨k - 1, by omega⟩
    simp only [tariff_Valid.l0]
    rw [if_neg (by omega), List.drop_of_length_le (by omega), isName_eq]
    simp only [Option.bind_some, clsGo, tailB, Bool.true_and]
    cases nameB m
    · rfl
    · simp only [if_true, Bool.true_and]
      by_cases h1 : (l.length : Int) ≥ 1
      · rw [if_pos h1, decide_eq_true (show 1 ≤ l.length by omega), Bool.true_and]
        congr 1
        rw [decide_eq_decide]; omega
      · rw [if_neg h1, decide_eq_false (show ¬ 1 ≤ l.length by omega)]; rfl
  | d + 1, i, k, h, hk => by
    obtain ⟨k, rfl⟩ : ∃ q, k = q + 1 := ⟨k - 1, by omega⟩
    have hlt : i < l.length := by omega
    have ih := tv_loop m l hn d (i + 1) k (by omega) (by omega)
    rw [if_neg (by omega), show (((i + 1 : Nat) : Int) - 1) = (i : Int) by omega, rd139 l i hlt] at ih
    simp only [tariff_Valid.l0]
    rw [if_pos (by omega), if_pos (by omega), if_pos (by omega), rd139 l i hlt, List.drop_eq_getElem_cons hlt, show wrap64 ((i : Int) + 1) = ((i + 1 : Nat) : Int) by unfold wrap64; omega, ih]
    simp only [clsGo]
    by_cases h1 : l[i].f0 > 1000000
    · rw [if_pos h1, decide_eq_false (by omega)]; rfl
    · rw [if_neg h1, decide_eq_true (by omega), Bool.true_and]
      by_cases h2 : l[i].f1 < 0
      · rw [if_pos h2, decide_eq_false (by omega)]; rfl
      · rw [if_neg h2, decide_eq_true (by omega), Bool.true_and]
        by_cases h3 : l[i].f1 > 1000000
        · rw [if_pos h3, decide_eq_false (by omega)]; rfl
        · rw [if_neg h3, decide_eq_true (by omega), Bool.true_and]
          by_cases h0 : i = 0
          · subst h0
            rw [if_pos rfl, if_pos (show ((0 : Nat) : Int) = 0 by omega)]
            simp only [prevOk]
            by_cases h4 : l[0].f0 = 0
            · rw [if_pos h4, if_neg (by omega), decide_eq_true h4]; rfl
            · rw [if_neg h4, decide_eq_false h4]; rfl
          · rw [if_neg (by omega), if_pos (by omega), if_neg h0, show wrap64 ((i : Int) - 1) = (i : Int) - 1 by unfold wrap64; omega, if_pos (by omega), if_pos (by omega)]
            simp only [prevOk]
            by_cases h4 : (rd_T139 l ((i : Int) - 1)).f0 ≥ l[i].f0
            · rw [if_pos h4, decide_eq_false (by omega)]; rfl
            · rw [if_neg h4, decide_eq_true (by omega)]; rfl
def validT (m : ByteArray) (l : List S139) : Bool := clsGo l none && tailB m l.length
theorem tv_eq (m : ByteArray) (l : List S139) (hn : l.length ≤ 1000) (k : Nat) (hk : l.length < k) : tariff_Valid.f k m l = some (validT m l) := by
  unfold tariff_Valid.f validT
  have := tv_loop m l hn l.length 0 k (by omega) hk
  simpa using this
theorem rv_loop (m : ByteArray) (l : List S138) (hn : l.length ≤ 1000) : ∀ (d i k : Nat), 0 < i → i + d = l.length → d < k → culetref44_Valid.l0 k (i : Int) m l = some (clsGo ((l.map conv44).drop i) (some (conv44 (rd_T138 l ((i : Int) - 1)))))
  | 0, i, k, h0, h, hk => by
    obtain ⟨k, rfl⟩ : ∃ q, k = q + 1 := ⟨k - 1, by omega⟩
    simp only [culetref44_Valid.l0]
    rw [if_neg (by omega), List.drop_of_length_le (by rw [List.length_map]; omega)]; rfl
  | d + 1, i, k, h0, h, hk => by
    obtain ⟨k, rfl⟩ : ∃ q, k = q + 1 := ⟨k - 1, by omega⟩
    have hlt : i < l.length := by omega
    have ih := rv_loop m l hn d (i + 1) k (by omega) (by omega) (by omega)
    rw [show (((i + 1 : Nat) : Int) - 1) = (i : Int) by omega, rd138 l i hlt] at ih
    simp only [culetref44_Valid.l0]
    rw [if_pos (by omega), if_pos (by omega), rd138 l i hlt, List.drop_eq_getElem_cons (by rw [List.length_map]; exact hlt), List.getElem_map, show wrap64 ((i : Int) + 1) = ((i + 1 : Nat) : Int) by unfold wrap64; omega, ih]
    simp only [clsGo]
    rw [show (conv44 l[i]).f0 = l[i].f0 from rfl, show (conv44 l[i]).f1 = l[i].f1 from rfl]
    by_cases h1 : l[i].f0 > 1000000
    · rw [if_pos h1, decide_eq_false (by omega)]; rfl
    · rw [if_neg h1, decide_eq_true (by omega), Bool.true_and]
      by_cases h2 : l[i].f1 < 0
      · rw [if_pos h2, decide_eq_false (by omega)]; rfl
      · rw [if_neg h2, decide_eq_true (by omega), Bool.true_and]
        by_cases h3 : l[i].f1 > 1000000
        · rw [if_pos h3, decide_eq_false (by omega)]; rfl
        · rw [if_neg h3, decide_eq_true (by omega), Bool.true_and, if_pos (by omega), show wrap64 ((i : Int) - 1) = (i : Int) - 1 by unfold wrap64; omega, if_pos (by omega), if_pos (by omega)]
          simp only [prevOk]
          rw [show (conv44 (rd_T138 l ((i : Int) - 1))).f0 = (rd_T138 l ((i : Int) - 1)).f0 from rfl, show (conv44 l[i]).f0 = l[i].f0 from rfl]
          by_cases h4 : (rd_T138 l ((i : Int) - 1)).f0 ≥ l[i].f0
          · rw [if_pos h4, decide_eq_false (by omega)]; rfl
          · rw [if_neg h4, decide_eq_true (by omega)]; rfl
theorem rv_eq (m : ByteArray) (hm : m.size ≤ 1000000) (l : List S138) (hn : l.length ≤ 1000) (k : Nat) (hk : l.length + 13 < k) (hk2 : m.size < k) : culetref44_Valid.f k m l = some (validT m (l.map conv44)) := by
  unfold culetref44_Valid.f validT tailB
  rw [name13 m hm k hk2 (by omega), List.length_map]
  simp only [Option.bind_some]
  obtain ⟨k, rfl⟩ : ∃ q, k = q + 2 := ⟨k - 2, by omega⟩
  have hF : culetref44_Valid.j0 (k + 2) true m l = some false := by simp only [culetref44_Valid.j0]; rw [if_pos trivial]
  cases hnm : nameB m
  · rw [if_neg (by decide), hF]; simp
  · rw [if_pos rfl, Bool.true_and]
    by_cases h1 : (l.length : Int) < 1
    · rw [if_pos h1, hF, decide_eq_false (show ¬ 1 ≤ l.length by omega)]; simp
    · rw [if_neg h1, decide_eq_true (show 1 ≤ l.length by omega), Bool.true_and]
      by_cases h2 : (l.length : Int) > 20
      · rw [if_pos h2, hF, decide_eq_false (show ¬ l.length ≤ 20 by omega)]; simp
      · rw [if_neg h2, if_pos (by omega), decide_eq_true (show l.length ≤ 20 by omega), Bool.and_true]
        cases l with
        | nil => simp at h1
        | cons c r =>
          rw [show rd_T138 (c :: r) 0 = c from rfl]
          by_cases h3 : c.f0 = 0
          · rw [show (c.f0 != 0) = false by simp [h3]]
            simp only [culetref44_Valid.j0]
            rw [if_neg (by decide)]
            simp only [culetref44_Valid.l0]
            have hl := rv_loop m (c :: r) hn r.length 1 k (by omega) (by simp; omega) (by simp at hk; omega)
            rw [if_pos (by rw [List.length_cons]; omega), if_pos (by omega), show rd_T138 (c :: r) 0 = c from rfl, show wrap64 (0 + 1) = ((1 : Nat) : Int) by unfold wrap64; omega, hl]
            simp only [List.map_cons, clsGo, prevOk]
            rw [show (conv44 c).f0 = c.f0 from rfl, show (conv44 c).f1 = c.f1 from rfl, h3]
            rw [show rd_T138 (c :: r) (((1 : Nat) : Int) - 1) = c from rfl]
            simp only [List.drop_succ_cons, List.drop_zero]
            rw [if_neg (by omega), decide_eq_true (show (0 : Int) ≤ 1000000 by omega), Bool.true_and]
            by_cases h4 : c.f1 < 0
            · rw [if_pos h4, decide_eq_false (by omega)]; rfl
            · rw [if_neg h4, decide_eq_true (by omega), Bool.true_and]
              by_cases h5 : c.f1 > 1000000
              · rw [if_pos h5, decide_eq_false (by omega)]; rfl
              · rw [if_neg h5, decide_eq_true (by omega), Bool.true_and, if_neg (by omega)]; simp
          · rw [show (c.f0 != 0) = true by simp [h3]]
            rw [hF]
            simp only [List.map_cons, clsGo, prevOk]
            rw [show (conv44 c).f0 = c.f0 from rfl, decide_eq_false h3]
            simp
end Go.Proofs.Ytndbchcfjajgbaa.XP
