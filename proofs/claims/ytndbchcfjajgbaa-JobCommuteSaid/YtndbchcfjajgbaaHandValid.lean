/- What parcel.Valid and the shape of an entry say, in lists. -/
import Derived.Test.YtndbchcfjajgbaaHandOrd
import Derived.Test.YtndbchcfjajgbaaXP8
import Derived.Test.YtndbchcfjajgbaaXP9
namespace Go.Proofs.Ytndbchcfjajgbaa.XP
open Go Go.RowKit Go.Proofs Go.Proofs.YtndbchcfjajgbaaW.PrintWords Go.Proofs.YtndbchcfjajgbaaW.PrintLast
set_option linter.unusedVariables false
set_option linter.unusedSimpArgs false
theorem ex_ite {β : Type} {c : Prop} [Decidable c] {x y : Option β} (hx : ∃ b, x = some b) (hy : ∃ b, y = some b) : ∃ b, (if c then x else y) = some b := by
  split
  · exact hx
  · exact hy
theorem reserved_some (s : ByteArray) : ∃ b, lexer_Reserved.f s = some b := by
  unfold lexer_Reserved.f
  repeat' (first | exact ⟨_, rfl⟩ | apply ex_ite)
theorem isName_some (s : ByteArray) : ∃ b, lexer_IsName.f s = some b := by
  unfold lexer_IsName.f
  split
  · exact ⟨_, rfl⟩
  · split
    · rename_i h
      have hs : s.size ≤ 30 := by omega
      unfold lexer_word.f
      rw [if_pos hs]
      simp only [Option.bind_some]
      obtain ⟨b, hb⟩ := reserved_some s
      rw [hb]
      exact ex_ite ⟨_, rfl⟩ ⟨_, rfl⟩
    · exact ⟨_, rfl⟩
def nameB (s : ByteArray) : Bool := (lexer_IsName.f s).getD false
theorem isName_eq (s : ByteArray) : lexer_IsName.f s = some (nameB s) := by
  obtain ⟨b, hb⟩ := isName_some s
  unfold nameB; rw [hb]; rfl
def rightB (x : S24) : Bool := nameB x.f0 && (nameB x.f1 && (decide (x.f2 ≥ 1) && (decide (x.f2 ≤ 1000000) && (decide (x.f3 ≥ 1) && decide (x.f3 ≤ 1000)))))
theorem right_eq (a b : ByteArray) (c d : Int) : parcel_right.f a b c d = some (rightB ⟨a, b, c, d⟩) := by
  unfold parcel_right.f rightB
  rw [isName_eq, isName_eq]
  simp only [Option.bind_some]
  cases nameB a
  · rfl
  · cases nameB b
    · rfl
    · simp only [if_true, Bool.true_and]
      by_cases h1 : c ≥ 1
      · by_cases h2 : c ≤ 1000000
        · by_cases h3 : d ≥ 1
          · simp only [if_pos h1, if_pos h2, if_pos h3, decide_eq_true h1, decide_eq_true h2, decide_eq_true h3, Bool.true_and]
          · simp only [if_pos h1, if_pos h2, if_neg h3, decide_eq_true h1, decide_eq_true h2, decide_eq_false h3, Bool.true_and, Bool.false_and]
        · simp only [if_pos h1, if_neg h2, decide_eq_true h1, decide_eq_false h2, Bool.true_and, Bool.false_and]
      · simp only [if_neg h1, decide_eq_false h1, Bool.false_and]
def lessP (p : Option S24) (x : S24) : Bool := match p with | none => true | some q => Op.bytesLess q.f0.toList x.f0.toList
/-- What stands behind p is right, and rises. -/
def validGo : List S24 → Option S24 → Bool
  | [], _ => true
  | x :: r, p => rightB x && (lessP p x && validGo r (some x))
def validB (l : List S24) : Bool := validGo l none && decide ((l.length : Int) ≤ 100)
theorem rd24 (l : List S24) (i : Nat) (h : i < l.length) : rd_T24 l (i : Int) = l[i] := by
  unfold rd_T24; simp [List.getD_eq_getElem?_getD, h]
theorem valid_loop (l : List S24) (hn : l.length ≤ 1000) : ∀ (d i k : Nat), i + d = l.length → d < k → parcel_Valid.l0 k l l (l.length : Int) (i : Int) = some (validGo (l.drop i) (if i = 0 then none else some (rd_T24 l ((i : Int) - 1))) && decide ((l.length : Int) ≤ 100))
  | 0, i, k, h, hk => by
    obtain ⟨k, rfl⟩ : ∃ m, k = m + 1 := ⟨k - 1, by omega⟩
    simp only [parcel_Valid.l0]
    rw [if_neg (by omega), List.drop_of_length_le (by omega)]
    rfl
  | d + 1, i, k, h, hk => by
    obtain ⟨k, rfl⟩ : ∃ m, k = m + 1 := ⟨k - 1, by omega⟩
    have hlt : i < l.length := by omega
    have ih := valid_loop l hn d (i + 1) k (by omega) (by omega)
    simp only [parcel_Valid.l0]
    rw [if_pos (by omega), if_pos (by omega), if_pos (by omega), right_eq]
    simp only [Option.bind_some]
    rw [show wrap64 ((i : Int) + 1) = ((i + 1 : Nat) : Int) by unfold wrap64; omega, ih, List.drop_eq_getElem_cons hlt]
    simp only [validGo]
    rw [if_neg (by omega : ¬ i + 1 = 0), show (((i + 1 : Nat) : Int) - 1) = (i : Int) by omega, rd24 l i hlt]
    have e : (⟨l[i].f0, l[i].f1, l[i].f2, l[i].f3⟩ : S24) = l[i] := rfl
    rw [e]
    cases hr : rightB l[i]
    · simp
    · simp only [if_true, Bool.true_and]
      by_cases h0 : i = 0
      · subst h0
        rw [if_neg (by omega), if_pos rfl]
        simp [lessP]
      · rw [if_pos (by omega), if_neg h0, show wrap64 ((i : Int) - 1) = (i : Int) - 1 by unfold wrap64; omega, if_pos (by omega), if_pos (by omega)]
        simp only [lessP]
        cases Op.bytesLess (rd_T24 l ((i : Int) - 1)).f0.toList l[i].f0.toList <;> simp
theorem valid_eq (l : List S24) (hn : l.length ≤ 1000) : parcel_Valid.f (l.length + 1) l = some (validB l) := by
  unfold parcel_Valid.f validB
  have := valid_loop l hn l.length 0 (l.length + 1) (by omega) (by omega)
  simpa using this
theorem validGo_right : ∀ (l : List S24) (p : Option S24), validGo l p = true → ∀ x ∈ l, rightB x = true
  | [], _, _, x, hx => by simp at hx
  | y :: r, p, h, x, hx => by
    simp only [validGo, Bool.and_eq_true] at h
    rcases List.mem_cons.1 hx with rfl | hx
    · exact h.1
    · exact validGo_right r _ h.2.2 x hx
theorem validGo_sorted : ∀ (l : List S24) (p : Option S24), validGo l p = true → Sorted l ∧ ∀ q, p = some q → ∀ x ∈ l, less q.f0 x.f0
  | [], _, _ => ⟨List.Pairwise.nil, fun _ _ x hx => by simp at hx⟩
  | y :: r, p, h => by
    simp only [validGo, Bool.and_eq_true] at h
    obtain ⟨h1, h2⟩ := validGo_sorted r _ h.2.2
    refine ⟨List.pairwise_cons.2 ⟨fun x hx => h2 y rfl x hx, h1⟩, fun q hq x hx => ?_⟩
    have hq' : less q.f0 y.f0 := by have := h.2.1; rw [hq] at this; exact this
    rcases List.mem_cons.1 hx with rfl | hx
    · exact hq'
    · exact lessTrans hq' (h2 y rfl x hx)
theorem validGo_mk : ∀ (l : List S24) (p : Option S24), (∀ x ∈ l, rightB x = true) → Sorted l → (∀ q, p = some q → ∀ x ∈ l, less q.f0 x.f0) → validGo l p = true
  | [], _, _, _, _ => rfl
  | y :: r, p, h1, h2, h3 => by
    obtain ⟨h4, h5⟩ := List.pairwise_cons.1 h2
    simp only [validGo, Bool.and_eq_true]
    refine ⟨h1 y (by simp), ?_, validGo_mk r _ (fun x hx => h1 x (by simp [hx])) h5 (fun q hq x hx => by injection hq with hq; subst hq; exact h4 x hx)⟩
    cases p with
    | none => rfl
    | some q => exact h3 q rfl y (by simp)
theorem validB_iff (l : List S24) : validB l = true ↔ (∀ x ∈ l, rightB x = true) ∧ Sorted l ∧ l.length ≤ 100 := by
  unfold validB
  rw [Bool.and_eq_true, decide_eq_true_eq]
  constructor
  · rintro ⟨h1, h2⟩
    exact ⟨validGo_right l _ h1, (validGo_sorted l _ h1).1, by omega⟩
  · rintro ⟨h1, h2, h3⟩
    exact ⟨validGo_mk l none h1 h2 (fun q hq => by simp at hq), by omega⟩
theorem rightB_bounds {x : S24} (h : rightB x = true) : nameB x.f0 = true ∧ nameB x.f1 = true ∧ 1 ≤ x.f2 ∧ x.f2 ≤ 1000000 ∧ 1 ≤ x.f3 ∧ x.f3 ≤ 1000 := by
  simp only [rightB, Bool.and_eq_true, decide_eq_true_eq] at h
  exact ⟨h.1, h.2.1, h.2.2.1, h.2.2.2.1, h.2.2.2.2.1, h.2.2.2.2.2⟩
def shapedB (a : Int) (b c : ByteArray) (d e : Int) (f g : ByteArray) (h i : Int) : Bool := (parcel_shaped.f a b c d e f g h i).getD false
theorem shaped_eq (a : Int) (b c : ByteArray) (d e : Int) (f g : ByteArray) (h i : Int) : parcel_shaped.f a b c d e f g h i = some (shapedB a b c d e f g h i) := by
  suffices H : ∃ r, parcel_shaped.f a b c d e f g h i = some r by
    obtain ⟨r, hr⟩ := H
    unfold shapedB; rw [hr]; rfl
  unfold parcel_shaped.f
  simp only [right_eq, isName_eq, Option.bind_some]
  repeat' (first | exact ⟨_, rfl⟩ | apply ex_ite)
theorem shaped_kind {a : Int} {b c : ByteArray} {d e : Int} {f g : ByteArray} {h i : Int} (hs : shapedB a b c d e f g h i = true) : a = 1 ∨ a = 2 ∨ a = 3 ∨ a = 4 ∨ a = 5 := by
  by_cases h1 : a = 1
  · exact .inl h1
  by_cases h2 : a = 2
  · exact .inr (.inl h2)
  by_cases h3 : a = 3
  · exact .inr (.inr (.inl h3))
  by_cases h4 : a = 4
  · exact .inr (.inr (.inr (.inl h4)))
  by_cases h5 : a = 5
  · exact .inr (.inr (.inr (.inr h5)))
  exfalso
  have := shaped_eq a b c d e f g h i
  rw [hs] at this
  unfold parcel_shaped.f at this
  rw [if_neg h1, if_neg h2, if_neg h3, if_neg h4, if_neg h5] at this
  simp at this
end Go.Proofs.Ytndbchcfjajgbaa.XP
