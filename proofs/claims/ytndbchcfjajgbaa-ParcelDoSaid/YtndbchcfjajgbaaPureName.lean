/- A name is one for the program as for the reference. Plain lists. -/
import Derived.Test.YtndbchcfjajgbaaHandValid
import Derived.Test.YtndbchcfjajgbaaXP11
namespace Go.Proofs.Ytndbchcfjajgbaa.XP
open Go Go.RowKit Go.Proofs Go.Proofs.YtndbchcfjajgbaaW.PrintWords Go.Proofs.YtndbchcfjajgbaaW.PrintLast
set_option linter.unusedVariables false
set_option linter.unusedSimpArgs false
theorem letter13 (c : Int) : culetref13_letter.f c = some (isL c) := by
  unfold culetref13_letter.f isL
  by_cases h1 : 97 ≤ c
  all_goals by_cases h2 : c ≤ 122
  all_goals by_cases h3 : 65 ≤ c
  all_goals by_cases h4 : c ≤ 90
  all_goals first | omega | simp [h1, h2, h3, h4]
theorem digit13 (c : Int) : culetref13_digit.f c = some (isD c) := by
  unfold culetref13_digit.f isD
  by_cases h1 : 48 ≤ c
  all_goals by_cases h2 : c ≤ 57
  all_goals first | omega | simp [h1, h2]
/-- d bytes from i on are those of a word. -/
def allW (s : ByteArray) : Nat → Int → Bool
  | 0, _ => true
  | d + 1, i => isW (bt s i) && allW s d (i + 1)
theorem runF_all (s : ByteArray) : ∀ (d : Nat) (i : Int), i + d = s.size → (runF s d i = (s.size : Int) ↔ allW s d i = true) ∧ i ≤ runF s d i
  | 0, i, h => ⟨⟨fun _ => rfl, fun _ => by simp only [runF]; omega⟩, by simp only [runF]; omega⟩
  | d + 1, i, h => by
    obtain ⟨h1, h2⟩ := runF_all s d (i + 1) (by omega)
    simp only [runF, allW]
    rw [if_pos (by omega)]
    cases hw : isW (bt s i)
    · simp; omega
    · simp only [if_true, Bool.true_and]; exact ⟨h1, by omega⟩
theorem word13_loop (s : ByteArray) (hs : s.size ≤ 1000000) : ∀ (d i k : Nat), i + d = s.size → 0 < i → d < k → culetref13_word.l0 k s (i : Int) = some (allW s d i)
  | 0, i, k, h, h0, hk => by
    obtain ⟨k, rfl⟩ : ∃ m, k = m + 1 := ⟨k - 1, by omega⟩
    simp only [culetref13_word.l0, allW]
    rw [if_neg (by omega), decide_eq_true (by omega)]
  | d + 1, i, k, h, h0, hk => by
    obtain ⟨k, rfl⟩ : ∃ m, k = m + 1 := ⟨k - 1, by omega⟩
    have ih := word13_loop s hs d (i + 1) k (by omega) (by omega) (by omega)
    simp only [culetref13_word.l0, allW]
    rw [if_pos (by omega), if_pos (by omega), letter13, digit13, show wrap64 ((i : Int) + 1) = ((i + 1 : Nat) : Int) by unfold wrap64; omega, ih, show (i : Int) + 1 = ((i + 1 : Nat) : Int) by omega]
    simp only [Option.bind_some]
    unfold isW
    cases h1 : isL (bt s i)
    · simp only [Bool.false_or, Bool.false_eq_true, if_false]
      rw [if_neg (by omega)]
      cases h2 : isD (bt s i)
      · simp only [Bool.false_or, Bool.false_eq_true, if_false]
        by_cases h3 : bt s i = 45
        · rw [if_pos h3, beq_iff_eq.2 h3]; simp
        · rw [if_neg h3, beq_eq_false_iff_ne.2 h3]
          by_cases h4 : bt s i = 95
          · rw [if_pos h4, beq_iff_eq.2 h4]; simp
          · rw [if_neg h4, beq_eq_false_iff_ne.2 h4]; simp
      · simp
    · simp
theorem word13 (s : ByteArray) (hs : s.size ≤ 1000000) (k : Nat) (hk : s.size < k) : culetref13_word.f k s = some (decide (s.size > 0) && (isL (bt s 0) && allW s s.size 0)) := by
  unfold culetref13_word.f
  obtain ⟨k, rfl⟩ : ∃ m, k = m + 1 := ⟨k - 1, by omega⟩
  simp only [culetref13_word.l0]
  by_cases h0 : s.size = 0
  · rw [if_neg (by omega), decide_eq_false (by omega), decide_eq_false (by omega)]; rfl
  · obtain ⟨d, hd⟩ : ∃ d, s.size = d + 1 := ⟨s.size - 1, by omega⟩
    rw [if_pos (by omega), if_pos (by omega), letter13, decide_eq_true (by omega), hd]
    have ih := word13_loop s hs d 1 k (by omega) (by omega) (by omega)
    simp only [Option.bind_some, allW, Bool.true_and]
    rw [show wrap64 (0 + 1) = ((1 : Nat) : Int) by unfold wrap64; omega, ih, show (0 : Int) + 1 = ((1 : Nat) : Int) by omega]
    cases h1 : isL (bt s 0)
    · simp
    · have : isW (bt s 0) = true := by unfold isW; rw [h1]; simp
      rw [this]; simp
def resL : List ByteArray := [(⟨#[100, 101, 115, 105, 103, 110]⟩ : ByteArray), (⟨#[111, 114, 100, 101, 114]⟩ : ByteArray), (⟨#[109, 105, 114, 114, 111, 114]⟩ : ByteArray), (⟨#[116, 105, 101, 114]⟩ : ByteArray), (⟨#[97, 110, 103, 108, 101]⟩ : ByteArray), (⟨#[97, 116]⟩ : ByteArray), (⟨#[100, 101, 112, 116, 104]⟩ : ByteArray), (⟨#[109, 101, 101, 116]⟩ : ByteArray), (⟨#[101, 100, 103, 101]⟩ : ByteArray), (⟨#[104, 101, 105, 103, 104, 116]⟩ : ByteArray), (⟨#[116, 104, 114, 111, 117, 103, 104]⟩ : ByteArray)]
theorem res_loop (s : ByteArray) (L : List ByteArray) (hn : L.length ≤ 1000) : ∀ (d i k : Nat), i + d = L.length → d < k → culetref13_Reserved.l0 k s L (i : Int) = some ((L.drop i).any fun b => decide (b.toList = s.toList))
  | 0, i, k, h, hk => by
    obtain ⟨k, rfl⟩ : ∃ m, k = m + 1 := ⟨k - 1, by omega⟩
    simp only [culetref13_Reserved.l0]
    rw [if_neg (by omega), List.drop_of_length_le (by omega)]; rfl
  | d + 1, i, k, h, hk => by
    obtain ⟨k, rfl⟩ : ∃ m, k = m + 1 := ⟨k - 1, by omega⟩
    have hlt : i < L.length := by omega
    have ih := res_loop s L hn d (i + 1) k (by omega) (by omega)
    simp only [culetref13_Reserved.l0]
    have e : rdOf ByteArray.empty L (i : Int) = L[i] := by unfold rdOf; simp [List.getD_eq_getElem?_getD, hlt]
    rw [if_pos (by omega), if_pos (by omega), e, show wrap64 ((i : Int) + 1) = ((i + 1 : Nat) : Int) by unfold wrap64; omega, ih, List.drop_eq_getElem_cons hlt, List.any_cons]
    by_cases h1 : L[i].toList = s.toList
    · rw [if_pos h1, decide_eq_true h1]; rfl
    · rw [if_neg h1, decide_eq_false h1]; rfl
theorem chainB (t : List UInt8) : ∀ L : List (List UInt8), L.foldr (fun c r => if t = c then some true else r) (some false) = some (L.any fun c => decide (c = t))
  | [] => rfl
  | c :: L => by
    simp only [List.foldr_cons, List.any_cons]
    rw [chainB t L]
    by_cases h : t = c
    · rw [if_pos h, decide_eq_true h.symm]; rfl
    · rw [if_neg h, decide_eq_false (fun e => h e.symm)]; rfl
def resB : List (List UInt8) := [[100, 101, 115, 105, 103, 110], [111, 114, 100, 101, 114], [109, 105, 114, 114, 111, 114], [116, 105, 101, 114], [97, 110, 103, 108, 101], [97, 116], [100, 101, 112, 116, 104], [109, 101, 101, 116], [101, 100, 103, 101], [104, 101, 105, 103, 104, 116], [116, 104, 114, 111, 117, 103, 104]]
theorem resL_B : resL.map (fun b => b.toList) = resB := by
  simp only [resL, resB, List.map_cons, List.map_nil, ByteArray.toList_eq]
theorem res13 (s : ByteArray) (k : Nat) (hk : 12 ≤ k) : culetref13_Reserved.f k s = lexer_Reserved.f s := by
  have h := res_loop s resL (by decide) 11 0 k (by decide) (by omega)
  unfold culetref13_Reserved.f
  refine (show culetref13_Reserved.l0 k s _ 0 = _ from h).trans ?_
  rw [List.drop_zero, show (resL.any fun b => decide (b.toList = s.toList)) = ((resL.map fun b => b.toList).any fun c => decide (c = s.toList)) by rw [List.any_map]; rfl, resL_B, ← chainB]
  rfl
theorem name13 (s : ByteArray) (hs : s.size ≤ 1000000) (k : Nat) (hk : s.size < k) (hk2 : 12 ≤ k) : culetref13_IsName.f k s = some (nameB s) := by
  rw [← isName_eq]
  unfold culetref13_IsName.f lexer_IsName.f
  rw [word13 s hs k hk, res13 s k hk2]
  simp only [Option.bind_some]
  have hsz : s.toList = [] ↔ s.size = 0 := by
    rw [ByteArray.toList_eq]
    exact ⟨fun h => (show s.data.size = 0 from Array.length_toList.symm.trans (by rw [h]; rfl)), fun h => List.eq_nil_of_length_eq_zero (Array.length_toList.trans h)⟩
  by_cases h0 : s.size = 0
  · rw [if_pos (hsz.2 h0), decide_eq_false (by omega)]; rfl
  · rw [if_neg (fun h => h0 (hsz.1 h)), decide_eq_true (by omega), Bool.true_and]
    by_cases h30 : (s.size : Int) ≤ 30
    · have hw : lexer_word.f s = some (if s.toList = ([] : List UInt8) then 0 else (if isL (bt s 0) = true then runF s s.size 0 else 0)) := by
        unfold lexer_word.f; rw [if_pos (by omega)]
      rw [if_pos h30, if_pos h30, hw]
      simp only [Option.bind_some]
      rw [if_neg (fun h => h0 (hsz.1 h))]
      obtain ⟨r1, r2⟩ := runF_all s s.size 0 (by omega)
      cases h1 : isL (bt s 0)
      · simp only [Bool.false_and, Bool.false_eq_true, if_false]
        rw [if_neg (by omega)]
      · simp only [Bool.true_and, if_true]
        cases h2 : allW s s.size 0
        · have : ¬ runF s s.size 0 = (s.size : Int) := fun h => by have := r1.1 h; rw [h2] at this; cases this
          rw [if_neg this]; simp
        · rw [if_pos (r1.2 h2)]; simp
    · rw [if_neg h30, if_neg h30]
      split <;> rfl
theorem piece13 (x : S24) (ha : x.f0.size ≤ 1000000) (hb : x.f1.size ≤ 1000000) (k : Nat) (h1 : x.f0.size < k) (h2 : x.f1.size < k) (hk : 12 ≤ k) : culetref53_piece.f k x.f0 x.f1 x.f2 x.f3 = some (rightB x) := by
  rw [show rightB x = rightB ⟨x.f0, x.f1, x.f2, x.f3⟩ from rfl, ← right_eq]
  unfold culetref53_piece.f parcel_right.f
  rw [name13 _ ha k h1 hk, name13 _ hb k h2 hk, isName_eq, isName_eq]
end Go.Proofs.Ytndbchcfjajgbaa.XP
