/- The law ParcelSteps, over lists: the parcel of a book is that of its beginning, after the rest of its entries one by one. -/
import Derived.Test.YtndbchcfjajgbaaPureFew
import Derived.Test.YtndbchcfjajgbaaXP16
namespace Go.Proofs.Ytndbchcfjajgbaa.Pure
open Go Go.RowKit Go.Proofs.Ytndbchcfjajgbaa.XP Go.Proofs.Ytndbchcfjajgbaa.XW Go.Proofs.YtndbchcfjajgbaaW.PrintWords Go.Proofs.YtndbchcfjajgbaaW.PrintLast
set_option linter.unusedVariables false
set_option linter.unusedSimpArgs false
theorem of_append : ∀ (a b : List S34) (i : Int) (l : List S24), ofR (a ++ b) i l = if (ofR a i l).2.2 = 0 then ofR b (i + a.length) (ofR a i l).1 else ofR a i l
  | [], b, i, l => by simp [ofR]
  | x :: a, b, i, l => by
    by_cases h : (doX l x).2 = 0
    · have e0 : ofR (x :: a) i l = ofR a (i + 1) (doX l x).1 := by simp only [ofR]; rw [if_pos h]
      have e1 : ofR (x :: a ++ b) i l = ofR (a ++ b) (i + 1) (doX l x).1 := by simp only [List.cons_append, ofR]; rw [if_pos h]
      rw [e0, e1, of_append a b]
      have e : i + 1 + (a.length : Int) = i + ((x :: a).length : Int) := by simp only [List.length_cons]; omega
      rw [e]
    · have e0 : ofR (x :: a) i l = ([], i, (doX l x).2) := by simp only [ofR]; rw [if_neg h]
      have e1 : ofR (x :: a ++ b) i l = ([], i, (doX l x).2) := by simp only [List.cons_append, ofR]; rw [if_neg h]
      rw [e0, e1, if_neg h]
theorem of_err : ∀ (a : List S34) (i : Int) (l : List S24), (ofR a i l).2.2 = 0 → (ofR a i l).2.1 = i + a.length
  | [], i, l, _ => by simp [ofR]
  | x :: a, i, l, h => by
    simp only [ofR] at h ⊢
    by_cases hd : (doX l x).2 = 0
    · rw [if_pos hd] at h ⊢
      rw [of_err a _ _ h]; simp only [List.length_cons]; omega
    · rw [if_neg hd] at h; exact absurd h hd
theorem of_len : ∀ (a : List S34) (i : Int) (l : List S24), l.length ≤ 100 → (ofR a i l).1.length ≤ 100
  | [], _, _, h => h
  | x :: a, i, l, h => by
    simp only [ofR]
    split
    · exact of_len a _ _ (doR_len _ _ _ _ _ _ _ _ _ _)
    · simp
theorem steps_loop (book : List S26) (hn : book.length ≤ 200) (R : List S24 × Int × Int) : ∀ (d i k : Nat) (l : List S24), i + d = book.length → d + 300 < k → l.length ≤ 100 → R = ofR ((book.map conv).drop i) i l →
    culetlaw53_ParcelSteps.l0 k book R.1 R.2.1 R.2.2 l (i : Int) = some true
  | 0, i, k, l, h, hk, hl, hR => by
    obtain ⟨k, rfl⟩ : ∃ m, k = m + 1 := ⟨k - 1, by omega⟩
    rw [List.drop_of_length_le (by rw [List.length_map]; omega)] at hR
    have e1 : R.1 = l := by rw [hR]; rfl
    have e2 : R.2.1 = (i : Int) := by rw [hR]; rfl
    have e3 : R.2.2 = 0 := by rw [hR]; rfl
    rw [e1, e2, e3]
    simp only [culetlaw53_ParcelSteps.l0]
    rw [if_neg (by omega), if_pos trivial, if_pos (by omega), same_eq l (by omega) k (by omega)]; rfl
  | d + 1, i, k, l, h, hk, hl, hR => by
    obtain ⟨k, rfl⟩ : ∃ m, k = m + 1 := ⟨k - 1, by omega⟩
    have hlt : i < book.length := by omega
    rw [List.drop_eq_getElem_cons (by rw [List.length_map]; exact hlt), List.getElem_map] at hR
    have hrd : rd_T26 book (i : Int) = book[i] := by unfold rd_T26; simp [List.getD_eq_getElem?_getD, hlt]
    simp only [culetlaw53_ParcelSteps.l0]
    rw [if_pos (by omega), if_pos (by omega), hrd, do_eqk l (by omega)]
    simp only [Option.bind_some]
    have e : doR l book[i].f0 book[i].f1.f0 book[i].f1.f1 book[i].f1.f2 book[i].f1.f3 book[i].f2 book[i].f3 book[i].f4 book[i].f5 = doX l (conv book[i]) := rfl
    rw [e]
    simp only [ofR] at hR
    by_cases hd : (doX l (conv book[i])).2 = 0
    · rw [if_pos hd] at hR ⊢
      rw [show wrap64 ((i : Int) + 1) = ((i + 1 : Nat) : Int) by unfold wrap64; omega]
      exact steps_loop book hn R d (i + 1) k _ (by omega) (by omega) (doR_len _ _ _ _ _ _ _ _ _ _) (by rw [hR]; rfl)
    · rw [if_neg hd] at hR ⊢
      subst hR
      rw [if_pos rfl, beq_self_eq_true]
set_option maxRecDepth 100000 in
theorem ParcelSteps : culetlaw53_ParcelSteps.Pure := by
  intro book x _ hx
  obtain ⟨b2, hb2, hb2'⟩ := fewE_eq book 2000 (by omega)
  refine ⟨2000, ?_⟩
  unfold culetlaw53_ParcelSteps.f
  rw [awake_eq 2000 (by omega), hb2]
  simp only [Option.bind_some, if_true]
  have hT : ∀ k, 100 ≤ k → culetlaw53_ParcelSteps.j0 (k + 1) book x true = some true := fun k hk => by
    simp only [culetlaw53_ParcelSteps.j0]
    rw [if_pos trivial, awake_eq k (by omega)]; rfl
  cases b2 with
  | false => rw [if_neg (by decide)]; exact hT 1999 (by omega)
  | true =>
    rw [if_pos rfl]
    by_cases h200 : (book.length : Int) > 200
    · rw [decide_eq_true h200]; exact hT 1999 (by omega)
    · rw [decide_eq_false h200]
      show culetlaw53_ParcelSteps.j0 (1999 + 1) _ _ _ = _
      simp only [culetlaw53_ParcelSteps.j0]
      have hx1 : 0 ≤ x ∧ x ≤ 255 := by simpa [Lit.wf, IntKind.min, IntKind.max, IntKind.signed, IntKind.bits] using hx
      have e1 : wrap64 ((book.length : Int) + 1) = (book.length : Int) + 1 := by unfold wrap64; omega
      have e2 : wrap64 x = x := by unfold wrap64; omega
      have e3 : Int.tmod x ((book.length : Int) + 1) = x % ((book.length : Int) + 1) := Int.tmod_eq_emod_of_nonneg hx1.1
      obtain ⟨j, hj⟩ : ∃ j, j = x % ((book.length : Int) + 1) := ⟨_, rfl⟩
      have j0 : 0 ≤ j := by rw [hj]; exact Int.emod_nonneg _ (by omega)
      have j1 : j < (book.length : Int) + 1 := by rw [hj]; exact Int.emod_lt_of_pos _ (by omega)
      rw [if_neg (by decide), e1, e2, e3, ← hj, if_neg (by omega)]
      obtain ⟨i, hi⟩ : ∃ i : Nat, j = (i : Int) := ⟨j.toNat, by omega⟩
      subst hi
      have hown : culetlaw53_Own.f book = some (book.map conv) := by unfold culetlaw53_Own.f; rw [if_pos (by omega)]
      rw [hown]
      simp only [Option.bind_some, parcel_Of.f]
      rw [if_pos j0, if_pos (by rw [List.length_map]; omega), Int.toNat_natCast]
      have hrun : ∀ b : List S34, b.length ≤ 200 → runR b = ofR b 0 [] := fun b hb => by unfold runR; rw [if_neg (by omega)]
      have hsplit := of_append ((book.map conv).take i) ((book.map conv).drop i) 0 []
      rw [List.take_append_drop] at hsplit
      have htl : ((book.map conv).take i).length = i := by rw [List.length_take, List.length_map]; omega
      rw [hrun (book.map conv) (by rw [List.length_map]; omega), hrun ((book.map conv).take i) (by rw [htl]; omega)]
      have hA := of_len ((book.map conv).take i) 0 [] (by simp)
      by_cases hz : (ofR ((book.map conv).take i) 0 []).2.2 = 0
      · rw [if_pos hz]
        rw [if_pos hz, htl, Int.zero_add] at hsplit
        exact steps_loop book (by omega) _ (book.length - i) i 1999 _ (by omega) (by omega) hA hsplit
      · rw [if_neg hz]
        rw [if_neg hz] at hsplit
        rw [hsplit, if_pos rfl, beq_self_eq_true]
end Go.Proofs.Ytndbchcfjajgbaa.Pure
