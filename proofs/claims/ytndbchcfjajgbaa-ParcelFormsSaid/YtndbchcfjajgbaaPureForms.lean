/- Lists of pieces: Valid, Find, Weigh and Value answer alike in the program and the reference. Plain lists. -/
import Derived.Test.YtndbchcfjajgbaaPureTariff
import Derived.Test.YtndbchcfjajgbaaHandFind
import Derived.Test.YtndbchcfjajgbaaXP10
import Derived.Test.YtndbchcfjajgbaaXP15
import Derived.Test.YtndbchcfjajgbaaXP11
import Derived.Test.YtndbchcfjajgbaaXP8
import Derived.Test.YtndbchcfjajgbaaXP14
import Derived.Test.YtndbchcfjajgbaaXP17
import Derived.Test.YtndbchcfjajgbaaXP16
namespace Go.Proofs.Ytndbchcfjajgbaa.XP
open Go Go.RowKit Go.Proofs Go.Proofs.YtndbchcfjajgbaaW.PrintWords Go.Proofs.YtndbchcfjajgbaaW.PrintLast Go.Proofs.Ytndbchcfjajgbaa.XH
set_option linter.unusedVariables false
set_option linter.unusedSimpArgs false
def Small (l : List S24) : Prop := ∀ x ∈ l, x.f0.size ≤ 40 ∧ x.f1.size ≤ 40
theorem few40_loop (l : List S24) : ∀ (d i k : Nat), i + d = 103 → 2 * d + 2 ≤ k → ∃ b, culetref53_Few.l0 k l (i : Int) = some b ∧ (b = true → l.length ≤ 102 ∧ Small (l.drop i))
  | 0, i, k, h, hk => by
    obtain ⟨k, rfl⟩ : ∃ m, k = m + 2 := ⟨k - 2, by omega⟩
    simp only [culetref53_Few.l0, culetref53_Few.j1]
    rw [show decide ((i : Int) < 103) = false from decide_eq_false (by omega)]
    refine ⟨decide ((l.length : Int) ≤ 102), by split <;> simp, fun hb => ?_⟩
    have := of_decide_eq_true hb
    refine ⟨by omega, fun x hx => ?_⟩
    rw [List.drop_of_length_le (by omega)] at hx; simp at hx
  | d + 1, i, k, h, hk => by
    obtain ⟨k, rfl⟩ : ∃ m, k = m + 2 := ⟨k - 2, by omega⟩
    simp only [culetref53_Few.l0, culetref53_Few.j1]
    by_cases hl : (i : Int) < (l.length : Int)
    · have hlt : i < l.length := by omega
      rw [if_pos hl, show decide ((i : Int) < 103) = true from decide_eq_true (by omega), if_pos rfl, if_pos (by omega), if_pos hl, rd24 l i hlt]
      by_cases h1 : (l[i].f0.size : Int) > 40
      · rw [if_pos h1]; exact ⟨false, rfl, by simp⟩
      · rw [if_neg h1]
        by_cases h2 : (l[i].f1.size : Int) > 40
        · rw [if_pos h2]; exact ⟨false, rfl, by simp⟩
        · rw [if_neg h2, show wrap64 ((i : Int) + 1) = ((i + 1 : Nat) : Int) by unfold wrap64; omega]
          obtain ⟨b, e1, e2⟩ := few40_loop l d (i + 1) k (by omega) (by omega)
          refine ⟨b, e1, fun hb => ⟨(e2 hb).1, fun x hx => ?_⟩⟩
          rw [List.drop_eq_getElem_cons hlt] at hx
          rcases List.mem_cons.1 hx with rfl | hx
          · exact ⟨by omega, by omega⟩
          · exact (e2 hb).2 x hx
    · rw [if_neg hl, if_neg (by decide)]
      refine ⟨_, rfl, fun hb => ?_⟩
      have := of_decide_eq_true hb
      refine ⟨by omega, fun x hx => ?_⟩
      rw [List.drop_of_length_le (by omega)] at hx; simp at hx
theorem few40 (l : List S24) (k : Nat) (hk : 300 ≤ k) : ∃ b, culetref53_Few.f k l = some b ∧ (b = true → l.length ≤ 102 ∧ Small l) := few40_loop l 103 0 k (by omega) (by omega)
theorem valid_eqk (l : List S24) (hn : l.length ≤ 1000) (k : Nat) (hk : l.length < k) : parcel_Valid.f k l = some (validB l) := by
  unfold parcel_Valid.f validB
  have := valid_loop l hn l.length 0 k (by omega) hk
  simpa using this
theorem small_piece {l : List S24} (hs : Small l) (i : Nat) (h : i < l.length) (k : Nat) (hk : 50 < k) : culetref53_piece.f k l[i].f0 l[i].f1 l[i].f2 l[i].f3 = some (rightB l[i]) := by
  obtain ⟨h1, h2⟩ := hs l[i] (List.getElem_mem h)
  exact piece13 l[i] (by omega) (by omega) k (by omega) (by omega) (by omega)
theorem valid53_loop (l : List S24) (hn : l.length ≤ 1000) (hs : Small l) : ∀ (d i k : Nat), i + d = l.length → d + 60 < k → culetref53_Valid.l0 k l (i : Int) = some (validGo (l.drop i) (if i = 0 then none else some (rd_T24 l ((i : Int) - 1))) && decide ((l.length : Int) ≤ 100))
  | 0, i, k, h, hk => by
    obtain ⟨k, rfl⟩ : ∃ m, k = m + 1 := ⟨k - 1, by omega⟩
    simp only [culetref53_Valid.l0]
    rw [if_neg (by omega), List.drop_of_length_le (by omega)]
    rfl
  | d + 1, i, k, h, hk => by
    obtain ⟨k, rfl⟩ : ∃ m, k = m + 1 := ⟨k - 1, by omega⟩
    have hlt : i < l.length := by omega
    have ih := valid53_loop l hn hs d (i + 1) k (by omega) (by omega)
    simp only [culetref53_Valid.l0]
    rw [if_pos (by omega), if_pos (by omega), rd24 l i hlt, small_piece hs i hlt k (by omega)]
    simp only [Option.bind_some]
    rw [show wrap64 ((i : Int) + 1) = ((i + 1 : Nat) : Int) by unfold wrap64; omega, ih, List.drop_eq_getElem_cons hlt]
    simp only [validGo]
    rw [if_neg (by omega : ¬ i + 1 = 0), show (((i + 1 : Nat) : Int) - 1) = (i : Int) by omega, rd24 l i hlt]
    cases hr : rightB l[i]
    · simp
    · simp only [if_true, Bool.true_and]
      by_cases h0 : i = 0
      · subst h0
        rw [if_neg (by omega), if_pos rfl]
        simp [lessP]
      · rw [if_pos (by omega), if_neg h0, show wrap64 ((i : Int) - 1) = (i : Int) - 1 by unfold wrap64; omega, if_pos (by omega), if_pos (by omega)]
        simp only [lessP]
        cases Op.bytesLess (rd_T24 l ((i : Int) - 1)).f0.toList l[i].f0.toList <;> simp
theorem valid53 (l : List S24) (hn : l.length ≤ 1000) (hs : Small l) (k : Nat) (hk : l.length + 60 < k) : culetref53_Valid.f k l = some (validB l) := by
  unfold culetref53_Valid.f validB
  have := valid53_loop l hn hs l.length 0 k (by omega) hk
  simpa using this
theorem find53_loop (l : List S24) (s : ByteArray) (hn : l.length ≤ 1000) : ∀ (d i k : Nat), i + d = l.length → d < k → culetref53_Find.l0 k l s (i : Int) = some (if 0 ≤ idx (isId s) (l.drop i) i then ((rd_T24 l (idx (isId s) (l.drop i) i)).f0, (rd_T24 l (idx (isId s) (l.drop i) i)).f1, (rd_T24 l (idx (isId s) (l.drop i) i)).f2, (rd_T24 l (idx (isId s) (l.drop i) i)).f3, true) else ((⟨#[]⟩ : ByteArray), (⟨#[]⟩ : ByteArray), 0, 0, false))
  | 0, i, k, h, hk => by
    obtain ⟨k, rfl⟩ : ∃ m, k = m + 1 := ⟨k - 1, by omega⟩
    simp only [culetref53_Find.l0]
    rw [if_neg (by omega), List.drop_of_length_le (by omega)]
    rfl
  | d + 1, i, k, h, hk => by
    obtain ⟨k, rfl⟩ : ∃ m, k = m + 1 := ⟨k - 1, by omega⟩
    have hlt : i < l.length := by omega
    have ih := find53_loop l s hn d (i + 1) k (by omega) (by omega)
    have e : idx (isId s) (l.drop i) i = if isId s l[i] = true then (i : Int) else idx (isId s) (l.drop (i + 1)) ((i + 1 : Nat) : Int) := by
      rw [List.drop_eq_getElem_cons hlt]; rfl
    rw [e]
    simp only [culetref53_Find.l0]
    rw [if_pos (by omega), if_pos (by omega), show wrap64 ((i : Int) + 1) = ((i + 1 : Nat) : Int) by unfold wrap64; omega, ih]
    have e2 : isId s l[i] = true ↔ (rd_T24 l (i : Int)).f0.toList = s.toList := by rw [rd24 l i hlt]; unfold isId; rw [beq_iff_eq]
    by_cases h1 : (rd_T24 l (i : Int)).f0.toList = s.toList
    · rw [if_pos h1, if_pos (e2.2 h1), if_pos (by omega)]
    · rw [if_neg h1, if_neg (fun h => h1 (e2.1 h))]
theorem find53 (l : List S24) (s : ByteArray) (hn : l.length ≤ 1000) (k : Nat) (hk : l.length < k) : culetref53_Find.f k l s = parcel_Find.f l s := by
  unfold culetref53_Find.f parcel_Find.f
  exact find53_loop l s hn l.length 0 k (by omega) hk
theorem weigh_both (l : List S24) (m : ByteArray) (hn : l.length ≤ 1000) (hs : Small l) : ∀ (d i k k' : Nat) (a b : Int), i + d = l.length → d + 60 < k → d < k' → ∃ r, culetref53_Weigh.l0 k l m a b (i : Int) = some r ∧ parcel_Weigh.l0 k' m a b l (l.length : Int) (i : Int) = some r
  | 0, i, k, k', a, b, h, hk, hk' => by
    obtain ⟨k, rfl⟩ : ∃ m, k = m + 1 := ⟨k - 1, by omega⟩
    obtain ⟨k', rfl⟩ : ∃ m, k' = m + 1 := ⟨k' - 1, by omega⟩
    simp only [culetref53_Weigh.l0, parcel_Weigh.l0]
    have c1 : ¬ (i : Int) < (l.length : Int) := by omega
    rw [if_neg c1, if_neg c1]
    exact ⟨_, rfl, rfl⟩
  | d + 1, i, k, k', a, b, h, hk, hk' => by
    obtain ⟨k, rfl⟩ : ∃ m, k = m + 1 := ⟨k - 1, by omega⟩
    obtain ⟨k', rfl⟩ : ∃ m, k' = m + 1 := ⟨k' - 1, by omega⟩
    have hlt : i < l.length := by omega
    have ih := fun a b => weigh_both l m hn hs d (i + 1) k k' a b (by omega) (by omega) (by omega)
    simp only [culetref53_Weigh.l0, parcel_Weigh.l0]
    have c1 : (i : Int) < (l.length : Int) := by omega
    have c2 : (0 : Int) ≤ (i : Int) := by omega
    rw [if_pos c1, if_pos c2, if_pos c1, if_pos c2, if_pos c1, rd24 l i hlt, small_piece hs i hlt k (by omega), right_eq, show wrap64 ((i : Int) + 1) = ((i + 1 : Nat) : Int) by unfold wrap64; omega]
    simp only [Option.bind_some]
    rw [show rightB ⟨l[i].f0, l[i].f1, l[i].f2, l[i].f3⟩ = rightB l[i] from rfl]
    by_cases h1 : l[i].f1.toList = m.toList
    · rw [if_pos h1, if_pos h1]
      cases rightB l[i]
      · simp only [Bool.false_eq_true, if_false]; exact ih _ _
      · simp only [if_true]; exact ih _ _
    · rw [if_neg h1, if_neg h1, ite_self]
      exact ih _ _
theorem class_after (m : ByteArray) (l : List S138) (hn : l.length ≤ 1000) (w x5 : Int) : ∀ (d i k : Nat) (p : S139), i + d = l.length → d < k → clsGo ((l.map conv44).drop i) (some p) = true → w < p.f0 → culetref44_class.l0 k w x5 (i : Int) m l = some x5
  | 0, i, k, p, h, hk, hc, hp => by
    obtain ⟨k, rfl⟩ : ∃ m, k = m + 1 := ⟨k - 1, by omega⟩
    simp only [culetref44_class.l0]
    rw [if_neg (by omega)]
  | d + 1, i, k, p, h, hk, hc, hp => by
    obtain ⟨k, rfl⟩ : ∃ m, k = m + 1 := ⟨k - 1, by omega⟩
    have hlt : i < l.length := by omega
    rw [List.drop_eq_getElem_cons (by rw [List.length_map]; exact hlt), List.getElem_map] at hc
    simp only [clsGo, Bool.and_eq_true, prevOk, decide_eq_true_eq] at hc
    have hq : (conv44 l[i]).f0 = l[i].f0 := rfl
    have hlt2 : w < (conv44 l[i]).f0 := by omega
    simp only [culetref44_class.l0]
    rw [if_pos (by omega), if_pos (by omega), rd138 l i hlt, if_neg (by omega), show wrap64 ((i : Int) + 1) = ((i + 1 : Nat) : Int) by unfold wrap64; omega]
    exact class_after m l hn w x5 d (i + 1) k _ (by omega) (by omega) hc.2.2.2.2 hlt2
theorem class_before (m : ByteArray) (l : List S138) (hn : l.length ≤ 1000) (w : Int) : ∀ (d i k : Nat) (p : S139), i + d = l.length → d < k → clsGo ((l.map conv44).drop i) (some p) = true → culetref44_class.l0 k w ((i : Int) - 1) (i : Int) m l = some (if idx (above w) ((l.map conv44).drop i) (i : Int) < 0 then (l.length : Int) - 1 else idx (above w) ((l.map conv44).drop i) (i : Int) - 1)
  | 0, i, k, p, h, hk, hc => by
    obtain ⟨k, rfl⟩ : ∃ m, k = m + 1 := ⟨k - 1, by omega⟩
    simp only [culetref44_class.l0]
    rw [if_neg (by omega), List.drop_of_length_le (by rw [List.length_map]; omega)]
    rw [show idx (above w) ([] : List S139) (i : Int) = -1 from rfl, if_pos (by omega), show (i : Int) = (l.length : Int) by omega]
  | d + 1, i, k, p, h, hk, hc => by
    obtain ⟨k, rfl⟩ : ∃ m, k = m + 1 := ⟨k - 1, by omega⟩
    have hlt : i < l.length := by omega
    have hcons : (l.map conv44).drop i = conv44 l[i] :: (l.map conv44).drop (i + 1) := by
      rw [List.drop_eq_getElem_cons (by rw [List.length_map]; exact hlt), List.getElem_map]
    have e : idx (above w) ((l.map conv44).drop i) (i : Int) = if above w (conv44 l[i]) = true then (i : Int) else idx (above w) ((l.map conv44).drop (i + 1)) ((i + 1 : Nat) : Int) := by rw [hcons]; rfl
    rw [hcons] at hc
    simp only [clsGo, Bool.and_eq_true] at hc
    have hq : (conv44 l[i]).f0 = l[i].f0 := rfl
    simp only [culetref44_class.l0]
    rw [if_pos (by omega), if_pos (by omega), rd138 l i hlt, show wrap64 ((i : Int) + 1) = ((i + 1 : Nat) : Int) by unfold wrap64; omega]
    by_cases h1 : l[i].f0 ≤ w
    · have hab : above w (conv44 l[i]) = false := by unfold above; exact decide_eq_false (by rw [hq]; omega)
      rw [hab, if_neg (by decide)] at e
      rw [if_pos h1, e]
      have ih := class_before m l hn w d (i + 1) k _ (by omega) (by omega) hc.2.2.2.2
      rw [show (((i + 1 : Nat) : Int) - 1) = (i : Int) by omega] at ih
      exact ih
    · have hab : above w (conv44 l[i]) = true := by unfold above; exact decide_eq_true (by rw [hq]; omega)
      rw [hab, if_pos rfl] at e
      rw [if_neg h1, e, if_neg (by omega)]
      exact class_after m l hn w _ d (i + 1) k _ (by omega) (by omega) hc.2.2.2.2 (by rw [hq]; omega)
theorem class_eq (m : ByteArray) (l : List S138) (hn : l.length ≤ 1000) (w : Int) (hw : 0 ≤ w) (hv : validT m (l.map conv44) = true) (k : Nat) (hk : l.length + 1 < k) : culetref44_class.f k m l w = tariff_class.f m (l.map conv44) w := by
  unfold validT at hv
  unfold culetref44_class.f tariff_class.f
  obtain ⟨k, rfl⟩ : ∃ m, k = m + 1 := ⟨k - 1, by omega⟩
  cases l with
  | nil => simp [tailB] at hv
  | cons c r =>
    rw [Bool.and_eq_true] at hv
    have hc := hv.1
    simp only [List.map_cons, clsGo, Bool.and_eq_true, prevOk, decide_eq_true_eq] at hc
    have hq : (conv44 c).f0 = c.f0 := rfl
    have hb := class_before m (c :: r) hn w r.length 1 k (conv44 c) (by simp; omega) (by simp at hk; omega) hc.2.2.2.2
    simp only [culetref44_class.l0]
    rw [if_pos (by rw [List.length_cons]; omega), if_pos (by omega), show rd_T138 (c :: r) 0 = c from rfl, if_pos (by omega), show wrap64 (0 + 1) = ((1 : Nat) : Int) by unfold wrap64; omega]
    rw [show (((1 : Nat) : Int) - 1) = 0 by omega] at hb
    rw [hb]
    have e : idx (above w) ((c :: r).map conv44) 0 = idx (above w) (((c :: r).map conv44).drop 1) ((1 : Nat) : Int) := by
      show (if above w (conv44 c) = true then (0 : Int) else _) = _
      rw [if_neg (by unfold above; rw [decide_eq_true_eq, hq]; omega)]; rfl
    rw [e, List.length_map]
theorem class_bound (m : ByteArray) (l : List S139) (w : Int) (hw : 0 ≤ w) (hv : validT m l = true) : ∃ i : Nat, tariff_class.f m l w = some (i : Int) ∧ i < l.length := by
  unfold tariff_class.f
  unfold validT at hv
  rw [Bool.and_eq_true] at hv
  cases l with
  | nil => simp [tailB] at hv
  | cons c r =>
    have hc := hv.1
    simp only [clsGo, Bool.and_eq_true, prevOk, decide_eq_true_eq] at hc
    have e : idx (above w) (c :: r) 0 = idx (above w) r 1 := by
      show (if above w c = true then (0 : Int) else _) = _
      rw [if_neg (by unfold above; rw [decide_eq_true_eq]; omega)]; rfl
    rw [e]
    have hl : ((c :: r).length : Int) = (r.length : Int) + 1 := by simp
    rcases idx_bound' (above w) r 1 with h | ⟨h1, h2⟩
    · rw [h, if_pos (by omega)]
      exact ⟨r.length, by rw [hl]; congr 1; omega, by simp⟩
    · rw [if_neg (by omega)]
      exact ⟨(idx (above w) r 1 - 1).toNat, by congr 1; omega, by simp; omega⟩
theorem value44 (m : ByteArray) (hm : m.size ≤ 40) (l : List S138) (hn : l.length ≤ 1000) (w : Int) (hw : 0 ≤ w) (hw2 : w ≤ 1000000) (hv : validT m (l.map conv44) = true) (k : Nat) (hk : l.length + 60 < k) : ∃ v, tariff_Value.f m (l.map conv44) w = some (v, 0) ∧ culetref44_Value.f k m l w = some (v, 0) := by
  obtain ⟨i, h1, h2⟩ := class_bound m (l.map conv44) w hw hv
  have h3 := h2
  rw [List.length_map] at h3
  have hp : (rd_T139 (l.map conv44) (i : Int)).f1 = (rd_T138 l (i : Int)).f1 := by
    rw [rd139 _ i h2, rd138 l i h3, List.getElem_map]; rfl
  refine ⟨wrap64 (Int.tdiv (wrap64 (w * ((rd_T138 l (i : Int)).f1))) 1000), ?_, ?_⟩
  · have hb : badW w = false := by unfold badW; rw [decide_eq_false (by omega), decide_eq_false (by omega)]; rfl
    have hr : tariff_right.f m (l.map conv44) [w] = some 0 := by
      unfold tariff_right.f
      rw [tv_eq m (l.map conv44) (by rw [List.length_map]; exact hn) _ (by omega), hv, Option.bind_some, if_neg (show ¬ true = false by decide)]
      show some (if (badW w || false) = true then (2 : Int) else 0) = some 0
      rw [hb]; rfl
    unfold tariff_Value.f
    rw [hr, Option.bind_some, if_pos rfl]
    unfold tariff_value.f
    rw [h1, Option.bind_some, if_pos (by omega), if_pos (by omega), hp]
    rfl
  · unfold culetref44_Value.f culetref44_ClassOf.f
    rw [rv_eq m (by omega) l hn k (by omega) (by omega), hv]
    simp only [Option.bind_some]
    rw [if_pos trivial, if_neg (by omega), if_neg (by omega), class_eq m l hn w hw hv k (by omega), h1]
    simp only [Option.bind_some]
    rw [if_pos trivial, if_pos (by omega), if_pos (by omega)]
theorem value_both (l : List S24) (hn : l.length ≤ 1000) (hR : ∀ x ∈ l, rightB x = true) (m : ByteArray) (hm : m.size ≤ 40) (t : List S138) (ht : t.length ≤ 1000) (hv : validT m (t.map conv44) = true) : ∀ (d i k k' : Nat) (a : Int), i + d = l.length → d < k → d + t.length + 60 < k' → ∃ r, parcel_Value.l0 k a l (l.length : Int) (i : Int) m (t.map conv44) = some (r, 0) ∧ culetref53_Value.l0 k' l a (i : Int) m t = some (r, 0)
  | 0, i, k, k', a, h, hk, hk' => by
    obtain ⟨k, rfl⟩ : ∃ m, k = m + 1 := ⟨k - 1, by omega⟩
    obtain ⟨k', rfl⟩ : ∃ m, k' = m + 1 := ⟨k' - 1, by omega⟩
    simp only [culetref53_Value.l0, parcel_Value.l0]
    have c1 : ¬ (i : Int) < (l.length : Int) := by omega
    rw [if_neg c1, if_neg c1]
    exact ⟨_, rfl, rfl⟩
  | d + 1, i, k, k', a, h, hk, hk' => by
    obtain ⟨k, rfl⟩ : ∃ m, k = m + 1 := ⟨k - 1, by omega⟩
    obtain ⟨k', rfl⟩ : ∃ m, k' = m + 1 := ⟨k' - 1, by omega⟩
    have hlt : i < l.length := by omega
    have ih := fun a => value_both l hn hR m hm t ht hv d (i + 1) k k' a (by omega) (by omega) (by omega)
    simp only [culetref53_Value.l0, parcel_Value.l0]
    have c1 : (i : Int) < (l.length : Int) := by omega
    have c2 : (0 : Int) ≤ (i : Int) := by omega
    rw [if_pos c1, if_pos c2, if_pos c1, if_pos c1, if_pos c2, rd24 l i hlt, show wrap64 ((i : Int) + 1) = ((i + 1 : Nat) : Int) by unfold wrap64; omega]
    by_cases h1 : l[i].f1.toList = m.toList
    · obtain ⟨_, _, q1, q2, q3, q4⟩ := rightB_bounds (hR l[i] (List.getElem_mem hlt))
      have d1 : 0 ≤ Int.tdiv l[i].f2 l[i].f3 := Int.tdiv_nonneg (by omega) (by omega)
      have d2 : Int.tdiv l[i].f2 l[i].f3 ≤ l[i].f2 := by
        rw [Int.tdiv_eq_ediv_of_nonneg (by omega)]
        exact Int.ediv_le_self _ (by omega)
      have d3 : wrap64 (Int.tdiv l[i].f2 l[i].f3) = Int.tdiv l[i].f2 l[i].f3 := by unfold wrap64; omega
      obtain ⟨v, v1, v2⟩ := value44 m hm t ht (Int.tdiv l[i].f2 l[i].f3) d1 (by omega) hv k' (by omega)
      rw [if_pos h1, if_pos h1, if_neg (by omega), if_neg (by omega), d3, v1, v2]
      simp only [Option.bind_some]
      rw [if_pos trivial, Int.mul_comm v]
      exact ih _
    · rw [if_neg h1, if_neg h1]
      exact ih _
theorem own44_loop (m : ByteArray) (l : List S138) (hn : l.length ≤ 1000) : ∀ (d i k : Nat) (acc : List S139), i + d = l.length → d < k → acc.length = i → culetlaw44_Own.l0 k l (l.length : Int) (i : Int) m acc = some (m, acc ++ (l.drop i).map conv44)
  | 0, i, k, acc, h, hk, ha => by
    obtain ⟨k, rfl⟩ : ∃ m, k = m + 1 := ⟨k - 1, by omega⟩
    simp only [culetlaw44_Own.l0]
    rw [if_neg (by omega), List.drop_of_length_le (by omega)]
    simp
  | d + 1, i, k, acc, h, hk, ha => by
    obtain ⟨k, rfl⟩ : ∃ m, k = m + 1 := ⟨k - 1, by omega⟩
    have hlt : i < l.length := by omega
    simp only [culetlaw44_Own.l0]
    rw [if_pos (by omega), if_pos (by omega), if_pos (by omega), if_pos (by omega), rd138 l i hlt, show wrap64 ((i : Int) + 1) = ((i + 1 : Nat) : Int) by unfold wrap64; omega, own44_loop m l hn d (i + 1) k _ (by omega) (by omega) (by simp; omega), List.drop_eq_getElem_cons hlt, List.map_cons, List.append_assoc]
    rfl
theorem own44 (m : ByteArray) (l : List S138) (hn : l.length ≤ 1000) (k : Nat) (hk : l.length < k) : culetlaw44_Own.f k m l = some (m, l.map conv44) := by
  unfold culetlaw44_Own.f
  have := own44_loop m l hn l.length 0 k [] (by omega) hk rfl
  simpa using this
end Go.Proofs.Ytndbchcfjajgbaa.XP
