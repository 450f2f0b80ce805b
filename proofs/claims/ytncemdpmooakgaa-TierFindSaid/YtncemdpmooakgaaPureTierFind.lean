/- TierFind: the first facet of a reference, the parts, and the first tiers, told alike by both. For every input. -/
import Derived.Test.YtncemdpmooakgaaHandTier
import Derived.Test.YtncemdpmooakgaaHandPrefix
import Derived.Test.YtncemdpmooakgaaHandSameF
import Derived.Test.YtncemdpmooakgaaHandFew
import Derived.Test.YtncemdpmooakgaaXK4
import Derived.Test.YtncemdpmooakgaaXK3
import Derived.Test.YtncemdpmooakgaaXK5
namespace Go.Proofs.Ytncemdpmooakgaa.Pure
open Go.RowKit Go.Proofs.Ytncemdpmooakgaa.XK Go.Proofs.Ytncemdpmooakgaa.XW Go.Proofs.Ytncemdpmooakgaa.XH Go.Proofs.YtncemdpmooakgaaW.PrintWords Go.Proofs.YtncemdpmooakgaaW.PrintLast
namespace TierF
theorem rd73 (l : List S73) (i : Nat) (h : i < l.length) : rd_T73 l (i : Int) = l[i] := by unfold rd_T73; rw [Int.toNat_natCast, List.getD_eq_getElem?_getD, List.getElem?_eq_getElem h]; rfl
/-- The first facet of a reference, by its number. -/
theorem find_loop (l : List S73) (hn : l.length ≤ 100) (s : ByteArray) (n : Int) : ∀ (d i k : Nat), i + d = l.length → d < k → culetref16_Find.l0 k l (i : Int) s n = some (max 0 (idx (fnd s n) (l.drop i) (i : Int)), decide (idx (fnd s n) (l.drop i) (i : Int) ≥ 0))
  | 0, i, k, h, hk => by
    obtain ⟨k, rfl⟩ : ∃ m, k = m + 1 := ⟨k - 1, by omega⟩
    simp only [culetref16_Find.l0]
    rw [if_neg (by omega), List.drop_of_length_le (by omega)]
    rfl
  | d + 1, i, k, h, hk => by
    obtain ⟨k, rfl⟩ : ∃ m, k = m + 1 := ⟨k - 1, by omega⟩
    have hi : i < l.length := by omega
    simp only [culetref16_Find.l0]
    rw [if_pos (by omega), if_pos (by omega), rd73 l i hi, List.drop_eq_getElem_cons hi]
    have hw : wrap64 ((i : Int) + 1) = ((i + 1 : Nat) : Int) := by unfold wrap64; omega
    have ih := find_loop l hn s n d (i + 1) k (by omega) (by omega)
    by_cases c1 : l[i].f0.toList = s.toList
    · by_cases c2 : l[i].f1.f2 = n
      · rw [if_pos c1, if_pos c2, idx, if_pos (by simp [fnd, c1, c2]), show max 0 (i : Int) = (i : Int) by omega, show decide ((i : Int) ≥ 0) = true from decide_eq_true (by omega)]
      · rw [if_pos c1, if_neg c2, idx, if_neg (by simp [fnd, c2]), hw, ih, show ((i + 1 : Nat) : Int) = (i : Int) + 1 by omega]
    · rw [if_neg c1, idx, if_neg (by simp [fnd, c1]), hw, ih, show ((i + 1 : Nat) : Int) = (i : Int) + 1 by omega]
theorem find_eq (l : List S73) (hn : l.length ≤ 100) (s : ByteArray) (n : Int) (k : Nat) (hk : l.length < k) : culetref16_Find.f k l s n = tier_Find.f l s n := by
  unfold culetref16_Find.f tier_Find.f
  exact find_loop l hn s n l.length 0 k (by omega) hk
theorem few_small {s : ByteArray} {l : List S51} (h : few15 s l = true) : l.length ≤ 22 ∧ l.all small51 = true := by
  simp only [few15, Bool.and_eq_true, decide_eq_true_eq] at h
  refine ⟨h.2.1, ?_⟩
  have h0 := h.2.2
  rw [List.all_eq_true] at h0
  rw [List.all_eq_true]
  intro x hx
  have h1 := h0 x hx
  simp only [fewT, fewFixB, Bool.and_eq_true, decide_eq_true_eq] at h1
  simp only [small51, Bool.and_eq_true, decide_eq_true_eq]
  omega
theorem prefix_eq (s : ByteArray) (o : Int) (b : Bool) (l : List S51) (a : Int) (h : few15 s l = true) : ∃ r, tier_Prefix.f s o b l a = some r ∧ culetref16_Prefix.f s o b l a = some r := by
  obtain ⟨h1, h2⟩ := few_small h
  unfold tier_Prefix.f culetref16_Prefix.f
  by_cases c1 : a < 0
  · rw [if_pos c1, if_pos c1]; exact ⟨_, rfl, rfl⟩
  · rw [if_neg c1, if_neg c1]
    by_cases c2 : a > (l.length : Int)
    · rw [if_pos c2, if_pos c2]; exact ⟨_, rfl, rfl⟩
    · rw [if_neg c2, if_neg c2, if_pos ⟨by omega, h2⟩]
      refine ⟨_, rfl, ?_⟩
      have h3 : (l.take a.toNat).length ≤ 22 := by rw [List.length_take]; omega
      simp only [Option.bind_some]
      rw [if_pos (by omega), if_pos (by omega), if_pos (by simp only [List.length_nil]; omega), List.nil_append]
theorem last_eq (x7 : Int) (x8 : Bool) (l : List S73) (hn : l.length ≤ 100) (s : ByteArray) (o : Int) (b : Bool) (t : List S51) (a : Int) (h : few15 s t = true) : ∀ (d i k : Nat), i + d = l.length → d < k → culetlaw16_TierFind.l0 k x7 x8 x7 x8 l (l.length : Int) (i : Int) s o b t a = some true
  | 0, i, k, hi, hk => by
    obtain ⟨k, rfl⟩ : ∃ m, k = m + 1 := ⟨k - 1, by omega⟩
    obtain ⟨⟨r1, r2, r3, r4, r5⟩, e1, e2⟩ := prefix_eq s o b t a h
    simp only [culetlaw16_TierFind.l0]
    rw [if_neg (by omega), e1, Option.bind_some, e2, Option.bind_some, if_pos trivial, if_pos (by simp)]
    simp only
    rw [culetref14_Same.self, Option.bind_some, if_pos rfl]
    simp
  | d + 1, i, k, hi, hk => by
    obtain ⟨k, rfl⟩ : ∃ m, k = m + 1 := ⟨k - 1, by omega⟩
    have hp : ∀ x y z : Int, culetref16_Part.f x y z = tier_Part.f x y z := fun _ _ _ => rfl
    have hs : ∀ x y z : Int, ∃ v, tier_Part.f x y z = some v := fun x y z => by
      unfold tier_Part.f
      split
      · exact ⟨_, rfl⟩
      · split <;> exact ⟨_, rfl⟩
    obtain ⟨v, hv⟩ := hs (rd_T73 l (i : Int)).f1.f0 (rd_T73 l (i : Int)).f1.f1 (rd_T73 l (i : Int)).f1.f2
    simp only [culetlaw16_TierFind.l0]
    rw [if_pos (by omega), if_pos (by omega), if_pos (by omega), hp, hv, Option.bind_some, Option.bind_some, if_pos rfl, show wrap64 ((i : Int) + 1) = ((i + 1 : Nat) : Int) by unfold wrap64; omega]
    exact last_eq x7 x8 l hn s o b t a h d (i + 1) k (by omega) (by omega)
theorem aw : culetlaw16_awake.f 300 = some true := by decide +kernel
end TierF
open TierF
theorem TierFind : culetlaw16_TierFind.Pure := by
  intro x0 x1 x2 _ _ _
  refine ⟨300, ?_⟩
  unfold culetlaw16_TierFind.f
  rw [aw, Option.bind_some, if_pos rfl]
  by_cases c : (x0.length : Int) > 100
  · rw [if_pos c]
    simp only [culetlaw16_TierFind.j0]
    rw [if_pos trivial]
  · rw [if_neg c]
    unfold culetref15_Few.f
    rw [Option.bind_some]
    cases hf : few15 x2.f0.f0 x2.f0.f3 with
    | false =>
      simp only [culetlaw16_TierFind.j0, Bool.not_false]
      rw [if_pos trivial]
    | true =>
      simp only [culetlaw16_TierFind.j0, Bool.not_true]
      rw [if_neg (by decide), find_eq x0 (by omega) x1.f0 x1.f1 299 (by omega)]
      unfold tier_Find.f
      rw [Option.bind_some, Option.bind_some]
      exact last_eq _ _ x0 (by omega) x2.f0.f0 x2.f0.f1 x2.f0.f2 x2.f0.f3 x2.f1 hf x0.length 0 299 (by omega) (by omega)
end Go.Proofs.Ytncemdpmooakgaa.Pure
