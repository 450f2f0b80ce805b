/- The order of strings: what the search, the comparison and '<' say. -/
import Derived.Test.YtndbchcfjajgbaaHandBs
import Derived.WideShapes
namespace Go.Proofs.Ytndbchcfjajgbaa.XP
open Go Go.RowKit
theorem cmpL_lt : ∀ (a b : List UInt8), Lib.compareBytes a b < 0 ↔ Op.bytesLess a b = true
  | [], [] => by simp [Lib.compareBytes, Op.bytesLess]
  | [], _ :: _ => by simp [Lib.compareBytes, Op.bytesLess]
  | _ :: _, [] => by simp [Lib.compareBytes, Op.bytesLess]
  | a :: al, b :: bs => by
    have ih := cmpL_lt al bs
    unfold Lib.compareBytes Op.bytesLess
    by_cases h1 : a < b
    · simp [h1]
    · by_cases h2 : b < a
      · have : ¬ a = b := by rintro rfl; exact h1 h2
        simp [h1, h2, this]
      · have : a = b := UInt8.le_antisymm (UInt8.not_lt.1 h2) (UInt8.not_lt.1 h1)
        subst this
        simp [h1, ih]
theorem cmpL_zero : ∀ (a b : List UInt8), Lib.compareBytes a b = 0 ↔ a = b
  | [], [] => by simp [Lib.compareBytes]
  | [], _ :: _ => by simp [Lib.compareBytes]
  | _ :: _, [] => by simp [Lib.compareBytes]
  | a :: al, b :: bs => by
    have ih := cmpL_zero al bs
    unfold Lib.compareBytes
    by_cases h1 : a < b
    · have : ¬ a = b := by rintro rfl; exact (UInt8.lt_irrefl a) h1
      simp [h1, this]
    · by_cases h2 : b < a
      · have : ¬ a = b := by rintro rfl; exact h1 h2
        simp [h1, h2, this]
      · have : a = b := UInt8.le_antisymm (UInt8.not_lt.1 h2) (UInt8.not_lt.1 h1)
        subst this
        simp [h1, ih]
theorem less_irrefl : ∀ a : List UInt8, Op.bytesLess a a = false
  | [] => rfl
  | a :: al => by unfold Op.bytesLess; simp [less_irrefl al, UInt8.lt_irrefl]
theorem less_trans : ∀ {a b c : List UInt8}, Op.bytesLess a b = true → Op.bytesLess b c = true → Op.bytesLess a c = true
  | _, [], _, h, _ => by cases ‹List UInt8› <;> simp [Op.bytesLess] at h
  | _, _ :: _, [], _, h => by simp [Op.bytesLess] at h
  | [], _ :: _, _ :: _, _, _ => rfl
  | a :: al, b :: bs, c :: cs, h1, h2 => by
    unfold Op.bytesLess at h1 h2 ⊢
    simp only [Bool.or_eq_true, decide_eq_true_eq, Bool.and_eq_true, beq_iff_eq] at h1 h2 ⊢
    rcases h1 with h1 | ⟨rfl, h1⟩
    · rcases h2 with h2 | ⟨rfl, h2⟩
      · exact .inl (UInt8.lt_trans h1 h2)
      · exact .inl h1
    · rcases h2 with h2 | ⟨rfl, h2⟩
      · exact .inl h2
      · exact .inr ⟨rfl, less_trans h1 h2⟩
theorem less_total : ∀ (a b : List UInt8), Op.bytesLess a b = true ∨ a = b ∨ Op.bytesLess b a = true
  | [], [] => .inr (.inl rfl)
  | [], _ :: _ => .inl rfl
  | _ :: _, [] => .inr (.inr rfl)
  | a :: al, b :: bs => by
    unfold Op.bytesLess
    simp only [Bool.or_eq_true, decide_eq_true_eq, Bool.and_eq_true, beq_iff_eq, List.cons.injEq]
    by_cases h1 : a < b
    · exact .inl (.inl h1)
    · by_cases h2 : b < a
      · exact .inr (.inr (.inl h2))
      · have : a = b := UInt8.le_antisymm (UInt8.not_lt.1 h2) (UInt8.not_lt.1 h1)
        subst this
        rcases less_total al bs with h | h | h
        · exact .inl (.inr ⟨rfl, h⟩)
        · exact .inr (.inl ⟨rfl, h⟩)
        · exact .inr (.inr (.inr ⟨rfl, h⟩))
/-- Strings, in the order of their bytes. -/
def less (a b : ByteArray) : Prop := Op.bytesLess a.toList b.toList = true
theorem cmpB_lt (a b : ByteArray) : cmpB a b < 0 ↔ less a b := by
  unfold cmpB less; rw [cmpL_lt]; simp only [ByteArray.toList_eq]
theorem toList_inj {a b : ByteArray} : a.toList = b.toList ↔ a = b := by
  rw [ByteArray.toList_eq, ByteArray.toList_eq]
  refine ⟨fun h => ?_, fun h => by rw [h]⟩
  obtain ⟨⟨x⟩⟩ := a
  obtain ⟨⟨y⟩⟩ := b
  simp at h
  rw [h]
theorem cmpB_eq (a b : ByteArray) : cmpB a b = 0 ↔ a = b := by
  unfold cmpB; rw [cmpL_zero, ← ByteArray.toList_eq, ← ByteArray.toList_eq, toList_inj]
theorem lessTrans {a b c : ByteArray} (h1 : less a b) (h2 : less b c) : less a c := less_trans h1 h2
theorem lessIrrefl (a : ByteArray) : ¬ less a a := by unfold less; rw [less_irrefl]; simp
theorem lessTotal (a b : ByteArray) : less a b ∨ a = b ∨ less b a := by
  rcases less_total a.toList b.toList with h | h | h
  · exact .inl h
  · exact .inr (.inl (toList_inj.1 h))
  · exact .inr (.inr h)
/-- The place of a name in a sorted list: how many pieces come before it. -/
def posB : List S24 → ByteArray → Nat
  | [], _ => 0
  | x :: l, s => if cmpB x.f0 s < 0 then posB l s + 1 else 0
def Sorted (l : List S24) : Prop := l.Pairwise fun x y => less x.f0 y.f0
theorem posB_le : ∀ (l : List S24) (s : ByteArray), posB l s ≤ l.length
  | [], _ => Nat.le_refl _
  | x :: l, s => by unfold posB; have := posB_le l s; split <;> simp <;> omega
theorem posB_lt : ∀ (l : List S24) (s : ByteArray) (k : Nat), k < posB l s → cmpB (rd_T24 l k).f0 s < 0
  | [], _, _, h => by simp [posB] at h
  | x :: l, s, k, h => by
    unfold posB at h
    split at h
    · rename_i hx
      cases k with
      | zero => exact hx
      | succ k =>
        have := posB_lt l s k (by omega)
        unfold rd_T24 at this ⊢
        simpa using this
    · omega
theorem posB_ge : ∀ (l : List S24) (s : ByteArray), Sorted l → ∀ (k : Nat), posB l s ≤ k → k < l.length → ¬ cmpB (rd_T24 l k).f0 s < 0
  | [], _, _, _, _, h => by simp at h
  | x :: l, s, hs, k, h, hl => by
    unfold posB at h
    obtain ⟨h1, h2⟩ := List.pairwise_cons.1 hs
    split at h
    · rename_i hx
      cases k with
      | zero => omega
      | succ k =>
        have := posB_ge l s h2 k (by omega) (by simpa using hl)
        unfold rd_T24 at this ⊢
        simpa using this
    · rename_i hx
      cases k with
      | zero => exact hx
      | succ k =>
        intro hc
        have hk : k < l.length := by simpa using hl
        have e : rd_T24 (x :: l) ((k + 1 : Nat) : Int) = l[k] := by
          unfold rd_T24; simp [List.getD_eq_getElem?_getD, hk]
        rw [e] at hc
        exact hx ((cmpB_lt _ _).2 (lessTrans (h1 _ (List.getElem_mem hk)) ((cmpB_lt _ _).1 hc)))
end Go.Proofs.Ytndbchcfjajgbaa.XP
