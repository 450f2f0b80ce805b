/- The shape of an entry: the program's answer is the reference's. Plain. -/
import Derived.Test.YtndbchcfjajgbaaHandValid
import Derived.Test.YtndbchcfjajgbaaXP13
namespace Go.Proofs.Ytndbchcfjajgbaa.XP
open Go Go.RowKit Go.Proofs Go.Proofs.YtndbchcfjajgbaaW.PrintWords Go.Proofs.YtndbchcfjajgbaaW.PrintLast
set_option linter.unusedVariables false
set_option linter.unusedSimpArgs false
theorem none_toList : (⟨#[]⟩ : ByteArray).toList = ([] : List UInt8) := by rw [ByteArray.toList_eq]
/-- The entry is not the one that has the fields of its kind alone. -/
def neqE (a : Int) (b c : ByteArray) (d e : Int) (f g : ByteArray) (h i : Int) (t0 : Int) (t1 t2 : ByteArray) (t3 t4 : Int) (t5 t6 : ByteArray) (t7 t8 : Int) : Bool := (!(a == t0) || ((!(b.toList == t1.toList) || (!(c.toList == t2.toList) || (!(d == t3) || (!(e == t4))))) || (!(f.toList == t5.toList) || (!(g.toList == t6.toList) || (!(h == t7) || (!(i == t8)))))))
theorem only_some (a : Int) (b c : ByteArray) (d e : Int) (f g : ByteArray) (h i : Int) : ∃ t0 t1 t2 t3 t4 t5 t6 t7 t8, culetref53_only.f a b c d e f g h i = some (t0, t1, t2, t3, t4, t5, t6, t7, t8) := by
  unfold culetref53_only.f
  repeat' (first | exact ⟨_, _, _, _, _, _, _, _, _, rfl⟩ | split)
theorem shape_ref {a : Int} {b c : ByteArray} {d e : Int} {f g : ByteArray} {h i : Int} {t0 : Int} {t1 t2 : ByteArray} {t3 t4 : Int} {t5 t6 : ByteArray} {t7 t8 : Int} (ht : culetref53_only.f a b c d e f g h i = some (t0, t1, t2, t3, t4, t5, t6, t7, t8)) :
    shapedB a b c d e f g h i = (decide (1 ≤ a) && (decide (a ≤ 5) && (!(neqE a b c d e f g h i t0 t1 t2 t3 t4 t5 t6 t7 t8) && ((!decide (a = 1) || rightB ⟨b, c, d, e⟩) && (!(decide (a = 3) || decide (a = 4)) || nameB g))))) := by
  have hs := shaped_eq a b c d e f g h i
  unfold parcel_shaped.f at hs
  unfold culetref53_only.f at ht
  unfold neqE
  by_cases h1 : a = 1
  · subst h1
    rw [if_pos rfl] at hs ht
    simp only [Option.some.injEq, Prod.mk.injEq] at ht
    obtain ⟨rfl, rfl, rfl, rfl, rfl, rfl, rfl, rfl, rfl⟩ := ht
    rw [right_eq] at hs
    simp only [Option.bind_some] at hs
    rw [none_toList]
    cases hr : rightB ⟨b, c, d, e⟩ <;> rw [hr] at hs <;> simp only [Bool.false_eq_true, if_false, if_true, Option.some.injEq] at hs <;> rw [← hs] <;> simp
  by_cases h2 : a = 2
  · subst h2
    rw [if_neg (by decide), if_pos rfl] at hs ht
    simp only [Option.some.injEq, Prod.mk.injEq] at ht hs
    obtain ⟨rfl, rfl, rfl, rfl, rfl, rfl, rfl, rfl, rfl⟩ := ht
    rw [none_toList, ← hs]
    simp
  by_cases h3 : a = 3
  · subst h3
    rw [if_neg (by decide), if_neg (by decide), if_pos rfl] at hs ht
    simp only [Option.some.injEq, Prod.mk.injEq] at ht
    obtain ⟨rfl, rfl, rfl, rfl, rfl, rfl, rfl, rfl, rfl⟩ := ht
    rw [isName_eq] at hs
    simp only [Option.bind_some] at hs
    rw [none_toList]
    simp only [beq_self_eq_true, Bool.not_true, Bool.false_or]
    generalize (b.toList == ([] : List UInt8)) = B at hs ⊢
    generalize (c.toList == ([] : List UInt8)) = C at hs ⊢
    generalize (d == 0) = D at hs ⊢
    generalize (e == 0) = E at hs ⊢
    generalize nameB g = N at hs ⊢
    generalize rightB ⟨b, c, d, e⟩ = R at hs ⊢
    generalize shapedB 3 b c d e f g h i = S at hs ⊢
    cases B <;> cases C <;> cases D <;> cases E <;> simp at hs ⊢ <;> first | assumption | exact hs.symm
  by_cases h4 : a = 4
  · subst h4
    rw [if_neg (by decide), if_neg (by decide), if_neg (by decide), if_pos rfl] at hs ht
    simp only [Option.some.injEq, Prod.mk.injEq] at ht
    obtain ⟨rfl, rfl, rfl, rfl, rfl, rfl, rfl, rfl, rfl⟩ := ht
    rw [isName_eq] at hs
    simp only [Option.bind_some] at hs
    rw [none_toList]
    simp only [beq_self_eq_true, Bool.not_true, Bool.false_or] at hs ⊢
    generalize (b.toList == ([] : List UInt8)) = B at hs ⊢
    generalize (c.toList == ([] : List UInt8)) = C at hs ⊢
    generalize (d == 0) = D at hs ⊢
    generalize (e == 0) = E at hs ⊢
    generalize (h == 0) = H at hs ⊢
    generalize (i == 0) = I at hs ⊢
    generalize nameB g = N at hs ⊢
    generalize rightB ⟨b, c, d, e⟩ = R at hs ⊢
    generalize shapedB 4 b c d e f g h i = S at hs ⊢
    cases N <;> cases B <;> cases C <;> cases D <;> cases E <;> cases H <;> cases I <;> simp at hs ⊢ <;> first | assumption | exact hs.symm
  by_cases h5 : a = 5
  · subst h5
    rw [if_neg (by decide), if_neg (by decide), if_neg (by decide), if_neg (by decide), if_pos rfl] at hs
    rw [if_neg (by decide), if_neg (by decide), if_neg (by decide), if_neg (by decide)] at ht
    simp only [Option.some.injEq, Prod.mk.injEq] at ht hs
    obtain ⟨rfl, rfl, rfl, rfl, rfl, rfl, rfl, rfl, rfl⟩ := ht
    rw [none_toList, ← hs]
    simp
  rw [if_neg h1, if_neg h2, if_neg h3, if_neg h4, if_neg h5] at hs
  rw [← Option.some.inj hs]
  by_cases k1 : 1 ≤ a
  · rw [decide_eq_false (show ¬ a ≤ 5 by omega)]; simp
  · rw [decide_eq_false k1]; simp
end Go.Proofs.Ytndbchcfjajgbaa.XP
