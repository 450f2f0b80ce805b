/- job.Do: what it answers, in lists. -/
import Derived.Test.YtndbchcfjajgbaaHandRight54
import Derived.Test.YtndbchcfjajgbaaHandDoF
import Derived.Test.YtndbchcfjajgbaaPureFnd
import Derived.Test.YtndbchcfjajgbaaXP11
namespace Go.Proofs.Ytndbchcfjajgbaa.XP
open Go Go.RowKit Go.Proofs Go.Proofs.YtndbchcfjajgbaaW.PrintWords Go.Proofs.YtndbchcfjajgbaaW.PrintLast
set_option linter.unusedVariables false
set_option linter.unusedSimpArgs false
def zeroJob (x : S81) : Bool := x.f0.toList == ([] : List UInt8) && (x.f1.toList == ([] : List UInt8) && (x.f2.toList == ([] : List UInt8) && (x.f3 == 0 && (x.f4 == 0))))
/-- An event of one of its five shapes. -/
def shapeJ (ek ed : Int) (j : S81) (id : ByteArray) (wt : Int) : Bool :=
  dayB ed && (if ek = 1 then validJ j && (decide (id.toList = ([] : List UInt8)) && wt == 0)
    else if ek = 2 ∨ ek = 4 ∨ ek = 5 then zeroJob j && wt == 0
    else if ek = 3 then zeroJob j else false)
theorem shapeJ_eq (ek ed : Int) (j : S81) (id : ByteArray) (wt : Int) : job_shaped.f 1 ek ed j.f0 j.f1 j.f2 j.f3 j.f4 id wt = some (shapeJ ek ed j id wt) := by
  unfold job_shaped.f shapeJ
  rw [day_eq, Option.bind_some]
  cases dayB ed
  · rfl
  rw [if_pos rfl, Bool.true_and]
  by_cases h1 : ek = 1
  · rw [if_pos h1, if_pos h1, validJ_eq, Option.bind_some]
    cases validJ j
    · rfl
    rw [if_pos rfl, Bool.true_and]
    by_cases hi : id.toList = ([] : List UInt8)
    · rw [if_pos hi, decide_eq_true hi]; rfl
    · rw [if_neg hi, decide_eq_false hi]; rfl
  rw [if_neg h1, if_neg h1]
  by_cases h2 : ek = 2
  · rw [if_pos h2, if_pos (Or.inl h2), h2]
    show (if (zeroJob j) = true then some (wt == 0) else some false) = _
    cases zeroJob j <;> rfl
  rw [if_neg h2]
  by_cases h4 : ek = 4
  · rw [if_pos h4, if_pos (Or.inr (Or.inl h4)), h4]
    show (if (zeroJob j) = true then some (wt == 0) else some false) = _
    cases zeroJob j <;> rfl
  rw [if_neg h4]
  by_cases h5 : ek = 5
  · rw [if_pos (Or.inr (Or.inr h5)), h5]
    show (if (zeroJob j) = true then some (wt == 0) else some false) = _
    cases zeroJob j <;> rfl
  rw [if_neg (by rintro (h | h | h) <;> contradiction)]
  simp only [job_shaped.j0]
  rw [if_neg (by simpa using h5)]
  by_cases h3 : ek = 3
  · rw [if_pos h3, if_pos h3]; rfl
  · rw [if_neg h3, if_neg h3]
def hasJ (l : List S99) (s : ByteArray) : Bool := decide (posI l s < l.length) && cmpB (rd_T99 l (posI l s)).f0.f0 s == 0
def newItem (j : S81) (ed : Int) : S99 := ⟨⟨j.f0, j.f1, j.f2, j.f3, j.f4⟩, 1, ed, 0, 0, z24⟩
/-- What stands after an event: the items, the parcel, earned, late, the error. -/
abbrev Out := List S99 × List S24 × Int × Int × Int
def badO (er : Int) : Out := ([], [], 0, 0, er)
def startO (e t : Int) (l : List S99) (mm : List S24) (k : Nat) (x : S99) : Out :=
  if (doR mm 2 ⟨#[]⟩ ⟨#[]⟩ 0 0 x.f0.f1 ⟨#[]⟩ 0 0).2 = 0 then (l.set k ⟨x.f0, 2, x.f2, (fnd mm x.f0.f1).f2, x.f4, fnd mm x.f0.f1⟩, (doR mm 2 ⟨#[]⟩ ⟨#[]⟩ 0 0 x.f0.f1 ⟨#[]⟩ 0 0).1, e, t, 0)
  else badO (doR mm 2 ⟨#[]⟩ ⟨#[]⟩ 0 0 x.f0.f1 ⟨#[]⟩ 0 0).2
def finishO (e t : Int) (l : List S99) (mm : List S24) (k : Nat) (x : S99) (wt : Int) : Out :=
  if wt < 1 then badO 2 else if x.f3 < wt then badO 2 else (l.set k ⟨x.f0, 3, x.f2, x.f3, wt, z24⟩, mm, e, t, 0)
def deliverO (e t : Int) (l : List S99) (mm : List S24) (k : Nat) (x : S99) (ed : Int) : Out :=
  (l.set k ⟨x.f0, 4, x.f2, x.f3, x.f4, x.f5⟩, mm, wrap64 (e + x.f0.f4), wrap64 (t + max 0 (wrap64 (ed - x.f0.f3))), 0)
def cancelO (e t : Int) (l : List S99) (mm : List S24) (k : Nat) (x : S99) : Out :=
  if x.f1 = 2 then
    (if (doR mm 1 x.f5.f0 x.f5.f1 x.f5.f2 x.f5.f3 ⟨#[]⟩ ⟨#[]⟩ 0 0).2 = 0 then (l.set k ⟨x.f0, 5, x.f2, 0, x.f4, z24⟩, (doR mm 1 x.f5.f0 x.f5.f1 x.f5.f2 x.f5.f3 ⟨#[]⟩ ⟨#[]⟩ 0 0).1, e, t, 0)
     else badO (doR mm 1 x.f5.f0 x.f5.f1 x.f5.f2 x.f5.f3 ⟨#[]⟩ ⟨#[]⟩ 0 0).2)
  else (l.set k ⟨x.f0, 5, x.f2, 0, x.f4, z24⟩, mm, e, t, 0)
def changeO (e t : Int) (l : List S99) (mm : List S24) (k : Nat) (x : S99) (ek ed wt : Int) : Out :=
  if ek = 2 then (if x.f1 = 1 then startO e t l mm k x else badO 9)
  else if ek = 3 then (if x.f1 = 2 then finishO e t l mm k x wt else badO 9)
  else if ek = 4 then (if x.f1 = 3 then deliverO e t l mm k x ed else badO 9)
  else (if x.f1 = 1 ∨ x.f1 = 2 then cancelO e t l mm k x else badO 9)
def sinceI (x : S99) (n : Int) : S99 := ⟨x.f0, x.f1, n, x.f3, x.f4, x.f5⟩
def zeroS (er : Int) : Int × List S99 × List S24 × Int × Int × Int := (0, [], [], 0, 0, er)
/-- The shop after an event. -/
def doJ (d : Int) (l : List S99) (mm : List S24) (e t : Int) (ek ed : Int) (j : S81) (id : ByteArray) (wt : Int) : Int × List S99 × List S24 × Int × Int × Int :=
  if rightS d l mm e t = true then
    if shapeJ ek ed j id wt = true then
      if ed < d then zeroS 8
      else if ek = 1 then
        if hasJ l j.f0 = true then zeroS 6
        else if hasF mm j.f1 = false then zeroS 7
        else if l.any (isTaken j.f1) = true then zeroS 9
        else if 60 ≤ l.length then zeroS 3
        else (ed, l.take (posI l j.f0) ++ newItem j ed :: l.drop (posI l j.f0), mm, e, t, 0)
      else if hasJ l id = true then
        if (changeO e t l mm (posI l id) (rd_T99 l (posI l id)) ek ed wt).2.2.2.2 = 0 then
          (ed, (changeO e t l mm (posI l id) (rd_T99 l (posI l id)) ek ed wt).1.set (posI l id) (sinceI (rd_T99 (changeO e t l mm (posI l id) (rd_T99 l (posI l id)) ek ed wt).1 (posI l id)) ed), (changeO e t l mm (posI l id) (rd_T99 l (posI l id)) ek ed wt).2.1, (changeO e t l mm (posI l id) (rd_T99 l (posI l id)) ek ed wt).2.2.1, (changeO e t l mm (posI l id) (rd_T99 l (posI l id)) ek ed wt).2.2.2.1, 0)
        else zeroS (changeO e t l mm (posI l id) (rd_T99 l (posI l id)) ek ed wt).2.2.2.2
      else zeroS 7
    else zeroS 1
  else zeroS 1
def job_Do.f (a0_0 : Int) (l0_1 : List (S99)) (l0_2 : List (S24)) (a0_3 : Int) (a0_4 : Int) (a1_0 : Int) (a1_1 : Int) (a1_2 : ByteArray) (a1_3 : ByteArray) (a1_4 : ByteArray) (a1_5 : Int) (a1_6 : Int) (a1_7 : ByteArray) (a1_8 : Int) : Option (Int × (List (S99)) × (List (S24)) × Int × Int × Int) :=
  if l0_2.length ≤ 1000 then some (doJ a0_0 l0_1 l0_2 a0_3 a0_4 a1_0 a1_1 ⟨a1_2, a1_3, a1_4, a1_5, a1_6⟩ a1_7 a1_8) else none
/-- The items of a right shop rise by their identifiers. -/
theorem itemsGo_sorted (t : Int) : ∀ (l bef : List S99) (p : Option S99), itemsGo t bef p l = true → SortedI l ∧ (∀ x ∈ l, rightJ x t = true) ∧ ∀ q, p = some q → ∀ x ∈ l, less q.f0.f0 x.f0.f0
  | [], _, _, _ => ⟨List.Pairwise.nil, by simp, by simp⟩
  | x :: r, bef, p, h => by
    unfold itemsGo at h
    simp only [Bool.and_eq_true] at h
    obtain ⟨h1, h2, h3, h4⟩ := h
    obtain ⟨i1, i2, i3⟩ := itemsGo_sorted t r (bef ++ [x]) (some x) h4
    refine ⟨List.Pairwise.cons (i3 x rfl) i1, ?_, ?_⟩
    · intro y hy
      rcases List.mem_cons.1 hy with rfl | hy
      · exact h1
      · exact i2 y hy
    · rintro q rfl y hy
      rcases List.mem_cons.1 hy with rfl | hy
      · exact h2
      · exact lessTrans h2 (i3 x rfl y hy)
theorem rightS_split {d : Int} {l : List S99} {m : List S24} {e t : Int} (h : rightS d l m e t = true) : dayB d = true ∧ l.length ≤ 60 ∧ 0 ≤ e ∧ 0 ≤ t ∧ validB m = true ∧ itemsGo d [] none l = true := by
  unfold rightS at h
  simp only [Bool.and_eq_true, decide_eq_true_eq] at h
  exact h
theorem shapeJ_kind {ek ed : Int} {j : S81} {id : ByteArray} {wt : Int} (h : shapeJ ek ed j id wt = true) : ek = 1 ∨ ek = 2 ∨ ek = 3 ∨ ek = 4 ∨ ek = 5 := by
  unfold shapeJ at h
  simp only [Bool.and_eq_true] at h
  obtain ⟨_, h⟩ := h
  by_cases h1 : ek = 1
  · exact .inl h1
  rw [if_neg h1] at h
  by_cases h2 : ek = 2 ∨ ek = 4 ∨ ek = 5
  · omega
  rw [if_neg h2] at h
  by_cases h3 : ek = 3
  · omega
  rw [if_neg h3] at h
  cases h
end Go.Proofs.Ytndbchcfjajgbaa.XP
