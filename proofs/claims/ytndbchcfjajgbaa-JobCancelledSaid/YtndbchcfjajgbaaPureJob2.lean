/- Shops, by keys: weights, what was earned, and that a right shop stays one. Plain lists. -/
import Derived.Test.YtndbchcfjajgbaaPureJob
namespace Go.Proofs.Ytndbchcfjajgbaa.XP
open Go Go.RowKit
set_option linter.unusedVariables false
set_option linter.unusedSimpArgs false
theorem rightJ_split {x : S99} {t : Int} (h : rightJ x t = true) : validJ x.f0 = true ∧ 0 ≤ x.f2 ∧ x.f2 ≤ t ∧ statJ x = true := by
  unfold rightJ at h
  simpa only [Bool.and_eq_true, decide_eq_true_eq] using h
theorem rightJ_mk {x : S99} {t : Int} (h1 : validJ x.f0 = true) (h2 : 0 ≤ x.f2) (h3 : x.f2 ≤ t) (h4 : statJ x = true) : rightJ x t = true := by
  unfold rightJ
  simp only [Bool.and_eq_true, decide_eq_true_eq]
  exact ⟨h1, h2, h3, h4⟩
theorem stat_open {x : S99} (h : statJ x = true) (hx : x.f1 = 1 ∨ x.f1 = 5) : x.f3 = 0 ∧ x.f4 = 0 ∧ zeroP x.f5 = true := by
  unfold statJ at h
  rw [if_pos hx] at h
  simpa only [Bool.and_eq_true, decide_eq_true_eq] using h
theorem stat_started {x : S99} (h : statJ x = true) (hx : x.f1 = 2) : 1 ≤ x.f3 ∧ x.f4 = 0 ∧ rightB x.f5 = true ∧ x.f5.f0 = x.f0.f1 ∧ x.f5.f2 = x.f3 := by
  unfold statJ at h
  rw [if_neg (by omega), if_pos hx] at h
  simp only [Bool.and_eq_true, decide_eq_true_eq] at h
  obtain ⟨h1, h2, h3, h4, h5⟩ := h
  exact ⟨h1, h2, ((validB_iff _).1 h3).1 _ (by simp), h4, h5⟩
theorem stat_done {x : S99} (h : statJ x = true) (hx : x.f1 = 3 ∨ x.f1 = 4) : 1 ≤ x.f4 ∧ x.f4 ≤ x.f3 ∧ zeroP x.f5 = true := by
  unfold statJ at h
  rw [if_neg (by omega), if_neg (by omega), if_pos hx] at h
  simpa only [Bool.and_eq_true, decide_eq_true_eq] using h
theorem zeroP_z : zeroP z24 = true := by
  unfold zeroP z24
  have e : (⟨#[]⟩ : ByteArray).toList = [] := by rw [ByteArray.toList_eq]
  simp [e]
theorem mk_open {x : S99} (hx : x.f1 = 1 ∨ x.f1 = 5) (h3 : x.f3 = 0) (h4 : x.f4 = 0) (h5 : zeroP x.f5 = true) : statJ x = true := by
  unfold statJ
  rw [if_pos hx]
  simp only [Bool.and_eq_true, decide_eq_true_eq]
  exact ⟨h3, h4, h5⟩
theorem mk_started {x : S99} (hx : x.f1 = 2) (h3 : 1 ≤ x.f3) (h4 : x.f4 = 0) (h5 : rightB x.f5 = true) (h6 : x.f5.f0 = x.f0.f1) (h7 : x.f5.f2 = x.f3) : statJ x = true := by
  unfold statJ
  rw [if_neg (by omega), if_pos hx]
  simp only [Bool.and_eq_true, decide_eq_true_eq]
  exact ⟨h3, h4, (validB_iff _).2 ⟨by simpa using h5, List.pairwise_singleton _ _, by simp⟩, h6, h7⟩
theorem mk_done {x : S99} (hx : x.f1 = 3 ∨ x.f1 = 4) (h3 : 1 ≤ x.f4) (h4 : x.f4 ≤ x.f3) (h5 : zeroP x.f5 = true) : statJ x = true := by
  unfold statJ
  rw [if_neg (by omega), if_neg (by omega), if_pos hx]
  simp only [Bool.and_eq_true, decide_eq_true_eq]
  exact ⟨h3, h4, h5⟩
theorem dayB_iff (n : Int) : dayB n = true ↔ 0 ≤ n ∧ n ≤ 100000 := by
  unfold dayB
  simp only [Bool.and_eq_true, decide_eq_true_eq]
theorem shapeJ_day {ek ed : Int} {j : S81} {id : ByteArray} {wt : Int} (h : shapeJ ek ed j id wt = true) : 0 ≤ ed ∧ ed ≤ 100000 := by
  unfold shapeJ at h
  rw [Bool.and_eq_true] at h
  exact (dayB_iff _).1 h.1
theorem shapeJ_job {ed : Int} {j : S81} {id : ByteArray} {wt : Int} (h : shapeJ 1 ed j id wt = true) : validJ j = true ∧ id = ⟨#[]⟩ ∧ wt = 0 := by
  unfold shapeJ at h
  rw [if_pos rfl] at h
  simp only [Bool.and_eq_true, decide_eq_true_eq, beq_iff_eq] at h
  refine ⟨h.2.1, toList_inj.1 (h.2.2.1.trans ?_), h.2.2.2⟩
  rw [ByteArray.toList_eq]
section
variable {d : Int} {l : List S99} {mm : List S24} {e t : Int} {ek ed : Int} {j : S81} {id : ByteArray} {wt : Int} {l' : List S99} {m' : List S24} {e' t' : Int}
theorem step_len (hr : rightS d l mm e t = true) (H : StepJ l mm e t ek ed j id wt l' m' e' t') : l'.length ≤ 61 ∧ m'.length ≤ 101 := by
  obtain ⟨_, h60, _, _, hv, hI, hS, _⟩ := (rightS_iff d l mm e t).1 hr
  have h100 := ((validB_iff mm).1 hv).2.2
  rcases H with ⟨_, _, _, _, _, rfl, rfl, _, _⟩ | ⟨_, x, y, hx, hSt, _, _, rfl⟩
  · refine ⟨?_, by omega⟩
    unfold insJ
    simp only [List.length_append, List.length_take, List.length_cons, List.length_drop]; omega
  · rw [List.length_set]
    refine ⟨by omega, ?_⟩
    rcases hSt with ⟨_, h1, ⟨p, hp, rfl, rfl⟩, rfl, rfl⟩ | ⟨_, h1, _, _, rfl, rfl, rfl, rfl⟩ | ⟨_, h1, rfl, rfl, rfl, rfl⟩ | ⟨_, h1, rfl, rfl, rfl, rfl⟩ | ⟨_, h1, rfl, h2, h3, rfl, rfl, rfl⟩
    · rw [List.length_eraseIdx]; split <;> omega
    · omega
    · omega
    · omega
    · unfold insP
      simp only [List.length_append, List.length_take, List.length_cons, List.length_drop]; omega
theorem pw_insert {α : Type} {R : α → α → Prop} {A B : List α} {y : α} (h : (A ++ B).Pairwise R) (h1 : ∀ z ∈ A ++ B, R z y ∧ R y z) : (A ++ y :: B).Pairwise R := by
  rw [List.pairwise_append] at h ⊢
  obtain ⟨a, b, c⟩ := h
  refine ⟨a, List.Pairwise.cons (fun z hz => (h1 z (by simp [hz])).2) b, fun z hz w hw => ?_⟩
  rcases List.mem_cons.1 hw with rfl | hw
  · exact (h1 z (by simp [hz])).1
  · exact c z hz w hw
theorem mem_insJ {l : List S99} {p x : S99} (h : x ∈ insJ l p) : x ∈ l ∨ x = p := by
  unfold insJ at h
  rcases List.mem_append.1 h with h | h
  · exact .inl (List.mem_of_mem_take h)
  · rcases List.mem_cons.1 h with h | h
    · exact .inr h
    · exact .inl (List.mem_of_mem_drop h)
theorem len_insJ (l : List S99) (p : S99) : (insJ l p).length = l.length + 1 := by
  unfold insJ
  have := posK_le (key := kI) (kI p) l
  simp only [List.length_append, List.length_take, List.length_cons, List.length_drop]; omega
theorem insJ_rises {l : List S99} (hs : SortedI l) (p : S99) (h : getK kI l (kI p) = none) : SortedI (insJ l p) ∧ ∀ s, getK kI (insJ l p) s = if kI p = s then some p else getK kI l s := rises_put (key := kI) hs p h
theorem setJ_rises {l : List S99} (hs : SortedI l) {s0 : ByteArray} {x : S99} (h : getK kI l s0 = some x) (q : S99) (hq : q.f0 = x.f0) : SortedI (l.set (posK kI s0 l) q) ∧ ∀ s, getK kI (l.set (posK kI s0 l) q) s = if s0 = s then some q else getK kI l s :=
  rises_set (key := kI) hs h q (by show q.f0.f0 = s0; rw [hq]; exact (getK_some h).2)
/-- A right shop stays one, if the sums stay numbers. -/
theorem step_right (hr : rightS d l mm e t = true) (hsh : shapeJ ek ed j id wt = true) (hd : d ≤ ed) (H : StepJ l mm e t ek ed j id wt l' m' e' t') (he : 0 ≤ e') (ht : 0 ≤ t') : rightS ed l' m' e' t' = true := by
  obtain ⟨_, h60, _, _, hv, hI, hS, hT⟩ := (rightS_iff d l mm e t).1 hr
  obtain ⟨hrm, hSm, h100⟩ := (validB_iff mm).1 hv
  have hday := shapeJ_day hsh
  have hmono : ∀ x ∈ l, rightJ x ed = true := fun x hx => by
    obtain ⟨a, b, c, dd⟩ := rightJ_split (hI x hx)
    exact rightJ_mk a b (by omega) dd
  refine (rightS_iff ed l' m' e' t').2 ⟨(dayB_iff _).2 hday, ?_⟩
  rcases H with ⟨rfl, h1, h2, h3, h4, rfl, rfl, _, _⟩ | ⟨hk, x, y, hx, hSt, hy0, hy2, rfl⟩
  · obtain ⟨hj, _, _⟩ := shapeJ_job hsh
    refine ⟨by rw [len_insJ]; omega, he, ht, hv, fun x hx => ?_, (insJ_rises hS (newItem j ed) h1).1, ?_⟩
    · rcases mem_insJ hx with hx | rfl
      · exact hmono x hx
      · exact rightJ_mk hj hday.1 (Int.le_refl _) (mk_open (.inl rfl) rfl rfl zeroP_z)
    · refine pw_insert (by rw [List.take_append_drop]; exact hT) (fun z hz => ?_)
      rw [List.take_append_drop] at hz
      exact ⟨fun a b => h3 z hz a, fun a b c => h3 z hz b c.symm⟩
  · have hat := posK_at (key := kI) hS hx
    have hlt := (List.getElem?_eq_some_iff.1 hat).1
    have hxm := (getK_some hx).1
    obtain ⟨hj, hx2, hx3, hst⟩ := rightJ_split (hI x hxm)
    have hy : statJ y = true ∧ y.f1 ≠ 1 ∧ validB m' = true := by
      rcases hSt with ⟨_, h1, ⟨p, hp, rfl, rfl⟩, _, _⟩ | ⟨_, h1, hw1, hw2, rfl, rfl, _, _⟩ | ⟨_, h1, rfl, rfl, _, _⟩ | ⟨_, h1, rfl, rfl, _, _⟩ | ⟨_, h1, rfl, h2, h3, rfl, _, _⟩
      · have hp' := hrm p (getK_some hp).1
        obtain ⟨_, _, b1, b2, _⟩ := rightB_bounds hp'
        refine ⟨mk_started rfl b1 (stat_open hst (.inl h1)).2.1 hp' (getK_some hp).2 rfl, (by simp), (validB_iff _).2 ⟨fun z hz => hrm z (List.mem_of_mem_eraseIdx hz), (rises_erase (key := S24.f0) hSm hp).1, by rw [List.length_eraseIdx]; split <;> omega⟩⟩
      · exact ⟨mk_done (.inl rfl) hw1 hw2 zeroP_z, (by simp), hv⟩
      · obtain ⟨a, b, c⟩ := stat_done hst (.inl h1)
        exact ⟨mk_done (.inr rfl) a b c, (by simp), hv⟩
      · obtain ⟨a, b, c⟩ := stat_open hst (.inl h1)
        exact ⟨mk_open (.inr rfl) rfl b zeroP_z, (by simp), hv⟩
      · obtain ⟨a, b, c, c2, c3⟩ := stat_started hst h1
        refine ⟨mk_open (.inr rfl) rfl b zeroP_z, (by simp), (validB_iff _).2 ⟨fun z hz => ?_, (ins_rises hSm x.f5 h2).1, by rw [len_ins]; omega⟩⟩
        rcases mem_ins hz with hz | rfl
        · exact hrm z hz
        · exact c
    refine ⟨by rw [List.length_set]; exact h60, he, ht, hy.2.2, fun z hz => ?_, (setJ_rises hS hx y hy0).1, ?_⟩
    · rcases List.mem_or_eq_of_mem_set hz with hz | rfl
      · exact hmono z hz
      · exact rightJ_mk (by rw [hy0]; exact hj) (by rw [hy2]; exact hday.1) (by rw [hy2]; exact Int.le_refl _) hy.1
    · have e1 : l = l.take (posK kI id l) ++ x :: l.drop (posK kI id l + 1) := by
        conv => lhs; rw [← List.take_append_drop (posK kI id l) l]
        rw [List.drop_eq_getElem_cons hlt]
        congr 2
        exact (List.getElem?_eq_some_iff.1 hat).2
      rw [List.set_eq_take_append_cons_drop, if_pos hlt]
      refine pw_insert ?_ (fun z hz => ⟨fun a b => absurd b hy.2.1, fun a => absurd a hy.2.1⟩)
      rw [e1] at hT
      exact hT.sublist (List.Sublist.append_left (List.sublist_cons_self _ _) _)
end
end Go.Proofs.Ytndbchcfjajgbaa.XP
