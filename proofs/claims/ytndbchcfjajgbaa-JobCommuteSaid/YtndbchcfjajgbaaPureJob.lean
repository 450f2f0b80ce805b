/- Shops, by keys: what an event that goes well does; a right shop stays one. Plain lists. -/
import Derived.Test.YtndbchcfjajgbaaXB
import Derived.Test.YtndbchcfjajgbaaPureDoJ
import Derived.Test.YtndbchcfjajgbaaPureJobO
namespace Go.Proofs.Ytndbchcfjajgbaa.XP
open Go.Proofs.Ytndbchcfjajgbaa.XB Go.Proofs.Ytndbchcfjajgbaa.XQ
open Go Go.RowKit
set_option linter.unusedVariables false
set_option linter.unusedSimpArgs false
abbrev kI (x : S99) : ByteArray := x.f0.f0
theorem posI_posK (s : ByteArray) : ∀ l : List S99, posI l s = posK kI s l
  | [] => rfl
  | x :: l => by
    unfold posI posK
    rw [posI_posK s l]
    by_cases h : cmpB x.f0.f0 s < 0
    · rw [if_pos h, if_pos (show Op.bytesLess (kI x).toList s.toList = true from (cmpB_lt _ _).1 h)]
    · rw [if_neg h, if_neg (show ¬ Op.bytesLess (kI x).toList s.toList = true from fun hc => h ((cmpB_lt _ _).2 hc))]
theorem rd99 (l : List S99) (i : Nat) (h : i < l.length) : rd_T99 l (i : Int) = l[i] := by
  unfold rd_T99
  simp [List.getD_eq_getElem?_getD, h]
theorem rdI_of_get {l : List S99} {i : Nat} {x : S99} (h : l[i]? = some x) : rd_T99 l (i : Int) = x := by
  obtain ⟨h1, h2⟩ := List.getElem?_eq_some_iff.1 h
  rw [rd99 l i h1, h2]
theorem hasJ_eq {l : List S99} (hs : SortedI l) (s : ByteArray) : hasJ l s = (getK kI l s).isSome := by
  have hs' : Rises kI l := hs
  unfold hasJ
  rw [posI_posK]
  rw [posK_get hs' s]
  by_cases h : posK kI s l < l.length
  · rw [rd99 l _ h, List.getElem?_eq_getElem h, decide_eq_true h, Option.bind_some, Bool.true_and]
    by_cases e : kI l[posK kI s l] = s
    · rw [if_pos e]
      have : cmpB l[posK kI s l].f0.f0 s = 0 := (cmpB_eq _ _).2 e
      rw [this]; rfl
    · rw [if_neg e]
      have : ¬ cmpB l[posK kI s l].f0.f0 s = 0 := fun hc => e ((cmpB_eq _ _).1 hc)
      simp [this]
  · rw [decide_eq_false h, List.getElem?_eq_none (by omega)]; rfl
/-- An item put in. -/
def insJ (l : List S99) (x : S99) : List S99 := l.take (posK kI (kI x) l) ++ x :: l.drop (posK kI (kI x) l)
/-- Two items that are open have two pieces. -/
def NoTwo (x y : S99) : Prop := x.f1 = 1 → y.f1 = 1 → x.f0.f1 ≠ y.f0.f1
theorem taken_iff (s : ByteArray) (x : S99) : isTaken s x = true ↔ x.f1 = 1 ∧ x.f0.f1 = s := by
  unfold isTaken
  rw [Bool.and_eq_true, beq_iff_eq, beq_iff_eq, toList_inj]
theorem itemsGo_iff (t : Int) : ∀ (l bef : List S99) (p : Option S99), itemsGo t bef p l = true ↔ (∀ x ∈ l, rightJ x t = true) ∧ SortedI l ∧ (∀ q, p = some q → ∀ x ∈ l, less q.f0.f0 x.f0.f0) ∧ l.Pairwise NoTwo ∧ ∀ b ∈ bef, ∀ x ∈ l, NoTwo b x
  | [], bef, p => by simp [itemsGo, SortedI]
  | x :: r, bef, p => by
    unfold itemsGo
    simp only [Bool.and_eq_true, itemsGo_iff t r]
    have hT : (!(x.f1 == 1 && bef.any (isTaken x.f0.f1))) = true ↔ ∀ b ∈ bef, NoTwo b x := by
      rw [Bool.not_eq_true', Bool.and_eq_false_iff]
      constructor
      · rintro (h | h) b hb h1 h2
        · exact absurd h2 t_8b
        · have := (List.any_eq_false.1 h) b hb
          intro h3
          exact this ((taken_iff _ _).2 ⟨h1, h3⟩)
      · intro h
        by_cases h2 : x.f1 = 1
        · refine .inr (List.any_eq_false.2 fun b hb hc => ?_)
          obtain ⟨h3, h4⟩ := (taken_iff _ _).1 hc
          exact h b hb h3 h2 h4
        · exact .inl (by simpa using h2)
    have hL : lessI p x = true ↔ ∀ q, p = some q → less q.f0.f0 x.f0.f0 := by
      unfold lessI
      cases p with
      | none => simp
      | some q => exact ⟨fun h q' e => by injection e with e; subst e; exact h, fun h => h q rfl⟩
    rw [hT, hL]
    constructor
    · rintro ⟨h1, h2, h3, h4, h5, h6, h7, h8⟩
      refine ⟨?_, List.Pairwise.cons (h6 x rfl) h5, ?_, List.Pairwise.cons (fun y hy => h8 x (by simp) y hy) h7, ?_⟩
      · intro y hy
        rcases List.mem_cons.1 hy with rfl | hy
        · exact h1
        · exact h4 y hy
      · intro q hq y hy
        rcases List.mem_cons.1 hy with rfl | hy
        · exact h2 q hq
        · exact lessTrans (h2 q hq) (h6 x rfl y hy)
      · intro b hb y hy
        rcases List.mem_cons.1 hy with rfl | hy
        · exact h3 b hb
        · exact h8 b (by simp [hb]) y hy
    · rintro ⟨h1, h2, h3, h4, h5⟩
      obtain ⟨a1, a2⟩ := List.pairwise_cons.1 h2
      obtain ⟨b1, b2⟩ := List.pairwise_cons.1 h4
      refine ⟨h1 x (by simp), fun q hq => h3 q hq x (by simp), fun b hb => h5 b hb x (by simp), fun y hy => h1 y (by simp [hy]), a2, ?_, b2, ?_⟩
      · intro q hq y hy
        injection hq with hq; subst hq
        exact a1 y hy
      · intro b hb y hy
        rcases List.mem_append.1 hb with hb | hb
        · exact h5 b hb y (by simp [hy])
        · simp at hb; subst hb; exact b1 y hy
theorem rightS_iff (d : Int) (l : List S99) (m : List S24) (e t : Int) : rightS d l m e t = true ↔ dayB d = true ∧ l.length ≤ 60 ∧ 0 ≤ e ∧ 0 ≤ t ∧ validB m = true ∧ (∀ x ∈ l, rightJ x d = true) ∧ SortedI l ∧ l.Pairwise NoTwo := by
  unfold rightS
  simp only [Bool.and_eq_true, decide_eq_true_eq, itemsGo_iff]
  constructor
  · rintro ⟨h1, h2, h3, h4, h5, h6, h7, _, h8, _⟩
    exact ⟨h1, h2, h3, h4, h5, h6, h7, h8⟩
  · rintro ⟨h1, h2, h3, h4, h5, h6, h7, h8⟩
    exact ⟨h1, h2, h3, h4, h5, h6, h7, by simp, h8, by simp⟩
/-- What stands in an item's place after an event that goes well (not an acceptance). -/
def StepI (mm : List S24) (e t : Int) (ek ed wt : Int) (x y : S99) (m' : List S24) (e' t' : Int) : Prop :=
  (ek = 2 ∧ x.f1 = 1 ∧ (∃ p, getK S24.f0 mm x.f0.f1 = some p ∧ m' = mm.eraseIdx (posK S24.f0 x.f0.f1 mm) ∧ y = ⟨x.f0, 2, ed, p.f2, x.f4, p⟩) ∧ e' = e ∧ t' = t) ∨
  (ek = 3 ∧ x.f1 = 2 ∧ 1 ≤ wt ∧ wt ≤ x.f3 ∧ y = ⟨x.f0, 3, ed, x.f3, wt, z24⟩ ∧ m' = mm ∧ e' = e ∧ t' = t) ∨
  (ek = 4 ∧ x.f1 = 3 ∧ y = ⟨x.f0, 4, ed, x.f3, x.f4, x.f5⟩ ∧ m' = mm ∧ e' = wrap64 (e + x.f0.f4) ∧ t' = wrap64 (t + max 0 (wrap64 (ed - x.f0.f3)))) ∨
  (ek = 5 ∧ x.f1 = 1 ∧ y = ⟨x.f0, 5, ed, 0, x.f4, z24⟩ ∧ m' = mm ∧ e' = e ∧ t' = t) ∨
  (ek = 5 ∧ x.f1 = 2 ∧ y = ⟨x.f0, 5, ed, 0, x.f4, z24⟩ ∧ getK S24.f0 mm x.f5.f0 = none ∧ mm.length < 100 ∧ m' = insP mm x.f5 ∧ e' = e ∧ t' = t)
/-- .. and in the shop. -/
def StepJ (l : List S99) (mm : List S24) (e t : Int) (ek ed : Int) (j : S81) (id : ByteArray) (wt : Int) (l' : List S99) (m' : List S24) (e' t' : Int) : Prop :=
  (ek = 1 ∧ getK kI l j.f0 = none ∧ (getK S24.f0 mm j.f1).isSome = true ∧ (∀ x ∈ l, x.f1 = 1 → x.f0.f1 ≠ j.f1) ∧ l.length < 60 ∧ l' = insJ l (newItem j ed) ∧ m' = mm ∧ e' = e ∧ t' = t) ∨
  ((ek = 2 ∨ ek = 3 ∨ ek = 4 ∨ ek = 5) ∧ ∃ x y, getK kI l id = some x ∧ StepI mm e t ek ed wt x y m' e' t' ∧ y.f0 = x.f0 ∧ y.f2 = ed ∧ l' = l.set (posK kI id l) y)
theorem hasF_eq (mm : List S24) (s : ByteArray) : hasF mm s = (getK S24.f0 mm s).isSome := by
  cases h : getK S24.f0 mm s with
  | none => rw [((fnd_get mm s).2 h).2]; rfl
  | some p => rw [((fnd_get mm s).1 p h).2]; rfl
theorem set_since (l : List S99) (k : Nat) (hk : k < l.length) (y : S99) (n : Int) : (l.set k y).set k (sinceI (rd_T99 (l.set k y) k) n) = l.set k (sinceI y n) := by
  rw [List.set_set, rd99 _ k (by simpa using hk)]
  simp
theorem doJ_ok {d : Int} {l : List S99} {mm : List S24} {e t : Int} {ek ed : Int} {j : S81} {id : ByteArray} {wt : Int} {d' : Int} {l' : List S99} {m' : List S24} {e' t' : Int} (H : doJ d l mm e t ek ed j id wt = (d', l', m', e', t', 0)) :
    rightS d l mm e t = true ∧ shapeJ ek ed j id wt = true ∧ d ≤ ed ∧ d' = ed ∧ StepJ l mm e t ek ed j id wt l' m' e' t' := by
  unfold doJ zeroS at H
  by_cases hr : rightS d l mm e t = true
  case neg => rw [if_neg hr] at H; simp at H
  case pos =>
  rw [if_pos hr] at H
  by_cases hsh : shapeJ ek ed j id wt = true
  case neg => rw [if_neg hsh] at H; simp at H
  case pos =>
  rw [if_pos hsh] at H
  by_cases hd : ed < d
  · rw [if_pos hd] at H; simp at H
  rw [if_neg hd] at H
  have hS := ((rightS_iff d l mm e t).1 hr).2.2.2.2.2.2.1
  have hv := ((rightS_iff d l mm e t).1 hr).2.2.2.2.1
  refine ⟨hr, hsh, by omega, ?_⟩
  by_cases k1 : ek = 1
  · rw [if_pos k1] at H
    rw [hasJ_eq hS, hasF_eq] at H
    cases h1 : getK kI l j.f0 with
    | some x => rw [h1] at H; simp at H
    | none =>
    rw [h1, if_neg (by simp)] at H
    cases h2 : getK S24.f0 mm j.f1 with
    | none => rw [h2, if_pos (by rfl)] at H; simp at H
    | some p =>
    rw [h2, if_neg (by simp)] at H
    cases h3 : l.any (isTaken j.f1) with
    | true => rw [h3, if_pos rfl] at H; simp at H
    | false =>
    rw [h3, if_neg (by simp)] at H
    by_cases h4 : 60 ≤ l.length
    · rw [if_pos h4] at H; simp at H
    rw [if_neg h4] at H
    rw [posI_posK] at H
    have e1 := (Prod.mk.inj H).1
    have e2 := (Prod.mk.inj (Prod.mk.inj H).2).1
    have e3 := (Prod.mk.inj (Prod.mk.inj (Prod.mk.inj H).2).2).1
    have e4 := (Prod.mk.inj (Prod.mk.inj (Prod.mk.inj (Prod.mk.inj H).2).2).2).1
    have e5 := (Prod.mk.inj (Prod.mk.inj (Prod.mk.inj (Prod.mk.inj (Prod.mk.inj H).2).2).2).2).1
    refine ⟨e1.symm, .inl ⟨k1, h1, by rw [h2]; rfl, fun x hx hx1 hx2 => ?_, by omega, e2.symm, e3.symm, e4.symm, e5.symm⟩⟩
    exact (List.any_eq_false.1 h3) x hx ((taken_iff _ _).2 ⟨hx1, hx2⟩)
  rw [if_neg k1] at H
  rw [hasJ_eq hS] at H
  cases h1 : getK kI l id with
  | none => rw [h1] at H; simp at H
  | some x =>
  rw [h1, if_pos (by rfl), posI_posK] at H
  have hat : l[posK kI id l]? = some x := posK_at (key := kI) hS h1
  have hlt : posK kI id l < l.length := (List.getElem?_eq_some_iff.1 hat).1
  rw [rdI_of_get hat] at H
  have hk4 : ek = 2 ∨ ek = 3 ∨ ek = 4 ∨ ek = 5 := by rcases shapeJ_kind hsh with h | h | h | h | h <;> omega
  -- each way gives the item's new form
  have fin : ∀ (y : S99) (mm2 : List S24) (e2 t2 : Int), y.f0 = x.f0 → ((ed, (l.set (posK kI id l) y).set (posK kI id l) (sinceI (rd_T99 (l.set (posK kI id l) y) (posK kI id l)) ed), mm2, e2, t2, (0 : Int)) : Int × List S99 × List S24 × Int × Int × Int) = (d', l', m', e', t', 0) →
      (StepI mm e t ek ed wt x (sinceI y ed) mm2 e2 t2) → d' = ed ∧ StepJ l mm e t ek ed j id wt l' m' e' t' := by
    intro y mm2 e2 t2 hy0 hE hSt
    rw [set_since l _ hlt] at hE
    have e1 := (Prod.mk.inj hE).1
    have g2 := (Prod.mk.inj (Prod.mk.inj hE).2).1
    have g3 := (Prod.mk.inj (Prod.mk.inj (Prod.mk.inj hE).2).2).1
    have g4 := (Prod.mk.inj (Prod.mk.inj (Prod.mk.inj (Prod.mk.inj hE).2).2).2).1
    have g5 := (Prod.mk.inj (Prod.mk.inj (Prod.mk.inj (Prod.mk.inj (Prod.mk.inj hE).2).2).2).2).1
    subst g3 g4 g5
    exact ⟨e1.symm, .inr ⟨hk4, x, sinceI y ed, h1, hSt, hy0, rfl, g2.symm⟩⟩
  unfold changeO at H
  by_cases k2 : ek = 2
  · rw [if_pos k2] at H
    by_cases hx : x.f1 = 1
    case neg => rw [if_neg hx] at H; simp [badO] at H
    case pos =>
    rw [if_pos hx] at H
    unfold startO at H
    cases hR : doR mm 2 ⟨#[]⟩ ⟨#[]⟩ 0 0 x.f0.f1 ⟨#[]⟩ 0 0 with
    | mk ys er =>
    rw [hR] at H
    by_cases h0 : er = 0
    case neg => rw [if_neg h0] at H; rw [if_neg (show ¬ (badO (ys, er).2).2.2.2.2 = 0 from h0)] at H; exact absurd (Prod.mk.inj (Prod.mk.inj (Prod.mk.inj (Prod.mk.inj (Prod.mk.inj H).2).2).2).2).2 h0
    case pos =>
    subst h0
    rw [if_pos rfl, if_pos rfl] at H
    obtain ⟨_, _, hSt⟩ := do_ok hR
    rcases hSt with ⟨h0, _⟩ | ⟨_, p, hp, hys⟩ | ⟨h0, _⟩ | ⟨h0, _⟩ | ⟨h0, _⟩
    · omega
    · have hf := ((fnd_get mm x.f0.f1).1 p hp).1
      rw [hf] at H
      exact fin _ _ _ _ (by rfl) H (.inl ⟨k2, hx, ⟨p, hp, hys, rfl⟩, rfl, rfl⟩)
    · omega
    · omega
    · omega
  rw [if_neg k2] at H
  by_cases k3 : ek = 3
  · rw [if_pos k3] at H
    by_cases hx : x.f1 = 2
    case neg => rw [if_neg hx] at H; simp [badO] at H
    case pos =>
    rw [if_pos hx] at H
    unfold finishO at H
    by_cases hw : wt < 1
    · rw [if_pos hw] at H; simp [badO] at H
    rw [if_neg hw] at H
    by_cases hw2 : x.f3 < wt
    · rw [if_pos hw2] at H; simp [badO] at H
    rw [if_neg hw2, if_pos rfl] at H
    exact fin _ _ _ _ (by rfl) H (.inr (.inl ⟨k3, hx, by omega, by omega, rfl, rfl, rfl, rfl⟩))
  rw [if_neg k3] at H
  by_cases k4 : ek = 4
  · rw [if_pos k4] at H
    by_cases hx : x.f1 = 3
    case neg => rw [if_neg hx] at H; simp [badO] at H
    case pos =>
    rw [if_pos hx] at H
    unfold deliverO at H
    rw [if_pos rfl] at H
    exact fin _ _ _ _ (by rfl) H (.inr (.inr (.inl ⟨k4, hx, rfl, rfl, rfl, rfl⟩)))
  rw [if_neg k4] at H
  have k5 : ek = 5 := by omega
  by_cases hx : x.f1 = 1 ∨ x.f1 = 2
  case neg => rw [if_neg hx] at H; simp [badO] at H
  case pos =>
  rw [if_pos hx] at H
  unfold cancelO at H
  by_cases hx2 : x.f1 = 2
  · rw [if_pos hx2] at H
    cases hR : doR mm 1 x.f5.f0 x.f5.f1 x.f5.f2 x.f5.f3 ⟨#[]⟩ ⟨#[]⟩ 0 0 with
    | mk ys er =>
    rw [hR] at H
    by_cases h0 : er = 0
    case neg => rw [if_neg h0] at H; rw [if_neg (show ¬ (badO (ys, er).2).2.2.2.2 = 0 from h0)] at H; exact absurd (Prod.mk.inj (Prod.mk.inj (Prod.mk.inj (Prod.mk.inj (Prod.mk.inj H).2).2).2).2).2 h0
    case pos =>
    subst h0
    rw [if_pos rfl, if_pos rfl] at H
    obtain ⟨_, _, hSt⟩ := do_ok hR
    rcases hSt with ⟨_, h5, h6, h7⟩ | ⟨h0, _⟩ | ⟨h0, _⟩ | ⟨h0, _⟩ | ⟨h0, _⟩
    · exact fin _ _ _ _ (by rfl) H (.inr (.inr (.inr (.inr ⟨k5, hx2, rfl, h5, h6, h7, rfl, rfl⟩))))
    · omega
    · omega
    · omega
    · omega
  · rw [if_neg hx2, if_pos rfl] at H
    exact fin _ _ _ _ (by rfl) H (.inr (.inr (.inr (.inl ⟨k5, by omega, rfl, rfl, rfl, rfl⟩))))
/-- An event that is refused gives the empty shop. -/
theorem doJ_err {d : Int} {l : List S99} {mm : List S24} {e t : Int} {ek ed : Int} {j : S81} {id : ByteArray} {wt : Int} {d' : Int} {l' : List S99} {m' : List S24} {e' t' er : Int} (H : doJ d l mm e t ek ed j id wt = (d', l', m', e', t', er)) (h0 : er ≠ 0) :
    d' = 0 ∧ l' = [] ∧ m' = [] ∧ e' = 0 ∧ t' = 0 := by
  have key : ∀ z : Int, zeroS z = (d', l', m', e', t', er) → d' = 0 ∧ l' = [] ∧ m' = [] ∧ e' = 0 ∧ t' = 0 := fun z hz => by
    unfold zeroS at hz
    simp only [Prod.mk.injEq] at hz
    exact ⟨hz.1.symm, hz.2.1.symm, hz.2.2.1.symm, hz.2.2.2.1.symm, hz.2.2.2.2.1.symm⟩
  have bad : ∀ (a : Int) (b : List S99) (c : List S24) (f g : Int), (a, b, c, f, g, (0 : Int)) = (d', l', m', e', t', er) → d' = 0 ∧ l' = [] ∧ m' = [] ∧ e' = 0 ∧ t' = 0 := fun a b c f g hz => by
    simp only [Prod.mk.injEq] at hz
    exact absurd hz.2.2.2.2.2.symm h0
  unfold doJ at H
  repeat' (first | exact key _ H | exact bad _ _ _ _ _ H | split at H)
end Go.Proofs.Ytndbchcfjajgbaa.XP
