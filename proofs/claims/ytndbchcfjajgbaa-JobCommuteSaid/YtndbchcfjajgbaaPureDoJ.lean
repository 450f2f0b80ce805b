/- Lists that rise by a key; what a step of a book does, told by keys; validity, splitting and joining. Plain lists (PureDo without the weights). -/
import Derived.Test.YtndbchcfjajgbaaXB
import Derived.Test.YtndbchcfjajgbaaHandOrd
import Derived.Test.YtndbchcfjajgbaaHandDoF
import Derived.Test.YtndbchcfjajgbaaPureFnd
namespace Go.Proofs.Ytndbchcfjajgbaa.XP
open Go.Proofs.Ytndbchcfjajgbaa.XB Go.Proofs.Ytndbchcfjajgbaa.XQ
section
open Go
set_option linter.unusedVariables false
set_option linter.unusedSimpArgs false
section
variable {α : Type} (key : α → ByteArray)
def Rises (l : List α) : Prop := l.Pairwise fun x y => less (key x) (key y)
def getK (l : List α) (s : ByteArray) : Option α := l.find? fun x => decide (key x = s)
/-- The place of a key. -/
def posK (s : ByteArray) : List α → Nat
  | [] => 0
  | x :: l => if Op.bytesLess (key x).toList s.toList = true then posK s l + 1 else 0
variable {key}
theorem getK_nil (s : ByteArray) : getK key [] s = none := rfl
theorem getK_cons (x : α) (l : List α) (s : ByteArray) : getK key (x :: l) s = if key x = s then some x else getK key l s := by
  unfold getK
  rw [List.find?_cons]
  by_cases h : key x = s
  · simp [h]
  · simp [h]
theorem getK_none {l : List α} {s : ByteArray} (h : ∀ x ∈ l, key x ≠ s) : getK key l s = none := by
  unfold getK
  rw [List.find?_eq_none]
  intro x hx
  simp [h x hx]
theorem getK_some {l : List α} {s : ByteArray} {x : α} (h : getK key l s = some x) : x ∈ l ∧ key x = s := by
  unfold getK at h
  exact ⟨List.mem_of_find?_eq_some h, by have := List.find?_some h; simpa using this⟩
theorem getK_mem {l : List α} (hs : Rises key l) {x : α} (hx : x ∈ l) : getK key l (key x) = some x := by
  induction l with
  | nil => simp at hx
  | cons y l ih =>
    obtain ⟨h1, h2⟩ := List.pairwise_cons.1 hs
    rw [getK_cons]
    rcases List.mem_cons.1 hx with rfl | hx
    · rw [if_pos rfl]
    · rw [if_neg (fun e => by have := h1 x hx; rw [e] at this; exact lessIrrefl _ this)]
      exact ih h2 hx
/-- Two lists that rise and answer alike are one. -/
theorem rises_ext : ∀ {l m : List α}, Rises key l → Rises key m → (∀ s, getK key l s = getK key m s) → l = m
  | [], [], _, _, _ => rfl
  | [], y :: m, _, hm, h => by have := h (key y); rw [getK_nil, getK_cons, if_pos rfl] at this; cases this
  | x :: l, [], _, _, h => by have := h (key x); rw [getK_nil, getK_cons, if_pos rfl] at this; cases this
  | x :: l, y :: m, hl, hm, h => by
    obtain ⟨l1, l2⟩ := List.pairwise_cons.1 hl
    obtain ⟨m1, m2⟩ := List.pairwise_cons.1 hm
    have hxy : key x = key y := by
      rcases lessTotal (key x) (key y) with hc | hc | hc
      · exfalso
        have h1 := h (key x)
        rw [getK_cons, if_pos rfl, getK_cons, if_neg (fun e => by rw [e] at hc; exact lessIrrefl _ hc)] at h1
        obtain ⟨h2, h3⟩ := getK_some h1.symm
        exact lessIrrefl _ (lessTrans hc (m1 x h2))
      · exact hc
      · exfalso
        have h1 := h (key y)
        rw [getK_cons (x := y), if_pos rfl, getK_cons, if_neg (fun e => by rw [e] at hc; exact lessIrrefl _ hc)] at h1
        obtain ⟨h2, h3⟩ := getK_some h1
        exact lessIrrefl _ (lessTrans hc (l1 y h2))
    have e1 : x = y := by
      have h1 := h (key x)
      rw [getK_cons, if_pos rfl, getK_cons, if_pos hxy.symm] at h1
      exact Option.some.inj h1
    subst e1
    have : l = m := rises_ext l2 m2 (fun s => by
      have h1 := h s
      rw [getK_cons, getK_cons] at h1
      by_cases e : key x = s
      · subst e
        rw [getK_none (fun z hz e => by have := l1 z hz; rw [e] at this; exact lessIrrefl _ this), getK_none (fun z hz e => by have := m1 z hz; rw [e] at this; exact lessIrrefl _ this)]
      · rw [if_neg e, if_neg e] at h1; exact h1)
    rw [this]
/-- The list, parted at a key's place. -/
theorem posK_parts (s : ByteArray) : ∀ {l : List α}, Rises key l → ∃ a b, l = a ++ b ∧ a.length = posK key s l ∧ (∀ x ∈ a, less (key x) s) ∧ ∀ x ∈ b, ¬ less (key x) s
  | [], _ => ⟨[], [], rfl, rfl, by simp, by simp⟩
  | x :: l, hs => by
    obtain ⟨h1, h2⟩ := List.pairwise_cons.1 hs
    unfold posK
    by_cases h : Op.bytesLess (key x).toList s.toList = true
    · rw [if_pos h]
      obtain ⟨a, b, rfl, e2, e3, e4⟩ := posK_parts s h2
      exact ⟨x :: a, b, rfl, by simp [e2], fun y hy => by rcases List.mem_cons.1 hy with rfl | hy; exact h; exact e3 y hy, e4⟩
    · rw [if_neg h]
      refine ⟨[], x :: l, rfl, rfl, by simp, fun y hy => ?_⟩
      rcases List.mem_cons.1 hy with rfl | hy
      · exact h
      · exact fun hc => h (lessTrans (h1 y hy) hc)
theorem getK_append (a b : List α) (s : ByteArray) : getK key (a ++ b) s = (getK key a s).or (getK key b s) := by
  unfold getK; rw [List.find?_append]
/-- What is found stands at its place. -/
theorem posK_get {l : List α} (hs : Rises key l) (s : ByteArray) : getK key l s = (l[posK key s l]?).bind fun x => if key x = s then some x else none := by
  obtain ⟨a, b, e1, e2, e3, e4⟩ := posK_parts s hs
  rw [← e2]
  subst e1
  rw [getK_append, getK_none (fun x hx e => by have := e3 x hx; rw [e] at this; exact lessIrrefl _ this), List.getElem?_append_right (Nat.le_refl _), Nat.sub_self]
  cases b with
  | nil => rfl
  | cons y b =>
    simp only [Option.none_or, List.getElem?_cons_zero, Option.bind_some]
    rw [getK_cons]
    by_cases h : key y = s
    · rw [if_pos h, if_pos h]
    · rw [if_neg h, if_neg h]
      obtain ⟨_, h2, _⟩ := List.pairwise_append.1 hs
      obtain ⟨h3, _⟩ := List.pairwise_cons.1 h2
      refine getK_none (fun x hx e => ?_)
      have h5 := h3 x hx
      rw [e] at h5
      exact e4 y (by simp) h5
theorem posK_at {l : List α} (hs : Rises key l) {s : ByteArray} {x : α} (h : getK key l s = some x) : l[posK key s l]? = some x := by
  rw [posK_get hs s] at h
  cases hx : l[posK key s l]? with
  | none => rw [hx] at h; simp at h
  | some y =>
    rw [hx, Option.bind_some] at h
    by_cases e : key y = s
    · rw [if_pos e] at h; exact h
    · rw [if_neg e] at h; cases h
/-- A new one is put in at its place. -/
theorem rises_put {l : List α} (hs : Rises key l) (p : α) (h : getK key l (key p) = none) : Rises key (l.take (posK key (key p) l) ++ p :: l.drop (posK key (key p) l)) ∧ ∀ s, getK key (l.take (posK key (key p) l) ++ p :: l.drop (posK key (key p) l)) s = if key p = s then some p else getK key l s := by
  obtain ⟨a, b, e1, e2, e3, e4⟩ := posK_parts (key p) hs
  rw [← e2]
  subst e1
  rw [List.take_append_of_le_length (Nat.le_refl _), List.take_length, List.drop_append_of_le_length (Nat.le_refl _), List.drop_length, List.nil_append]
  obtain ⟨h1, h2, h3⟩ := List.pairwise_append.1 hs
  have hb : ∀ x ∈ b, less (key p) (key x) := fun x hx => by
    rcases lessTotal (key p) (key x) with hc | hc | hc
    · exact hc
    · exfalso
      have := getK_mem hs (show x ∈ a ++ b by simp [hx])
      rw [← hc, h] at this; cases this
    · exact absurd hc (e4 x hx)
  refine ⟨List.pairwise_append.2 ⟨h1, List.pairwise_cons.2 ⟨hb, h2⟩, fun x hx y hy => ?_⟩, fun s => ?_⟩
  · rcases List.mem_cons.1 hy with rfl | hy
    · exact e3 x hx
    · exact h3 x hx y hy
  · rw [getK_append, getK_append, getK_cons]
    by_cases e : key p = s
    · subst e
      rw [getK_none (fun x hx e => by have := e3 x hx; rw [e] at this; exact lessIrrefl _ this)]; simp
    · rw [if_neg e, if_neg e]
/-- One is put in the place of one of the same key. -/
theorem rises_set {l : List α} (hs : Rises key l) {s0 : ByteArray} {x : α} (h : getK key l s0 = some x) (q : α) (hq : key q = s0) : Rises key (l.set (posK key s0 l) q) ∧ ∀ s, getK key (l.set (posK key s0 l) q) s = if s0 = s then some q else getK key l s := by
  have hx := posK_at hs h
  obtain ⟨a, b, e1, e2, e3, e4⟩ := posK_parts s0 hs
  rw [← e2] at hx ⊢
  subst e1
  rw [List.getElem?_append_right (Nat.le_refl _), Nat.sub_self] at hx
  cases b with
  | nil => simp at hx
  | cons y b =>
    simp only [List.getElem?_cons_zero, Option.some.injEq] at hx
    subst hx
    have hk : key y = s0 := (getK_some h).2
    rw [List.set_append_right _ _ (Nat.le_refl _), Nat.sub_self, List.set_cons_zero]
    obtain ⟨h1, h2, h3⟩ := List.pairwise_append.1 hs
    obtain ⟨h4, h5⟩ := List.pairwise_cons.1 h2
    refine ⟨List.pairwise_append.2 ⟨h1, List.pairwise_cons.2 ⟨fun z hz => by rw [hq, ← hk]; exact h4 z hz, h5⟩, fun u hu z hz => ?_⟩, fun s => ?_⟩
    · rcases List.mem_cons.1 hz with rfl | hz
      · rw [hq]; exact e3 u hu
      · exact h3 u hu z (by simp [hz])
    · rw [getK_append, getK_append, getK_cons, getK_cons, hq, hk]
      by_cases e : s0 = s
      · subst e
        rw [getK_none (fun z hz e => by have := e3 z hz; rw [e] at this; exact lessIrrefl _ this)]; simp
      · rw [if_neg e, if_neg e, if_neg e]
/-- One is taken away. -/
theorem rises_erase {l : List α} (hs : Rises key l) {s0 : ByteArray} {x : α} (h : getK key l s0 = some x) : Rises key (l.eraseIdx (posK key s0 l)) ∧ ∀ s, getK key (l.eraseIdx (posK key s0 l)) s = if s0 = s then none else getK key l s := by
  have hx := posK_at hs h
  obtain ⟨a, b, e1, e2, e3, e4⟩ := posK_parts s0 hs
  rw [← e2] at hx ⊢
  subst e1
  rw [List.getElem?_append_right (Nat.le_refl _), Nat.sub_self] at hx
  cases b with
  | nil => simp at hx
  | cons y b =>
    simp only [List.getElem?_cons_zero, Option.some.injEq] at hx
    subst hx
    have hk : key y = s0 := (getK_some h).2
    rw [List.eraseIdx_append_of_length_le (Nat.le_refl _), Nat.sub_self, List.eraseIdx_cons_zero]
    obtain ⟨h1, h2, h3⟩ := List.pairwise_append.1 hs
    obtain ⟨h4, h5⟩ := List.pairwise_cons.1 h2
    refine ⟨List.pairwise_append.2 ⟨h1, h5, fun u hu z hz => h3 u hu z (by simp [hz])⟩, fun s => ?_⟩
    rw [getK_append, getK_append, getK_cons, hk]
    by_cases e : s0 = s
    · subst e
      rw [if_pos rfl, getK_none (fun z hz e => by have := e3 z hz; rw [e] at this; exact lessIrrefl _ this), getK_none (fun z hz e => by have := h4 z hz; rw [hk, e] at this; exact lessIrrefl _ this)]; rfl
    · rw [if_neg e, if_neg e]
end
end
section
open Go Go.RowKit
set_option linter.unusedVariables false
set_option linter.unusedSimpArgs false
theorem posB_posK (s : ByteArray) : ∀ l : List S24, posB l s = posK S24.f0 s l
  | [] => rfl
  | x :: l => by
    unfold posB posK
    rw [posB_posK s l]
    by_cases h : cmpB x.f0 s < 0
    · rw [if_pos h, if_pos (show Op.bytesLess x.f0.toList s.toList = true from (cmpB_lt _ _).1 h)]
    · rw [if_neg h, if_neg (show ¬ Op.bytesLess x.f0.toList s.toList = true from fun hc => h ((cmpB_lt _ _).2 hc))]
theorem posK_set (s : ByteArray) : ∀ (l : List S24) (k : Nat) (x q : S24), l[k]? = some x → q.f0 = x.f0 → posK S24.f0 s (l.set k q) = posK S24.f0 s l
  | [], _, _, _, h, _ => by simp at h
  | y :: l, 0, x, q, h, hq => by
    simp at h; subst h
    simp only [List.set_cons_zero, posK, S24.f0, hq]
  | y :: l, k + 1, x, q, h, hq => by
    simp only [List.set_cons_succ, posK]
    rw [posK_set s l k x q t_8b hq]
theorem rd_of_get {l : List S24} {i : Nat} {x : S24} (h : l[i]? = some x) : rd_T24 l (i : Int) = x := by
  obtain ⟨h1, h2⟩ := List.getElem?_eq_some_iff.1 h
  rw [rd24 l i h1, h2]
theorem hasB_eq {l : List S24} (hs : Sorted l) (s : ByteArray) : hasB l s = (getK S24.f0 l s).isSome := by
  unfold hasB
  rw [posB_posK]
  rw [posK_get hs s]
  by_cases h : posK S24.f0 s l < l.length
  · rw [rd24 l _ h, List.getElem?_eq_getElem h, decide_eq_true h, Option.bind_some, Bool.true_and]
    by_cases e : S24.f0 l[posK S24.f0 s l] = s
    · rw [if_pos e]
      have : cmpB l[posK S24.f0 s l].f0 s = 0 := (cmpB_eq _ _).2 e
      rw [this]; rfl
    · rw [if_neg e]
      have : ¬ cmpB l[posK S24.f0 s l].f0 s = 0 := fun hc => e ((cmpB_eq _ _).1 hc)
      simp [this]
  · rw [decide_eq_false h, List.getElem?_eq_none (by omega)]; rfl
/-- A piece put in. -/
def insP (l : List S24) (p : S24) : List S24 := l.take (posK S24.f0 p.f0 l) ++ p :: l.drop (posK S24.f0 p.f0 l)
theorem putR_eq {l : List S24} (hs : Sorted l) (p : S24) : putR p l (posB l p.f0) = if (getK S24.f0 l p.f0).isSome = true then ([], 6) else if l.length ≥ 100 then ([], 3) else (insP l p, 0) := by
  unfold putR insP
  rw [show (decide (posB l p.f0 < l.length) && cmpB (rd_T24 l (posB l p.f0)).f0 p.f0 == 0) = hasB l p.f0 from rfl, hasB_eq hs, posB_posK]
/-- What a step that goes well does. -/
def StepP (l : List S24) (a : Int) (b c : ByteArray) (d e : Int) (f g : ByteArray) (h i : Int) (l' : List S24) : Prop :=
  (a = 1 ∧ getK S24.f0 l b = none ∧ l.length < 100 ∧ l' = insP l ⟨b, c, d, e⟩) ∨
  (a = 2 ∧ ∃ p, getK S24.f0 l f = some p ∧ l' = l.eraseIdx (posK S24.f0 f l)) ∨
  (a = 3 ∧ ∃ p, getK S24.f0 l f = some p ∧ getK S24.f0 l g = none ∧ 1 ≤ h ∧ h < p.f2 ∧ 1 ≤ i ∧ i < p.f3 ∧ l.length < 100 ∧ l' = insP (l.set (posK S24.f0 f l) ⟨p.f0, p.f1, p.f2 - h, p.f3 - i⟩) ⟨g, p.f1, h, i⟩) ∨
  (a = 4 ∧ ∃ p q, getK S24.f0 l f = some p ∧ getK S24.f0 l g = some q ∧ f ≠ g ∧ p.f1 = q.f1 ∧ q.f2 + p.f2 ≤ 1000000 ∧ q.f3 + p.f3 ≤ 1000 ∧ l' = (l.set (posK S24.f0 g l) (sumP q p)).eraseIdx (posK S24.f0 f l)) ∨
  (a = 5 ∧ ∃ p, getK S24.f0 l f = some p ∧ 1 ≤ h ∧ h < p.f2 ∧ l' = l.set (posK S24.f0 f l) ⟨p.f0, p.f1, p.f2 - h, p.f3⟩)
theorem get_set {l : List S24} (hs : Sorted l) {s : ByteArray} {p : S24} (hp : getK S24.f0 l s = some p) (q : S24) (hq : q.f0 = p.f0) (t : ByteArray) : getK S24.f0 (l.set (posK S24.f0 s l) q) t = if s = t then some q else getK S24.f0 l t :=
  (rises_set hs hp q (hq.trans (getK_some hp).2)).2 t
theorem sorted_set {l : List S24} (hs : Sorted l) {s : ByteArray} {p : S24} (hp : getK S24.f0 l s = some p) (q : S24) (hq : q.f0 = p.f0) : Sorted (l.set (posK S24.f0 s l) q) :=
  (rises_set hs hp q (hq.trans (getK_some hp).2)).1
theorem splitR_eq {l : List S24} (hs : Sorted l) {f : ByteArray} {p : S24} (hp : getK S24.f0 l f = some p) (g : ByteArray) (h i : Int) : splitR l (posB l f) (posB l g) g h i =
    if (getK S24.f0 l g).isSome = true then ([], 6) else if h < 1 ∨ h ≥ p.f2 ∨ i < 1 ∨ i ≥ p.f3 then ([], 2) else if l.length ≥ 100 then ([], 3) else (insP (l.set (posK S24.f0 f l) ⟨p.f0, p.f1, p.f2 - h, p.f3 - i⟩) ⟨g, p.f1, h, i⟩, 0) := by
  unfold splitR
  have hat := posK_at hs hp
  have hr : rd_T24 l (posB l f) = p := by rw [posB_posK]; exact rd_of_get hat
  rw [show (decide (posB l g < l.length) && cmpB (rd_T24 l (posB l g)).f0 g == 0) = hasB l g from rfl, hasB_eq hs, hr]
  split
  · rfl
  · rename_i hg
    split
    · rfl
    · have hs2 := sorted_set hs hp ⟨p.f0, p.f1, p.f2 - h, p.f3 - i⟩ rfl
      have hpos : posB l g = posB (l.set (posK S24.f0 f l) ⟨p.f0, p.f1, p.f2 - h, p.f3 - i⟩) g := by
        rw [posB_posK, posB_posK, posK_set g l _ p ⟨p.f0, p.f1, p.f2 - h, p.f3 - i⟩ hat rfl]
      have hfg : ¬ f = g := fun e => by rw [← e, hp] at hg; exact hg rfl
      rw [hpos, posB_posK f l]
      have := putR_eq hs2 ⟨g, p.f1, h, i⟩
      rw [this, get_set hs hp ⟨p.f0, p.f1, p.f2 - h, p.f3 - i⟩ rfl, if_neg hfg, if_neg hg, List.length_set]
theorem joinR_eq {l : List S24} (hs : Sorted l) {f : ByteArray} {p : S24} (hp : getK S24.f0 l f = some p) (g : ByteArray) : joinR l (posB l f) (posB l g) g =
    match getK S24.f0 l g with
    | none => ([], 7)
    | some q => if f = g ∨ ¬ p.f1 = q.f1 then ([], 9) else if q.f2 + p.f2 > 1000000 ∨ q.f3 + p.f3 > 1000 then ([], 2) else ((l.set (posK S24.f0 g l) (sumP q p)).eraseIdx (posK S24.f0 f l), 0) := by
  unfold joinR
  have hat := posK_at hs hp
  have hr : rd_T24 l (posB l f) = p := by rw [posB_posK]; exact rd_of_get hat
  rw [show (decide (posB l g < l.length) && cmpB (rd_T24 l (posB l g)).f0 g == 0) = hasB l g from rfl, hasB_eq hs, hr]
  cases hq : getK S24.f0 l g with
  | none => simp
  | some q =>
    have hat2 := posK_at hs hq
    have hr2 : rd_T24 l (posB l g) = q := by rw [posB_posK]; exact rd_of_get hat2
    simp only [Option.isSome_some, if_true]
    rw [hr2]
    have e1 : (posB l g = posB l f ∨ ¬ (q.f1.toList == p.f1.toList) = true) ↔ (f = g ∨ ¬ p.f1 = q.f1) := by
      have a1 : posB l g = posB l f ↔ f = g := by
        rw [posB_posK, posB_posK]
        refine ⟨fun e => ?_, fun e => by rw [e]⟩
        rw [e, hat] at hat2
        injection hat2 with hat2
        have h1 := (getK_some hp).2
        have h2 := (getK_some hq).2
        rw [← h1, ← h2, hat2]
      have a2 : (q.f1.toList == p.f1.toList) = true ↔ p.f1 = q.f1 := by
        rw [beq_iff_eq, toList_inj]; exact ⟨fun e => e.symm, fun e => e.symm⟩
      rw [a1, a2]
    by_cases hc : f = g ∨ ¬ p.f1 = q.f1
    · rw [if_pos (e1.2 hc), if_pos hc]
    · rw [if_neg (fun h => hc (e1.1 h)), if_neg hc, posB_posK, posB_posK]
theorem loseR_eq {l : List S24} (hs : Sorted l) {f : ByteArray} {p : S24} (hp : getK S24.f0 l f = some p) (h : Int) : loseR l (posB l f) h = if h < 1 ∨ h ≥ p.f2 then ([], 2) else (l.set (posK S24.f0 f l) ⟨p.f0, p.f1, p.f2 - h, p.f3⟩, 0) := by
  unfold loseR
  have hr : rd_T24 l (posB l f) = p := by rw [posB_posK]; exact rd_of_get (posK_at hs hp)
  rw [hr, posB_posK]
theorem do_ok {l : List S24} {a : Int} {b c : ByteArray} {d e : Int} {f g : ByteArray} {h i : Int} {l' : List S24} (H : doR l a b c d e f g h i = (l', 0)) :
    validB l = true ∧ shapedB a b c d e f g h i = true ∧ StepP l a b c d e f g h i l' := by
  unfold doR at H
  have hv : validB l = true := by
    cases hc : validB l with
    | true => rfl
    | false => rw [hc, if_neg (by decide)] at H; simp at H
  rw [if_pos hv] at H
  have hs := ((validB_iff l).1 hv).2.1
  have hsh : shapedB a b c d e f g h i = true := by
    cases hc : shapedB a b c d e f g h i with
    | true => rfl
    | false => rw [hc, if_neg (by decide)] at H; simp at H
  rw [if_pos hsh] at H
  refine ⟨hv, hsh, ?_⟩
  by_cases k1 : a = 1
  · rw [if_pos k1, putR_eq hs] at H
    cases hg : getK S24.f0 l b with
    | some x => rw [show getK S24.f0 l (⟨b, c, d, e⟩ : S24).f0 = some x from hg] at H; simp at H
    | none =>
      rw [show getK S24.f0 l (⟨b, c, d, e⟩ : S24).f0 = none from hg, if_neg (by simp)] at H
      split at H
      · simp at H
      · injection H with H1 H2
        exact .inl ⟨k1, hg, by omega, H1.symm⟩
  · rw [if_neg k1, hasB_eq hs] at H
    cases hg : getK S24.f0 l f with
    | none => rw [hg] at H; simp at H
    | some p =>
      rw [hg, if_pos (by rfl)] at H
      by_cases k2 : a = 2
      · rw [if_pos k2] at H
        injection H with H1 H2
        exact .inr (.inl ⟨k2, p, hg, by rw [← posB_posK]; exact H1.symm⟩)
      · rw [if_neg k2] at H
        by_cases k3 : a = 3
        · rw [if_pos k3, splitR_eq hs hg] at H
          cases hg2 : getK S24.f0 l g with
          | some x => rw [hg2] at H; simp at H
          | none =>
            rw [hg2, if_neg (by simp)] at H
            split at H
            · simp at H
            · rename_i hc
              split at H
              · simp at H
              · injection H with H1 H2
                exact .inr (.inr (.inl ⟨k3, p, hg, hg2, by omega, by omega, by omega, by omega, by omega, H1.symm⟩))
        · rw [if_neg k3] at H
          by_cases k4 : a = 4
          · rw [if_pos k4, joinR_eq hs hg] at H
            cases hg2 : getK S24.f0 l g with
            | none => rw [hg2] at H; simp at H
            | some q =>
              rw [hg2] at H
              simp only at H
              split at H
              · simp at H
              · rename_i hc
                split at H
                · simp at H
                · rename_i hc2
                  injection H with H1 H2
                  have c1 : ¬ f = g := fun e => hc (.inl e)
                  have c2 : p.f1 = q.f1 := Classical.byContradiction fun e => hc (.inr e)
                  exact .inr (.inr (.inr (.inl ⟨k4, p, q, hg, hg2, c1, c2, by omega, by omega, H1.symm⟩)))
          · rw [if_neg k4, loseR_eq hs hg] at H
            have k5 : a = 5 := by rcases shaped_kind hsh with h | h | h | h | h <;> omega
            split at H
            · simp at H
            · injection H with H1 H2
              exact .inr (.inr (.inr (.inr ⟨k5, p, hg, by omega, by omega, H1.symm⟩)))
end
section
open Go Go.RowKit
set_option linter.unusedVariables false
set_option linter.unusedSimpArgs false
theorem ins_rises {l : List S24} (hs : Sorted l) (p : S24) (h : getK S24.f0 l p.f0 = none) : Sorted (insP l p) ∧ ∀ s, getK S24.f0 (insP l p) s = if p.f0 = s then some p else getK S24.f0 l s := rises_put hs p h
open Go.Proofs.Ytndbchcfjajgbaa.XH in
theorem fnd_get (l : List S24) (s : ByteArray) : (∀ x, getK S24.f0 l s = some x → fnd l s = x ∧ hasF l s = true) ∧ (getK S24.f0 l s = none → fnd l s = z24 ∧ hasF l s = false) := by
  have key : ∀ (l : List S24) (i : Int), 0 ≤ i → (∀ x, getK S24.f0 l s = some x → ∃ j : Nat, idx (isId s) l i = i + j ∧ l[j]? = some x) ∧ (getK S24.f0 l s = none → idx (isId s) l i = -1) := by
    intro l
    induction l with
    | nil => intro i hi; exact ⟨fun x h => by simp [getK_nil] at h, fun _ => rfl⟩
    | cons y l ih =>
      intro i hi
      have e : isId s y = true ↔ y.f0 = s := by unfold isId; rw [beq_iff_eq, toList_inj]
      rw [getK_cons]
      unfold idx
      by_cases h : y.f0 = s
      · rw [if_pos h, if_pos (e.2 h)]
        exact ⟨fun x hx => ⟨0, by simp, by simpa using hx⟩, fun hx => by cases hx⟩
      · rw [if_neg h, if_neg (fun hc => h (e.1 hc))]
        obtain ⟨h1, h2⟩ := ih (i + 1) (by omega)
        refine ⟨fun x hx => ?_, h2⟩
        obtain ⟨j, q1, q2⟩ := h1 x hx
        exact ⟨j + 1, by rw [q1]; omega, by simpa using q2⟩
  obtain ⟨h1, h2⟩ := key l 0 (by omega)
  unfold fnd hasF
  constructor
  · intro x hx
    obtain ⟨j, q1, q2⟩ := h1 x hx
    rw [q1, Int.zero_add]
    rw [if_pos (by omega), rd_of_get q2]
    exact ⟨rfl, decide_eq_true (by omega)⟩
  · intro hx
    rw [h2 hx]
    exact ⟨rfl, rfl⟩
end
end Go.Proofs.Ytndbchcfjajgbaa.XP
