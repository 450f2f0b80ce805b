/- OptimizeKeep: for up to 20 candidates Keep answers as the reference, and keeps just those whose Hi reaches the greatest Lo. For every input. -/
import Derived.Test.YtncemdpmooakgaaXK6
namespace Go.Proofs.Ytncemdpmooakgaa.Pure
open Go.RowKit Go.Proofs.Ytncemdpmooakgaa.XK Go.Proofs.Ytncemdpmooakgaa.XW Go.Proofs.YtncemdpmooakgaaW.PrintWords Go.Proofs.YtncemdpmooakgaaW.PrintLast
namespace OptimizeKeepP
theorem w1 {i : Int} (h0 : 0 ≤ i) (h : i < 1000) : wrap64 (i + 1) = i + 1 := by unfold wrap64; omega
def vld (lo hi : Int) : Bool := decide (-1073741824 ≤ lo ∧ lo ≤ hi ∧ hi ≤ 1073741824)
theorem iv (a b : Int) : interval_Valid.f a b = some (vld a b) := by
  unfold interval_Valid.f vld
  by_cases h1 : a ≤ b
  · rw [if_pos h1]
    by_cases h2 : a ≥ -1073741824
    · rw [if_pos h2]; congr 1; by_cases h3 : b ≤ 1073741824 <;> simp [h3, h1] <;> omega
    · rw [if_neg h2]; congr 1; simp; omega
  · rw [if_neg h1]; congr 1; simp; omega
theorem rv (a b : Int) : culetref27_Valid.f a b = some (vld a b) := by
  unfold culetref27_Valid.f vld
  by_cases h1 : -1073741824 ≤ a
  · rw [if_pos h1]
    by_cases h2 : a ≤ b
    · rw [if_pos h2]; congr 1; by_cases h3 : b ≤ 1073741824 <;> simp [h3, h1, h2]
    · rw [if_neg h2]; congr 1; simp; omega
  · rw [if_neg h1]; congr 1; simp; omega
def sel (M : Int) : Int → List S38 → List Int
  | _, [] => []
  | i, x :: s => if x.f1.f1 ≥ M then i :: sel M (i + 1) s else sel M (i + 1) s
def best (m : Int) (s : List S38) : Int := s.foldl (fun m x => mx m x.f1.f0) m
def ok (s : List S38) : Bool := s.all fun x => vld x.f1.f0 x.f1.f1
theorem rd_at (l : List S38) (i : Nat) (h : i < l.length) : rd_T38 l (i : Int) = l[i] := by
  unfold rd_T38; simp [List.getD_eq_getElem?_getD, h]
theorem drop_at (l : List S38) (i : Nat) (h : i < l.length) : l.drop i = l[i] :: l.drop (i + 1) := List.drop_eq_getElem_cons h
theorem k1 (M : Int) (l : List S38) (hl : l.length ≤ 20) : ∀ (d i : Nat) (acc : List Int), i + d = l.length → acc.length ≤ 100 + i →
    Ev (fun k => optimize_Keep.l1 k M acc l (l.length : Int) (i : Int)) (acc ++ sel M i (l.drop i), 0)
  | 0, i, acc, h, ha => ⟨1, fun k hk => by
      obtain ⟨k, rfl⟩ : ∃ m, k = m + 1 := ⟨k - 1, by omega⟩
      simp only [optimize_Keep.l1]
      rw [if_neg (by omega), List.drop_of_length_le (by omega)]; simp [sel]⟩
  | d + 1, i, acc, h, ha => by
      have hi : i < l.length := by omega
      rw [drop_at l i hi]
      by_cases c : l[i].f1.f1 ≥ M
      · obtain ⟨K, hK⟩ := k1 M l hl d (i + 1) (acc ++ [(i : Int)]) (by omega) (by simp; omega)
        refine ⟨K + 1, fun k hk => ?_⟩
        obtain ⟨k, rfl⟩ : ∃ m, k = m + 1 := ⟨k - 1, by omega⟩
        simp only [optimize_Keep.l1]
        rw [rd_at l i hi, if_pos (by omega), if_pos (by omega), if_pos (by omega), if_pos c, if_pos (by omega), w1 (by omega) (by omega)]
        have := hK k (by omega)
        simp only [sel, if_pos c]
        simpa using this
      · obtain ⟨K, hK⟩ := k1 M l hl d (i + 1) acc (by omega) (by omega)
        refine ⟨K + 1, fun k hk => ?_⟩
        obtain ⟨k, rfl⟩ : ∃ m, k = m + 1 := ⟨k - 1, by omega⟩
        simp only [optimize_Keep.l1]
        rw [rd_at l i hi, if_pos (by omega), if_pos (by omega), if_pos (by omega), if_neg c, w1 (by omega) (by omega)]
        have := hK k (by omega)
        simp only [sel, if_neg c]
        simpa using this
theorem k0 (l : List S38) (hl : l.length ≤ 20) : ∀ (d i : Nat) (m : Int), i + d = l.length →
    Ev (fun k => optimize_Keep.l0 k l m l (l.length : Int) (i : Int)) (if ok (l.drop i) = true then (sel (best m (l.drop i)) 0 l, 0) else ([], 1))
  | 0, i, m, h => by
      obtain ⟨K, hK⟩ := k1 m l hl l.length 0 [] (by omega) (by simp)
      refine ⟨K + 1, fun k hk => ?_⟩
      obtain ⟨k, rfl⟩ : ∃ m, k = m + 1 := ⟨k - 1, by omega⟩
      simp only [optimize_Keep.l0]
      rw [if_neg (by omega), List.drop_of_length_le (by omega)]
      have := hK k (by omega)
      simpa [ok, best] using this
  | d + 1, i, m, h => by
      have hi : i < l.length := by omega
      rw [drop_at l i hi]
      obtain ⟨K, hK⟩ := k0 l hl d (i + 1) (mx m l[i].f1.f0) (by omega)
      refine ⟨K + 1, fun k hk => ?_⟩
      obtain ⟨k, rfl⟩ : ∃ m, k = m + 1 := ⟨k - 1, by omega⟩
      simp only [optimize_Keep.l0]
      rw [rd_at l i hi, if_pos (by omega), if_pos (by omega), if_pos (by omega), iv, w1 (by omega) (by omega)]
      have := hK k (by omega)
      cases c : vld l[i].f1.f0 l[i].f1.f1
      · simp only [ok, List.all_cons, c, Bool.false_and]; simp
      · simp only [Option.bind_some, if_true, ok, List.all_cons, c, Bool.true_and, best, List.foldl_cons] at this ⊢
        simpa using this
def conv (x : S38) : S122 := ⟨⟨x.f0.f0, x.f0.f1, x.f0.f2, x.f0.f3⟩, ⟨x.f1.f0, x.f1.f1⟩⟩
theorem th (l : List S38) (hl : l.length ≤ 20) : ∀ (d i : Nat), i + d = l.length → Ev (fun k => culetlaw39_theirs.l0 k l ((l.take i).map conv) (i : Int)) (l.map conv)
  | 0, i, h => ⟨1, fun k hk => by
      obtain ⟨k, rfl⟩ : ∃ m, k = m + 1 := ⟨k - 1, by omega⟩
      simp only [culetlaw39_theirs.l0]
      rw [if_neg (by omega), List.take_of_length_le (by omega)]⟩
  | d + 1, i, h => by
      have hi : i < l.length := by omega
      obtain ⟨K, hK⟩ := th l hl d (i + 1) (by omega)
      refine ⟨K + 1, fun k hk => ?_⟩
      obtain ⟨k, rfl⟩ : ∃ m, k = m + 1 := ⟨k - 1, by omega⟩
      simp only [culetlaw39_theirs.l0]
      rw [rd_at l i hi, if_pos (by omega), if_pos (by omega), if_pos (by simp; omega), w1 (by omega) (by omega)]
      have := hK k (by omega)
      rw [List.take_succ_eq_append_getElem hi, List.map_append] at this
      simpa [conv] using this
theorem rd_at2 (l : List S38) (i : Nat) (h : i < l.length) : rd_T122 (l.map conv) (i : Int) = conv l[i] := by
  unfold rd_T122; simp [List.getD_eq_getElem?_getD, h]
theorem r1 (M : Int) (l : List S38) (hl : l.length ≤ 20) : ∀ (d i : Nat) (acc : List Int), i + d = l.length → acc.length ≤ 100 + i →
    Ev (fun k => culetref39_Keep.l1 k (l.map conv) M acc (i : Int)) (acc ++ sel M i (l.drop i), 0)
  | 0, i, acc, h, ha => ⟨1, fun k hk => by
      obtain ⟨k, rfl⟩ : ∃ m, k = m + 1 := ⟨k - 1, by omega⟩
      simp only [culetref39_Keep.l1]
      rw [if_neg (by simp; omega), List.drop_of_length_le (by omega)]; simp [sel]⟩
  | d + 1, i, acc, h, ha => by
      have hi : i < l.length := by omega
      rw [drop_at l i hi]
      by_cases c : l[i].f1.f1 ≥ M
      · obtain ⟨K, hK⟩ := r1 M l hl d (i + 1) (acc ++ [(i : Int)]) (by omega) (by simp; omega)
        refine ⟨K + 1, fun k hk => ?_⟩
        obtain ⟨k, rfl⟩ : ∃ m, k = m + 1 := ⟨k - 1, by omega⟩
        simp only [culetref39_Keep.l1]
        rw [rd_at2 l i hi, if_pos (by simp; omega), if_pos (by omega), if_pos (by exact c), if_pos (by omega), w1 (by omega) (by omega)]
        have := hK k (by omega)
        simp only [sel, if_pos c]
        simpa using this
      · obtain ⟨K, hK⟩ := r1 M l hl d (i + 1) acc (by omega) (by omega)
        refine ⟨K + 1, fun k hk => ?_⟩
        obtain ⟨k, rfl⟩ : ∃ m, k = m + 1 := ⟨k - 1, by omega⟩
        simp only [culetref39_Keep.l1]
        rw [rd_at2 l i hi, if_pos (by simp; omega), if_pos (by omega), if_neg (by exact c), w1 (by omega) (by omega)]
        have := hK k (by omega)
        simp only [sel, if_neg c]
        simpa using this
theorem r0 (l : List S38) (hl : l.length ≤ 20) : ∀ (d i : Nat) (m : Int), i + d = l.length →
    Ev (fun k => culetref39_Keep.l0 k (l.map conv) m (i : Int)) (if ok (l.drop i) = true then (sel (best m (l.drop i)) 0 l, 0) else ([], 1))
  | 0, i, m, h => by
      obtain ⟨K, hK⟩ := r1 m l hl l.length 0 [] (by omega) (by simp)
      refine ⟨K + 1, fun k hk => ?_⟩
      obtain ⟨k, rfl⟩ : ∃ m, k = m + 1 := ⟨k - 1, by omega⟩
      simp only [culetref39_Keep.l0]
      rw [if_neg (by simp; omega), List.drop_of_length_le (by omega)]
      have := hK k (by omega)
      simpa [ok, best] using this
  | d + 1, i, m, h => by
      have hi : i < l.length := by omega
      rw [drop_at l i hi]
      obtain ⟨K, hK⟩ := r0 l hl d (i + 1) (mx m l[i].f1.f0) (by omega)
      refine ⟨K + 1, fun k hk => ?_⟩
      obtain ⟨k, rfl⟩ : ∃ m, k = m + 1 := ⟨k - 1, by omega⟩
      simp only [culetref39_Keep.l0]
      rw [rd_at2 l i hi, if_pos (by simp; omega), if_pos (by omega), rv, w1 (by omega) (by omega)]
      have := hK k (by omega)
      cases c : vld l[i].f1.f0 l[i].f1.f1
      · simp only [conv, c, ok, List.all_cons, Bool.false_and]; simp
      · simp only [conv, Option.bind_some, if_true, ok, List.all_cons, c, Bool.true_and, best, List.foldl_cons] at this ⊢
        simpa using this
theorem same (l : List Int) (hl : l.length ≤ 1000) : ∀ (d i : Nat), i + d = l.length → Ev (fun k => culetref16_SameInts.l0 k l l (i : Int)) true
  | 0, i, h => ⟨1, fun k hk => by
      obtain ⟨k, rfl⟩ : ∃ m, k = m + 1 := ⟨k - 1, by omega⟩
      simp only [culetref16_SameInts.l0]
      rw [if_neg (by omega)]⟩
  | d + 1, i, h => by
      obtain ⟨K, hK⟩ := same l hl d (i + 1) (by omega)
      refine ⟨K + 1, fun k hk => ?_⟩
      obtain ⟨k, rfl⟩ : ∃ m, k = m + 1 := ⟨k - 1, by omega⟩
      simp only [culetref16_SameInts.l0]
      rw [if_pos (by omega), if_pos (by omega), if_pos (by omega), if_pos trivial, w1 (by omega) (by omega)]
      exact hK k (by omega)
theorem sel_len (M : Int) : ∀ (s : List S38) (i : Int), (sel M i s).length ≤ s.length
  | [], _ => by simp [sel]
  | x :: s, i => by
    have := sel_len M s (i + 1)
    simp only [sel]
    split <;> simp <;> omega
theorem sel_mem (M : Int) : ∀ (s : List S38) (i j : Int), j ∈ sel M i s ↔ ∃ n : Nat, ∃ h : n < s.length, j = i + n ∧ s[n].f1.f1 ≥ M
  | [], i, j => by simp [sel]
  | x :: s, i, j => by
    have ih := sel_mem M s (i + 1) j
    have key : (∃ n : Nat, ∃ h : n < (x :: s).length, j = i + n ∧ (x :: s)[n].f1.f1 ≥ M) ↔ (j = i ∧ x.f1.f1 ≥ M) ∨ ∃ n : Nat, ∃ h : n < s.length, j = i + 1 + n ∧ s[n].f1.f1 ≥ M := by
      constructor
      · rintro ⟨n, h, e, g⟩
        cases n with
        | zero => exact .inl ⟨by omega, g⟩
        | succ n => exact .inr ⟨n, by simpa using h, by omega, by simpa using g⟩
      · rintro (⟨e, g⟩ | ⟨n, h, e, g⟩)
        · exact ⟨0, by simp, by omega, g⟩
        · exact ⟨n + 1, by simpa using h, by omega, by simpa using g⟩
    rw [key, ← ih]
    simp only [sel]
    split
    · rename_i c; simp [c]
    · rename_i c; simp [c]
theorem mx_ (a b : Int) : mx a b = max a b := by unfold mx; omega
theorem best_ge : ∀ (s : List S38) (m : Int), m ≤ best m s ∧ ∀ x ∈ s, x.f1.f0 ≤ best m s
  | [], m => by simp [best]
  | x :: s, m => by
    obtain ⟨h1, h2⟩ := best_ge s (mx m x.f1.f0)
    rw [mx_] at h1 h2
    have e : best m (x :: s) = best (max m x.f1.f0) s := by rw [← mx_]; rfl
    rw [e]
    refine ⟨by omega, fun y hy => ?_⟩
    rcases List.mem_cons.1 hy with rfl | hy
    · omega
    · exact h2 y hy
theorem best_le : ∀ (s : List S38) (m b : Int), m ≤ b → (∀ x ∈ s, x.f1.f0 ≤ b) → best m s ≤ b
  | [], m, b, h, _ => h
  | x :: s, m, b, h, g => by
    have e : best m (x :: s) = best (max m x.f1.f0) s := by rw [← mx_]; rfl
    rw [e]
    exact best_le s _ b (by have := g x (by simp); omega) (fun y hy => g y (by simp [hy]))
/-- The law's innermost loop: is i among those that are kept. -/
theorem q2 (l : List S38) (hl : l.length ≤ 20) (a : List Int) (ha : a.length ≤ 20) (b i : Nat) (hb : b < l.length) (hi : i < l.length) (M : Bool) (hM : M = decide (l[i].f1.f1 ≥ l[b].f1.f0))
    (hnext : Ev (fun k => culetlaw39_OptimizeKeep.l1 k l a (b : Int) ((i : Int) + 1)) true) : ∀ (d j : Nat) (c : Bool), j + d = a.length → (c || (a.drop j).contains (i : Int)) = M →
    Ev (fun k => culetlaw39_OptimizeKeep.l2 k l a (b : Int) (i : Int) c (j : Int)) true
  | 0, j, c, h, hc => by
      obtain ⟨K, hK⟩ := hnext
      refine ⟨K + 1, fun k hk => ?_⟩
      obtain ⟨k, rfl⟩ : ∃ m, k = m + 1 := ⟨k - 1, by omega⟩
      simp only [culetlaw39_OptimizeKeep.l2]
      rw [List.drop_of_length_le (by omega)] at hc
      rw [if_neg (by omega), if_pos (by omega), if_pos (by omega), if_pos (by omega), if_pos (by omega), rd_at l i hi, rd_at l b hb, ← hM, w1 (by omega) (by omega), if_neg (by simp at hc; simp [hc])]
      exact hK k (by omega)
  | d + 1, j, c, h, hc => by
      have hj : j < a.length := by omega
      have er : rd a (j : Int) = a[j] := by unfold rd; simp [List.getD_eq_getElem?_getD, hj]
      rw [List.drop_eq_getElem_cons hj] at hc
      cases c
      · obtain ⟨K, hK⟩ := q2 l hl a ha b i hb hi M hM hnext d (j + 1) (a[j] == (i : Int)) (by omega) (by
          rw [← hc]; simp only [List.contains_cons, Bool.false_or]; rw [show ((i : Int) == a[j]) = (a[j] == (i : Int)) from Bool.beq_comm])
        refine ⟨K + 1, fun k hk => ?_⟩
        obtain ⟨k, rfl⟩ : ∃ m, k = m + 1 := ⟨k - 1, by omega⟩
        simp only [culetlaw39_OptimizeKeep.l2]
        rw [if_pos (by omega), if_neg (by simp), if_pos (by omega), er, w1 (by omega) (by omega)]
        exact hK k (by omega)
      · obtain ⟨K, hK⟩ := q2 l hl a ha b i hb hi M hM hnext d (j + 1) true (by omega) (by rw [← hc]; simp)
        refine ⟨K + 1, fun k hk => ?_⟩
        obtain ⟨k, rfl⟩ : ∃ m, k = m + 1 := ⟨k - 1, by omega⟩
        simp only [culetlaw39_OptimizeKeep.l2]
        rw [if_pos (by omega), if_pos trivial, w1 (by omega) (by omega)]
        exact hK k (by omega)
theorem q1 (l : List S38) (hl : l.length ≤ 20) (b : Nat) (hb : b < l.length) : ∀ (d i : Nat), i + d = l.length →
    Ev (fun k => culetlaw39_OptimizeKeep.l1 k l (sel l[b].f1.f0 0 l) (b : Int) (i : Int)) true
  | 0, i, h => ⟨1, fun k hk => by
      obtain ⟨k, rfl⟩ : ∃ m, k = m + 1 := ⟨k - 1, by omega⟩
      simp only [culetlaw39_OptimizeKeep.l1]
      rw [if_neg (by omega)]⟩
  | d + 1, i, h => by
      have hi : i < l.length := by omega
      obtain ⟨K, hK⟩ := q2 l hl (sel l[b].f1.f0 0 l) (by have := sel_len l[b].f1.f0 l 0; omega) b i hb hi _ rfl (q1 l hl b hb d (i + 1) (by omega)) (sel l[b].f1.f0 0 l).length 0 false (by omega) (by
        rw [List.drop_zero, Bool.false_or, Bool.eq_iff_iff, List.contains_iff_mem, sel_mem, decide_eq_true_iff]
        constructor
        · rintro ⟨n, hn, e, g⟩
          obtain rfl : i = n := by omega
          exact g
        · intro g; exact ⟨i, hi, by omega, g⟩)
      refine ⟨K + 1, fun k hk => ?_⟩
      obtain ⟨k, rfl⟩ : ∃ m, k = m + 1 := ⟨k - 1, by omega⟩
      simp only [culetlaw39_OptimizeKeep.l1]
      rw [if_pos (by omega)]
      exact hK k (by omega)
theorem q0 (l : List S38) (hl : l.length ≤ 20) (hv : ok l = true) : ∀ (d i b : Nat), i + d = l.length → (hb : b < l.length) → (∀ (j : Nat) (h : j < l.length), j < i → l[j].f1.f0 ≤ l[b].f1.f0) →
    Ev (fun k => culetlaw39_OptimizeKeep.l0 k l (sel (best (-1073741824) l) 0 l) (b : Int) (i : Int)) true
  | 0, i, b, h, hb, hm => by
      have e : best (-1073741824) l = l[b].f1.f0 := by
        have h1 := (best_ge l (-1073741824)).2 l[b] (List.getElem_mem hb)
        have h2 := best_le l (-1073741824) l[b].f1.f0 (by
          have := List.all_eq_true.1 hv l[b] (List.getElem_mem hb); simp [vld] at this; omega) (fun x hx => by
            obtain ⟨j, hj, rfl⟩ := List.getElem_of_mem hx
            exact hm j hj (by omega))
        omega
      rw [e]
      obtain ⟨K, hK⟩ := q1 l hl b hb l.length 0 (by omega)
      refine ⟨K + 1, fun k hk => ?_⟩
      obtain ⟨k, rfl⟩ : ∃ m, k = m + 1 := ⟨k - 1, by omega⟩
      simp only [culetlaw39_OptimizeKeep.l0]
      rw [if_neg (by omega)]
      exact hK k (by omega)
  | d + 1, i, b, h, hb, hm => by
      have hi : i < l.length := by omega
      by_cases c : l[i].f1.f0 > l[b].f1.f0
      · obtain ⟨K, hK⟩ := q0 l hl hv d (i + 1) i (by omega) hi (fun j hj hlt => by
          by_cases e : j = i
          · subst e; omega
          · have := hm j hj (by omega); omega)
        refine ⟨K + 1, fun k hk => ?_⟩
        obtain ⟨k, rfl⟩ : ∃ m, k = m + 1 := ⟨k - 1, by omega⟩
        simp only [culetlaw39_OptimizeKeep.l0]
        rw [if_pos (by omega), if_pos (by omega), if_pos (by omega), if_pos (by omega), rd_at l i hi, rd_at l b hb, if_pos c, w1 (by omega) (by omega)]
        exact hK k (by omega)
      · obtain ⟨K, hK⟩ := q0 l hl hv d (i + 1) b (by omega) hb (fun j hj hlt => by
          by_cases e : j = i
          · subst e; omega
          · exact hm j hj (by omega))
        refine ⟨K + 1, fun k hk => ?_⟩
        obtain ⟨k, rfl⟩ : ∃ m, k = m + 1 := ⟨k - 1, by omega⟩
        simp only [culetlaw39_OptimizeKeep.l0]
        rw [if_pos (by omega), if_pos (by omega), if_pos (by omega), if_pos (by omega), rd_at l i hi, rd_at l b hb, if_neg c, w1 (by omega) (by omega)]
        exact hK k (by omega)
theorem keep (l : List S38) (hl : l.length ≤ 20) : Ev (fun k => optimize_Keep.f k l) (if ok l = true then (sel (best (-1073741824) l) 0 l, 0) else ([], 1)) := k0 l hl l.length 0 _ (by omega)
theorem rkeep (l : List S38) (hl : l.length ≤ 20) : Ev (fun k => culetref39_Keep.f k (l.map conv)) (if ok l = true then (sel (best (-1073741824) l) 0 l, 0) else ([], 1)) := r0 l hl l.length 0 _ (by omega)
theorem awake : Ev (fun k => culetlaw39_awake.f k) true := by
  obtain ⟨K, hK⟩ := keep [(⟨⟨⟨#[]⟩, 0, false, []⟩, ⟨0, 8388608⟩⟩ : S38), ⟨⟨⟨#[]⟩, 0, false, []⟩, ⟨4194304, 12582912⟩⟩, ⟨⟨⟨#[]⟩, 0, false, []⟩, ⟨0, 2097152⟩⟩] (by simp)
  refine ⟨K, fun k hk => ?_⟩
  have h := hK k hk
  dsimp only at h
  have e1 : culetlaw39_of.f 0 4 = some (0, 8388608) := by decide +kernel
  have e2 : culetlaw39_of.f 2 6 = some (4194304, 12582912) := by decide +kernel
  have e3 : culetlaw39_of.f 0 1 = some (0, 2097152) := by decide +kernel
  unfold culetlaw39_awake.f
  rw [e1, e2, e3]
  simp only [Option.bind_some]
  rw [h]
  simp [ok, vld, sel, best, mx, rd]
end OptimizeKeepP
open OptimizeKeepP in
theorem OptimizeKeep : culetlaw39_OptimizeKeep.Pure := by
  intro l _
  obtain ⟨K1, a1⟩ := awake
  dsimp only at a1
  by_cases hn : (l.length : Int) > 20
  · refine ⟨K1, ?_⟩
    unfold culetlaw39_OptimizeKeep.f
    rw [a1 K1 (by omega)]
    simp only [Option.bind_some]
    rw [if_pos trivial, if_pos hn]
  · have hl : l.length ≤ 20 := by omega
    obtain ⟨K2, a2⟩ := keep l hl
    obtain ⟨K3, a3⟩ := rkeep l hl
    obtain ⟨K4, a4⟩ := th l hl l.length 0 (by omega)
    dsimp only at a2 a3 a4
    by_cases hv : ok l = true
    · rw [if_pos hv] at a2 a3
      obtain ⟨K5, a5⟩ := same (sel (best (-1073741824) l) 0 l) (by have := sel_len (best (-1073741824) l) l 0; omega) (sel (best (-1073741824) l) 0 l).length 0 (by omega)
      have a6 : Ev (fun k => culetlaw39_OptimizeKeep.j1 k l (sel (best (-1073741824) l) 0 l) ((l.length : Int) == 0)) true := by
        by_cases hz : l.length = 0
        · refine ⟨1, fun k hk => ?_⟩
          obtain ⟨k, rfl⟩ : ∃ m, k = m + 1 := ⟨k - 1, by omega⟩
          simp only [culetlaw39_OptimizeKeep.j1]
          rw [if_pos (by simp [hz])]
        · obtain ⟨K, hK⟩ := q0 l hl hv l.length 0 0 (by omega) (by omega) (fun j _ h => by omega)
          refine ⟨K + 1, fun k hk => ?_⟩
          obtain ⟨k, rfl⟩ : ∃ m, k = m + 1 := ⟨k - 1, by omega⟩
          simp only [culetlaw39_OptimizeKeep.j1]
          rw [if_neg (by simp only [beq_iff_eq]; omega)]
          exact hK k (by omega)
      obtain ⟨K6, a6⟩ := a6
      refine ⟨K1 + K2 + K3 + K4 + K5 + K6 + 1, ?_⟩
      unfold culetlaw39_OptimizeKeep.f
      rw [a1 _ (by omega)]
      simp only [Option.bind_some]
      rw [if_pos trivial, if_neg hn, a2 _ (by omega)]
      simp only [Option.bind_some]
      unfold culetlaw39_theirs.f
      have a4' := a4 (K1 + K2 + K3 + K4 + K5 + K6 + 1) (by omega)
      simp only [List.take_zero, List.map_nil] at a4'
      replace a4' : culetlaw39_theirs.l0 _ l [] 0 = _ := a4'
      rw [a4']
      simp only [Option.bind_some]
      rw [a3 _ (by omega)]
      simp only [Option.bind_some]
      unfold culetref16_SameInts.f
      rw [if_pos rfl]
      have a5' := a5 (K1 + K2 + K3 + K4 + K5 + K6 + 1) (by omega)
      replace a5' : culetref16_SameInts.l0 _ _ _ 0 = _ := a5'
      rw [a5']
      simp only [Option.bind_some, if_true]
      simp only [culetlaw39_OptimizeKeep.j0]
      rw [if_neg (by simp), if_pos trivial]
      exact a6 _ (by omega)
    · rw [if_neg hv] at a2 a3
      refine ⟨K1 + K2 + K3 + K4 + 2, ?_⟩
      unfold culetlaw39_OptimizeKeep.f
      rw [a1 _ (by omega)]
      simp only [Option.bind_some]
      rw [if_pos trivial, if_neg hn, a2 _ (by omega)]
      simp only [Option.bind_some]
      unfold culetlaw39_theirs.f
      have a4' := a4 (K1 + K2 + K3 + K4 + 2) (by omega)
      simp only [List.take_zero, List.map_nil] at a4'
      replace a4' : culetlaw39_theirs.l0 _ l [] 0 = _ := a4'
      rw [a4']
      simp only [Option.bind_some]
      rw [a3 _ (by omega)]
      simp only [Option.bind_some]
      unfold culetref16_SameInts.f
      rw [if_pos rfl]
      simp only [culetref16_SameInts.l0]
      simp [culetlaw39_OptimizeKeep.j0, culetlaw39_OptimizeKeep.j1]
end Go.Proofs.Ytncemdpmooakgaa.Pure
