/- The reference's orbits, positions and membership come to what the plain lists say. No condition but what each lemma names. -/
import Derived.Test.YtncemdpmooakgaaTierBase
import Derived.Test.YtncemdpmooakgaaXK5
import Derived.Test.YtncemdpmooakgaaXK4
namespace Go.Proofs.Ytncemdpmooakgaa.Pure
open Go.RowKit Go.Proofs.Ytncemdpmooakgaa.XK Go.Proofs.Ytncemdpmooakgaa.XW Go.Proofs.YtncemdpmooakgaaW.PrintWords Go.Proofs.YtncemdpmooakgaaW.PrintLast
namespace TierB
theorem tm (x : Int) : ∃ t q : Int, Int.tmod x 24 = t ∧ t + 24 * q = x ∧ -24 < t ∧ t < 24 ∧ (0 ≤ x → 0 ≤ t) := by
  refine ⟨_, Int.tdiv x 24, rfl, Int.tmod_add_mul_tdiv x 24, Int.lt_tmod_of_pos x (by omega), Int.tmod_lt_of_pos x (by omega), fun h => Int.tmod_nonneg 24 h⟩
theorem rmod (x : Int) : culetref16_mod.f x = some (x % 24) := by
  obtain ⟨t, q, h1, h2, h3, h4, _⟩ := tm x
  unfold culetref16_mod.f
  rw [h1]
  by_cases h : t < 0
  · rw [if_pos h]; congr 1; unfold wrap64; omega
  · rw [if_neg h]; congr 1; omega
theorem rdiv (a : Int) : culetref16_divides.f a = some (dv a) := by
  unfold culetref16_divides.f dv
  by_cases h1 : a > 0
  · rw [if_pos h1]
    by_cases h2 : a ≤ 24
    · rw [if_pos h2, if_neg (by omega)]; simp [h1]
    · rw [if_neg h2]
      have : (24 : Int) % a = 24 := Int.emod_eq_of_lt (by omega) (by omega)
      rw [this]; simp
  · rw [if_neg h1]; simp [h1]
theorem ps_at (p : Nat) (h : p < 24) : ps.drop p = (p : Int) :: ps.drop (p + 1) := by
  have key : ∀ p : Fin 24, ps.drop p.val = (p.val : Int) :: ps.drop (p.val + 1) := by decide
  exact key ⟨p, h⟩
theorem tmod_pos {t s : Int} (h : 0 ≤ t) : Int.tmod t s = t % s := Int.tmod_eq_emod_of_nonneg h
theorem orb0 (m : Bool) (s i : Int) (hs : 0 < s) (hs2 : s ≤ 24) (hi : 0 ≤ i) (hi2 : i < 24) : ∀ (d p : Nat) (acc : List Int), p + d = 24 → acc.length ≤ p →
    Ev (fun k => culetref16_Orbit.l0 k m s i acc (p : Int)) (acc ++ (ps.drop p).filter (tst s i m))
  | 0, p, acc, h, ha => ⟨1, fun k hk => by
      obtain ⟨k, rfl⟩ : ∃ m, k = m + 1 := ⟨k - 1, by omega⟩
      simp only [culetref16_Orbit.l0]
      obtain rfl : p = 24 := by omega
      rw [if_neg (by omega)]; simp [ps]⟩
  | d + 1, p, acc, h, ha => by
      have hp : p < 24 := by omega
      have e1 : wrap64 ((p : Int) - i) = (p : Int) - i := by unfold wrap64; omega
      have e2 : wrap64 ((p : Int) + i) = (p : Int) + i := by unfold wrap64; omega
      have e3 : Int.tmod (((p : Int) - i) % 24) s = (((p : Int) - i) % 24) % s := tmod_pos (by omega)
      have e4 : Int.tmod (((p : Int) + i) % 24) s = (((p : Int) + i) % 24) % s := tmod_pos (by omega)
      rw [ps_at p hp, List.filter_cons]
      cases c : tst s i m (p : Int) with
      | true =>
        obtain ⟨K, hK⟩ := orb0 m s i hs hs2 hi hi2 d (p + 1) (acc ++ [(p : Int)]) (by omega) (by simp; omega)
        refine ⟨K + 1, fun k hk => ?_⟩
        obtain ⟨k, rfl⟩ : ∃ m, k = m + 1 := ⟨k - 1, by omega⟩
        have := hK k (by omega)
        simp only [List.append_assoc, List.singleton_append] at this
        simp only [culetref16_Orbit.l0]
        rw [if_pos (by omega), e1, e2, rmod, rmod]
        simp only [Option.bind_some]
        rw [if_neg (by omega), e3, e4, w1 (by omega) (by omega), if_pos trivial]
        unfold tst at c
        by_cases c1 : (((p : Int) - i) % 24) % s = 0
        · rw [if_pos c1, if_pos (by omega)]; exact this
        · rw [if_neg c1]
          simp only [Bool.or_eq_true, beq_iff_eq, c1, false_or, Bool.and_eq_true] at c
          rw [if_pos c.1, if_pos c.2, if_pos (by omega)]; exact this
      | false =>
        obtain ⟨K, hK⟩ := orb0 m s i hs hs2 hi hi2 d (p + 1) acc (by omega) (by omega)
        refine ⟨K + 1, fun k hk => ?_⟩
        obtain ⟨k, rfl⟩ : ∃ m, k = m + 1 := ⟨k - 1, by omega⟩
        have := hK k (by omega)
        unfold tst at c
        simp only [Bool.or_eq_false_iff, beq_eq_false_iff_ne, Bool.and_eq_false_iff] at c
        simp only [culetref16_Orbit.l0]
        rw [if_pos (by omega), e1, e2, rmod, rmod]
        simp only [Option.bind_some, Bool.false_eq_true, if_false]
        rw [if_neg (by omega), e3, e4, w1 (by omega) (by omega)]
        rw [if_neg c.1]
        rcases c.2 with h2 | h2
        · subst h2; rw [if_neg (by simp)]; exact this
        · rw [if_neg h2]
          cases m <;> simpa using this
theorem steps : ∀ n ∈ orders, 0 < 24 / (n : Int) ∧ 24 / (n : Int) ≤ 24 ∧ wrap64 (Int.tdiv 24 (n : Int)) = 24 / (n : Int) ∧ (n : Int) ≠ 0 := by decide +kernel
theorem rorb (a : Int) (m : Bool) (x : Int) : Ev (fun k => culetref16_Orbit.f k a m x) (orbitL a m x) := by
  rw [orbitL_eq]
  by_cases h : dv a = true
  · rw [if_pos h]
    obtain ⟨n, hn, rfl⟩ := dv_orders a h
    obtain ⟨s1, s2, s3, s4⟩ := steps n hn
    obtain ⟨K, hK⟩ := orb0 m _ (x % 24) s1 s2 (by omega) (by omega) 24 0 [] (by omega) (by simp)
    refine ⟨K, fun k hk => ?_⟩
    unfold culetref16_Orbit.f
    rw [rdiv, h]
    simp only [Option.bind_some]
    rw [if_pos trivial, if_neg s4, rmod, s3]
    exact hK k hk
  · rw [if_neg h]
    refine ⟨0, fun k _ => ?_⟩
    unfold culetref16_Orbit.f
    rw [rdiv]
    simp only [Option.bind_some]
    rw [if_neg h]
theorem has0 (l : List Int) (x : Int) (hl : l.length ≤ 900) : ∀ (d i : Nat), i + d = l.length → Ev (fun k => culetref16_Has.l0 k l x (i : Int)) ((l.drop i).contains x)
  | 0, i, h => ⟨1, fun k hk => by
      obtain ⟨k, rfl⟩ : ∃ m, k = m + 1 := ⟨k - 1, by omega⟩
      simp only [culetref16_Has.l0]
      rw [if_neg (by omega), List.drop_of_length_le (by omega)]; rfl⟩
  | d + 1, i, h => by
      have hi : i < l.length := by omega
      have er : rd l (i : Int) = l[i] := by unfold rd; simp [List.getD_eq_getElem?_getD, hi]
      rw [List.drop_eq_getElem_cons hi, List.contains_cons]
      obtain ⟨K, hK⟩ := has0 l x hl d (i + 1) (by omega)
      refine ⟨K + 1, fun k hk => ?_⟩
      obtain ⟨k, rfl⟩ : ∃ m, k = m + 1 := ⟨k - 1, by omega⟩
      simp only [culetref16_Has.l0]
      rw [if_pos (by omega), if_pos (by omega), er, w1 (by omega) (by omega)]
      by_cases c : l[i] = x
      · rw [if_pos c, c]; simp
      · rw [if_neg c, show (x == l[i]) = false from by simp; exact fun e => c e.symm]
        exact hK k (by omega)
theorem rhas (l : List Int) (x : Int) (hl : l.length ≤ 900) : Ev (fun k => culetref16_Has.f k l x) (l.contains x) := has0 l x hl l.length 0 (by omega)
theorem same (l : List Int) (hl : l.length ≤ 900) : ∀ (d i : Nat), i + d = l.length → Ev (fun k => culetref16_SameInts.l0 k l l (i : Int)) true
  | 0, i, h => ⟨1, fun k hk => by
      obtain ⟨k, rfl⟩ : ∃ m, k = m + 1 := ⟨k - 1, by omega⟩
      simp only [culetref16_SameInts.l0]
      rw [if_neg (by omega)]⟩
  | d + 1, i, h => by
      obtain ⟨K, hK⟩ := same l hl d (i + 1) (by omega)
      refine ⟨K + 1, fun k hk => ?_⟩
      obtain ⟨k, rfl⟩ : ∃ m, k = m + 1 := ⟨k - 1, by omega⟩
      simp only [culetref16_SameInts.l0]
      rw [if_pos (by omega), if_pos (by omega), if_pos (by omega), if_pos trivial, w1 (by omega) (by omega)]
      exact hK k (by omega)
theorem rsame (l : List Int) (hl : l.length ≤ 900) : Ev (fun k => culetref16_SameInts.f k l l) true := by
  obtain ⟨K, hK⟩ := same l hl l.length 0 (by omega)
  refine ⟨K, fun k hk => ?_⟩
  show (if _ then _ else _) = _
  rw [if_pos rfl]
  exact hK k hk
theorem ps_filter_len (f : Int → Bool) : (ps.filter f).length ≤ 24 := by
  have := List.length_filter_le f ps
  simpa [ps] using this
theorem orbitL_len (a : Int) (m : Bool) (x : Int) : (orbitL a m x).length ≤ 24 := by
  rw [orbitL_eq]; split
  · exact ps_filter_len _
  · simp
theorem posL_len (a : Int) (m : Bool) (h : Int) (l : List Int) : (posL a m h l).length ≤ 24 := by
  rw [posL_eq]; split
  · split
    · simp
    · exact ps_filter_len _
  · simp
theorem has_orb (n : Nat) (hn : n ∈ orders) (m : Bool) (x : Int) (p : Nat) (hp : p < 24) : (orbitL (n : Int) m x).contains (p : Int) = tst (24 / (n : Int)) (x % 24) m (p : Int) := by
  rw [orbitL_eq, if_pos (orders_dv n hn), Bool.eq_iff_iff, List.contains_iff_mem, List.mem_filter]
  have : (p : Int) ∈ ps := by
    have key : ∀ p : Fin 24, (p.val : Int) ∈ ps := by decide
    exact key ⟨p, hp⟩
  exact ⟨fun h => h.2, fun h => ⟨this, h⟩⟩
def fnds (s : Int) (m : Bool) (p : Int) (l : List Int) : Bool := l.any fun x => tst s (x % 24) m p
theorem pos1 (T : S51) (n : Nat) (hn : n ∈ orders) (m : Bool) (hl : T.f3.length ≤ 26) (acc : List Int) (p : Nat) (hp : p < 24) (ha : acc.length ≤ p) (R : List Int)
    (h1 : Ev (fun k => culetref16_Positions.l0 k (n : Int) m (if fnds (24 / (n : Int)) m (p : Int) T.f3 then acc ++ [(p : Int)] else acc) ((p : Int) + 1) T.f0 T.f1 T.f2 T.f3 T.f4.f0 T.f4.f1.f0.f0.f0 T.f4.f1.f0.f0.f1 T.f4.f1.f0.f1.f0 T.f4.f1.f0.f1.f1 T.f4.f1.f0.f2.f0 T.f4.f1.f0.f2.f1 T.f4.f1.f0.f3.f0 T.f4.f1.f0.f3.f1 T.f4.f1.f1.f0 T.f4.f1.f1.f1 T.f4.f2.f0.f0.f0.f0 T.f4.f2.f0.f0.f0.f1 T.f4.f2.f0.f0.f1.f0 T.f4.f2.f0.f0.f1.f1 T.f4.f2.f0.f0.f2.f0 T.f4.f2.f0.f0.f2.f1 T.f4.f2.f0.f0.f3.f0 T.f4.f2.f0.f0.f3.f1 T.f4.f2.f0.f1.f0 T.f4.f2.f0.f1.f1 T.f4.f2.f1.f0.f0.f0 T.f4.f2.f1.f0.f0.f1 T.f4.f2.f1.f0.f1.f0 T.f4.f2.f1.f0.f1.f1 T.f4.f2.f1.f0.f2.f0 T.f4.f2.f1.f0.f2.f1 T.f4.f2.f1.f0.f3.f0 T.f4.f2.f1.f0.f3.f1 T.f4.f2.f1.f1.f0 T.f4.f2.f1.f1.f1 T.f4.f2.f2.f0.f0.f0 T.f4.f2.f2.f0.f0.f1 T.f4.f2.f2.f0.f1.f0 T.f4.f2.f2.f0.f1.f1 T.f4.f2.f2.f0.f2.f0 T.f4.f2.f2.f0.f2.f1 T.f4.f2.f2.f0.f3.f0 T.f4.f2.f2.f0.f3.f1 T.f4.f2.f2.f1.f0 T.f4.f2.f2.f1.f1 T.f4.f3) R) :
    ∀ (d i : Nat) (c : Bool), i + d = T.f3.length → (c || fnds (24 / (n : Int)) m (p : Int) (T.f3.drop i)) = fnds (24 / (n : Int)) m (p : Int) T.f3 →
    Ev (fun k => culetref16_Positions.l1 k (n : Int) m acc (p : Int) c (i : Int) T.f0 T.f1 T.f2 T.f3 T.f4.f0 T.f4.f1.f0.f0.f0 T.f4.f1.f0.f0.f1 T.f4.f1.f0.f1.f0 T.f4.f1.f0.f1.f1 T.f4.f1.f0.f2.f0 T.f4.f1.f0.f2.f1 T.f4.f1.f0.f3.f0 T.f4.f1.f0.f3.f1 T.f4.f1.f1.f0 T.f4.f1.f1.f1 T.f4.f2.f0.f0.f0.f0 T.f4.f2.f0.f0.f0.f1 T.f4.f2.f0.f0.f1.f0 T.f4.f2.f0.f0.f1.f1 T.f4.f2.f0.f0.f2.f0 T.f4.f2.f0.f0.f2.f1 T.f4.f2.f0.f0.f3.f0 T.f4.f2.f0.f0.f3.f1 T.f4.f2.f0.f1.f0 T.f4.f2.f0.f1.f1 T.f4.f2.f1.f0.f0.f0 T.f4.f2.f1.f0.f0.f1 T.f4.f2.f1.f0.f1.f0 T.f4.f2.f1.f0.f1.f1 T.f4.f2.f1.f0.f2.f0 T.f4.f2.f1.f0.f2.f1 T.f4.f2.f1.f0.f3.f0 T.f4.f2.f1.f0.f3.f1 T.f4.f2.f1.f1.f0 T.f4.f2.f1.f1.f1 T.f4.f2.f2.f0.f0.f0 T.f4.f2.f2.f0.f0.f1 T.f4.f2.f2.f0.f1.f0 T.f4.f2.f2.f0.f1.f1 T.f4.f2.f2.f0.f2.f0 T.f4.f2.f2.f0.f2.f1 T.f4.f2.f2.f0.f3.f0 T.f4.f2.f2.f0.f3.f1 T.f4.f2.f2.f1.f0 T.f4.f2.f2.f1.f1 T.f4.f3) R
  | 0, i, c, h, hc => by
      obtain ⟨K, hK⟩ := h1
      refine ⟨K + 2, fun k hk => ?_⟩
      obtain ⟨k, rfl⟩ : ∃ m, k = m + 2 := ⟨k - 2, by omega⟩
      have hk1 := hK k (by omega)
      simp only [culetref16_Positions.l1]
      rw [if_neg (by omega)]
      simp only [culetref16_Positions.j2]
      rw [if_neg (by simp), w1 (by omega) (by omega)]
      rw [List.drop_of_length_le (by omega)] at hc
      simp only [fnds, List.any_nil, Bool.or_false] at hc
      rw [show fnds (24 / (n : Int)) m (p : Int) T.f3 = c from hc.symm] at hk1
      cases c
      · rw [if_neg (by simp)]; simpa using hk1
      · rw [if_pos rfl, if_pos (by omega)]; simpa using hk1
  | d + 1, i, c, h, hc => by
      cases c with
      | true =>
        obtain ⟨K, hK⟩ := h1
        refine ⟨K + 2, fun k hk => ?_⟩
        obtain ⟨k, rfl⟩ : ∃ m, k = m + 2 := ⟨k - 2, by omega⟩
        have hk1 := hK k (by omega)
        simp only [culetref16_Positions.l1]
        rw [if_pos (by omega)]
        simp only [culetref16_Positions.j2]
        rw [if_neg (by simp), w1 (by omega) (by omega), if_pos trivial, if_pos (by omega)]
        simp only [Bool.true_or] at hc
        rw [← hc] at hk1
        simpa using hk1
      | false =>
        have hi : i < T.f3.length := by omega
        have er : rd T.f3 (i : Int) = T.f3[i] := by unfold rd; simp [List.getD_eq_getElem?_getD, hi]
        obtain ⟨K1, hK1⟩ := rorb (n : Int) m T.f3[i]
        obtain ⟨K2, hK2⟩ := rhas (orbitL (n : Int) m T.f3[i]) (p : Int) (by have := orbitL_len (n : Int) m T.f3[i]; omega)
        obtain ⟨K3, hK3⟩ := pos1 T n hn m hl acc p hp ha R h1 d (i + 1) (tst (24 / (n : Int)) (T.f3[i] % 24) m (p : Int)) (by omega) (by
          rw [← hc, List.drop_eq_getElem_cons hi]; simp only [fnds, List.any_cons, Bool.false_or])
        refine ⟨K1 + K2 + K3 + 2, fun k hk => ?_⟩
        obtain ⟨k, rfl⟩ : ∃ m, k = m + 2 := ⟨k - 2, by omega⟩
        have g1 := hK1 k (by omega)
        have g2 := hK2 k (by omega)
        have g3 := hK3 k (by omega)
        dsimp only at g1 g2
        simp only [culetref16_Positions.l1]
        rw [if_pos (by omega)]
        simp only [culetref16_Positions.j2]
        rw [if_pos (by simp), if_pos (by omega), if_pos (by omega), er]
        rw [g1]
        simp only [Option.bind_some]
        rw [g2]
        simp only [Option.bind_some]
        rw [has_orb n hn m _ p hp, w1 (by omega) (by omega)]
        exact g3
theorem len_if (acc : List Int) (p : Nat) (ha : acc.length ≤ p) (b : Bool) : (if b = true then acc ++ [(p : Int)] else acc).length ≤ p + 1 := by
  cases b
  · simp; omega
  · simp; omega
theorem pos0 (T : S51) (n : Nat) (hn : n ∈ orders) (m : Bool) (hl : T.f3.length ≤ 26) : ∀ (d p : Nat) (acc : List Int), p + d = 24 → acc.length ≤ p →
    Ev (fun k => culetref16_Positions.l0 k (n : Int) m acc (p : Int) T.f0 T.f1 T.f2 T.f3 T.f4.f0 T.f4.f1.f0.f0.f0 T.f4.f1.f0.f0.f1 T.f4.f1.f0.f1.f0 T.f4.f1.f0.f1.f1 T.f4.f1.f0.f2.f0 T.f4.f1.f0.f2.f1 T.f4.f1.f0.f3.f0 T.f4.f1.f0.f3.f1 T.f4.f1.f1.f0 T.f4.f1.f1.f1 T.f4.f2.f0.f0.f0.f0 T.f4.f2.f0.f0.f0.f1 T.f4.f2.f0.f0.f1.f0 T.f4.f2.f0.f0.f1.f1 T.f4.f2.f0.f0.f2.f0 T.f4.f2.f0.f0.f2.f1 T.f4.f2.f0.f0.f3.f0 T.f4.f2.f0.f0.f3.f1 T.f4.f2.f0.f1.f0 T.f4.f2.f0.f1.f1 T.f4.f2.f1.f0.f0.f0 T.f4.f2.f1.f0.f0.f1 T.f4.f2.f1.f0.f1.f0 T.f4.f2.f1.f0.f1.f1 T.f4.f2.f1.f0.f2.f0 T.f4.f2.f1.f0.f2.f1 T.f4.f2.f1.f0.f3.f0 T.f4.f2.f1.f0.f3.f1 T.f4.f2.f1.f1.f0 T.f4.f2.f1.f1.f1 T.f4.f2.f2.f0.f0.f0 T.f4.f2.f2.f0.f0.f1 T.f4.f2.f2.f0.f1.f0 T.f4.f2.f2.f0.f1.f1 T.f4.f2.f2.f0.f2.f0 T.f4.f2.f2.f0.f2.f1 T.f4.f2.f2.f0.f3.f0 T.f4.f2.f2.f0.f3.f1 T.f4.f2.f2.f1.f0 T.f4.f2.f2.f1.f1 T.f4.f3) (acc ++ (ps.drop p).filter fun p => fnds (24 / (n : Int)) m p T.f3)
  | 0, p, acc, h, ha => ⟨1, fun k hk => by
      obtain ⟨k, rfl⟩ : ∃ m, k = m + 1 := ⟨k - 1, by omega⟩
      simp only [culetref16_Positions.l0]
      obtain rfl : p = 24 := by omega
      rw [if_neg (by omega)]; simp [ps]⟩
  | d + 1, p, acc, h, ha => by
      have hp : p < 24 := by omega
      rw [ps_at p hp, List.filter_cons]
      have ih := pos0 T n hn m hl d (p + 1) (if fnds (24 / (n : Int)) m (p : Int) T.f3 then acc ++ [(p : Int)] else acc) (by omega) (len_if acc p ha _)
      obtain ⟨K, hK⟩ := pos1 T n hn m hl acc p hp ha _ ih T.f3.length 0 false (by omega) (by simp)
      refine ⟨K + 1, fun k hk => ?_⟩
      obtain ⟨k, rfl⟩ : ∃ m, k = m + 1 := ⟨k - 1, by omega⟩
      have := hK k (by omega)
      simp only [culetref16_Positions.l0]
      rw [if_pos (by omega)]
      dsimp only at this
      rw [show ((0 : Nat) : Int) = 0 from rfl] at this
      rw [this]
      split <;> simp
theorem rpos (a : Int) (m : Bool) (T : S51) (hl : T.f3.length ≤ 26) : Ev (fun k => culetref16_Positions.f k a m T.f0 T.f1 T.f2 T.f3 T.f4.f0 T.f4.f1.f0.f0.f0 T.f4.f1.f0.f0.f1 T.f4.f1.f0.f1.f0 T.f4.f1.f0.f1.f1 T.f4.f1.f0.f2.f0 T.f4.f1.f0.f2.f1 T.f4.f1.f0.f3.f0 T.f4.f1.f0.f3.f1 T.f4.f1.f1.f0 T.f4.f1.f1.f1 T.f4.f2.f0.f0.f0.f0 T.f4.f2.f0.f0.f0.f1 T.f4.f2.f0.f0.f1.f0 T.f4.f2.f0.f0.f1.f1 T.f4.f2.f0.f0.f2.f0 T.f4.f2.f0.f0.f2.f1 T.f4.f2.f0.f0.f3.f0 T.f4.f2.f0.f0.f3.f1 T.f4.f2.f0.f1.f0 T.f4.f2.f0.f1.f1 T.f4.f2.f1.f0.f0.f0 T.f4.f2.f1.f0.f0.f1 T.f4.f2.f1.f0.f1.f0 T.f4.f2.f1.f0.f1.f1 T.f4.f2.f1.f0.f2.f0 T.f4.f2.f1.f0.f2.f1 T.f4.f2.f1.f0.f3.f0 T.f4.f2.f1.f0.f3.f1 T.f4.f2.f1.f1.f0 T.f4.f2.f1.f1.f1 T.f4.f2.f2.f0.f0.f0 T.f4.f2.f2.f0.f0.f1 T.f4.f2.f2.f0.f1.f0 T.f4.f2.f2.f0.f1.f1 T.f4.f2.f2.f0.f2.f0 T.f4.f2.f2.f0.f2.f1 T.f4.f2.f2.f0.f3.f0 T.f4.f2.f2.f0.f3.f1 T.f4.f2.f2.f1.f0 T.f4.f2.f2.f1.f1 T.f4.f3) (posL a m T.f1 T.f3) := by
  rw [posL_eq]
  by_cases h : dv a = true
  · rw [if_pos h]
    obtain ⟨n, hn, rfl⟩ := dv_orders a h
    by_cases h0 : T.f1 = 0
    · rw [if_pos h0]
      refine ⟨0, fun k _ => ?_⟩
      unfold culetref16_Positions.f
      rw [rdiv, h]
      simp only [Option.bind_some]
      rw [if_pos trivial, if_pos h0]
    · rw [if_neg h0]
      obtain ⟨K, hK⟩ := pos0 T n hn m hl 24 0 [] (by omega) (by simp)
      refine ⟨K, fun k hk => ?_⟩
      unfold culetref16_Positions.f
      rw [rdiv, h]
      simp only [Option.bind_some]
      rw [if_pos trivial, if_neg h0]
      exact hK k hk
  · rw [if_neg h]
    refine ⟨0, fun k _ => ?_⟩
    unfold culetref16_Positions.f
    rw [rdiv]
    simp only [Option.bind_some]
    rw [if_neg h]
theorem awake : Ev (fun k => culetlaw16_awake.f k) true := by
  obtain ⟨K1, h1⟩ := rsame [1, 5, 7, 11, 13, 17, 19, 23] (by decide)
  obtain ⟨K2, h2⟩ := rsame [3, 9, 15, 21] (by decide)
  have e1 : orbitL 4 true 1 = [1, 5, 7, 11, 13, 17, 19, 23] := by decide +kernel
  have e2 : orbitL 4 true 3 = [3, 9, 15, 21] := by decide +kernel
  refine ⟨K1 + K2, fun k hk => ?_⟩
  have g1 := h1 k (by omega)
  have g2 := h2 k (by omega)
  dsimp only at g1 g2
  unfold culetlaw16_awake.f tier_Orbit.f
  rw [e1, e2]
  simp only [Option.bind_some]
  rw [g1]
  simp only [Option.bind_some, if_true]
  rw [g2]
  simp [tier_Part.f]
end TierB
end Go.Proofs.Ytncemdpmooakgaa.Pure
