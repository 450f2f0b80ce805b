/- TierOrbit: orbits and positions are those of the reference; an orbit has as many positions as the order, or with mirrors perhaps twice as many. For every input. -/
import Derived.Test.YtncemdpmooakgaaTierRef
import Derived.Test.YtncemdpmooakgaaXK6
namespace Go.Proofs.Ytncemdpmooakgaa.Pure
open Go.RowKit Go.Proofs.Ytncemdpmooakgaa.XK Go.Proofs.Ytncemdpmooakgaa.XW Go.Proofs.YtncemdpmooakgaaW.PrintWords Go.Proofs.YtncemdpmooakgaaW.PrintLast
open TierB in
theorem orbit_len : ∀ n ∈ orders, ∀ (m : Bool) (i : Fin 24), (ps.filter (tst (24 / (n : Int)) (i.val : Int) m)).length = n ∨ m = true ∧ (ps.filter (tst (24 / (n : Int)) (i.val : Int) m)).length = 2 * n := by decide +kernel
open TierB in
theorem orbitL_lens (a : Int) (m : Bool) (x : Int) : (orbitL a m x).length = 0 ∨ ((orbitL a m x).length : Int) = a ∨ m = true ∧ ((orbitL a m x).length : Int) = wrap64 (2 * a) := by
  rw [orbitL_eq]
  by_cases h : dv a = true
  · rw [if_pos h]
    obtain ⟨n, hn, rfl⟩ := dv_orders a h
    have := orbit_len n hn m ⟨(x % 24).toNat, by omega⟩
    simp only [Int.toNat_of_nonneg (show 0 ≤ x % 24 by omega)] at this
    have hb : ∀ n ∈ orders, n ≤ 24 := by decide
    have := hb n hn
    rcases this with h1
    rcases ‹_ ∨ _› with h2 | ⟨h2, h3⟩
    · right; left; omega
    · right; right; refine ⟨h2, ?_⟩; unfold wrap64; omega
  · rw [if_neg h]; left; rfl
open TierB in
theorem TierOrbit : culetlaw16_TierOrbit.Pure := by
  intro x0 _
  obtain ⟨K1, h1⟩ := awake
  dsimp only at h1
  by_cases hn : (x0.f2.f3.length : Int) > 26
  · refine ⟨K1, ?_⟩
    unfold culetlaw16_TierOrbit.f
    rw [h1 K1 (by omega)]
    simp only [Option.bind_some, if_true]
    rw [if_pos hn]
  · obtain ⟨K2, h2⟩ := rorb x0.f0 x0.f3 x0.f1
    obtain ⟨K3, h3⟩ := rsame (orbitL x0.f0 x0.f3 x0.f1) (by have := orbitL_len x0.f0 x0.f3 x0.f1; omega)
    obtain ⟨K4, h4⟩ := rpos x0.f0 x0.f3 x0.f2 (by omega)
    obtain ⟨K5, h5⟩ := rsame (posL x0.f0 x0.f3 x0.f2.f1 x0.f2.f3) (by have := posL_len x0.f0 x0.f3 x0.f2.f1 x0.f2.f3; omega)
    have hl := orbitL_lens x0.f0 x0.f3 x0.f1
    dsimp only at h2 h3 h4 h5
    refine ⟨K1 + K2 + K3 + K4 + K5, ?_⟩
    unfold culetlaw16_TierOrbit.f tier_Orbit.f tier_Positions.f
    rw [h1 _ (by omega)]
    simp only [Option.bind_some, if_true]
    rw [if_neg hn, h2 _ (by omega)]
    simp only [Option.bind_some]
    rw [h3 _ (by omega)]
    simp only [Option.bind_some, if_true]
    rw [h4 _ (by omega)]
    simp only [Option.bind_some]
    rw [h5 _ (by omega)]
    simp only [Option.bind_some, if_true]
    rcases hl with e | e | ⟨e1, e2⟩
    · rw [if_pos (by omega)]
    · by_cases z : ((orbitL x0.f0 x0.f3 x0.f1).length : Int) = 0
      · rw [if_pos z]
      · rw [if_neg z, if_pos e]
    · by_cases z : ((orbitL x0.f0 x0.f3 x0.f1).length : Int) = 0
      · rw [if_pos z]
      · rw [if_neg z]
        by_cases z2 : ((orbitL x0.f0 x0.f3 x0.f1).length : Int) = x0.f0
        · rw [if_pos z2]
        · rw [if_neg z2, if_pos e1, e2]; simp
end Go.Proofs.Ytncemdpmooakgaa.Pure
