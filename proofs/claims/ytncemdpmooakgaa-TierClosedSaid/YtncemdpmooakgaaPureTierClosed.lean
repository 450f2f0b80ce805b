/- TierClosed: the positions of a tier are ascending, on the wheel, closed under the motions, contain the indices, and stay where the indices are turned. For every input. -/
import Derived.Test.YtncemdpmooakgaaTierRef
import Derived.Test.YtncemdpmooakgaaXK7
namespace Go.Proofs.Ytncemdpmooakgaa.Pure
open Go.RowKit Go.Proofs.Ytncemdpmooakgaa.XK Go.Proofs.Ytncemdpmooakgaa.XW Go.Proofs.YtncemdpmooakgaaW.PrintWords Go.Proofs.YtncemdpmooakgaaW.PrintLast
namespace TierC
open TierB
theorem turn : ∀ n ∈ orders, ∀ (m : Bool) (i p : Fin 24), tst (24 / (n : Int)) (i.val : Int) m (p.val : Int) = true → tst (24 / (n : Int)) (i.val : Int) m (((p.val : Int) + 24 / (n : Int)) % 24) = true := by decide +kernel
theorem flip : ∀ n ∈ orders, ∀ (i p : Fin 24), tst (24 / (n : Int)) (i.val : Int) true (p.val : Int) = true → tst (24 / (n : Int)) (i.val : Int) true ((24 - (p.val : Int)) % 24) = true := by decide +kernel
theorem self : ∀ n ∈ orders, ∀ (m : Bool) (i : Fin 24), tst (24 / (n : Int)) (i.val : Int) m (i.val : Int) = true := by decide +kernel
theorem moved : ∀ n ∈ orders, ∀ (m : Bool) (i p r : Fin 24), tst (24 / (n : Int)) (((i.val : Int) + (r.val : Int) * (24 / (n : Int))) % 24) m (p.val : Int) = tst (24 / (n : Int)) (i.val : Int) m (p.val : Int) := by decide +kernel
theorem n24 : ∀ n ∈ orders, (n : Int) * (24 / (n : Int)) = 24 := by decide +kernel
theorem ps_mem : ∀ p ∈ ps, 0 ≤ p ∧ p ≤ 23 := by decide
theorem mem_ps (p : Int) (h : 0 ≤ p) (h2 : p ≤ 23) : p ∈ ps := by
  have key : ∀ p : Fin 24, (p.val : Int) ∈ ps := by decide
  have := key ⟨p.toNat, by omega⟩
  simpa [Int.toNat_of_nonneg h] using this
theorem fnd_turn (n : Nat) (hn : n ∈ orders) (m : Bool) (l : List Int) (p : Int) (hp : p ∈ ps) (h : fnds (24 / (n : Int)) m p l = true) : fnds (24 / (n : Int)) m ((p + 24 / (n : Int)) % 24) l = true := by
  obtain ⟨h0, h1⟩ := ps_mem p hp
  unfold fnds at *
  rw [List.any_eq_true] at *
  obtain ⟨x, hx, ht⟩ := h
  refine ⟨x, hx, ?_⟩
  have := turn n hn m ⟨(x % 24).toNat, by omega⟩ ⟨p.toNat, by omega⟩
  simp only [Int.toNat_of_nonneg (show 0 ≤ x % 24 by omega), Int.toNat_of_nonneg h0] at this
  exact this ht
theorem fnd_flip (n : Nat) (hn : n ∈ orders) (l : List Int) (p : Int) (hp : p ∈ ps) (h : fnds (24 / (n : Int)) true p l = true) : fnds (24 / (n : Int)) true ((24 - p) % 24) l = true := by
  obtain ⟨h0, h1⟩ := ps_mem p hp
  unfold fnds at *
  rw [List.any_eq_true] at *
  obtain ⟨x, hx, ht⟩ := h
  refine ⟨x, hx, ?_⟩
  have := flip n hn ⟨(x % 24).toNat, by omega⟩ ⟨p.toNat, by omega⟩
  simp only [Int.toNat_of_nonneg (show 0 ≤ x % 24 by omega), Int.toNat_of_nonneg h0] at this
  exact this ht
theorem fnd_self (n : Nat) (hn : n ∈ orders) (m : Bool) (l : List Int) (x : Int) (h0 : 0 ≤ x) (h1 : x ≤ 23) (hx : x ∈ l) : fnds (24 / (n : Int)) m x l = true := by
  unfold fnds
  rw [List.any_eq_true]
  refine ⟨x, hx, ?_⟩
  have := self n hn m ⟨x.toNat, by omega⟩
  simp only [Int.toNat_of_nonneg h0] at this
  rw [show x % 24 = x by omega]
  exact this
theorem tst_moved (n : Nat) (hn : n ∈ orders) (m : Bool) (x K p : Int) (hp : p ∈ ps) : tst (24 / (n : Int)) ((x + K * (24 / (n : Int))) % 24) m p = tst (24 / (n : Int)) (x % 24) m p := by
  obtain ⟨h0, h1⟩ := ps_mem p hp
  have hb : ∀ n ∈ orders, n ≤ 24 ∧ 1 ≤ n := by decide
  obtain ⟨b1, b2⟩ := hb n hn
  have hr0 : 0 ≤ K % (n : Int) := Int.emod_nonneg _ (by omega)
  have hr1 : K % (n : Int) < (n : Int) := Int.emod_lt_of_pos _ (by omega)
  have := moved n hn m ⟨(x % 24).toNat, by omega⟩ ⟨p.toNat, by omega⟩ ⟨(K % (n : Int)).toNat, by omega⟩
  simp only [Int.toNat_of_nonneg (show 0 ≤ x % 24 by omega), Int.toNat_of_nonneg h0, Int.toNat_of_nonneg hr0] at this
  rw [← this]
  congr 1
  have e := Int.emod_add_mul_ediv K (n : Int)
  have e2 : K * (24 / (n : Int)) = (K % (n : Int)) * (24 / (n : Int)) + 24 * (K / (n : Int)) := by
    have := n24 n hn
    calc K * (24 / (n : Int)) = (K % (n : Int) + (n : Int) * (K / (n : Int))) * (24 / (n : Int)) := by rw [e]
      _ = (K % (n : Int)) * (24 / (n : Int)) + ((n : Int) * (24 / (n : Int))) * (K / (n : Int)) := by rw [Int.add_mul, Int.mul_assoc, Int.mul_assoc, Int.mul_comm (K / (n : Int))]
      _ = _ := by rw [this]
  rw [e2]
  omega
theorem pos_moved (n : Nat) (hn : n ∈ orders) (m : Bool) (h K : Int) (hh : h ≠ 0) (l : List Int) : posL (n : Int) m h (l.map fun x => x + K * (24 / (n : Int))) = posL (n : Int) m h l := by
  rw [posL_eq, posL_eq, if_pos (orders_dv n hn), if_pos (orders_dv n hn), if_neg hh, if_neg hh]
  refine List.filter_congr (fun p hp => ?_)
  rw [List.any_map]
  congr 1
  funext x
  exact tst_moved n hn m x K p hp
theorem filt_sorted (f : Int → Bool) : List.Pairwise (· < ·) (ps.filter f) := List.Pairwise.filter f (by decide)
theorem wf_u8 {n : Int} (h : (Lit.int .u8 n).wf = true) : 0 ≤ n ∧ n ≤ 255 := by
  simp [Lit.wf, IntKind.min, IntKind.max, IntKind.signed, IntKind.bits] at h
  omega
theorem wf_i8 {n : Int} (h : (Lit.int .i8 n).wf = true) : -128 ≤ n ∧ n ≤ 127 := by
  simp [Lit.wf, IntKind.min, IntKind.max, IntKind.signed, IntKind.bits] at h
  omega
theorem step_lo : ∀ n ∈ orders, 1 ≤ 24 / (n : Int) ∧ 24 / (n : Int) ≤ 24 := by decide +kernel
theorem kstep (K s : Int) (h1 : -128 ≤ K) (h2 : K ≤ 127) (s1 : 1 ≤ s) (s2 : s ≤ 24) : -3072 ≤ K * s ∧ K * s ≤ 3048 := by
  constructor
  · have : (-128) * s ≤ K * s := Int.mul_le_mul_of_nonneg_right h1 (by omega)
    omega
  · have : K * s ≤ 127 * s := Int.mul_le_mul_of_nonneg_right h2 (by omega)
    omega
theorem l2 (T : S51) (X : S59) (n : Nat) (hn : n ∈ orders) (hT : T.f1 ≠ 0) (hl : T.f3.length ≤ 26) (hr : ∀ x ∈ T.f3, 0 ≤ x ∧ x ≤ 23) (hX : -128 ≤ X.f2 ∧ X.f2 ≤ 127) :
    ∀ (d i : Nat), i + d = T.f3.length → Ev (fun k => culetlaw16_TierClosed.l2 k (n : Int) (posL (n : Int) X.f1 T.f1 T.f3) (24 / (n : Int)) T.f3 (T.f3.length : Int) (i : Int) X.f0 X.f1 X.f2 T.f0 T.f1 T.f2 ((T.f3.take i).map fun x => x + X.f2 * (24 / (n : Int))) T.f4.f0 T.f4.f1.f0.f0.f0 T.f4.f1.f0.f0.f1 T.f4.f1.f0.f1.f0 T.f4.f1.f0.f1.f1 T.f4.f1.f0.f2.f0 T.f4.f1.f0.f2.f1 T.f4.f1.f0.f3.f0 T.f4.f1.f0.f3.f1 T.f4.f1.f1.f0 T.f4.f1.f1.f1 T.f4.f2.f0.f0.f0.f0 T.f4.f2.f0.f0.f0.f1 T.f4.f2.f0.f0.f1.f0 T.f4.f2.f0.f0.f1.f1 T.f4.f2.f0.f0.f2.f0 T.f4.f2.f0.f0.f2.f1 T.f4.f2.f0.f0.f3.f0 T.f4.f2.f0.f0.f3.f1 T.f4.f2.f0.f1.f0 T.f4.f2.f0.f1.f1 T.f4.f2.f1.f0.f0.f0 T.f4.f2.f1.f0.f0.f1 T.f4.f2.f1.f0.f1.f0 T.f4.f2.f1.f0.f1.f1 T.f4.f2.f1.f0.f2.f0 T.f4.f2.f1.f0.f2.f1 T.f4.f2.f1.f0.f3.f0 T.f4.f2.f1.f0.f3.f1 T.f4.f2.f1.f1.f0 T.f4.f2.f1.f1.f1 T.f4.f2.f2.f0.f0.f0 T.f4.f2.f2.f0.f0.f1 T.f4.f2.f2.f0.f1.f0 T.f4.f2.f2.f0.f1.f1 T.f4.f2.f2.f0.f2.f0 T.f4.f2.f2.f0.f2.f1 T.f4.f2.f2.f0.f3.f0 T.f4.f2.f2.f0.f3.f1 T.f4.f2.f2.f1.f0 T.f4.f2.f2.f1.f1 T.f4.f3) true
  | 0, i, h => by
      obtain ⟨K, hK⟩ := rsame (posL (n : Int) X.f1 T.f1 T.f3) (by have := posL_len (n : Int) X.f1 T.f1 T.f3; omega)
      refine ⟨K + 1, fun k hk => ?_⟩
      obtain ⟨k, rfl⟩ : ∃ m, k = m + 1 := ⟨k - 1, by omega⟩
      have := hK k (by omega)
      dsimp only at this
      simp only [culetlaw16_TierClosed.l2]
      rw [if_neg (by omega), List.take_of_length_le (by omega)]
      unfold tier_Positions.f
      simp only [Option.bind_some]
      rw [pos_moved n hn X.f1 T.f1 X.f2 hT, this]
      rfl
  | d + 1, i, h => by
      have hi : i < T.f3.length := by omega
      have er : rd T.f3 (i : Int) = T.f3[i] := by unfold rd; simp [List.getD_eq_getElem?_getD, hi]
      obtain ⟨x0, x1⟩ := hr _ (List.getElem_mem hi)
      obtain ⟨s1, s2⟩ := step_lo n hn
      obtain ⟨k1, k2⟩ := kstep X.f2 _ hX.1 hX.2 s1 s2
      have hc : (posL (n : Int) X.f1 T.f1 T.f3).contains T.f3[i] = true := by
        rw [posL_eq, if_pos (orders_dv n hn), if_neg hT, List.contains_iff_mem, List.mem_filter]
        exact ⟨mem_ps _ x0 x1, fnd_self n hn X.f1 T.f3 _ x0 x1 (List.getElem_mem hi)⟩
      obtain ⟨K1, h1⟩ := rhas (posL (n : Int) X.f1 T.f1 T.f3) T.f3[i] (by have := posL_len (n : Int) X.f1 T.f1 T.f3; omega)
      obtain ⟨K2, h2⟩ := l2 T X n hn hT hl hr hX d (i + 1) (by omega)
      refine ⟨K1 + K2 + 1, fun k hk => ?_⟩
      obtain ⟨k, rfl⟩ : ∃ m, k = m + 1 := ⟨k - 1, by omega⟩
      have g1 := h1 k (by omega)
      have g2 := h2 k (by omega)
      dsimp only at g1 g2
      have ew : wrap64 (T.f3[i] + wrap64 (wrap64 X.f2 * (24 / (n : Int)))) = T.f3[i] + X.f2 * (24 / (n : Int)) := by
        have e1 : wrap64 X.f2 = X.f2 := by unfold wrap64; omega
        rw [e1]
        generalize X.f2 * (24 / (n : Int)) = q at *
        unfold wrap64; omega
      simp only [culetlaw16_TierClosed.l2]
      rw [if_pos (by omega), if_pos (by omega), if_pos (by omega), er, g1]
      simp only [Option.bind_some]
      rw [if_pos hc, if_pos (by simp; omega), ew, w1 (by omega) (by omega)]
      rw [List.take_succ_eq_append_getElem hi, List.map_append] at g2
      exact g2
theorem l1 (T : S51) (X : S59) (n : Nat) (hn : n ∈ orders) (hT : T.f1 ≠ 0) (hl : T.f3.length ≤ 26) (hr : ∀ x ∈ T.f3, 0 ≤ x ∧ x ≤ 23) (hX : -128 ≤ X.f2 ∧ X.f2 ≤ 127) (L : List Int) (hL : posL (n : Int) X.f1 T.f1 T.f3 = L) :
    ∀ (d i : Nat), i + d = L.length → Ev (fun k => culetlaw16_TierClosed.l1 k (n : Int) L (24 / (n : Int)) L (L.length : Int) (i : Int) T.f0 T.f1 T.f2 T.f3 T.f4.f0 T.f4.f1.f0.f0.f0 T.f4.f1.f0.f0.f1 T.f4.f1.f0.f1.f0 T.f4.f1.f0.f1.f1 T.f4.f1.f0.f2.f0 T.f4.f1.f0.f2.f1 T.f4.f1.f0.f3.f0 T.f4.f1.f0.f3.f1 T.f4.f1.f1.f0 T.f4.f1.f1.f1 T.f4.f2.f0.f0.f0.f0 T.f4.f2.f0.f0.f0.f1 T.f4.f2.f0.f0.f1.f0 T.f4.f2.f0.f0.f1.f1 T.f4.f2.f0.f0.f2.f0 T.f4.f2.f0.f0.f2.f1 T.f4.f2.f0.f0.f3.f0 T.f4.f2.f0.f0.f3.f1 T.f4.f2.f0.f1.f0 T.f4.f2.f0.f1.f1 T.f4.f2.f1.f0.f0.f0 T.f4.f2.f1.f0.f0.f1 T.f4.f2.f1.f0.f1.f0 T.f4.f2.f1.f0.f1.f1 T.f4.f2.f1.f0.f2.f0 T.f4.f2.f1.f0.f2.f1 T.f4.f2.f1.f0.f3.f0 T.f4.f2.f1.f0.f3.f1 T.f4.f2.f1.f1.f0 T.f4.f2.f1.f1.f1 T.f4.f2.f2.f0.f0.f0 T.f4.f2.f2.f0.f0.f1 T.f4.f2.f2.f0.f1.f0 T.f4.f2.f2.f0.f1.f1 T.f4.f2.f2.f0.f2.f0 T.f4.f2.f2.f0.f2.f1 T.f4.f2.f2.f0.f3.f0 T.f4.f2.f2.f0.f3.f1 T.f4.f2.f2.f1.f0 T.f4.f2.f2.f1.f1 T.f4.f3 X.f0 X.f1 X.f2) true
  | 0, i, h => by
      obtain ⟨K, hK⟩ := l2 T X n hn hT hl hr hX T.f3.length 0 (by omega)
      refine ⟨K + 1, fun k hk => ?_⟩
      obtain ⟨k, rfl⟩ : ∃ m, k = m + 1 := ⟨k - 1, by omega⟩
      have := hK k (by omega)
      rw [hL] at this
      simp only [culetlaw16_TierClosed.l1]
      rw [if_neg (by omega)]
      exact this
  | d + 1, i, h => by
      have hi : i < L.length := by omega
      have er : rd L (i : Int) = L[i] := by unfold rd; simp [List.getD_eq_getElem?_getD, hi]
      have hlen : L.length ≤ 24 := by rw [← hL]; exact posL_len _ _ _ _
      obtain ⟨s1, s2⟩ := step_lo n hn
      have eL : L = ps.filter fun p => fnds (24 / (n : Int)) X.f1 p T.f3 := by rw [← hL, posL_eq, if_pos (orders_dv n hn), if_neg hT]; rfl
      have hm : L[i] ∈ ps ∧ fnds (24 / (n : Int)) X.f1 L[i] T.f3 = true := by
        have : L[i] ∈ L := List.getElem_mem hi
        have h2 : L[i] ∈ ps.filter fun p => fnds (24 / (n : Int)) X.f1 p T.f3 := by rw [← eL]; exact this
        exact List.mem_filter.1 h2
      obtain ⟨p0, p1⟩ := ps_mem _ hm.1
      have hmem : ∀ q, q ∈ ps → fnds (24 / (n : Int)) X.f1 q T.f3 = true → q ∈ L := fun q q1 q2 => by rw [eL]; exact List.mem_filter.2 ⟨q1, q2⟩
      have hc1 : L.contains ((L[i] + 24 / (n : Int)) % 24) = true := by
        rw [List.contains_iff_mem]
        exact hmem _ (mem_ps _ (by omega) (by omega)) (fnd_turn n hn X.f1 T.f3 _ hm.1 hm.2)
      have e1 : Int.tmod (wrap64 (L[i] + 24 / (n : Int))) 24 = (L[i] + 24 / (n : Int)) % 24 := by
        rw [show wrap64 (L[i] + 24 / (n : Int)) = L[i] + 24 / (n : Int) by unfold wrap64; omega]
        exact tmod_pos (by omega)
      have e2 : Int.tmod (wrap64 (24 - L[i])) 24 = (24 - L[i]) % 24 := by
        rw [show wrap64 (24 - L[i]) = 24 - L[i] by unfold wrap64; omega]
        exact tmod_pos (by omega)
      obtain ⟨K1, h1⟩ := rhas L ((L[i] + 24 / (n : Int)) % 24) (by omega)
      obtain ⟨K2, h2⟩ := rhas L ((24 - L[i]) % 24) (by omega)
      obtain ⟨K3, h3⟩ := l1 T X n hn hT hl hr hX L hL d (i + 1) (by omega)
      refine ⟨K1 + K2 + K3 + 1, fun k hk => ?_⟩
      obtain ⟨k, rfl⟩ : ∃ m, k = m + 1 := ⟨k - 1, by omega⟩
      have g1 := h1 k (by omega)
      have g2 := h2 k (by omega)
      have g3 := h3 k (by omega)
      dsimp only at g1 g2 g3
      rw [hc1] at g1
      have tail : ((culetref16_Has.f k L (Int.tmod (wrap64 (L[i] + 24 / (n : Int))) 24)).bind fun t => if t = true then (if X.f1 = true then ((culetref16_Has.f k L (Int.tmod (wrap64 (24 - L[i])) 24)).bind fun t => if t = true then (culetlaw16_TierClosed.l1 k (n : Int) L (24 / (n : Int)) L (L.length : Int) (wrap64 ((i : Int) + 1)) T.f0 T.f1 T.f2 T.f3 T.f4.f0 T.f4.f1.f0.f0.f0 T.f4.f1.f0.f0.f1 T.f4.f1.f0.f1.f0 T.f4.f1.f0.f1.f1 T.f4.f1.f0.f2.f0 T.f4.f1.f0.f2.f1 T.f4.f1.f0.f3.f0 T.f4.f1.f0.f3.f1 T.f4.f1.f1.f0 T.f4.f1.f1.f1 T.f4.f2.f0.f0.f0.f0 T.f4.f2.f0.f0.f0.f1 T.f4.f2.f0.f0.f1.f0 T.f4.f2.f0.f0.f1.f1 T.f4.f2.f0.f0.f2.f0 T.f4.f2.f0.f0.f2.f1 T.f4.f2.f0.f0.f3.f0 T.f4.f2.f0.f0.f3.f1 T.f4.f2.f0.f1.f0 T.f4.f2.f0.f1.f1 T.f4.f2.f1.f0.f0.f0 T.f4.f2.f1.f0.f0.f1 T.f4.f2.f1.f0.f1.f0 T.f4.f2.f1.f0.f1.f1 T.f4.f2.f1.f0.f2.f0 T.f4.f2.f1.f0.f2.f1 T.f4.f2.f1.f0.f3.f0 T.f4.f2.f1.f0.f3.f1 T.f4.f2.f1.f1.f0 T.f4.f2.f1.f1.f1 T.f4.f2.f2.f0.f0.f0 T.f4.f2.f2.f0.f0.f1 T.f4.f2.f2.f0.f1.f0 T.f4.f2.f2.f0.f1.f1 T.f4.f2.f2.f0.f2.f0 T.f4.f2.f2.f0.f2.f1 T.f4.f2.f2.f0.f3.f0 T.f4.f2.f2.f0.f3.f1 T.f4.f2.f2.f1.f0 T.f4.f2.f2.f1.f1 T.f4.f3 X.f0 X.f1 X.f2) else some false) else (culetlaw16_TierClosed.l1 k (n : Int) L (24 / (n : Int)) L (L.length : Int) (wrap64 ((i : Int) + 1)) T.f0 T.f1 T.f2 T.f3 T.f4.f0 T.f4.f1.f0.f0.f0 T.f4.f1.f0.f0.f1 T.f4.f1.f0.f1.f0 T.f4.f1.f0.f1.f1 T.f4.f1.f0.f2.f0 T.f4.f1.f0.f2.f1 T.f4.f1.f0.f3.f0 T.f4.f1.f0.f3.f1 T.f4.f1.f1.f0 T.f4.f1.f1.f1 T.f4.f2.f0.f0.f0.f0 T.f4.f2.f0.f0.f0.f1 T.f4.f2.f0.f0.f1.f0 T.f4.f2.f0.f0.f1.f1 T.f4.f2.f0.f0.f2.f0 T.f4.f2.f0.f0.f2.f1 T.f4.f2.f0.f0.f3.f0 T.f4.f2.f0.f0.f3.f1 T.f4.f2.f0.f1.f0 T.f4.f2.f0.f1.f1 T.f4.f2.f1.f0.f0.f0 T.f4.f2.f1.f0.f0.f1 T.f4.f2.f1.f0.f1.f0 T.f4.f2.f1.f0.f1.f1 T.f4.f2.f1.f0.f2.f0 T.f4.f2.f1.f0.f2.f1 T.f4.f2.f1.f0.f3.f0 T.f4.f2.f1.f0.f3.f1 T.f4.f2.f1.f1.f0 T.f4.f2.f1.f1.f1 T.f4.f2.f2.f0.f0.f0 T.f4.f2.f2.f0.f0.f1 T.f4.f2.f2.f0.f1.f0 T.f4.f2.f2.f0.f1.f1 T.f4.f2.f2.f0.f2.f0 T.f4.f2.f2.f0.f2.f1 T.f4.f2.f2.f0.f3.f0 T.f4.f2.f2.f0.f3.f1 T.f4.f2.f2.f1.f0 T.f4.f2.f2.f1.f1 T.f4.f3 X.f0 X.f1 X.f2)) else some false) = some true := by
        rw [e1, e2, g1, g2, w1 (by omega) (by omega)]
        simp only [Option.bind_some, if_true]
        cases hm1 : X.f1 with
        | false => rw [if_neg (by simp)]; rw [hm1] at g3; exact g3
        | true =>
          have hc2 : L.contains ((24 - L[i]) % 24) = true := by
            rw [List.contains_iff_mem]
            refine hmem _ (mem_ps _ (by omega) (by omega)) ?_
            have := hm.2
            rw [hm1] at this ⊢
            exact fnd_flip n hn T.f3 _ hm.1 this
          rw [if_pos rfl, if_pos hc2]; rw [hm1] at g3; exact g3
      simp only [culetlaw16_TierClosed.l1]
      rw [if_pos (by omega), if_pos (by omega), if_pos (by omega), er, if_neg (by omega), if_neg (by omega)]
      by_cases hz : (i : Int) > 0
      · have ej : wrap64 ((i : Int) - 1) = ((i - 1 : Nat) : Int) := by unfold wrap64; omega
        have hj : i - 1 < L.length := by omega
        have erj : rd L ((i - 1 : Nat) : Int) = L[i - 1] := by unfold rd; simp [List.getD_eq_getElem?_getD, hj]
        have hs : L[i - 1] < L[i] := by
          have hp : List.Pairwise (· < ·) L := by rw [eL]; exact filt_sorted _
          exact List.pairwise_iff_getElem.1 hp (i - 1) i hj hi (by omega)
        rw [if_pos hz, ej, if_pos (by omega), if_pos (by omega), erj, if_neg (by omega)]
        exact tail
      · rw [if_neg hz]
        exact tail
theorem l0 (T : S51) (X : S59) (n : Nat) (hn : n ∈ orders) (hT : T.f1 ≠ 0) (hl : T.f3.length ≤ 26) (hX : -128 ≤ X.f2 ∧ X.f2 ≤ 127) :
    ∀ (d i : Nat), i + d = T.f3.length → (∀ (j : Nat) (hj : j < T.f3.length), j < i → 0 ≤ T.f3[j] ∧ T.f3[j] ≤ 23) → Ev (fun k => culetlaw16_TierClosed.l0 k (n : Int) T.f3 (T.f3.length : Int) (i : Int) T.f0 T.f1 T.f2 T.f3 T.f4.f0 T.f4.f1.f0.f0.f0 T.f4.f1.f0.f0.f1 T.f4.f1.f0.f1.f0 T.f4.f1.f0.f1.f1 T.f4.f1.f0.f2.f0 T.f4.f1.f0.f2.f1 T.f4.f1.f0.f3.f0 T.f4.f1.f0.f3.f1 T.f4.f1.f1.f0 T.f4.f1.f1.f1 T.f4.f2.f0.f0.f0.f0 T.f4.f2.f0.f0.f0.f1 T.f4.f2.f0.f0.f1.f0 T.f4.f2.f0.f0.f1.f1 T.f4.f2.f0.f0.f2.f0 T.f4.f2.f0.f0.f2.f1 T.f4.f2.f0.f0.f3.f0 T.f4.f2.f0.f0.f3.f1 T.f4.f2.f0.f1.f0 T.f4.f2.f0.f1.f1 T.f4.f2.f1.f0.f0.f0 T.f4.f2.f1.f0.f0.f1 T.f4.f2.f1.f0.f1.f0 T.f4.f2.f1.f0.f1.f1 T.f4.f2.f1.f0.f2.f0 T.f4.f2.f1.f0.f2.f1 T.f4.f2.f1.f0.f3.f0 T.f4.f2.f1.f0.f3.f1 T.f4.f2.f1.f1.f0 T.f4.f2.f1.f1.f1 T.f4.f2.f2.f0.f0.f0 T.f4.f2.f2.f0.f0.f1 T.f4.f2.f2.f0.f1.f0 T.f4.f2.f2.f0.f1.f1 T.f4.f2.f2.f0.f2.f0 T.f4.f2.f2.f0.f2.f1 T.f4.f2.f2.f0.f3.f0 T.f4.f2.f2.f0.f3.f1 T.f4.f2.f2.f1.f0 T.f4.f2.f2.f1.f1 T.f4.f3 X.f0 X.f1 X.f2) true
  | 0, i, h, hr => by
      have hr' : ∀ x ∈ T.f3, 0 ≤ x ∧ x ≤ 23 := fun x hx => by
        obtain ⟨j, hj, rfl⟩ := List.getElem_of_mem hx
        exact hr j hj (by omega)
      obtain ⟨s1, s2, s3, s4⟩ := steps n hn
      obtain ⟨K, hK⟩ := l1 T X n hn hT hl hr' hX _ rfl (posL (n : Int) X.f1 T.f1 T.f3).length 0 (by omega)
      refine ⟨K + 1, fun k hk => ?_⟩
      obtain ⟨k, rfl⟩ : ∃ m, k = m + 1 := ⟨k - 1, by omega⟩
      have := hK k (by omega)
      simp only [culetlaw16_TierClosed.l0]
      rw [if_neg (by omega)]
      unfold tier_Positions.f
      simp only [Option.bind_some]
      rw [if_neg s4, s3]
      exact this
  | d + 1, i, h, hr => by
      have hi : i < T.f3.length := by omega
      have er : rd T.f3 (i : Int) = T.f3[i] := by unfold rd; simp [List.getD_eq_getElem?_getD, hi]
      by_cases c1 : T.f3[i] < 0
      · refine ⟨1, fun k hk => ?_⟩
        obtain ⟨k, rfl⟩ : ∃ m, k = m + 1 := ⟨k - 1, by omega⟩
        simp only [culetlaw16_TierClosed.l0]
        rw [if_pos (by omega), if_pos (by omega), if_pos (by omega), er, if_pos c1]
      · by_cases c2 : T.f3[i] > 23
        · refine ⟨1, fun k hk => ?_⟩
          obtain ⟨k, rfl⟩ : ∃ m, k = m + 1 := ⟨k - 1, by omega⟩
          simp only [culetlaw16_TierClosed.l0]
          rw [if_pos (by omega), if_pos (by omega), if_pos (by omega), er, if_neg c1, if_pos c2]
        · obtain ⟨K, hK⟩ := l0 T X n hn hT hl hX d (i + 1) (by omega) (fun j hj hlt => by
            by_cases e : j = i
            · subst e; omega
            · exact hr j hj (by omega))
          refine ⟨K + 1, fun k hk => ?_⟩
          obtain ⟨k, rfl⟩ : ∃ m, k = m + 1 := ⟨k - 1, by omega⟩
          have := hK k (by omega)
          simp only [culetlaw16_TierClosed.l0]
          rw [if_pos (by omega), if_pos (by omega), if_pos (by omega), er, if_neg c1, if_neg c2, w1 (by omega) (by omega)]
          exact this
theorem order_at : ∀ j : Fin 8, ∃ n ∈ orders, rd [1, 2, 3, 4, 6, 8, 12, 24] (j.val : Int) = (n : Int) := by decide
end TierC
open TierB TierC in
theorem TierClosed : culetlaw16_TierClosed.Pure := by
  intro T X hT hX
  obtain ⟨u1, u2⟩ := wf_u8 hX.1
  have v := wf_i8 hX.2.2
  obtain ⟨K1, h1⟩ := awake
  dsimp only at h1
  have e0 : wrap64 X.f0 = X.f0 := by unfold wrap64; omega
  have e1 : Int.tmod X.f0 ((([1, 2, 3, 4, 6, 8, 12, 24] : List Int).length : Int)) = X.f0 % 8 := tmod_pos u1
  obtain ⟨n, hn, hr⟩ := order_at ⟨(X.f0 % 8).toNat, by omega⟩
  simp only [Int.toNat_of_nonneg (show 0 ≤ X.f0 % 8 by omega)] at hr
  have jt : ∀ k, culetlaw16_TierClosed.j0 (k + 1) (n : Int) true T.f0 T.f1 T.f2 T.f3 T.f4.f0 T.f4.f1.f0.f0.f0 T.f4.f1.f0.f0.f1 T.f4.f1.f0.f1.f0 T.f4.f1.f0.f1.f1 T.f4.f1.f0.f2.f0 T.f4.f1.f0.f2.f1 T.f4.f1.f0.f3.f0 T.f4.f1.f0.f3.f1 T.f4.f1.f1.f0 T.f4.f1.f1.f1 T.f4.f2.f0.f0.f0.f0 T.f4.f2.f0.f0.f0.f1 T.f4.f2.f0.f0.f1.f0 T.f4.f2.f0.f0.f1.f1 T.f4.f2.f0.f0.f2.f0 T.f4.f2.f0.f0.f2.f1 T.f4.f2.f0.f0.f3.f0 T.f4.f2.f0.f0.f3.f1 T.f4.f2.f0.f1.f0 T.f4.f2.f0.f1.f1 T.f4.f2.f1.f0.f0.f0 T.f4.f2.f1.f0.f0.f1 T.f4.f2.f1.f0.f1.f0 T.f4.f2.f1.f0.f1.f1 T.f4.f2.f1.f0.f2.f0 T.f4.f2.f1.f0.f2.f1 T.f4.f2.f1.f0.f3.f0 T.f4.f2.f1.f0.f3.f1 T.f4.f2.f1.f1.f0 T.f4.f2.f1.f1.f1 T.f4.f2.f2.f0.f0.f0 T.f4.f2.f2.f0.f0.f1 T.f4.f2.f2.f0.f1.f0 T.f4.f2.f2.f0.f1.f1 T.f4.f2.f2.f0.f2.f0 T.f4.f2.f2.f0.f2.f1 T.f4.f2.f2.f0.f3.f0 T.f4.f2.f2.f0.f3.f1 T.f4.f2.f2.f1.f0 T.f4.f2.f2.f1.f1 T.f4.f3 X.f0 X.f1 X.f2 = some true := fun k => by
    simp only [culetlaw16_TierClosed.j0]; rw [if_pos trivial]
  by_cases hz : T.f1 = 0
  · refine ⟨K1 + 1, ?_⟩
    unfold culetlaw16_TierClosed.f
    rw [h1 _ (by omega)]
    simp only [Option.bind_some, if_true]
    rw [if_neg (by simp), e0, e1, if_pos (by omega), if_pos (by simp; omega), if_pos hz, hr]
    exact jt K1
  · by_cases hl : (T.f3.length : Int) > 26
    · refine ⟨K1 + 1, ?_⟩
      unfold culetlaw16_TierClosed.f
      rw [h1 _ (by omega)]
      simp only [Option.bind_some, if_true]
      rw [if_neg (by simp), e0, e1, if_pos (by omega), if_pos (by simp; omega), if_neg hz, hr, show decide ((T.f3.length : Int) > 26) = true from decide_eq_true hl]
      exact jt K1
    · obtain ⟨K2, h2⟩ := l0 T X n hn hz (by omega) v T.f3.length 0 (by omega) (fun j _ h => by omega)
      refine ⟨K1 + K2 + 1, ?_⟩
      have g2 := h2 (K1 + K2) (by omega)
      unfold culetlaw16_TierClosed.f
      rw [h1 _ (by omega)]
      simp only [Option.bind_some, if_true]
      rw [if_neg (by simp), e0, e1, if_pos (by omega), if_pos (by simp; omega), if_neg hz, hr, show decide ((T.f3.length : Int) > 26) = false from decide_eq_false hl]
      simp only [culetlaw16_TierClosed.j0]
      rw [if_neg (by simp)]
      exact g2
end Go.Proofs.Ytncemdpmooakgaa.Pure
