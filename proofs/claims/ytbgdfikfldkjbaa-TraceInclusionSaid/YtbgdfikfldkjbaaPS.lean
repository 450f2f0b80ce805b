/- TraceScale, the plain law: what is doubled is found at the same face. -/
import Derived.Test.YtbgdfikfldkjbaaPT
namespace Go.Proofs.Ytbgdfikfldkjbaa.AI
set_option linter.unnecessarySimpa false
open Go
set_option linter.unusedVariables false
set_option linter.unusedSimpArgs false
theorem hitGo_zero : ∀ (xs : List Tg) (n : Nat) (f : Nat → Tg) (b : Int), (hitGo xs n f b).e = 0 → ∀ x ∈ xs, x.e = 0
  | [], n, f, b, _, x, hx => by cases hx
  | y :: ys, n, f, b, h, x, hx => by
    unfold hitGo at h
    cases he : decide (y.e = 0)
    · rw [he] at h
      simp only [Bool.not_false, cond_true] at h
      rw [decide_eq_false_iff_not] at he
      exact absurd h he
    · rw [he] at h
      simp only [Bool.not_true, cond_false] at h
      rcases List.mem_cons.1 hx with rfl | hx
      · simpa using he
      · exact hitGo_zero ys _ _ _ h x hx
theorem hitGo_has : ∀ (xs : List Tg) (n : Nat) (f : Nat → Tg) (b : Int), (∀ x ∈ xs, x.e = 0) → n ≤ (hitGo xs n f b).n ∧ (∀ j, j < n → (hitGo xs n f b).f j = f j) ∧ ∀ t ∈ xs, ∃ j, j < (hitGo xs n f b).n ∧ (hitGo xs n f b).f j = t
  | [], n, f, b, _ => ⟨Nat.le_refl _, fun _ _ => rfl, fun t ht => by cases ht⟩
  | y :: ys, n, f, b, h => by
    unfold hitGo
    rw [decide_eq_true (h y (List.mem_cons_self ..))]
    simp only [Bool.not_true, cond_false]
    obtain ⟨h1, h2, h3⟩ := hitGo_has ys (n + 1) (putF f n y) (nextB n f b y) fun x hx => h x (List.mem_cons_of_mem _ hx)
    refine ⟨by omega, fun j hj => ?_, fun t ht => ?_⟩
    · rw [h2 j (by omega), putF_eq, if_pos hj]
    · rcases List.mem_cons.1 ht with rfl | ht
      · exact ⟨n, by omega, by rw [h2 n (by omega), putF_eq, if_neg (by omega)]⟩
      · exact h3 t ht
theorem ambG_get {f : Nat → Tg} {b : Nat} : ∀ {k i : Nat}, ambG f b i k = false → ∀ j, i ≤ j → j < i + k → j ≠ b → (f b).most < (f j).least
  | 0, i, _, j, h1, h2, _ => by omega
  | k + 1, i, h, j, h1, h2, hb => by
    unfold ambG at h
    rw [Bool.or_eq_false_iff] at h
    by_cases e : j = i
    · subst e
      have := h.1
      rw [decide_eq_false hb] at this
      simpa using this
    · exact ambG_get h.2 j (by omega) (by omega) hb
/-- No error: all faces are said, and those that can be hit are there. -/
theorem tgs_has (v u : Nat → Nat → Int) (r : Ray) (n : Nat) : ∀ (k i : Nat), i + k = n → (∀ x ∈ tgs v u r k i, x.e = 0) → ∀ j, i ≤ j → j < n → 0 < (getE iv0 (cosE v r j)).hi → TgOk v u r n j (tgN (getE iv0 (cosE v r j)) (getE iv0 (gapE v u r j)) j) ∧ tgN (getE iv0 (cosE v r j)) (getE iv0 (gapE v u r j)) j ∈ tgs v u r k i
  | 0, i, _, _, j, h1, h2, _ => by omega
  | k + 1, i, h, hz, j, h1, h2, h3 => by
    have bad : ∀ e : Nat, (∀ x ∈ [tgE e], x.e = 0) → False := fun e hm => by
      have := hm _ (List.mem_cons_self ..)
      simp only [tgE, Int.ofNat_eq_natCast] at this
      omega
    unfold tgs at hz ⊢
    cases c1 : okE (cosE v r i)
    · rw [c1] at hz; exact (bad _ hz).elim
    rw [c1] at hz
    cases c2 : okE (dotE (bxOf v i) r.pt)
    · rw [c2] at hz; exact (bad _ hz).elim
    rw [c2] at hz
    cases c3 : okE (gapE v u r i)
    · rw [c3] at hz; exact (bad _ hz).elim
    rw [c3] at hz
    simp only [cond_true] at hz ⊢
    cases c4 : decide ((getE iv0 (cosE v r i)).hi ≤ 0)
    · rw [c4] at hz
      simp only [cond_false] at hz ⊢
      by_cases e : j = i
      · subst e
        exact ⟨⟨h2, c1, c2, c3, h3, rfl⟩, List.mem_cons_self ..⟩
      · obtain ⟨a, b⟩ := tgs_has v u r n k (i + 1) (by omega) (fun x hx => hz x (List.mem_cons_of_mem _ hx)) j (by omega) h2 h3
        exact ⟨a, List.mem_cons_of_mem _ b⟩
    · rw [c4] at hz
      simp only [cond_true] at hz ⊢
      have : j ≠ i := fun e => by
        subst e
        have : (getE iv0 (cosE v r j)).hi ≤ 0 := by simpa using c4
        omega
      exact tgs_has v u r n k (i + 1) (by omega) hz j (by omega) h2 h3
/-- A hit: its face, and that the others are farther. -/
theorem hit_ok4 {n m : Nat} {v u : Nat → Nat → Int} {x : Iv} {r : Ray} (h : okE (hitE n m v u x r) = true) : validB n m v u x = true ∧ r.pt.v = true ∧ r.dir.v = true ∧ ∃ i t, TgOk v u r n i t ∧ t.sure = true ∧ getE (0, iv0) (hitE n m v u x r) = (t.face, ⟨t.least, t.most⟩) ∧ vI t.least t.most = true ∧
    ∀ j, j < n → 0 < (getE iv0 (cosE v r j)).hi → ∃ t', TgOk v u r n j t' ∧ (j ≠ i → t.most < t'.least) := by
  obtain ⟨o1, o2, o3, i, t, hi, hs, hget⟩ := hit_ok3 h
  refine ⟨o1, o2, o3, i, t, hi, hs, hget, ?_⟩
  rw [hitE_eq, o1, o2, o3] at h hget
  simp only [Bool.and_self, Bool.not_true, cond_false] at h hget
  have z := hitGo_zero (tgs v u r n 0) 0 (fun _ => ⟨0, 0, 0, false, 0⟩) (-1)
  have hh := hitGo_has (tgs v u r n 0) 0 (fun _ => ⟨0, 0, 0, false, 0⟩) (-1)
  have hdef : hitGo (tgs v u r n 0) 0 (fun _ => ⟨0, 0, 0, false, 0⟩) (-1) = hitS v u r n := rfl
  rw [hdef] at z hh
  generalize hitS v u r n = s at *
  unfold hitS' at h hget
  cases h1 : decide (s.e = 0)
  · rw [h1] at h; cases h
  rw [h1] at h hget
  simp only [Bool.not_true, cond_false] at h hget
  cases h2 : Nat.beq s.n 0
  · rw [h2] at h hget
    simp only [cond_false] at h hget
    cases h3 : decide (s.b < 0)
    · rw [h3] at h hget
      simp only [cond_false] at h hget
      cases h4 : ambG s.f s.b.toNat 0 s.n
      · rw [h4] at h hget
        simp only [cond_false] at h hget
        cases h5 : vI (s.f s.b.toNat).least (s.f s.b.toNat).most
        · rw [h5] at h; cases h
        · rw [h5] at hget
          simp only [Bool.not_true, cond_false, getE, Prod.mk.injEq, Iv.mk.injEq] at hget
          obtain ⟨g1, g2, g3⟩ := hget
          have z0 := z (by simpa using h1)
          obtain ⟨_, _, hh3⟩ := hh z0
          refine ⟨by rw [← g2, ← g3]; exact h5, fun j hj hp => ?_⟩
          obtain ⟨a, b⟩ := tgs_has v u r n n 0 (by omega) z0 j (by omega) hj hp
          refine ⟨_, a, fun hne => ?_⟩
          obtain ⟨k, hk, ek⟩ := hh3 _ b
          rw [← g3, ← ek]
          refine ambG_get h4 k (by omega) (by omega) fun e => ?_
          subst e
          rw [ek] at g1
          have f1 : (tgN (getE iv0 (cosE v r j)) (getE iv0 (gapE v u r j)) j).face = j := by unfold tgN; cases decide (0 < (getE iv0 (cosE v r j)).lo) <;> rfl
          have f2 : t.face = i := by rw [hi.eq]; unfold tgN; cases decide (0 < (getE iv0 (cosE v r i)).lo) <;> rfl
          rw [f1, f2] at g1
          omega
      · rw [h4] at h; cases h
    · rw [h3] at h; cases h
  · rw [h2] at h; cases h
theorem pos_mul {k a : Int} (hk : 0 < k) : pos (k * a) = k * pos a := by
  unfold pos
  by_cases h : a > 0
  · rw [if_pos h, if_pos (Int.mul_pos hk h)]
  · rw [if_neg h, if_neg (fun h' => by have := Int.mul_le_mul_of_nonneg_left (show a ≤ 0 by omega) (show 0 ≤ k by omega); omega)]; omega
theorem pos_mono {a b : Int} (h : a ≤ b) : pos a ≤ pos b := by unfold pos; split <;> split <;> omega
theorem pos_nn (a : Int) : 0 ≤ pos a := by unfold pos; split <;> omega
/-- The way to a face, of the corner of the boxes. -/
def cosC (v : Nat → Nat → Int) (r : Ray) (i : Nat) : Int := dot3 (lo3 (bxOf v i)) (lo3 r.dir)
def gapC (v u : Nat → Nat → Int) (r : Ray) (i : Nat) : Int := u i 0 * 16777216 - dot3 (lo3 (bxOf v i)) (lo3 r.pt)
theorem len_in {n : Nat} {v u : Nat → Nat → Int} {r : Ray} {i : Nat} {t : Tg} (hi : TgOk v u r n i t) (hs : 0 < (getE iv0 (cosE v r i)).lo) (hu : (ivOf u i).v = true) : 0 < cosC v r i ∧ inS (cosC v r i) (16777216 * pos (gapC v u r i)) ⟨t.least, t.most⟩ := by
  have hc := hi.c
  have hp := hi.p
  have hg := hi.g
  obtain ⟨_, dv, _⟩ := dot_ok (show okE (dotE (bxOf v i) r.dir) = true from hc)
  obtain ⟨_, pv, _⟩ := dot_ok hp
  obtain ⟨c, ec⟩ : ∃ c, c = getE iv0 (cosE v r i) := ⟨_, rfl⟩
  obtain ⟨g, eg⟩ : ∃ g, g = getE iv0 (gapE v u r i) := ⟨_, rfl⟩
  have hpos := hi.pos
  have ht := hi.eq
  rw [← ec] at hpos ht hs
  rw [← eg] at ht
  have hle : t.least = dnq (pos g.lo * 16777216) c.hi ∧ t.most = upq (pos g.hi * 16777216) c.lo := by
    rw [ht]; unfold tgN; rw [decide_eq_true hs]; exact ⟨rfl, rfl⟩
  have ic : inS (1 * 16777216) (dot3 (lo3 (bxOf v i)) (lo3 r.dir)) c := by rw [ec]; exact dot_in (by decide) hc (lo_in dv)
  have ip : inS (1 * 16777216) (dot3 (lo3 (bxOf v i)) (lo3 r.pt)) (getE iv0 (dotE (bxOf v i) r.pt)) := dot_in (by decide) hp (lo_in pv)
  have iu : inS 1 (u i 0) (ivOf u i) := by
    have := iv_le hu
    simp only [ivOf] at this ⊢
    exact ⟨by show 1 * u i 0 ≤ u i 0; omega, by show u i 0 ≤ 1 * u i 1; omega⟩
  have ig : inS (1 * 16777216) (gapC v u r i) g := by rw [eg]; exact sub_in hg (in_scale (by decide) iu) ip
  obtain ⟨C, hC⟩ : ∃ C, C = cosC v r i := ⟨_, rfl⟩
  obtain ⟨G, hG⟩ : ∃ G, G = gapC v u r i := ⟨_, rfl⟩
  rw [show dot3 (lo3 (bxOf v i)) (lo3 r.dir) = C by rw [hC]; rfl] at ic
  rw [← hG] at ig ⊢
  rw [← hC]
  rw [Int.one_mul] at ic ig
  obtain ⟨c1, c2⟩ := ic
  obtain ⟨g1, g2⟩ := ig
  have hCp : 0 < C := by omega
  refine ⟨hCp, ?_⟩
  have l1 := dn_le (pos g.lo * 16777216) hpos
  have l2 := le_up (pos g.hi * 16777216) hs
  rw [← hle.1] at l1
  rw [← hle.2] at l2
  have p1 := pos_mono g1
  have p2 := pos_mono g2
  rw [pos_mul (by decide)] at p1 p2
  have n1 := pos_nn g.lo
  have n2 := pos_nn g.hi
  have hl0 : 0 ≤ t.least := by rw [hle.1]; unfold dnq; exact Int.ediv_nonneg (by omega) (by omega)
  constructor
  · show C * t.least ≤ 16777216 * pos G
    have e1 : C * t.least ≤ (16777216 * c.hi) * t.least := Int.mul_le_mul_of_nonneg_right c2 hl0
    rw [Int.mul_assoc] at e1
    omega
  · show 16777216 * pos G ≤ C * t.most
    have hm : 0 ≤ t.most := by
      rcases Int.lt_or_le t.most 0 with hneg | hneg
      · have := Int.mul_neg_of_pos_of_neg hs hneg; omega
      · exact hneg
    have e1 : (16777216 * c.lo) * t.most ≤ C * t.most := Int.mul_le_mul_of_nonneg_right c1 hm
    rw [Int.mul_assoc] at e1
    omega
theorem sure_lo {n : Nat} {v u : Nat → Nat → Int} {r : Ray} {i : Nat} {t : Tg} (hi : TgOk v u r n i t) (hs : t.sure = true) : 0 < (getE iv0 (cosE v r i)).lo := by
  rw [hi.eq] at hs
  unfold tgN at hs
  cases h : decide (0 < (getE iv0 (cosE v r i)).lo)
  · rw [h] at hs; cases hs
  · simpa using h
theorem valid_u {n m : Nat} {v u : Nat → Nat → Int} {x : Iv} (h : validB n m v u x = true) {i : Nat} (hi : i < n) : n = m ∧ (ivOf u i).v = true := by
  simp only [validB, Bool.and_eq_true, decide_eq_true_eq] at h
  obtain ⟨⟨_, _, hm, _⟩, _, hu⟩ := h
  exact ⟨by omega, allF_get hu i (Nat.zero_le _) (by omega)⟩
/-- The same face, and lengths that meet. -/
theorem scale_same {n m : Nat} {v u u2 : Nat → Nat → Int} {x : Iv} {r r2 : Ray} (hu : ∀ j, j < m → u2 j 0 = 2 * u j 0) (hd : r2.dir = r.dir) (hx : r2.pt.x.lo = 2 * r.pt.x.lo) (hy : r2.pt.y.lo = 2 * r.pt.y.lo) (hz : r2.pt.z.lo = 2 * r.pt.z.lo)
    (h1 : okE (hitE n m v u x r) = true) (h2 : okE (hitE n m v u2 x r2) = true) :
    (getE (0, iv0) (hitE n m v u x r)).1 = (getE (0, iv0) (hitE n m v u2 x r2)).1 ∧ (getE (0, iv0) (hitE n m v u2 x r2)).2.lo ≤ 2 * (getE (0, iv0) (hitE n m v u x r)).2.hi ∧ 2 * (getE (0, iv0) (hitE n m v u x r)).2.lo ≤ (getE (0, iv0) (hitE n m v u2 x r2)).2.hi ∧ vI (getE (0, iv0) (hitE n m v u x r)).2.lo (getE (0, iv0) (hitE n m v u x r)).2.hi = true := by
  obtain ⟨V1, _, _, i, t, hi, hs, e1, hv, a1⟩ := hit_ok4 h1
  obtain ⟨V2, _, _, k, s, hk, hs2, e2, _, a2⟩ := hit_ok4 h2
  rw [e1, e2]
  have hcos : ∀ j, cosE v r2 j = cosE v r j := fun j => by unfold cosE; rw [hd]
  have hcosC : ∀ j, cosC v r2 j = cosC v r j := fun j => by unfold cosC; rw [hd]
  have ci := sure_lo hi hs
  have ck := sure_lo hk hs2
  rw [hcos] at ck
  have gap2 : ∀ j, j < n → gapC v u2 r2 j = 2 * gapC v u r j := fun j hj => by
    obtain ⟨e, _⟩ := valid_u V1 hj
    unfold gapC
    rw [hu j (by omega)]
    simp only [dot3, lo3, hx, hy, hz]
    simp only [Int.mul_sub, Int.mul_add, Int.mul_left_comm _ (2 : Int), Int.mul_assoc]
  have hpk := hk.pos
  rw [hcos] at hpk
  obtain ⟨tk, otk, ak⟩ := a1 k hk.lt hpk
  obtain ⟨si, osi, bi⟩ := a2 i hi.lt (by rw [hcos]; exact hi.pos)
  obtain ⟨_, ui1⟩ := valid_u V1 hi.lt
  obtain ⟨_, uk1⟩ := valid_u V1 hk.lt
  obtain ⟨_, ui2⟩ := valid_u V2 hi.lt
  obtain ⟨_, uk2⟩ := valid_u V2 hk.lt
  obtain ⟨Ci, l1, l2⟩ := len_in hi ci ui1
  obtain ⟨Ck, l3, l4⟩ := len_in otk ck uk1
  obtain ⟨_, l5, l6⟩ := len_in hk (by rw [hcos]; exact ck) uk2
  obtain ⟨_, l7, l8⟩ := len_in osi (by rw [hcos]; exact ci) ui2
  rw [hcosC, gap2 _ hk.lt, pos_mul (by decide)] at l5 l6
  rw [hcosC, gap2 _ hi.lt, pos_mul (by decide)] at l7 l8
  have fi : t.face = i := by rw [hi.eq]; unfold tgN; cases decide (0 < (getE iv0 (cosE v r i)).lo) <;> rfl
  have fk : s.face = k := by rw [hk.eq]; unfold tgN; cases decide (0 < (getE iv0 (cosE v r2 k)).lo) <;> rfl
  generalize hX : pos (gapC v u r i) = X at *
  generalize hY : pos (gapC v u r k) = Y at *
  generalize hA : cosC v r i = A at *
  generalize hB : cosC v r k = B at *
  by_cases e : i = k
  · subst e
    obtain rfl : A = B := by rw [← hA, ← hB]
    obtain rfl : X = Y := by rw [← hX, ← hY]
    refine ⟨by rw [fi, fk], ?_, ?_, hv⟩
    · show s.least ≤ 2 * t.most
      refine mul_cancel Ci ?_
      have w1 : A * s.least ≤ 16777216 * (2 * X) := l5
      have w2 : 16777216 * X ≤ A * t.most := l2
      rw [Int.mul_left_comm A 2]
      omega
    · show 2 * t.least ≤ s.most
      refine mul_cancel Ci ?_
      have w1 : 16777216 * (2 * X) ≤ A * s.most := l6
      have w2 : A * t.least ≤ 16777216 * X := l1
      rw [Int.mul_left_comm A 2]
      omega
  · have q1 := ak (fun h => e h.symm)
    have q2 := bi e
    exfalso
    have w1 : 16777216 * X ≤ A * t.most := l2
    have w2 : B * tk.least ≤ 16777216 * Y := l3
    have w3 : 16777216 * (2 * Y) ≤ B * s.most := l6
    have w4 : A * si.least ≤ 16777216 * (2 * X) := l7
    -- in the first run, i is nearer; in the second, k
    have v1 : B * (16777216 * X) ≤ B * (A * t.most) := Int.mul_le_mul_of_nonneg_left w1 (by omega)
    have v2 : A * (B * tk.least) ≤ A * (16777216 * Y) := Int.mul_le_mul_of_nonneg_left w2 (by omega)
    have v3 : A * (16777216 * (2 * Y)) ≤ A * (B * s.most) := Int.mul_le_mul_of_nonneg_left w3 (by omega)
    have v4 : B * (A * si.least) ≤ B * (16777216 * (2 * X)) := Int.mul_le_mul_of_nonneg_left w4 (by omega)
    have hAB : 0 < A * B := Int.mul_pos Ci Ck
    have u1 : A * B * t.most < A * B * tk.least := Int.mul_lt_mul_of_pos_left q1 hAB
    have u2' : A * B * s.most < A * B * si.least := Int.mul_lt_mul_of_pos_left q2 hAB
    have r1 : B * (A * t.most) = A * B * t.most := by rw [Int.mul_left_comm, Int.mul_assoc]
    have r2' : A * (B * tk.least) = A * B * tk.least := by rw [Int.mul_assoc]
    have r3 : A * (B * s.most) = A * B * s.most := by rw [Int.mul_assoc]
    have r4 : B * (A * si.least) = A * B * si.least := by rw [Int.mul_left_comm, Int.mul_assoc]
    have z1 : B * (16777216 * X) = 16777216 * (B * X) := Int.mul_left_comm ..
    have z2 : A * (16777216 * Y) = 16777216 * (A * Y) := Int.mul_left_comm ..
    have z3 : A * (16777216 * (2 * Y)) = 16777216 * (2 * (A * Y)) := by rw [Int.mul_left_comm, Int.mul_left_comm A]
    have z4 : B * (16777216 * (2 * X)) = 16777216 * (2 * (B * X)) := by rw [Int.mul_left_comm, Int.mul_left_comm B]
    omega
end Go.Proofs.Ytbgdfikfldkjbaa.AI
