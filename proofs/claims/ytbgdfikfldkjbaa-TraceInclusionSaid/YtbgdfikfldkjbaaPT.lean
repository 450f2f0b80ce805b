/- TracePoint, the plain law: intervals contain what they stand for. -/
import Derived.Test.YtbgdfikfldkjbaaNP
namespace Go.Proofs.Ytbgdfikfldkjbaa.AI
set_option linter.unnecessarySimpa false
open Go
set_option linter.unusedVariables false
set_option linter.unusedSimpArgs false
/-- p / q lies in X. -/
def inS (q p : Int) (X : Iv) : Prop := q * X.lo ≤ p ∧ p ≤ q * X.hi
theorem ok_ex {α : Type} {e : Er α} (d : α) (h : okE e = true) : e = .ok (getE d e) := by
  cases e with
  | ok x => rfl
  | error n => cases h
theorem bind_ok {α β : Type} {e : Er α} {f : α → Er β} (h : okE (bindE e f) = true) : ∃ x, e = .ok x ∧ bindE e f = f x := by
  cases e with
  | ok x => exact ⟨x, rfl, rfl⟩
  | error n => cases h
theorem mk_ok {a b : Int} (h : okE (mkE a b) = true) : mkE a b = .ok ⟨a, b⟩ := by
  unfold mkE at *
  cases hr : inR a b
  · rw [hr] at h; cases h
  · rfl
theorem add_in {X Y : Iv} {q p p' : Int} (h : okE (addE X Y) = true) (hx : inS q p X) (hy : inS q p' Y) : inS q (p + p') (getE iv0 (addE X Y)) := by
  unfold addE at *
  cases hv : (X.v && Y.v)
  · rw [hv] at h; cases h
  simp only [hv, cond_true] at h ⊢
  rw [mk_ok h]
  obtain ⟨h1, h2⟩ := hx
  obtain ⟨h3, h4⟩ := hy
  exact ⟨by simp only [getE]; rw [Int.mul_add]; omega, by simp only [getE]; rw [Int.mul_add]; omega⟩
theorem sub_in {X Y : Iv} {q p p' : Int} (h : okE (subE X Y) = true) (hx : inS q p X) (hy : inS q p' Y) : inS q (p - p') (getE iv0 (subE X Y)) := by
  unfold subE at *
  cases hv : (X.v && Y.v)
  · rw [hv] at h; cases h
  simp only [hv, cond_true] at h ⊢
  rw [mk_ok h]
  obtain ⟨h1, h2⟩ := hx
  obtain ⟨h3, h4⟩ := hy
  exact ⟨by simp only [getE]; rw [Int.mul_sub]; omega, by simp only [getE]; rw [Int.mul_sub]; omega⟩
theorem min4_le {a b c d : Int} : min4 a b c d ≤ a ∧ min4 a b c d ≤ b ∧ min4 a b c d ≤ c ∧ min4 a b c d ≤ d := by unfold min4; omega
theorem le_max4 {a b c d : Int} : a ≤ max4 a b c d ∧ b ≤ max4 a b c d ∧ c ≤ max4 a b c d ∧ d ≤ max4 a b c d := by unfold max4; omega
theorem dn_le (a : Int) {b : Int} (hb : 0 < b) : b * dnq a b ≤ a := by unfold dnq; exact Int.mul_ediv_self_le (by omega)
theorem le_up (a : Int) {b : Int} (hb : 0 < b) : a ≤ b * upq a b := by
  unfold upq
  have := Int.mul_ediv_self_le (x := -a) (k := b) (by omega)
  rw [Int.mul_neg]; omega
/-- Products of what lies between. -/
theorem mul_lo {x1 x2 a : Int} (h1 : x1 ≤ a) (h2 : a ≤ x2) (y : Int) : x1 * y ≤ a * y ∨ x2 * y ≤ a * y := by
  rcases Int.le_total 0 y with hy | hy
  · exact .inl (Int.mul_le_mul_of_nonneg_right h1 hy)
  · exact .inr (Int.mul_le_mul_of_nonpos_right h2 hy)
theorem mul_hi {x1 x2 a : Int} (h1 : x1 ≤ a) (h2 : a ≤ x2) (y : Int) : a * y ≤ x1 * y ∨ a * y ≤ x2 * y := by
  rcases Int.le_total 0 y with hy | hy
  · exact .inr (Int.mul_le_mul_of_nonneg_right h2 hy)
  · exact .inl (Int.mul_le_mul_of_nonpos_right h1 hy)
theorem mul_in {X Y : Iv} {a q p : Int} (hq : 0 < q) (h : okE (mulE X Y) = true) (h1 : X.lo ≤ a) (h2 : a ≤ X.hi) (hy : inS q p Y) : inS (q * 16777216) (a * p) (getE iv0 (mulE X Y)) := by
  unfold mulE at *
  cases hv : (X.v && Y.v)
  · rw [hv] at h; cases h
  simp only [hv, cond_true] at h ⊢
  rw [mk_ok h]
  obtain ⟨h3, h4⟩ := hy
  have q0 : 0 ≤ q := by omega
  -- the least
  have lo : q * min4 (X.lo * Y.lo) (X.lo * Y.hi) (X.hi * Y.lo) (X.hi * Y.hi) ≤ a * p := by
    have m := min4_le (a := X.lo * Y.lo) (b := X.lo * Y.hi) (c := X.hi * Y.lo) (d := X.hi * Y.hi)
    have key : ∀ y : Int, q * (a * y) ≤ a * p → min4 (X.lo * Y.lo) (X.lo * Y.hi) (X.hi * Y.lo) (X.hi * Y.hi) ≤ a * y → q * min4 (X.lo * Y.lo) (X.lo * Y.hi) (X.hi * Y.lo) (X.hi * Y.hi) ≤ a * p := fun y e1 e2 => Int.le_trans (Int.mul_le_mul_of_nonneg_left e2 q0) e1
    rcases Int.le_total 0 a with ha | ha
    · refine key Y.lo ?_ ?_
      · rw [show q * (a * Y.lo) = a * (q * Y.lo) by rw [← Int.mul_assoc, Int.mul_comm q a, Int.mul_assoc]]
        exact Int.mul_le_mul_of_nonneg_left h3 ha
      · rcases mul_lo h1 h2 Y.lo with e | e
        · exact Int.le_trans m.1 e
        · exact Int.le_trans m.2.2.1 e
    · refine key Y.hi ?_ ?_
      · rw [show q * (a * Y.hi) = a * (q * Y.hi) by rw [← Int.mul_assoc, Int.mul_comm q a, Int.mul_assoc]]
        exact Int.mul_le_mul_of_nonpos_left ha h4
      · rcases mul_lo h1 h2 Y.hi with e | e
        · exact Int.le_trans m.2.1 e
        · exact Int.le_trans m.2.2.2 e
  have hi : a * p ≤ q * max4 (X.lo * Y.lo) (X.lo * Y.hi) (X.hi * Y.lo) (X.hi * Y.hi) := by
    have m := le_max4 (a := X.lo * Y.lo) (b := X.lo * Y.hi) (c := X.hi * Y.lo) (d := X.hi * Y.hi)
    have key : ∀ y : Int, a * p ≤ q * (a * y) → a * y ≤ max4 (X.lo * Y.lo) (X.lo * Y.hi) (X.hi * Y.lo) (X.hi * Y.hi) → a * p ≤ q * max4 (X.lo * Y.lo) (X.lo * Y.hi) (X.hi * Y.lo) (X.hi * Y.hi) := fun y e1 e2 => Int.le_trans e1 (Int.mul_le_mul_of_nonneg_left e2 q0)
    rcases Int.le_total 0 a with ha | ha
    · refine key Y.hi ?_ ?_
      · rw [show q * (a * Y.hi) = a * (q * Y.hi) by rw [← Int.mul_assoc, Int.mul_comm q a, Int.mul_assoc]]
        exact Int.mul_le_mul_of_nonneg_left h4 ha
      · rcases mul_hi h1 h2 Y.hi with e | e
        · exact Int.le_trans e m.2.1
        · exact Int.le_trans e m.2.2.2
    · refine key Y.lo ?_ ?_
      · rw [show q * (a * Y.lo) = a * (q * Y.lo) by rw [← Int.mul_assoc, Int.mul_comm q a, Int.mul_assoc]]
        exact Int.mul_le_mul_of_nonpos_left ha h3
      · rcases mul_hi h1 h2 Y.lo with e | e
        · exact Int.le_trans e m.1
        · exact Int.le_trans e m.2.2.1
  constructor
  · show q * 16777216 * dnq _ 16777216 ≤ a * p
    rw [Int.mul_assoc]
    exact Int.le_trans (Int.mul_le_mul_of_nonneg_left (dn_le _ (by decide)) q0) lo
  · show a * p ≤ q * 16777216 * upq _ 16777216
    rw [Int.mul_assoc]
    exact Int.le_trans hi (Int.mul_le_mul_of_nonneg_left (le_up _ (by decide)) q0)
theorem in_scale {q p k : Int} {X : Iv} (hk : 0 ≤ k) (h : inS q p X) : inS (q * k) (p * k) X := by
  obtain ⟨h1, h2⟩ := h
  constructor
  · rw [Int.mul_assoc, Int.mul_comm k X.lo, ← Int.mul_assoc]; exact Int.mul_le_mul_of_nonneg_right h1 hk
  · rw [Int.mul_assoc q k, Int.mul_comm k X.hi, ← Int.mul_assoc]; exact Int.mul_le_mul_of_nonneg_right h2 hk
theorem iv_le {X : Iv} (h : X.v = true) : X.lo ≤ X.hi := by simp only [Iv.v, vI_iff] at h; omega
/-- The corner of a box. -/
structure P3 where
  x : Int
  y : Int
  z : Int
def lo3 (a : Bx) : P3 := ⟨a.x.lo, a.y.lo, a.z.lo⟩
def dot3 (a b : P3) : Int := a.x * b.x + a.y * b.y + a.z * b.z
def inB (q : Int) (p : P3) (X : Bx) : Prop := inS q p.x X.x ∧ inS q p.y X.y ∧ inS q p.z X.z
theorem lo_in {a : Bx} (h : a.v = true) : inB 1 (lo3 a) a := by
  simp only [Bx.v, Bool.and_eq_true] at h
  have h1 := iv_le h.1
  have h2 := iv_le h.2.1
  have h3 := iv_le h.2.2
  refine ⟨⟨?_, ?_⟩, ⟨?_, ?_⟩, ?_, ?_⟩ <;> simp only [lo3] <;> omega
theorem dot_ok {a b : Bx} (h : okE (dotE a b) = true) : a.v = true ∧ b.v = true ∧ okE (mulE a.x b.x) = true ∧ okE (mulE a.y b.y) = true ∧ okE (mulE a.z b.z) = true ∧ okE (addE (getE iv0 (mulE a.x b.x)) (getE iv0 (mulE a.y b.y))) = true ∧
    okE (addE (getE iv0 (addE (getE iv0 (mulE a.x b.x)) (getE iv0 (mulE a.y b.y)))) (getE iv0 (mulE a.z b.z))) = true ∧ dotE a b = addE (getE iv0 (addE (getE iv0 (mulE a.x b.x)) (getE iv0 (mulE a.y b.y)))) (getE iv0 (mulE a.z b.z)) := by
  unfold dotE at *
  cases hv : (a.v && b.v)
  · rw [hv] at h; cases h
  simp only [hv, cond_true] at h ⊢
  rw [Bool.and_eq_true] at hv
  obtain ⟨x, e1, g1⟩ := bind_ok h
  rw [g1] at h ⊢
  obtain ⟨y, e2, g2⟩ := bind_ok h
  rw [g2] at h ⊢
  obtain ⟨z, e3, g3⟩ := bind_ok h
  rw [g3] at h ⊢
  obtain ⟨s, e4, g4⟩ := bind_ok h
  rw [g4] at h ⊢
  rw [e1, e2, e3]
  simp only [getE, okE]
  rw [e4]
  exact ⟨hv.1, hv.2, trivial, trivial, trivial, rfl, h, rfl⟩
theorem dot_in {a b : Bx} {q : Int} {p : P3} (hq : 0 < q) (h : okE (dotE a b) = true) (hb : inB q p b) : inS (q * 16777216) (dot3 (lo3 a) p) (getE iv0 (dotE a b)) := by
  obtain ⟨va, vb, o1, o2, o3, o4, o5, e⟩ := dot_ok h
  rw [e]
  simp only [Bx.v, Bool.and_eq_true] at va
  exact add_in o5 (add_in o4 (mul_in hq o1 (Int.le_refl _) (iv_le va.1) hb.1) (mul_in hq o2 (Int.le_refl _) (iv_le va.2.1) hb.2.1)) (mul_in hq o3 (Int.le_refl _) (iv_le va.2.2) hb.2.2)

theorem scale_ok {a : Bx} {k : Iv} (h : okE (scaleE a k) = true) : a.v = true ∧ k.v = true ∧ okE (mulE a.x k) = true ∧ okE (mulE a.y k) = true ∧ okE (mulE a.z k) = true ∧ getE bx0 (scaleE a k) = ⟨getE iv0 (mulE a.x k), getE iv0 (mulE a.y k), getE iv0 (mulE a.z k)⟩ := by
  unfold scaleE at *
  cases hv : (a.v && k.v)
  · rw [hv] at h; cases h
  simp only [hv, cond_true] at h ⊢
  rw [Bool.and_eq_true] at hv
  obtain ⟨x, e1, g1⟩ := bind_ok h
  rw [g1] at h ⊢
  obtain ⟨y, e2, g2⟩ := bind_ok h
  rw [g2] at h ⊢
  obtain ⟨z, e3, g3⟩ := bind_ok h
  rw [g3] at h ⊢
  rw [e1, e2, e3]
  exact ⟨hv.1, hv.2, rfl, rfl, rfl, rfl⟩
theorem addB_ok {a b : Bx} (h : okE (addB a b) = true) : a.v = true ∧ b.v = true ∧ okE (addE a.x b.x) = true ∧ okE (addE a.y b.y) = true ∧ okE (addE a.z b.z) = true ∧ getE bx0 (addB a b) = ⟨getE iv0 (addE a.x b.x), getE iv0 (addE a.y b.y), getE iv0 (addE a.z b.z)⟩ := by
  unfold addB mapE at *
  cases hv : (a.v && b.v)
  · rw [hv] at h; cases h
  simp only [hv, cond_true] at h ⊢
  rw [Bool.and_eq_true] at hv
  obtain ⟨x, e1, g1⟩ := bind_ok h
  rw [g1] at h ⊢
  obtain ⟨y, e2, g2⟩ := bind_ok h
  rw [g2] at h ⊢
  obtain ⟨z, e3, g3⟩ := bind_ok h
  rw [g3] at h ⊢
  rw [e1, e2, e3]
  exact ⟨hv.1, hv.2, rfl, rfl, rfl, rfl⟩
/-- What is known of a face that was found. -/
structure TgOk (v u : Nat → Nat → Int) (r : Ray) (n i : Nat) (t : Tg) : Prop where
  lt : i < n
  c : okE (cosE v r i) = true
  p : okE (dotE (bxOf v i) r.pt) = true
  g : okE (gapE v u r i) = true
  pos : 0 < (getE iv0 (cosE v r i)).hi
  eq : t = tgN (getE iv0 (cosE v r i)) (getE iv0 (gapE v u r i)) i
theorem tgs_ok (v u : Nat → Nat → Int) (r : Ray) (n : Nat) : ∀ (k i : Nat), i + k = n → ∀ x ∈ tgs v u r k i, x.e = 0 → ∃ j, TgOk v u r n j x
  | 0, i, _, x, hx, _ => by cases hx
  | k + 1, i, h, x, hx, he => by
    have bad : ∀ e : Nat, x ∈ [tgE e] → False := fun e hm => by
      rw [List.mem_singleton.1 hm] at he
      simp only [tgE, Int.ofNat_eq_natCast] at he
      omega
    unfold tgs at hx
    cases h1 : okE (cosE v r i)
    · rw [h1] at hx; exact (bad _ hx).elim
    rw [h1] at hx
    cases h2 : okE (dotE (bxOf v i) r.pt)
    · rw [h2] at hx; exact (bad _ hx).elim
    rw [h2] at hx
    cases h3 : okE (gapE v u r i)
    · rw [h3] at hx; exact (bad _ hx).elim
    rw [h3] at hx
    cases h4 : decide ((getE iv0 (cosE v r i)).hi ≤ 0)
    · rw [h4] at hx
      rcases List.mem_cons.1 hx with rfl | hx
      · exact ⟨i, by omega, h1, h2, h3, by simpa using h4, rfl⟩
      · exact tgs_ok v u r n k (i + 1) (by omega) x hx he
    · rw [h4] at hx; exact tgs_ok v u r n k (i + 1) (by omega) x hx he
theorem putF_eq (f : Nat → Tg) (n : Nat) (x : Tg) (j : Nat) : putF f n x j = if j < n then f j else x := by
  unfold putF
  by_cases h : j < n
  · have : Nat.blt j n = true := by rw [Nat.blt_eq]; exact h
    rw [this, if_pos h]; rfl
  · have : Nat.blt j n = false := by
      cases hb : Nat.blt j n
      · rfl
      · rw [Nat.blt_eq] at hb; exact absurd hb h
    rw [this, if_neg h]; rfl
/-- What holds of all that came, and of the best. -/
theorem hitGo_all (Pd : Tg → Prop) : ∀ (xs : List Tg) (n : Nat) (f : Nat → Tg) (b : Int), (∀ x ∈ xs, x.e = 0 → Pd x) → (∀ j, j < n → Pd (f j)) → (0 ≤ b → b < n ∧ (f b.toNat).sure = true) → (∀ j, j < (hitGo xs n f b).n → Pd ((hitGo xs n f b).f j)) ∧ (0 ≤ (hitGo xs n f b).b → (hitGo xs n f b).b < (hitGo xs n f b).n ∧ ((hitGo xs n f b).f (hitGo xs n f b).b.toNat).sure = true)
  | [], n, f, b, _, h2, h3 => ⟨h2, h3⟩
  | x :: xs, n, f, b, h1, h2, h3 => by
    unfold hitGo
    cases he : decide (x.e = 0)
    · exact ⟨h2, h3⟩
    · simp only [Bool.not_true, cond_false]
      have hx : x.e = 0 := by simpa using he
      refine hitGo_all Pd xs (n + 1) (putF f n x) (nextB n f b x) (fun y hy => h1 y (List.mem_cons_of_mem _ hy)) (fun j hj => ?_) fun hb => ?_
      · rw [putF_eq]
        split
        · exact h2 j ‹_›
        · exact h1 x (List.mem_cons_self ..) hx
      · unfold nextB at hb ⊢
        cases hc : x.sure && (decide (b < 0) || decide (x.most < (f b.toNat).most))
        · rw [hc] at hb
          simp only [cond_false] at hb ⊢
          obtain ⟨g1, g2⟩ := h3 hb
          refine ⟨by omega, ?_⟩
          rw [putF_eq, if_pos (by omega)]
          exact g2
        · rw [Bool.and_eq_true] at hc
          simp only [cond_true, Int.ofNat_eq_natCast]
          refine ⟨by omega, ?_⟩
          rw [Int.toNat_natCast, putF_eq, if_neg (by omega)]
          exact hc.1
theorem hitE_arr (n m : Nat) (v u : Nat → Nat → Int) (x : Iv) (r : Ray) : hitE n m (numOf (arrC 6 v)) (numOf (arrC 2 u)) x r = hitE n m v u x r := by
  rw [hitE_eq, hitE_eq, valid_arr]
  unfold hitS
  rw [tgs_arr]
/-- A hit: a face that was found, sure. -/
theorem hit_ok3 {n m : Nat} {v u : Nat → Nat → Int} {x : Iv} {r : Ray} (h : okE (hitE n m v u x r) = true) : validB n m v u x = true ∧ r.pt.v = true ∧ r.dir.v = true ∧ ∃ i t, TgOk v u r n i t ∧ t.sure = true ∧ getE (0, iv0) (hitE n m v u x r) = (t.face, ⟨t.least, t.most⟩) := by
  rw [hitE_eq] at h ⊢
  cases hv : validB n m v u x
  · rw [hv] at h; cases h
  cases hr : (r.pt.v && r.dir.v)
  · rw [hv, hr] at h; cases h
  rw [hv, hr] at h
  simp only [Bool.not_true, cond_false] at h ⊢
  rw [Bool.and_eq_true] at hr
  refine ⟨trivial, hr.1, hr.2, ?_⟩
  have inv := hitGo_all (fun t => ∃ j, TgOk v u r n j t) (tgs v u r n 0) 0 (fun _ => ⟨0, 0, 0, false, 0⟩) (-1) (tgs_ok v u r n n 0 (by omega)) (fun j hj => by omega) (fun hb => by omega)
  have hdef : hitGo (tgs v u r n 0) 0 (fun _ => ⟨0, 0, 0, false, 0⟩) (-1) = hitS v u r n := rfl
  rw [hdef] at inv
  generalize hitS v u r n = s at *
  unfold hitS' at h ⊢
  cases h1 : decide (s.e = 0)
  · rw [h1] at h; cases h
  rw [h1] at h
  simp only [Bool.not_true, cond_false] at h ⊢
  cases h2 : Nat.beq s.n 0
  · rw [h2] at h
    simp only [cond_false] at h ⊢
    cases h3 : decide (s.b < 0)
    · rw [h3] at h
      simp only [cond_false] at h ⊢
      cases h4 : ambG s.f s.b.toNat 0 s.n
      · rw [h4] at h
        simp only [cond_false] at h ⊢
        cases h5 : vI (s.f s.b.toNat).least (s.f s.b.toNat).most
        · rw [h5] at h; cases h
        · have hb : 0 ≤ s.b := by simpa using h3
          obtain ⟨g1, g2⟩ := inv.2 hb
          obtain ⟨i, hi⟩ := inv.1 s.b.toNat (by omega)
          exact ⟨i, _, hi, g2, rfl⟩
      · rw [h4] at h; cases h
    · rw [h3] at h; cases h
  · rw [h2] at h; cases h
theorem allF_get {p : Nat → Bool} : ∀ {k i : Nat}, allF p i k = true → ∀ j, i ≤ j → j < i + k → p j = true
  | 0, i, _, j, h1, h2 => by omega
  | k + 1, i, h, j, h1, h2 => by
    unfold allF at h
    rw [Bool.and_eq_true] at h
    by_cases e : j = i
    · rw [e]; exact h.1
    · exact allF_get h.2 j (by omega) (by omega)
theorem mul_cancel {q a b : Int} (hq : 0 < q) (h : q * a ≤ q * b) : a ≤ b := Int.le_of_mul_le_mul_left h hq
/-- The scalar product at the point that was hit, and the distance. -/
theorem point_meets {n m : Nat} {v u : Nat → Nat → Int} {r : Ray} {i : Nat} {t : Tg} (hi : TgOk v u r n i t) (hs : t.sure = true) (hu : (ivOf u i).v = true) (hl : 0 < t.least)
    (hd : okE (scaleE r.dir ⟨t.least, t.most⟩) = true) (ha : okE (addB r.pt (getE bx0 (scaleE r.dir ⟨t.least, t.most⟩))) = true) (hq : okE (dotE (bxOf v i) (getE bx0 (addB r.pt (getE bx0 (scaleE r.dir ⟨t.least, t.most⟩))))) = true) :
    (getE iv0 (dotE (bxOf v i) (getE bx0 (addB r.pt (getE bx0 (scaleE r.dir ⟨t.least, t.most⟩)))))).lo ≤ u i 0 ∧ u i 0 ≤ (getE iv0 (dotE (bxOf v i) (getE bx0 (addB r.pt (getE bx0 (scaleE r.dir ⟨t.least, t.most⟩)))))).hi := by
  have hc := hi.c
  have hp := hi.p
  have hg := hi.g
  obtain ⟨mv, dv, _⟩ := dot_ok (show okE (dotE (bxOf v i) r.dir) = true from hc)
  obtain ⟨_, pv, _⟩ := dot_ok hp
  obtain ⟨c, ec⟩ : ∃ c, c = getE iv0 (cosE v r i) := ⟨_, rfl⟩
  obtain ⟨g, eg⟩ : ∃ g, g = getE iv0 (gapE v u r i) := ⟨_, rfl⟩
  have hpos := hi.pos
  have ht := hi.eq
  rw [← ec] at hpos ht
  rw [← eg] at ht
  have hclo : 0 < c.lo := by
    rw [ht] at hs
    unfold tgN at hs
    cases h : decide (0 < c.lo)
    · rw [h] at hs; cases hs
    · simpa using h
  have hle : t.least = dnq (pos g.lo * 16777216) c.hi ∧ t.most = upq (pos g.hi * 16777216) c.lo := by
    rw [ht]; unfold tgN; rw [decide_eq_true hclo]; exact ⟨rfl, rfl⟩
  -- the witnesses
  have ic : inS (1 * 16777216) (dot3 (lo3 (bxOf v i)) (lo3 r.dir)) c := by rw [ec]; exact dot_in (by decide) hc (lo_in dv)
  have ip : inS (1 * 16777216) (dot3 (lo3 (bxOf v i)) (lo3 r.pt)) (getE iv0 (dotE (bxOf v i) r.pt)) := dot_in (by decide) hp (lo_in pv)
  have iu : inS 1 (u i 0) (ivOf u i) := by
    have := iv_le hu
    simp only [ivOf] at this ⊢
    exact ⟨by show 1 * u i 0 ≤ u i 0; omega, by show u i 0 ≤ 1 * u i 1; omega⟩
  have ig : inS (1 * 16777216) (u i 0 * 16777216 - dot3 (lo3 (bxOf v i)) (lo3 r.pt)) g := by rw [eg]; exact sub_in hg (in_scale (by decide) iu) ip
  obtain ⟨C, hC⟩ : ∃ C, C = dot3 (lo3 (bxOf v i)) (lo3 r.dir) := ⟨_, rfl⟩
  obtain ⟨Tp, hT⟩ : ∃ Tp, Tp = dot3 (lo3 (bxOf v i)) (lo3 r.pt) := ⟨_, rfl⟩
  obtain ⟨G, hG⟩ : ∃ G, G = u i 0 * 16777216 - Tp := ⟨_, rfl⟩
  rw [← hC] at ic
  rw [← hT, ← hG] at ig
  rw [Int.one_mul] at ic ig
  obtain ⟨c1, c2⟩ := ic
  obtain ⟨g1, g2⟩ := ig
  have hCp : 0 < C := by omega
  have l1 := dn_le (pos g.lo * 16777216) hpos
  have l2 := le_up (pos g.hi * 16777216) hclo
  rw [← hle.1] at l1
  rw [← hle.2] at l2
  have hgl : 0 < g.lo := by
    unfold pos at l1
    by_cases hh : g.lo > 0
    · exact hh
    · rw [if_neg hh] at l1
      have : 0 < c.hi * t.least := Int.mul_pos hpos hl
      omega
  have p1 : pos g.lo = g.lo := by unfold pos; rw [if_pos hgl]
  have hgh : 0 < g.hi := by omega
  have p2 : pos g.hi = g.hi := by unfold pos; rw [if_pos hgh]
  rw [p1] at l1
  rw [p2] at l2
  -- the length contains U G / C
  have il : inS C (16777216 * G) ⟨t.least, t.most⟩ := by
    constructor
    · show C * t.least ≤ 16777216 * G
      have e1 : C * t.least ≤ (16777216 * c.hi) * t.least := Int.mul_le_mul_of_nonneg_right c2 (by omega)
      rw [Int.mul_assoc] at e1
      omega
    · show 16777216 * G ≤ C * t.most
      have hm : 0 ≤ t.most := by
        have : 0 < c.lo * t.most := by omega
        rcases Int.lt_or_le t.most 0 with hneg | hneg
        · have := Int.mul_neg_of_pos_of_neg hclo hneg; omega
        · exact hneg
      have e1 : (16777216 * c.lo) * t.most ≤ C * t.most := Int.mul_le_mul_of_nonneg_right c1 hm
      rw [Int.mul_assoc] at e1
      omega
  obtain ⟨_, _, m1, m2, m3, ed⟩ := scale_ok hd
  have dlo := lo_in dv
  simp only [Bx.v, Bool.and_eq_true] at dv
  have w1 := mul_in hCp m1 (Int.le_refl _) (iv_le dv.1) il
  have w2 := mul_in hCp m2 (Int.le_refl _) (iv_le dv.2.1) il
  have w3 := mul_in hCp m3 (Int.le_refl _) (iv_le dv.2.2) il
  obtain ⟨_, _, a1, a2, a3, ea⟩ := addB_ok ha
  have plo := lo_in pv
  have hCU : 0 ≤ C * 16777216 := by omega
  have x1 : inS (C * 16777216) (r.pt.x.lo * (C * 16777216)) r.pt.x := by have := in_scale hCU plo.1; rwa [Int.one_mul] at this
  have x2 : inS (C * 16777216) (r.pt.y.lo * (C * 16777216)) r.pt.y := by have := in_scale hCU plo.2.1; rwa [Int.one_mul] at this
  have x3 : inS (C * 16777216) (r.pt.z.lo * (C * 16777216)) r.pt.z := by have := in_scale hCU plo.2.2; rwa [Int.one_mul] at this
  rw [ed] at a1 a2 a3
  have ib : inB (C * 16777216) ⟨r.pt.x.lo * (C * 16777216) + r.dir.x.lo * (16777216 * G), r.pt.y.lo * (C * 16777216) + r.dir.y.lo * (16777216 * G), r.pt.z.lo * (C * 16777216) + r.dir.z.lo * (16777216 * G)⟩ (getE bx0 (addB r.pt (getE bx0 (scaleE r.dir ⟨t.least, t.most⟩)))) := by
    rw [ea, ed]
    exact ⟨add_in a1 x1 w1, add_in a2 x2 w2, add_in a3 x3 w3⟩
  have iq := dot_in (by omega) hq ib
  obtain ⟨q, eq⟩ : ∃ q, q = getE iv0 (dotE (bxOf v i) (getE bx0 (addB r.pt (getE bx0 (scaleE r.dir ⟨t.least, t.most⟩))))) := ⟨_, rfl⟩
  rw [← eq] at iq ⊢
  have e : dot3 (lo3 (bxOf v i)) ⟨r.pt.x.lo * (C * 16777216) + r.dir.x.lo * (16777216 * G), r.pt.y.lo * (C * 16777216) + r.dir.y.lo * (16777216 * G), r.pt.z.lo * (C * 16777216) + r.dir.z.lo * (16777216 * G)⟩ = (C * 16777216 * 16777216) * u i 0 := by
    have e1 : dot3 (lo3 (bxOf v i)) ⟨r.pt.x.lo * (C * 16777216) + r.dir.x.lo * (16777216 * G), r.pt.y.lo * (C * 16777216) + r.dir.y.lo * (16777216 * G), r.pt.z.lo * (C * 16777216) + r.dir.z.lo * (16777216 * G)⟩ = Tp * (C * 16777216) + C * (16777216 * G) := by
      rw [hT, hC]
      simp only [dot3, lo3]
      simp only [Int.mul_add, Int.add_mul, Int.mul_assoc]
      omega
    rw [e1, hG, Int.mul_sub, Int.mul_sub]
    have e2 : Tp * (C * 16777216) = C * (16777216 * Tp) := by rw [Int.mul_comm Tp, Int.mul_assoc]
    rw [e2]
    have e3 : C * (16777216 * (u i 0 * 16777216)) = C * 16777216 * 16777216 * u i 0 := by
      rw [Int.mul_assoc, Int.mul_assoc]; congr 2; rw [Int.mul_comm]
    omega
  rw [e] at iq
  have hbig : 0 < C * 16777216 * 16777216 := by omega
  exact ⟨mul_cancel hbig iq.1, mul_cancel hbig iq.2⟩

theorem tru_if (b : Bool) : (bif b then tru true else tru true) = tru true := by cases b <;> rfl
theorem point_true (n m : Nat) (v u : Nat → Nat → Int) (x : Iv) (r : Ray) : pt3' hitE scaleE addB dotE n m v u (numOf (arrC 6 v)) (numOf (arrC 2 u)) x r = tru true := by
  unfold pt3'
  rw [hitE_arr]
  unfold pt3
  cases hh : okE (hitE n m v u x r)
  · rfl
  obtain ⟨hv, _, _, i, t, hi, hs, hget⟩ := hit_ok3 hh
  rw [hget]
  simp only [cond_true]
  cases hd : okE (scaleE r.dir ⟨t.least, t.most⟩)
  · exact tru_if _
  cases ha : okE (addB r.pt (getE bx0 (scaleE r.dir ⟨t.least, t.most⟩)))
  · rfl
  simp only [cond_true]
  have hface : t.face = (i : Int) := by
    rw [hi.eq]
    unfold tgN
    cases decide (0 < (getE iv0 (cosE v r i)).lo) <;> rfl
  have hlt := hi.lt
  unfold validB at hv
  simp only [Bool.and_eq_true, decide_eq_true_eq] at hv
  obtain ⟨⟨_, _, hmn, _⟩, _, hu⟩ := hv
  subst hmn
  have hui := allF_get hu i (Nat.zero_le _) (by omega)
  rw [hface, decide_eq_false (show ¬ (i : Int) < 0 by omega), decide_eq_false (show ¬ (m : Int) ≤ (i : Int) by omega), decide_eq_true (show (m : Int) = (m : Int) from rfl), decide_eq_true (show (0 : Int) ≤ (i : Int) by omega), decide_eq_true (show (i : Int) < (m : Int) by omega)]
  simp only [cond_false, Bool.not_true, Bool.and_self, cond_true, Int.toNat_natCast]
  cases hq : okE (dotE (bxOf v i) (getE bx0 (addB r.pt (getE bx0 (scaleE r.dir ⟨t.least, t.most⟩)))))
  · rfl
  simp only [cond_true]
  have hl0 : 0 ≤ t.least := by
    rw [hi.eq]
    have hp := hi.pos
    have : 0 ≤ dnq (pos (getE iv0 (gapE v u r i)).lo * 16777216) (getE iv0 (cosE v r i)).hi := by
      unfold dnq
      refine Int.ediv_nonneg ?_ (by omega)
      have : 0 ≤ pos (getE iv0 (gapE v u r i)).lo := by unfold pos; split <;> omega
      omega
    unfold tgN
    cases decide (0 < (getE iv0 (cosE v r i)).lo) <;> exact this
  by_cases hz : t.least = 0
  · rw [decide_eq_true hz]
    cases decide ((getE iv0 (dotE (bxOf v i) (getE bx0 (addB r.pt (getE bx0 (scaleE r.dir ⟨t.least, t.most⟩)))))).lo ≤ u i 1)
    · rfl
    · exact tru_if _
  · have hm := point_meets (m := m) hi hs hui (by omega) hd ha hq
    have hle := iv_le hui
    simp only [ivOf] at hle
    rw [decide_eq_true (show (getE iv0 (dotE (bxOf v i) (getE bx0 (addB r.pt (getE bx0 (scaleE r.dir ⟨t.least, t.most⟩)))))).lo ≤ u i 1 by omega), decide_eq_true hm.2]
    rfl
/-! The oracles. -/
theorem k8 : FnOk Try.prog 8 Try.f8 := fk Try.func8 (by kernel_rfl) rfl
theorem k22 : FnOk Try.prog 22 Try.f22 := fk Try.func22 (by kernel_rfl) rfl
theorem k23 : FnOk Try.prog 23 Try.f23 := fk Try.func23 (by kernel_rfl) rfl
theorem k25 : FnOk Try.prog 25 Try.f25 := fk Try.func25 (by kernel_rfl) rfl
theorem k44 : FnOk Try.prog 44 Try.f44 := fk Try.func44 (by kernel_rfl) rfl
theorem k68 : FnOk Try.prog 68 Try.f68 := fk Try.func68 (by kernel_rfl) rfl
theorem fnsK_ok : FnsOk Try.prog fnsK := fns_cons k8 (fns_cons k22 (fns_cons k23 (fns_cons k25 (fns_cons k44 (fns_cons k68 fns_nil)))))
theorem T8_val {args : List V} {x : V × Heap} (h : (T8 args).val = some x) : args = [] ∧ x = (.u (.c (.bool true)), []) := by
  cases args with
  | nil => cases h; exact ⟨rfl, rfl⟩
  | cons a r => cases h
theorem E8 : Told Try.prog 8 T8 := by
  refine told_flat (fuel := 9) (d := 9) (orc := orcK) (fns := fnsK) mixed orcK_ok fnsK_ok k8.enter (fun args => ?_) (fun args x h => ?_) fun args x h => ?_
  · cases args <;> rfl
  · obtain ⟨rfl, _⟩ := T8_val h; rfl
  · obtain ⟨rfl, rfl⟩ := T8_val h; exact a8
theorem k3_ : FnOk Try.prog 3 Try.f3 := fk Try.func3 (by kernel_rfl) rfl
theorem k9 : FnOk Try.prog 9 Try.f9 := fk Try.func9 (by kernel_rfl) rfl
theorem k10 : FnOk Try.prog 10 Try.f10 := fk Try.func10 (by kernel_rfl) rfl
theorem ok10 : ∀ c, Try.f10.body = some c → LoopsOk Try.prog c lv10 := fun c _ => untold fun p hp => by rw [lv10, List.mem_singleton] at hp; rw [hp]
theorem fns3_ok : FnsOk Try.prog fns3 := fns_cons k3_ (fns_cons k9 (fns_loops k10 ok10 fns_nil))
theorem orc3_ok : OrcOk Try.prog (orc3 hitE scaleE addB dotE) := orc_cons E8 (orc_cons E11 (orc_cons E12 (orc_cons E13 (orc_cons E14 orc_nil))))
/-- What the text answers, the machine answers. -/
theorem ans_calls {P : Program} (hm : P.follows .mixedOrders = true) {orc : List (FuncId × (List V → Tree))} (ho : OrcOk P orc) {fns : List (FuncId × Func × List (Nat × LV))} (hf : FnsOk P fns) {fuel d : Nat} {f : FuncId} {args : List V} {v : V} (h : ans P orc fns fuel d f args = some (v, [])) (hi : ∀ x ∈ args, idsV x = [] ∧ x ≠ .any) (ρ : Ren) {w : World} (hs : ∀ x ∈ args, x.sc w fun _ => False) :
    Calls P f (args.map (V.den ρ)).toArray w fun e w' => e = .returned (v.den ρ) ∧ RowKit.Below w.heap.size w w' := by
  obtain ⟨v', H', m, hk, hr⟩ := env_ok hm ho hf fuel d f args [] _ (v, []) h (fun x hx => (hi x hx).2)
  obtain ⟨v2, H2, hk, hr⟩ := tidy_runs hr hk
  cases hk
  refine (start_of hr hs (fun x hx => (hi x hx).1) ρ (fun _ _ => rfl) (Nat.le_refl _)).mono ?_
  rintro e w' ⟨ρ', rfl, _, hb, _, hv, _⟩
  refine ⟨?_, hb⟩
  rw [V.den_congr (ρ' := ρ') (ρ := ρ) (S := fun b => b < ([] : Heap).length) (fun b hb => by simp at hb) hv]
theorem point_calls (ad ad' : Option Addr) (n m cap cap' : Nat) (v u : Nat → Nat → Int) (x : Iv) (r : Ray) (hn : n * 48 ≤ 140737488351232) (w : World) (h1 : AOk w (.as ad 6 n cap (arrC 6 v))) (h2 : AOk w (.as ad' 2 m cap' (arrC 2 u))) :
    Calls Try.prog 3 (([.u (.a (bodyA ad ad' n m cap cap' v u x)), rayV r] : List V).map (V.den fun _ => ri0)).toArray w fun e w' => e = .returned (.bool true) ∧ RowKit.Below w.heap.size w w' := by
  have h := point_code hitE scaleE addB dotE ad ad' n m cap cap' v u x r (n + 1) hn (by omega) fun _ _ => point_true n m v u x r
  refine ans_calls mixed orc3_ok fns3_ok h (fun y hy => ?_) _ (fun y hy => ?_)
  · simp only [List.mem_cons, List.not_mem_nil, or_false] at hy
    rcases hy with rfl | rfl
    · exact ⟨rfl, fun e => by cases e⟩
    · exact ⟨rfl, fun e => by cases e⟩
  · simp only [List.mem_cons, List.not_mem_nil, or_false] at hy
    rcases hy with rfl | rfl
    · intro z hz
      simp only [bodyA, List.mem_cons, List.not_mem_nil, or_false] at hz
      rcases hz with rfl | rfl | rfl | rfl
      · exact h1
      · exact h2
      · exact AOk.int _ _
      · exact AOk.int _ _
    · exact rayC_sc r w _
end Go.Proofs.Ytbgdfikfldkjbaa.AI
