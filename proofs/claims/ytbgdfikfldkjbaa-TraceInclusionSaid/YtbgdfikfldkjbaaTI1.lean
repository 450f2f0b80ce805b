/- What is contained stays contained: the operations of layers 27 to 30. -/
import Derived.Test.YtbgdfikfldkjbaaPL6
namespace Go.Proofs.Ytbgdfikfldkjbaa.AI
set_option linter.unnecessarySimpa false
open Go
set_option linter.unusedVariables false
set_option linter.unusedSimpArgs false
structure IvIn (x X : Iv) : Prop where
  v : x.v = true
  lo : X.lo ≤ x.lo
  hi : x.hi ≤ X.hi
structure BxIn (a A : Bx) : Prop where
  x : IvIn a.x A.x
  y : IvIn a.y A.y
  z : IvIn a.z A.z
theorem BxIn.v {a A : Bx} (h : BxIn a A) : a.v = true := by unfold Bx.v; rw [h.x.v, h.y.v, h.z.v]; rfl
theorem IvIn.self {x : Iv} (h : x.v = true) : IvIn x x := ⟨h, Int.le_refl _, Int.le_refl _⟩
theorem BxIn.self {a : Bx} (h : a.v = true) : BxIn a a := by
  simp only [Bx.v, Bool.and_eq_true] at h
  exact ⟨.self h.1, .self h.2.1, .self h.2.2⟩
theorem ivv {x : Iv} (h : x.v = true) : -1073741824 ≤ x.lo ∧ x.lo ≤ x.hi ∧ x.hi ≤ 1073741824 := by simpa only [Iv.v, vI_iff] using h
/-- What the great one answers, the small one answers, contained. -/
def Mon {α : Type} (S : α → α → Prop) (e E : Er α) : Prop := ∀ Y, E = .ok Y → ∃ y, e = .ok y ∧ S y Y
theorem mon_ok {α : Type} {S : α → α → Prop} {y Y : α} (h : S y Y) : Mon S (.ok y) (.ok Y) := fun Z hZ => by cases hZ; exact ⟨y, rfl, h⟩
theorem mon_err {α : Type} {S : α → α → Prop} {e : Er α} {n : Nat} : Mon S e (.error n) := fun Z hZ => by cases hZ
theorem mon_bind {α β : Type} {S : α → α → Prop} {T : β → β → Prop} {e E : Er α} {k K : α → Er β} (h : Mon S e E) (hk : ∀ y Y, S y Y → Mon T (k y) (K Y)) : Mon T (bindE e k) (bindE E K) := fun Z hZ => by
  cases hE : E with
  | error n => rw [hE] at hZ; cases hZ
  | ok Y =>
    rw [hE] at hZ
    obtain ⟨y, hy, hs⟩ := h Y hE
    rw [hy]
    exact hk y Y hs Z hZ
theorem mon_and {α : Type} {S S' : α → α → Prop} {e E : Er α} (h : Mon S e E) (hs : ∀ y Y, E = .ok Y → S y Y → S' y Y) : Mon S' e E := fun Z hZ => by
  obtain ⟨y, h1, h2⟩ := h Z hZ
  exact ⟨y, h1, hs y Z hZ h2⟩
theorem mon_mk {a b A B : Int} (h1 : A ≤ a) (h2 : b ≤ B) (h3 : a ≤ b) : Mon IvIn (mkE a b) (mkE A B) := fun Y hY => by
  have hok : okE (mkE A B) = true := by rw [hY]; rfl
  have hi := mk_in hok
  rw [mk_ok hok] at hY
  cases hY
  refine ⟨⟨a, b⟩, ?_, ⟨?_, h1, h2⟩⟩
  · unfold mkE
    rw [show inR a b = true by simp only [inR, Bool.and_eq_true, decide_eq_true_eq]; omega]
    rfl
  · simp only [Iv.v, vI_iff]; omega
theorem mon_v2 {e E : Er Iv} {a A : Bool} {n : Nat} (ha : A = true → a = true ∧ Mon IvIn e E) : Mon IvIn (bif a then e else .error n) (bif A then E else .error n) := by
  cases A
  · exact mon_err
  · obtain ⟨h1, h2⟩ := ha rfl
    rw [h1]; exact h2
theorem mon_add {x X y Y : Iv} (hx : IvIn x X) (hy : IvIn y Y) : Mon IvIn (addE x y) (addE X Y) := mon_v2 fun _ => by
  have a := ivv hx.v
  have b := ivv hy.v
  have := hx.lo
  have := hx.hi
  have := hy.lo
  have := hy.hi
  exact ⟨by rw [hx.v, hy.v]; rfl, mon_mk (by omega) (by omega) (by omega)⟩
theorem mon_sub {x X y Y : Iv} (hx : IvIn x X) (hy : IvIn y Y) : Mon IvIn (subE x y) (subE X Y) := mon_v2 fun _ => by
  have a := ivv hx.v
  have b := ivv hy.v
  have := hx.lo
  have := hx.hi
  have := hy.lo
  have := hy.hi
  exact ⟨by rw [hx.v, hy.v]; rfl, mon_mk (by omega) (by omega) (by omega)⟩
theorem mon_neg {x X : Iv} (hx : IvIn x X) : Mon IvIn (negE x) (negE X) := mon_v2 fun _ => by
  have a := ivv hx.v
  have := hx.lo
  have := hx.hi
  refine ⟨hx.v, mon_ok ⟨?_, ?_, ?_⟩⟩
  · simp only [Iv.v, vI_iff]; omega
  · show -X.hi ≤ -x.hi; omega
  · show -x.lo ≤ -X.lo; omega
/-- A product lies between those of the ends. -/
theorem prod_in {a b A B C D : Int} (h1 : A ≤ a) (h2 : a ≤ B) (h3 : C ≤ b) (h4 : b ≤ D) : min4 (A * C) (A * D) (B * C) (B * D) ≤ a * b ∧ a * b ≤ max4 (A * C) (A * D) (B * C) (B * D) := by
  obtain ⟨m1, m2, m3, m4⟩ := min4_le (a := A * C) (b := A * D) (c := B * C) (d := B * D)
  obtain ⟨n1, n2, n3, n4⟩ := le_max4 (a := A * C) (b := A * D) (c := B * C) (d := B * D)
  have pA := mul_lo h3 h4 A
  have pB := mul_lo h3 h4 B
  have qA := mul_hi h3 h4 A
  have qB := mul_hi h3 h4 B
  rw [Int.mul_comm C A, Int.mul_comm D A, Int.mul_comm b A] at pA qA
  rw [Int.mul_comm C B, Int.mul_comm D B, Int.mul_comm b B] at pB qB
  have r := mul_lo h1 h2 b
  have s := mul_hi h1 h2 b
  omega
theorem dnq_mono {x y c : Int} (hc : 0 < c) (h : x ≤ y) : dnq x c ≤ dnq y c := Int.ediv_le_ediv hc h
theorem upq_mono {x y c : Int} (hc : 0 < c) (h : x ≤ y) : upq x c ≤ upq y c := by
  unfold upq
  have := Int.ediv_le_ediv hc (show -y ≤ -x by omega)
  omega
theorem mon_mul {x X y Y : Iv} (hx : IvIn x X) (hy : IvIn y Y) : Mon IvIn (mulE x y) (mulE X Y) := mon_v2 fun _ => by
  have a := ivv hx.v
  have b := ivv hy.v
  have l1 := hx.lo
  have l2 := hx.hi
  have l3 := hy.lo
  have l4 := hy.hi
  have p1 := prod_in (A := X.lo) (B := X.hi) (C := Y.lo) (D := Y.hi) (a := x.lo) (b := y.lo) l1 (by omega) l3 (by omega)
  have p2 := prod_in (A := X.lo) (B := X.hi) (C := Y.lo) (D := Y.hi) (a := x.lo) (b := y.hi) l1 (by omega) (by omega) l4
  have p3 := prod_in (A := X.lo) (B := X.hi) (C := Y.lo) (D := Y.hi) (a := x.hi) (b := y.lo) (by omega) l2 l3 (by omega)
  have p4 := prod_in (A := X.lo) (B := X.hi) (C := Y.lo) (D := Y.hi) (a := x.hi) (b := y.hi) (by omega) l2 (by omega) l4
  refine ⟨by rw [hx.v, hy.v]; rfl, mon_mk ?_ ?_ ?_⟩
  · exact dnq_mono (by omega) (by unfold min4 at p1 p2 p3 p4 ⊢; omega)
  · exact upq_mono (by omega) (by unfold max4 at p1 p2 p3 p4 ⊢; omega)
  · exact dn_upM (by omega) (by unfold min4 max4; omega)
theorem sq_hi {a A B : Int} (h1 : A ≤ a) (h2 : a ≤ B) : a * a ≤ max (A * A) (B * B) := by
  rcases Int.le_total 0 a with h | h
  · have := Int.mul_le_mul h2 h2 h (by omega); omega
  · have h2 : a * a ≤ a * A := Int.mul_le_mul_of_nonpos_left h h1
    have h3 : A * a ≤ A * A := Int.mul_le_mul_of_nonpos_left (by omega) h1
    rw [Int.mul_comm] at h3
    omega
theorem sq_nn (a : Int) : 0 ≤ a * a := by rcases Int.le_total 0 a with h | h; exact Int.mul_nonneg h h; exact Int.mul_nonneg_of_nonpos_of_nonpos h h
theorem mon_sq {x X : Iv} (hx : IvIn x X) : Mon IvIn (sqE x) (sqE X) := mon_v2 fun hX => by
  have a := ivv hx.v
  have l1 := hx.lo
  have l2 := hx.hi
  have n1 := sq_nn x.lo
  have n2 := sq_nn x.hi
  refine ⟨hx.v, mon_mk ?_ ?_ ?_⟩
  · unfold sqL
    by_cases h : X.lo ≤ 0 ∧ 0 ≤ X.hi
    · rw [if_pos h]
      split
      · exact Int.le_refl _
      · exact Int.ediv_nonneg (by omega) (by omega)
    · rw [if_neg h, if_neg (by omega)]
      refine dnq_mono (by omega) ?_
      by_cases hp : 0 < X.lo
      · have q1 := Int.mul_le_mul l1 l1 (by omega) (by omega)
        have q2 := Int.mul_le_mul (show X.lo ≤ x.hi by omega) (show X.lo ≤ x.hi by omega) (by omega) (by omega)
        omega
      · have hn : X.hi < 0 := by omega
        have q1 := Int.mul_le_mul (show -X.hi ≤ -x.hi by omega) (show -X.hi ≤ -x.hi by omega) (by omega) (by omega)
        have q2 := Int.mul_le_mul (show -X.hi ≤ -x.lo by omega) (show -X.hi ≤ -x.lo by omega) (by omega) (by omega)
        rw [Int.neg_mul_neg, Int.neg_mul_neg] at q1 q2
        omega
  · unfold sqH
    have p1 := sq_hi (a := x.lo) l1 (by omega : x.lo ≤ X.hi)
    have p2 := sq_hi (a := x.hi) (by omega : X.lo ≤ x.hi) l2
    exact upq_mono (by omega) (by omega)
  · unfold sqL sqH
    split
    · have := le_up (max (x.lo * x.lo) (x.hi * x.hi)) (show (0 : Int) < 16777216 by omega)
      omega
    · exact dn_upM (by omega) (by omega)
theorem root_mono {a b : Int} (h0 : 0 ≤ a) (h : a ≤ b) (hb : b ≤ 4611686018427387904) : rootI a ≤ rootI b := by
  obtain ⟨s1, s2, s3⟩ := root_spec (n := b) (by omega) hb
  obtain ⟨r1, r2, r3⟩ := root_spec (n := a) h0 (by omega)
  rcases Int.lt_or_le (rootI b) (rootI a) with h | h
  · have := Int.mul_le_mul (show rootI b + 1 ≤ rootI a by omega) (show rootI b + 1 ≤ rootI a by omega) (by omega) (by omega)
    omega
  · exact h
theorem sqrtH_mono {a b : Int} (h0 : 0 ≤ a) (h : a ≤ b) (hb : b ≤ 1073741824) : sqrtH a ≤ sqrtH b := by
  have hr := root_mono (a := a * 16777216) (b := b * 16777216) (by omega) (by omega) (by omega)
  unfold sqrtH
  by_cases e : rootI (a * 16777216) = rootI (b * 16777216)
  · rw [e]
    split
    · rw [if_pos (by omega)]; omega
    · split <;> omega
  · split <;> split <;> omega
theorem mon_sqrt {x X : Iv} (hx : IvIn x X) : Mon (fun y Y => IvIn y Y ∧ 0 ≤ Y.lo) (sqrtE x) (sqrtE X) := by
  unfold sqrtE
  cases hX : X.v
  · exact mon_err
  have a := ivv hx.v
  have b := ivv hX
  have l1 := hx.lo
  have l2 := hx.hi
  rw [hx.v, cond_true, cond_true]
  by_cases h : X.lo < 0
  · rw [decide_eq_true h]; exact mon_err
  · rw [decide_eq_false h, decide_eq_false (show ¬ x.lo < 0 by omega), cond_false, cond_false]
    have m1 := root_mono (a := X.lo * 16777216) (b := x.lo * 16777216) (by omega) (by omega) (by omega)
    have m2 := root_mono (a := x.lo * 16777216) (b := x.hi * 16777216) (by omega) (by omega) (by omega)
    have m3 := sqrtH_mono (a := x.hi) (b := X.hi) (by omega) l2 b.2.2
    have r1 := (root_spec (n := X.lo * 16777216) (by omega) (by omega)).1
    refine mon_and (mon_mk (show sqrtL X.lo ≤ sqrtL x.lo from m1) m3 ?_) fun y Y hY hs => ⟨hs, ?_⟩
    · unfold sqrtL sqrtH
      split <;> omega
    · have hok : okE (mkE (sqrtL X.lo) (sqrtH X.hi)) = true := by rw [hY]; rfl
      rw [mk_ok hok] at hY
      cases hY
      exact r1
theorem div_anti {A p q : Int} (hA : 0 ≤ A) (hp : 0 < p) (h : p ≤ q) : A / q ≤ A / p := by
  refine (Int.le_ediv_iff_mul_le hp).2 ?_
  have h0 : 0 ≤ A / q := Int.ediv_nonneg hA (by omega)
  have h1 := Int.ediv_mul_le A (show q ≠ 0 by omega)
  have h2 : A / q * p ≤ A / q * q := Int.mul_le_mul_of_nonneg_left h h0
  omega
theorem div_antn {A p q : Int} (hA : A ≤ 0) (hp : 0 < p) (h : p ≤ q) : A / p ≤ A / q := by
  refine (Int.le_ediv_iff_mul_le (show 0 < q by omega)).2 ?_
  have h0 : A / p ≤ 0 := by
    have := Int.ediv_le_ediv hp hA
    rw [Int.zero_ediv] at this
    exact this
  have h1 := Int.ediv_mul_le A (show p ≠ 0 by omega)
  have h2 : A / p * q ≤ A / p * p := Int.mul_le_mul_of_nonpos_left h0 h
  omega
theorem div_lo {n C D e : Int} (hC : 0 < C) (h1 : C ≤ e) (h2 : e ≤ D) : min (dnq n C) (dnq n D) ≤ dnq n e := by
  unfold dnq
  rcases Int.le_total 0 n with h | h
  · have := div_anti h (show 0 < e by omega) h2; omega
  · have := div_antn h hC h1; omega
theorem div_hi {n C D e : Int} (hC : 0 < C) (h1 : C ≤ e) (h2 : e ≤ D) : upq n e ≤ max (upq n C) (upq n D) := by
  have := div_lo (n := -n) hC h1 h2
  unfold dnq at this
  unfold upq
  omega
theorem mon_div' {a b A B c d C D : Int} (h1 : A ≤ a) (h2 : b ≤ B) (h3 : C ≤ c) (h4 : d ≤ D) (h5 : 0 < C) (h6 : c ≤ d) (h7 : a ≤ b) : divL A B C D ≤ divL a b c d ∧ divH a b c d ≤ divH A B C D ∧ divL a b c d ≤ divH a b c d := by
  unfold divL divH
  have p1 := div_lo (n := A * 16777216) h5 h3 (by omega : c ≤ D)
  have p2 := div_lo (n := A * 16777216) h5 (by omega : C ≤ d) h4
  have p3 := div_hi (n := B * 16777216) h5 h3 (by omega : c ≤ D)
  have p4 := div_hi (n := B * 16777216) h5 (by omega : C ≤ d) h4
  have q1 := dnq_mono (c := c) (by omega) (show A * 16777216 ≤ a * 16777216 by omega)
  have q2 := dnq_mono (c := d) (by omega) (show A * 16777216 ≤ a * 16777216 by omega)
  have q3 := upq_mono (c := c) (by omega) (show b * 16777216 ≤ B * 16777216 by omega)
  have q4 := upq_mono (c := d) (by omega) (show b * 16777216 ≤ B * 16777216 by omega)
  have q5 := dn_upM (u := c) (by omega) (show a * 16777216 ≤ b * 16777216 by omega)
  omega
theorem mon_div {x X y Y : Iv} (hx : IvIn x X) (hy : IvIn y Y) : Mon IvIn (divE x y) (divE X Y) := mon_v2 fun _ => by
  have a := ivv hx.v
  have b := ivv hy.v
  have l1 := hx.lo
  have l2 := hx.hi
  have l3 := hy.lo
  have l4 := hy.hi
  refine ⟨by rw [hx.v, hy.v]; rfl, ?_⟩
  by_cases h0 : Y.lo ≤ 0 ∧ 0 ≤ Y.hi
  · rw [decide_eq_true h0.1, decide_eq_true h0.2]; exact mon_err
  · have e1 : (decide (Y.lo ≤ 0) && decide (0 ≤ Y.hi)) = false := by
      cases h : (decide (Y.lo ≤ 0) && decide (0 ≤ Y.hi)) with
      | false => rfl
      | true => simp only [Bool.and_eq_true, decide_eq_true_eq] at h; exact absurd h h0
    have e2 : (decide (y.lo ≤ 0) && decide (0 ≤ y.hi)) = false := by
      cases h : (decide (y.lo ≤ 0) && decide (0 ≤ y.hi)) with
      | false => rfl
      | true => simp only [Bool.and_eq_true, decide_eq_true_eq] at h; omega
    rw [e1, e2, cond_false, cond_false]
    by_cases hn : Y.hi < 0
    · rw [decide_eq_true hn, decide_eq_true (show y.hi < 0 by omega), cond_true, cond_true]
      obtain ⟨p, q, r⟩ := mon_div' (a := -x.hi) (b := -x.lo) (A := -X.hi) (B := -X.lo) (c := -y.hi) (d := -y.lo) (C := -Y.hi) (D := -Y.lo) (by omega) (by omega) (by omega) (by omega) (by omega) (by omega) (by omega)
      exact mon_mk p q r
    · rw [decide_eq_false hn, decide_eq_false (show ¬ y.hi < 0 by omega), cond_false, cond_false]
      obtain ⟨p, q, r⟩ := mon_div' (a := x.lo) (b := x.hi) (A := X.lo) (B := X.hi) (c := y.lo) (d := y.hi) (C := Y.lo) (D := Y.hi) l1 l2 l3 l4 (by omega) (by omega) (by omega)
      exact mon_mk p q r
/-! Boxes. -/
theorem mon_dot {a A b B : Bx} (ha : BxIn a A) (hb : BxIn b B) : Mon IvIn (dotE a b) (dotE A B) := mon_v2 fun _ => ⟨by rw [ha.v, hb.v]; rfl,
  mon_bind (mon_mul ha.x hb.x) fun _ _ h1 => mon_bind (mon_mul ha.y hb.y) fun _ _ h2 => mon_bind (mon_mul ha.z hb.z) fun _ _ h3 => mon_bind (mon_add h1 h2) fun _ _ h4 => mon_add h4 h3⟩
theorem mon_vB {e E : Er Bx} {a A : Bool} {n : Nat} (ha : A = true → a = true ∧ Mon BxIn e E) : Mon BxIn (bif a then e else .error n) (bif A then E else .error n) := by
  cases A
  · exact mon_err
  · obtain ⟨h1, h2⟩ := ha rfl
    rw [h1]; exact h2
theorem mon_scale {a A : Bx} {k K : Iv} (ha : BxIn a A) (hk : IvIn k K) : Mon BxIn (scaleE a k) (scaleE A K) := mon_vB fun _ => ⟨by rw [ha.v, hk.v]; rfl,
  mon_bind (mon_mul ha.x hk) fun _ _ h1 => mon_bind (mon_mul ha.y hk) fun _ _ h2 => mon_bind (mon_mul ha.z hk) fun _ _ h3 => mon_ok ⟨h1, h2, h3⟩⟩
theorem mon_addB {a A b B : Bx} (ha : BxIn a A) (hb : BxIn b B) : Mon BxIn (addB a b) (addB A B) := mon_vB fun _ => ⟨by rw [ha.v, hb.v]; rfl,
  mon_bind (mon_add ha.x hb.x) fun _ _ h1 => mon_bind (mon_add ha.y hb.y) fun _ _ h2 => mon_bind (mon_add ha.z hb.z) fun _ _ h3 => mon_ok ⟨h1, h2, h3⟩⟩
theorem mon_subB {a A b B : Bx} (ha : BxIn a A) (hb : BxIn b B) : Mon BxIn (subB a b) (subB A B) := mon_vB fun _ => ⟨by rw [ha.v, hb.v]; rfl,
  mon_bind (mon_sub ha.x hb.x) fun _ _ h1 => mon_bind (mon_sub ha.y hb.y) fun _ _ h2 => mon_bind (mon_sub ha.z hb.z) fun _ _ h3 => mon_ok ⟨h1, h2, h3⟩⟩
theorem one1_v : one1.v = true := by decide
theorem half1_v : half1.v = true := by decide
theorem mon_rad {c C r R : Iv} (hc : IvIn c C) (hr : IvIn r R) : Mon IvIn (radE c r) (radE C R) := mon_v2 fun _ => ⟨by rw [hc.v, hr.v]; rfl,
  mon_bind (mon_sq hr) fun _ _ h1 => mon_bind (mon_sq hc) fun _ _ h2 => mon_bind (mon_sub (.self one1_v) h2) fun _ _ h3 => mon_bind (mon_mul h1 h3) fun _ _ h4 => mon_sub (.self one1_v) h4⟩
theorem mon_refl {d D n N : Bx} (hd : BxIn d D) (hn : BxIn n N) : Mon BxIn (reflE d n) (reflE D N) :=
  mon_bind (mon_dot hd hn) fun _ _ h1 => mon_bind (mon_add h1 h1) fun _ _ h2 => mon_bind (mon_scale hn h2) fun _ _ h3 => mon_subB hd h3
theorem mon_move {r R : Ray} {k K : Iv} (hp : BxIn r.pt R.pt) (hd : BxIn r.dir R.dir) (hk : IvIn k K) : Mon BxIn (moveE r k) (moveE R K) :=
  mon_bind (mon_scale hd hk) fun _ _ h1 => mon_addB hp h1
/-! Signs. -/
theorem sgn_in {c C : Iv} (h : IvIn c C) (hC : C.v = true) (hs : C.sgn ≠ 0) : c.sgn = C.sgn := by
  have a := ivv h.v
  have l1 := h.lo
  have l2 := h.hi
  unfold Iv.sgn sgn at *
  rw [show vI C.lo C.hi = true from hC, if_pos rfl] at hs ⊢
  rw [show vI c.lo c.hi = true from h.v, if_pos rfl]
  by_cases h1 : 0 < C.lo
  · rw [if_pos h1, if_pos (by omega)]
  · rw [if_neg h1] at hs ⊢
    by_cases h2 : C.hi < 0
    · rw [if_pos h2, if_neg (by omega), if_pos (by omega)]
    · rw [if_neg h2] at hs; exact absurd rfl hs
end Go.Proofs.Ytbgdfikfldkjbaa.AI
