/- TraceLight, the plain law, joined: the light that leaves is none the more; one more reflection. -/
import Derived.Test.YtbgdfikfldkjbaaPL5
namespace Go.Proofs.Ytbgdfikfldkjbaa.AI
set_option linter.unnecessarySimpa false
open Go
set_option linter.unusedVariables false
set_option linter.unusedSimpArgs false
theorem mk_in {a b : Int} (h : okE (mkE a b) = true) : -1073741824 ≤ a ∧ b ≤ 1073741824 := by
  unfold mkE at h
  cases hr : inR a b
  · rw [hr] at h; cases h
  · simpa only [inR, Bool.and_eq_true, decide_eq_true_eq] using hr
theorem dn_upM {m M u : Int} (hu : 0 < u) (h : m ≤ M) : dnq m u ≤ upq M u := by
  have h1 := dn_le m hu
  have h2 := le_up M hu
  exact mul_cancel hu (by omega)
theorem add_v {x y : Iv} (h : okE (addE x y) = true) : (getE iv0 (addE x y)).v = true := by
  unfold addE at *
  cases hv : x.v && y.v
  · rw [hv] at h; cases h
  simp only [hv, cond_true] at h ⊢
  rw [mk_ok h]
  have hi := mk_in h
  simp only [Bool.and_eq_true, Iv.v, vI_iff] at hv
  simp only [getE, Iv.v, vI_iff]
  omega
theorem mul_v {x y : Iv} (h : okE (mulE x y) = true) : (getE iv0 (mulE x y)).v = true := by
  unfold mulE at *
  cases hv : x.v && y.v
  · rw [hv] at h; cases h
  simp only [hv, cond_true] at h ⊢
  rw [mk_ok h]
  have hi := mk_in h
  have hd : mulL x.lo x.hi y.lo y.hi ≤ mulH x.lo x.hi y.lo y.hi := by
    unfold mulL mulH
    refine dn_upM (by omega) ?_
    have h1 := (min4_le (a := x.lo * y.lo) (b := x.lo * y.hi) (c := x.hi * y.lo) (d := x.hi * y.hi)).1
    have h2 := (le_max4 (a := x.lo * y.lo) (b := x.lo * y.hi) (c := x.hi * y.lo) (d := x.hi * y.hi)).1
    omega
  simp only [getE, Iv.v, vI_iff]
  omega
theorem mul_and {x y : Iv} (h : okE (mulE x y) = true) : x.v = true ∧ y.v = true := by
  unfold mulE at h
  cases hv : x.v && y.v
  · rw [hv] at h; cases h
  · simpa only [Bool.and_eq_true] using hv
/-- Light times a share. -/
theorem mul_light {g t : Iv} (h : okE (mulE g t) = true) (h0 : 0 ≤ g.lo) (t0 : 0 ≤ t.lo) (t1 : t.hi ≤ 16777216) : 0 ≤ (getE iv0 (mulE g t)).lo ∧ (getE iv0 (mulE g t)).hi ≤ g.hi := by
  have hv := mul_and h
  unfold mulE at *
  rw [hv.1, hv.2] at h ⊢
  simp only [Bool.and_self, cond_true] at h ⊢
  rw [mk_ok h]
  have v1 := iv_le hv.1
  have v2 := iv_le hv.2
  have p1 : 0 ≤ g.lo * t.lo := Int.mul_nonneg h0 t0
  have p2 : 0 ≤ g.lo * t.hi := Int.mul_nonneg h0 (by omega)
  have p3 : 0 ≤ g.hi * t.lo := Int.mul_nonneg (by omega) t0
  have p4 : 0 ≤ g.hi * t.hi := Int.mul_nonneg (by omega) (by omega)
  have q1 : g.lo * t.lo ≤ g.hi * 16777216 := Int.mul_le_mul (by omega) (by omega) t0 (by omega)
  have q2 : g.lo * t.hi ≤ g.hi * 16777216 := Int.mul_le_mul (by omega) (by omega) (by omega) (by omega)
  have q3 : g.hi * t.lo ≤ g.hi * 16777216 := Int.mul_le_mul (by omega) (by omega) t0 (by omega)
  have q4 : g.hi * t.hi ≤ g.hi * 16777216 := Int.mul_le_mul (by omega) (by omega) (by omega) (by omega)
  refine ⟨?_, ?_⟩
  · show 0 ≤ mulL g.lo g.hi t.lo t.hi
    unfold mulL dnq min4
    exact Int.ediv_nonneg (by omega) (by omega)
  · show mulH g.lo g.hi t.lo t.hi ≤ g.hi
    unfold mulH upq max4
    have : -g.hi ≤ -max (max (max (g.lo * t.lo) (g.lo * t.hi)) (g.hi * t.lo)) (g.hi * t.hi) / 16777216 := Int.le_ediv_of_mul_le (by omega) (by omega)
    omega
theorem cutN_in (n : Int) : 0 ≤ cutN n ∧ cutN n ≤ 16777216 := by unfold cutN; rw [mxI_eq, mnI_eq]; omega
theorem light_in {a b c d : Iv} (h : okE (lightE a b c d) = true) : 0 ≤ (getE iv0 (lightE a b c d)).lo ∧ (getE iv0 (lightE a b c d)).hi ≤ 16777216 := by
  unfold lightE transE at *
  obtain ⟨r, hr, h, e⟩ := bind_get iv0 h
  rw [e]
  have hcut : ∃ x : Iv, r = x.cut := by
    have h' : okE (reflectE ⟨cosI a, cosI b, c, d⟩) = true := by rw [hr]; rfl
    unfold reflectE at hr h'
    obtain ⟨a1, _, h', e1⟩ := bind_get iv0 h'
    obtain ⟨a2, _, h', e2⟩ := bind_get iv0 h'
    obtain ⟨a3, _, h', e3⟩ := bind_get iv0 h'
    obtain ⟨a4, _, h', e4⟩ := bind_get iv0 h'
    rw [e2, e3, e4, hr] at e1
    exact ⟨a4, e1⟩
  obtain ⟨x, rfl⟩ := hcut
  have v := sub_v h
  unfold subE at *
  cases hv : (one1.v && x.cut.v)
  · rw [hv] at h; cases h
  rw [hv, cond_true] at h
  rw [cond_true, mk_ok h]
  have h1 := cutN_in x.lo
  have h2 := cutN_in x.hi
  exact ⟨by show 0 ≤ 16777216 - cutN x.hi; omega, by show 16777216 - cutN x.lo ≤ 16777216; omega⟩
theorem refr_out {d n : Bx} {r : Iv} (h : okE (refrE d n r) = true) : (getE rf0 (refrE d n r)).out.v = true := by
  unfold refrE at *
  cases hv : (d.v && n.v) && r.v
  · rw [hv] at h; cases h
  rw [hv, cond_true] at h
  rw [cond_true]
  obtain ⟨c, _, h, e⟩ := bind_get rf0 h
  rw [e]
  cases hs : decide (c.sgn = 0)
  · rw [hs] at h
    simp only [cond_false] at h ⊢
    obtain ⟨q, _, h, e⟩ := bind_get rf0 h
    rw [e]
    cases hq : decide (q.lo < 0)
    · rw [hq] at h
      simp only [cond_false] at h ⊢
      obtain ⟨t, _, h, e⟩ := bind_get rf0 h
      rw [e]
      obtain ⟨af, _, h, e⟩ := bind_get rf0 h
      rw [e]
      obtain ⟨al, _, h, e⟩ := bind_get rf0 h
      rw [e]
      obtain ⟨m, _, h, e⟩ := bind_get rf0 h
      rw [e]
      obtain ⟨k, _, h, e⟩ := bind_get rf0 h
      rw [e]
      obtain ⟨s, _, h, e⟩ := bind_get rf0 h
      rw [e]
      obtain ⟨o, ho, h, e⟩ := bind_get rf0 h
      rw [e]
      have hok : okE (addB al s) = true := by rw [ho]; rfl
      obtain ⟨_, _, h1, h2, h3, e3⟩ := addB_ok hok
      rw [ho] at e3
      have e3 : o = _ := e3
      show o.v = true
      rw [e3]
      simp only [Bx.v, add_v h1, add_v h2, add_v h3, Bool.and_self]
    · rw [hq] at h; cases h
  · rw [hs] at h; cases h
theorem leave_end {v : Nat → Nat → Int} {x : Iv} {r : Ray} {i : Nat} {g : Iv} (h0 : 0 ≤ g.lo) (h : (leaveF foE v x r i g).ok = true) :
    ((leaveF foE v x r i g).kd = 1 ∨ (leaveF foE v x r i g).kd = 2) ∧ (leaveF foE v x r i g).o.v = true ∧ (leaveF foE v x r i g).g.v = true ∧ 0 ≤ (leaveF foE v x r i g).g.lo ∧ (leaveF foE v x r i g).g.hi ≤ g.hi := by
  unfold leaveF at *
  cases h1 : okE (refL foE v x r i)
  · rw [h1] at h; cases h
  cases h2 : okE (litL foE v x r i)
  · rw [h1, h2] at h; cases h
  cases h3 : okE (gainL foE v x r i g)
  · rw [h1, h2, h3] at h; cases h
  simp only [h1, h2, h3, cond_true] at h ⊢
  have e1 : (getE rf0 (refL foE v x r i)).out.v = true := refr_out h1
  have e2 : (getE iv0 (gainL foE v x r i g)).v = true := mul_v h3
  have e3 := light_in h2
  have e4 : 0 ≤ (getE iv0 (gainL foE v x r i g)).lo ∧ (getE iv0 (gainL foE v x r i g)).hi ≤ g.hi := mul_light h3 h0 e3.1 e3.2
  cases c1 : decide (foE.sgn (getE rf0 (refL foE v x r i)).out.z = 1)
  · cases c2 : decide (foE.sgn (getE rf0 (refL foE v x r i)).out.z = -1)
    · rw [c1, c2] at h; cases h
    · exact ⟨.inr rfl, e1, e2, e4⟩
  · exact ⟨.inl rfl, e1, e2, e4⟩
/-- What a path of light is like. -/
def EndOk (g : Iv) (kd : Int) (o : Bx) (y : Iv) : Prop := (kd = 3 ∨ ((kd = 1 ∨ kd = 2) ∧ o.v = true ∧ y.v = true)) ∧ 0 ≤ y.lo ∧ y.hi ≤ g.hi
theorem goE_end (n m : Nat) (v u : Nat → Nat → Int) (x g : Iv) (hg : 0 ≤ g.lo) (hgv : g.v = true) (k : Nat) (r : Ray) : EndOk g (goE n m v u x g k r).kd (goE n m v u x g k r).o (goE n m v u x g k r).g := by
  have hle := iv_le hgv
  refine go_end foE (leaveF foE) n m v u x g (EndOk g) ⟨.inl rfl, Int.le_refl 0, by show 0 ≤ g.hi; omega⟩ (fun r i h => ?_) k r 0 _
  obtain ⟨a, b, c, d, e⟩ := leave_end hg h
  exact ⟨.inr ⟨a, b, c⟩, d, e⟩
theorem follow_ok {n m : Nat} {v u : Nat → Nat → Int} {x : Iv} {r : Ray} {g : Iv} {k : Int} (h : okE (followE n m v u x r g k) = true) : validB n m v u x = true ∧ (r.pt.v && r.dir.v) = true ∧ g.v = true ∧ 0 ≤ g.lo ∧ g.hi ≤ 16777216 ∧ 0 ≤ k ∧ k ≤ 20 := by
  unfold followE at h
  cases h1 : validB n m v u x
  · rw [h1] at h; cases h
  cases h2 : r.pt.v && r.dir.v
  · rw [h1, h2] at h; cases h
  cases h3 : g.v
  · rw [h1, h2, h3] at h; cases h
  cases h4 : decide (g.lo < 0)
  · cases h5 : decide (16777216 < g.hi)
    · cases h6 : decide (k < 0)
      · cases h7 : decide (20 < k)
        · simp only [decide_eq_false_iff_not] at h4 h5 h6 h7
          exact ⟨rfl, rfl, rfl, by omega, by omega, by omega, by omega⟩
        · rw [h1, h2, h3, h4, h5, h6, h7] at h; cases h
      · rw [h1, h2, h3, h4, h5, h6] at h; cases h
    · rw [h1, h2, h3, h4, h5] at h; cases h
  · rw [h1, h2, h3, h4] at h; cases h
theorem follow_is {n m : Nat} {v u : Nat → Nat → Int} {x : Iv} {r : Ray} {g : Iv} (h1 : validB n m v u x = true) (h2 : (r.pt.v && r.dir.v) = true) (h3 : g.v = true) (h4 : 0 ≤ g.lo) (h5 : g.hi ≤ 16777216) (k : Int) (h6 : 0 ≤ k) :
    followE n m v u x r g k = bif decide (20 < k) then .error 1 else .ok (goE n m v u x g k.toNat r) := by
  unfold followE
  rw [h1, h2, h3, decide_eq_false (show ¬ g.lo < 0 by omega), decide_eq_false (show ¬ 16777216 < g.hi by omega), decide_eq_false (show ¬ k < 0 by omega)]
  rfl
theorem allF_of {p : Nat → Bool} : ∀ (k i : Nat), (∀ j, i ≤ j → j < i + k → p j = true) → allF p i k = true
  | 0, i, _ => rfl
  | k + 1, i, h => by
    unfold allF
    rw [h i (Nat.le_refl _) (by omega), allF_of k (i + 1) fun j h1 h2 => h j (by omega) (by omega)]
    rfl
theorem row_eq (p : Pth) : p.row = ⟨p.kd, p.n, numOf (arrC 1 p.v), p.o, p.g⟩ := by
  unfold Pth.row
  have : (fun j => arrC 1 p.v (0 + j)) = arrC 1 p.v := by funext j; rw [Nat.zero_add]
  rw [this]
theorem two7_in (p q : Pth) (X : R) (h1 : p.n ≤ 200) (h2 : q.n ≤ 200) : two7 p q X = X := by
  unfold two7
  rw [decide_eq_true (show 0 + p.n ≤ p.n by omega), decide_eq_true (show 0 + q.n ≤ q.n by omega), allN_iff.2 fun j (_ : j < p.n) => isInts_arr 1 p.v (0 + j), allN_iff.2 fun j (_ : j < q.n) => isInts_arr 1 q.v (0 + j), decide_eq_true h1, decide_eq_true h2]
  rfl
theorem insI_self {x : Iv} (h : x.v = true) : x.ins x = true := by
  unfold Iv.ins insI
  have : vI x.lo x.hi = true := h
  rw [this]
  simp
theorem insX_self {a : Bx} (h : a.v = true) : a.ins a = true := by
  simp only [Bx.v, Bool.and_eq_true] at h
  unfold Bx.ins
  rw [insI_self h.1, insI_self h.2.1, insI_self h.2.2]
  rfl
theorem eqF_of {v v' : Nat → Nat → Int} {j : Nat} (h : v j 0 = v' j 0) : eqF v v' j = true := decide_eq_true h
theorem eqB_self (n : Nat) (v v' : Nat → Nat → Int) (h : ∀ j, j < n → v j 0 = v' j 0) : eqB n n v v' = true := by
  unfold eqB
  rw [decide_eq_true rfl, allF_of (p := eqF v v') n 0 fun j _ hj => eqF_of (h j (by omega))]
  rfl
theorem ins_next {g : Iv} {p q : Pth} (h : Next p q) (he : EndOk g p.kd p.o p.g) : insW q.row p.row = true := by
  rw [row_eq, row_eq]
  unfold insW
  rcases h with rfl | ⟨h1, h2, h3⟩
  · cases hk : decide (p.kd = 3)
    · rcases he.1 with h | ⟨_, h4, h5⟩
      · rw [decide_eq_false_iff_not] at hk; exact absurd h hk
      simp only [cond_false, decide_true, Bool.true_and]
      rw [eqB_self _ _ _ fun _ _ => rfl, insX_self h4, insI_self h5]
      rfl
    · rw [cond_true]
      unfold startB
      rw [decide_eq_true (Nat.le_refl _), allF_of (p := eqF (numOf (arrC 1 p.v)) (numOf (arrC 1 p.v))) p.n 0 fun j _ hj => eqF_of rfl]
      rfl
  · rw [decide_eq_true h1, cond_true]
    unfold startB
    rw [decide_eq_true h2, allF_of (p := eqF (numOf (arrC 1 q.v)) (numOf (arrC 1 p.v))) p.n 0 fun j _ hj => eqF_of (by rw [num1, num1]; exact h3 j (by omega))]
    rfl
theorem eqI_self (x : Iv) : eqI x x = true := by unfold eqI; simp
theorem eqX_self (x : Bx) : eqX x x = true := by unfold eqX; rw [eqI_self, eqI_self, eqI_self]; rfl
theorem same_self (p : Pth) : sameW p p = true := by
  unfold sameW startB
  rw [decide_eq_true rfl, decide_eq_true rfl, decide_eq_true (Nat.le_refl _), allF_of (p := eqF p.v p.v) p.n 0 fun j _ hj => eqF_of rfl, eqX_self, eqI_self]
  rfl
def fin7 (p : Pth) (lg : Iv) (lk : Int) (X : R) : R := bif decide (p.g.lo < 0) then tru false else bif decide (lg.hi < p.g.hi) then tru false else bif decide (p.kd < 1) then tru false else bif decide (3 < p.kd) then tru false else
    bif !decide (p.kd = 3) then bif decide (W (lk + 1) < (p.n : Int)) then tru false else X else X
theorem mid7_ok (n m : Nat) (v u : Nat → Nat → Int) (w sm : PathF) (lg : Iv) (lk : Int) (p : Pth) (e : Er Pth) : mid7 n m v u w sm lg lk (.ok p) e = fin7 p lg lk (end7 n m v u w sm lk p e) := by
  unfold mid7
  rw [pre22_in]
  rfl
theorem fin7_true {p : Pth} {lg : Iv} {lk : Int} (a : ¬ p.g.lo < 0) (b : ¬ lg.hi < p.g.hi) (c : ¬ p.kd < 1) (d : ¬ 3 < p.kd) (l : ¬ W (lk + 1) < (p.n : Int)) : fin7 p lg lk (tru true) = tru true := by
  unfold fin7
  rw [decide_eq_false a, decide_eq_false b, decide_eq_false c, decide_eq_false d, decide_eq_false l]
  exact tru_if _
def fin7' (n m : Nat) (v u : Nat → Nat → Int) (w sm : PathF) (lk : Int) (p q : Pth) : R := two7 q p (bif w q.row p.row then bif decide (p.kd = 3) then tru true else two7 p q (tru (sm p.row q.row)) else tru false)
theorem end7_ok (n m : Nat) (v u : Nat → Nat → Int) (w sm : PathF) (lk : Int) (p q : Pth) : end7 n m v u w sm lk p (.ok q) = fin7' n m v u w sm lk p q := by
  unfold end7
  rw [pre22_in]
  rfl
theorem end7_bad (n m : Nat) (v u : Nat → Nat → Int) (w sm : PathF) (lk : Int) (p : Pth) (h : lk = 20) : end7 n m v u w sm lk p (.error 1) = tru true := by
  unfold end7
  rw [pre22_in]
  subst h
  rfl
theorem light_true (n m : Nat) (v u v1 u1 : Nat → Nat → Int) (x : Iv) (r : Ray) (lg : Iv) (lk : Int) : mid7 n m v u insW sameW lg lk (followE n m v1 u1 x r lg lk) (followE n m v1 u1 x r lg (W (lk + 1))) = tru true := by
  cases hd : okE (followE n m v1 u1 x r lg lk)
  · unfold mid7
    rw [pre22_in, hd]
    rfl
  obtain ⟨h1, h2, h3, h4, h5, h6, h7⟩ := follow_ok hd
  have w1 : W (lk + 1) = lk + 1 := by unfold W; exact wr (by omega) (by omega)
  have e1 : followE n m v1 u1 x r lg lk = .ok (goE n m v1 u1 x lg lk.toNat r) := by
    rw [follow_is h1 h2 h3 h4 h5 lk h6, decide_eq_false (show ¬ 20 < lk by omega)]; rfl
  have he := goE_end n m v1 u1 x lg h4 h3 lk.toNat r
  have hx : Ext 0 (fun _ _ => 0) lk.toNat (goE n m v1 u1 x lg lk.toNat r) := go_ext foE (leaveF foE) n m v1 u1 x lg lk.toNat r 0 _
  have hx' : Ext 0 (fun _ _ => 0) (lk.toNat + 1) (goE n m v1 u1 x lg (lk.toNat + 1) r) := go_ext foE (leaveF foE) n m v1 u1 x lg (lk.toNat + 1) r 0 _
  have hn : Next (goE n m v1 u1 x lg lk.toNat r) (goE n m v1 u1 x lg (lk.toNat + 1) r) := go_next foE (leaveF foE) n m v1 u1 x lg lk.toNat r 0 _
  have l1 := hx.le
  have l2 := hx'.le
  have e2 : followE n m v1 u1 x r lg (W (lk + 1)) = bif decide (20 < lk + 1) then .error 1 else .ok (goE n m v1 u1 x lg (lk.toNat + 1) r) := by
    rw [w1, follow_is h1 h2 h3 h4 h5 (lk + 1) (by omega), show (lk + 1).toNat = lk.toNat + 1 by omega]
  rw [e1, e2, mid7_ok]
  clear e1 e2 hd
  generalize goE n m v1 u1 x lg lk.toNat r = p at *
  generalize goE n m v1 u1 x lg (lk.toNat + 1) r = q at *
  have hend : end7 n m v u insW sameW lk p (bif decide (20 < lk + 1) then .error 1 else .ok q) = tru true := by
    by_cases h20 : 20 < lk + 1
    · rw [decide_eq_true h20, cond_true]
      exact end7_bad _ _ _ _ _ _ _ _ (by omega)
    · rw [decide_eq_false h20, cond_false, end7_ok]
      unfold fin7'
      rw [two7_in _ _ _ (by omega) (by omega), two7_in _ _ _ (by omega) (by omega), ins_next hn he, cond_true]
      cases hk : decide (p.kd = 3)
      · rw [decide_eq_false_iff_not] at hk
        rcases hn with rfl | ⟨e, _⟩
        · rw [same_self]; rfl
        · exact absurd e hk
      · rfl
  rw [hend]
  obtain ⟨hk, g0, g1⟩ := he
  exact fin7_true (by omega) (by omega) (by omega) (by omega) (by rw [w1]; omega)
theorem k7_ : FnOk Try.prog 7 Try.f7 := fk Try.func7 (by kernel_rfl) rfl
theorem k19_ : FnOk Try.prog 19 Try.f19 := fk Try.func19 (by kernel_rfl) rfl
theorem fns7_ok : FnsOk Try.prog fns7 := fns_cons k7_ (fns_cons k9 (fns_loops k10 ok10 (fns_cons k19_ fns_nil)))
theorem orc7_ok : OrcOk Try.prog (orc7 followE insW sameW) := orc_cons E8 (orc_cons E17 (orc_cons E22 (orc_cons E24 orc_nil)))
theorem ltV_sc (g : Iv) (k : Int) (W : World) (S : Nat → Prop) : (ltV g k).sc W S := by
  intro z hz
  simp only [ltC, List.mem_cons, List.not_mem_nil, or_false] at hz
  rcases hz with rfl | rfl | rfl
  all_goals exact AOk.int _ _
theorem light_calls (ad ad' : Option Addr) (n m cap cap' : Nat) (v u : Nat → Nat → Int) (x : Iv) (r : Ray) (lg : Iv) (lk : Int) (hn : n * 48 ≤ 140737488351232) (w : World) (h1 : AOk w (.as ad 6 n cap (arrC 6 v))) (h2 : AOk w (.as ad' 2 m cap' (arrC 2 u))) :
    Calls Try.prog 7 (([.u (.a (bodyA ad ad' n m cap cap' v u x)), rayV r, ltV lg lk] : List V).map (V.den fun _ => ri0)).toArray w fun e w' => e = .returned (.bool true) ∧ RowKit.Below w.heap.size w w' := by
  have h := light_code followE insW sameW ad ad' n m cap cap' v u x r lg lk (n + 1) hn (by omega) (light_true n m v u _ _ x r lg lk)
  refine ans_calls mixed orc7_ok fns7_ok h (fun y hy => ?_) _ (fun y hy => ?_)
  · simp only [List.mem_cons, List.not_mem_nil, or_false] at hy
    rcases hy with rfl | rfl | rfl
    · exact ⟨rfl, fun e => by cases e⟩
    · exact ⟨rfl, fun e => by cases e⟩
    · exact ⟨rfl, fun e => by cases e⟩
  · simp only [List.mem_cons, List.not_mem_nil, or_false] at hy
    rcases hy with rfl | rfl | rfl
    · intro z hz
      simp only [bodyA, List.mem_cons, List.not_mem_nil, or_false] at hz
      rcases hz with rfl | rfl | rfl | rfl
      · exact h1
      · exact h2
      · exact AOk.int _ _
      · exact AOk.int _ _
    · exact rayC_sc r w _
    · exact ltV_sc lg lk w _
end Go.Proofs.Ytbgdfikfldkjbaa.AI
