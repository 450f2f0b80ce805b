/- What is contained stays contained: light. -/
import Derived.Test.YtbgdfikfldkjbaaTI1
namespace Go.Proofs.Ytbgdfikfldkjbaa.AI
set_option linter.unnecessarySimpa false
open Go
set_option linter.unusedVariables false
set_option linter.unusedSimpArgs false
theorem cutN_eq (n : Int) : cutN n = max 0 (min 16777216 n) := by unfold cutN; rw [mxI_eq, mnI_eq]
theorem cutN_mono {a b : Int} (h : a ≤ b) : cutN a ≤ cutN b := by rw [cutN_eq, cutN_eq]; omega
theorem cut_v {a b : Int} (h : a ≤ b) : (Iv.v ⟨cutN a, cutN b⟩) = true := by
  have := cutN_mono h
  have := cutN_in a
  have := cutN_in b
  simp only [Iv.v, vI_iff]
  omega
theorem cut_in {x X : Iv} (h : IvIn x X) : IvIn x.cut X.cut := ⟨cut_v (ivv h.v).2.1, cutN_mono h.lo, cutN_mono h.hi⟩
theorem mon_share {p P q Q : Iv} (hp : IvIn p P) (hq : IvIn q Q) : Mon IvIn (shareE p q) (shareE P Q) :=
  mon_bind (mon_sub hp hq) fun _ _ h1 => mon_bind (mon_add hp hq) fun _ _ h2 => mon_bind (mon_div h1 h2) fun _ _ h3 => mon_bind (mon_sq h3) fun _ _ h4 => mon_ok (cut_in h4)
structure SfIn (s S : Sf) : Prop where
  before : IvIn s.before S.before
  after : IvIn s.after S.after
  fr : IvIn s.fr S.fr
  to : IvIn s.to S.to
theorem within_in {x X : Iv} {a b : Int} (h : IvIn x X) (hX : X.within a b = true) : x.within a b = true := by
  simp only [Iv.within, Bool.and_eq_true, decide_eq_true_eq] at hX ⊢
  have := h.lo
  have := h.hi
  exact ⟨h.v, by omega, by omega⟩
theorem sf_v {s S : Sf} (h : SfIn s S) (hS : S.v = true) : s.v = true := by
  simp only [Sf.v, Bool.and_eq_true] at hS ⊢
  exact ⟨within_in h.before hS.1, within_in h.after hS.2.1, within_in h.fr hS.2.2.1, within_in h.to hS.2.2.2⟩
theorem mon_pol {s S : Sf} {f F g G : Iv} (h : SfIn s S) (hf : IvIn f F) (hg : IvIn g G) : Mon IvIn (polE s f g) (polE S F G) := mon_v2 fun hS => ⟨sf_v h hS,
  mon_bind (mon_mul h.fr hf) fun _ _ h1 => mon_bind (mon_mul h.to hg) fun _ _ h2 => mon_share h1 h2⟩
theorem mon_reflect {s S : Sf} (h : SfIn s S) : Mon IvIn (reflectE s) (reflectE S) :=
  mon_bind (mon_pol h h.before h.after) fun _ _ h1 => mon_bind (mon_pol h h.after h.before) fun _ _ h2 => mon_bind (mon_add h1 h2) fun _ _ h3 => mon_bind (mon_mul h3 (.self half1_v)) fun _ _ h4 => mon_ok (cut_in h4)
theorem mon_trans {s S : Sf} (h : SfIn s S) : Mon IvIn (transE s) (transE S) := mon_bind (mon_reflect h) fun _ _ h1 => mon_sub (.self one1_v) h1
/-- An interval of one sign. -/
def OneSign (X : Iv) : Prop := 0 ≤ X.lo ∨ X.hi ≤ 0
theorem cos_in {x X : Iv} (h : IvIn x X) (hX : X.v = true) (hs : OneSign X) : IvIn (cosI x) (cosI X) := by
  have a := ivv h.v
  have b := ivv hX
  have l1 := h.lo
  have l2 := h.hi
  have w1 : W (0 - x.hi) = 0 - x.hi := by unfold W; exact wr (by omega) (by omega)
  have w2 : W (0 - x.lo) = 0 - x.lo := by unfold W; exact wr (by omega) (by omega)
  have w3 : W (0 - X.hi) = 0 - X.hi := by unfold W; exact wr (by omega) (by omega)
  have w4 : W (0 - X.lo) = 0 - X.lo := by unfold W; exact wr (by omega) (by omega)
  unfold cosI
  rw [w1, w2, w3, w4]
  by_cases h1 : X.lo < 0
  · rw [decide_eq_true h1, cond_true]
    have h2 : X.hi ≤ 0 := by rcases hs with h | h <;> omega
    by_cases h3 : x.lo < 0
    · rw [decide_eq_true h3, cond_true]
      exact ⟨cut_v (by omega), cutN_mono (show 0 - X.hi ≤ 0 - x.hi by omega), cutN_mono (show 0 - x.lo ≤ 0 - X.lo by omega)⟩
    · rw [decide_eq_false h3, cond_false]
      exact ⟨cut_v a.2.1, cutN_mono (show 0 - X.hi ≤ x.lo by omega), cutN_mono (show x.hi ≤ 0 - X.lo by omega)⟩
  · rw [decide_eq_false h1, decide_eq_false (show ¬ x.lo < 0 by omega)]
    exact cut_in h
theorem mon_light {a A b B c C d D : Iv} (ha : IvIn a A) (hA : A.v = true) (sa : OneSign A) (hb : IvIn b B) (hB : B.v = true) (sb : OneSign B) (hc : IvIn c C) (hd : IvIn d D) : Mon IvIn (lightE a b c d) (lightE A B C D) :=
  mon_trans ⟨cos_in ha hA sa, cos_in hb hB sb, hc, hd⟩
theorem sgn_one {X : Iv} (hX : X.v = true) (h : X.sgn ≠ 0) : OneSign X := by
  unfold Iv.sgn sgn at h
  rw [show vI X.lo X.hi = true from hX, if_pos rfl] at h
  by_cases h1 : 0 < X.lo
  · exact .inl (by omega)
  · rw [if_neg h1] at h
    by_cases h2 : X.hi < 0
    · exact .inr (by omega)
    · rw [if_neg h2] at h; exact absurd rfl h
theorem dot_v {a b : Bx} (h : okE (dotE a b) = true) : (getE iv0 (dotE a b)).v = true := by
  unfold dotE at *
  cases hv : a.v && b.v
  · rw [hv] at h; cases h
  rw [hv, cond_true] at h
  rw [cond_true]
  obtain ⟨_, _, h, e⟩ := bind_get iv0 h
  rw [e]
  obtain ⟨_, _, h, e⟩ := bind_get iv0 h
  rw [e]
  obtain ⟨_, _, h, e⟩ := bind_get iv0 h
  rw [e]
  obtain ⟨_, _, h, e⟩ := bind_get iv0 h
  rw [e]
  exact add_v h
theorem neg_v {x : Iv} (h : okE (negE x) = true) : (getE iv0 (negE x)).v = true := by
  unfold negE at *
  cases hv : x.v
  · rw [hv] at h; cases h
  have := ivv hv
  simp only [hv, cond_true, getE, Iv.v, vI_iff]
  omega
theorem sqrt_v {x : Iv} (h : okE (sqrtE x) = true) : (getE iv0 (sqrtE x)).v = true := by
  unfold sqrtE at *
  cases hv : x.v
  · rw [hv] at h; cases h
  cases hn : decide (x.lo < 0)
  · rw [hv, hn] at h
    simp only [hv, hn, cond_true, cond_false] at h ⊢
    have a := ivv hv
    have hn' : ¬ x.lo < 0 := by simpa using hn
    have m2 := root_mono (a := x.lo * 16777216) (b := x.hi * 16777216) (by omega) (by omega) (by omega)
    have hi := mk_in h
    rw [mk_ok h]
    simp only [getE, Iv.v, vI_iff]
    refine ⟨hi.1, ?_, hi.2⟩
    unfold sqrtL sqrtH
    split <;> omega
  · rw [hv, hn] at h; cases h
structure RfIn (r R : Rf) : Prop where
  out : BxIn r.out R.out
  before : IvIn r.before R.before
  after : IvIn r.after R.after
  bv : R.before.v = true
  av : R.after.v = true
  bs : OneSign R.before
  sa : OneSign R.after
theorem mon_case {α : Type} {S : α → α → Prop} {e E : Er α} (h : Mon S e E) : (∃ n, E = .error n) ∨ ∃ y Y, e = .ok y ∧ E = .ok Y ∧ S y Y := by
  cases hE : E with
  | error n => exact .inl ⟨n, rfl⟩
  | ok Y =>
    obtain ⟨y, h1, h2⟩ := h Y hE
    exact .inr ⟨y, Y, h1, rfl, h2⟩
theorem mon_refr {d D n : Bx} {r : Iv} (hd : BxIn d D) (hn : n.v = true) (hr : r.v = true) : Mon RfIn (refrE d n r) (refrE D n r) := by
  unfold refrE
  rw [hn, hr, hd.v]
  cases hD : D.v
  · exact mon_err
  simp only [Bool.and_self, cond_true]
  have hc := mon_dot hd (.self (a := n) hn)
  have hcv := fun h => dot_v (a := D) (b := n) h
  rcases mon_case hc with ⟨e, he⟩ | ⟨c, C, e1, e2, hcC⟩
  · rw [he]; exact mon_err
  rw [e2] at hcv
  have hCv : C.v = true := hcv rfl
  rw [e1, e2]
  show Mon RfIn (bif decide (c.sgn = 0) then _ else _) (bif decide (C.sgn = 0) then _ else _)
  by_cases hs : C.sgn = 0
  · rw [decide_eq_true hs]; exact mon_err
  have hsc := sgn_in hcC hCv hs
  rw [decide_eq_false hs, decide_eq_false (show ¬ c.sgn = 0 by rw [hsc]; exact hs), cond_false, cond_false, hsc]
  refine mon_bind (mon_rad hcC (.self hr)) fun q Q hq => ?_
  by_cases hQ : Q.lo < 0
  · rw [decide_eq_true hQ]; exact mon_err
  rw [decide_eq_false hQ, decide_eq_false (show ¬ q.lo < 0 by have := hq.lo; omega), cond_false, cond_false]
  have ht := mon_sqrt hq
  have htv := fun h => sqrt_v (x := Q) h
  rcases mon_case ht with ⟨e, he⟩ | ⟨t, T, t1, t2, htT, hT0⟩
  · rw [he]; exact mon_err
  rw [t2] at htv
  have hTv : T.v = true := htv rfl
  rw [t1, t2]
  show Mon RfIn (bindE (bif decide (C.sgn < 0) then negE t else .ok t) _) (bindE (bif decide (C.sgn < 0) then negE T else .ok T) _)
  have fin : ∀ af AF : Iv, IvIn af AF → AF.v = true → OneSign AF → Mon RfIn (bindE (scaleE d r) fun al => bindE (mulE r c) fun m => bindE (subE af m) fun k => bindE (scaleE n k) fun s => bindE (addB al s) fun out => .ok ⟨out, c, af⟩)
      (bindE (scaleE D r) fun al => bindE (mulE r C) fun m => bindE (subE AF m) fun k => bindE (scaleE n k) fun s => bindE (addB al s) fun out => .ok ⟨out, C, AF⟩) := fun af AF h hv hsg =>
    mon_bind (mon_scale hd (.self hr)) fun _ _ h1 => mon_bind (mon_mul (.self hr) hcC) fun _ _ h2 => mon_bind (mon_sub h h2) fun _ _ h3 => mon_bind (mon_scale (.self hn) h3) fun _ _ h4 => mon_bind (mon_addB h1 h4) fun _ _ h5 =>
      mon_ok ⟨h5, hcC, h, hCv, hv, sgn_one hCv hs, hsg⟩
  cases decide (C.sgn < 0)
  · exact fin t T htT hTv (.inl hT0)
  · rw [cond_true, cond_true]
    have hn' := mon_neg htT
    have hnv := fun h => neg_v (x := T) h
    rcases mon_case hn' with ⟨e, he⟩ | ⟨af, AF, n1, n2, hA⟩
    · rw [he]; exact mon_err
    have hAF : AF = ⟨-T.hi, -T.lo⟩ := by
      unfold negE at n2
      rw [hTv, cond_true] at n2
      cases n2; rfl
    rw [n2] at hnv
    rw [n1, n2]
    exact fin af AF hA (hnv rfl) (.inr (by rw [hAF]; show -T.lo ≤ 0; omega))
structure LvIn (l L : Lv) : Prop where
  ok : l.ok = true
  kd : l.kd = L.kd
  o : BxIn l.o L.o
  g : IvIn l.g L.g
theorem box_sgn {a A : Bx} (h : BxIn a A) (hA : A.v = true) : (A.z.sgn = 1 → a.z.sgn = 1) ∧ (A.z.sgn = -1 → a.z.sgn = -1) := by
  simp only [Bx.v, Bool.and_eq_true] at hA
  exact ⟨fun e => by rw [sgn_in h.z hA.2.2 (by omega)]; exact e, fun e => by rw [sgn_in h.z hA.2.2 (by omega)]; exact e⟩
theorem leave_in {v : Nat → Nat → Int} {x : Iv} {r R : Ray} {i : Nat} {g : Iv} (hd : BxIn r.dir R.dir) (hn : (bxOf v i).v = true) (hx : x.v = true) (hg : g.v = true) (h : (leaveF foE v x R i g).ok = true) : LvIn (leaveF foE v x r i g) (leaveF foE v x R i g) := by
  have hr : Mon RfIn (refL foE v x r i) (refL foE v x R i) := mon_refr hd hn hx
  have hro := fun h => refr_out (d := R.dir) (n := bxOf v i) (r := x) h
  unfold leaveF at h ⊢
  rcases mon_case hr with ⟨e, he⟩ | ⟨f, F, e1, e2, hf⟩
  · rw [he] at h; cases h
  have hFo : F.out.v = true := by
    have : okE (refrE R.dir (bxOf v i) x) = true := by rw [show refrE R.dir (bxOf v i) x = .ok F from e2]; rfl
    have := hro this
    rw [show refrE R.dir (bxOf v i) x = .ok F from e2] at this
    exact this
  have hl : Mon IvIn (litL foE v x r i) (litL foE v x R i) := by
    unfold litL
    rw [e1, e2]
    exact mon_light hf.before hf.bv hf.bs hf.after hf.av hf.sa (.self hx) (.self one1_v)
  rcases mon_case hl with ⟨e, he⟩ | ⟨t, T, t1, t2, htT⟩
  · rw [e2, he] at h; cases h
  have hm : Mon IvIn (gainL foE v x r i g) (gainL foE v x R i g) := by
    unfold gainL
    rw [t1, t2]
    exact mon_mul (.self hg) htT
  rcases mon_case hm with ⟨e, he⟩ | ⟨p, P, p1, p2, hpP⟩
  · rw [e2, t2, he] at h; cases h
  rw [e2, t2, p2] at h ⊢
  rw [e1, t1, p1]
  obtain ⟨s1, s2⟩ := box_sgn hf.out hFo
  simp only [okE, getE, cond_true] at h ⊢
  show LvIn (bif decide (f.out.z.sgn = 1) then _ else bif decide (f.out.z.sgn = -1) then _ else _) (bif decide (F.out.z.sgn = 1) then _ else bif decide (F.out.z.sgn = -1) then _ else _)
  by_cases c1 : F.out.z.sgn = 1
  · rw [decide_eq_true c1, decide_eq_true (s1 c1)]
    exact ⟨rfl, rfl, hf.out, hpP⟩
  · by_cases c2 : F.out.z.sgn = -1
    · rw [decide_eq_false c1, decide_eq_true c2, decide_eq_true (s2 c2), decide_eq_false (show ¬ f.out.z.sgn = 1 by rw [s2 c2]; omega)]
      exact ⟨rfl, rfl, hf.out, hpP⟩
    · have h' : (bif decide (F.out.z.sgn = 1) then (⟨1, F.out, P, true⟩ : Lv) else bif decide (F.out.z.sgn = -1) then ⟨2, F.out, P, true⟩ else ⟨0, F.out, P, false⟩).ok = true := h
      rw [decide_eq_false c1, decide_eq_false c2] at h'
      cases h'
/-- What light does, contained: the same, where it is known. -/
theorem kind_in {d D n : Bx} {x : Iv} (hd : BxIn d D) (hn : n.v = true) (hx : x.v = true) : Mon (fun k K => K = 3 ∨ k = K) (hitsE d n x) (hitsE D n x) := by
  unfold hitsE
  rw [hn, hx, hd.v]
  cases hD : D.v
  · exact mon_err
  simp only [Bool.and_self, cond_true]
  refine mon_bind (mon_dot hd (.self hn)) fun c C hc => ?_
  have hq := mon_rad hc (.self hx)
  have hqv := fun h => rad_v (c := C) (r := x) h
  rcases mon_case hq with ⟨e, he⟩ | ⟨q, Q, e1, e2, h⟩
  · rw [he]; exact mon_err
  rw [e2] at hqv
  rw [e1, e2]
  refine mon_ok ?_
  have hQv : Q.v = true := hqv rfl
  unfold Iv.kind decI
  rw [h.v, hQv]
  simp only [Bool.not_true, cond_false]
  by_cases hs : Q.sgn = 0
  · rw [hs]; exact .inl rfl
  · rw [sgn_in h hQv hs]; exact .inr rfl
end Go.Proofs.Ytbgdfikfldkjbaa.AI
