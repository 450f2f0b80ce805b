/- Enter of the program and of the reference, told. -/
import Derived.Test.YtbgdfikfldkjbaaGreatGI
namespace Go.Proofs.YtbgdfikfldkjbaaGreat.AI
set_option linter.unnecessarySimpa false
open Go
set_option linter.unusedVariables false
set_option linter.unusedSimpArgs false
theorem gk17 : FnOk Tryz.prog 17 Tryz.f17 := fk Tryz.func17 (by kernel_rfl) rfl
theorem gk18 : FnOk Tryz.prog 18 Tryz.f18 := fk Tryz.func18 (by kernel_rfl) rfl
theorem gk45 : FnOk Tryz.prog 45 Tryz.f45 := fk Tryz.func45 (by kernel_rfl) rfl
def ray0 : Ray := ⟨bx0, bx0⟩
def enR (e : Nat) : R := some (.t [.a (rayC ray0), ivU iv0, eC e], [])
def enO (r : Ray) (t : Iv) : R := some (.t [.a (rayC r), ivU t, ui 0], [])
structure Ent where
  val : Nat → Nat → (Nat → Nat → Int) → (Nat → Nat → Int) → Iv → Bool
  ray : Ray → Bool
  div : Iv → Iv → Er Iv
  refr : Bx → Bx → Iv → Er Rf
  sgn : Iv → Int
  light : Iv → Iv → Iv → Iv → Er Iv
noncomputable def orc17e (o : Ent) : List (FuncId × (List V → Tree)) := [(15, fun args => argsT args (F26g o.val)), (21, shT [some 12] (P12 fun r => truT (o.ray r))), (44, sh2 o.div), (46, s662 fun d n r => resF (o.refr d n r)), (47, s1s o.sgn), (48, s2222 fun p q r s => resT (o.light p q r s))]
noncomputable def orc18e (o : Ent) : List (FuncId × (List V → Tree)) := [(16, fun args => argsT args (F26g o.val)), (27, shT [some 12] (P12 fun r => truT (o.ray r))), (49, sh2 o.div), (50, s662 fun d n r => resF (o.refr d n r)), (51, s2222 fun p q r s => resT (o.light p q r s))]
def enG (o : Ent) (pv : Iv → Bool) (ad ad' : Option Addr) (n m cap cap' : Nat) (v u : Nat → Nat → Int) (x : Iv) (i : Int) (r : Ray) : R :=
  pre22 n m v u (bif !o.val n m (numOf (arrC 6 v)) (numOf (arrC 2 u)) x then enR 0 else bif !o.ray r then enR 0 else bif decide (i < 0) then enR 1 else bif decide ((n : Int) ≤ i) then enR 1 else
    okK (o.div one1 x) (fun ratio => bif decide (0 ≤ i) && decide (i < n) then okF (o.refr r.dir (bxOf v i.toNat) ratio) (fun rf => bif pv rf.before then enR 8 else okK (o.light rf.before rf.after one1 x) (fun t => enO ⟨r.pt, rf.out⟩ t) enR) enR else none) enR)
theorem gq17 (o : Ent) (ad ad' : Option Addr) (n m cap cap' : Nat) (v u : Nat → Nat → Int) (x : Iv) (i : Int) (r : Ray) : ans Tryz.prog (orc17e o) [(17, Tryz.f17, []), (45, Tryz.f45, [])] 9 3 17 [.u (.a (bodyA ad ad' n m cap cap' v u x)), .u (ui i), rayV r] = enG o (fun b => decide (0 < o.sgn b)) ad ad' n m cap cap' v u x i r := by kernel_rfl
theorem gq18 (o : Ent) (ad ad' : Option Addr) (n m cap cap' : Nat) (v u : Nat → Nat → Int) (x : Iv) (i : Int) (r : Ray) : ans Tryz.prog (orc18e o) [(18, Tryz.f18, []), (20, Tryz.f20, [])] 9 3 18 [.u (.a (bodyA ad ad' n m cap cap' v u x)), .u (ui i), rayV r] = enG o (fun b => decide (0 < b.lo)) ad ad' n m cap cap' v u x i r := by kernel_rfl

/-! What refraction says of cosines. -/
theorem dot_v {a b : Bx} (h : okE (dotE a b) = true) : (getE iv0 (dotE a b)).v = true := by
  obtain ⟨_, _, _, _, _, _, h6, e⟩ := dot_ok h
  rw [e]
  exact gadd_v h6
theorem sqrt_v {x : Iv} (h : okE (sqrtE x) = true) : (getE iv0 (sqrtE x)).v = true ∧ 0 ≤ (getE iv0 (sqrtE x)).lo := by
  unfold sqrtE at *
  cases hv : x.v
  · rw [hv] at h; cases h
  rw [hv, cond_true] at h
  rw [cond_true]
  cases h2 : decide (x.lo < 0)
  · rw [h2, cond_false] at h
    rw [cond_false, mk_ok h]
    have hi := gmk_in h
    simp only [Iv.v, vI_iff] at hv
    have h2' : ¬ x.lo < 0 := by simpa using h2
    obtain ⟨s1, s2, s3⟩ := root_spec (n := x.hi * 16777216) (by omega) (by omega)
    obtain ⟨r1, r2, r3⟩ := root_spec (n := x.lo * 16777216) (by omega) (by omega)
    have hle : rootI (x.lo * 16777216) ≤ rootI (x.hi * 16777216) := by
      rcases Int.lt_or_le (rootI (x.hi * 16777216)) (rootI (x.lo * 16777216)) with h | h
      · have := Int.mul_le_mul (show rootI (x.hi * 16777216) + 1 ≤ rootI (x.lo * 16777216) by omega) (show rootI (x.hi * 16777216) + 1 ≤ rootI (x.lo * 16777216) by omega) (by omega) (by omega)
        omega
      · exact h
    have hl : sqrtL x.lo ≤ sqrtH x.hi := by
      unfold sqrtL sqrtH
      split <;> omega
    have h0 : 0 ≤ sqrtL x.lo := r1
    simp only [getE, Iv.v, vI_iff]
    omega
  · rw [h2] at h; cases h
theorem sgn_ne {c : Iv} (hv : c.v = true) (h : c.sgn ≠ 0) : 0 < c.lo ∨ c.hi < 0 := by
  unfold Iv.sgn sgn at h
  rw [show vI c.lo c.hi = true from hv, if_pos rfl] at h
  by_cases h1 : 0 < c.lo
  · exact .inl h1
  · rw [if_neg h1] at h
    by_cases h2 : c.hi < 0
    · exact .inr h2
    · rw [if_neg h2] at h; exact absurd rfl h
theorem sgn_pos {c : Iv} (hv : c.v = true) (h : 0 < c.lo) : c.sgn = 1 := by unfold Iv.sgn sgn; rw [show vI c.lo c.hi = true from hv, if_pos rfl, if_pos h]
theorem sgn_neg {c : Iv} (hv : c.v = true) (h : c.hi < 0) : c.sgn = -1 := by
  have := iv_le hv
  unfold Iv.sgn sgn
  rw [show vI c.lo c.hi = true from hv, if_pos rfl, if_neg (by omega), if_pos h]
theorem refr_facts {d n : Bx} {r : Iv} (h : okE (refrE d n r) = true) : (getE rf0 (refrE d n r)).before.v = true ∧ (getE rf0 (refrE d n r)).after.v = true ∧
    ((0 < (getE rf0 (refrE d n r)).before.lo ∧ 0 ≤ (getE rf0 (refrE d n r)).after.lo) ∨ ((getE rf0 (refrE d n r)).before.hi < 0 ∧ ((getE rf0 (refrE d n r)).after.lo < 0 ∨ (getE rf0 (refrE d n r)).after.lo = 0 ∧ (getE rf0 (refrE d n r)).after.hi = 0))) := by
  unfold refrE at *
  cases hv : (d.v && n.v) && r.v
  · rw [hv] at h; cases h
  rw [hv, cond_true] at h
  rw [cond_true]
  obtain ⟨c, hc, h, e⟩ := bind_get rf0 h
  rw [e]
  have hcv : c.v = true := by
    have h' : okE (dotE d n) = true := by rw [hc]; rfl
    have := dot_v h'
    rw [hc] at this
    exact this
  cases hs : decide (c.sgn = 0)
  · rw [hs] at h
    simp only [cond_false] at h ⊢
    obtain ⟨q, _, h, e⟩ := bind_get rf0 h
    rw [e]
    cases hq : decide (q.lo < 0)
    · rw [hq] at h
      simp only [cond_false] at h ⊢
      obtain ⟨t, ht, h, e⟩ := bind_get rf0 h
      rw [e]
      have htv : t.v = true ∧ 0 ≤ t.lo := by
        have h' : okE (sqrtE q) = true := by rw [ht]; rfl
        have := sqrt_v h'
        rw [ht] at this
        exact this
      obtain ⟨af, haf, h, e⟩ := bind_get rf0 h
      rw [e]
      obtain ⟨al, _, h, e⟩ := bind_get rf0 h
      rw [e]
      obtain ⟨m, _, h, e⟩ := bind_get rf0 h
      rw [e]
      obtain ⟨k, _, h, e⟩ := bind_get rf0 h
      rw [e]
      obtain ⟨s, _, h, e⟩ := bind_get rf0 h
      rw [e]
      obtain ⟨o, _, h, e⟩ := bind_get rf0 h
      rw [e]
      show c.v = true ∧ af.v = true ∧ ((0 < c.lo ∧ 0 ≤ af.lo) ∨ (c.hi < 0 ∧ (af.lo < 0 ∨ af.lo = 0 ∧ af.hi = 0)))
      have hs' : c.sgn ≠ 0 := by simpa using hs
      have tle := iv_le htv.1
      have tv := htv.1
      simp only [Iv.v, vI_iff] at tv
      rcases sgn_ne hcv hs' with hp | hn
      · rw [sgn_pos hcv hp, decide_eq_false (show ¬ (1 : Int) < 0 by omega), cond_false] at haf
        cases haf
        exact ⟨hcv, htv.1, .inl ⟨hp, htv.2⟩⟩
      · rw [sgn_neg hcv hn, decide_eq_true (show (-1 : Int) < 0 by omega), cond_true] at haf
        unfold negE at haf
        rw [htv.1, cond_true] at haf
        cases haf
        refine ⟨hcv, ?_, .inr ⟨hn, ?_⟩⟩
        · simp only [Iv.v, vI_iff]; omega
        · show -t.hi < 0 ∨ -t.hi = 0 ∧ -t.lo = 0
          omega
    · rw [hq] at h; cases h
  · rw [hs] at h; cases h
theorem pass_refr {d n : Bx} {r a b : Iv} (h : okE (refrE d n r) = true) : passE (getE rf0 (refrE d n r)).before (getE rf0 (refrE d n r)).after a b = lightE (getE rf0 (refrE d n r)).before (getE rf0 (refrE d n r)).after a b := by
  obtain ⟨h1, h2, h3⟩ := refr_facts h
  have l1 := iv_le h1
  refine pass_light h1 h2 ?_
  rcases h3 with ⟨a, b⟩ | ⟨a, b⟩
  · exact .inl ⟨by omega, b⟩
  · exact .inr ⟨by omega, b⟩
/-- Enter: an answer or an error. -/
def entE (n m : Nat) (v u : Nat → Nat → Int) (x : Iv) (i : Int) (r : Ray) : Er (Ray × Iv) :=
  bif !validB n m v u x then .error 0 else bif !(r.pt.v && r.dir.v) then .error 0 else bif decide (i < 0) then .error 1 else bif decide ((n : Int) ≤ i) then .error 1 else
    bindE (divE one1 x) fun ratio => bindE (refrE r.dir (bxOf v i.toNat) ratio) fun rf => bif decide (0 < rf.before.sgn) then .error 8 else bindE (lightE rf.before rf.after one1 x) fun t => .ok (⟨r.pt, rf.out⟩, t)
def resEn (e : Er (Ray × Iv)) : Tree := .test (okE e) (.leaf (.t [.a (rayC (getE (ray0, iv0) e).1), ivU (getE (ray0, iv0) e).2, ui 0])) (.leaf (.t [.a (rayC ray0), ivU iv0, eC (erE e)]))
abbrev EnF := Nat → Nat → (Nat → Nat → Int) → (Nat → Nat → Int) → Iv → Int → Ray → Er (Ray × Iv)
def F17e (en : EnF) : List A → Tree
  | [.a [.s k n v, .s k' m u, .i a, .i b], .o (.i i), .a [.i a1, .i b1, .i a2, .i b2, .i a3, .i b3, .i c1, .i d1, .i c2, .i d2, .i c3, .i d3]] =>
    .test (Nat.beq k 6 && Nat.beq k' 2) (resEn (en n m v u ⟨a, b⟩ i ⟨⟨⟨a1, b1⟩, ⟨a2, b2⟩, ⟨a3, b3⟩⟩, ⟨⟨c1, d1⟩, ⟨c2, d2⟩, ⟨c3, d3⟩⟩⟩)) .no
  | _ => .no
theorem F17e_val {en : EnF} {l : List A} {x : V × Heap} (h : (F17e en l).val = some x) : ∃ n m v u y i r, l = [.a (bodyD n m v u y), .o (.i i), .a (rayD r)] ∧ (resEn (en n m v u y i r)).val = some x := by
  unfold F17e at h
  split at h
  · rename_i k n v k' m u a b i a1 b1 a2 b2 a3 b3 c1 d1 c2 d2 c3 d3
    simp only [Tree.val] at h
    cases hc : (Nat.beq k 6 && Nat.beq k' 2)
    · rw [hc] at h; cases h
    rw [hc, cond_true] at h
    simp only [Bool.and_eq_true] at hc
    have hk := Nat.eq_of_beq_eq_true hc.1
    have hf := Nat.eq_of_beq_eq_true hc.2
    subst hk
    subst hf
    exact ⟨n, m, v, u, ⟨a, b⟩, i, ⟨⟨⟨a1, b1⟩, ⟨a2, b2⟩, ⟨a3, b3⟩⟩, ⟨⟨c1, d1⟩, ⟨c2, d2⟩, ⟨c3, d3⟩⟩⟩, rfl, h⟩
  · cases h
theorem resEn_flat {e : Er (Ray × Iv)} {x : V × Heap} (h : (resEn e).val = some x) : ∃ y, flatV y = true ∧ x = (y, []) := by
  unfold resEn at h
  simp only [Tree.val] at h
  cases he : okE e
  · rw [he] at h; cases h; exact ⟨_, rfl, rfl⟩
  · rw [he] at h; cases h; exact ⟨_, rfl, rfl⟩
def enT : Ent := ⟨validB, fun r => r.pt.v && r.dir.v, divE, refrE, Iv.sgn, lightE⟩
def enP : Ent := ⟨validB, fun r => r.pt.v && r.dir.v, divE, refrE, Iv.sgn, passE⟩
theorem en_arr (n m : Nat) (v u : Nat → Nat → Int) (x : Iv) (i : Int) (r : Ray) : validB n m (numOf (arrC 6 v)) (numOf (arrC 2 u)) x = validB n m v u x := valid_arr n m v u x
theorem enG_eq (o : Ent) (pv : Iv → Bool) (h1 : o.val = validB) (h2 : ∀ r, o.ray r = (r.pt.v && r.dir.v)) (h3 : o.div = divE) (h4 : o.refr = refrE) (h5 : ∀ d n r, okE (refrE d n r) = true → pv (getE rf0 (refrE d n r)).before = decide (0 < (getE rf0 (refrE d n r)).before.sgn))
    (h6 : ∀ d n r a b, okE (refrE d n r) = true → o.light (getE rf0 (refrE d n r)).before (getE rf0 (refrE d n r)).after a b = lightE (getE rf0 (refrE d n r)).before (getE rf0 (refrE d n r)).after a b) (ad ad' : Option Addr) (n m cap cap' : Nat) (v u : Nat → Nat → Int) (x : Iv) (i : Int) (r : Ray) :
    enG o pv ad ad' n m cap cap' v u x i r = (resEn (entE n m v u x i r)).val := by
  unfold enG entE
  rw [pre22_in, h1, h2, h3, h4, valid_arr]
  cases validB n m v u x
  · rfl
  cases (r.pt.v && r.dir.v)
  · rfl
  cases hi : decide (i < 0)
  · cases hn : decide ((n : Int) ≤ i)
    · have hi' : ¬ i < 0 := by simpa using hi
      have hn' : ¬ (n : Int) ≤ i := by simpa using hn
      rw [decide_eq_true (show 0 ≤ i by omega), decide_eq_true (show i < (n : Int) by omega)]
      simp only [Bool.not_true, cond_false, Bool.and_self, cond_true]
      cases hd : divE one1 x with
      | error e => rfl
      | ok ratio =>
        simp only [okK, okE, cond_true, getE, bindE]
        have h5 := h5 r.dir (bxOf v i.toNat) ratio
        have h6 := h6 r.dir (bxOf v i.toNat) ratio
        cases hr : refrE r.dir (bxOf v i.toNat) ratio with
        | error e => rfl
        | ok rf =>
          rw [hr] at h5 h6
          have h5 : pv rf.before = decide (0 < rf.before.sgn) := h5 rfl
          have h6 : ∀ a b, o.light rf.before rf.after a b = lightE rf.before rf.after a b := fun a b => h6 a b rfl
          simp only [okF, okE, cond_true, getE]
          rw [h5, h6]
          cases decide (0 < rf.before.sgn)
          · simp only [cond_false]
            cases lightE rf.before rf.after one1 x <;> rfl
          · rfl
    · rfl
  · rfl
theorem toldEn {f : FuncId} {fn : Func} {orc : List (FuncId × (List V → Tree))} {fns : List (FuncId × Func × List (Nat × LV))} (hk : FnOk Tryz.prog f fn) (ho : OrcOk Tryz.prog orc) (hf : FnsOk Tryz.prog fns)
    (ha : ∀ ad ad' n m cap cap' v u x i r, ans Tryz.prog orc fns 9 3 f [.u (.a (bodyA ad ad' n m cap cap' v u x)), .u (ui i), rayV r] = (resEn (entE n m v u x i r)).val) : Told Tryz.prog f (fun args => argsT args (F17e entE)) := by
  refine told_args (fuel := 9) (d := 3) (orc := orc) (fns := fns) mixed ho hf hk.enter (args_flat fun l x h => ?_) fun l x h args hr => ?_
  · obtain ⟨n, m, v, u, y, i, r, _, h⟩ := F17e_val h
    exact resEn_flat h
  · obtain ⟨n, m, v, u, y, i, r, rfl, h⟩ := F17e_val h
    cases hr with
    | cons r1 t => cases t with
      | cons r2 t => cases t with
        | cons r3 t =>
          cases t
          obtain ⟨ad, ad', cap, cap', e1⟩ := realF_body r1
          rw [e1, realA_i r2, realF_ray r3, ha]
          exact h
theorem H17 : Told Tryz.prog 17 (fun args => argsT args (F17e entE)) := toldEn gk17 (orc := orc17e enT) (fns := [(17, Tryz.f17, []), (45, Tryz.f45, [])]) (orc_cons E26 (orc_cons E27 (orc_cons E111 (orc_cons E66 (orc_cons E70 (orc_cons E67 orc_nil)))))) (fns_cons gk17 (fns_cons gk45 fns_nil))
  fun ad ad' n m cap cap' v u x i r => (gq17 enT ad ad' n m cap cap' v u x i r).trans (enG_eq enT _ rfl (fun _ => rfl) rfl rfl (fun _ _ _ _ => rfl) (fun _ _ _ _ _ _ => rfl) ad ad' n m cap cap' v u x i r)
theorem H18 : Told Tryz.prog 18 (fun args => argsT args (F17e entE)) := toldEn gk18 (orc := orc18e enP) (fns := [(18, Tryz.f18, []), (20, Tryz.f20, [])]) (orc_cons H16 (orc_cons H27 (orc_cons H49 (orc_cons H50 (orc_cons H51 orc_nil))))) (fns_cons gk18 (fns_cons gk20 fns_nil))
  fun ad ad' n m cap cap' v u x i r => (gq18 enP ad ad' n m cap cap' v u x i r).trans (enG_eq enP _ rfl (fun _ => rfl) rfl rfl (fun d n r h => by
    obtain ⟨h1, _, h3⟩ := refr_facts h
    have l1 := iv_le h1
    rcases h3 with ⟨a, _⟩ | ⟨a, _⟩
    · rw [sgn_pos h1 a, decide_eq_true a]; rfl
    · rw [sgn_neg h1 a, decide_eq_false (show ¬ 0 < (getE rf0 (refrE d n r)).before.lo by omega)]; rfl) (fun d n r a b h => pass_refr h) ad ad' n m cap cap' v u x i r)
end Go.Proofs.YtbgdfikfldkjbaaGreat.AI
