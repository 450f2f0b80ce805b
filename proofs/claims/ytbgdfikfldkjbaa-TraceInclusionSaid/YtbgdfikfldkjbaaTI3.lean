/- What is contained stays contained: the face that is hit. -/
import Derived.Test.YtbgdfikfldkjbaaTI2
import Derived.Test.YtbgdfikfldkjbaaPS
namespace Go.Proofs.Ytbgdfikfldkjbaa.AI
set_option linter.unnecessarySimpa false
open Go
set_option linter.unusedVariables false
set_option linter.unusedSimpArgs false
theorem putF_new (f : Nat → Tg) (n : Nat) (x : Tg) : putF f n x n = x := by
  unfold putF
  have : Nat.blt n n = false := by
    cases h : Nat.blt n n with
    | false => rfl
    | true => rw [Nat.blt_eq] at h; omega
  rw [this]; rfl
theorem putF_old {f : Nat → Tg} {n : Nat} {x : Tg} {j : Nat} (h : j < n) : putF f n x j = f j := by
  unfold putF
  have : Nat.blt j n = true := by rw [Nat.blt_eq]; exact h
  rw [this]; rfl
/-- Where nothing is an error, all is there, in its order. -/
theorem hitGo_ord : ∀ (xs : List Tg) (n : Nat) (f : Nat → Tg) (b : Int), (∀ x ∈ xs, x.e = 0) → (hitGo xs n f b).e = 0 ∧ (hitGo xs n f b).n = n + xs.length ∧ (∀ j, j < n → (hitGo xs n f b).f j = f j) ∧ ∀ (j : Nat) (t : Tg), xs[j]? = some t → (hitGo xs n f b).f (n + j) = t
  | [], n, f, b, _ => ⟨rfl, rfl, fun _ _ => rfl, fun j t h => by simp at h⟩
  | y :: ys, n, f, b, h => by
    obtain ⟨h1, h2, h3, h4⟩ := hitGo_ord ys (n + 1) (putF f n y) (nextB n f b y) fun x hx => h x (List.mem_cons_of_mem _ hx)
    unfold hitGo
    rw [decide_eq_true (h y (List.mem_cons_self ..))]
    simp only [Bool.not_true, cond_false]
    refine ⟨h1, by rw [h2, List.length_cons]; omega, fun j hj => by rw [h3 j (by omega), putF_old hj], fun j t hj => ?_⟩
    cases j with
    | zero =>
      simp at hj
      subst hj
      show (hitGo ys (n + 1) (putF f n y) (nextB n f b y)).f n = y
      rw [h3 n (by omega), putF_new]
    | succ j =>
      simp at hj
      have := h4 j t hj
      rw [show n + 1 + j = n + (j + 1) by omega] at this
      exact this
/-- The nearest of those that are sure. -/
theorem hitGo_best : ∀ (xs : List Tg) (n : Nat) (f : Nat → Tg) (b : Int) (p : Nat), (∀ x ∈ xs, x.e = 0) → p < n + xs.length → ((hitGo xs n f b).f p).sure = true →
    (∀ j, j < n + xs.length → j ≠ p → ((hitGo xs n f b).f j).sure = true → ((hitGo xs n f b).f p).most < ((hitGo xs n f b).f j).most) → -1 ≤ b → b < (n : Int) → (0 ≤ b → (f b.toNat).sure = true) → (p < n → b = p) → (hitGo xs n f b).b = p
  | [], n, f, b, p, _, hp, _, _, _, _, _, h => h (by simpa using hp)
  | y :: ys, n, f, b, p, h, hp, hs, hm, hb1, hb2, hbs, hbp => by
    have hy := h y (List.mem_cons_self ..)
    have hall := hitGo_ord ys (n + 1) (putF f n y) (nextB n f b y) fun x hx => h x (List.mem_cons_of_mem _ hx)
    have ih := hitGo_best ys (n + 1) (putF f n y) (nextB n f b y) p fun x hx => h x (List.mem_cons_of_mem _ hx)
    have e : hitGo (y :: ys) n f b = hitGo ys (n + 1) (putF f n y) (nextB n f b y) := by
      rw [hitGo, decide_eq_true hy]; rfl
    rw [e] at hs hm ⊢
    simp only [List.length_cons] at hp hm
    obtain ⟨_, _, a3, _⟩ := hall
    have fn : (hitGo ys (n + 1) (putF f n y) (nextB n f b y)).f n = y := by rw [a3 n (by omega), putF_new]
    have fj : ∀ j, j < n → (hitGo ys (n + 1) (putF f n y) (nextB n f b y)).f j = f j := fun j hj => by rw [a3 j (by omega), putF_old hj]
    generalize hitGo ys (n + 1) (putF f n y) (nextB n f b y) = s at *
    refine ih (by omega) hs (fun j hj => hm j (by omega)) ?_ ?_ ?_ ?_
    · unfold nextB
      cases (y.sure && (decide (b < 0) || decide (y.most < (f b.toNat).most)))
      · exact hb1
      · rw [cond_true]; simp only [Int.ofNat_eq_natCast]; omega
    · unfold nextB
      cases (y.sure && (decide (b < 0) || decide (y.most < (f b.toNat).most)))
      · rw [cond_false]; omega
      · rw [cond_true]; simp only [Int.ofNat_eq_natCast]; omega
    · unfold nextB
      cases hc : (y.sure && (decide (b < 0) || decide (y.most < (f b.toNat).most)))
      · rw [cond_false]
        intro h0
        rw [putF_old (by omega)]
        exact hbs h0
      · rw [cond_true]
        intro _
        rw [Bool.and_eq_true] at hc
        rw [show (Int.ofNat n).toNat = n from rfl, putF_new]
        exact hc.1
    · intro hpn
      unfold nextB
      by_cases hpe : p = n
      · subst hpe
        rw [fn] at hs hm
        rw [hs]
        by_cases hb0 : b < 0
        · rw [decide_eq_true hb0]; rfl
        · have := hm b.toNat (by omega) (by omega) (by rw [fj _ (by omega)]; exact hbs (by omega))
          rw [fj _ (by omega)] at this
          rw [decide_eq_true this]
          cases decide (b < 0) <;> rfl
      · have hb := hbp (by omega)
        subst hb
        rw [decide_eq_false (show ¬ (p : Int) < 0 by omega)]
        simp only [Bool.false_or, Int.toNat_natCast]
        cases hys : y.sure
        · rfl
        · have := hm n (by omega) (by omega) (by rw [fn]; exact hys)
          rw [fn, fj p (by omega)] at this
          rw [decide_eq_false (show ¬ y.most < (f p).most by omega)]
          rfl
theorem ambG_of {f : Nat → Tg} {b : Nat} : ∀ {k i : Nat}, (∀ j, i ≤ j → j < i + k → j ≠ b → (f b).most < (f j).least) → ambG f b i k = false
  | 0, i, _ => rfl
  | k + 1, i, h => by
    unfold ambG
    rw [ambG_of (k := k) (i := i + 1) fun j h1 h2 => h j (by omega) (by omega)]
    by_cases e : i = b
    · rw [decide_eq_true e]; rfl
    · rw [decide_eq_false e, decide_eq_false (show ¬ (f i).least ≤ (f b).most by have := h i (Nat.le_refl _) (by omega) e; omega)]
      rfl
/-- No error: all is known of all faces. -/
theorem tgs_all (v u : Nat → Nat → Int) (r : Ray) : ∀ (k i : Nat), (∀ x ∈ tgs v u r k i, x.e = 0) → ∀ j, i ≤ j → j < i + k → okE (cosE v r j) = true ∧ okE (dotE (bxOf v j) r.pt) = true ∧ okE (gapE v u r j) = true
  | 0, i, _, j, h1, h2 => by omega
  | k + 1, i, hz, j, h1, h2 => by
    have bad : ∀ e : Nat, (∀ x ∈ [tgE e], x.e = 0) → False := fun e hm => by
      have := hm _ (List.mem_cons_self ..)
      simp only [tgE, Int.ofNat_eq_natCast] at this
      omega
    unfold tgs at hz
    cases c1 : okE (cosE v r i)
    · rw [c1] at hz; exact (bad _ hz).elim
    rw [c1] at hz
    cases c2 : okE (dotE (bxOf v i) r.pt)
    · rw [c2] at hz; exact (bad _ hz).elim
    rw [c2] at hz
    cases c3 : okE (gapE v u r i)
    · rw [c3] at hz; exact (bad _ hz).elim
    rw [c3] at hz
    simp only [cond_true] at hz
    by_cases e : j = i
    · subst e; exact ⟨c1, c2, c3⟩
    · refine tgs_all v u r k (i + 1) ?_ j (by omega) (by omega)
      cases c4 : decide ((getE iv0 (cosE v r i)).hi ≤ 0)
      · rw [c4] at hz
        exact fun x hx => hz x (List.mem_cons_of_mem _ hx)
      · rw [c4] at hz; exact hz
theorem tgN_face (c g : Iv) (i : Nat) : (tgN c g i).face = i ∧ (tgN c g i).e = 0 := by unfold tgN; cases decide (0 < c.lo) <;> exact ⟨rfl, rfl⟩
/-- All is known: no error, and the faces rise. -/
theorem tgs_none (v u : Nat → Nat → Int) (r : Ray) : ∀ (k i : Nat), (∀ j, i ≤ j → j < i + k → okE (cosE v r j) = true ∧ okE (dotE (bxOf v j) r.pt) = true ∧ okE (gapE v u r j) = true) → (∀ x ∈ tgs v u r k i, x.e = 0 ∧ (i : Int) ≤ x.face) ∧ List.Pairwise (fun a b : Tg => a.face < b.face) (tgs v u r k i)
  | 0, i, _ => ⟨fun x hx => absurd hx List.not_mem_nil, List.Pairwise.nil⟩
  | k + 1, i, h => by
    obtain ⟨c1, c2, c3⟩ := h i (Nat.le_refl _) (by omega)
    obtain ⟨a, b⟩ := tgs_none v u r k (i + 1) fun j h1 h2 => h j (by omega) (by omega)
    unfold tgs
    rw [c1, c2, c3]
    simp only [cond_true]
    cases decide ((getE iv0 (cosE v r i)).hi ≤ 0)
    · rw [cond_false]
      have hf := tgN_face (getE iv0 (cosE v r i)) (getE iv0 (gapE v u r i)) i
      refine ⟨fun x hx => ?_, List.Pairwise.cons (fun x hx => ?_) b⟩
      · rcases List.mem_cons.1 hx with rfl | hx
        · exact ⟨hf.2, by rw [hf.1]; omega⟩
        · have := a x hx
          exact ⟨this.1, by have := this.2; omega⟩
      · have := (a x hx).2
        rw [hf.1]; omega
    · rw [cond_true]
      exact ⟨fun x hx => ⟨(a x hx).1, by have := (a x hx).2; omega⟩, b⟩
/-- A face that is nearer than all others is hit. -/
theorem hit_is {n m : Nat} {v u : Nat → Nat → Int} {x : Iv} {r : Ray} (hv : validB n m v u x = true) (hp : r.pt.v = true) (hd : r.dir.v = true)
    (hall : ∀ j, j < n → okE (cosE v r j) = true ∧ okE (dotE (bxOf v j) r.pt) = true ∧ okE (gapE v u r j) = true) {i : Nat} {t : Tg} (hi : TgOk v u r n i t) (hs : t.sure = true) (hI : vI t.least t.most = true)
    (hf : ∀ j t', TgOk v u r n j t' → j ≠ i → t.most < t'.least ∧ (t'.sure = true → t'.least ≤ t'.most)) : hitE n m v u x r = .ok ((i : Int), ⟨t.least, t.most⟩) := by
  obtain ⟨z1, z2⟩ := tgs_none v u r n 0 fun j _ h2 => hall j (by omega)
  have z0 : ∀ y ∈ tgs v u r n 0, y.e = 0 := fun y hy => (z1 y hy).1
  obtain ⟨_, hmem⟩ := tgs_has v u r n n 0 (by omega) z0 i (by omega) hi.lt hi.pos
  rw [← hi.eq] at hmem
  have hok := tgs_ok v u r n n 0 (by omega)
  obtain ⟨a1, a2, _, a4⟩ := hitGo_ord (tgs v u r n 0) 0 (fun _ => ⟨0, 0, 0, false, 0⟩) (-1) z0
  have best := hitGo_best (tgs v u r n 0) 0 (fun _ => ⟨0, 0, 0, false, 0⟩) (-1)
  have hdef : hitGo (tgs v u r n 0) 0 (fun _ => ⟨0, 0, 0, false, 0⟩) (-1) = hitS v u r n := rfl
  rw [hdef] at a1 a2 a4 best
  obtain ⟨p, hpl, hpt⟩ := List.getElem_of_mem hmem
  have hpq : (tgs v u r n 0)[p]? = some t := by rw [List.getElem?_eq_getElem hpl, hpt]
  have fp : (hitS v u r n).f p = t := by have := a4 p t hpq; rwa [Nat.zero_add] at this
  have tface : t.face = i := by rw [hi.eq]; exact (tgN_face _ _ _).1
  have others : ∀ j, j < (tgs v u r n 0).length → j ≠ p → t.most < ((hitS v u r n).f j).least ∧ (((hitS v u r n).f j).sure = true → ((hitS v u r n).f j).least ≤ ((hitS v u r n).f j).most) := fun j hj hne => by
    have hjq : (tgs v u r n 0)[j]? = some (tgs v u r n 0)[j] := List.getElem?_eq_getElem hj
    have fjq := a4 j _ hjq
    rw [Nat.zero_add] at fjq
    rw [fjq]
    have hjm : (tgs v u r n 0)[j] ∈ tgs v u r n 0 := List.getElem_mem hj
    obtain ⟨q, hq⟩ := hok _ hjm (z0 _ hjm)
    refine hf q _ hq fun e => ?_
    have qface : ((tgs v u r n 0)[j]).face = q := by rw [hq.eq]; exact (tgN_face _ _ _).1
    rw [List.pairwise_iff_getElem] at z2
    rcases Nat.lt_or_gt_of_ne hne with hlt | hlt
    · have := z2 j p hj hpl hlt
      rw [qface, hpt, tface] at this
      omega
    · have := z2 p j hpl hj hlt
      rw [qface, hpt, tface] at this
      omega
  rw [Nat.zero_add] at a2
  have hb : (hitS v u r n).b = p := best p z0 (by omega) (by rw [fp]; exact hs) (fun j hj hne hsj => by
    obtain ⟨q1, q2⟩ := others j (by omega) hne
    rw [fp]
    have := q2 hsj
    omega) (by omega) (by decide) (fun h => absurd h (by decide)) (fun h => absurd h (by omega))
  rw [hitE_eq, hv, hp, hd]
  simp only [Bool.and_self, Bool.not_true, cond_false]
  unfold hitS'
  rw [decide_eq_true a1, hb]
  have hnz : Nat.beq (hitS v u r n).n 0 = false := by
    cases h : Nat.beq (hitS v u r n).n 0 with
    | false => rfl
    | true => have := Nat.eq_of_beq_eq_true h; omega
  have hamb : ambG (hitS v u r n).f p 0 (hitS v u r n).n = false := ambG_of fun j _ h2 hne => by rw [fp]; exact (others j (by omega) hne).1
  rw [hnz, decide_eq_false (show ¬ (p : Int) < 0 by omega), Int.toNat_natCast, hamb, fp, hI, tface]
  rfl
theorem valid_get {n m : Nat} {v u : Nat → Nat → Int} {x : Iv} (h : validB n m v u x = true) : x.v = true ∧ ∀ i, i < n → (bxOf v i).v = true ∧ (ivOf u i).v = true := by
  have h0 := h
  simp only [validB, Bool.and_eq_true, decide_eq_true_eq] at h
  exact ⟨h.1.2.2.2.1, fun i hi => ⟨allF_get h.2.1 i (Nat.zero_le _) (by omega), (valid_u h0 hi).2⟩⟩
structure RayIn (r R : Ray) : Prop where
  pt : BxIn r.pt R.pt
  dir : BxIn r.dir R.dir
theorem mon_get {e E : Er Iv} (h : Mon IvIn e E) (hE : okE E = true) : okE e = true ∧ IvIn (getE iv0 e) (getE iv0 E) := by
  rcases mon_case h with ⟨n, h1⟩ | ⟨y, Y, h1, h2, h3⟩
  · rw [h1] at hE; cases hE
  · rw [h1, h2]; exact ⟨rfl, h3⟩
theorem mon_gap {v u : Nat → Nat → Int} {r R : Ray} {i : Nat} (hr : RayIn r R) (hb : (bxOf v i).v = true) (hu : (ivOf u i).v = true) (hd : okE (dotE (bxOf v i) R.pt) = true) : Mon IvIn (gapE v u r i) (gapE v u R i) := by
  unfold gapE
  exact mon_sub (.self hu) (mon_get (mon_dot (.self hb) hr.pt) hd).2
theorem len_le {c g : Iv} {i : Nat} (hc : c.v = true) (hg : g.v = true) (hs : (tgN c g i).sure = true) : (tgN c g i).least ≤ (tgN c g i).most := by
  have a := ivv hc
  have b := ivv hg
  unfold tgN at *
  by_cases h : 0 < c.lo
  · rw [decide_eq_true h]
    show dnq (pos g.lo * 16777216) c.hi ≤ upq (pos g.hi * 16777216) c.lo
    have p1 := pos_mono b.2.1
    have p2 := pos_nn g.lo
    have := div_anti (A := pos g.lo * 16777216) (by omega) h a.2.1
    have q := dn_upM (u := c.lo) h (show pos g.lo * 16777216 ≤ pos g.hi * 16777216 by omega)
    unfold dnq at q ⊢
    omega
  · rw [decide_eq_false h] at hs; cases hs
/-- The face that is hit, contained. -/
theorem mon_hit {n m : Nat} {v u : Nat → Nat → Int} {x : Iv} {r R : Ray} (hr : RayIn r R) : Mon (fun a A : Int × Iv => a.1 = A.1 ∧ IvIn a.2 A.2) (hitE n m v u x r) (hitE n m v u x R) := by
  intro Y hY
  have hok : okE (hitE n m v u x R) = true := by rw [hY]; rfl
  obtain ⟨hv, hp, hd, i, T, hi, hs, hget, hI, hoth⟩ := hit_ok4 hok
  obtain ⟨hxv, hfv⟩ := valid_get hv
  have hall : ∀ j, j < n → okE (cosE v R j) = true ∧ okE (dotE (bxOf v j) R.pt) = true ∧ okE (gapE v u R j) = true := by
    have z : ∀ y ∈ tgs v u R n 0, y.e = 0 := by
      have h := hok
      rw [hitE_eq, hv, hp, hd] at h
      simp only [Bool.and_self, Bool.not_true, cond_false] at h
      refine hitGo_zero (tgs v u R n 0) 0 (fun _ => ⟨0, 0, 0, false, 0⟩) (-1) ?_
      show (hitS v u R n).e = 0
      unfold hitS' at h
      cases h1 : decide ((hitS v u R n).e = 0)
      · rw [h1] at h; cases h
      · simpa using h1
    exact fun j hj => tgs_all v u R n 0 z j (Nat.zero_le _) (by omega)
  have hcos : ∀ j, j < n → okE (cosE v r j) = true ∧ IvIn (getE iv0 (cosE v r j)) (getE iv0 (cosE v R j)) := fun j hj => mon_get (mon_dot (.self (hfv j hj).1) hr.dir) (hall j hj).1
  have hdot : ∀ j, j < n → okE (dotE (bxOf v j) r.pt) = true := fun j hj => (mon_get (mon_dot (.self (hfv j hj).1) hr.pt) (hall j hj).2.1).1
  have hgap : ∀ j, j < n → okE (gapE v u r j) = true ∧ IvIn (getE iv0 (gapE v u r j)) (getE iv0 (gapE v u R j)) := fun j hj => mon_get (mon_gap hr (hfv j hj).1 (hfv j hj).2 (hall j hj).2.1) (hall j hj).2.2
  have hi' := hi.lt
  have sl := sure_lo hi hs
  obtain ⟨c1, cI⟩ := hcos i hi'
  obtain ⟨g1, gI⟩ := hgap i hi'
  have cv := ivv cI.v
  have gv := ivv gI.v
  have sl' : 0 < (getE iv0 (cosE v r i)).lo := by have := cI.lo; omega
  obtain ⟨t, ht⟩ : ∃ t, t = tgN (getE iv0 (cosE v r i)) (getE iv0 (gapE v u r i)) i := ⟨_, rfl⟩
  have hti : TgOk v u r n i t := ⟨hi', c1, hdot i hi', g1, by omega, ht⟩
  have hts : t.sure = true := by rw [ht]; unfold tgN; rw [decide_eq_true sl']; rfl
  have tl : t.least = dnq (pos (getE iv0 (gapE v u r i)).lo * 16777216) (getE iv0 (cosE v r i)).hi ∧ t.most = upq (pos (getE iv0 (gapE v u r i)).hi * 16777216) (getE iv0 (cosE v r i)).lo := by rw [ht]; unfold tgN; rw [decide_eq_true sl']; exact ⟨rfl, rfl⟩
  have Tl : T.least = dnq (pos (getE iv0 (gapE v u R i)).lo * 16777216) (getE iv0 (cosE v R i)).hi ∧ T.most = upq (pos (getE iv0 (gapE v u R i)).hi * 16777216) (getE iv0 (cosE v R i)).lo := by rw [hi.eq]; unfold tgN; rw [decide_eq_true sl]; exact ⟨rfl, rfl⟩
  have least_ge : ∀ {c C g G : Iv}, IvIn c C → IvIn g G → 0 < c.hi → dnq (pos G.lo * 16777216) C.hi ≤ dnq (pos g.lo * 16777216) c.hi := fun {c C g G} hc hg h0 => by
    have p1 := pos_mono hg.lo
    have p2 := pos_nn G.lo
    have h1 := div_anti (A := pos G.lo * 16777216) (by omega) h0 hc.hi
    have h2 := dnq_mono (c := c.hi) h0 (show pos G.lo * 16777216 ≤ pos g.lo * 16777216 by omega)
    unfold dnq at *
    omega
  have i1 : T.least ≤ t.least := by rw [tl.1, Tl.1]; exact least_ge cI gI (by omega)
  have i2 : t.most ≤ T.most := by
    rw [tl.2, Tl.2]
    have p1 := pos_mono gI.hi
    have p2 := pos_nn (getE iv0 (gapE v u r i)).hi
    have h1 := div_antn (A := -(pos (getE iv0 (gapE v u R i)).hi * 16777216)) (by omega) sl cI.lo
    have h2 := upq_mono (c := (getE iv0 (cosE v r i)).lo) sl' (show pos (getE iv0 (gapE v u r i)).hi * 16777216 ≤ pos (getE iv0 (gapE v u R i)).hi * 16777216 by omega)
    unfold upq at *
    omega
  have i3 : t.least ≤ t.most := by rw [ht] at hts ⊢; exact len_le cI.v gI.v hts
  have hI' : vI t.least t.most = true := by
    rw [vI_iff] at hI ⊢
    omega
  have hres := hit_is (m := m) (x := x) hv hr.pt.v hr.dir.v (fun j hj => ⟨(hcos j hj).1, hdot j hj, (hgap j hj).1⟩) hti hts hI' fun j t' hj hne => by
    have hjl := hj.lt
    obtain ⟨_, cj⟩ := hcos j hjl
    obtain ⟨_, gj⟩ := hgap j hjl
    have hpos := hj.pos
    obtain ⟨T', hT', hfar⟩ := hoth j hjl (by have := cj.hi; omega)
    have e1 : t'.least = dnq (pos (getE iv0 (gapE v u r j)).lo * 16777216) (getE iv0 (cosE v r j)).hi := by rw [hj.eq]; unfold tgN; cases decide (0 < (getE iv0 (cosE v r j)).lo) <;> rfl
    have e2 : T'.least = dnq (pos (getE iv0 (gapE v u R j)).lo * 16777216) (getE iv0 (cosE v R j)).hi := by rw [hT'.eq]; unfold tgN; cases decide (0 < (getE iv0 (cosE v R j)).lo) <;> rfl
    have := hfar hne
    have l := least_ge cj gj hpos
    refine ⟨by omega, fun hsj => ?_⟩
    rw [hj.eq] at hsj ⊢
    exact len_le cj.v gj.v hsj
  refine ⟨_, hres, ?_⟩
  have hYe : Y = (T.face, ⟨T.least, T.most⟩) := by rw [← hget, hY]; rfl
  rw [hYe]
  refine ⟨?_, ⟨hI', i1, i2⟩⟩
  rw [hi.eq]
  exact (tgN_face _ _ _).1.symm
end Go.Proofs.Ytbgdfikfldkjbaa.AI
