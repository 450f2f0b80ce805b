/- culetref53.Do: the step of the reference, in lists. -/
import Derived.Test.YtndbchcfjajgbaaHandRefDo4
import Derived.Test.YtndbchcfjajgbaaPureShape
import Derived.Test.YtndbchcfjajgbaaPureSmall
import Derived.Test.YtndbchcfjajgbaaPureDoRef
import Derived.Test.YtndbchcfjajgbaaPureFew
namespace Go.Proofs.Ytndbchcfjajgbaa.XP
open Go Go.RowKit Go.Proofs Go.Proofs.YtndbchcfjajgbaaW.PrintWords Go.Proofs.YtndbchcfjajgbaaW.PrintLast Go.Proofs.Ytndbchcfjajgbaa.XH
set_option linter.unusedVariables false
set_option linter.unusedSimpArgs false
def smallB (l : List S24) : Bool := l.all fun x => decide (x.f0.size ≤ 40) && decide (x.f1.size ≤ 40)
theorem smallB_iff (l : List S24) : smallB l = true ↔ Small l := by
  unfold smallB Small
  rw [List.all_eq_true]
  constructor
  · intro h x hx
    have := h x hx
    rw [Bool.and_eq_true, decide_eq_true_eq, decide_eq_true_eq] at this
    exact this
  · intro h x hx
    rw [Bool.and_eq_true, decide_eq_true_eq, decide_eq_true_eq]
    exact h x hx
def fewIn (l : List S24) (b c g : ByteArray) : Bool := decide (l.length ≤ 102) && (smallB l && (decide (b.size ≤ 40) && (decide (c.size ≤ 40) && decide (g.size ≤ 40))))
def culetref53_Do.f (l0 : List (S24)) (a1_0 : Int) (a1_1 : ByteArray) (a1_2 : ByteArray) (a1_3 : Int) (a1_4 : Int) (a1_5 : ByteArray) (a1_6 : ByteArray) (a1_7 : Int) (a1_8 : Int) : Option ((List (S24)) × Int) :=
  if fewIn l0 a1_1 a1_2 a1_6 = true then some (doW l0 a1_0 a1_1 a1_2 a1_3 a1_4 a1_5 a1_6 a1_7 a1_8) else none
theorem placeW_eq (s : ByteArray) : ∀ l : List S24, placeW s l = posK S24.f0 s l
  | [] => rfl
  | x :: l => by unfold placeW posK; rw [placeW_eq s l]
theorem withoutP_eq (l : List S24) (s : ByteArray) : withoutP l s = withoutL l s := by
  unfold withoutP withoutL
  congr 1
  funext y
  by_cases h : y.f0 = s
  · rw [decide_eq_true (toList_inj.2 h), decide_eq_false (fun e => e h)]; rfl
  · rw [decide_eq_false (fun e => h (toList_inj.1 e)), decide_eq_true h]; rfl
theorem put_any (p : S24) (xs : List S24) (hx : xs.length ≤ 1000) (A : Option Addr) (c : Nat) (w1 : World) (hC : Kd.C k24 w1 A xs.length xs) (hc : xs.length ≤ c) :
    Calls Try.prog 72 #[.slice A xs.length c, .agg #[.string p.f0, .string p.f1, .int .i64 p.f2, .int .i64 p.f3]] w1 fun e w' => ∃ v', e = .returned v' ∧ Kd.R k24 24 w' w1.heap.size (fun _ => True) v' (putW xs p) ∧ Below w1.heap.size w1 w' := by
  have H := put72 A xs.length c p (withoutP xs p.f0) (Nat.le_trans (withoutP_len _ _) hx) w1 ⟨fun w2 hb => culetref53_without.calls (xs.length + 1) A c xs p.f0 (withoutP xs p.f0) w2 (Kd.C_below hC hb) hc (without_eq xs p.f0 hx _ (by omega))⟩
  rw [withoutP_eq, placeW_eq] at H
  exact H
theorem bound_val (ys : List S24) : culetref53_bounded.f ys = some ((boundW ys).1, (boundW ys).2) := by
  unfold culetref53_bounded.f boundW
  by_cases h : (ys.length : Int) > 100
  · rw [if_pos h, if_pos (by omega)]
  · rw [if_neg h, if_neg (by omega)]
theorem len_without (l : List S24) (s : ByteArray) : (withoutL l s).length ≤ l.length := List.length_filter_le _ _
theorem len_putW (l : List S24) (p : S24) : (putW l p).length ≤ l.length + 1 := by
  unfold putW
  rw [len_ins]
  have := len_without l p.f0
  omega
theorem culetref53_Do.calls (A0 : Option Addr) (c0 : Nat) (l0 : List (S24)) (a1_0 : Int) (a1_1 : ByteArray) (a1_2 : ByteArray) (a1_3 : Int) (a1_4 : Int) (a1_5 : ByteArray) (a1_6 : ByteArray) (a1_7 : Int) (a1_8 : Int) (r1 : List (S24)) (r2 : Int) (w : World) (hr0 : Kd.C k24 w A0 l0.length l0) (hc0 : l0.length ≤ c0) (h : culetref53_Do.f l0 a1_0 a1_1 a1_2 a1_3 a1_4 a1_5 a1_6 a1_7 a1_8 = some (r1, r2)) :
    Calls Try.prog 19 #[.slice A0 l0.length c0, .agg #[.int .i64 a1_0, .string a1_1, .string a1_2, .int .i64 a1_3, .int .i64 a1_4, .string a1_5, .string a1_6, .int .i64 a1_7, .int .i64 a1_8]] w fun e w' => ∃ v0_ : Value, e = .returned (.tuple #[v0_, .int .i64 r2]) ∧ Kd.R k24 24 w' w.heap.size (fun _ => True) v0_ r1 ∧ Below w.heap.size w w' := by
  unfold culetref53_Do.f at h
  have hf : fewIn l0 a1_1 a1_2 a1_6 = true := by
    cases e : fewIn l0 a1_1 a1_2 a1_6
    · rw [e, if_neg (by decide)] at h; cases h
    · rfl
  rw [if_pos hf] at h
  injection h with h
  unfold fewIn at hf
  simp only [Bool.and_eq_true, decide_eq_true_eq] at hf
  obtain ⟨hl, hsm, hb40, hc40, hg40⟩ := hf
  have hs := (smallB_iff l0).1 hsm
  have hn : l0.length ≤ 1000 := by omega
  obtain ⟨t0, t1, t2, t3, t4, t5, t6, t7, t8, ht⟩ := only_some a1_0 a1_1 a1_2 a1_3 a1_4 a1_5 a1_6 a1_7 a1_8
  have HV := Aside0.mk (fun (w1 : World) (hb : Below w.heap.size w w1) => culetref53_Valid.calls (l0.length + 100) A0 c0 l0 (validB l0) w1 (Kd.C_below hr0 hb) hc0 (valid53 l0 hn hs _ (by omega)))
  have HO := Aside0.mk (fun (w1 : World) => culetref53_only.calls a1_0 a1_1 a1_2 a1_3 a1_4 a1_5 a1_6 a1_7 a1_8 _ _ _ _ _ _ _ _ _ w1 ht)
  have HP := Aside0.mk (fun (w1 : World) => culetref53_piece.calls 100 a1_1 a1_2 a1_3 a1_4 (rightB ⟨a1_1, a1_2, a1_3, a1_4⟩) w1 (piece13 ⟨a1_1, a1_2, a1_3, a1_4⟩ (by show a1_1.size ≤ _; omega) (by show a1_2.size ≤ _; omega) 100 (by show a1_1.size < _; omega) (by show a1_2.size < _; omega) (by omega)))
  have HN := Aside0.mk (fun (w1 : World) => culetref13_IsName.calls 100 a1_6 (nameB a1_6) w1 (name13 a1_6 (by omega) 100 (by omega) (by omega)))
  have HF0 := fun (s : ByteArray) (w1 : World) (hb : Below w.heap.size w w1) => culetref53_Find.calls (l0.length + 1) A0 c0 l0 s _ _ _ _ _ w1 (Kd.C_below hr0 hb) hc0 ((find53 l0 s hn _ (by omega)).trans (find_eq l0 s))
  have HFs : ∀ (s : ByteArray) (p : S24), getK S24.f0 l0 s = some p → Aside0 (∀ w1 : World, Below w.heap.size w w1 → Calls Try.prog 28 #[.slice A0 l0.length c0, .string s] w1 fun e w' => e = .returned (.tuple #[.agg #[.string p.f0, .string p.f1, .int .i64 p.f2, .int .i64 p.f3], .bool true]) ∧ Below w1.heap.size w1 w') := fun s p hp => by
    obtain ⟨f1, f2⟩ := (fnd_get l0 s).1 p hp
    refine ⟨fun w1 hb => ?_⟩
    have := HF0 s w1 hb
    rw [f1, f2] at this
    exact this
  have HFn : ∀ (s : ByteArray), getK S24.f0 l0 s = none → Aside0 (∀ w1 : World, Below w.heap.size w w1 → Calls Try.prog 28 #[.slice A0 l0.length c0, .string s] w1 fun e w' => e = .returned (.tuple #[.agg #[.string z24.f0, .string z24.f1, .int .i64 z24.f2, .int .i64 z24.f3], .bool false]) ∧ Below w1.heap.size w1 w') := fun s hp => by
    obtain ⟨f1, f2⟩ := (fnd_get l0 s).2 hp
    refine ⟨fun w1 hb => ?_⟩
    have := HF0 s w1 hb
    rw [f1, f2] at this
    exact this
  have HPUT := fun (p : S24) => Aside0.mk (fun (w1 : World) (hb : Below w.heap.size w w1) => put_any p l0 hn A0 c0 w1 (Kd.C_below hr0 hb) hc0)
  have HPU2 := fun (xs : List S24) (hx : xs.length ≤ 1000) (p : S24) => Aside0.mk (show ∀ (w1 : World) (v : Value), Below w.heap.size w w1 → Kd.R k24 24 w1 w.heap.size (fun _ => True) v xs → Calls Try.prog 72 #[v, .agg #[.string p.f0, .string p.f1, .int .i64 p.f2, .int .i64 p.f3]] w1 fun e w' => ∃ v', e = .returned v' ∧ Kd.R k24 24 w' w1.heap.size (fun _ => True) v' (putW xs p) ∧ Below w1.heap.size w1 w' from fun w1 v hb hR => by
    obtain ⟨A, c, rfl, hc, hC⟩ := Kd.R_reads hR
    exact put_any p xs hx A c w1 hC hc)
  have HBD := fun (ys : List S24) => Aside0.mk (show ∀ (w1 : World) (v : Value), Below w.heap.size w w1 → Kd.R k24 24 w1 w.heap.size (fun _ => True) v ys → Calls Try.prog 71 #[v] w1 fun e w' => ∃ v', e = .returned (.tuple #[v', .int .i64 (boundW ys).2]) ∧ Kd.R k24 24 w' w.heap.size (fun _ => True) v' (boundW ys).1 ∧ Below w.heap.size w w' from fun w1 v hb hR =>
    (culetref53_bounded.calls (fun _ => True) v ys _ _ w w1 hb hR (bound_val ys)).mono fun e w' ⟨v', h1, h2, h3, _⟩ => ⟨v', h1, Kd.R_mono h2 (fun _ _ => trivial), h3⟩)
  have HWO := Aside0.mk (show ∀ w1 : World, Below w.heap.size w w1 → Calls Try.prog 73 #[.slice A0 l0.length c0, .string a1_5] w1 fun e w' => ∃ v', e = .returned v' ∧ Kd.R k24 24 w' w1.heap.size (fun _ => True) v' (withoutL l0 a1_5) ∧ Below w1.heap.size w1 w' from fun w1 hb => by
    rw [← withoutP_eq]
    exact culetref53_without.calls (l0.length + 1) A0 c0 l0 a1_5 (withoutP l0 a1_5) w1 (Kd.C_below hr0 hb) hc0 (without_eq l0 a1_5 hn _ (by omega)))
  have hsh := shape_ref ht
  have hx : neqE a1_0 a1_1 a1_2 a1_3 a1_4 a1_5 a1_6 a1_7 a1_8 t0 t1 t2 t3 t4 t5 t6 t7 t8 = neqE a1_0 a1_1 a1_2 a1_3 a1_4 a1_5 a1_6 a1_7 a1_8 t0 t1 t2 t3 t4 t5 t6 t7 t8 := rfl
  obtain ⟨bx, hbx⟩ : ∃ bx, bx = neqE a1_0 a1_1 a1_2 a1_3 a1_4 a1_5 a1_6 a1_7 a1_8 t0 t1 t2 t3 t4 t5 t6 t7 t8 := ⟨_, rfl⟩
  rw [← hbx] at hsh
  unfold doW at h
  cases hv : validB l0 with
  | false =>
    rw [hv, if_neg (by decide)] at h
    cases h
    exact ref_bad A0 l0.length c0 a1_0 a1_1 a1_2 a1_3 a1_4 a1_5 a1_6 a1_7 a1_8 t0 t1 t2 t3 t4 t5 t6 t7 t8 w _ bx _ _ HV HO HP HN hbx.symm (.inl hv)
  | true =>
  rw [hv, if_pos rfl] at h
  cases hq : shapedB a1_0 a1_1 a1_2 a1_3 a1_4 a1_5 a1_6 a1_7 a1_8 with
  | false =>
    rw [hq, if_neg (by decide)] at h
    cases h
    refine ref_bad A0 l0.length c0 a1_0 a1_1 a1_2 a1_3 a1_4 a1_5 a1_6 a1_7 a1_8 t0 t1 t2 t3 t4 t5 t6 t7 t8 w _ bx _ _ HV HO HP HN hbx.symm (.inr ⟨hv, ?_⟩)
    rw [hq] at hsh
    by_cases k1 : a1_0 < 1
    · exact .inl k1
    refine .inr ⟨by omega, ?_⟩
    by_cases k5 : 5 < a1_0
    · exact .inl k5
    refine .inr ⟨by omega, ?_⟩
    rw [decide_eq_true (show 1 ≤ a1_0 by omega), decide_eq_true (show a1_0 ≤ 5 by omega), Bool.true_and, Bool.true_and] at hsh
    cases bx with
    | true => exact .inl rfl
    | false =>
      refine .inr ⟨rfl, ?_⟩
      rw [Bool.not_false, Bool.true_and] at hsh
      by_cases e1 : a1_0 = 1
      · refine .inl ⟨e1, ?_⟩
        rw [decide_eq_true e1, decide_eq_false (show ¬ a1_0 = 3 by omega), decide_eq_false (show ¬ a1_0 = 4 by omega)] at hsh
        simpa using hsh.symm
      by_cases e3 : a1_0 = 3
      · refine .inr (.inl ⟨e3, ?_⟩)
        rw [decide_eq_false e1, decide_eq_true e3] at hsh
        simpa using hsh.symm
      by_cases e4 : a1_0 = 4
      · refine .inr (.inr ⟨e4, ?_⟩)
        rw [decide_eq_false e1, decide_eq_false e3, decide_eq_true e4] at hsh
        simpa using hsh.symm
      rw [decide_eq_false e1, decide_eq_false e3, decide_eq_false e4] at hsh
      simp at hsh
  | true =>
  rw [hq, if_pos rfl] at h
  rw [hq] at hsh
  have hsh' := hsh.symm
  simp only [Bool.and_eq_true, decide_eq_true_eq, Bool.not_eq_true'] at hsh'
  obtain ⟨g1, g5, gx, gp, gn⟩ := hsh'
  have hx := hbx.symm
  have e1 : decide (a1_0 < 1) = false := decide_eq_false (by omega)
  have e5 : decide (5 < a1_0) = false := decide_eq_false (by omega)
  have T : ∀ z : Int, (a1_0 == z) = decide (a1_0 = z) := fun z => by rw [Bool.eq_iff_iff]; simp
  have hbd : ∀ (s : ByteArray) (p : S24), getK S24.f0 l0 s = some p → 1 ≤ p.f2 ∧ p.f2 ≤ 1000000 ∧ 1 ≤ p.f3 ∧ p.f3 ≤ 1000 := fun s p hp => by
    obtain ⟨_, _, h1, h2, h3, h4⟩ := rightB_bounds (((validB_iff l0).1 hv).1 p (getK_some hp).1)
    exact ⟨h1, h2, h3, h4⟩
  by_cases k1 : a1_0 = 1
  · rw [if_pos k1] at h
    have q1 : (a1_0 == 1) = true := by rw [T, decide_eq_true k1]
    have q3 : (a1_0 == 3) = false := by rw [T, decide_eq_false (by omega)]
    have q4 : (a1_0 == 4) = false := by rw [T, decide_eq_false (by omega)]
    rw [decide_eq_true k1] at gp
    have gp' : rightB ⟨a1_1, a1_2, a1_3, a1_4⟩ = true := by simpa using gp
    cases hp : getK S24.f0 l0 a1_1 with
    | some p =>
      rw [hp] at h
      rw [if_pos (by rfl)] at h
      cases h
      exact ref_in_has A0 l0.length c0 a1_0 a1_1 a1_2 a1_3 a1_4 a1_5 a1_6 a1_7 a1_8 t0 t1 t2 t3 t4 t5 t6 t7 t8 w _ bx _ _ HV HO HP HN hv hx gx e1 e5 q1 q3 q4 gp' p (HFs _ p hp)
    | none =>
      rw [hp] at h
      rw [if_neg (by simp)] at h
      have := ref_in_put A0 l0.length c0 a1_0 a1_1 a1_2 a1_3 a1_4 a1_5 a1_6 a1_7 a1_8 t0 t1 t2 t3 t4 t5 t6 t7 t8 w _ bx _ _ HV HO HP HN hv hx gx e1 e5 q1 q3 q4 gp' z24 (HFn _ hp) (putW l0 ⟨a1_1, a1_2, a1_3, a1_4⟩) (HPUT ⟨a1_1, a1_2, a1_3, a1_4⟩) _ (HBD _)
      rw [h] at this
      exact this
  rw [if_neg k1] at h
  have q1 : (a1_0 == 1) = false := by rw [T, decide_eq_false k1]
  cases hp : getK S24.f0 l0 a1_5 with
  | none =>
    rw [hp] at h
    simp only at h
    cases h
    refine ref_none A0 l0.length c0 a1_0 a1_1 a1_2 a1_3 a1_4 a1_5 a1_6 a1_7 a1_8 t0 t1 t2 t3 t4 t5 t6 t7 t8 w _ bx _ _ HV HO HP HN (decide (a1_0 = 3)) (decide (a1_0 = 4)) hv hx gx e1 e5 q1 (T 3) (T 4) ?_ z24 (HFn _ hp)
    by_cases k3 : a1_0 = 3
    · rw [decide_eq_true k3] at gn
      exact .inr (.inl ⟨decide_eq_true k3, by simpa using gn⟩)
    · by_cases k4 : a1_0 = 4
      · rw [decide_eq_false k3, decide_eq_true k4] at gn
        exact .inr (.inr ⟨decide_eq_false k3, decide_eq_true k4, by simpa using gn⟩)
      · exact .inl ⟨decide_eq_false k3, decide_eq_false k4⟩
  | some p =>
  rw [hp] at h
  simp only at h
  have HFp := HFs _ p hp
  obtain ⟨b1, b2, b3, b4⟩ := hbd _ p hp
  have hpf := (getK_some hp).2
  by_cases k2 : a1_0 = 2
  · rw [if_pos k2] at h
    cases h
    have q2 : (a1_0 == 2) = true := by rw [T, decide_eq_true k2]
    have q3 : (a1_0 == 3) = false := by rw [T, decide_eq_false (by omega)]
    have q4 : (a1_0 == 4) = false := by rw [T, decide_eq_false (by omega)]
    exact ref_out A0 l0.length c0 a1_0 a1_1 a1_2 a1_3 a1_4 a1_5 a1_6 a1_7 a1_8 t0 t1 t2 t3 t4 t5 t6 t7 t8 w _ bx _ _ HV HO HP HN hv hx gx e1 e5 q1 q3 q4 q2 p HFp _ HWO
  rw [if_neg k2] at h
  have q2 : (a1_0 == 2) = false := by rw [T, decide_eq_false k2]
  by_cases k5 : a1_0 = 5
  · rw [if_pos k5] at h
    have q5 : (a1_0 == 5) = true := by rw [T, decide_eq_true k5]
    have q3 : (a1_0 == 3) = false := by rw [T, decide_eq_false (by omega)]
    have q4 : (a1_0 == 4) = false := by rw [T, decide_eq_false (by omega)]
    by_cases hr : a1_7 < 1 ∨ a1_7 ≥ p.f2
    · rw [if_pos hr] at h
      cases h
      exact ref_lose_bad A0 l0.length c0 a1_0 a1_1 a1_2 a1_3 a1_4 a1_5 a1_6 a1_7 a1_8 t0 t1 t2 t3 t4 t5 t6 t7 t8 w _ bx _ _ HV HO HP HN hv hx gx e1 e5 q1 q3 q4 q2 q5 p HFp (by omega)
    · rw [if_neg hr] at h
      cases h
      exact ref_lose_ok A0 l0.length c0 a1_0 a1_1 a1_2 a1_3 a1_4 a1_5 a1_6 a1_7 a1_8 t0 t1 t2 t3 t4 t5 t6 t7 t8 w _ bx _ _ HV HO HP HN hv hx gx e1 e5 q1 q3 q4 q2 q5 p HFp (by omega) (by omega) b2 _ (HPUT ⟨p.f0, p.f1, p.f2 - a1_7, p.f3⟩)
  rw [if_neg k5] at h
  have q5 : (a1_0 == 5) = false := by rw [T, decide_eq_false k5]
  by_cases k3 : a1_0 = 3
  · rw [if_pos k3] at h
    have q3 : (a1_0 == 3) = true := by rw [T, decide_eq_true k3]
    have q4 : (a1_0 == 4) = false := by rw [T, decide_eq_false (by omega)]
    rw [decide_eq_true k3] at gn
    have gn' : nameB a1_6 = true := by simpa using gn
    cases hg : getK S24.f0 l0 a1_6 with
    | some q =>
      rw [hg] at h
      rw [if_pos (by rfl)] at h
      cases h
      exact ref_split_has A0 l0.length c0 a1_0 a1_1 a1_2 a1_3 a1_4 a1_5 a1_6 a1_7 a1_8 t0 t1 t2 t3 t4 t5 t6 t7 t8 w _ bx _ _ HV HO HP HN hv hx gx e1 e5 q1 q3 q4 gn' q2 q5 p q HFp (HFs _ q hg)
    | none =>
      rw [hg] at h
      rw [if_neg (by simp)] at h
      by_cases hr : a1_7 < 1 ∨ a1_7 ≥ p.f2 ∨ a1_8 < 1 ∨ a1_8 ≥ p.f3
      · rw [if_pos hr] at h
        cases h
        exact ref_split_bad A0 l0.length c0 a1_0 a1_1 a1_2 a1_3 a1_4 a1_5 a1_6 a1_7 a1_8 t0 t1 t2 t3 t4 t5 t6 t7 t8 w _ bx _ _ HV HO HP HN hv hx gx e1 e5 q1 q3 q4 gn' q2 q5 p z24 HFp (HFn _ hg) (by omega)
      · rw [if_neg hr] at h
        have := ref_split_ok A0 l0.length c0 a1_0 a1_1 a1_2 a1_3 a1_4 a1_5 a1_6 a1_7 a1_8 t0 t1 t2 t3 t4 t5 t6 t7 t8 w _ bx _ _ HV HO HP HN hv hx gx e1 e5 q1 q3 q4 gn' q2 q5 p z24 HFp (HFn _ hg) (by omega) (by omega) (by omega) (by omega) b2 b4 _ _ (HPUT ⟨p.f0, p.f1, p.f2 - a1_7, p.f3 - a1_8⟩) (HPU2 _ (by have := len_putW l0 ⟨p.f0, p.f1, p.f2 - a1_7, p.f3 - a1_8⟩; omega) ⟨a1_6, p.f1, a1_7, a1_8⟩) _ (HBD _)
        rw [h] at this
        exact this
  rw [if_neg k3] at h
  have k4 : a1_0 = 4 := by omega
  have q3 : (a1_0 == 3) = false := by rw [T, decide_eq_false k3]
  have q4 : (a1_0 == 4) = true := by rw [T, decide_eq_true k4]
  rw [decide_eq_false k3, decide_eq_true k4] at gn
  have gn' : nameB a1_6 = true := by simpa using gn
  cases hg : getK S24.f0 l0 a1_6 with
  | none =>
    rw [hg] at h
    simp only at h
    cases h
    exact ref_join_none A0 l0.length c0 a1_0 a1_1 a1_2 a1_3 a1_4 a1_5 a1_6 a1_7 a1_8 t0 t1 t2 t3 t4 t5 t6 t7 t8 w _ bx _ _ HV HO HP HN hv hx gx e1 e5 q1 q3 q4 gn' q2 q5 p z24 HFp (HFn _ hg)
  | some q =>
  rw [hg] at h
  simp only at h
  obtain ⟨c1, c2, c3, c4⟩ := hbd _ q hg
  by_cases hc : a1_5 = a1_6 ∨ ¬ p.f1 = q.f1
  · rw [if_pos hc] at h
    cases h
    refine ref_join_state A0 l0.length c0 a1_0 a1_1 a1_2 a1_3 a1_4 a1_5 a1_6 a1_7 a1_8 t0 t1 t2 t3 t4 t5 t6 t7 t8 w _ bx _ _ HV HO HP HN hv hx gx e1 e5 q1 q3 q4 gn' q2 q5 p q HFp (HFs _ q hg) ?_
    by_cases hfg : a1_5 = a1_6
    · exact .inl (beq_iff_eq.2 (toList_inj.2 hfg))
    · exact .inr ⟨beq_eq_false_iff_ne.2 (fun e => hfg (toList_inj.1 e)), beq_eq_false_iff_ne.2 (fun e => (hc.resolve_left hfg) (toList_inj.1 e))⟩
  rw [if_neg hc] at h
  have r1' : (a1_5.toList == a1_6.toList) = false := beq_eq_false_iff_ne.2 (fun e => hc (.inl (toList_inj.1 e)))
  have r2' : (p.f1.toList == q.f1.toList) = true := beq_iff_eq.2 (toList_inj.2 (Classical.byContradiction fun e => hc (.inr e)))
  by_cases hr : q.f2 + p.f2 > 1000000 ∨ q.f3 + p.f3 > 1000
  · rw [if_pos hr] at h
    cases h
    exact ref_join_range A0 l0.length c0 a1_0 a1_1 a1_2 a1_3 a1_4 a1_5 a1_6 a1_7 a1_8 t0 t1 t2 t3 t4 t5 t6 t7 t8 w _ bx _ _ HV HO HP HN hv hx gx e1 e5 q1 q3 q4 gn' q2 q5 p q HFp (HFs _ q hg) r1' r2' (by omega) (by omega) (by omega)
  · rw [if_neg hr] at h
    cases h
    exact ref_join_ok A0 l0.length c0 a1_0 a1_1 a1_2 a1_3 a1_4 a1_5 a1_6 a1_7 a1_8 t0 t1 t2 t3 t4 t5 t6 t7 t8 w _ bx _ _ HV HO HP HN hv hx gx e1 e5 q1 q3 q4 gn' q2 q5 p q HFp (HFs _ q hg) r1' r2' (by omega) (by omega) (by omega) (by omega) _ _ HWO (HPU2 _ (by have := len_without l0 a1_5; omega) (sumP q p))
end Go.Proofs.Ytndbchcfjajgbaa.XP
