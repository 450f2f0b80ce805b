-- printed by xprint.py
import Derived.Test.YtndbchcfjajgbaaXP0
import Derived.Test.YtndbchcfjajgbaaXP9
import Derived.Test.YtndbchcfjajgbaaXP10
import Derived.Test.YtndbchcfjajgbaaXP14
import Derived.Test.YtndbchcfjajgbaaHandDoF
import Derived.Test.YtndbchcfjajgbaaHandOwn
import Derived.Test.YtndbchcfjajgbaaHandRun
namespace Go.Proofs.Ytndbchcfjajgbaa.XP
open Go.Proofs.Ytndbchcfjajgbaa.XW
open Go.RowKit Go.Proofs.YtndbchcfjajgbaaW.PrintWords Go.Proofs.YtndbchcfjajgbaaW.PrintLast Go.Proofs.YtndbchcfjajgbaaW.PrintMore
attribute [local go_sem] max2_int min2_int max_two min_two max_three min_three max_four min_four   -- for this text's walks alone
set_option linter.unusedVariables false
set_option linter.unusedSimpArgs false

/-! ### culetlaw53_ParcelSteps: function 7 -/
mutual
def culetlaw53_ParcelSteps.j0 : Nat → List (S26) → Int → Bool → Option (Bool)
  | 0, _, _, _ => none
  | k + 1, x0, x1, x26 => if x26 = true then ((culetlaw53_awake.f k).bind fun t218 => (some t218)) else (if (wrap64 ((x0.length : Int) + 1)) = 0 then (none) else ((culetlaw53_Own.f x0).bind fun t219 => ((parcel_Of.f t219).bind fun bt222 => ((culetlaw53_Own.f x0).bind fun t227 => (if 0 ≤ (Int.tmod (wrap64 (x1)) (wrap64 ((x0.length : Int) + 1))) then (if (Int.tmod (wrap64 (x1)) (wrap64 ((x0.length : Int) + 1))) ≤ (t227.length : Int) then ((parcel_Of.f (t227.take ((Int.tmod (wrap64 (x1)) (wrap64 ((x0.length : Int) + 1))) : Int).toNat)).bind fun bt234 => (if bt234.2.2 = 0 then (culetlaw53_ParcelSteps.l0 k x0 bt222.1 bt222.2.1 bt222.2.2 bt234.1 (Int.tmod (wrap64 (x1)) (wrap64 ((x0.length : Int) + 1)))) else (if bt222.2.2 = bt234.2.2 then (some (bt222.2.1 == bt234.2.1)) else (some false)))) else (none)) else (none))))))
def culetlaw53_ParcelSteps.l0 : Nat → List (S26) → List (S24) → Int → Int → List (S24) → Int → Option (Bool)
  | 0, _, _, _, _, _, _ => none
  | k + 1, x0, x6, x7, x8, x9, x12 => if x12 < (x0.length : Int) then (if 0 ≤ x12 then ((parcel_Do.f x9 ((rd_T26 x0 x12).f0) ((rd_T26 x0 x12).f1.f0) ((rd_T26 x0 x12).f1.f1) ((rd_T26 x0 x12).f1.f2) ((rd_T26 x0 x12).f1.f3) ((rd_T26 x0 x12).f2) ((rd_T26 x0 x12).f3) ((rd_T26 x0 x12).f4) ((rd_T26 x0 x12).f5)).bind fun bt240 => (if bt240.2 = 0 then (culetlaw53_ParcelSteps.l0 k x0 x6 x7 x8 bt240.1 (wrap64 (x12 + 1))) else (if x8 = bt240.2 then (some (x7 == x12)) else (some false)))) else (none)) else (if x8 = 0 then (if x7 = (x0.length : Int) then ((culetref53_Same.f k x6 x9).bind fun t244 => (some t244)) else (some false)) else (some false))
end
def culetlaw53_ParcelSteps.f (k : Nat) (l0 : List (S26)) (a1 : Int) : Option (Bool) := (culetlaw53_awake.f k).bind fun t216 => (if t216 = true then ((culetref53_FewEntries.f k l0).bind fun t217 => (if t217 = true then (culetlaw53_ParcelSteps.j0 k l0 a1 (decide ((l0.length : Int) > 200))) else (culetlaw53_ParcelSteps.j0 k l0 a1 true))) else (culetlaw53_ParcelSteps.j0 k l0 a1 true))
theorem culetlaw53_ParcelSteps.mono_l : ∀ k, (∀ y0 y1 y2, LeO (culetlaw53_ParcelSteps.j0 k y0 y1 y2) (culetlaw53_ParcelSteps.j0 (k + 1) y0 y1 y2)) ∧ (∀ y0 y1 y2 y3 y4 y5, LeO (culetlaw53_ParcelSteps.l0 k y0 y1 y2 y3 y4 y5) (culetlaw53_ParcelSteps.l0 (k + 1) y0 y1 y2 y3 y4 y5))
  | 0 => ⟨fun _ _ _ r h => by simp [culetlaw53_ParcelSteps.j0] at h, fun _ _ _ _ _ _ r h => by simp [culetlaw53_ParcelSteps.l0] at h⟩
  | k + 1 => by
    obtain ⟨ih0, ih1⟩ := culetlaw53_ParcelSteps.mono_l k
    refine ⟨?_, ?_⟩
    · intro y0 y1 y2
      unfold culetlaw53_ParcelSteps.j0
      repeat' first
      | (with_reducible exact ih0 _ _ _)
      | (with_reducible exact ih1 _ _ _ _ _ _)
      | (with_reducible exact culetlaw53_awake.mono _)
      | (with_reducible exact culetref53_FewEntries.mono _ _)
      | (with_reducible exact culetref53_Same.mono _ _ _)
      | (with_reducible exact LeO.refl _)
      | (with_reducible exact LeO.none _)
      | (with_reducible refine LeO.ite ?_ ?_)
      | (with_reducible refine LeO.bind ?_ (fun _ => ?_))
      | exact ih0 _ _ _
      | exact ih1 _ _ _ _ _ _
      | exact culetlaw53_awake.mono _
      | exact culetref53_FewEntries.mono _ _
      | exact culetref53_Same.mono _ _ _
      | exact LeO.none _
      | refine LeO.ite ?_ ?_
      | refine LeO.bind ?_ (fun _ => ?_)
    · intro y0 y1 y2 y3 y4 y5
      unfold culetlaw53_ParcelSteps.l0
      repeat' first
      | (with_reducible exact ih0 _ _ _)
      | (with_reducible exact ih1 _ _ _ _ _ _)
      | (with_reducible exact culetlaw53_awake.mono _)
      | (with_reducible exact culetref53_FewEntries.mono _ _)
      | (with_reducible exact culetref53_Same.mono _ _ _)
      | (with_reducible exact LeO.refl _)
      | (with_reducible exact LeO.none _)
      | (with_reducible refine LeO.ite ?_ ?_)
      | (with_reducible refine LeO.bind ?_ (fun _ => ?_))
      | exact ih0 _ _ _
      | exact ih1 _ _ _ _ _ _
      | exact culetlaw53_awake.mono _
      | exact culetref53_FewEntries.mono _ _
      | exact culetref53_Same.mono _ _ _
      | exact LeO.none _
      | refine LeO.ite ?_ ?_
      | refine LeO.bind ?_ (fun _ => ?_)
theorem culetlaw53_ParcelSteps.mono : ∀ a0 a1 k, LeO (culetlaw53_ParcelSteps.f k a0 a1) (culetlaw53_ParcelSteps.f (k + 1) a0 a1) := by
  intro a0 a1 k
  obtain ⟨ih0, ih1⟩ := culetlaw53_ParcelSteps.mono_l k
  unfold culetlaw53_ParcelSteps.f
  repeat' first
      | (with_reducible exact ih0 _ _ _)
      | (with_reducible exact ih1 _ _ _ _ _ _)
      | (with_reducible exact culetlaw53_awake.mono _)
      | (with_reducible exact culetref53_FewEntries.mono _ _)
      | (with_reducible exact culetref53_Same.mono _ _ _)
      | (with_reducible exact LeO.refl _)
      | (with_reducible exact LeO.none _)
      | (with_reducible refine LeO.ite ?_ ?_)
      | (with_reducible refine LeO.bind ?_ (fun _ => ?_))
      | exact ih0 _ _ _
      | exact ih1 _ _ _ _ _ _
      | exact culetlaw53_awake.mono _
      | exact culetref53_FewEntries.mono _ _
      | exact culetref53_Same.mono _ _ _
      | exact LeO.none _
      | refine LeO.ite ?_ ?_
      | refine LeO.bind ?_ (fun _ => ?_)
set_option maxHeartbeats 8000000 in
set_option maxRecDepth 100000 in
theorem culetlaw53_ParcelSteps.calls (k : Nat) (A0 : Option Addr) (c0 : Nat) (l0 : List (S26)) (a1 : Int) (r : Bool) (w : World) (hr0 : Kd.C k26 w A0 l0.length l0) (hc0 : l0.length ≤ c0) (h : culetlaw53_ParcelSteps.f k l0 a1 = some r) :
    Calls Try.prog 7 #[.slice A0 l0.length c0, .int .u8 a1] w fun e w' => e = .returned (.bool r) ∧ Below w.heap.size w w' := by
  have hu26 := Try.underlying26
  have HR0 := Aside0.mk hr0
  have HC0 := Aside0.mk hc0
  clear hr0 hc0
  have HB := Aside0.mk (Below.refl w.heap.size w)
  have H : ((culetlaw53_awake.f k).bind fun t216 => (if t216 = true then ((culetref53_FewEntries.f k l0).bind fun t217 => (if t217 = true then (culetlaw53_ParcelSteps.j0 k l0 a1 (decide ((l0.length : Int) > 200))) else (culetlaw53_ParcelSteps.j0 k l0 a1 true))) else (culetlaw53_ParcelSteps.j0 k l0 a1 true))) = some r := h
  clear h
  have HC3 := Aside0.mk H
  clear H
  go_enter Try.func7, Try.ntmps7
  go_upto_region 1 with (fail)
  go_cut [26] (fun v26 wc => ∃ (kq : Nat) (x26_2 : Bool), v26 = .bool x26_2 ∧ Aside0 (culetlaw53_ParcelSteps.j0 kq l0 a1 x26_2 = some r) ∧ Aside0 (kq ≤ k) ∧ Aside0 (Below w.heap.size w wc))
  case first =>
    have H := HC3.out
    clear HC3
    replace H := Option.bind_eq_some_iff.mp H
    obtain ⟨t216, A40, H⟩ := H
    replace H : (if t216 = true then ((culetref53_FewEntries.f k l0).bind fun t217 => (if t217 = true then (culetlaw53_ParcelSteps.j0 k l0 a1 (decide ((l0.length : Int) > 200))) else (culetlaw53_ParcelSteps.j0 k l0 a1 true))) else (culetlaw53_ParcelSteps.j0 k l0 a1 true)) = some r := H
    have A4 := Aside0.mk A40
    clear A40
    by_cases c5 : t216 = true
    · subst c5
      have H1 : ((culetref53_FewEntries.f k l0).bind fun t217 => (if t217 = true then (culetlaw53_ParcelSteps.j0 k l0 a1 (decide ((l0.length : Int) > 200))) else (culetlaw53_ParcelSteps.j0 k l0 a1 true))) = some r := by rw [if_pos rfl] at H; exact H
      clear H
      have H := H1
      clear H1
      replace H := Option.bind_eq_some_iff.mp H
      obtain ⟨t217, A60, H⟩ := H
      replace H : (if t217 = true then (culetlaw53_ParcelSteps.j0 k l0 a1 (decide ((l0.length : Int) > 200))) else (culetlaw53_ParcelSteps.j0 k l0 a1 true)) = some r := H
      have A6 := Aside0.mk A60
      clear A60
      by_cases c7 : t217 = true
      · subst c7
        have H1 : (culetlaw53_ParcelSteps.j0 k l0 a1 (decide ((l0.length : Int) > 200))) = some r := by rw [if_pos rfl] at H; exact H
        clear H
        have H := H1
        clear H1
        have H' := Aside0.mk H
        clear H
        go_wp2_with (first | ((with_reducible refine gate_callee (f := 15) rfl ?_); refine goesL_ (some 15) rfl rfl Try.func15 (by kernel_rfl) rfl #[] rfl (by (try simp only [List.map_toArray, List.map_cons, List.map_nil]); first | done | rfl | (simp only [List.length_drop, List.length_take]; rfl)) ?_; (with_reducible refine (culetlaw53_awake.calls k  true _ A4.out).mono ?_); rintro e w8 ⟨rfl, hb⟩; refine ⟨_, rfl, ?_⟩; have n0_ := Aside0.mk (below_step (by repeat (first | (with_reducible first | exact HB.out | apply below_alloc | apply pw_below_drewN | apply below_drew1) | exact HB.out)) hb); clear HB; have HB := n0_; clear n0_; (try clear hb); (try clear hb2); (try clear hk); (try clear hi)) | (go_at_call 17; (with_reducible refine (culetref53_FewEntries.calls k _ _ l0 true _ ?side1 ?side2 A6.out).mono ?_); (case side1 => repeat (first | exact (Kd.C_below HR0.out HB.out) | (with_reducible refine Kd.C_alloc ?_ _) | (with_reducible refine Kd.C_drewN ?_ _) | (with_reducible refine Kd.C_drew ?_))); (case side2 => exact HC0.out); rintro e w9 ⟨rfl, hb⟩; have n0_ := Aside0.mk (below_step (by repeat (first | (with_reducible first | exact HB.out | apply below_alloc | apply pw_below_drewN | apply below_drew1) | exact HB.out)) hb); clear HB; have HB := n0_; clear n0_; (try clear hb); (try clear hb2); (try clear hk); (try clear hi)))
        go_meet
        case rel => exact ⟨_, (decide ((l0.length : Int) > 200)), (by first | rfl | (simp; done) | (simp [*]; done)), H', ⟨by first | omega | exact Nat.le_refl _⟩, ⟨by repeat (first | (with_reducible first | exact HB.out | apply below_alloc | apply pw_below_drewN | apply below_drew1) | exact HB.out)⟩⟩
      · replace c7 := Bool.eq_false_iff.mpr c7
        subst c7
        have H1 : (culetlaw53_ParcelSteps.j0 k l0 a1 true) = some r := by rw [if_neg (show ¬ (false = true) by decide)] at H; exact H
        clear H
        have H := H1
        clear H1
        have H' := Aside0.mk H
        clear H
        go_wp2_with (first | ((with_reducible refine gate_callee (f := 15) rfl ?_); refine goesL_ (some 15) rfl rfl Try.func15 (by kernel_rfl) rfl #[] rfl (by (try simp only [List.map_toArray, List.map_cons, List.map_nil]); first | done | rfl | (simp only [List.length_drop, List.length_take]; rfl)) ?_; (with_reducible refine (culetlaw53_awake.calls k  true _ A4.out).mono ?_); rintro e w10 ⟨rfl, hb⟩; refine ⟨_, rfl, ?_⟩; have n0_ := Aside0.mk (below_step (by repeat (first | (with_reducible first | exact HB.out | apply below_alloc | apply pw_below_drewN | apply below_drew1) | exact HB.out)) hb); clear HB; have HB := n0_; clear n0_; (try clear hb); (try clear hb2); (try clear hk); (try clear hi)) | (go_at_call 17; (with_reducible refine (culetref53_FewEntries.calls k _ _ l0 false _ ?side1 ?side2 A6.out).mono ?_); (case side1 => repeat (first | exact (Kd.C_below HR0.out HB.out) | (with_reducible refine Kd.C_alloc ?_ _) | (with_reducible refine Kd.C_drewN ?_ _) | (with_reducible refine Kd.C_drew ?_))); (case side2 => exact HC0.out); rintro e w11 ⟨rfl, hb⟩; have n0_ := Aside0.mk (below_step (by repeat (first | (with_reducible first | exact HB.out | apply below_alloc | apply pw_below_drewN | apply below_drew1) | exact HB.out)) hb); clear HB; have HB := n0_; clear n0_; (try clear hb); (try clear hb2); (try clear hk); (try clear hi)))
        go_meet
        case rel => exact ⟨_, (true), (by first | rfl | (simp; done) | (simp [*]; done)), H', ⟨by first | omega | exact Nat.le_refl _⟩, ⟨by repeat (first | (with_reducible first | exact HB.out | apply below_alloc | apply pw_below_drewN | apply below_drew1) | exact HB.out)⟩⟩
    · replace c5 := Bool.eq_false_iff.mpr c5
      subst c5
      have H1 : (culetlaw53_ParcelSteps.j0 k l0 a1 true) = some r := by rw [if_neg (show ¬ (false = true) by decide)] at H; exact H
      clear H
      have H := H1
      clear H1
      have H' := Aside0.mk H
      clear H
      go_wp2_with (first | ((with_reducible refine gate_callee (f := 15) rfl ?_); refine goesL_ (some 15) rfl rfl Try.func15 (by kernel_rfl) rfl #[] rfl (by (try simp only [List.map_toArray, List.map_cons, List.map_nil]); first | done | rfl | (simp only [List.length_drop, List.length_take]; rfl)) ?_; (with_reducible refine (culetlaw53_awake.calls k  false _ A4.out).mono ?_); rintro e w12 ⟨rfl, hb⟩; refine ⟨_, rfl, ?_⟩; have n0_ := Aside0.mk (below_step (by repeat (first | (with_reducible first | exact HB.out | apply below_alloc | apply pw_below_drewN | apply below_drew1) | exact HB.out)) hb); clear HB; have HB := n0_; clear n0_; (try clear hb); (try clear hb2); (try clear hk); (try clear hi)))
      go_meet
      case rel => exact ⟨_, (true), (by first | rfl | (simp; done) | (simp [*]; done)), H', ⟨by first | omega | exact Nat.le_refl _⟩, ⟨by repeat (first | (with_reducible first | exact HB.out | apply below_alloc | apply pw_below_drewN | apply below_drew1) | exact HB.out)⟩⟩
  case rest =>
    clear HC3
    try clear c1
    try clear p2
    try clear c5
    try clear c7
    obtain ⟨kq, x26_2, rfl, HA, HJ2, HB⟩ := hcut
    cases kq with
    | zero => exact absurd HA.out (by simp [culetlaw53_ParcelSteps.j0])
    | succ kj2 =>
      have H := HA.out
      clear HA
      simp only [culetlaw53_ParcelSteps.j0] at H
      by_cases c13 : x26_2 = true
      · subst c13
        have H1 : ((culetlaw53_awake.f kj2).bind fun t218 => (some t218)) = some r := by rw [if_pos rfl] at H; exact H
        clear H
        have H := H1
        clear H1
        replace H := Option.bind_eq_some_iff.mp H
        obtain ⟨t218, A140, H⟩ := H
        replace H : (some t218) = some r := H
        have A14 := Aside0.mk A140
        clear A140
        obtain rfl := Option.some.inj H
        go_wp2_with (first | ((with_reducible refine gate_callee (f := 15) rfl ?_); refine goesL_ (some 27) rfl rfl Try.func15 (by kernel_rfl) rfl #[] rfl (by (try simp only [List.map_toArray, List.map_cons, List.map_nil]); first | done | rfl | (simp only [List.length_drop, List.length_take]; rfl)) ?_; (with_reducible refine (culetlaw53_awake.calls kj2  t218 _ A14.out).mono ?_); rintro e w15 ⟨rfl, hb⟩; refine ⟨_, rfl, ?_⟩; have n0_ := Aside0.mk (below_step (by repeat (first | (with_reducible first | exact HB.out | apply below_alloc | apply pw_below_drewN | apply below_drew1) | exact HB.out)) hb); clear HB; have HB := n0_; clear n0_; (try clear hb); (try clear hb2); (try clear hk); (try clear hi)))
        go_ret
        exact ⟨by first | rfl | (simp [errW_none, errW_some] <;> rfl) | (simp [*, errW_none, errW_some] <;> rfl), by repeat (first | (with_reducible first | exact HB.out | apply below_alloc | apply pw_below_drewN | apply below_drew1) | exact HB.out)⟩
      · replace c13 := Bool.eq_false_iff.mpr c13
        subst c13
        have H1 : (if (wrap64 ((l0.length : Int) + 1)) = 0 then (none) else ((culetlaw53_Own.f l0).bind fun t219 => ((parcel_Of.f t219).bind fun bt222 => ((culetlaw53_Own.f l0).bind fun t227 => (if 0 ≤ (Int.tmod (wrap64 (a1)) (wrap64 ((l0.length : Int) + 1))) then (if (Int.tmod (wrap64 (a1)) (wrap64 ((l0.length : Int) + 1))) ≤ (t227.length : Int) then ((parcel_Of.f (t227.take ((Int.tmod (wrap64 (a1)) (wrap64 ((l0.length : Int) + 1))) : Int).toNat)).bind fun bt234 => (if bt234.2.2 = 0 then (culetlaw53_ParcelSteps.l0 kj2 l0 bt222.1 bt222.2.1 bt222.2.2 bt234.1 (Int.tmod (wrap64 (a1)) (wrap64 ((l0.length : Int) + 1)))) else (if bt222.2.2 = bt234.2.2 then (some (bt222.2.1 == bt234.2.1)) else (some false)))) else (none)) else (none)))))) = some r := by rw [if_neg (show ¬ (false = true) by decide)] at H; exact H
        clear H
        have H := H1
        clear H1
        by_cases c16 : (wrap64 ((l0.length : Int) + 1)) = 0
        · rw [if_pos c16] at H
          exact absurd H (by simp)
        · rw [if_neg c16] at H
          have c16b0 : ((wrap64 ((l0.length : Int) + 1)) == 0) = false := beq_eq_false_iff_ne.mpr c16
          have c16b1 : ((wrap64 ((l0.length : Int) + 1)) != 0) = true := bne_iff_ne.mpr c16
          replace H := Option.bind_eq_some_iff.mp H
          obtain ⟨t219, A170, H⟩ := H
          replace H : ((parcel_Of.f t219).bind fun bt222 => ((culetlaw53_Own.f l0).bind fun t227 => (if 0 ≤ (Int.tmod (wrap64 (a1)) (wrap64 ((l0.length : Int) + 1))) then (if (Int.tmod (wrap64 (a1)) (wrap64 ((l0.length : Int) + 1))) ≤ (t227.length : Int) then ((parcel_Of.f (t227.take ((Int.tmod (wrap64 (a1)) (wrap64 ((l0.length : Int) + 1))) : Int).toNat)).bind fun bt234 => (if bt234.2.2 = 0 then (culetlaw53_ParcelSteps.l0 kj2 l0 bt222.1 bt222.2.1 bt222.2.2 bt234.1 (Int.tmod (wrap64 (a1)) (wrap64 ((l0.length : Int) + 1)))) else (if bt222.2.2 = bt234.2.2 then (some (bt222.2.1 == bt234.2.1)) else (some false)))) else (none)) else (none)))) = some r := H
          have A17 := Aside0.mk A170
          clear A170
          replace H := Option.bind_eq_some_iff.mp H
          obtain ⟨⟨t222, t223, t224⟩, A180, H⟩ := H
          replace H : ((culetlaw53_Own.f l0).bind fun t227 => (if 0 ≤ (Int.tmod (wrap64 (a1)) (wrap64 ((l0.length : Int) + 1))) then (if (Int.tmod (wrap64 (a1)) (wrap64 ((l0.length : Int) + 1))) ≤ (t227.length : Int) then ((parcel_Of.f (t227.take ((Int.tmod (wrap64 (a1)) (wrap64 ((l0.length : Int) + 1))) : Int).toNat)).bind fun bt234 => (if bt234.2.2 = 0 then (culetlaw53_ParcelSteps.l0 kj2 l0 t222 t223 t224 bt234.1 (Int.tmod (wrap64 (a1)) (wrap64 ((l0.length : Int) + 1)))) else (if t224 = bt234.2.2 then (some (t223 == bt234.2.1)) else (some false)))) else (none)) else (none))) = some r := H
          have A18 := Aside0.mk A180
          clear A180
          replace H := Option.bind_eq_some_iff.mp H
          obtain ⟨t227, A190, H⟩ := H
          replace H : (if 0 ≤ (Int.tmod (wrap64 (a1)) (wrap64 ((l0.length : Int) + 1))) then (if (Int.tmod (wrap64 (a1)) (wrap64 ((l0.length : Int) + 1))) ≤ (t227.length : Int) then ((parcel_Of.f (t227.take ((Int.tmod (wrap64 (a1)) (wrap64 ((l0.length : Int) + 1))) : Int).toNat)).bind fun bt234 => (if bt234.2.2 = 0 then (culetlaw53_ParcelSteps.l0 kj2 l0 t222 t223 t224 bt234.1 (Int.tmod (wrap64 (a1)) (wrap64 ((l0.length : Int) + 1)))) else (if t224 = bt234.2.2 then (some (t223 == bt234.2.1)) else (some false)))) else (none)) else (none)) = some r := H
          have A19 := Aside0.mk A190
          clear A190
          obtain ⟨ji20, hji20⟩ : ∃ j_ : Int, (Int.tmod (wrap64 (a1)) (wrap64 ((l0.length : Int) + 1))) = j_ := ⟨_, rfl⟩
          replace H : (if 0 ≤ (ji20) then (if (ji20) ≤ (t227.length : Int) then ((parcel_Of.f (t227.take ((ji20) : Int).toNat)).bind fun bt234 => (if bt234.2.2 = 0 then (culetlaw53_ParcelSteps.l0 kj2 l0 t222 t223 t224 bt234.1 ji20) else (if t224 = bt234.2.2 then (some (t223 == bt234.2.1)) else (some false)))) else (none)) else (none)) = some r := by first | (rw [hji20] at H; exact H) | (simp only [hji20] at H ⊢; exact H)
          (try rw [hji20] at A17)
          (try rw [hji20] at A18)
          (try rw [hji20] at A19)
          by_cases c21 : 0 ≤ (ji20)
          · rw [if_pos c21] at H
            have c21b0 := eq_true c21
            have c21b1 : decide (0 ≤ (ji20)) = true := decide_eq_true c21
            clear c21
            by_cases c22 : (ji20) ≤ (t227.length : Int)
            · rw [if_pos c22] at H
              have c22b0 := eq_true c22
              have c22b1 : decide ((ji20) ≤ (t227.length : Int)) = true := decide_eq_true c22
              clear c22
              obtain ⟨y230, hy230⟩ : ∃ y_ : List (S34), y_ = (t227.take ((ji20) : Int).toNat) := ⟨_, rfl⟩
              replace H : ((parcel_Of.f y230).bind fun bt234 => (if bt234.2.2 = 0 then (culetlaw53_ParcelSteps.l0 kj2 l0 t222 t223 t224 bt234.1 ji20) else (if t224 = bt234.2.2 then (some (t223 == bt234.2.1)) else (some false)))) = some r := by first | (rw [hy230]; with_reducible exact H) | (have H2_ := (Option.bind_some _ _).symm.trans H; rw [hy230]; with_reducible exact H2_) | (have H2_ := (Option.bind_some _ _).symm.trans H; with_reducible exact H2_) | with_reducible exact H | (rw [hy230]; exact H) | exact H
              have Ny230 := Aside0.mk hy230
              clear hy230
              replace H := Option.bind_eq_some_iff.mp H
              obtain ⟨⟨t234, t235, t236⟩, A230, H⟩ := H
              replace H : (if t236 = 0 then (culetlaw53_ParcelSteps.l0 kj2 l0 t222 t223 t224 t234 ji20) else (if t224 = t236 then (some (t223 == t235)) else (some false))) = some r := H
              have A23 := Aside0.mk A230
              clear A230
              by_cases c24 : t236 = 0
              · rw [if_pos c24] at H
                have c24b0 : (t236 == 0) = true := beq_iff_eq.mpr c24
                have c24b1 : (t236 != 0) = false := bne_eq_false_iff_eq.mpr c24
                clear c24
                have H' := Aside0.mk H
                clear H
                go_wp2_with (first | ((with_reducible refine gate_callee (f := 23) rfl ?_); refine goesL_ (some 36) rfl rfl Try.func23 (by kernel_rfl) rfl #[.slice A0 l0.length c0] rfl (by (try simp only [List.map_toArray, List.map_cons, List.map_nil]); first | done | rfl | (simp only [List.length_drop, List.length_take]; rfl)) ?_; (with_reducible refine (culetlaw53_Own.calls _ _ l0 t219 _ ?side1 ?side2 A17.out).mono ?_); (case side1 => repeat (first | exact (Kd.C_below HR0.out HB.out) | (with_reducible refine Kd.C_alloc ?_ _) | (with_reducible refine Kd.C_drewN ?_ _) | (with_reducible refine Kd.C_drew ?_))); (case side2 => exact HC0.out); rintro e w25 ⟨v220, rfl, ho0, hb⟩; refine ⟨_, rfl, ?_⟩; have n0_ := Aside0.mk (Kd.R_lower ho0 (below_size (by repeat (first | (with_reducible first | exact HB.out | apply below_alloc | apply pw_below_drewN | apply below_drew1) | exact HB.out)))); have n1_ := Aside0.mk (below_step (by repeat (first | (with_reducible first | exact HB.out | apply below_alloc | apply pw_below_drewN | apply below_drew1) | exact HB.out)) hb); clear HB; have HO221 := n0_; have HB := n1_; clear n0_ n1_; (try clear hb); (try clear hb2); (try clear hk); (try clear hi); (try clear ho0); obtain ⟨Ao26, co26, eo26⟩ := Kd.R_slice HO221.out; subst eo26) | ((with_reducible refine gate_callee (f := 24) rfl ?_); refine goesL_ (some 37) rfl rfl Try.func24 (by kernel_rfl) rfl #[.slice Ao26 t219.length co26] rfl (by (try simp only [List.map_toArray, List.map_cons, List.map_nil]); first | done | rfl | (simp only [List.length_drop, List.length_take]; rfl)) ?_; (with_reducible refine (parcel_Of.calls _ _ t219 t222 t223 t224 _ ?side1 ?side2 A18.out).mono ?_); (case side1 => repeat (first | exact (Kd.R_reads' HO221.out).2.2 | (with_reducible refine Kd.C_alloc ?_ _) | (with_reducible refine Kd.C_drewN ?_ _) | (with_reducible refine Kd.C_drew ?_))); (case side2 => exact (Kd.R_reads' HO221.out).2.1); rintro e w27 ⟨v225, rfl, ho0, hb⟩; refine ⟨_, rfl, ?_⟩; have n0_ := Aside0.mk (Kd.R_below (by (with_reducible repeat (first | apply Kd.R_alloc | apply Kd.R_drewN | apply Kd.R_drew)); exact HO221.out) hb); have n1_ := Aside0.mk (Kd.R_lower ho0 (below_size (by repeat (first | (with_reducible first | exact HB.out | apply below_alloc | apply pw_below_drewN | apply below_drew1) | exact HB.out)))); have n2_ := Aside0.mk (below_step (by repeat (first | (with_reducible first | exact HB.out | apply below_alloc | apply pw_below_drewN | apply below_drew1) | exact HB.out)) hb); clear HO221; clear HB; have HO221 := n0_; have HO226 := n1_; have HB := n2_; clear n0_ n1_ n2_; (try clear hb); (try clear hb2); (try clear hk); (try clear hi); (try clear ho0)) | ((with_reducible refine gate_callee (f := 23) rfl ?_); refine goesL_ (some 43) rfl rfl Try.func23 (by kernel_rfl) rfl #[.slice A0 l0.length c0] rfl (by (try simp only [List.map_toArray, List.map_cons, List.map_nil]); first | done | rfl | (simp only [List.length_drop, List.length_take]; rfl)) ?_; (with_reducible refine (culetlaw53_Own.calls _ _ l0 t227 _ ?side1 ?side2 A19.out).mono ?_); (case side1 => repeat (first | exact (Kd.C_below HR0.out HB.out) | (with_reducible refine Kd.C_alloc ?_ _) | (with_reducible refine Kd.C_drewN ?_ _) | (with_reducible refine Kd.C_drew ?_))); (case side2 => exact HC0.out); rintro e w28 ⟨v228, rfl, ho0, hb⟩; refine ⟨_, rfl, ?_⟩; have n0_ := Aside0.mk (Kd.R_elder' (by (with_reducible repeat (first | apply Kd.R_alloc | apply Kd.R_drewN | apply Kd.R_drew)); exact HO221.out) (Kd.R_base ho0) hb); have n1_ := Aside0.mk (Kd.R_below (by (with_reducible repeat (first | apply Kd.R_alloc | apply Kd.R_drewN | apply Kd.R_drew)); exact HO226.out) hb); have n2_ := Aside0.mk (Kd.R_lower (Kd.R_new' ho0 (Kd.R_lt (by (with_reducible repeat (first | apply Kd.R_alloc | apply Kd.R_drewN | apply Kd.R_drew)); exact HO221.out))) (below_size (by repeat (first | (with_reducible first | exact HB.out | apply below_alloc | apply pw_below_drewN | apply below_drew1) | exact HB.out)))); have n3_ := Aside0.mk (below_step (by repeat (first | (with_reducible first | exact HB.out | apply below_alloc | apply pw_below_drewN | apply below_drew1) | exact HB.out)) hb); clear HO221; clear HO226; clear HB; have HO221 := n0_; have HO226 := n1_; have HO229 := n2_; have HB := n3_; clear n0_ n1_ n2_ n3_; (try clear hb); (try clear hb2); (try clear hk); (try clear hi); (try clear ho0); obtain ⟨Ao30, co30, eo30⟩ := Kd.R_slice HO229.out; subst eo30; have q29 : ((ji20) : Int) ≤ ((t227.length : Int) : Int) := of_decide_eq_true (by first | (with_reducible assumption) | assumption); obtain ⟨i029, hi029, _, hsz29, _⟩ := info_parts info34; have hroom29 : t227.length ≤ co30 := (Kd.R_reads' HO229.out).2.1; have hC29 : Kd.C k34 _ Ao30 t227.length t227 := (Kd.R_reads' HO229.out).2.2; have hcut29 := cut_to (P := Try.prog) 42 34 .i64 Try.underlying42 hi029 Ao30 t227.length co30 (ji20) (of_decide_eq_true (by first | (with_reducible assumption) | assumption)) q29 hroom29; have hr29 := Kd.C_take (m := ((ji20) : Int).toNat) hC29 (by omega); have hy29 : y230.length = ((ji20) : Int).toNat := (by rw [Ny230.out, List.length_take]; omega); rw [← Ny230.out] at hr29; rw [← hy29] at hcut29; have HR233 := Aside0.mk hr29; have HC233 := Aside0.mk (show y230.length ≤ co30 from by omega); clear hr29 hC29 hroom29 hi029 hsz29; have KY29 := Aside0.mk hy29; clear hy29; have KL29 := Aside0.mk (show ((ji20) : Int).toNat ≤ t227.length from by omega); replace q29 := eq_true q29) | ((with_reducible refine gate_callee (f := 24) rfl ?_); refine goesL_ (some 46) rfl rfl Try.func24 (by kernel_rfl) rfl #[.slice Ao30 y230.length co30] rfl (by (try simp only [List.map_toArray, List.map_cons, List.map_nil]); first | done | rfl | (simp only [List.length_drop, List.length_take]; rfl)) ?_; (with_reducible refine (parcel_Of.calls _ _ y230 t234 t235 t236 _ ?side1 ?side2 A23.out).mono ?_); (case side1 => repeat (first | exact (by repeat (first | (with_reducible exact HR233.out) | (with_reducible refine Kd.C_alloc ?_ _) | (with_reducible refine Kd.C_drewN ?_ _) | (with_reducible refine Kd.C_drew ?_) | exact HR233.out)) | (with_reducible refine Kd.C_alloc ?_ _) | (with_reducible refine Kd.C_drewN ?_ _) | (with_reducible refine Kd.C_drew ?_))); (case side2 => exact HC233.out); rintro e w31 ⟨v237, rfl, ho0, hb⟩; refine ⟨_, rfl, ?_⟩; have n0_ := Aside0.mk (Kd.R_below (by (with_reducible repeat (first | apply Kd.R_alloc | apply Kd.R_drewN | apply Kd.R_drew)); exact HO221.out) hb); have n1_ := Aside0.mk (Kd.R_elder' (by (with_reducible repeat (first | apply Kd.R_alloc | apply Kd.R_drewN | apply Kd.R_drew)); exact HO226.out) (Kd.R_base ho0) hb); have n2_ := Aside0.mk (Kd.R_below (by (with_reducible repeat (first | apply Kd.R_alloc | apply Kd.R_drewN | apply Kd.R_drew)); exact HO229.out) hb); have n3_ := Aside0.mk (Kd.R_lower (Kd.R_new' ho0 (Kd.R_lt (by (with_reducible repeat (first | apply Kd.R_alloc | apply Kd.R_drewN | apply Kd.R_drew)); exact HO226.out))) (below_size (by repeat (first | (with_reducible first | exact HB.out | apply below_alloc | apply pw_below_drewN | apply below_drew1) | exact HB.out)))); have n4_ := Aside0.mk (Kd.C_below (by repeat (first | (with_reducible exact HR233.out) | (with_reducible refine Kd.C_alloc ?_ _) | (with_reducible refine Kd.C_drewN ?_ _) | (with_reducible refine Kd.C_drew ?_) | exact HR233.out)) hb); have n5_ := Aside0.mk (below_step (by repeat (first | (with_reducible first | exact HB.out | apply below_alloc | apply pw_below_drewN | apply below_drew1) | exact HB.out)) hb); clear HO221; clear HO226; clear HO229; clear HR233; clear HB; have HO221 := n0_; have HO226 := n1_; have HO229 := n2_; have HO238 := n3_; have HR233 := n4_; have HB := n5_; clear n0_ n1_ n2_ n3_ n4_ n5_; (try clear hb); (try clear hb2); (try clear hk); (try clear hi); (try clear ho0)))
                go_loopg [9, 12] kj2 (fun kq v9 v12 w' => ∃ (x9_2 : List (S24)) (x12_2 : Int), v12 = .int .i64 x12_2 ∧ Aside0 (culetlaw53_ParcelSteps.l0 kq l0 t222 t223 t224 x9_2 x12_2 = some r) ∧ Aside0 (kq ≤ kj2) ∧ Aside0 (Kd.R k24 24 w' w.heap.size (fun k_ => some k_ ≠ (v9 : Value).ownBlock) v225 t222) ∧ Aside0 (Kd.R k24 24 w' w.heap.size (fun k_ => some k_ ≠ (v225 : Value).ownBlock) v9 x9_2) ∧ Aside0 (Kd.C k34 w' Ao30 y230.length y230) ∧ Aside0 (Below w.heap.size w w'))
                case atStart => exact ⟨(t234), (ji20), (by first | rfl | (simp; done) | (simp only [← hji20] <;> (first | rfl | simp)) | (simp [*]; done)), H', ⟨Nat.le_refl _⟩, ⟨by (with_reducible repeat (first | apply Kd.R_alloc | apply Kd.R_drewN | apply Kd.R_drew)); exact Kd.R_mono HO226.out (fun _ hk => hk.2)⟩, ⟨by (with_reducible repeat (first | apply Kd.R_alloc | apply Kd.R_drewN | apply Kd.R_drew)); exact Kd.R_mono HO238.out (fun _ hk => hk.2)⟩, ⟨by repeat (first | (with_reducible exact HR233.out) | (with_reducible refine Kd.C_alloc ?_ _) | (with_reducible refine Kd.C_drewN ?_ _) | (with_reducible refine Kd.C_drew ?_) | exact HR233.out)⟩, ⟨by repeat (first | (with_reducible first | exact HB.out | apply below_alloc | apply pw_below_drewN | apply below_drew1) | exact HB.out)⟩⟩
                case round =>
                  clear H'
                  try clear c1
                  try clear c2
                  try clear p2
                  try clear q2
                  try clear c5
                  try clear p6
                  try clear c7
                  try clear c13
                  try clear c15
                  try clear c16
                  try clear c16b0
                  try clear c16b1
                  try clear c21
                  try clear c21b0
                  try clear c21b1
                  try clear c22
                  try clear c22b0
                  try clear c22b1
                  try clear c23
                  try clear c24
                  try clear c24b0
                  try clear c24b1
                  try clear q29
                  try clear p2
                  try clear q29
                  obtain ⟨x9_2, x12_2, rfl, HA, HK2, HO_6, HO_9, HR233, HB⟩ := hrel
                  cases gk with
                  | zero => exact absurd HA.out (by simp [culetlaw53_ParcelSteps.l0])
                  | succ k2 =>
                    have H := HA.out
                    clear HA
                    simp only [culetlaw53_ParcelSteps.l0] at H
                    by_cases c32 : x12_2 < (l0.length : Int)
                    · rw [if_pos c32] at H
                      have c32b0 : decide (x12_2 < (l0.length : Int)) = true := decide_eq_true c32
                      clear c32
                      by_cases c33 : 0 ≤ x12_2
                      · rw [if_pos c33] at H
                        have c33b0 : decide (0 ≤ x12_2) = true := decide_eq_true c33
                        clear c33
                        replace H := Option.bind_eq_some_iff.mp H
                        obtain ⟨⟨t240, t243⟩, A340, H⟩ := H
                        replace H : (if t243 = 0 then (culetlaw53_ParcelSteps.l0 k2 l0 t222 t223 t224 t240 (wrap64 (x12_2 + 1))) else (if t224 = t243 then (some (t223 == x12_2)) else (some false))) = some r := H
                        have A34 := Aside0.mk A340
                        clear A340
                        by_cases c35 : t243 = 0
                        · rw [if_pos c35] at H
                          have c35b0 : (t243 == 0) = true := beq_iff_eq.mpr c35
                          have c35b1 : (t243 != 0) = false := bne_eq_false_iff_eq.mpr c35
                          clear c35
                          have H' := Aside0.mk H
                          clear H
                          have p239 : 0 ≤ (x12_2 : Int) := of_decide_eq_true (by first | (with_reducible assumption) | assumption)
                          have q239 : x12_2 < (l0.length : Int) := of_decide_eq_true (by first | (with_reducible assumption) | assumption)
                          obtain ⟨ad239, e239, hx239_0, hx239_1, hx239_2, hx239_3, hx239_4, hx239_5, hx239_6, hx239_7, hx239_8⟩ := at_T26 HR0.out x12_2 p239 q239
                          cases e239
                          replace hx239_0 := (HB.out.cell (World.block_lt_of_cell? w _ hx239_0)).trans hx239_0
                          replace hx239_1 := (HB.out.cell (World.block_lt_of_cell? w _ hx239_1)).trans hx239_1
                          replace hx239_2 := (HB.out.cell (World.block_lt_of_cell? w _ hx239_2)).trans hx239_2
                          replace hx239_3 := (HB.out.cell (World.block_lt_of_cell? w _ hx239_3)).trans hx239_3
                          replace hx239_4 := (HB.out.cell (World.block_lt_of_cell? w _ hx239_4)).trans hx239_4
                          replace hx239_5 := (HB.out.cell (World.block_lt_of_cell? w _ hx239_5)).trans hx239_5
                          replace hx239_6 := (HB.out.cell (World.block_lt_of_cell? w _ hx239_6)).trans hx239_6
                          replace hx239_7 := (HB.out.cell (World.block_lt_of_cell? w _ hx239_7)).trans hx239_7
                          replace hx239_8 := (HB.out.cell (World.block_lt_of_cell? w _ hx239_8)).trans hx239_8
                          replace p239 := eq_true p239
                          replace q239 := eq_true q239
                          obtain ⟨Ao36, co36, eo36⟩ := Kd.R_slice HO_9.out
                          subst eo36
                          go_wp2_with (first | ((with_reducible refine gate_callee (f := 18) rfl ?_); refine goesL_ (some 73) rfl rfl Try.func18 (by kernel_rfl) rfl #[.slice Ao36 x9_2.length co36, .agg #[.int .i64 ((rd_T26 l0 x12_2).f0), .string ((rd_T26 l0 x12_2).f1.f0), .string ((rd_T26 l0 x12_2).f1.f1), .int .i64 ((rd_T26 l0 x12_2).f1.f2), .int .i64 ((rd_T26 l0 x12_2).f1.f3), .string ((rd_T26 l0 x12_2).f2), .string ((rd_T26 l0 x12_2).f3), .int .i64 ((rd_T26 l0 x12_2).f4), .int .i64 ((rd_T26 l0 x12_2).f5)]] rfl (by (try simp only [List.map_toArray, List.map_cons, List.map_nil]); first | done | rfl | (simp only [List.length_drop, List.length_take]; rfl)) ?_; (with_reducible refine (parcel_Do.calls _ _ x9_2 ((rd_T26 l0 x12_2).f0) ((rd_T26 l0 x12_2).f1.f0) ((rd_T26 l0 x12_2).f1.f1) ((rd_T26 l0 x12_2).f1.f2) ((rd_T26 l0 x12_2).f1.f3) ((rd_T26 l0 x12_2).f2) ((rd_T26 l0 x12_2).f3) ((rd_T26 l0 x12_2).f4) ((rd_T26 l0 x12_2).f5) t240 t243 _ ?side1 ?side2 A34.out).mono ?_); (case side1 => repeat (first | exact (Kd.R_reads' HO_9.out).2.2 | (with_reducible refine Kd.C_alloc ?_ _) | (with_reducible refine Kd.C_drewN ?_ _) | (with_reducible refine Kd.C_drew ?_))); (case side2 => exact (Kd.R_reads' HO_9.out).2.1); rintro e w37 ⟨v241, rfl, ho0, hb⟩; refine ⟨_, rfl, ?_⟩; have n0_ := Aside0.mk (Kd.R_elder' (by (with_reducible repeat (first | apply Kd.R_alloc | apply Kd.R_drewN | apply Kd.R_drew)); exact HO_6.out) (Kd.R_base ho0) hb); have n1_ := Aside0.mk (Kd.R_elder' (by (with_reducible repeat (first | apply Kd.R_alloc | apply Kd.R_drewN | apply Kd.R_drew)); exact HO_9.out) (Kd.R_base ho0) hb); have n2_ := Aside0.mk (Kd.R_lower (Kd.R_new' (Kd.R_new' ho0 (Kd.R_lt (by (with_reducible repeat (first | apply Kd.R_alloc | apply Kd.R_drewN | apply Kd.R_drew)); exact HO_6.out))) (Kd.R_lt (by (with_reducible repeat (first | apply Kd.R_alloc | apply Kd.R_drewN | apply Kd.R_drew)); exact HO_9.out))) (below_size (by repeat (first | (with_reducible first | exact HB.out | apply below_alloc | apply pw_below_drewN | apply below_drew1) | exact HB.out)))); have n3_ := Aside0.mk (Kd.C_below (by repeat (first | (with_reducible exact HR233.out) | (with_reducible refine Kd.C_alloc ?_ _) | (with_reducible refine Kd.C_drewN ?_ _) | (with_reducible refine Kd.C_drew ?_) | exact HR233.out)) hb); have n4_ := Aside0.mk (below_step (by repeat (first | (with_reducible first | exact HB.out | apply below_alloc | apply pw_below_drewN | apply below_drew1) | exact HB.out)) hb); clear HO_6; clear HO_9; clear HR233; clear HB; have HO_6 := n0_; have HO_9 := n1_; have HO242 := n2_; have HR233 := n3_; have HB := n4_; clear n0_ n1_ n2_ n3_ n4_; (try clear hb); (try clear hb2); (try clear hk); (try clear hi); (try clear ho0)))
                          go_roundg k2
                          case measure => have := HJ2.out; have := HK2.out; omega
                          case rel => exact ⟨(t240), (wrap64 (x12_2 + 1)), (by first | rfl | (simp; done) | (simp [*]; done)), H', ⟨by have := HJ2.out; have := HK2.out; omega⟩, ⟨by (with_reducible repeat (first | apply Kd.R_alloc | apply Kd.R_drewN | apply Kd.R_drew)); exact Kd.R_mono HO_6.out (fun _ hk => hk.2)⟩, ⟨by (with_reducible repeat (first | apply Kd.R_alloc | apply Kd.R_drewN | apply Kd.R_drew)); exact Kd.R_mono HO242.out (fun _ hk => hk.1.2)⟩, ⟨by repeat (first | (with_reducible exact HR233.out) | (with_reducible refine Kd.C_alloc ?_ _) | (with_reducible refine Kd.C_drewN ?_ _) | (with_reducible refine Kd.C_drew ?_) | exact HR233.out)⟩, ⟨by repeat (first | (with_reducible first | exact HB.out | apply below_alloc | apply pw_below_drewN | apply below_drew1) | exact HB.out)⟩⟩
                        · rw [if_neg c35] at H
                          have c35b0 : (t243 == 0) = false := beq_eq_false_iff_ne.mpr c35
                          have c35b1 : (t243 != 0) = true := bne_iff_ne.mpr c35
                          by_cases c38 : t224 = t243
                          · rw [if_pos c38] at H
                            have c38b0 : (t224 == t243) = true := beq_iff_eq.mpr c38
                            have c38b1 : (t224 != t243) = false := bne_eq_false_iff_eq.mpr c38
                            clear c38
                            obtain rfl := Option.some.inj H
                            have p239 : 0 ≤ (x12_2 : Int) := of_decide_eq_true (by first | (with_reducible assumption) | assumption)
                            have q239 : x12_2 < (l0.length : Int) := of_decide_eq_true (by first | (with_reducible assumption) | assumption)
                            obtain ⟨ad239, e239, hx239_0, hx239_1, hx239_2, hx239_3, hx239_4, hx239_5, hx239_6, hx239_7, hx239_8⟩ := at_T26 HR0.out x12_2 p239 q239
                            cases e239
                            replace hx239_0 := (HB.out.cell (World.block_lt_of_cell? w _ hx239_0)).trans hx239_0
                            replace hx239_1 := (HB.out.cell (World.block_lt_of_cell? w _ hx239_1)).trans hx239_1
                            replace hx239_2 := (HB.out.cell (World.block_lt_of_cell? w _ hx239_2)).trans hx239_2
                            replace hx239_3 := (HB.out.cell (World.block_lt_of_cell? w _ hx239_3)).trans hx239_3
                            replace hx239_4 := (HB.out.cell (World.block_lt_of_cell? w _ hx239_4)).trans hx239_4
                            replace hx239_5 := (HB.out.cell (World.block_lt_of_cell? w _ hx239_5)).trans hx239_5
                            replace hx239_6 := (HB.out.cell (World.block_lt_of_cell? w _ hx239_6)).trans hx239_6
                            replace hx239_7 := (HB.out.cell (World.block_lt_of_cell? w _ hx239_7)).trans hx239_7
                            replace hx239_8 := (HB.out.cell (World.block_lt_of_cell? w _ hx239_8)).trans hx239_8
                            replace p239 := eq_true p239
                            replace q239 := eq_true q239
                            obtain ⟨Ao39, co39, eo39⟩ := Kd.R_slice HO_9.out
                            subst eo39
                            go_wp2_with (first | ((with_reducible refine gate_callee (f := 18) rfl ?_); refine goesL_ (some 73) rfl rfl Try.func18 (by kernel_rfl) rfl #[.slice Ao39 x9_2.length co39, .agg #[.int .i64 ((rd_T26 l0 x12_2).f0), .string ((rd_T26 l0 x12_2).f1.f0), .string ((rd_T26 l0 x12_2).f1.f1), .int .i64 ((rd_T26 l0 x12_2).f1.f2), .int .i64 ((rd_T26 l0 x12_2).f1.f3), .string ((rd_T26 l0 x12_2).f2), .string ((rd_T26 l0 x12_2).f3), .int .i64 ((rd_T26 l0 x12_2).f4), .int .i64 ((rd_T26 l0 x12_2).f5)]] rfl (by (try simp only [List.map_toArray, List.map_cons, List.map_nil]); first | done | rfl | (simp only [List.length_drop, List.length_take]; rfl)) ?_; (with_reducible refine (parcel_Do.calls _ _ x9_2 ((rd_T26 l0 x12_2).f0) ((rd_T26 l0 x12_2).f1.f0) ((rd_T26 l0 x12_2).f1.f1) ((rd_T26 l0 x12_2).f1.f2) ((rd_T26 l0 x12_2).f1.f3) ((rd_T26 l0 x12_2).f2) ((rd_T26 l0 x12_2).f3) ((rd_T26 l0 x12_2).f4) ((rd_T26 l0 x12_2).f5) t240 t243 _ ?side1 ?side2 A34.out).mono ?_); (case side1 => repeat (first | exact (Kd.R_reads' HO_9.out).2.2 | (with_reducible refine Kd.C_alloc ?_ _) | (with_reducible refine Kd.C_drewN ?_ _) | (with_reducible refine Kd.C_drew ?_))); (case side2 => exact (Kd.R_reads' HO_9.out).2.1); rintro e w40 ⟨v241, rfl, ho0, hb⟩; refine ⟨_, rfl, ?_⟩; have n0_ := Aside0.mk (Kd.R_elder' (by (with_reducible repeat (first | apply Kd.R_alloc | apply Kd.R_drewN | apply Kd.R_drew)); exact HO_6.out) (Kd.R_base ho0) hb); have n1_ := Aside0.mk (Kd.R_elder' (by (with_reducible repeat (first | apply Kd.R_alloc | apply Kd.R_drewN | apply Kd.R_drew)); exact HO_9.out) (Kd.R_base ho0) hb); have n2_ := Aside0.mk (Kd.R_lower (Kd.R_new' (Kd.R_new' ho0 (Kd.R_lt (by (with_reducible repeat (first | apply Kd.R_alloc | apply Kd.R_drewN | apply Kd.R_drew)); exact HO_6.out))) (Kd.R_lt (by (with_reducible repeat (first | apply Kd.R_alloc | apply Kd.R_drewN | apply Kd.R_drew)); exact HO_9.out))) (below_size (by repeat (first | (with_reducible first | exact HB.out | apply below_alloc | apply pw_below_drewN | apply below_drew1) | exact HB.out)))); have n3_ := Aside0.mk (Kd.C_below (by repeat (first | (with_reducible exact HR233.out) | (with_reducible refine Kd.C_alloc ?_ _) | (with_reducible refine Kd.C_drewN ?_ _) | (with_reducible refine Kd.C_drew ?_) | exact HR233.out)) hb); have n4_ := Aside0.mk (below_step (by repeat (first | (with_reducible first | exact HB.out | apply below_alloc | apply pw_below_drewN | apply below_drew1) | exact HB.out)) hb); clear HO_6; clear HO_9; clear HR233; clear HB; have HO_6 := n0_; have HO_9 := n1_; have HO242 := n2_; have HR233 := n3_; have HB := n4_; clear n0_ n1_ n2_ n3_ n4_; (try clear hb); (try clear hb2); (try clear hk); (try clear hi); (try clear ho0)))
                            go_ret
                            exact ⟨by first | rfl | (simp [errW_none, errW_some] <;> rfl) | (simp only [← hji20]; first | rfl | (simp [errW_none, errW_some] <;> rfl)) | (simp [*, errW_none, errW_some] <;> rfl), by repeat (first | (with_reducible first | exact HB.out | apply below_alloc | apply pw_below_drewN | apply below_drew1) | exact HB.out)⟩
                          · rw [if_neg c38] at H
                            have c38b0 : (t224 == t243) = false := beq_eq_false_iff_ne.mpr c38
                            have c38b1 : (t224 != t243) = true := bne_iff_ne.mpr c38
                            obtain rfl := Option.some.inj H
                            have p239 : 0 ≤ (x12_2 : Int) := of_decide_eq_true (by first | (with_reducible assumption) | assumption)
                            have q239 : x12_2 < (l0.length : Int) := of_decide_eq_true (by first | (with_reducible assumption) | assumption)
                            obtain ⟨ad239, e239, hx239_0, hx239_1, hx239_2, hx239_3, hx239_4, hx239_5, hx239_6, hx239_7, hx239_8⟩ := at_T26 HR0.out x12_2 p239 q239
                            cases e239
                            replace hx239_0 := (HB.out.cell (World.block_lt_of_cell? w _ hx239_0)).trans hx239_0
                            replace hx239_1 := (HB.out.cell (World.block_lt_of_cell? w _ hx239_1)).trans hx239_1
                            replace hx239_2 := (HB.out.cell (World.block_lt_of_cell? w _ hx239_2)).trans hx239_2
                            replace hx239_3 := (HB.out.cell (World.block_lt_of_cell? w _ hx239_3)).trans hx239_3
                            replace hx239_4 := (HB.out.cell (World.block_lt_of_cell? w _ hx239_4)).trans hx239_4
                            replace hx239_5 := (HB.out.cell (World.block_lt_of_cell? w _ hx239_5)).trans hx239_5
                            replace hx239_6 := (HB.out.cell (World.block_lt_of_cell? w _ hx239_6)).trans hx239_6
                            replace hx239_7 := (HB.out.cell (World.block_lt_of_cell? w _ hx239_7)).trans hx239_7
                            replace hx239_8 := (HB.out.cell (World.block_lt_of_cell? w _ hx239_8)).trans hx239_8
                            replace p239 := eq_true p239
                            replace q239 := eq_true q239
                            obtain ⟨Ao41, co41, eo41⟩ := Kd.R_slice HO_9.out
                            subst eo41
                            go_wp2_with (first | ((with_reducible refine gate_callee (f := 18) rfl ?_); refine goesL_ (some 73) rfl rfl Try.func18 (by kernel_rfl) rfl #[.slice Ao41 x9_2.length co41, .agg #[.int .i64 ((rd_T26 l0 x12_2).f0), .string ((rd_T26 l0 x12_2).f1.f0), .string ((rd_T26 l0 x12_2).f1.f1), .int .i64 ((rd_T26 l0 x12_2).f1.f2), .int .i64 ((rd_T26 l0 x12_2).f1.f3), .string ((rd_T26 l0 x12_2).f2), .string ((rd_T26 l0 x12_2).f3), .int .i64 ((rd_T26 l0 x12_2).f4), .int .i64 ((rd_T26 l0 x12_2).f5)]] rfl (by (try simp only [List.map_toArray, List.map_cons, List.map_nil]); first | done | rfl | (simp only [List.length_drop, List.length_take]; rfl)) ?_; (with_reducible refine (parcel_Do.calls _ _ x9_2 ((rd_T26 l0 x12_2).f0) ((rd_T26 l0 x12_2).f1.f0) ((rd_T26 l0 x12_2).f1.f1) ((rd_T26 l0 x12_2).f1.f2) ((rd_T26 l0 x12_2).f1.f3) ((rd_T26 l0 x12_2).f2) ((rd_T26 l0 x12_2).f3) ((rd_T26 l0 x12_2).f4) ((rd_T26 l0 x12_2).f5) t240 t243 _ ?side1 ?side2 A34.out).mono ?_); (case side1 => repeat (first | exact (Kd.R_reads' HO_9.out).2.2 | (with_reducible refine Kd.C_alloc ?_ _) | (with_reducible refine Kd.C_drewN ?_ _) | (with_reducible refine Kd.C_drew ?_))); (case side2 => exact (Kd.R_reads' HO_9.out).2.1); rintro e w42 ⟨v241, rfl, ho0, hb⟩; refine ⟨_, rfl, ?_⟩; have n0_ := Aside0.mk (Kd.R_elder' (by (with_reducible repeat (first | apply Kd.R_alloc | apply Kd.R_drewN | apply Kd.R_drew)); exact HO_6.out) (Kd.R_base ho0) hb); have n1_ := Aside0.mk (Kd.R_elder' (by (with_reducible repeat (first | apply Kd.R_alloc | apply Kd.R_drewN | apply Kd.R_drew)); exact HO_9.out) (Kd.R_base ho0) hb); have n2_ := Aside0.mk (Kd.R_lower (Kd.R_new' (Kd.R_new' ho0 (Kd.R_lt (by (with_reducible repeat (first | apply Kd.R_alloc | apply Kd.R_drewN | apply Kd.R_drew)); exact HO_6.out))) (Kd.R_lt (by (with_reducible repeat (first | apply Kd.R_alloc | apply Kd.R_drewN | apply Kd.R_drew)); exact HO_9.out))) (below_size (by repeat (first | (with_reducible first | exact HB.out | apply below_alloc | apply pw_below_drewN | apply below_drew1) | exact HB.out)))); have n3_ := Aside0.mk (Kd.C_below (by repeat (first | (with_reducible exact HR233.out) | (with_reducible refine Kd.C_alloc ?_ _) | (with_reducible refine Kd.C_drewN ?_ _) | (with_reducible refine Kd.C_drew ?_) | exact HR233.out)) hb); have n4_ := Aside0.mk (below_step (by repeat (first | (with_reducible first | exact HB.out | apply below_alloc | apply pw_below_drewN | apply below_drew1) | exact HB.out)) hb); clear HO_6; clear HO_9; clear HR233; clear HB; have HO_6 := n0_; have HO_9 := n1_; have HO242 := n2_; have HR233 := n3_; have HB := n4_; clear n0_ n1_ n2_ n3_ n4_; (try clear hb); (try clear hb2); (try clear hk); (try clear hi); (try clear ho0)))
                            go_ret
                            exact ⟨by first | rfl | (simp [errW_none, errW_some] <;> rfl) | (simp only [← hji20]; first | rfl | (simp [errW_none, errW_some] <;> rfl)) | (simp [*, errW_none, errW_some] <;> rfl), by repeat (first | (with_reducible first | exact HB.out | apply below_alloc | apply pw_below_drewN | apply below_drew1) | exact HB.out)⟩
                      · rw [if_neg c33] at H
                        exact absurd H (by simp)
                    · rw [if_neg c32] at H
                      have c32b0 : decide (x12_2 < (l0.length : Int)) = false := decide_eq_false c32
                      clear c32
                      by_cases c43 : t224 = 0
                      · rw [if_pos c43] at H
                        have c43b0 : (t224 == 0) = true := beq_iff_eq.mpr c43
                        have c43b1 : (t224 != 0) = false := bne_eq_false_iff_eq.mpr c43
                        clear c43
                        by_cases c44 : t223 = (l0.length : Int)
                        · rw [if_pos c44] at H
                          have c44b0 : (t223 == (l0.length : Int)) = true := beq_iff_eq.mpr c44
                          have c44b1 : (t223 != (l0.length : Int)) = false := bne_eq_false_iff_eq.mpr c44
                          clear c44
                          replace H := Option.bind_eq_some_iff.mp H
                          obtain ⟨t244, A450, H⟩ := H
                          replace H : (some t244) = some r := H
                          have A45 := Aside0.mk A450
                          clear A450
                          obtain rfl := Option.some.inj H
                          obtain ⟨Ao46, co46, eo46⟩ := Kd.R_slice HO_6.out
                          subst eo46
                          obtain ⟨Ao47, co47, eo47⟩ := Kd.R_slice HO_9.out
                          subst eo47
                          go_wp2_with (first | (go_at_call 20; (with_reducible refine (culetref53_Same.calls k2 _ _ t222 _ _ x9_2 t244 _ ?side1 ?side2 ?side3 ?side4 A45.out).mono ?_); (case side1 => repeat (first | exact (Kd.R_reads' HO_6.out).2.2 | (with_reducible refine Kd.C_alloc ?_ _) | (with_reducible refine Kd.C_drewN ?_ _) | (with_reducible refine Kd.C_drew ?_))); (case side2 => exact (Kd.R_reads' HO_6.out).2.1); (case side3 => repeat (first | exact (Kd.R_reads' HO_9.out).2.2 | (with_reducible refine Kd.C_alloc ?_ _) | (with_reducible refine Kd.C_drewN ?_ _) | (with_reducible refine Kd.C_drew ?_))); (case side4 => exact (Kd.R_reads' HO_9.out).2.1); rintro e w' ⟨rfl, ⟨nd, rfl⟩⟩))
                          go_ret
                          exact ⟨by first | rfl | (simp [errW_none, errW_some] <;> rfl) | (simp only [← hji20]; first | rfl | (simp [errW_none, errW_some] <;> rfl)) | (simp [*, errW_none, errW_some] <;> rfl), by repeat (first | (with_reducible first | exact HB.out | apply below_alloc | apply pw_below_drewN | apply below_drew1) | exact HB.out)⟩
                        · rw [if_neg c44] at H
                          have c44b0 : (t223 == (l0.length : Int)) = false := beq_eq_false_iff_ne.mpr c44
                          have c44b1 : (t223 != (l0.length : Int)) = true := bne_iff_ne.mpr c44
                          obtain rfl := Option.some.inj H
                          go_wp2
                          go_ret
                          exact ⟨by first | rfl | (simp [errW_none, errW_some] <;> rfl) | (simp only [← hji20]; first | rfl | (simp [errW_none, errW_some] <;> rfl)) | (simp [*, errW_none, errW_some] <;> rfl), by repeat (first | (with_reducible first | exact HB.out | apply below_alloc | apply pw_below_drewN | apply below_drew1) | exact HB.out)⟩
                      · rw [if_neg c43] at H
                        have c43b0 : (t224 == 0) = false := beq_eq_false_iff_ne.mpr c43
                        have c43b1 : (t224 != 0) = true := bne_iff_ne.mpr c43
                        obtain rfl := Option.some.inj H
                        go_wp2
                        go_ret
                        exact ⟨by first | rfl | (simp [errW_none, errW_some] <;> rfl) | (simp only [← hji20]; first | rfl | (simp [errW_none, errW_some] <;> rfl)) | (simp [*, errW_none, errW_some] <;> rfl), by repeat (first | (with_reducible first | exact HB.out | apply below_alloc | apply pw_below_drewN | apply below_drew1) | exact HB.out)⟩
              · rw [if_neg c24] at H
                have c24b0 : (t236 == 0) = false := beq_eq_false_iff_ne.mpr c24
                have c24b1 : (t236 != 0) = true := bne_iff_ne.mpr c24
                by_cases c48 : t224 = t236
                · rw [if_pos c48] at H
                  have c48b0 : (t224 == t236) = true := beq_iff_eq.mpr c48
                  have c48b1 : (t224 != t236) = false := bne_eq_false_iff_eq.mpr c48
                  clear c48
                  obtain rfl := Option.some.inj H
                  go_wp2_with (first | ((with_reducible refine gate_callee (f := 23) rfl ?_); refine goesL_ (some 36) rfl rfl Try.func23 (by kernel_rfl) rfl #[.slice A0 l0.length c0] rfl (by (try simp only [List.map_toArray, List.map_cons, List.map_nil]); first | done | rfl | (simp only [List.length_drop, List.length_take]; rfl)) ?_; (with_reducible refine (culetlaw53_Own.calls _ _ l0 t219 _ ?side1 ?side2 A17.out).mono ?_); (case side1 => repeat (first | exact (Kd.C_below HR0.out HB.out) | (with_reducible refine Kd.C_alloc ?_ _) | (with_reducible refine Kd.C_drewN ?_ _) | (with_reducible refine Kd.C_drew ?_))); (case side2 => exact HC0.out); rintro e w49 ⟨v220, rfl, ho0, hb⟩; refine ⟨_, rfl, ?_⟩; have n0_ := Aside0.mk (Kd.R_lower ho0 (below_size (by repeat (first | (with_reducible first | exact HB.out | apply below_alloc | apply pw_below_drewN | apply below_drew1) | exact HB.out)))); have n1_ := Aside0.mk (below_step (by repeat (first | (with_reducible first | exact HB.out | apply below_alloc | apply pw_below_drewN | apply below_drew1) | exact HB.out)) hb); clear HB; have HO221 := n0_; have HB := n1_; clear n0_ n1_; (try clear hb); (try clear hb2); (try clear hk); (try clear hi); (try clear ho0); obtain ⟨Ao50, co50, eo50⟩ := Kd.R_slice HO221.out; subst eo50) | ((with_reducible refine gate_callee (f := 24) rfl ?_); refine goesL_ (some 37) rfl rfl Try.func24 (by kernel_rfl) rfl #[.slice Ao50 t219.length co50] rfl (by (try simp only [List.map_toArray, List.map_cons, List.map_nil]); first | done | rfl | (simp only [List.length_drop, List.length_take]; rfl)) ?_; (with_reducible refine (parcel_Of.calls _ _ t219 t222 t223 t224 _ ?side1 ?side2 A18.out).mono ?_); (case side1 => repeat (first | exact (Kd.R_reads' HO221.out).2.2 | (with_reducible refine Kd.C_alloc ?_ _) | (with_reducible refine Kd.C_drewN ?_ _) | (with_reducible refine Kd.C_drew ?_))); (case side2 => exact (Kd.R_reads' HO221.out).2.1); rintro e w51 ⟨v225, rfl, ho0, hb⟩; refine ⟨_, rfl, ?_⟩; have n0_ := Aside0.mk (Kd.R_below (by (with_reducible repeat (first | apply Kd.R_alloc | apply Kd.R_drewN | apply Kd.R_drew)); exact HO221.out) hb); have n1_ := Aside0.mk (Kd.R_lower ho0 (below_size (by repeat (first | (with_reducible first | exact HB.out | apply below_alloc | apply pw_below_drewN | apply below_drew1) | exact HB.out)))); have n2_ := Aside0.mk (below_step (by repeat (first | (with_reducible first | exact HB.out | apply below_alloc | apply pw_below_drewN | apply below_drew1) | exact HB.out)) hb); clear HO221; clear HB; have HO221 := n0_; have HO226 := n1_; have HB := n2_; clear n0_ n1_ n2_; (try clear hb); (try clear hb2); (try clear hk); (try clear hi); (try clear ho0)) | ((with_reducible refine gate_callee (f := 23) rfl ?_); refine goesL_ (some 43) rfl rfl Try.func23 (by kernel_rfl) rfl #[.slice A0 l0.length c0] rfl (by (try simp only [List.map_toArray, List.map_cons, List.map_nil]); first | done | rfl | (simp only [List.length_drop, List.length_take]; rfl)) ?_; (with_reducible refine (culetlaw53_Own.calls _ _ l0 t227 _ ?side1 ?side2 A19.out).mono ?_); (case side1 => repeat (first | exact (Kd.C_below HR0.out HB.out) | (with_reducible refine Kd.C_alloc ?_ _) | (with_reducible refine Kd.C_drewN ?_ _) | (with_reducible refine Kd.C_drew ?_))); (case side2 => exact HC0.out); rintro e w52 ⟨v228, rfl, ho0, hb⟩; refine ⟨_, rfl, ?_⟩; have n0_ := Aside0.mk (Kd.R_elder' (by (with_reducible repeat (first | apply Kd.R_alloc | apply Kd.R_drewN | apply Kd.R_drew)); exact HO221.out) (Kd.R_base ho0) hb); have n1_ := Aside0.mk (Kd.R_below (by (with_reducible repeat (first | apply Kd.R_alloc | apply Kd.R_drewN | apply Kd.R_drew)); exact HO226.out) hb); have n2_ := Aside0.mk (Kd.R_lower (Kd.R_new' ho0 (Kd.R_lt (by (with_reducible repeat (first | apply Kd.R_alloc | apply Kd.R_drewN | apply Kd.R_drew)); exact HO221.out))) (below_size (by repeat (first | (with_reducible first | exact HB.out | apply below_alloc | apply pw_below_drewN | apply below_drew1) | exact HB.out)))); have n3_ := Aside0.mk (below_step (by repeat (first | (with_reducible first | exact HB.out | apply below_alloc | apply pw_below_drewN | apply below_drew1) | exact HB.out)) hb); clear HO221; clear HO226; clear HB; have HO221 := n0_; have HO226 := n1_; have HO229 := n2_; have HB := n3_; clear n0_ n1_ n2_ n3_; (try clear hb); (try clear hb2); (try clear hk); (try clear hi); (try clear ho0); obtain ⟨Ao54, co54, eo54⟩ := Kd.R_slice HO229.out; subst eo54; have q53 : ((ji20) : Int) ≤ ((t227.length : Int) : Int) := of_decide_eq_true (by first | (with_reducible assumption) | assumption); obtain ⟨i053, hi053, _, hsz53, _⟩ := info_parts info34; have hroom53 : t227.length ≤ co54 := (Kd.R_reads' HO229.out).2.1; have hC53 : Kd.C k34 _ Ao54 t227.length t227 := (Kd.R_reads' HO229.out).2.2; have hcut53 := cut_to (P := Try.prog) 42 34 .i64 Try.underlying42 hi053 Ao54 t227.length co54 (ji20) (of_decide_eq_true (by first | (with_reducible assumption) | assumption)) q53 hroom53; have hr53 := Kd.C_take (m := ((ji20) : Int).toNat) hC53 (by omega); have hy53 : y230.length = ((ji20) : Int).toNat := (by rw [Ny230.out, List.length_take]; omega); rw [← Ny230.out] at hr53; rw [← hy53] at hcut53; have HR233 := Aside0.mk hr53; have HC233 := Aside0.mk (show y230.length ≤ co54 from by omega); clear hr53 hC53 hroom53 hi053 hsz53; have KY53 := Aside0.mk hy53; clear hy53; have KL53 := Aside0.mk (show ((ji20) : Int).toNat ≤ t227.length from by omega); replace q53 := eq_true q53) | ((with_reducible refine gate_callee (f := 24) rfl ?_); refine goesL_ (some 46) rfl rfl Try.func24 (by kernel_rfl) rfl #[.slice Ao54 y230.length co54] rfl (by (try simp only [List.map_toArray, List.map_cons, List.map_nil]); first | done | rfl | (simp only [List.length_drop, List.length_take]; rfl)) ?_; (with_reducible refine (parcel_Of.calls _ _ y230 t234 t235 t236 _ ?side1 ?side2 A23.out).mono ?_); (case side1 => repeat (first | exact (by repeat (first | (with_reducible exact HR233.out) | (with_reducible refine Kd.C_alloc ?_ _) | (with_reducible refine Kd.C_drewN ?_ _) | (with_reducible refine Kd.C_drew ?_) | exact HR233.out)) | (with_reducible refine Kd.C_alloc ?_ _) | (with_reducible refine Kd.C_drewN ?_ _) | (with_reducible refine Kd.C_drew ?_))); (case side2 => exact HC233.out); rintro e w55 ⟨v237, rfl, ho0, hb⟩; refine ⟨_, rfl, ?_⟩; have n0_ := Aside0.mk (Kd.R_below (by (with_reducible repeat (first | apply Kd.R_alloc | apply Kd.R_drewN | apply Kd.R_drew)); exact HO221.out) hb); have n1_ := Aside0.mk (Kd.R_elder' (by (with_reducible repeat (first | apply Kd.R_alloc | apply Kd.R_drewN | apply Kd.R_drew)); exact HO226.out) (Kd.R_base ho0) hb); have n2_ := Aside0.mk (Kd.R_below (by (with_reducible repeat (first | apply Kd.R_alloc | apply Kd.R_drewN | apply Kd.R_drew)); exact HO229.out) hb); have n3_ := Aside0.mk (Kd.R_lower (Kd.R_new' ho0 (Kd.R_lt (by (with_reducible repeat (first | apply Kd.R_alloc | apply Kd.R_drewN | apply Kd.R_drew)); exact HO226.out))) (below_size (by repeat (first | (with_reducible first | exact HB.out | apply below_alloc | apply pw_below_drewN | apply below_drew1) | exact HB.out)))); have n4_ := Aside0.mk (Kd.C_below (by repeat (first | (with_reducible exact HR233.out) | (with_reducible refine Kd.C_alloc ?_ _) | (with_reducible refine Kd.C_drewN ?_ _) | (with_reducible refine Kd.C_drew ?_) | exact HR233.out)) hb); have n5_ := Aside0.mk (below_step (by repeat (first | (with_reducible first | exact HB.out | apply below_alloc | apply pw_below_drewN | apply below_drew1) | exact HB.out)) hb); clear HO221; clear HO226; clear HO229; clear HR233; clear HB; have HO221 := n0_; have HO226 := n1_; have HO229 := n2_; have HO238 := n3_; have HR233 := n4_; have HB := n5_; clear n0_ n1_ n2_ n3_ n4_ n5_; (try clear hb); (try clear hb2); (try clear hk); (try clear hi); (try clear ho0)))
                  go_ret
                  exact ⟨by first | rfl | (simp [errW_none, errW_some] <;> rfl) | (simp only [← hji20]; first | rfl | (simp [errW_none, errW_some] <;> rfl)) | (simp [*, errW_none, errW_some] <;> rfl), by repeat (first | (with_reducible first | exact HB.out | apply below_alloc | apply pw_below_drewN | apply below_drew1) | exact HB.out)⟩
                · rw [if_neg c48] at H
                  have c48b0 : (t224 == t236) = false := beq_eq_false_iff_ne.mpr c48
                  have c48b1 : (t224 != t236) = true := bne_iff_ne.mpr c48
                  obtain rfl := Option.some.inj H
                  go_wp2_with (first | ((with_reducible refine gate_callee (f := 23) rfl ?_); refine goesL_ (some 36) rfl rfl Try.func23 (by kernel_rfl) rfl #[.slice A0 l0.length c0] rfl (by (try simp only [List.map_toArray, List.map_cons, List.map_nil]); first | done | rfl | (simp only [List.length_drop, List.length_take]; rfl)) ?_; (with_reducible refine (culetlaw53_Own.calls _ _ l0 t219 _ ?side1 ?side2 A17.out).mono ?_); (case side1 => repeat (first | exact (Kd.C_below HR0.out HB.out) | (with_reducible refine Kd.C_alloc ?_ _) | (with_reducible refine Kd.C_drewN ?_ _) | (with_reducible refine Kd.C_drew ?_))); (case side2 => exact HC0.out); rintro e w56 ⟨v220, rfl, ho0, hb⟩; refine ⟨_, rfl, ?_⟩; have n0_ := Aside0.mk (Kd.R_lower ho0 (below_size (by repeat (first | (with_reducible first | exact HB.out | apply below_alloc | apply pw_below_drewN | apply below_drew1) | exact HB.out)))); have n1_ := Aside0.mk (below_step (by repeat (first | (with_reducible first | exact HB.out | apply below_alloc | apply pw_below_drewN | apply below_drew1) | exact HB.out)) hb); clear HB; have HO221 := n0_; have HB := n1_; clear n0_ n1_; (try clear hb); (try clear hb2); (try clear hk); (try clear hi); (try clear ho0); obtain ⟨Ao57, co57, eo57⟩ := Kd.R_slice HO221.out; subst eo57) | ((with_reducible refine gate_callee (f := 24) rfl ?_); refine goesL_ (some 37) rfl rfl Try.func24 (by kernel_rfl) rfl #[.slice Ao57 t219.length co57] rfl (by (try simp only [List.map_toArray, List.map_cons, List.map_nil]); first | done | rfl | (simp only [List.length_drop, List.length_take]; rfl)) ?_; (with_reducible refine (parcel_Of.calls _ _ t219 t222 t223 t224 _ ?side1 ?side2 A18.out).mono ?_); (case side1 => repeat (first | exact (Kd.R_reads' HO221.out).2.2 | (with_reducible refine Kd.C_alloc ?_ _) | (with_reducible refine Kd.C_drewN ?_ _) | (with_reducible refine Kd.C_drew ?_))); (case side2 => exact (Kd.R_reads' HO221.out).2.1); rintro e w58 ⟨v225, rfl, ho0, hb⟩; refine ⟨_, rfl, ?_⟩; have n0_ := Aside0.mk (Kd.R_below (by (with_reducible repeat (first | apply Kd.R_alloc | apply Kd.R_drewN | apply Kd.R_drew)); exact HO221.out) hb); have n1_ := Aside0.mk (Kd.R_lower ho0 (below_size (by repeat (first | (with_reducible first | exact HB.out | apply below_alloc | apply pw_below_drewN | apply below_drew1) | exact HB.out)))); have n2_ := Aside0.mk (below_step (by repeat (first | (with_reducible first | exact HB.out | apply below_alloc | apply pw_below_drewN | apply below_drew1) | exact HB.out)) hb); clear HO221; clear HB; have HO221 := n0_; have HO226 := n1_; have HB := n2_; clear n0_ n1_ n2_; (try clear hb); (try clear hb2); (try clear hk); (try clear hi); (try clear ho0)) | ((with_reducible refine gate_callee (f := 23) rfl ?_); refine goesL_ (some 43) rfl rfl Try.func23 (by kernel_rfl) rfl #[.slice A0 l0.length c0] rfl (by (try simp only [List.map_toArray, List.map_cons, List.map_nil]); first | done | rfl | (simp only [List.length_drop, List.length_take]; rfl)) ?_; (with_reducible refine (culetlaw53_Own.calls _ _ l0 t227 _ ?side1 ?side2 A19.out).mono ?_); (case side1 => repeat (first | exact (Kd.C_below HR0.out HB.out) | (with_reducible refine Kd.C_alloc ?_ _) | (with_reducible refine Kd.C_drewN ?_ _) | (with_reducible refine Kd.C_drew ?_))); (case side2 => exact HC0.out); rintro e w59 ⟨v228, rfl, ho0, hb⟩; refine ⟨_, rfl, ?_⟩; have n0_ := Aside0.mk (Kd.R_elder' (by (with_reducible repeat (first | apply Kd.R_alloc | apply Kd.R_drewN | apply Kd.R_drew)); exact HO221.out) (Kd.R_base ho0) hb); have n1_ := Aside0.mk (Kd.R_below (by (with_reducible repeat (first | apply Kd.R_alloc | apply Kd.R_drewN | apply Kd.R_drew)); exact HO226.out) hb); have n2_ := Aside0.mk (Kd.R_lower (Kd.R_new' ho0 (Kd.R_lt (by (with_reducible repeat (first | apply Kd.R_alloc | apply Kd.R_drewN | apply Kd.R_drew)); exact HO221.out))) (below_size (by repeat (first | (with_reducible first | exact HB.out | apply below_alloc | apply pw_below_drewN | apply below_drew1) | exact HB.out)))); have n3_ := Aside0.mk (below_step (by repeat (first | (with_reducible first | exact HB.out | apply below_alloc | apply pw_below_drewN | apply below_drew1) | exact HB.out)) hb); clear HO221; clear HO226; clear HB; have HO221 := n0_; have HO226 := n1_; have HO229 := n2_; have HB := n3_; clear n0_ n1_ n2_ n3_; (try clear hb); (try clear hb2); (try clear hk); (try clear hi); (try clear ho0); obtain ⟨Ao61, co61, eo61⟩ := Kd.R_slice HO229.out; subst eo61; have q60 : ((ji20) : Int) ≤ ((t227.length : Int) : Int) := of_decide_eq_true (by first | (with_reducible assumption) | assumption); obtain ⟨i060, hi060, _, hsz60, _⟩ := info_parts info34; have hroom60 : t227.length ≤ co61 := (Kd.R_reads' HO229.out).2.1; have hC60 : Kd.C k34 _ Ao61 t227.length t227 := (Kd.R_reads' HO229.out).2.2; have hcut60 := cut_to (P := Try.prog) 42 34 .i64 Try.underlying42 hi060 Ao61 t227.length co61 (ji20) (of_decide_eq_true (by first | (with_reducible assumption) | assumption)) q60 hroom60; have hr60 := Kd.C_take (m := ((ji20) : Int).toNat) hC60 (by omega); have hy60 : y230.length = ((ji20) : Int).toNat := (by rw [Ny230.out, List.length_take]; omega); rw [← Ny230.out] at hr60; rw [← hy60] at hcut60; have HR233 := Aside0.mk hr60; have HC233 := Aside0.mk (show y230.length ≤ co61 from by omega); clear hr60 hC60 hroom60 hi060 hsz60; have KY60 := Aside0.mk hy60; clear hy60; have KL60 := Aside0.mk (show ((ji20) : Int).toNat ≤ t227.length from by omega); replace q60 := eq_true q60) | ((with_reducible refine gate_callee (f := 24) rfl ?_); refine goesL_ (some 46) rfl rfl Try.func24 (by kernel_rfl) rfl #[.slice Ao61 y230.length co61] rfl (by (try simp only [List.map_toArray, List.map_cons, List.map_nil]); first | done | rfl | (simp only [List.length_drop, List.length_take]; rfl)) ?_; (with_reducible refine (parcel_Of.calls _ _ y230 t234 t235 t236 _ ?side1 ?side2 A23.out).mono ?_); (case side1 => repeat (first | exact (by repeat (first | (with_reducible exact HR233.out) | (with_reducible refine Kd.C_alloc ?_ _) | (with_reducible refine Kd.C_drewN ?_ _) | (with_reducible refine Kd.C_drew ?_) | exact HR233.out)) | (with_reducible refine Kd.C_alloc ?_ _) | (with_reducible refine Kd.C_drewN ?_ _) | (with_reducible refine Kd.C_drew ?_))); (case side2 => exact HC233.out); rintro e w62 ⟨v237, rfl, ho0, hb⟩; refine ⟨_, rfl, ?_⟩; have n0_ := Aside0.mk (Kd.R_below (by (with_reducible repeat (first | apply Kd.R_alloc | apply Kd.R_drewN | apply Kd.R_drew)); exact HO221.out) hb); have n1_ := Aside0.mk (Kd.R_elder' (by (with_reducible repeat (first | apply Kd.R_alloc | apply Kd.R_drewN | apply Kd.R_drew)); exact HO226.out) (Kd.R_base ho0) hb); have n2_ := Aside0.mk (Kd.R_below (by (with_reducible repeat (first | apply Kd.R_alloc | apply Kd.R_drewN | apply Kd.R_drew)); exact HO229.out) hb); have n3_ := Aside0.mk (Kd.R_lower (Kd.R_new' ho0 (Kd.R_lt (by (with_reducible repeat (first | apply Kd.R_alloc | apply Kd.R_drewN | apply Kd.R_drew)); exact HO226.out))) (below_size (by repeat (first | (with_reducible first | exact HB.out | apply below_alloc | apply pw_below_drewN | apply below_drew1) | exact HB.out)))); have n4_ := Aside0.mk (Kd.C_below (by repeat (first | (with_reducible exact HR233.out) | (with_reducible refine Kd.C_alloc ?_ _) | (with_reducible refine Kd.C_drewN ?_ _) | (with_reducible refine Kd.C_drew ?_) | exact HR233.out)) hb); have n5_ := Aside0.mk (below_step (by repeat (first | (with_reducible first | exact HB.out | apply below_alloc | apply pw_below_drewN | apply below_drew1) | exact HB.out)) hb); clear HO221; clear HO226; clear HO229; clear HR233; clear HB; have HO221 := n0_; have HO226 := n1_; have HO229 := n2_; have HO238 := n3_; have HR233 := n4_; have HB := n5_; clear n0_ n1_ n2_ n3_ n4_ n5_; (try clear hb); (try clear hb2); (try clear hk); (try clear hi); (try clear ho0)))
                  go_ret
                  exact ⟨by first | rfl | (simp [errW_none, errW_some] <;> rfl) | (simp only [← hji20]; first | rfl | (simp [errW_none, errW_some] <;> rfl)) | (simp [*, errW_none, errW_some] <;> rfl), by repeat (first | (with_reducible first | exact HB.out | apply below_alloc | apply pw_below_drewN | apply below_drew1) | exact HB.out)⟩
            · rw [if_neg c22] at H
              exact absurd H (by simp)
          · rw [if_neg c21] at H
            exact absurd H (by simp)

/-- THE ONE PURE STATEMENT of culetlaw53_ParcelSteps: yours. -/
def culetlaw53_ParcelSteps.Pure : Prop := ∀ (x0 : List (S26)) (x1 : Int), (AllV V26) x0 → (fun n_ => (Lit.int .u8 n_).wf = true) x1 → ∃ k, culetlaw53_ParcelSteps.f k x0 x1 = some true

end Go.Proofs.Ytndbchcfjajgbaa.XP
