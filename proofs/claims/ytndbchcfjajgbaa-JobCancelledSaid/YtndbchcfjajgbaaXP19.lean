-- printed by xprint.py
import Derived.Test.YtndbchcfjajgbaaXB
import Derived.Test.YtndbchcfjajgbaaXP0
import Derived.Test.YtndbchcfjajgbaaXP14
import Derived.Test.YtndbchcfjajgbaaXP15
import Derived.Test.YtndbchcfjajgbaaXP16
import Derived.Test.YtndbchcfjajgbaaXP18
import Derived.Test.YtndbchcfjajgbaaHandJobDoF
import Derived.Test.YtndbchcfjajgbaaHandJobFind
namespace Go.Proofs.Ytndbchcfjajgbaa.XP
open Go.Proofs.Ytndbchcfjajgbaa.XB Go.Proofs.Ytndbchcfjajgbaa.XQ
open Go.Proofs.Ytndbchcfjajgbaa.XW
open Go.RowKit Go.Proofs.YtndbchcfjajgbaaW.PrintWords Go.Proofs.YtndbchcfjajgbaaW.PrintLast Go.Proofs.YtndbchcfjajgbaaW.PrintMore
attribute [local go_sem] max2_int min2_int max_two min_two max_three min_three max_four min_four   -- for this text's walks alone
set_option linter.unusedVariables false
set_option linter.unusedSimpArgs false

/-! ### culetlaw54_JobCancelled: function 12 -/
mutual
def culetlaw54_JobCancelled.j0 : Nat → ByteArray → Int → Bool → Int → List (S107) → List (S24) → Int → Int → Option (Bool)
 | 0, _, _, _, _, _, _, _, _ => none
 | k + 1, x1, x2, x24, Qa0, Qa1, Qa2, Qa3, Qa4 => if x24 = true then ((culetlaw54_awake.f k).bind fun t325 => (some t325)) else ((culetlaw54_Own.f k Qa0 Qa1 Qa2 Qa3 Qa4).bind fun bt326 => ((job_Do.f bt326.1 bt326.2.1 bt326.2.2.1 bt326.2.2.2.1 bt326.2.2.2.2 2 Qa0 (⟨#[]⟩ : ByteArray) (⟨#[]⟩ : ByteArray) (⟨#[]⟩ : ByteArray) 0 0 x1 0).bind fun bt335 => (if bt335.2.2.2.2.2 = 0 then (culetlaw54_JobCancelled.j1 k x1 x2 (decide ((wrap64 (Qa0 + (wrap64 (x2)))) > 100000)) Qa0 Qa1 Qa2 Qa3 Qa4 bt335.1 bt335.2.1 bt335.2.2.1 bt335.2.2.2.1 bt335.2.2.2.2.1) else (culetlaw54_JobCancelled.j1 k x1 x2 true Qa0 Qa1 Qa2 Qa3 Qa4 bt335.1 bt335.2.1 bt335.2.2.1 bt335.2.2.2.1 bt335.2.2.2.2.1))))
def culetlaw54_JobCancelled.j1 : Nat → ByteArray → Int → Bool → Int → List (S107) → List (S24) → Int → Int → Int → List (S99) → List (S24) → Int → Int → Option (Bool)
 | 0, _, _, _, _, _, _, _, _, _, _, _, _, _ => none
 | k + 1, x1, x2, x45, Qa0, Qa1, Qa2, Qa3, Qa4, Qb0, Qb1, Qb2, Qb3, Qb4 => if x45 = true then (some true) else ((job_Do.f Qb0 Qb1 Qb2 Qb3 Qb4 5 (wrap64 (Qa0 + (wrap64 (x2)))) (⟨#[]⟩ : ByteArray) (⟨#[]⟩ : ByteArray) (⟨#[]⟩ : ByteArray) 0 0 x1 0).bind fun bt346 => ((job_Find.f bt346.1 bt346.2.1 bt346.2.2.1 bt346.2.2.2.1 bt346.2.2.2.2.1 x1).bind fun bt357 => (if bt346.2.2.2.2.2 = 0 then (if bt357.2.2.2.2.2.2.2.2.2.2.2.2.2 = true then (if bt357.2.2.2.2.2.1 = 5 then ((culetref53_Same.f k bt346.2.2.1 Qa2).bind fun t372 => (if t372 = true then (if bt346.2.2.2.1 = Qa3 then (some (bt346.2.2.2.2.1 == Qa4)) else (some false)) else (some false))) else (some false)) else (some false)) else (some false))))
end
def culetlaw54_JobCancelled.f (k : Nat) (a0_0 : Int) (l0_1 : List (S107)) (l0_2 : List (S24)) (a0_3 : Int) (a0_4 : Int) (a1 : ByteArray) (a2 : Int) : Option (Bool) := (culetlaw54_awake.f k).bind fun t323 => (if t323 = true then ((culetref54_Few.f k a0_0 l0_1 l0_2 a0_3 a0_4).bind fun t324 => (if t324 = true then (culetlaw54_JobCancelled.j0 k a1 a2 (decide ((a1.size : Int) > 40)) a0_0 l0_1 l0_2 a0_3 a0_4) else (culetlaw54_JobCancelled.j0 k a1 a2 true a0_0 l0_1 l0_2 a0_3 a0_4))) else (culetlaw54_JobCancelled.j0 k a1 a2 true a0_0 l0_1 l0_2 a0_3 a0_4))
theorem culetlaw54_JobCancelled.mono_l : ∀ k, (∀ y0 y1 y2 y3 y4 y5 y6 y7, LeO (culetlaw54_JobCancelled.j0 k y0 y1 y2 y3 y4 y5 y6 y7) (culetlaw54_JobCancelled.j0 (k + 1) y0 y1 y2 y3 y4 y5 y6 y7)) ∧ (∀ y0 y1 y2 y3 y4 y5 y6 y7 y8 y9 y10 y11 y12, LeO (culetlaw54_JobCancelled.j1 k y0 y1 y2 y3 y4 y5 y6 y7 y8 y9 y10 y11 y12) (culetlaw54_JobCancelled.j1 (k + 1) y0 y1 y2 y3 y4 y5 y6 y7 y8 y9 y10 y11 y12))
 | 0 => ⟨fun _ _ _ _ _ _ _ _ r h => by simp [culetlaw54_JobCancelled.j0] at h, fun _ _ _ _ _ _ _ _ _ _ _ _ _ r h => by simp [culetlaw54_JobCancelled.j1] at h⟩
 | k + 1 => by
  obtain ⟨ih0, ih1⟩ := culetlaw54_JobCancelled.mono_l k
  refine ⟨?_, ?_⟩
  ·intro y0 y1 y2 y3 y4 y5 y6 y7
   unfold culetlaw54_JobCancelled.j0
   repeat' first
   | (with_reducible exact ih0 _ _ _ _ _ _ _ _)
   | (with_reducible exact ih1 _ _ _ _ _ _ _ _ _ _ _ _ _)
   | (with_reducible exact culetlaw54_Own.mono _ _ _ _ _ _)
   | (with_reducible exact culetlaw54_awake.mono _)
   | (with_reducible exact culetref53_Same.mono _ _ _)
   | (with_reducible exact culetref54_Few.mono _ _ _ _ _ _)
   | (with_reducible exact LeO.refl _)
   | (with_reducible exact LeO.none _)
   | (with_reducible refine LeO.ite ?_ ?_)
   | (with_reducible refine LeO.bind ?_ (fun _ => ?_))
   | exact ih0 _ _ _ _ _ _ _ _
   | exact ih1 _ _ _ _ _ _ _ _ _ _ _ _ _
   | exact culetlaw54_Own.mono _ _ _ _ _ _
   | exact culetlaw54_awake.mono _
   | exact culetref53_Same.mono _ _ _
   | exact culetref54_Few.mono _ _ _ _ _ _
   | exact LeO.none _
   | refine LeO.ite ?_ ?_
   | refine LeO.bind ?_ (fun _ => ?_)
  ·intro y0 y1 y2 y3 y4 y5 y6 y7 y8 y9 y10 y11 y12
   unfold culetlaw54_JobCancelled.j1
   repeat' first
   | (with_reducible exact ih0 _ _ _ _ _ _ _ _)
   | (with_reducible exact ih1 _ _ _ _ _ _ _ _ _ _ _ _ _)
   | (with_reducible exact culetlaw54_Own.mono _ _ _ _ _ _)
   | (with_reducible exact culetlaw54_awake.mono _)
   | (with_reducible exact culetref53_Same.mono _ _ _)
   | (with_reducible exact culetref54_Few.mono _ _ _ _ _ _)
   | (with_reducible exact LeO.refl _)
   | (with_reducible exact LeO.none _)
   | (with_reducible refine LeO.ite ?_ ?_)
   | (with_reducible refine LeO.bind ?_ (fun _ => ?_))
   | exact ih0 _ _ _ _ _ _ _ _
   | exact ih1 _ _ _ _ _ _ _ _ _ _ _ _ _
   | exact culetlaw54_Own.mono _ _ _ _ _ _
   | exact culetlaw54_awake.mono _
   | exact culetref53_Same.mono _ _ _
   | exact culetref54_Few.mono _ _ _ _ _ _
   | exact LeO.none _
   | refine LeO.ite ?_ ?_
   | refine LeO.bind ?_ (fun _ => ?_)
theorem culetlaw54_JobCancelled.mono : ∀ a0 a1 a2 a3 a4 a5 a6 k, LeO (culetlaw54_JobCancelled.f k a0 a1 a2 a3 a4 a5 a6) (culetlaw54_JobCancelled.f (k + 1) a0 a1 a2 a3 a4 a5 a6) := by
 intro a0 a1 a2 a3 a4 a5 a6 k
 obtain ⟨ih0, ih1⟩ := culetlaw54_JobCancelled.mono_l k
 unfold culetlaw54_JobCancelled.f
 repeat' first
   | (with_reducible exact ih0 _ _ _ _ _ _ _ _)
   | (with_reducible exact ih1 _ _ _ _ _ _ _ _ _ _ _ _ _)
   | (with_reducible exact culetlaw54_Own.mono _ _ _ _ _ _)
   | (with_reducible exact culetlaw54_awake.mono _)
   | (with_reducible exact culetref53_Same.mono _ _ _)
   | (with_reducible exact culetref54_Few.mono _ _ _ _ _ _)
   | (with_reducible exact LeO.refl _)
   | (with_reducible exact LeO.none _)
   | (with_reducible refine LeO.ite ?_ ?_)
   | (with_reducible refine LeO.bind ?_ (fun _ => ?_))
   | exact ih0 _ _ _ _ _ _ _ _
   | exact ih1 _ _ _ _ _ _ _ _ _ _ _ _ _
   | exact culetlaw54_Own.mono _ _ _ _ _ _
   | exact culetlaw54_awake.mono _
   | exact culetref53_Same.mono _ _ _
   | exact culetref54_Few.mono _ _ _ _ _ _
   | exact LeO.none _
   | refine LeO.ite ?_ ?_
   | refine LeO.bind ?_ (fun _ => ?_)
def culetlaw54_JobCancelled.T3 : Bool × List (List Nat × List Nat) := (true, [([], []), ([0], [0]), ([], []), ([2], [2]), ([], []), ([3, 4], [3, 4]), ([1, 5, 1], [1, 5]), ([6], [6]), ([7], [7]), ([7], [7]), ([], []), ([10, 8, 6, 0, 1, 2, 3, 4, 5, 6, 7, 8, 10], [8, 10]), ([9, 11, 0, 1, 2, 3, 4, 5, 6, 7, 8, 9, 10, 11], [9])])
def culetlaw54_JobCancelled.B3 : List Nat := [0, 1, 0, 4, 0, 28, 63, 127, 255, 255, 0, 1535, 4095]
theorem culetlaw54_JobCancelled.tab3 : rtab .any (opsOf Try.f12 3) = culetlaw54_JobCancelled.T3 := by kernel_rfl
theorem culetlaw54_JobCancelled.bits3 : waitsOk culetlaw54_JobCancelled.T3.2 culetlaw54_JobCancelled.B3 = true := by kernel_rfl
set_option maxHeartbeats 8000000 in
set_option maxRecDepth 100000 in
theorem culetlaw54_JobCancelled.calls (k : Nat) (a0_0 : Int) (A0_1 : Option Addr) (c0_1 : Nat) (l0_1 : List (S107)) (A0_2 : Option Addr) (c0_2 : Nat) (l0_2 : List (S24)) (a0_3 : Int) (a0_4 : Int) (a1 : ByteArray) (a2 : Int) (r : Bool) (w : World) (hr0_1 : Kd.C k107 w A0_1 l0_1.length l0_1) (hc0_1 : l0_1.length ≤ c0_1) (hr0_2 : Kd.C k24 w A0_2 l0_2.length l0_2) (hc0_2 : l0_2.length ≤ c0_2) (h : culetlaw54_JobCancelled.f k a0_0 l0_1 l0_2 a0_3 a0_4 a1 a2 = some r) (ht_ : r = true) :
  Calls Try.prog 12 #[.agg #[.int .i64 a0_0, .slice A0_1 l0_1.length c0_1, .slice A0_2 l0_2.length c0_2, .int .i64 a0_3, .int .i64 a0_4], .string a1, .int .u8 a2] w fun e w' => e = .returned (.bool r) ∧ Below w.heap.size w w' := by
 have hu67 := Try.underlying67
 have hu83 := Try.underlying83
 have hu77 := Try.underlying77
 have hu99 := Try.underlying99
 have HTRUE := Aside0.mk ht_
 clear ht_
 have HR0_1 := Aside0.mk hr0_1
 have HC0_1 := Aside0.mk hc0_1
 clear hr0_1 hc0_1
 have HR0_2 := Aside0.mk hr0_2
 have HC0_2 := Aside0.mk hc0_2
 clear hr0_2 hc0_2
 have HB := Aside0.mk (Below.refl w.heap.size w)
 have H : ((culetlaw54_awake.f k).bind fun t323 => (if t323 = true then ((culetref54_Few.f k a0_0 l0_1 l0_2 a0_3 a0_4).bind fun t324 => (if t324 = true then (culetlaw54_JobCancelled.j0 k a1 a2 (decide ((a1.size : Int) > 40)) a0_0 l0_1 l0_2 a0_3 a0_4) else (culetlaw54_JobCancelled.j0 k a1 a2 true a0_0 l0_1 l0_2 a0_3 a0_4))) else (culetlaw54_JobCancelled.j0 k a1 a2 true a0_0 l0_1 l0_2 a0_3 a0_4))) = some r := h
 clear h
 have HC4 := Aside0.mk H
 clear H
 go_enter Try.func12, Try.ntmps12
 go_upto_region 1 with (first | ((with_reducible refine gate_dst (N := 3) rfl ?_); (try (refine gate_guard (by rfl) ?_; dsimp only)); refine bx_ (N := 3) (cs := #[.int .i64 a0_0, .slice A0_1 l0_1.length c0_1, .slice A0_2 l0_2.length c0_2, .int .i64 a0_3, .int .i64 a0_4]) (t := 67) ?_; intro gb322 hg w5 hbox hb; have BK322 := Aside0.mk (hbox); have GW322 := Aside0.mk ((by rw [hg]; exact (below_size (bb HB.out)) : w.heap.size ≤ gb322)); have GE322 := Aside0.mk ((by rw [hg]; exact (below_size (bb HB.out)) : w.heap.size ≤ gb322)); replace HB := Aside0.mk (below_step (bb HB.out) hb); clear hb hbox hg))
 (try simp only [Act.put, List.setIfInBounds_toArray, List.set_cons_zero, List.set_cons_succ])
 go_cut [24] (fun v24 wc => ∃ (kq : Nat) (x24_3 : Bool), v24 = .bool x24_3 ∧ Aside0 (culetlaw54_JobCancelled.j0 kq a1 a2 x24_3 a0_0 l0_1 l0_2 a0_3 a0_4 = some r) ∧ Aside0 (kq ≤ k) ∧ Aside0 (wc.heap[gb322]? = some (.cells #[.int .i64 a0_0, (.slice A0_1 l0_1.length c0_1), (.slice A0_2 l0_2.length c0_2), .int .i64 a0_3, .int .i64 a0_4] 67 (0, 0))) ∧ Aside0 (Below w.heap.size w wc))
 case first =>
  have H := HC4.out
  clear HC4
  replace H := Option.bind_eq_some_iff.mp H
  obtain ⟨t323, A60, H⟩ := H
  replace H : (if t323 = true then ((culetref54_Few.f k a0_0 l0_1 l0_2 a0_3 a0_4).bind fun t324 => (if t324 = true then (culetlaw54_JobCancelled.j0 k a1 a2 (decide ((a1.size : Int) > 40)) a0_0 l0_1 l0_2 a0_3 a0_4) else (culetlaw54_JobCancelled.j0 k a1 a2 true a0_0 l0_1 l0_2 a0_3 a0_4))) else (culetlaw54_JobCancelled.j0 k a1 a2 true a0_0 l0_1 l0_2 a0_3 a0_4)) = some r := H
  have A6 := Aside0.mk A60
  clear A60
  by_cases c7 : t323 = true
  ·subst c7
   have H1 : ((culetref54_Few.f k a0_0 l0_1 l0_2 a0_3 a0_4).bind fun t324 => (if t324 = true then (culetlaw54_JobCancelled.j0 k a1 a2 (decide ((a1.size : Int) > 40)) a0_0 l0_1 l0_2 a0_3 a0_4) else (culetlaw54_JobCancelled.j0 k a1 a2 true a0_0 l0_1 l0_2 a0_3 a0_4))) = some r := by rw [if_pos rfl] at H; exact H
   clear H
   have H := H1
   clear H1
   replace H := Option.bind_eq_some_iff.mp H
   obtain ⟨t324, A80, H⟩ := H
   replace H : (if t324 = true then (culetlaw54_JobCancelled.j0 k a1 a2 (decide ((a1.size : Int) > 40)) a0_0 l0_1 l0_2 a0_3 a0_4) else (culetlaw54_JobCancelled.j0 k a1 a2 true a0_0 l0_1 l0_2 a0_3 a0_4)) = some r := H
   have A8 := Aside0.mk A80
   clear A80
   by_cases c9 : t324 = true
   ·subst c9
    have H1 : (culetlaw54_JobCancelled.j0 k a1 a2 (decide ((a1.size : Int) > 40)) a0_0 l0_1 l0_2 a0_3 a0_4) = some r := by rw [if_pos rfl] at H; exact H
    clear H
    have H := H1
    clear H1
    have H' := Aside0.mk H
    clear H
    go_wp2_with (first | ((with_reducible refine gate_callee (f := 34) rfl ?_); refine goesL_ (some 13) rfl rfl Try.func34 t_74 rfl #[] rfl t_34 ?_; (with_reducible refine (culetlaw54_awake.calls k  true _ A6.out).mono ?_); rintro e w10 ⟨rfl, hb⟩; refine ⟨_, rfl, ?_⟩; replace BK322 := Aside0.mk (blk_below (g := gb322) (bl BK322.out) hb); replace HB := Aside0.mk (below_step t_31 hb); (try clear hb); (try clear hb2); (try clear hk); (try clear hi); obtain ⟨hcz11_0, hcz11_1, hcz11_2, hcz11_3, hcz11_4⟩ := sqc5 BK322.out; obtain ⟨hfz11_0, hfz11_1, hfz11_2, hfz11_3, hfz11_4⟩ := frozen5 BK322.out) | (go_at_call 35; (with_reducible refine (culetref54_Few.calls k a0_0 _ _ l0_1 _ _ l0_2 a0_3 a0_4 true _ ?side1 ?side2 ?side3 ?side4 A8.out).mono ?_); (case side1 => exact cl ((Kd.C_below HR0_1.out HB.out))); (case side2 => exact HC0_1.out); (case side3 => exact cl ((Kd.C_below HR0_2.out HB.out))); (case side4 => exact HC0_2.out); rintro e w12 ⟨rfl, hb⟩; replace BK322 := Aside0.mk (blk_below (g := gb322) (bl BK322.out) hb); replace HB := Aside0.mk (below_step t_31 hb); (try clear hb); (try clear hb2); (try clear hk); (try clear hi)))
    go_meet
    case rel => exact ⟨_, (decide ((a1.size : Int) > 40)), t_63, H', ⟨t_69⟩, ⟨t_49⟩, ⟨t_31⟩⟩
   ·replace c9 := Bool.eq_false_iff.mpr c9
    subst c9
    have H1 : (culetlaw54_JobCancelled.j0 k a1 a2 true a0_0 l0_1 l0_2 a0_3 a0_4) = some r := by rw [if_neg (show ¬ (false = true) by decide)] at H; exact H
    clear H
    have H := H1
    clear H1
    have H' := Aside0.mk H
    clear H
    go_wp2_with (first | ((with_reducible refine gate_callee (f := 34) rfl ?_); refine goesL_ (some 13) rfl rfl Try.func34 t_74 rfl #[] rfl t_34 ?_; (with_reducible refine (culetlaw54_awake.calls k  true _ A6.out).mono ?_); rintro e w13 ⟨rfl, hb⟩; refine ⟨_, rfl, ?_⟩; replace BK322 := Aside0.mk (blk_below (g := gb322) (bl BK322.out) hb); replace HB := Aside0.mk (below_step t_31 hb); (try clear hb); (try clear hb2); (try clear hk); (try clear hi); obtain ⟨hcz14_0, hcz14_1, hcz14_2, hcz14_3, hcz14_4⟩ := sqc5 BK322.out; obtain ⟨hfz14_0, hfz14_1, hfz14_2, hfz14_3, hfz14_4⟩ := frozen5 BK322.out) | (go_at_call 35; (with_reducible refine (culetref54_Few.calls k a0_0 _ _ l0_1 _ _ l0_2 a0_3 a0_4 false _ ?side1 ?side2 ?side3 ?side4 A8.out).mono ?_); (case side1 => exact cl ((Kd.C_below HR0_1.out HB.out))); (case side2 => exact HC0_1.out); (case side3 => exact cl ((Kd.C_below HR0_2.out HB.out))); (case side4 => exact HC0_2.out); rintro e w15 ⟨rfl, hb⟩; replace BK322 := Aside0.mk (blk_below (g := gb322) (bl BK322.out) hb); replace HB := Aside0.mk (below_step t_31 hb); (try clear hb); (try clear hb2); (try clear hk); (try clear hi)))
    go_meet
    case rel => exact ⟨_, (true), t_63, H', ⟨t_69⟩, ⟨t_49⟩, ⟨t_31⟩⟩
  ·replace c7 := Bool.eq_false_iff.mpr c7
   subst c7
   have H1 : (culetlaw54_JobCancelled.j0 k a1 a2 true a0_0 l0_1 l0_2 a0_3 a0_4) = some r := by rw [if_neg (show ¬ (false = true) by decide)] at H; exact H
   clear H
   have H := H1
   clear H1
   have H' := Aside0.mk H
   clear H
   go_wp2_with (first | ((with_reducible refine gate_callee (f := 34) rfl ?_); refine goesL_ (some 13) rfl rfl Try.func34 t_74 rfl #[] rfl t_34 ?_; (with_reducible refine (culetlaw54_awake.calls k  false _ A6.out).mono ?_); rintro e w16 ⟨rfl, hb⟩; refine ⟨_, rfl, ?_⟩; replace BK322 := Aside0.mk (blk_below (g := gb322) (bl BK322.out) hb); replace HB := Aside0.mk (below_step t_31 hb); (try clear hb); (try clear hb2); (try clear hk); (try clear hi)))
   go_meet
   case rel => exact ⟨_, (true), t_63, H', ⟨t_69⟩, ⟨t_49⟩, ⟨t_31⟩⟩
 case rest =>
  clear HC4
  try clear c1
  try clear p2
  try clear c3
  try clear c7
  try clear c9
  try clear c12
  try clear hcz11_0 hcz11_1 hcz11_2 hcz11_3 hcz11_4
  try clear hcz14_0 hcz14_1 hcz14_2 hcz14_3 hcz14_4
  try clear hfz11_0 hfz11_1 hfz11_2 hfz11_3 hfz11_4
  try clear hfz14_0 hfz14_1 hfz14_2 hfz14_3 hfz14_4
  obtain ⟨kq, x24_3, rfl, HA, HJ3, BK322, HB⟩ := hcut
  cases kq with
  | zero => exact absurd HA.out (by simp [culetlaw54_JobCancelled.j0])
  | succ kj3 =>
   have H := HA.out
   clear HA
   simp only [culetlaw54_JobCancelled.j0] at H
   by_cases c17 : x24_3 = true
   ·subst c17
    have H1 : ((culetlaw54_awake.f kj3).bind fun t325 => (some t325)) = some r := by rw [if_pos rfl] at H; exact H
    clear H
    have H := H1
    clear H1
    replace H := Option.bind_eq_some_iff.mp H
    obtain ⟨t325, A180, H⟩ := H
    replace H : (some t325) = some r := H
    have A18 := Aside0.mk A180
    clear A180
    obtain rfl := Option.some.inj H
    go_wp2_with (first | ((with_reducible refine gate_callee (f := 34) rfl ?_); refine goesL_ (some 25) rfl rfl Try.func34 t_74 rfl #[] rfl t_34 ?_; (with_reducible refine (culetlaw54_awake.calls kj3  t325 _ A18.out).mono ?_); rintro e w19 ⟨rfl, hb⟩; refine ⟨_, rfl, ?_⟩; replace BK322 := Aside0.mk (blk_below (g := gb322) (bl BK322.out) hb); replace HB := Aside0.mk (below_step t_31 hb); (try clear hb); (try clear hb2); (try clear hk); (try clear hi)))
    go_ret
    exact ⟨t_4b, t_31⟩
   ·replace c17 := Bool.eq_false_iff.mpr c17
    subst c17
    have H1 : ((culetlaw54_Own.f kj3 a0_0 l0_1 l0_2 a0_3 a0_4).bind fun bt326 => ((job_Do.f bt326.1 bt326.2.1 bt326.2.2.1 bt326.2.2.2.1 bt326.2.2.2.2 2 a0_0 (⟨#[]⟩ : ByteArray) (⟨#[]⟩ : ByteArray) (⟨#[]⟩ : ByteArray) 0 0 a1 0).bind fun bt335 => (if bt335.2.2.2.2.2 = 0 then (culetlaw54_JobCancelled.j1 kj3 a1 a2 (decide ((wrap64 (a0_0 + (wrap64 (a2)))) > 100000)) a0_0 l0_1 l0_2 a0_3 a0_4 bt335.1 bt335.2.1 bt335.2.2.1 bt335.2.2.2.1 bt335.2.2.2.2.1) else (culetlaw54_JobCancelled.j1 kj3 a1 a2 true a0_0 l0_1 l0_2 a0_3 a0_4 bt335.1 bt335.2.1 bt335.2.2.1 bt335.2.2.2.1 bt335.2.2.2.2.1)))) = some r := by rw [if_neg (show ¬ (false = true) by decide)] at H; exact H
    clear H
    have H := H1
    clear H1
    replace H := Option.bind_eq_some_iff.mp H
    obtain ⟨⟨t326, t327, t330, t333, t334⟩, A200, H⟩ := H
    replace H : ((job_Do.f t326 t327 t330 t333 t334 2 a0_0 (⟨#[]⟩ : ByteArray) (⟨#[]⟩ : ByteArray) (⟨#[]⟩ : ByteArray) 0 0 a1 0).bind fun bt335 => (if bt335.2.2.2.2.2 = 0 then (culetlaw54_JobCancelled.j1 kj3 a1 a2 (decide ((wrap64 (a0_0 + (wrap64 (a2)))) > 100000)) a0_0 l0_1 l0_2 a0_3 a0_4 bt335.1 bt335.2.1 bt335.2.2.1 bt335.2.2.2.1 bt335.2.2.2.2.1) else (culetlaw54_JobCancelled.j1 kj3 a1 a2 true a0_0 l0_1 l0_2 a0_3 a0_4 bt335.1 bt335.2.1 bt335.2.2.1 bt335.2.2.2.1 bt335.2.2.2.2.1))) = some r := H
    have A20 := Aside0.mk A200
    clear A200
    replace H := Option.bind_eq_some_iff.mp H
    obtain ⟨⟨t335, t336, t339, t342, t343, t344⟩, A210, H⟩ := H
    replace H : (if t344 = 0 then (culetlaw54_JobCancelled.j1 kj3 a1 a2 (decide ((wrap64 (a0_0 + (wrap64 (a2)))) > 100000)) a0_0 l0_1 l0_2 a0_3 a0_4 t335 t336 t339 t342 t343) else (culetlaw54_JobCancelled.j1 kj3 a1 a2 true a0_0 l0_1 l0_2 a0_3 a0_4 t335 t336 t339 t342 t343)) = some r := H
    have A21 := Aside0.mk A210
    clear A210
    have HC22 := Aside0.mk H
    clear H
    try go_wp2
    replace BK322 := Aside0.mk (blk_drew BK322.out)
    replace HB := Aside0.mk (below_drew1 HB.out)
    refine start_ (n := 13) (S := fun w' => w'.cell? ⟨gb322, 0, none⟩ = some (.int .i64 a0_0) ∧ w'.cell? ⟨gb322, 1, none⟩ = some (.slice A0_1 l0_1.length c0_1) ∧ w'.cell? ⟨gb322, 2, none⟩ = some (.slice A0_2 l0_2.length c0_2) ∧ w'.cell? ⟨gb322, 3, none⟩ = some (.int .i64 a0_3) ∧ w'.cell? ⟨gb322, 4, none⟩ = some (.int .i64 a0_4)) (ds := []) q13_0 t_74 rfl rfl (sqc5 BK322.out) (fun hHeld => ?_); refine with_tabW culetlaw54_JobCancelled.tab3 culetlaw54_JobCancelled.bits3 (fun HT_ HW_ => ?_)
    generalize wc.drew = w23 at BK322 HB hHeld ⊢
    refine p_ (i := 2) (N := some 29) q13_4 rfl rfl (any_of HT_.out t_74) ?_
    refine p_ (i := 4) (N := some 31) q13_14 rfl rfl (any_of HT_.out t_74) ?_
    refine k_ (i := 0) (N := some 27) q13_15 rfl rfl (take_ofW HT_.out HW_.out t_74) (Or.inl ⟨rfl, t_55⟩) hHeld ?_
    refine k_ (i := 3) (N := some 30) q13_1d rfl rfl (take_ofW HT_.out HW_.out t_74) (Or.inl ⟨rfl, t_55⟩) hHeld ?_
    refine p_ (i := 5) (N := some 32) q13_3d rfl rfl (any_of HT_.out t_74) ?_
    refine join_ (σ := Value × Value × Value × Value × Nat) 2 q13_7ff (fun s_ => [(28, .agg #[.int .i64 t326, s_.1, s_.2.1, .int .i64 t333, .int .i64 t334]), (33, .tuple #[.agg #[.int .i64 t335, s_.2.2.1, s_.2.2.2.1, .int .i64 t342, .int .i64 t343], .int .i64 t344]), (7, .pointer (some ⟨s_.2.2.2.2, 0, none⟩)), (26, .tuple #[.agg #[.int .i64 t335, s_.2.2.1, s_.2.2.2.1, .int .i64 t342, .int .i64 t343], .int .i64 t344]), (34, .agg #[.int .i64 t335, s_.2.2.1, s_.2.2.2.1, .int .i64 t342, .int .i64 t343]), (35, .int .i64 t344)]) (fun s_ w' => (w'.cell? ⟨gb322, 0, none⟩ = some (.int .i64 a0_0) ∧ w'.cell? ⟨gb322, 1, none⟩ = some (.slice A0_1 l0_1.length c0_1) ∧ w'.cell? ⟨gb322, 2, none⟩ = some (.slice A0_2 l0_2.length c0_2) ∧ w'.cell? ⟨gb322, 3, none⟩ = some (.int .i64 a0_3) ∧ w'.cell? ⟨gb322, 4, none⟩ = some (.int .i64 a0_4)) ∧ (Kd.R k99 99 w' w.heap.size (fun k_ => some k_ ≠ (s_.2.2.1 : Value).ownBlock) s_.1 t327) ∧ (Kd.V k24 24 w' w.heap.size (fun k_ => some k_ ≠ (s_.1 : Value).ownBlock ∧ some k_ ≠ (s_.2.2.1 : Value).ownBlock ∧ some k_ ≠ (s_.2.2.2.1 : Value).ownBlock ∧ k_ ≠ gb322 ∧ k_ ≠ s_.2.2.2.2) s_.2.1 t330) ∧ (Kd.R k99 99 w' w.heap.size (fun k_ => some k_ ≠ (s_.1 : Value).ownBlock) s_.2.2.1 t336) ∧ (Kd.R k24 24 w' w.heap.size (fun _ => True) s_.2.2.2.1 t339) ∧ (w'.heap[gb322]? = some (.cells #[.int .i64 a0_0, .slice A0_1 l0_1.length c0_1, .slice A0_2 l0_2.length c0_2, .int .i64 a0_3, .int .i64 a0_4] 67 (0, 0))) ∧ (w'.heap[s_.2.2.2.2]? = some (.cells #[.int .i64 0, .slice none 0 0, .slice none 0 0, .int .i64 0, .int .i64 0] 77 (0, 0))) ∧ (w.heap.size ≤ s_.2.2.2.2) ∧ (w.heap.size ≤ s_.2.2.2.2) ∧ (gb322 ≠ s_.2.2.2.2) ∧ (s_.2.2.2.2 ≠ gb322) ∧ (Below w.heap.size w w')) ?_ ?_
    rotate_left
    ·intro hCont
     refine two_ (i := 1) (j := 10) (Ni := some 28) (Nj := some 7) q13_3f q13_43d rfl rfl rfl rfl (two_of HT_.out t_74) (by decide) (by decide) (fun K hK => ?_) (fun K hK => ?_)
     ·skip
      refine goes_ Try.func38 t_74 rfl #[.agg #[.int .i64 a0_0, .slice A0_1 l0_1.length c0_1, .slice A0_2 l0_2.length c0_2, .int .i64 a0_3, .int .i64 a0_4]] (by rfl) rfl rfl t_34 ?_
      with_reducible refine (culetlaw54_Own.calls kj3 a0_0 _ _ l0_1 (fun k_ => k_ < w.heap.size) _ _ l0_2 a0_3 a0_4 t326 t327 t330 t333 t334 _ ?side1 ?side2 ?side3 A20.out).mono ?_
      (case side1 => exact cl ((Kd.C_below HR0_1.out HB.out)))
      (case side2 => exact HC0_1.out)
      (case side3 => exact Kd.V_mk HC0_2.out (Kd.F_below (Kd.C_F k24_heap HR0_2.out) t_31))
      rintro e w24 ⟨v328, v331, rfl, ho0, ho1, hb⟩
      refine ⟨_, rfl, ?_⟩
      have HO329 := Aside0.mk (Kd.R_lower (Kd.R_mono (ok' := fun k_ => True) ho0 (fun _ hk_ => trivial)) (below_size t_31))
      have HO332 := Aside0.mk (Kd.V_lower (Kd.V_mono (ok' := fun k_ => some k_ ≠ (v328 : Value).ownBlock ∧ k_ ≠ gb322) ho1 (fun k_ hk_ => ⟨hk_.2, Or.elim hk_.1 (fun hs_ => fun e_ => Nat.not_le.2 hs_ (by rw [e_]; exact GW322.out)) (fun hn_ => (Kd.freshB (g := gb322) (bl BK322.out) k_ hn_))⟩)) (below_size t_31))
      replace BK322 := Aside0.mk (blk_below (g := gb322) (bl BK322.out) hb)
      replace HB := Aside0.mk (below_step t_31 hb)
      (try clear hb)
      (try clear hb2)
      (try clear hk)
      (try clear hi)
      (try clear ho0)
      (try clear ho1)
      obtain ⟨Ao25, co25, eo25⟩ := Kd.R_slice HO329.out
      (first | subst eo25 | (injection eo25 with f1_ f2_ f3_; have f4_ := f1_.symm; have f5_ := f3_.symm; clear f1_ f2_ f3_; subst f4_; subst f5_))
      obtain ⟨Ao26, co26, eo26⟩ := Kd.V_slice HO332.out
      (first | subst eo26 | (injection eo26 with f1_ f2_ f3_; have f4_ := f1_.symm; have f5_ := f3_.symm; clear f1_ f2_ f3_; subst f4_; subst f5_))
      refine hK.out _ _ (sqc5 BK322.out) (fun hHeld => ?_)
      clear hK K
      refine norm_ t_39 ?_
      refine two_ (i := 6) (j := 10) (Ni := some 33) (Nj := some 7) q13_7f q13_43f rfl rfl rfl rfl (two_of HT_.out t_74) (by decide) (by decide) (fun K hK => ?_) (fun K hK => ?_)
      ·skip
       refine goes_ Try.func37 t_74 rfl #[.agg #[.int .i64 t326, .slice Ao25 t327.length co25, .slice Ao26 t330.length co26, .int .i64 t333, .int .i64 t334], .agg #[.int .i64 2, .int .i64 a0_0, .string (⟨#[]⟩ : ByteArray), .string (⟨#[]⟩ : ByteArray), .string (⟨#[]⟩ : ByteArray), .int .i64 0, .int .i64 0, .string a1, .int .i64 0]] (by rfl) rfl rfl t_34 ?_
       with_reducible refine (job_Do.calls t326 _ _ t327 _ _ t330 t333 t334 2 a0_0 (⟨#[]⟩ : ByteArray) (⟨#[]⟩ : ByteArray) (⟨#[]⟩ : ByteArray) 0 0 a1 0 t335 t336 t339 t342 t343 t344 _ ?side1 ?side2 ?side3 ?side4 A21.out).mono ?_
       (case side1 => exact cl ((Kd.R_reads' HO329.out).2.2))
       (case side2 => exact (Kd.R_reads' HO329.out).2.1)
       (case side3 => exact cl ((Kd.V_reads' HO332.out).2.2))
       (case side4 => exact (Kd.V_reads' HO332.out).2.1)
       rintro e w27 ⟨v337, v340, rfl, ho0, ho1, hb⟩
       refine ⟨_, rfl, ?_⟩
       replace HO332 := Aside0.mk (Kd.V_mono (Kd.V_told (Kd.V_told (Kd.V_old (vl HO332.out) hb) (Kd.R_base ho0)) (Kd.R_base ho1)) (fun _ h_ => h_.1))
       have HO338 := Aside0.mk (Kd.R_lower (Kd.R_new' ho0 (Kd.R_lt (rl HO329.out))) (below_size t_31))
       replace HO329 := Aside0.mk (Kd.R_elder' (rl HO329.out) (Kd.R_base ho0) hb)
       have HO341 := Aside0.mk (Kd.R_lower ho1 (below_size t_31))
       replace BK322 := Aside0.mk (blk_below (g := gb322) (bl BK322.out) hb)
       replace HB := Aside0.mk (below_step t_31 hb)
       (try clear hb)
       (try clear ho0)
       (try clear ho1)
       refine hK.out _ _ (sqc5 BK322.out) (fun hHeld => ?_)
       clear hK K
       refine norm_ t_37 ?_
       refine p_ (i := 7) (N := some 26) q13_ff rfl rfl (any_of HT_.out t_74) ?_
       refine p_ (i := 8) (N := some 34) q13_1ff rfl rfl (any_of HT_.out t_74) ?_
       refine p_ (i := 9) (N := some 35) q13_3ff rfl rfl (any_of HT_.out t_74) ?_
       refine one_ (i := 10) (N := some 7) q13_7ff rfl rfl (one_of HT_.out t_74) (by decide) (fun K hK => ?_)
       refine box_step ?hg (N := 7) ?hd (cs := #[.int .i64 0, .slice none 0 0, .slice none 0 0, .int .i64 0, .int .i64 0]) (t := 77) ?hr ?_; (case hd => rfl); (case hg => rfl); (case hr => go_simp; try rfl)
       intro gb345 hg w28 hbox hb
       replace HO329 := Aside0.mk (Kd.R_below (rl HO329.out) hb)
       replace HO332 := Aside0.mk (Kd.V_below (Kd.V_elderB (vl HO332.out) gb345 (Nat.le_of_eq hg.symm)) hb)
       replace HO338 := Aside0.mk (Kd.R_below (rl HO338.out) hb)
       replace HO341 := Aside0.mk (Kd.R_below (rl HO341.out) hb)
       have BK345 := Aside0.mk (hbox)
       have GW345 := Aside0.mk ((by rw [hg]; exact (below_size t_31) : w.heap.size ≤ gb345))
       have GE345 := Aside0.mk ((by rw [hg]; exact (below_size t_31) : w.heap.size ≤ gb345))
       replace HB := Aside0.mk (below_step t_31 hb)
       have NB322_345 := Aside0.mk ((by rw [hg]; exact Nat.ne_of_lt (blk_lt (g := gb322) (bl BK322.out)) : gb322 ≠ gb345))
       have NB345_322 := Aside0.mk ((by rw [hg]; exact Nat.ne_of_gt (blk_lt (g := gb322) (bl BK322.out)) : gb345 ≠ gb322))
       replace BK322 := Aside0.mk (blk_below (g := gb322) (bl BK322.out) hb)
       clear hb hbox hg
       refine hK.out _ _ (sqc5 BK322.out) (fun hHeld => ?_)
       clear hK K
       refine norm_ t_3c ?_
       exact norm_ t_4a (hCont (.slice Ao25 t327.length co25, .slice Ao26 t330.length co26, v337, v340, gb345) _ ⟨hHeld, t_3e, (by (with_reducible repeat (first | apply Kd.V_alloc | apply Kd.V_drewN | apply Kd.V_drew)); exact Kd.V_mono HO332.out (fun _ hk => ⟨hk.1.1.1.1, ⟨hk.1.1.2, ⟨hk.1.2, ⟨hk.1.1.1.2, hk.2⟩⟩⟩⟩)), t_3f, (rl HO341.out), (bl BK322.out), (bl BK345.out), GW345.out, GE345.out, NB322_345.out, NB345_322.out, t_21⟩)
      ·skip
       refine box_step ?hg (N := 7) ?hd (cs := #[.int .i64 0, .slice none 0 0, .slice none 0 0, .int .i64 0, .int .i64 0]) (t := 77) ?hr ?_; (case hd => rfl); (case hg => rfl); (case hr => go_simp; try rfl)
       intro gb345 hg w25 hbox hb
       replace HO329 := Aside0.mk (Kd.R_below (rl HO329.out) hb)
       replace HO332 := Aside0.mk (Kd.V_below (Kd.V_elderB (vl HO332.out) gb345 (Nat.le_of_eq hg.symm)) hb)
       have BK345 := Aside0.mk (hbox)
       have GW345 := Aside0.mk ((by rw [hg]; exact (below_size t_31) : w.heap.size ≤ gb345))
       have GE345 := Aside0.mk ((by rw [hg]; exact (below_size t_31) : w.heap.size ≤ gb345))
       replace HB := Aside0.mk (below_step t_31 hb)
       have NB322_345 := Aside0.mk ((by rw [hg]; exact Nat.ne_of_lt (blk_lt (g := gb322) (bl BK322.out)) : gb322 ≠ gb345))
       have NB345_322 := Aside0.mk ((by rw [hg]; exact Nat.ne_of_gt (blk_lt (g := gb322) (bl BK322.out)) : gb345 ≠ gb322))
       replace BK322 := Aside0.mk (blk_below (g := gb322) (bl BK322.out) hb)
       clear hb hbox hg
       obtain ⟨Ao26, co26, eo26⟩ := Kd.R_slice HO329.out
       (first | subst eo26 | (injection eo26 with f1_ f2_ f3_; have f4_ := f1_.symm; have f5_ := f3_.symm; clear f1_ f2_ f3_; subst f4_; subst f5_))
       obtain ⟨Ao27, co27, eo27⟩ := Kd.V_slice HO332.out
       (first | subst eo27 | (injection eo27 with f1_ f2_ f3_; have f4_ := f1_.symm; have f5_ := f3_.symm; clear f1_ f2_ f3_; subst f4_; subst f5_))
       refine hK.out _ _ (sqc5 BK322.out) (fun hHeld => ?_)
       clear hK K
       refine norm_ t_3c ?_
       refine one_ (i := 6) (N := some 33) q13_47f rfl rfl (one_of HT_.out t_74) (by decide) (fun K hK => ?_)
       refine goes_ Try.func37 t_74 rfl #[.agg #[.int .i64 t326, .slice Ao26 t327.length co26, .slice Ao27 t330.length co27, .int .i64 t333, .int .i64 t334], .agg #[.int .i64 2, .int .i64 a0_0, .string (⟨#[]⟩ : ByteArray), .string (⟨#[]⟩ : ByteArray), .string (⟨#[]⟩ : ByteArray), .int .i64 0, .int .i64 0, .string a1, .int .i64 0]] (by rfl) rfl rfl t_34 ?_
       with_reducible refine (job_Do.calls t326 _ _ t327 _ _ t330 t333 t334 2 a0_0 (⟨#[]⟩ : ByteArray) (⟨#[]⟩ : ByteArray) (⟨#[]⟩ : ByteArray) 0 0 a1 0 t335 t336 t339 t342 t343 t344 _ ?side1 ?side2 ?side3 ?side4 A21.out).mono ?_
       (case side1 => exact cl ((Kd.R_reads' HO329.out).2.2))
       (case side2 => exact (Kd.R_reads' HO329.out).2.1)
       (case side3 => exact cl ((Kd.V_reads' HO332.out).2.2))
       (case side4 => exact (Kd.V_reads' HO332.out).2.1)
       rintro e w28 ⟨v337, v340, rfl, ho0, ho1, hb⟩
       refine ⟨_, rfl, ?_⟩
       replace HO332 := Aside0.mk (Kd.V_mono (Kd.V_told (Kd.V_told (Kd.V_old (vl HO332.out) hb) (Kd.R_base ho0)) (Kd.R_base ho1)) (fun _ h_ => h_.1))
       have HO338 := Aside0.mk (Kd.R_lower (Kd.R_new' ho0 (Kd.R_lt (rl HO329.out))) (below_size t_21))
       replace HO329 := Aside0.mk (Kd.R_elder' (rl HO329.out) (Kd.R_base ho0) hb)
       have HO341 := Aside0.mk (Kd.R_lower ho1 (below_size t_21))
       replace BK322 := Aside0.mk (blk_below (g := gb322) (bl BK322.out) hb)
       replace BK345 := Aside0.mk (blk_below (g := gb345) (bl BK345.out) hb)
       replace HB := Aside0.mk (below_step t_21 hb)
       (try clear hb)
       (try clear hk)
       (try clear ho0)
       (try clear ho1)
       refine hK.out _ _ (sqc5 BK322.out) (fun hHeld => ?_)
       clear hK K
       refine norm_ t_37 ?_
       refine p_ (i := 7) (N := some 26) q13_4ff rfl rfl (any_of HT_.out t_74) ?_
       refine p_ (i := 8) (N := some 34) q13_5ff rfl rfl (any_of HT_.out t_74) ?_
       refine p_ (i := 9) (N := some 35) q13_7ff rfl rfl (any_of HT_.out t_74) ?_
       exact norm_ t_4a (hCont (.slice Ao26 t327.length co26, .slice Ao27 t330.length co27, v337, v340, gb345) _ ⟨hHeld, t_3e, (by (with_reducible repeat (first | apply Kd.V_alloc | apply Kd.V_drewN | apply Kd.V_drew)); exact Kd.V_mono HO332.out (fun _ hk => ⟨hk.1.1.1.1, ⟨hk.1.2, ⟨hk.2, ⟨hk.1.1.1.2, hk.1.1.2⟩⟩⟩⟩)), t_3f, (rl HO341.out), (bl BK322.out), (bl BK345.out), GW345.out, GE345.out, NB322_345.out, NB345_322.out, t_21⟩)
     ·skip
      refine box_step ?hg (N := 7) ?hd (cs := #[.int .i64 0, .slice none 0 0, .slice none 0 0, .int .i64 0, .int .i64 0]) (t := 77) ?hr ?_; (case hd => rfl); (case hg => rfl); (case hr => go_simp; try rfl)
      intro gb345 hg w24 hbox hb
      have BK345 := Aside0.mk (hbox)
      have GW345 := Aside0.mk ((by rw [hg]; exact (below_size t_31) : w.heap.size ≤ gb345))
      have GE345 := Aside0.mk ((by rw [hg]; exact (below_size t_31) : w.heap.size ≤ gb345))
      replace HB := Aside0.mk (below_step t_31 hb)
      have NB322_345 := Aside0.mk ((by rw [hg]; exact Nat.ne_of_lt (blk_lt (g := gb322) (bl BK322.out)) : gb322 ≠ gb345))
      have NB345_322 := Aside0.mk ((by rw [hg]; exact Nat.ne_of_gt (blk_lt (g := gb322) (bl BK322.out)) : gb345 ≠ gb322))
      replace BK322 := Aside0.mk (blk_below (g := gb322) (bl BK322.out) hb)
      clear hb hbox hg
      refine hK.out _ _ (sqc5 BK322.out) (fun hHeld => ?_)
      clear hK K
      refine norm_ t_3c ?_
      refine one_ (i := 1) (N := some 28) q13_43f rfl rfl (one_of HT_.out t_74) (by decide) (fun K hK => ?_)
      refine goes_ Try.func38 t_74 rfl #[.agg #[.int .i64 a0_0, .slice A0_1 l0_1.length c0_1, .slice A0_2 l0_2.length c0_2, .int .i64 a0_3, .int .i64 a0_4]] (by rfl) rfl rfl t_34 ?_
      with_reducible refine (culetlaw54_Own.calls kj3 a0_0 _ _ l0_1 (fun k_ => k_ < w.heap.size) _ _ l0_2 a0_3 a0_4 t326 t327 t330 t333 t334 _ ?side1 ?side2 ?side3 A20.out).mono ?_
      (case side1 => exact cl ((Kd.C_below HR0_1.out HB.out)))
      (case side2 => exact HC0_1.out)
      (case side3 => exact Kd.V_mk HC0_2.out (Kd.F_below (Kd.C_F k24_heap HR0_2.out) t_21))
      rintro e w25 ⟨v328, v331, rfl, ho0, ho1, hb⟩
      refine ⟨_, rfl, ?_⟩
      have HO329 := Aside0.mk (Kd.R_lower (Kd.R_mono (ok' := fun k_ => True) ho0 (fun _ hk_ => trivial)) (below_size t_21))
      have HO332 := Aside0.mk (Kd.V_lower (Kd.V_mono (ok' := fun k_ => some k_ ≠ (v328 : Value).ownBlock ∧ k_ ≠ gb322 ∧ k_ ≠ gb345) ho1 (fun k_ hk_ => ⟨hk_.2, Or.elim hk_.1 (fun hs_ => fun e_ => Nat.not_le.2 hs_ (by rw [e_]; exact GW322.out)) (fun hn_ => (Kd.freshB (g := gb322) (bl BK322.out) k_ hn_)), Or.elim hk_.1 (fun hs_ => fun e_ => Nat.not_le.2 hs_ (by rw [e_]; exact GW345.out)) (fun hn_ => (Kd.freshB (g := gb345) (bl BK345.out) k_ hn_))⟩)) (below_size t_21))
      replace BK322 := Aside0.mk (blk_below (g := gb322) (bl BK322.out) hb)
      replace BK345 := Aside0.mk (blk_below (g := gb345) (bl BK345.out) hb)
      replace HB := Aside0.mk (below_step t_21 hb)
      (try clear hb)
      (try clear hk)
      (try clear ho0)
      (try clear ho1)
      obtain ⟨Ao26, co26, eo26⟩ := Kd.R_slice HO329.out
      (first | subst eo26 | (injection eo26 with f1_ f2_ f3_; have f4_ := f1_.symm; have f5_ := f3_.symm; clear f1_ f2_ f3_; subst f4_; subst f5_))
      obtain ⟨Ao27, co27, eo27⟩ := Kd.V_slice HO332.out
      (first | subst eo27 | (injection eo27 with f1_ f2_ f3_; have f4_ := f1_.symm; have f5_ := f3_.symm; clear f1_ f2_ f3_; subst f4_; subst f5_))
      refine hK.out _ _ (sqc5 BK322.out) (fun hHeld => ?_)
      clear hK K
      refine norm_ t_39 ?_
      refine one_ (i := 6) (N := some 33) q13_47f rfl rfl (one_of HT_.out t_74) (by decide) (fun K hK => ?_)
      refine goes_ Try.func37 t_74 rfl #[.agg #[.int .i64 t326, .slice Ao26 t327.length co26, .slice Ao27 t330.length co27, .int .i64 t333, .int .i64 t334], .agg #[.int .i64 2, .int .i64 a0_0, .string (⟨#[]⟩ : ByteArray), .string (⟨#[]⟩ : ByteArray), .string (⟨#[]⟩ : ByteArray), .int .i64 0, .int .i64 0, .string a1, .int .i64 0]] (by rfl) rfl rfl t_34 ?_
      with_reducible refine (job_Do.calls t326 _ _ t327 _ _ t330 t333 t334 2 a0_0 (⟨#[]⟩ : ByteArray) (⟨#[]⟩ : ByteArray) (⟨#[]⟩ : ByteArray) 0 0 a1 0 t335 t336 t339 t342 t343 t344 _ ?side1 ?side2 ?side3 ?side4 A21.out).mono ?_
      (case side1 => exact cl ((Kd.R_reads' HO329.out).2.2))
      (case side2 => exact (Kd.R_reads' HO329.out).2.1)
      (case side3 => exact cl ((Kd.V_reads' HO332.out).2.2))
      (case side4 => exact (Kd.V_reads' HO332.out).2.1)
      rintro e w28 ⟨v337, v340, rfl, ho0, ho1, hb⟩
      refine ⟨_, rfl, ?_⟩
      replace HO332 := Aside0.mk (Kd.V_mono (Kd.V_told (Kd.V_told (Kd.V_old (vl HO332.out) hb) (Kd.R_base ho0)) (Kd.R_base ho1)) (fun _ h_ => h_.1))
      have HO338 := Aside0.mk (Kd.R_lower (Kd.R_new' ho0 (Kd.R_lt (rl HO329.out))) (below_size t_21))
      replace HO329 := Aside0.mk (Kd.R_elder' (rl HO329.out) (Kd.R_base ho0) hb)
      have HO341 := Aside0.mk (Kd.R_lower ho1 (below_size t_21))
      replace BK322 := Aside0.mk (blk_below (g := gb322) (bl BK322.out) hb)
      replace BK345 := Aside0.mk (blk_below (g := gb345) (bl BK345.out) hb)
      replace HB := Aside0.mk (below_step t_21 hb)
      (try clear hb)
      (try clear hk)
      (try clear ho0)
      (try clear ho1)
      refine hK.out _ _ (sqc5 BK322.out) (fun hHeld => ?_)
      clear hK K
      refine norm_ t_37 ?_
      refine p_ (i := 7) (N := some 26) q13_4ff rfl rfl (any_of HT_.out t_74) ?_
      refine p_ (i := 8) (N := some 34) q13_5ff rfl rfl (any_of HT_.out t_74) ?_
      refine p_ (i := 9) (N := some 35) q13_7ff rfl rfl (any_of HT_.out t_74) ?_
      exact norm_ t_4a (hCont (.slice Ao26 t327.length co26, .slice Ao27 t330.length co27, v337, v340, gb345) _ ⟨hHeld, t_3e, (by (with_reducible repeat (first | apply Kd.V_alloc | apply Kd.V_drewN | apply Kd.V_drew)); exact Kd.V_mono HO332.out (fun _ hk => ⟨hk.1.1.1, ⟨hk.1.2, ⟨hk.2, ⟨hk.1.1.2.1, hk.1.1.2.2⟩⟩⟩⟩)), t_3f, (rl HO341.out), (bl BK322.out), (bl BK345.out), GW345.out, GE345.out, NB322_345.out, NB345_322.out, t_21⟩)
    rintro ⟨v328, v331, v337, v340, gb345⟩ w29 ⟨hS_, h0_, h1_, h2_, h3_, h4_, h5_, h6_, h7_, h8_, h9_, h10_⟩
    have n0_ : Aside0 (Kd.R k99 99 w29 w.heap.size (fun k_ => some k_ ≠ (v337 : Value).ownBlock) v328 t327) := ⟨h0_⟩
    have n1_ : Aside0 (Kd.V k24 24 w29 w.heap.size (fun k_ => some k_ ≠ (v328 : Value).ownBlock ∧ some k_ ≠ (v337 : Value).ownBlock ∧ some k_ ≠ (v340 : Value).ownBlock ∧ k_ ≠ gb322 ∧ k_ ≠ gb345) v331 t330) := ⟨h1_⟩
    have n2_ : Aside0 (Kd.R k99 99 w29 w.heap.size (fun k_ => some k_ ≠ (v328 : Value).ownBlock) v337 t336) := ⟨h2_⟩
    have n3_ : Aside0 (Kd.R k24 24 w29 w.heap.size (fun _ => True) v340 t339) := ⟨h3_⟩
    have n4_ : Aside0 (w29.heap[gb322]? = some (.cells #[.int .i64 a0_0, .slice A0_1 l0_1.length c0_1, .slice A0_2 l0_2.length c0_2, .int .i64 a0_3, .int .i64 a0_4] 67 (0, 0))) := ⟨h4_⟩
    have n5_ : Aside0 (w29.heap[gb345]? = some (.cells #[.int .i64 0, .slice none 0 0, .slice none 0 0, .int .i64 0, .int .i64 0] 77 (0, 0))) := ⟨h5_⟩
    have n6_ : Aside0 (w.heap.size ≤ gb345) := ⟨h6_⟩
    have n7_ : Aside0 (w.heap.size ≤ gb345) := ⟨h7_⟩
    have n8_ : Aside0 (gb322 ≠ gb345) := ⟨h8_⟩
    have n9_ : Aside0 (gb345 ≠ gb322) := ⟨h9_⟩
    have n10_ : Aside0 (Below w.heap.size w w29) := ⟨h10_⟩
    clear BK322
    clear HB
    clear h0_ h1_ h2_ h3_ h4_ h5_ h6_ h7_ h8_ h9_ h10_
    have HO329 := n0_
    have HO332 := n1_
    have HO338 := n2_
    have HO341 := n3_
    have BK322 := n4_
    have BK345 := n5_
    have GW345 := n6_
    have GE345 := n7_
    have NB322_345 := n8_
    have NB345_322 := n9_
    have HB := n10_
    clear n0_ n1_ n2_ n3_ n4_ n5_ n6_ n7_ n8_ n9_ n10_
    have hHeld : w29.cell? ⟨gb322, 0, none⟩ = some (.int .i64 a0_0) ∧ w29.cell? ⟨gb322, 1, none⟩ = some (.slice A0_1 l0_1.length c0_1) ∧ w29.cell? ⟨gb322, 2, none⟩ = some (.slice A0_2 l0_2.length c0_2) ∧ w29.cell? ⟨gb322, 3, none⟩ = some (.int .i64 a0_3) ∧ w29.cell? ⟨gb322, 4, none⟩ = some (.int .i64 a0_4) := hS_
    obtain ⟨Ao31, co31, eo31⟩ := Kd.R_slice HO338.out
    (first | subst eo31 | (injection eo31 with f1_ f2_ f3_; have f4_ := f1_.symm; have f5_ := f3_.symm; clear f1_ f2_ f3_; subst f4_; subst f5_))
    obtain ⟨Ao33, co33, eo33⟩ := Kd.R_slice HO341.out
    (first | subst eo33 | (injection eo33 with f1_ f2_ f3_; have f4_ := f1_.symm; have f5_ := f3_.symm; clear f1_ f2_ f3_; subst f4_; subst f5_))
    refine norm_ (a' := ?_) ?_ ?_
    rotate_left
    ·simp only [putAll, Act.put, List.setIfInBounds_toArray, List.set_cons_zero, List.set_cons_succ]
     rfl
    refine one_ (i := 11) (N := none) q13_fff rfl rfl (one_of HT_.out t_74) (by decide) (fun K hK => ?_)
    have hs30 : w29.cell? ⟨gb345, 0, none⟩ = some (.int .i64 0) := (blk_cell BK345.out 0).trans rfl
    have hfs30 := blk_frozen BK345.out 0
    have hns30_0 := NB322_345.out
    have hms30_0 := NB345_322.out
    have hs32 : w29.cell? ⟨gb345, 1, none⟩ = some (.slice none 0 0) := (blk_cell BK345.out 1).trans rfl
    have hfs32 := blk_frozen BK345.out 1
    have hns32_0 := NB322_345.out
    have hms32_0 := NB345_322.out
    have hs34 : w29.cell? ⟨gb345, 2, none⟩ = some (.slice none 0 0) := (blk_cell BK345.out 2).trans rfl
    have hfs34 := blk_frozen BK345.out 2
    have hns34_0 := NB322_345.out
    have hms34_0 := NB345_322.out
    have hs35 : w29.cell? ⟨gb345, 3, none⟩ = some (.int .i64 0) := (blk_cell BK345.out 3).trans rfl
    have hfs35 := blk_frozen BK345.out 3
    have hns35_0 := NB322_345.out
    have hms35_0 := NB345_322.out
    have hs36 : w29.cell? ⟨gb345, 4, none⟩ = some (.int .i64 0) := (blk_cell BK345.out 4).trans rfl
    have hfs36 := blk_frozen BK345.out 4
    have hns36_0 := NB322_345.out
    have hms36_0 := NB345_322.out
    refine skip_ (w1 := ?_) (by rfl) rfl ?_ ?_
    rotate_left
    ·go_simp
     rfl
    refine hK.out _ _ ⟨((cell_far (p := ⟨gb345, _, none⟩) NB322_345.out _).trans (((cell_far (p := ⟨gb345, _, none⟩) NB322_345.out _).trans (((cell_far (p := ⟨gb345, _, none⟩) NB322_345.out _).trans (((cell_far (p := ⟨gb345, _, none⟩) NB322_345.out _).trans (((cell_far (p := ⟨gb345, _, none⟩) NB322_345.out _).trans (hHeld.1)))))))))), ((cell_far (p := ⟨gb345, _, none⟩) NB322_345.out _).trans (((cell_far (p := ⟨gb345, _, none⟩) NB322_345.out _).trans (((cell_far (p := ⟨gb345, _, none⟩) NB322_345.out _).trans (((cell_far (p := ⟨gb345, _, none⟩) NB322_345.out _).trans (((cell_far (p := ⟨gb345, _, none⟩) NB322_345.out _).trans (hHeld.2.1)))))))))), ((cell_far (p := ⟨gb345, _, none⟩) NB322_345.out _).trans (((cell_far (p := ⟨gb345, _, none⟩) NB322_345.out _).trans (((cell_far (p := ⟨gb345, _, none⟩) NB322_345.out _).trans (((cell_far (p := ⟨gb345, _, none⟩) NB322_345.out _).trans (((cell_far (p := ⟨gb345, _, none⟩) NB322_345.out _).trans (hHeld.2.2.1)))))))))), ((cell_far (p := ⟨gb345, _, none⟩) NB322_345.out _).trans (((cell_far (p := ⟨gb345, _, none⟩) NB322_345.out _).trans (((cell_far (p := ⟨gb345, _, none⟩) NB322_345.out _).trans (((cell_far (p := ⟨gb345, _, none⟩) NB322_345.out _).trans (((cell_far (p := ⟨gb345, _, none⟩) NB322_345.out _).trans (hHeld.2.2.2.1)))))))))), ((cell_far (p := ⟨gb345, _, none⟩) NB322_345.out _).trans (((cell_far (p := ⟨gb345, _, none⟩) NB322_345.out _).trans (((cell_far (p := ⟨gb345, _, none⟩) NB322_345.out _).trans (((cell_far (p := ⟨gb345, _, none⟩) NB322_345.out _).trans (((cell_far (p := ⟨gb345, _, none⟩) NB322_345.out _).trans (hHeld.2.2.2.2))))))))))⟩ (fun hHeld => ?_)
    clear hK K
    refine p_ (i := 12) (N := some 8) q13_1fff rfl rfl (any_of HT_.out t_74) ?_
    refine done_ (done_of HT_.out t_74) ?_
    go_upto_region 4 with (fail)
    go_cut [45] (fun v45 wc => ∃ (kq : Nat) (x45_21 : Bool), v45 = .bool x45_21 ∧ Aside0 (culetlaw54_JobCancelled.j1 kq a1 a2 x45_21 a0_0 l0_1 l0_2 a0_3 a0_4 t335 t336 t339 t342 t343 = some r) ∧ Aside0 (kq ≤ kj3) ∧ Aside0 (Kd.R k99 99 wc w.heap.size (fun _ => True) (.slice Ao31 t336.length co31) t336) ∧ Aside0 (Kd.R k24 24 wc w.heap.size (fun _ => True) (.slice Ao33 t339.length co33) t339) ∧ Aside0 (wc.heap[gb322]? = some (.cells #[.int .i64 a0_0, (.slice A0_1 l0_1.length c0_1), (.slice A0_2 l0_2.length c0_2), .int .i64 a0_3, .int .i64 a0_4] 67 (0, 0))) ∧ Aside0 (wc.heap[gb345]? = some (.cells #[.int .i64 t335, (.slice Ao31 t336.length co31), (.slice Ao33 t339.length co33), .int .i64 t342, .int .i64 t343] 77 (0, 0))) ∧ Aside0 (Below w.heap.size w wc))
    case first =>
     have H := HC22.out
     clear HC22
     by_cases c37 : t344 = 0
     ·rw [if_pos c37] at H
      have c37b0 : (t344 == 0) = true := beq_iff_eq.mpr c37
      have c37b1 : (t344 != 0) = false := bne_eq_false_iff_eq.mpr c37
      clear c37
      (first | rw [c37b0] | (simp only [i64_w, i32_w]; rw [c37b0]) | skip)
      have H' := Aside0.mk H
      clear H
      have hnb38 := NB322_345.out
      have hnc38 := NB345_322.out
      obtain ⟨hcz39_0, hcz39_1, hcz39_2, hcz39_3, hcz39_4⟩ := cz5 BK322.out
      obtain ⟨hfz39_0, hfz39_1, hfz39_2, hfz39_3, hfz39_4⟩ := fz5 BK322.out
      go_wp2
      go_meet
      case rel => exact ⟨_, (decide ((wrap64 (a0_0 + (wrap64 (a2)))) > 100000)), t_63, H', ⟨by have := HJ3.out; first | omega | exact Nat.le_refl _⟩, ⟨t_c⟩, ⟨t_d⟩, ⟨t_9⟩, ⟨t_18⟩, ⟨t_21⟩⟩
     ·rw [if_neg c37] at H
      have c37b0 : (t344 == 0) = false := beq_eq_false_iff_ne.mpr c37
      have c37b1 : (t344 != 0) = true := bne_iff_ne.mpr c37
      (first | rw [c37b0] | (simp only [i64_w, i32_w]; rw [c37b0]) | skip)
      have H' := Aside0.mk H
      clear H
      go_wp2
      go_meet
      case rel => exact ⟨_, (true), t_63, H', ⟨by have := HJ3.out; first | omega | exact Nat.le_refl _⟩, ⟨t_c⟩, ⟨t_d⟩, ⟨t_9⟩, ⟨t_18⟩, ⟨t_21⟩⟩
    case rest =>
     clear HC22
     try clear c1
     try clear p2
     try clear c3
     try clear p6
     try clear c17
     try clear c34
     try clear c37
     try clear c37b0
     try clear c37b1
     try clear c38
     try clear hcz14_0 hcz14_1 hcz14_2 hcz14_3 hcz14_4
     try clear hcz39_0 hcz39_1 hcz39_2 hcz39_3 hcz39_4
     try clear hfz11_0 hfz11_1 hfz11_2 hfz11_3 hfz11_4
     try clear hfz14_0 hfz14_1 hfz14_2 hfz14_3 hfz14_4
     try clear hfz39_0 hfz39_1 hfz39_2 hfz39_3 hfz39_4
     obtain ⟨kq, x45_21, rfl, HA, HJ21, HO_346001, HO_346002, BK322, BK345, HB⟩ := hcut
     cases kq with
     | zero => exact absurd HA.out (by simp [culetlaw54_JobCancelled.j1])
     | succ kj21 =>
      have H := HA.out
      clear HA
      simp only [culetlaw54_JobCancelled.j1] at H
      by_cases c40 : x45_21 = true
      ·subst c40
       have H1 : (some true) = some r := by rw [if_pos rfl] at H; exact H
       clear H
       have H := H1
       clear H1
       obtain rfl := Option.some.inj H
       go_wp2
       go_ret
       exact ⟨t_4b, t_21⟩
      ·replace c40 := Bool.eq_false_iff.mpr c40
       subst c40
       have H1 : ((job_Do.f t335 t336 t339 t342 t343 5 (wrap64 (a0_0 + (wrap64 (a2)))) (⟨#[]⟩ : ByteArray) (⟨#[]⟩ : ByteArray) (⟨#[]⟩ : ByteArray) 0 0 a1 0).bind fun bt346 => ((job_Find.f bt346.1 bt346.2.1 bt346.2.2.1 bt346.2.2.2.1 bt346.2.2.2.2.1 a1).bind fun bt357 => (if bt346.2.2.2.2.2 = 0 then (if bt357.2.2.2.2.2.2.2.2.2.2.2.2.2 = true then (if bt357.2.2.2.2.2.1 = 5 then ((culetref53_Same.f kj21 bt346.2.2.1 l0_2).bind fun t372 => (if t372 = true then (if bt346.2.2.2.1 = a0_3 then (some (bt346.2.2.2.2.1 == a0_4)) else (some false)) else (some false))) else (some false)) else (some false)) else (some false)))) = some r := by rw [if_neg (show ¬ (false = true) by decide)] at H; exact H
       clear H
       have H := H1
       clear H1
       replace H := Option.bind_eq_some_iff.mp H
       obtain ⟨⟨t346, t347, t350, t353, t354, t355⟩, A410, H⟩ := H
       replace H : ((job_Find.f t346 t347 t350 t353 t354 a1).bind fun bt357 => (if t355 = 0 then (if bt357.2.2.2.2.2.2.2.2.2.2.2.2.2 = true then (if bt357.2.2.2.2.2.1 = 5 then ((culetref53_Same.f kj21 t350 l0_2).bind fun t372 => (if t372 = true then (if t353 = a0_3 then (some (t354 == a0_4)) else (some false)) else (some false))) else (some false)) else (some false)) else (some false))) = some r := H
       have A41 := Aside0.mk A410
       clear A410
       replace H := Option.bind_eq_some_iff.mp H
       obtain ⟨⟨t357, t358, t359, t360, t361, t362, t363, t364, t365, t366, t367, t368, t369, t370⟩, A420, H⟩ := H
       replace H : (if t355 = 0 then (if t370 = true then (if t362 = 5 then ((culetref53_Same.f kj21 t350 l0_2).bind fun t372 => (if t372 = true then (if t353 = a0_3 then (some (t354 == a0_4)) else (some false)) else (some false))) else (some false)) else (some false)) else (some false)) = some r := H
       have A42 := Aside0.mk A420
       clear A420
       by_cases c43 : t355 = 0
       ·rw [if_pos c43] at H
        have c43b0 : (t355 == 0) = true := beq_iff_eq.mpr c43
        have c43b1 : (t355 != 0) = false := bne_eq_false_iff_eq.mpr c43
        clear c43
        by_cases c44 : t370 = true
        ·subst c44
         have H1 : (if t362 = 5 then ((culetref53_Same.f kj21 t350 l0_2).bind fun t372 => (if t372 = true then (if t353 = a0_3 then (some (t354 == a0_4)) else (some false)) else (some false))) else (some false)) = some r := by rw [if_pos rfl] at H; exact H
         clear H
         have H := H1
         clear H1
         by_cases c45 : t362 = 5
         ·rw [if_pos c45] at H
          have c45b0 : (t362 == 5) = true := beq_iff_eq.mpr c45
          have c45b1 : (t362 != 5) = false := bne_eq_false_iff_eq.mpr c45
          clear c45
          replace H := Option.bind_eq_some_iff.mp H
          obtain ⟨t372, A460, H⟩ := H
          replace H : (if t372 = true then (if t353 = a0_3 then (some (t354 == a0_4)) else (some false)) else (some false)) = some r := H
          have A46 := Aside0.mk A460
          clear A460
          by_cases c47 : t372 = true
          ·subst c47
           have H1 : (if t353 = a0_3 then (some (t354 == a0_4)) else (some false)) = some r := by rw [if_pos rfl] at H; exact H
           clear H
           have H := H1
           clear H1
           by_cases c48 : t353 = a0_3
           ·rw [if_pos c48] at H
            have c48b0 : (t353 == a0_3) = true := beq_iff_eq.mpr c48
            have c48b1 : (t353 != a0_3) = false := bne_eq_false_iff_eq.mpr c48
            clear c48
            obtain rfl := Option.some.inj H
            have hnb49 := NB345_322.out
            have hnc49 := NB322_345.out
            obtain ⟨hcz50_0, hcz50_1, hcz50_2, hcz50_3, hcz50_4⟩ := cz5 BK345.out
            obtain ⟨hfz50_0, hfz50_1, hfz50_2, hfz50_3, hfz50_4⟩ := fz5 BK345.out
            obtain ⟨hcz51_0, hcz51_1, hcz51_2, hcz51_3, hcz51_4⟩ := cz5 BK322.out
            obtain ⟨hfz51_0, hfz51_1, hfz51_2, hfz51_3, hfz51_4⟩ := fz5 BK322.out
            go_wp2_with (first | ((with_reducible refine gate_callee (f := 37) rfl ?_); refine goesL_ (some 55) rfl rfl Try.func37 t_74 rfl #[.agg #[.int .i64 t335, .slice Ao31 t336.length co31, .slice Ao33 t339.length co33, .int .i64 t342, .int .i64 t343], .agg #[.int .i64 5, .int .i64 (wrap64 (a0_0 + (wrap64 (a2)))), .string (⟨#[]⟩ : ByteArray), .string (⟨#[]⟩ : ByteArray), .string (⟨#[]⟩ : ByteArray), .int .i64 0, .int .i64 0, .string a1, .int .i64 0]] rfl t_34 ?_; (with_reducible refine (job_Do.calls t335 _ _ t336 _ _ t339 t342 t343 5 (wrap64 (a0_0 + (wrap64 (a2)))) (⟨#[]⟩ : ByteArray) (⟨#[]⟩ : ByteArray) (⟨#[]⟩ : ByteArray) 0 0 a1 0 t346 t347 t350 t353 t354 t355 _ ?side1 ?side2 ?side3 ?side4 A41.out).mono ?_); (case side1 => exact cl ((Kd.R_reads' HO_346001.out).2.2)); (case side2 => exact (Kd.R_reads' HO_346001.out).2.1); (case side3 => exact cl ((Kd.R_reads' HO_346002.out).2.2)); (case side4 => exact (Kd.R_reads' HO_346002.out).2.1); rintro e w52 ⟨v348, v351, rfl, ho0, ho1, hb⟩; refine ⟨_, rfl, ?_⟩; have HO349 := Aside0.mk (Kd.R_lower (Kd.R_new' ho0 (Kd.R_lt (rl HO_346001.out))) (below_size t_21)); replace HO_346001 := Aside0.mk (Kd.R_elder' (rl HO_346001.out) (Kd.R_base ho0) hb); have HO352 := Aside0.mk (Kd.R_lower (Kd.R_new' ho1 (Kd.R_lt (rl HO_346002.out))) (below_size t_21)); replace HO_346002 := Aside0.mk (Kd.R_elder' (rl HO_346002.out) (Kd.R_base ho1) hb); replace BK322 := Aside0.mk (blk_below (g := gb322) (bl BK322.out) hb); replace BK345 := Aside0.mk (blk_below (g := gb345) (bl BK345.out) hb); replace HB := Aside0.mk (below_step t_21 hb); (try clear hb); (try clear hb2); (try clear hk); (try clear hi); (try clear ho0); (try clear ho1)) | ((with_reducible refine gate_dst (N := 9) rfl ?_); (try (refine gate_guard (by rfl) ?_; dsimp only)); refine bx_ (N := 9) (cs := #[.int .i64 0, .slice none 0 0, .slice none 0 0, .int .i64 0, .int .i64 0]) (t := 77) ?_; intro gb356 hg w53 hbox hb; replace HO_346001 := Aside0.mk (Kd.R_below (rl HO_346001.out) hb); replace HO_346002 := Aside0.mk (Kd.R_below (rl HO_346002.out) hb); replace HO349 := Aside0.mk (Kd.R_below (rl HO349.out) hb); replace HO352 := Aside0.mk (Kd.R_below (rl HO352.out) hb); have BK356 := Aside0.mk (hbox); have GW356 := Aside0.mk ((by rw [hg]; exact (below_size t_21) : w.heap.size ≤ gb356)); have GE356 := Aside0.mk ((by rw [hg]; exact (below_size t_21) : w.heap.size ≤ gb356)); replace HB := Aside0.mk (below_step t_21 hb); have NB322_356 := Aside0.mk ((by rw [hg]; exact Nat.ne_of_lt (blk_lt (g := gb322) (bl BK322.out)) : gb322 ≠ gb356)); have NB356_322 := Aside0.mk ((by rw [hg]; exact Nat.ne_of_gt (blk_lt (g := gb322) (bl BK322.out)) : gb356 ≠ gb322)); replace BK322 := Aside0.mk (blk_below (g := gb322) (bl BK322.out) hb); have NB345_356 := Aside0.mk ((by rw [hg]; exact Nat.ne_of_lt (blk_lt (g := gb345) (bl BK345.out)) : gb345 ≠ gb356)); have NB356_345 := Aside0.mk ((by rw [hg]; exact Nat.ne_of_gt (blk_lt (g := gb345) (bl BK345.out)) : gb356 ≠ gb345)); replace BK345 := Aside0.mk (blk_below (g := gb345) (bl BK345.out) hb); clear hb hbox hg; have hnb54 := NB356_322.out; have hnc54 := NB322_356.out; have hnb55 := NB356_345.out; have hnc55 := NB345_356.out; obtain ⟨hcz56_0, hcz56_1, hcz56_2, hcz56_3, hcz56_4⟩ := sqc5 BK356.out; obtain ⟨hfz56_0, hfz56_1, hfz56_2, hfz56_3, hfz56_4⟩ := frozen5 BK356.out; obtain ⟨Ao57, co57, eo57⟩ := Kd.R_slice HO349.out; subst eo57; obtain ⟨Ao58, co58, eo58⟩ := Kd.R_slice HO352.out; subst eo58) | ((with_reducible refine gate_callee (f := 49) rfl ?_); refine goesL_ (some 61) rfl rfl Try.func49 t_74 rfl #[.agg #[.int .i64 t346, .slice Ao57 t347.length co57, .slice Ao58 t350.length co58, .int .i64 t353, .int .i64 t354], .string a1] rfl t_34 ?_; (with_reducible refine (job_Find.calls t346 _ _ t347 _ _ t350 t353 t354 a1 t357 t358 t359 t360 t361 t362 t363 t364 t365 t366 t367 t368 t369 true _ ?side1 ?side2 ?side3 ?side4 A42.out).mono ?_); (case side1 => refine (Kd.R_reads' (e := 99) (base := w.heap.size) (ok := fun k_ => (True ∧ some k_ ≠ (.slice Ao31 t336.length co31 : Value).ownBlock)) (n := t347.length) (c := co57) ?_).2.2; exact t_10); (case side2 => exact (Kd.R_reads' HO349.out).2.1); (case side3 => refine (Kd.R_reads' (e := 24) (base := w.heap.size) (ok := fun k_ => (True ∧ some k_ ≠ (.slice Ao33 t339.length co33 : Value).ownBlock)) (n := t350.length) (c := co58) ?_).2.2; exact t_11); (case side4 => exact (Kd.R_reads' HO352.out).2.1); rintro e w59 ⟨rfl, hb⟩; refine ⟨_, rfl, ?_⟩; replace HO_346001 := Aside0.mk (Kd.R_below (by (with_reducible repeat (first | apply Kd.R_alloc | apply Kd.R_drewN | apply Kd.R_drew)); exact (Kd.R_mono (Kd.R_far (p := ⟨gb356, 4, none⟩) (Kd.R_far (p := ⟨gb356, 3, none⟩) (Kd.R_far (p := ⟨gb356, 2, none⟩) (Kd.R_far (p := ⟨gb356, 1, none⟩) (Kd.R_far (p := ⟨gb356, 0, none⟩) (Kd.R_types HO_346001.out BK356.out (by decide)) (fun _ hk => hk.2) (.int .i64 t346)) (fun _ hk => hk.2) (.slice Ao57 t347.length co57)) (fun _ hk => hk.2) (.slice Ao58 t350.length co58)) (fun _ hk => hk.2) (.int .i64 t353)) (fun _ hk => hk.2) (.int .i64 t354)) (fun _ h_ => h_.1))) hb); replace HO_346002 := Aside0.mk (Kd.R_below (by (with_reducible repeat (first | apply Kd.R_alloc | apply Kd.R_drewN | apply Kd.R_drew)); exact (Kd.R_mono (Kd.R_far (p := ⟨gb356, 4, none⟩) (Kd.R_far (p := ⟨gb356, 3, none⟩) (Kd.R_far (p := ⟨gb356, 2, none⟩) (Kd.R_far (p := ⟨gb356, 1, none⟩) (Kd.R_far (p := ⟨gb356, 0, none⟩) (Kd.R_types HO_346002.out BK356.out (by decide)) (fun _ hk => hk.2) (.int .i64 t346)) (fun _ hk => hk.2) (.slice Ao57 t347.length co57)) (fun _ hk => hk.2) (.slice Ao58 t350.length co58)) (fun _ hk => hk.2) (.int .i64 t353)) (fun _ hk => hk.2) (.int .i64 t354)) (fun _ h_ => h_.1))) hb); replace HO349 := Aside0.mk (Kd.R_below t_10 hb); replace HO352 := Aside0.mk (Kd.R_below t_11 hb); replace BK322 := Aside0.mk (blk_below (g := gb322) (o := .cells #[.int .i64 a0_0, .slice A0_1 l0_1.length c0_1, .slice A0_2 l0_2.length c0_2, .int .i64 a0_3, .int .i64 a0_4] 67 (0, 0)) (by (with_reducible repeat (first | refine blk_drewN ?_ _ | refine blk_drew ?_ | refine blk_alloc ?_ _)); refine blk_far ?_ NB322_356.out _; (with_reducible repeat (first | refine blk_drewN ?_ _ | refine blk_drew ?_ | refine blk_alloc ?_ _)); refine blk_far ?_ NB322_356.out _; (with_reducible repeat (first | refine blk_drewN ?_ _ | refine blk_drew ?_ | refine blk_alloc ?_ _)); refine blk_far ?_ NB322_356.out _; (with_reducible repeat (first | refine blk_drewN ?_ _ | refine blk_drew ?_ | refine blk_alloc ?_ _)); refine blk_far ?_ NB322_356.out _; (with_reducible repeat (first | refine blk_drewN ?_ _ | refine blk_drew ?_ | refine blk_alloc ?_ _)); refine blk_far ?_ NB322_356.out _; (with_reducible repeat (first | refine blk_drewN ?_ _ | refine blk_drew ?_ | refine blk_alloc ?_ _)); exact BK322.out) hb); replace BK345 := Aside0.mk (blk_below (g := gb345) (o := .cells #[.int .i64 t335, .slice Ao31 t336.length co31, .slice Ao33 t339.length co33, .int .i64 t342, .int .i64 t343] 77 (0, 0)) (by (with_reducible repeat (first | refine blk_drewN ?_ _ | refine blk_drew ?_ | refine blk_alloc ?_ _)); refine blk_far ?_ NB345_356.out _; (with_reducible repeat (first | refine blk_drewN ?_ _ | refine blk_drew ?_ | refine blk_alloc ?_ _)); refine blk_far ?_ NB345_356.out _; (with_reducible repeat (first | refine blk_drewN ?_ _ | refine blk_drew ?_ | refine blk_alloc ?_ _)); refine blk_far ?_ NB345_356.out _; (with_reducible repeat (first | refine blk_drewN ?_ _ | refine blk_drew ?_ | refine blk_alloc ?_ _)); refine blk_far ?_ NB345_356.out _; (with_reducible repeat (first | refine blk_drewN ?_ _ | refine blk_drew ?_ | refine blk_alloc ?_ _)); refine blk_far ?_ NB345_356.out _; (with_reducible repeat (first | refine blk_drewN ?_ _ | refine blk_drew ?_ | refine blk_alloc ?_ _)); exact BK345.out) hb); replace BK356 := Aside0.mk (blk_below (g := gb356) (o := .cells #[.int .i64 t346, .slice Ao57 t347.length co57, .slice Ao58 t350.length co58, .int .i64 t353, .int .i64 t354] 77 (0, 0)) (by (with_reducible repeat (first | refine blk_drewN ?_ _ | refine blk_drew ?_ | refine blk_alloc ?_ _)); apply put5; (with_reducible repeat (first | refine blk_drewN ?_ _ | refine blk_drew ?_ | refine blk_alloc ?_ _)); exact BK356.out) hb); replace HB := Aside0.mk (below_step t_1a hb); (try clear hb); (try clear hb2); (try clear hk); (try clear hi)) | ((with_reducible refine gate_dst (N := 11) rfl ?_); (try (refine gate_guard (by rfl) ?_; dsimp only)); refine bx_ (N := 11) (cs := #[.string (⟨#[]⟩ : ByteArray), .string (⟨#[]⟩ : ByteArray), .string (⟨#[]⟩ : ByteArray), .int .i64 0, .int .i64 0, .int .i64 0, .int .i64 0, .int .i64 0, .int .i64 0, .string (⟨#[]⟩ : ByteArray), .string (⟨#[]⟩ : ByteArray), .int .i64 0, .int .i64 0]) (t := 99) ?_; intro gb371 hg w60 hbox hb; replace HO_346001 := Aside0.mk (Kd.R_below (Kd.R_elderB (rl HO_346001.out) gb371 (Nat.le_of_eq hg.symm)) hb); replace HO_346002 := Aside0.mk (Kd.R_below (rl HO_346002.out) hb); replace HO349 := Aside0.mk (Kd.R_below (Kd.R_elderB (rl HO349.out) gb371 (Nat.le_of_eq hg.symm)) hb); replace HO352 := Aside0.mk (Kd.R_below (rl HO352.out) hb); have BK371 := Aside0.mk (hbox); have GW371 := Aside0.mk ((by rw [hg]; exact (below_size t_1a) : w.heap.size ≤ gb371)); have GE371 := Aside0.mk ((by rw [hg]; exact (below_size t_1a) : w.heap.size ≤ gb371)); replace HB := Aside0.mk (below_step t_1a hb); have NB322_371 := Aside0.mk ((by rw [hg]; exact Nat.ne_of_lt (blk_lt (g := gb322) (bl BK322.out)) : gb322 ≠ gb371)); have NB371_322 := Aside0.mk ((by rw [hg]; exact Nat.ne_of_gt (blk_lt (g := gb322) (bl BK322.out)) : gb371 ≠ gb322)); replace BK322 := Aside0.mk (blk_below (g := gb322) (bl BK322.out) hb); have NB345_371 := Aside0.mk ((by rw [hg]; exact Nat.ne_of_lt (blk_lt (g := gb345) (bl BK345.out)) : gb345 ≠ gb371)); have NB371_345 := Aside0.mk ((by rw [hg]; exact Nat.ne_of_gt (blk_lt (g := gb345) (bl BK345.out)) : gb371 ≠ gb345)); replace BK345 := Aside0.mk (blk_below (g := gb345) (bl BK345.out) hb); have NB356_371 := Aside0.mk ((by rw [hg]; exact Nat.ne_of_lt (blk_lt (g := gb356) (bl BK356.out)) : gb356 ≠ gb371)); have NB371_356 := Aside0.mk ((by rw [hg]; exact Nat.ne_of_gt (blk_lt (g := gb356) (bl BK356.out)) : gb371 ≠ gb356)); replace BK356 := Aside0.mk (blk_below (g := gb356) (bl BK356.out) hb); clear hb hbox hg; have hnb61 := NB371_322.out; have hnc61 := NB322_371.out; have hnb62 := NB371_345.out; have hnc62 := NB345_371.out; have hnb63 := NB371_356.out; have hnc63 := NB356_371.out; obtain ⟨hcz64_0, hcz64_1, hcz64_2, hcz64_3, hcz64_4, hcz64_5, hcz64_6, hcz64_7, hcz64_8, hcz64_9, hcz64_10, hcz64_11, hcz64_12⟩ := sqc13 BK371.out; obtain ⟨hfz64_0, hfz64_1, hfz64_2, hfz64_3, hfz64_4, hfz64_5, hfz64_6, hfz64_7, hfz64_8, hfz64_9, hfz64_10, hfz64_11, hfz64_12⟩ := frozen13 BK371.out; obtain ⟨hcz65_0, hcz65_1, hcz65_2, hcz65_3, hcz65_4⟩ := sqc5 BK356.out; obtain ⟨hfz65_0, hfz65_1, hfz65_2, hfz65_3, hfz65_4⟩ := frozen5 BK356.out; obtain ⟨hcz66_0, hcz66_1, hcz66_2, hcz66_3, hcz66_4⟩ := sqc5 BK322.out; obtain ⟨hfz66_0, hfz66_1, hfz66_2, hfz66_3, hfz66_4⟩ := frozen5 BK322.out) | (go_at_call 20; (with_reducible refine (culetref53_Same.calls kj21 _ _ t350 _ _ l0_2 true _ ?side1 ?side2 ?side3 ?side4 A46.out).mono ?_); (case side1 => refine (Kd.R_reads' (e := 24) (base := w.heap.size) (ok := fun k_ => (True ∧ some k_ ≠ (.slice Ao33 t339.length co33 : Value).ownBlock)) (n := t350.length) (c := co58) ?_).2.2; exact (by (with_reducible repeat (first | apply Kd.R_alloc | apply Kd.R_drewN | apply Kd.R_drew)); exact (Kd.R_mono (Kd.R_far (p := ⟨gb371, 12, none⟩) (Kd.R_far (p := ⟨gb371, 11, none⟩) (Kd.R_far (p := ⟨gb371, 10, none⟩) (Kd.R_far (p := ⟨gb371, 9, none⟩) (Kd.R_far (p := ⟨gb371, 8, none⟩) (Kd.R_far (p := ⟨gb371, 7, none⟩) (Kd.R_far (p := ⟨gb371, 6, none⟩) (Kd.R_far (p := ⟨gb371, 5, none⟩) (Kd.R_far (p := ⟨gb371, 4, none⟩) (Kd.R_far (p := ⟨gb371, 3, none⟩) (Kd.R_far (p := ⟨gb371, 2, none⟩) (Kd.R_far (p := ⟨gb371, 1, none⟩) (Kd.R_far (p := ⟨gb371, 0, none⟩) (Kd.R_types HO352.out BK371.out (by decide)) (fun _ hk => hk.2) (.string t357)) (fun _ hk => hk.2) (.string t358)) (fun _ hk => hk.2) (.string t359)) (fun _ hk => hk.2) (.int .i64 t360)) (fun _ hk => hk.2) (.int .i64 t361)) (fun _ hk => hk.2) (.int .i64 t362)) (fun _ hk => hk.2) (.int .i64 t363)) (fun _ hk => hk.2) (.int .i64 t364)) (fun _ hk => hk.2) (.int .i64 t365)) (fun _ hk => hk.2) (.string t366)) (fun _ hk => hk.2) (.string t367)) (fun _ hk => hk.2) (.int .i64 t368)) (fun _ hk => hk.2) (.int .i64 t369)) (fun _ h_ => h_.1)))); (case side2 => exact (Kd.R_reads' HO352.out).2.1); (case side3 => exact Kd.C_below HR0_2.out t_13); (case side4 => exact HC0_2.out); rintro e w' ⟨rfl, ⟨nd, rfl⟩⟩))
            go_ret
            exact ⟨t_4b, t_13⟩
           ·rw [if_neg c48] at H
            have c48b0 : (t353 == a0_3) = false := beq_eq_false_iff_ne.mpr c48
            have c48b1 : (t353 != a0_3) = true := bne_iff_ne.mpr c48
            exact absurd ((Option.some.inj H).trans HTRUE.out) (by decide)
          ·replace c47 := Bool.eq_false_iff.mpr c47
           subst c47
           have H1 : (some false) = some r := by rw [if_neg (show ¬ (false = true) by decide)] at H; exact H
           clear H
           have H := H1
           clear H1
           exact absurd ((Option.some.inj H).trans HTRUE.out) (by decide)
         ·rw [if_neg c45] at H
          have c45b0 : (t362 == 5) = false := beq_eq_false_iff_ne.mpr c45
          have c45b1 : (t362 != 5) = true := bne_iff_ne.mpr c45
          exact absurd ((Option.some.inj H).trans HTRUE.out) (by decide)
        ·replace c44 := Bool.eq_false_iff.mpr c44
         subst c44
         have H1 : (some false) = some r := by rw [if_neg (show ¬ (false = true) by decide)] at H; exact H
         clear H
         have H := H1
         clear H1
         exact absurd ((Option.some.inj H).trans HTRUE.out) (by decide)
       ·rw [if_neg c43] at H
        have c43b0 : (t355 == 0) = false := beq_eq_false_iff_ne.mpr c43
        have c43b1 : (t355 != 0) = true := bne_iff_ne.mpr c43
        exact absurd ((Option.some.inj H).trans HTRUE.out) (by decide)

/-- THE ONE PURE STATEMENT of culetlaw54_JobCancelled: yours. -/
def culetlaw54_JobCancelled.Pure : Prop := ∀ (x0 : S67) (x1 : ByteArray) (x2 : Int), V67 x0 → (fun s_ : ByteArray => s_.size ≤ 9223372036854775807) x1 → (fun n_ => (Lit.int .u8 n_).wf = true) x2 → ∃ k, culetlaw54_JobCancelled.f k x0.f0 x0.f1 x0.f2 x0.f3 x0.f4 x1 x2 = some true

end Go.Proofs.Ytndbchcfjajgbaa.XP
