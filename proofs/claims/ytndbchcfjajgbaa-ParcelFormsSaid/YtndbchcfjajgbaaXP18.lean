-- printed by xprint.py
import Derived.Test.YtndbchcfjajgbaaXP0
import Derived.Test.YtndbchcfjajgbaaXP1
import Derived.Test.YtndbchcfjajgbaaXP7
import Derived.Test.YtndbchcfjajgbaaXP8
import Derived.Test.YtndbchcfjajgbaaXP9
import Derived.Test.YtndbchcfjajgbaaXP10
import Derived.Test.YtndbchcfjajgbaaXP11
import Derived.Test.YtndbchcfjajgbaaXP14
import Derived.Test.YtndbchcfjajgbaaXP15
import Derived.Test.YtndbchcfjajgbaaXP17
import Derived.Test.YtndbchcfjajgbaaHandFind
namespace Go.Proofs.Ytndbchcfjajgbaa.XP
open Go.Proofs.Ytndbchcfjajgbaa.XW
open Go.RowKit Go.Proofs.YtndbchcfjajgbaaW.PrintWords Go.Proofs.YtndbchcfjajgbaaW.PrintLast Go.Proofs.YtndbchcfjajgbaaW.PrintMore
attribute [local go_sem] max2_int min2_int max_two min_two max_three min_three max_four min_four   -- for this text's walks alone
set_option linter.unusedVariables false
set_option linter.unusedSimpArgs false

attribute [local go_sem high] eqA24
/-! ### culetlaw53_ParcelForms: function 8 -/
def culetlaw53_ParcelForms.j0 : Nat → List (S24) → ByteArray → Bool → ByteArray → List (S138) → Option (Bool)
 | 0, _, _, _, _, _ => none
 | k + 1, x0, x1, x35, Qa0, Qa1 => if x35 = true then ((culetlaw53_awake.f k).bind fun t233 => (some t233)) else ((parcel_Find.f x0 x1).bind fun bt234 => ((culetref53_Find.f k x0 x1).bind fun bt240 => ((parcel_Weigh.f k x0 x1).bind fun bt246 => ((culetref53_Weigh.f k x0 x1).bind fun bt248 => ((culetlaw44_Own.f k Qa0 Qa1).bind fun bt250 => ((parcel_Value.f k x0 bt250.1 bt250.2).bind fun bt254 => ((culetref53_Value.f k x0 Qa0 Qa1).bind fun bt256 => ((parcel_Valid.f k x0).bind fun t258 => ((culetref53_Valid.f k x0).bind fun t259 => (if (t258 == t259) = true then (if (bt234.1.toList == bt240.1.toList && (bt234.2.1.toList == bt240.2.1.toList && (bt234.2.2.1 == bt240.2.2.1 && (bt234.2.2.2.1 == bt240.2.2.2.1)))) = true then (if (bt234.2.2.2.2 == bt240.2.2.2.2) = true then (if bt246.1 = bt248.1 then (if bt246.2 = bt248.2 then (if bt254.1 = bt256.1 then (some (bt254.2 == bt256.2)) else (some false)) else (some false)) else (some false)) else (some false)) else (some false)) else (some false)))))))))))
def culetlaw53_ParcelForms.f (k : Nat) (l0 : List (S24)) (a1 : ByteArray) (a2_0 : ByteArray) (l2_1 : List (S138)) : Option (Bool) := (culetlaw53_awake.f k).bind fun t230 => (if t230 = true then ((culetref53_Few.f k l0).bind fun t231 => (if t231 = true then (if (a1.size : Int) > 40 then (culetlaw53_ParcelForms.j0 k l0 a1 true a2_0 l2_1) else ((culetref44_Few.f a2_0 l2_1).bind fun t232 => (culetlaw53_ParcelForms.j0 k l0 a1 (!t232) a2_0 l2_1))) else (culetlaw53_ParcelForms.j0 k l0 a1 true a2_0 l2_1))) else (culetlaw53_ParcelForms.j0 k l0 a1 true a2_0 l2_1))
theorem culetlaw53_ParcelForms.mono_l : ∀ k, (∀ y0 y1 y2 y3 y4, LeO (culetlaw53_ParcelForms.j0 k y0 y1 y2 y3 y4) (culetlaw53_ParcelForms.j0 (k + 1) y0 y1 y2 y3 y4))
 | 0 => fun _ _ _ _ _ r h => by simp [culetlaw53_ParcelForms.j0] at h
 | k + 1 => by
  have ih0 := culetlaw53_ParcelForms.mono_l k
  ·intro y0 y1 y2 y3 y4
   unfold culetlaw53_ParcelForms.j0
   repeat' first
   | (with_reducible exact ih0 _ _ _ _ _)
   | (with_reducible exact culetlaw44_Own.mono _ _ _)
   | (with_reducible exact culetlaw53_awake.mono _)
   | (with_reducible exact culetref53_Few.mono _ _)
   | (with_reducible exact culetref53_Find.mono _ _ _)
   | (with_reducible exact culetref53_Valid.mono _ _)
   | (with_reducible exact culetref53_Value.mono _ _ _ _)
   | (with_reducible exact culetref53_Weigh.mono _ _ _)
   | (with_reducible exact parcel_Valid.mono _ _)
   | (with_reducible exact parcel_Value.mono _ _ _ _)
   | (with_reducible exact parcel_Weigh.mono _ _ _)
   | (with_reducible exact LeO.refl _)
   | (with_reducible exact LeO.none _)
   | (with_reducible refine LeO.ite ?_ ?_)
   | (with_reducible refine LeO.bind ?_ (fun _ => ?_))
   | exact ih0 _ _ _ _ _
   | exact culetlaw44_Own.mono _ _ _
   | exact culetlaw53_awake.mono _
   | exact culetref53_Few.mono _ _
   | exact culetref53_Find.mono _ _ _
   | exact culetref53_Valid.mono _ _
   | exact culetref53_Value.mono _ _ _ _
   | exact culetref53_Weigh.mono _ _ _
   | exact parcel_Valid.mono _ _
   | exact parcel_Value.mono _ _ _ _
   | exact parcel_Weigh.mono _ _ _
   | exact LeO.none _
   | refine LeO.ite ?_ ?_
   | refine LeO.bind ?_ (fun _ => ?_)
theorem culetlaw53_ParcelForms.mono : ∀ a0 a1 a2 a3 k, LeO (culetlaw53_ParcelForms.f k a0 a1 a2 a3) (culetlaw53_ParcelForms.f (k + 1) a0 a1 a2 a3) := by
 intro a0 a1 a2 a3 k
 have ih0 := culetlaw53_ParcelForms.mono_l k
 unfold culetlaw53_ParcelForms.f
 repeat' first
   | (with_reducible exact ih0 _ _ _ _ _)
   | (with_reducible exact culetlaw44_Own.mono _ _ _)
   | (with_reducible exact culetlaw53_awake.mono _)
   | (with_reducible exact culetref53_Few.mono _ _)
   | (with_reducible exact culetref53_Find.mono _ _ _)
   | (with_reducible exact culetref53_Valid.mono _ _)
   | (with_reducible exact culetref53_Value.mono _ _ _ _)
   | (with_reducible exact culetref53_Weigh.mono _ _ _)
   | (with_reducible exact parcel_Valid.mono _ _)
   | (with_reducible exact parcel_Value.mono _ _ _ _)
   | (with_reducible exact parcel_Weigh.mono _ _ _)
   | (with_reducible exact LeO.refl _)
   | (with_reducible exact LeO.none _)
   | (with_reducible refine LeO.ite ?_ ?_)
   | (with_reducible refine LeO.bind ?_ (fun _ => ?_))
   | exact ih0 _ _ _ _ _
   | exact culetlaw44_Own.mono _ _ _
   | exact culetlaw53_awake.mono _
   | exact culetref53_Few.mono _ _
   | exact culetref53_Find.mono _ _ _
   | exact culetref53_Valid.mono _ _
   | exact culetref53_Value.mono _ _ _ _
   | exact culetref53_Weigh.mono _ _ _
   | exact parcel_Valid.mono _ _
   | exact parcel_Value.mono _ _ _ _
   | exact parcel_Weigh.mono _ _ _
   | exact LeO.none _
   | refine LeO.ite ?_ ?_
   | refine LeO.bind ?_ (fun _ => ?_)
set_option maxHeartbeats 8000000 in
set_option maxRecDepth 100000 in
theorem culetlaw53_ParcelForms.calls (k : Nat) (A0 : Option Addr) (c0 : Nat) (l0 : List (S24)) (a1 : ByteArray) (a2_0 : ByteArray) (A2_1 : Option Addr) (c2_1 : Nat) (l2_1 : List (S138)) (r : Bool) (w : World) (hr0 : Kd.C k24 w A0 l0.length l0) (hc0 : l0.length ≤ c0) (hr2_1 : Kd.C k138 w A2_1 l2_1.length l2_1) (hc2_1 : l2_1.length ≤ c2_1) (h : culetlaw53_ParcelForms.f k l0 a1 a2_0 l2_1 = some r) (ht_ : r = true) :
  Calls Try.prog 8 #[.slice A0 l0.length c0, .string a1, .agg #[.string a2_0, .slice A2_1 l2_1.length c2_1]] w fun e w' => e = .returned (.bool r) ∧ Below w.heap.size w w' := by
 have hu55 := Try.underlying55
 have hu24 := Try.underlying24
 have HTRUE := Aside0.mk ht_
 clear ht_
 have HR0 := Aside0.mk hr0
 have HC0 := Aside0.mk hc0
 clear hr0 hc0
 have HR2_1 := Aside0.mk hr2_1
 have HC2_1 := Aside0.mk hc2_1
 clear hr2_1 hc2_1
 have HB := Aside0.mk (Below.refl w.heap.size w)
 have H : ((culetlaw53_awake.f k).bind fun t230 => (if t230 = true then ((culetref53_Few.f k l0).bind fun t231 => (if t231 = true then (if (a1.size : Int) > 40 then (culetlaw53_ParcelForms.j0 k l0 a1 true a2_0 l2_1) else ((culetref44_Few.f a2_0 l2_1).bind fun t232 => (culetlaw53_ParcelForms.j0 k l0 a1 (!t232) a2_0 l2_1))) else (culetlaw53_ParcelForms.j0 k l0 a1 true a2_0 l2_1))) else (culetlaw53_ParcelForms.j0 k l0 a1 true a2_0 l2_1))) = some r := h
 clear h
 have HC4 := Aside0.mk H
 clear H
 go_enter Try.func8, Try.ntmps8
 go_upto_region 1 with (first | ((with_reducible refine gate_dst (N := 5) rfl ?_); (try (refine gate_guard (by rfl) ?_; dsimp only)); refine box_event ?hg (N := 5) ?hd (cs := #[.string a2_0, .slice A2_1 l2_1.length c2_1]) (t := 55) ?hr ?_; (case hd => rfl); (case hg => rfl); (case hr => go_simp; try rfl); intro gb229 hg w5 hbox hb; have n0_ := Aside0.mk (below_step (by repeat first | exact HB.out | apply below_alloc | apply pw_below_drewN | apply below_drew1) hb); have n1_ := Aside0.mk (hbox); have n2_ := Aside0.mk ((by rw [hg]; exact (below_size (by repeat first | exact HB.out | apply below_alloc | apply pw_below_drewN | apply below_drew1)) : w.heap.size ≤ gb229)); have n3_ := Aside0.mk ((by rw [hg]; exact (below_size (by repeat first | exact HB.out | apply below_alloc | apply pw_below_drewN | apply below_drew1)) : w.heap.size ≤ gb229)); clear HB; have HB := n0_; have BK229 := n1_; have GW229 := n2_; have GE229 := n3_; clear n0_ n1_ n2_ n3_; clear hb hbox hg))
 (try simp only [Act.put, List.setIfInBounds_toArray, List.set_cons_zero, List.set_cons_succ])
 go_cut [35] (fun v35 wc => ∃ (kq : Nat) (x35_3 : Bool), v35 = .bool x35_3 ∧ Aside0 (culetlaw53_ParcelForms.j0 kq l0 a1 x35_3 a2_0 l2_1 = some r) ∧ Aside0 (kq ≤ k) ∧ Aside0 (wc.heap[gb229]? = some (.cells #[.string a2_0, (.slice A2_1 l2_1.length c2_1)] 55 (0, 0))) ∧ Aside0 (Below w.heap.size w wc))
 case first =>
  have H := HC4.out
  clear HC4
  replace H := Option.bind_eq_some_iff.mp H
  obtain ⟨t230, A60, H⟩ := H
  replace H : (if t230 = true then ((culetref53_Few.f k l0).bind fun t231 => (if t231 = true then (if (a1.size : Int) > 40 then (culetlaw53_ParcelForms.j0 k l0 a1 true a2_0 l2_1) else ((culetref44_Few.f a2_0 l2_1).bind fun t232 => (culetlaw53_ParcelForms.j0 k l0 a1 (!t232) a2_0 l2_1))) else (culetlaw53_ParcelForms.j0 k l0 a1 true a2_0 l2_1))) else (culetlaw53_ParcelForms.j0 k l0 a1 true a2_0 l2_1)) = some r := H
  have A6 := Aside0.mk A60
  clear A60
  by_cases c7 : t230 = true
  ·subst c7
   have H1 : ((culetref53_Few.f k l0).bind fun t231 => (if t231 = true then (if (a1.size : Int) > 40 then (culetlaw53_ParcelForms.j0 k l0 a1 true a2_0 l2_1) else ((culetref44_Few.f a2_0 l2_1).bind fun t232 => (culetlaw53_ParcelForms.j0 k l0 a1 (!t232) a2_0 l2_1))) else (culetlaw53_ParcelForms.j0 k l0 a1 true a2_0 l2_1))) = some r := by rw [if_pos rfl] at H; exact H
   clear H
   have H := H1
   clear H1
   replace H := Option.bind_eq_some_iff.mp H
   obtain ⟨t231, A80, H⟩ := H
   replace H : (if t231 = true then (if (a1.size : Int) > 40 then (culetlaw53_ParcelForms.j0 k l0 a1 true a2_0 l2_1) else ((culetref44_Few.f a2_0 l2_1).bind fun t232 => (culetlaw53_ParcelForms.j0 k l0 a1 (!t232) a2_0 l2_1))) else (culetlaw53_ParcelForms.j0 k l0 a1 true a2_0 l2_1)) = some r := H
   have A8 := Aside0.mk A80
   clear A80
   by_cases c9 : t231 = true
   ·subst c9
    have H1 : (if (a1.size : Int) > 40 then (culetlaw53_ParcelForms.j0 k l0 a1 true a2_0 l2_1) else ((culetref44_Few.f a2_0 l2_1).bind fun t232 => (culetlaw53_ParcelForms.j0 k l0 a1 (!t232) a2_0 l2_1))) = some r := by rw [if_pos rfl] at H; exact H
    clear H
    have H := H1
    clear H1
    by_cases c10 : (a1.size : Int) > 40
    ·rw [if_pos c10] at H
     have c10b0 : decide (40 < (a1.size : Int)) = true := decide_eq_true c10
     have c10b1 : decide (40 < a1.size) = true := decide_eq_true (by omega)
     clear c10
     (first | rw [c10b0] | (simp only [i64_w, i32_w]; rw [c10b0]) | skip)
     have H' := Aside0.mk H
     clear H
     go_wp2_with (first | ((with_reducible refine gate_callee (f := 15) rfl ?_); refine goesL_ (some 19) rfl rfl Try.func15 (by kernel_rfl) rfl #[] rfl (by (try simp only [List.map_toArray, List.map_cons, List.map_nil]); first | done | rfl | (simp only [List.length_drop, List.length_take]; rfl)) ?_; (with_reducible refine (culetlaw53_awake.calls k  true _ A6.out).mono ?_); rintro e w11 ⟨rfl, hb⟩; refine ⟨_, rfl, ?_⟩; have n0_ := Aside0.mk (blk_below (g := gb229) (by (with_reducible repeat (first | refine blk_drewN ?_ _ | refine blk_drew ?_ | refine blk_alloc ?_ _)); exact BK229.out) hb); have n1_ := Aside0.mk (below_step (by repeat (first | (with_reducible first | exact HB.out | apply below_alloc | apply pw_below_drewN | apply below_drew1 | refine below_set ?_ GE229.out) | exact HB.out)) hb); clear BK229; clear HB; have BK229 := n0_; have HB := n1_; clear n0_ n1_; (try clear hb); (try clear hb2); (try clear hk); (try clear hi)) | (go_at_call 16; (with_reducible refine (culetref53_Few.calls k _ _ l0 true _ ?side1 ?side2 A8.out).mono ?_); (case side1 => repeat (first | exact (Kd.C_below HR0.out HB.out) | (with_reducible refine Kd.C_alloc ?_ _) | (with_reducible refine Kd.C_drewN ?_ _) | (with_reducible refine Kd.C_drew ?_))); (case side2 => exact HC0.out); rintro e w' ⟨rfl, ⟨nd, rfl⟩⟩))
     go_meet
     case rel => exact ⟨_, (true), (by first | rfl | (simp; done) | (simp [*]; done)), H', ⟨by first | omega | exact Nat.le_refl _⟩, ⟨by (with_reducible repeat (first | refine blk_drewN ?_ _ | refine blk_drew ?_ | refine blk_alloc ?_ _)); exact BK229.out⟩, ⟨by repeat (first | (with_reducible first | exact HB.out | apply below_alloc | apply pw_below_drewN | apply below_drew1 | refine below_set ?_ GE229.out) | exact HB.out)⟩⟩
    ·rw [if_neg c10] at H
     have c10b0 : decide (40 < (a1.size : Int)) = false := decide_eq_false c10
     have c10b1 : decide (40 < a1.size) = false := decide_eq_false (by omega)
     clear c10
     (first | rw [c10b0] | (simp only [i64_w, i32_w]; rw [c10b0]) | skip)
     replace H := Option.bind_eq_some_iff.mp H
     obtain ⟨t232, A120, H⟩ := H
     replace H : (culetlaw53_ParcelForms.j0 k l0 a1 (!t232) a2_0 l2_1) = some r := H
     have A12 := Aside0.mk A120
     clear A120
     have H' := Aside0.mk H
     clear H
     go_wp2_with (first | ((with_reducible refine gate_callee (f := 15) rfl ?_); refine goesL_ (some 19) rfl rfl Try.func15 (by kernel_rfl) rfl #[] rfl (by (try simp only [List.map_toArray, List.map_cons, List.map_nil]); first | done | rfl | (simp only [List.length_drop, List.length_take]; rfl)) ?_; (with_reducible refine (culetlaw53_awake.calls k  true _ A6.out).mono ?_); rintro e w13 ⟨rfl, hb⟩; refine ⟨_, rfl, ?_⟩; have n0_ := Aside0.mk (blk_below (g := gb229) (by (with_reducible repeat (first | refine blk_drewN ?_ _ | refine blk_drew ?_ | refine blk_alloc ?_ _)); exact BK229.out) hb); have n1_ := Aside0.mk (below_step (by repeat (first | (with_reducible first | exact HB.out | apply below_alloc | apply pw_below_drewN | apply below_drew1 | refine below_set ?_ GE229.out) | exact HB.out)) hb); clear BK229; clear HB; have BK229 := n0_; have HB := n1_; clear n0_ n1_; (try clear hb); (try clear hb2); (try clear hk); (try clear hi)) | (go_at_call 16; (with_reducible refine (culetref53_Few.calls k _ _ l0 true _ ?side1 ?side2 A8.out).mono ?_); (case side1 => repeat (first | exact (Kd.C_below HR0.out HB.out) | (with_reducible refine Kd.C_alloc ?_ _) | (with_reducible refine Kd.C_drewN ?_ _) | (with_reducible refine Kd.C_drew ?_))); (case side2 => exact HC0.out); rintro e w' ⟨rfl, ⟨nd, rfl⟩⟩; have hcz14_0 : w13.cell? ⟨gb229, 0, none⟩ = some (.string a2_0) := (blk_cell BK229.out 0).trans rfl; have hcz14_1 : w13.cell? ⟨gb229, 1, none⟩ = some (.slice A2_1 l2_1.length c2_1) := (blk_cell BK229.out 1).trans rfl; have hfz14_0 := blk_frozen BK229.out 0; have hfz14_1 := blk_frozen BK229.out 1) | (go_at_call 27; (with_reducible refine (culetref44_Few.calls a2_0 _ _ l2_1 t232 _ ?side1 ?side2 A12.out).mono ?_); (case side1 => repeat (first | exact (Kd.C_below HR2_1.out (by repeat (first | (with_reducible first | exact HB.out | apply below_alloc | apply pw_below_drewN | apply below_drew1 | refine below_set ?_ GE229.out) | exact HB.out))) | (with_reducible refine Kd.C_alloc ?_ _) | (with_reducible refine Kd.C_drewN ?_ _) | (with_reducible refine Kd.C_drew ?_))); (case side2 => exact HC2_1.out); rintro e w15 ⟨rfl, hb⟩; have n0_ := Aside0.mk (blk_below (g := gb229) (by (with_reducible repeat (first | refine blk_drewN ?_ _ | refine blk_drew ?_ | refine blk_alloc ?_ _)); exact BK229.out) hb); have n1_ := Aside0.mk (below_step (by repeat (first | (with_reducible first | exact HB.out | apply below_alloc | apply pw_below_drewN | apply below_drew1 | refine below_set ?_ GE229.out) | exact HB.out)) hb); clear BK229; clear HB; have BK229 := n0_; have HB := n1_; clear n0_ n1_; (try clear hb); (try clear hb2); (try clear hk); (try clear hi)))
     go_meet
     case rel => exact ⟨_, (!t232), (by first | rfl | (simp; done) | (simp [*]; done)), H', ⟨by first | omega | exact Nat.le_refl _⟩, ⟨by (with_reducible repeat (first | refine blk_drewN ?_ _ | refine blk_drew ?_ | refine blk_alloc ?_ _)); exact BK229.out⟩, ⟨by repeat (first | (with_reducible first | exact HB.out | apply below_alloc | apply pw_below_drewN | apply below_drew1 | refine below_set ?_ GE229.out) | exact HB.out)⟩⟩
   ·replace c9 := Bool.eq_false_iff.mpr c9
    subst c9
    have H1 : (culetlaw53_ParcelForms.j0 k l0 a1 true a2_0 l2_1) = some r := by rw [if_neg (show ¬ (false = true) by decide)] at H; exact H
    clear H
    have H := H1
    clear H1
    have H' := Aside0.mk H
    clear H
    go_wp2_with (first | ((with_reducible refine gate_callee (f := 15) rfl ?_); refine goesL_ (some 19) rfl rfl Try.func15 (by kernel_rfl) rfl #[] rfl (by (try simp only [List.map_toArray, List.map_cons, List.map_nil]); first | done | rfl | (simp only [List.length_drop, List.length_take]; rfl)) ?_; (with_reducible refine (culetlaw53_awake.calls k  true _ A6.out).mono ?_); rintro e w16 ⟨rfl, hb⟩; refine ⟨_, rfl, ?_⟩; have n0_ := Aside0.mk (blk_below (g := gb229) (by (with_reducible repeat (first | refine blk_drewN ?_ _ | refine blk_drew ?_ | refine blk_alloc ?_ _)); exact BK229.out) hb); have n1_ := Aside0.mk (below_step (by repeat (first | (with_reducible first | exact HB.out | apply below_alloc | apply pw_below_drewN | apply below_drew1 | refine below_set ?_ GE229.out) | exact HB.out)) hb); clear BK229; clear HB; have BK229 := n0_; have HB := n1_; clear n0_ n1_; (try clear hb); (try clear hb2); (try clear hk); (try clear hi)) | (go_at_call 16; (with_reducible refine (culetref53_Few.calls k _ _ l0 false _ ?side1 ?side2 A8.out).mono ?_); (case side1 => repeat (first | exact (Kd.C_below HR0.out HB.out) | (with_reducible refine Kd.C_alloc ?_ _) | (with_reducible refine Kd.C_drewN ?_ _) | (with_reducible refine Kd.C_drew ?_))); (case side2 => exact HC0.out); rintro e w' ⟨rfl, ⟨nd, rfl⟩⟩))
    go_meet
    case rel => exact ⟨_, (true), (by first | rfl | (simp; done) | (simp [*]; done)), H', ⟨by first | omega | exact Nat.le_refl _⟩, ⟨by (with_reducible repeat (first | refine blk_drewN ?_ _ | refine blk_drew ?_ | refine blk_alloc ?_ _)); exact BK229.out⟩, ⟨by repeat (first | (with_reducible first | exact HB.out | apply below_alloc | apply pw_below_drewN | apply below_drew1 | refine below_set ?_ GE229.out) | exact HB.out)⟩⟩
  ·replace c7 := Bool.eq_false_iff.mpr c7
   subst c7
   have H1 : (culetlaw53_ParcelForms.j0 k l0 a1 true a2_0 l2_1) = some r := by rw [if_neg (show ¬ (false = true) by decide)] at H; exact H
   clear H
   have H := H1
   clear H1
   have H' := Aside0.mk H
   clear H
   go_wp2_with (first | ((with_reducible refine gate_callee (f := 15) rfl ?_); refine goesL_ (some 19) rfl rfl Try.func15 (by kernel_rfl) rfl #[] rfl (by (try simp only [List.map_toArray, List.map_cons, List.map_nil]); first | done | rfl | (simp only [List.length_drop, List.length_take]; rfl)) ?_; (with_reducible refine (culetlaw53_awake.calls k  false _ A6.out).mono ?_); rintro e w17 ⟨rfl, hb⟩; refine ⟨_, rfl, ?_⟩; have n0_ := Aside0.mk (blk_below (g := gb229) (by (with_reducible repeat (first | refine blk_drewN ?_ _ | refine blk_drew ?_ | refine blk_alloc ?_ _)); exact BK229.out) hb); have n1_ := Aside0.mk (below_step (by repeat (first | (with_reducible first | exact HB.out | apply below_alloc | apply pw_below_drewN | apply below_drew1 | refine below_set ?_ GE229.out) | exact HB.out)) hb); clear BK229; clear HB; have BK229 := n0_; have HB := n1_; clear n0_ n1_; (try clear hb); (try clear hb2); (try clear hk); (try clear hi)))
   go_meet
   case rel => exact ⟨_, (true), (by first | rfl | (simp; done) | (simp [*]; done)), H', ⟨by first | omega | exact Nat.le_refl _⟩, ⟨by (with_reducible repeat (first | refine blk_drewN ?_ _ | refine blk_drew ?_ | refine blk_alloc ?_ _)); exact BK229.out⟩, ⟨by repeat (first | (with_reducible first | exact HB.out | apply below_alloc | apply pw_below_drewN | apply below_drew1 | refine below_set ?_ GE229.out) | exact HB.out)⟩⟩
 case rest =>
  clear HC4
  try clear c1
  try clear c2
  try clear p2
  try clear c7
  try clear c8
  try clear c9
  try clear c10
  try clear c10b0
  try clear c10b1
  try clear c15
  try clear hcz14_0
  try clear hcz14_1
  try clear hfz14_0
  try clear hfz14_1
  obtain ⟨kq, x35_3, rfl, HA, HJ3, BK229, HB⟩ := hcut
  cases kq with
  | zero => exact absurd HA.out (by simp [culetlaw53_ParcelForms.j0])
  | succ kj3 =>
   have H := HA.out
   clear HA
   simp only [culetlaw53_ParcelForms.j0] at H
   by_cases c18 : x35_3 = true
   ·subst c18
    have H1 : ((culetlaw53_awake.f kj3).bind fun t233 => (some t233)) = some r := by rw [if_pos rfl] at H; exact H
    clear H
    have H := H1
    clear H1
    replace H := Option.bind_eq_some_iff.mp H
    obtain ⟨t233, A190, H⟩ := H
    replace H : (some t233) = some r := H
    have A19 := Aside0.mk A190
    clear A190
    obtain rfl := Option.some.inj H
    go_wp2_with (first | ((with_reducible refine gate_callee (f := 15) rfl ?_); refine goesL_ (some 36) rfl rfl Try.func15 (by kernel_rfl) rfl #[] rfl (by (try simp only [List.map_toArray, List.map_cons, List.map_nil]); first | done | rfl | (simp only [List.length_drop, List.length_take]; rfl)) ?_; (with_reducible refine (culetlaw53_awake.calls kj3  t233 _ A19.out).mono ?_); rintro e w20 ⟨rfl, hb⟩; refine ⟨_, rfl, ?_⟩; have n0_ := Aside0.mk (blk_below (g := gb229) (by (with_reducible repeat (first | refine blk_drewN ?_ _ | refine blk_drew ?_ | refine blk_alloc ?_ _)); exact BK229.out) hb); have n1_ := Aside0.mk (below_step (by repeat (first | (with_reducible first | exact HB.out | apply below_alloc | apply pw_below_drewN | apply below_drew1 | refine below_set ?_ GE229.out) | exact HB.out)) hb); clear BK229; clear HB; have BK229 := n0_; have HB := n1_; clear n0_ n1_; (try clear hb); (try clear hb2); (try clear hk); (try clear hi)))
    go_ret
    exact ⟨by first | rfl | (simp [errW_none, errW_some] <;> rfl) | (simp [*, errW_none, errW_some] <;> rfl), by repeat (first | (with_reducible first | exact HB.out | apply below_alloc | apply pw_below_drewN | apply below_drew1 | refine below_set ?_ GE229.out) | exact HB.out)⟩
   ·replace c18 := Bool.eq_false_iff.mpr c18
    subst c18
    have H1 : ((parcel_Find.f l0 a1).bind fun bt234 => ((culetref53_Find.f kj3 l0 a1).bind fun bt240 => ((parcel_Weigh.f kj3 l0 a1).bind fun bt246 => ((culetref53_Weigh.f kj3 l0 a1).bind fun bt248 => ((culetlaw44_Own.f kj3 a2_0 l2_1).bind fun bt250 => ((parcel_Value.f kj3 l0 bt250.1 bt250.2).bind fun bt254 => ((culetref53_Value.f kj3 l0 a2_0 l2_1).bind fun bt256 => ((parcel_Valid.f kj3 l0).bind fun t258 => ((culetref53_Valid.f kj3 l0).bind fun t259 => (if (t258 == t259) = true then (if (bt234.1.toList == bt240.1.toList && (bt234.2.1.toList == bt240.2.1.toList && (bt234.2.2.1 == bt240.2.2.1 && (bt234.2.2.2.1 == bt240.2.2.2.1)))) = true then (if (bt234.2.2.2.2 == bt240.2.2.2.2) = true then (if bt246.1 = bt248.1 then (if bt246.2 = bt248.2 then (if bt254.1 = bt256.1 then (some (bt254.2 == bt256.2)) else (some false)) else (some false)) else (some false)) else (some false)) else (some false)) else (some false))))))))))) = some r := by rw [if_neg (show ¬ (false = true) by decide)] at H; exact H
    clear H
    have H := H1
    clear H1
    replace H := Option.bind_eq_some_iff.mp H
    obtain ⟨⟨t234, t235, t236, t237, t238⟩, A210, H⟩ := H
    replace H : ((culetref53_Find.f kj3 l0 a1).bind fun bt240 => ((parcel_Weigh.f kj3 l0 a1).bind fun bt246 => ((culetref53_Weigh.f kj3 l0 a1).bind fun bt248 => ((culetlaw44_Own.f kj3 a2_0 l2_1).bind fun bt250 => ((parcel_Value.f kj3 l0 bt250.1 bt250.2).bind fun bt254 => ((culetref53_Value.f kj3 l0 a2_0 l2_1).bind fun bt256 => ((parcel_Valid.f kj3 l0).bind fun t258 => ((culetref53_Valid.f kj3 l0).bind fun t259 => (if (t258 == t259) = true then (if (t234.toList == bt240.1.toList && (t235.toList == bt240.2.1.toList && (t236 == bt240.2.2.1 && (t237 == bt240.2.2.2.1)))) = true then (if (t238 == bt240.2.2.2.2) = true then (if bt246.1 = bt248.1 then (if bt246.2 = bt248.2 then (if bt254.1 = bt256.1 then (some (bt254.2 == bt256.2)) else (some false)) else (some false)) else (some false)) else (some false)) else (some false)) else (some false)))))))))) = some r := H
    have A21 := Aside0.mk A210
    clear A210
    replace H := Option.bind_eq_some_iff.mp H
    obtain ⟨⟨t240, t241, t242, t243, t244⟩, A220, H⟩ := H
    replace H : ((parcel_Weigh.f kj3 l0 a1).bind fun bt246 => ((culetref53_Weigh.f kj3 l0 a1).bind fun bt248 => ((culetlaw44_Own.f kj3 a2_0 l2_1).bind fun bt250 => ((parcel_Value.f kj3 l0 bt250.1 bt250.2).bind fun bt254 => ((culetref53_Value.f kj3 l0 a2_0 l2_1).bind fun bt256 => ((parcel_Valid.f kj3 l0).bind fun t258 => ((culetref53_Valid.f kj3 l0).bind fun t259 => (if (t258 == t259) = true then (if (t234.toList == t240.toList && (t235.toList == t241.toList && (t236 == t242 && (t237 == t243)))) = true then (if (t238 == t244) = true then (if bt246.1 = bt248.1 then (if bt246.2 = bt248.2 then (if bt254.1 = bt256.1 then (some (bt254.2 == bt256.2)) else (some false)) else (some false)) else (some false)) else (some false)) else (some false)) else (some false))))))))) = some r := H
    have A22 := Aside0.mk A220
    clear A220
    replace H := Option.bind_eq_some_iff.mp H
    obtain ⟨⟨t246, t247⟩, A230, H⟩ := H
    replace H : ((culetref53_Weigh.f kj3 l0 a1).bind fun bt248 => ((culetlaw44_Own.f kj3 a2_0 l2_1).bind fun bt250 => ((parcel_Value.f kj3 l0 bt250.1 bt250.2).bind fun bt254 => ((culetref53_Value.f kj3 l0 a2_0 l2_1).bind fun bt256 => ((parcel_Valid.f kj3 l0).bind fun t258 => ((culetref53_Valid.f kj3 l0).bind fun t259 => (if (t258 == t259) = true then (if (t234.toList == t240.toList && (t235.toList == t241.toList && (t236 == t242 && (t237 == t243)))) = true then (if (t238 == t244) = true then (if t246 = bt248.1 then (if t247 = bt248.2 then (if bt254.1 = bt256.1 then (some (bt254.2 == bt256.2)) else (some false)) else (some false)) else (some false)) else (some false)) else (some false)) else (some false)))))))) = some r := H
    have A23 := Aside0.mk A230
    clear A230
    replace H := Option.bind_eq_some_iff.mp H
    obtain ⟨⟨t248, t249⟩, A240, H⟩ := H
    replace H : ((culetlaw44_Own.f kj3 a2_0 l2_1).bind fun bt250 => ((parcel_Value.f kj3 l0 bt250.1 bt250.2).bind fun bt254 => ((culetref53_Value.f kj3 l0 a2_0 l2_1).bind fun bt256 => ((parcel_Valid.f kj3 l0).bind fun t258 => ((culetref53_Valid.f kj3 l0).bind fun t259 => (if (t258 == t259) = true then (if (t234.toList == t240.toList && (t235.toList == t241.toList && (t236 == t242 && (t237 == t243)))) = true then (if (t238 == t244) = true then (if t246 = t248 then (if t247 = t249 then (if bt254.1 = bt256.1 then (some (bt254.2 == bt256.2)) else (some false)) else (some false)) else (some false)) else (some false)) else (some false)) else (some false))))))) = some r := H
    have A24 := Aside0.mk A240
    clear A240
    replace H := Option.bind_eq_some_iff.mp H
    obtain ⟨⟨t250, t251⟩, A250, H⟩ := H
    replace H : ((parcel_Value.f kj3 l0 t250 t251).bind fun bt254 => ((culetref53_Value.f kj3 l0 a2_0 l2_1).bind fun bt256 => ((parcel_Valid.f kj3 l0).bind fun t258 => ((culetref53_Valid.f kj3 l0).bind fun t259 => (if (t258 == t259) = true then (if (t234.toList == t240.toList && (t235.toList == t241.toList && (t236 == t242 && (t237 == t243)))) = true then (if (t238 == t244) = true then (if t246 = t248 then (if t247 = t249 then (if bt254.1 = bt256.1 then (some (bt254.2 == bt256.2)) else (some false)) else (some false)) else (some false)) else (some false)) else (some false)) else (some false)))))) = some r := H
    have A25 := Aside0.mk A250
    clear A250
    replace H := Option.bind_eq_some_iff.mp H
    obtain ⟨⟨t254, t255⟩, A260, H⟩ := H
    replace H : ((culetref53_Value.f kj3 l0 a2_0 l2_1).bind fun bt256 => ((parcel_Valid.f kj3 l0).bind fun t258 => ((culetref53_Valid.f kj3 l0).bind fun t259 => (if (t258 == t259) = true then (if (t234.toList == t240.toList && (t235.toList == t241.toList && (t236 == t242 && (t237 == t243)))) = true then (if (t238 == t244) = true then (if t246 = t248 then (if t247 = t249 then (if t254 = bt256.1 then (some (t255 == bt256.2)) else (some false)) else (some false)) else (some false)) else (some false)) else (some false)) else (some false))))) = some r := H
    have A26 := Aside0.mk A260
    clear A260
    replace H := Option.bind_eq_some_iff.mp H
    obtain ⟨⟨t256, t257⟩, A270, H⟩ := H
    replace H : ((parcel_Valid.f kj3 l0).bind fun t258 => ((culetref53_Valid.f kj3 l0).bind fun t259 => (if (t258 == t259) = true then (if (t234.toList == t240.toList && (t235.toList == t241.toList && (t236 == t242 && (t237 == t243)))) = true then (if (t238 == t244) = true then (if t246 = t248 then (if t247 = t249 then (if t254 = t256 then (some (t255 == t257)) else (some false)) else (some false)) else (some false)) else (some false)) else (some false)) else (some false)))) = some r := H
    have A27 := Aside0.mk A270
    clear A270
    replace H := Option.bind_eq_some_iff.mp H
    obtain ⟨t258, A280, H⟩ := H
    replace H : ((culetref53_Valid.f kj3 l0).bind fun t259 => (if (t258 == t259) = true then (if (t234.toList == t240.toList && (t235.toList == t241.toList && (t236 == t242 && (t237 == t243)))) = true then (if (t238 == t244) = true then (if t246 = t248 then (if t247 = t249 then (if t254 = t256 then (some (t255 == t257)) else (some false)) else (some false)) else (some false)) else (some false)) else (some false)) else (some false))) = some r := H
    have A28 := Aside0.mk A280
    clear A280
    replace H := Option.bind_eq_some_iff.mp H
    obtain ⟨t259, A290, H⟩ := H
    replace H : (if (t258 == t259) = true then (if (t234.toList == t240.toList && (t235.toList == t241.toList && (t236 == t242 && (t237 == t243)))) = true then (if (t238 == t244) = true then (if t246 = t248 then (if t247 = t249 then (if t254 = t256 then (some (t255 == t257)) else (some false)) else (some false)) else (some false)) else (some false)) else (some false)) else (some false)) = some r := H
    have A29 := Aside0.mk A290
    clear A290
    by_cases c30 : (t258 == t259) = true
    ·rw [if_pos c30] at H
     have c30b0 : (t258 == t259) = true := c30
     (try (have c30b1 : decide (t258 = t259) = true := by simpa using c30))
     (try (have c30b2 : (t258 == t259) = true := by simpa using c30))
     clear c30
     by_cases c31 : (t234.toList == t240.toList && (t235.toList == t241.toList && (t236 == t242 && (t237 == t243)))) = true
     ·rw [if_pos c31] at H
      have c31b0 : (t234.toList == t240.toList && (t235.toList == t241.toList && (t236 == t242 && (t237 == t243)))) = true := c31
      (try (have c31b1 : decide (t234.toList = t240.toList && (t235.toList == t241.toList && (t236 == t242 && (t237 == t243)))) = true := by simpa using c31))
      (try (have c31b2 : (t234.toList == t240.toList && (t235.toList == t241.toList && (t236 == t242 && (t237 == t243)))) = true := by simpa using c31))
      clear c31
      by_cases c32 : (t238 == t244) = true
      ·rw [if_pos c32] at H
       have c32b0 : (t238 == t244) = true := c32
       (try (have c32b1 : decide (t238 = t244) = true := by simpa using c32))
       (try (have c32b2 : (t238 == t244) = true := by simpa using c32))
       clear c32
       by_cases c33 : t246 = t248
       ·rw [if_pos c33] at H
        have c33b0 : (t246 == t248) = true := beq_iff_eq.mpr c33
        have c33b1 : (t246 != t248) = false := bne_eq_false_iff_eq.mpr c33
        clear c33
        by_cases c34 : t247 = t249
        ·rw [if_pos c34] at H
         have c34b0 : (t247 == t249) = true := beq_iff_eq.mpr c34
         have c34b1 : (t247 != t249) = false := bne_eq_false_iff_eq.mpr c34
         clear c34
         by_cases c35 : t254 = t256
         ·rw [if_pos c35] at H
          have c35b0 : (t254 == t256) = true := beq_iff_eq.mpr c35
          have c35b1 : (t254 != t256) = false := bne_eq_false_iff_eq.mpr c35
          clear c35
          obtain rfl := Option.some.inj H
          go_wp2_with (first | ((with_reducible refine gate_callee (f := 26) rfl ?_); refine goesL_ (some 40) rfl rfl Try.func26 (by kernel_rfl) rfl #[.slice A0 l0.length c0, .string a1] rfl (by (try simp only [List.map_toArray, List.map_cons, List.map_nil]); first | done | rfl | (simp only [List.length_drop, List.length_take]; rfl)) ?_; (with_reducible refine (parcel_Find.calls _ _ l0 a1 t234 t235 t236 t237 t238 _ ?side1 ?side2 A21.out).mono ?_); (case side1 => repeat (first | exact (Kd.C_below HR0.out HB.out) | (with_reducible refine Kd.C_alloc ?_ _) | (with_reducible refine Kd.C_drewN ?_ _) | (with_reducible refine Kd.C_drew ?_))); (case side2 => exact HC0.out); rintro e w36 ⟨rfl, hb⟩; refine ⟨_, rfl, ?_⟩; have n0_ := Aside0.mk (blk_below (g := gb229) (by (with_reducible repeat (first | refine blk_drewN ?_ _ | refine blk_drew ?_ | refine blk_alloc ?_ _)); exact BK229.out) hb); have n1_ := Aside0.mk (below_step (by repeat (first | (with_reducible first | exact HB.out | apply below_alloc | apply pw_below_drewN | apply below_drew1 | refine below_set ?_ GE229.out) | exact HB.out)) hb); clear BK229; clear HB; have BK229 := n0_; have HB := n1_; clear n0_ n1_; (try clear hb); (try clear hb2); (try clear hk); (try clear hi)) | ((with_reducible refine gate_dst (N := 7) rfl ?_); (try (refine gate_guard (by rfl) ?_; dsimp only)); refine box_event ?hg (N := 7) ?hd (cs := #[.string (⟨#[]⟩ : ByteArray), .string (⟨#[]⟩ : ByteArray), .int .i64 0, .int .i64 0]) (t := 24) ?hr ?_; (case hd => rfl); (case hg => rfl); (case hr => go_simp; try rfl); intro gb239 hg w37 hbox hb; have n0_ := Aside0.mk (blk_below (g := gb229) (by (with_reducible repeat (first | refine blk_drewN ?_ _ | refine blk_drew ?_ | refine blk_alloc ?_ _)); exact BK229.out) hb); have n1_ := Aside0.mk (below_step (by repeat (first | (with_reducible first | exact HB.out | apply below_alloc | apply pw_below_drewN | apply below_drew1 | refine below_set ?_ GE229.out) | exact HB.out)) hb); have n2_ := Aside0.mk (hbox); have n3_ := Aside0.mk ((by rw [hg]; exact (below_size (by repeat (first | (with_reducible first | exact HB.out | apply below_alloc | apply pw_below_drewN | apply below_drew1 | refine below_set ?_ GE229.out) | exact HB.out))) : w.heap.size ≤ gb239)); have n4_ := Aside0.mk ((by rw [hg]; exact (below_size (by repeat (first | (with_reducible first | exact HB.out | apply below_alloc | apply pw_below_drewN | apply below_drew1 | refine below_set ?_ GE229.out) | exact HB.out))) : w.heap.size ≤ gb239)); have n5_ := Aside0.mk ((by rw [hg]; exact Nat.ne_of_lt (blk_lt (g := gb229) (by (with_reducible repeat (first | refine blk_drewN ?_ _ | refine blk_drew ?_ | refine blk_alloc ?_ _)); exact BK229.out)) : gb229 ≠ gb239)); have n6_ := Aside0.mk ((by rw [hg]; exact Nat.ne_of_gt (blk_lt (g := gb229) (by (with_reducible repeat (first | refine blk_drewN ?_ _ | refine blk_drew ?_ | refine blk_alloc ?_ _)); exact BK229.out)) : gb239 ≠ gb229)); clear BK229; clear HB; have BK229 := n0_; have HB := n1_; have BK239 := n2_; have GW239 := n3_; have GE239 := n4_; have NB229_239 := n5_; have NB239_229 := n6_; clear n0_ n1_ n2_ n3_ n4_ n5_ n6_; clear hb hbox hg; have hnb38 := NB239_229.out; have hnc38 := NB229_239.out; obtain ⟨hcz39_0, hcz39_1, hcz39_2, hcz39_3⟩ := sqc4 BK239.out; obtain ⟨hfz39_0, hfz39_1, hfz39_2, hfz39_3⟩ := frozen4 BK239.out) | ((with_reducible refine gate_callee (f := 28) rfl ?_); refine goesL_ (some 46) rfl rfl Try.func28 (by kernel_rfl) rfl #[.slice A0 l0.length c0, .string a1] rfl (by (try simp only [List.map_toArray, List.map_cons, List.map_nil]); first | done | rfl | (simp only [List.length_drop, List.length_take]; rfl)) ?_; (with_reducible refine (culetref53_Find.calls kj3 _ _ l0 a1 t240 t241 t242 t243 t244 _ ?side1 ?side2 A22.out).mono ?_); (case side1 => exact Kd.C_below HR0.out (by repeat (first | (with_reducible first | exact HB.out | apply below_alloc | apply pw_below_drewN | apply below_drew1 | refine below_set ?_ GE229.out | refine below_set ?_ GE239.out) | exact HB.out))); (case side2 => exact HC0.out); rintro e w40 ⟨rfl, hb⟩; refine ⟨_, rfl, ?_⟩; have n0_ := Aside0.mk (blk_below (g := gb229) (o := .cells #[.string a2_0, .slice A2_1 l2_1.length c2_1] 55 (0, 0)) (by (with_reducible repeat (first | refine blk_drewN ?_ _ | refine blk_drew ?_ | refine blk_alloc ?_ _)); refine blk_far ?_ NB229_239.out _; (with_reducible repeat (first | refine blk_drewN ?_ _ | refine blk_drew ?_ | refine blk_alloc ?_ _)); refine blk_far ?_ NB229_239.out _; (with_reducible repeat (first | refine blk_drewN ?_ _ | refine blk_drew ?_ | refine blk_alloc ?_ _)); refine blk_far ?_ NB229_239.out _; (with_reducible repeat (first | refine blk_drewN ?_ _ | refine blk_drew ?_ | refine blk_alloc ?_ _)); refine blk_far ?_ NB229_239.out _; (with_reducible repeat (first | refine blk_drewN ?_ _ | refine blk_drew ?_ | refine blk_alloc ?_ _)); exact BK229.out) hb); have n1_ := Aside0.mk (blk_below (g := gb239) (o := .cells #[.string t234, .string t235, .int .i64 t236, .int .i64 t237] 24 (0, 0)) (by (with_reducible repeat (first | refine blk_drewN ?_ _ | refine blk_drew ?_ | refine blk_alloc ?_ _)); apply put4; (with_reducible repeat (first | refine blk_drewN ?_ _ | refine blk_drew ?_ | refine blk_alloc ?_ _)); exact BK239.out) hb); have n2_ := Aside0.mk (below_step (by repeat (first | (with_reducible first | exact HB.out | apply below_alloc | apply pw_below_drewN | apply below_drew1 | refine below_set ?_ GE229.out | refine below_set ?_ GE239.out) | exact HB.out)) hb); clear BK229; clear BK239; clear HB; have BK229 := n0_; have BK239 := n1_; have HB := n2_; clear n0_ n1_ n2_; (try clear hb); (try clear hb2); (try clear hk); (try clear hi)) | ((with_reducible refine gate_dst (N := 9) rfl ?_); (try (refine gate_guard (by rfl) ?_; dsimp only)); refine box_event ?hg (N := 9) ?hd (cs := #[.string (⟨#[]⟩ : ByteArray), .string (⟨#[]⟩ : ByteArray), .int .i64 0, .int .i64 0]) (t := 24) ?hr ?_; (case hd => rfl); (case hg => rfl); (case hr => go_simp; try rfl); intro gb245 hg w41 hbox hb; have n0_ := Aside0.mk (blk_below (g := gb229) (by (with_reducible repeat (first | refine blk_drewN ?_ _ | refine blk_drew ?_ | refine blk_alloc ?_ _)); exact BK229.out) hb); have n1_ := Aside0.mk (blk_below (g := gb239) (by (with_reducible repeat (first | refine blk_drewN ?_ _ | refine blk_drew ?_ | refine blk_alloc ?_ _)); exact BK239.out) hb); have n2_ := Aside0.mk (below_step (by repeat (first | (with_reducible first | exact HB.out | apply below_alloc | apply pw_below_drewN | apply below_drew1 | refine below_set ?_ GE229.out | refine below_set ?_ GE239.out) | exact HB.out)) hb); have n3_ := Aside0.mk (hbox); have n4_ := Aside0.mk ((by rw [hg]; exact (below_size (by repeat (first | (with_reducible first | exact HB.out | apply below_alloc | apply pw_below_drewN | apply below_drew1 | refine below_set ?_ GE229.out | refine below_set ?_ GE239.out) | exact HB.out))) : w.heap.size ≤ gb245)); have n5_ := Aside0.mk ((by rw [hg]; exact (below_size (by repeat (first | (with_reducible first | exact HB.out | apply below_alloc | apply pw_below_drewN | apply below_drew1 | refine below_set ?_ GE229.out | refine below_set ?_ GE239.out) | exact HB.out))) : w.heap.size ≤ gb245)); have n6_ := Aside0.mk ((by rw [hg]; exact Nat.ne_of_lt (blk_lt (g := gb229) (by (with_reducible repeat (first | refine blk_drewN ?_ _ | refine blk_drew ?_ | refine blk_alloc ?_ _)); exact BK229.out)) : gb229 ≠ gb245)); have n7_ := Aside0.mk ((by rw [hg]; exact Nat.ne_of_gt (blk_lt (g := gb229) (by (with_reducible repeat (first | refine blk_drewN ?_ _ | refine blk_drew ?_ | refine blk_alloc ?_ _)); exact BK229.out)) : gb245 ≠ gb229)); have n8_ := Aside0.mk ((by rw [hg]; exact Nat.ne_of_lt (blk_lt (g := gb239) (by (with_reducible repeat (first | refine blk_drewN ?_ _ | refine blk_drew ?_ | refine blk_alloc ?_ _)); exact BK239.out)) : gb239 ≠ gb245)); have n9_ := Aside0.mk ((by rw [hg]; exact Nat.ne_of_gt (blk_lt (g := gb239) (by (with_reducible repeat (first | refine blk_drewN ?_ _ | refine blk_drew ?_ | refine blk_alloc ?_ _)); exact BK239.out)) : gb245 ≠ gb239)); clear BK229; clear BK239; clear HB; have BK229 := n0_; have BK239 := n1_; have HB := n2_; have BK245 := n3_; have GW245 := n4_; have GE245 := n5_; have NB229_245 := n6_; have NB245_229 := n7_; have NB239_245 := n8_; have NB245_239 := n9_; clear n0_ n1_ n2_ n3_ n4_ n5_ n6_ n7_ n8_ n9_; clear hb hbox hg; have hnb42 := NB245_229.out; have hnc42 := NB229_245.out; have hnb43 := NB245_239.out; have hnc43 := NB239_245.out; obtain ⟨hcz44_0, hcz44_1, hcz44_2, hcz44_3⟩ := sqc4 BK245.out; obtain ⟨hfz44_0, hfz44_1, hfz44_2, hfz44_3⟩ := frozen4 BK245.out) | ((with_reducible refine gate_callee (f := 25) rfl ?_); refine goesL_ (some 52) rfl rfl Try.func25 (by kernel_rfl) rfl #[.slice A0 l0.length c0, .string a1] rfl (by (try simp only [List.map_toArray, List.map_cons, List.map_nil]); first | done | rfl | (simp only [List.length_drop, List.length_take]; rfl)) ?_; (with_reducible refine (parcel_Weigh.calls kj3 _ _ l0 a1 t246 t247 _ ?side1 ?side2 A23.out).mono ?_); (case side1 => exact Kd.C_below HR0.out (by repeat (first | (with_reducible first | exact HB.out | apply below_alloc | apply pw_below_drewN | apply below_drew1 | refine below_set ?_ GE229.out | refine below_set ?_ GE239.out | refine below_set ?_ GE245.out) | exact HB.out))); (case side2 => exact HC0.out); rintro e w45 ⟨rfl, hb⟩; refine ⟨_, rfl, ?_⟩; have n0_ := Aside0.mk (blk_below (g := gb229) (o := .cells #[.string a2_0, .slice A2_1 l2_1.length c2_1] 55 (0, 0)) (by (with_reducible repeat (first | refine blk_drewN ?_ _ | refine blk_drew ?_ | refine blk_alloc ?_ _)); refine blk_far ?_ NB229_245.out _; (with_reducible repeat (first | refine blk_drewN ?_ _ | refine blk_drew ?_ | refine blk_alloc ?_ _)); refine blk_far ?_ NB229_245.out _; (with_reducible repeat (first | refine blk_drewN ?_ _ | refine blk_drew ?_ | refine blk_alloc ?_ _)); refine blk_far ?_ NB229_245.out _; (with_reducible repeat (first | refine blk_drewN ?_ _ | refine blk_drew ?_ | refine blk_alloc ?_ _)); refine blk_far ?_ NB229_245.out _; (with_reducible repeat (first | refine blk_drewN ?_ _ | refine blk_drew ?_ | refine blk_alloc ?_ _)); exact BK229.out) hb); have n1_ := Aside0.mk (blk_below (g := gb239) (o := .cells #[.string t234, .string t235, .int .i64 t236, .int .i64 t237] 24 (0, 0)) (by (with_reducible repeat (first | refine blk_drewN ?_ _ | refine blk_drew ?_ | refine blk_alloc ?_ _)); refine blk_far ?_ NB239_245.out _; (with_reducible repeat (first | refine blk_drewN ?_ _ | refine blk_drew ?_ | refine blk_alloc ?_ _)); refine blk_far ?_ NB239_245.out _; (with_reducible repeat (first | refine blk_drewN ?_ _ | refine blk_drew ?_ | refine blk_alloc ?_ _)); refine blk_far ?_ NB239_245.out _; (with_reducible repeat (first | refine blk_drewN ?_ _ | refine blk_drew ?_ | refine blk_alloc ?_ _)); refine blk_far ?_ NB239_245.out _; (with_reducible repeat (first | refine blk_drewN ?_ _ | refine blk_drew ?_ | refine blk_alloc ?_ _)); exact BK239.out) hb); have n2_ := Aside0.mk (blk_below (g := gb245) (o := .cells #[.string t240, .string t241, .int .i64 t242, .int .i64 t243] 24 (0, 0)) (by (with_reducible repeat (first | refine blk_drewN ?_ _ | refine blk_drew ?_ | refine blk_alloc ?_ _)); apply put4; (with_reducible repeat (first | refine blk_drewN ?_ _ | refine blk_drew ?_ | refine blk_alloc ?_ _)); exact BK245.out) hb); have n3_ := Aside0.mk (below_step (by repeat (first | (with_reducible first | exact HB.out | apply below_alloc | apply pw_below_drewN | apply below_drew1 | refine below_set ?_ GE229.out | refine below_set ?_ GE239.out | refine below_set ?_ GE245.out) | exact HB.out)) hb); clear BK229; clear BK239; clear BK245; clear HB; have BK229 := n0_; have BK239 := n1_; have BK245 := n2_; have HB := n3_; clear n0_ n1_ n2_ n3_; (try clear hb); (try clear hb2); (try clear hk); (try clear hi)) | ((with_reducible refine gate_callee (f := 29) rfl ?_); refine goesL_ (some 58) rfl rfl Try.func29 (by kernel_rfl) rfl #[.slice A0 l0.length c0, .string a1] rfl (by (try simp only [List.map_toArray, List.map_cons, List.map_nil]); first | done | rfl | (simp only [List.length_drop, List.length_take]; rfl)) ?_; (with_reducible refine (culetref53_Weigh.calls kj3 _ _ l0 a1 t248 t249 _ ?side1 ?side2 A24.out).mono ?_); (case side1 => repeat (first | exact (Kd.C_below HR0.out HB.out) | (with_reducible refine Kd.C_alloc ?_ _) | (with_reducible refine Kd.C_drewN ?_ _) | (with_reducible refine Kd.C_drew ?_))); (case side2 => exact HC0.out); rintro e w46 ⟨rfl, hb⟩; refine ⟨_, rfl, ?_⟩; have n0_ := Aside0.mk (blk_below (g := gb229) (by (with_reducible repeat (first | refine blk_drewN ?_ _ | refine blk_drew ?_ | refine blk_alloc ?_ _)); exact BK229.out) hb); have n1_ := Aside0.mk (blk_below (g := gb239) (by (with_reducible repeat (first | refine blk_drewN ?_ _ | refine blk_drew ?_ | refine blk_alloc ?_ _)); exact BK239.out) hb); have n2_ := Aside0.mk (blk_below (g := gb245) (by (with_reducible repeat (first | refine blk_drewN ?_ _ | refine blk_drew ?_ | refine blk_alloc ?_ _)); exact BK245.out) hb); have n3_ := Aside0.mk (below_step (by repeat (first | (with_reducible first | exact HB.out | apply below_alloc | apply pw_below_drewN | apply below_drew1 | refine below_set ?_ GE229.out | refine below_set ?_ GE239.out | refine below_set ?_ GE245.out) | exact HB.out)) hb); clear BK229; clear BK239; clear BK245; clear HB; have BK229 := n0_; have BK239 := n1_; have BK245 := n2_; have HB := n3_; clear n0_ n1_ n2_ n3_; (try clear hb); (try clear hb2); (try clear hk); (try clear hi); have hcz47_0 : w46.cell? ⟨gb229, 0, none⟩ = some (.string a2_0) := (blk_cell BK229.out 0).trans rfl; have hcz47_1 : w46.cell? ⟨gb229, 1, none⟩ = some (.slice A2_1 l2_1.length c2_1) := (blk_cell BK229.out 1).trans rfl; have hfz47_0 := blk_frozen BK229.out 0; have hfz47_1 := blk_frozen BK229.out 1) | ((with_reducible refine gate_callee (f := 31) rfl ?_); refine goesL_ (some 64) rfl rfl Try.func31 (by kernel_rfl) rfl #[.agg #[.string a2_0, .slice A2_1 l2_1.length c2_1]] rfl (by (try simp only [List.map_toArray, List.map_cons, List.map_nil]); first | done | rfl | (simp only [List.length_drop, List.length_take]; rfl)) ?_; (with_reducible refine (culetlaw44_Own.calls kj3 a2_0 _ _ l2_1 t250 t251 _ ?side1 ?side2 A25.out).mono ?_); (case side1 => repeat (first | exact (Kd.C_below HR2_1.out HB.out) | (with_reducible refine Kd.C_alloc ?_ _) | (with_reducible refine Kd.C_drewN ?_ _) | (with_reducible refine Kd.C_drew ?_))); (case side2 => exact HC2_1.out); rintro e w48 ⟨v252, rfl, ho0, hb⟩; refine ⟨_, rfl, ?_⟩; have n0_ := Aside0.mk (Kd.R_lower ho0 (below_size (by repeat (first | (with_reducible first | exact HB.out | apply below_alloc | apply pw_below_drewN | apply below_drew1 | refine below_set ?_ GE229.out | refine below_set ?_ GE239.out | refine below_set ?_ GE245.out) | exact HB.out)))); have n1_ := Aside0.mk (blk_below (g := gb229) (by (with_reducible repeat (first | refine blk_drewN ?_ _ | refine blk_drew ?_ | refine blk_alloc ?_ _)); exact BK229.out) hb); have n2_ := Aside0.mk (blk_below (g := gb239) (by (with_reducible repeat (first | refine blk_drewN ?_ _ | refine blk_drew ?_ | refine blk_alloc ?_ _)); exact BK239.out) hb); have n3_ := Aside0.mk (blk_below (g := gb245) (by (with_reducible repeat (first | refine blk_drewN ?_ _ | refine blk_drew ?_ | refine blk_alloc ?_ _)); exact BK245.out) hb); have n4_ := Aside0.mk (below_step (by repeat (first | (with_reducible first | exact HB.out | apply below_alloc | apply pw_below_drewN | apply below_drew1 | refine below_set ?_ GE229.out | refine below_set ?_ GE239.out | refine below_set ?_ GE245.out) | exact HB.out)) hb); clear BK229; clear BK239; clear BK245; clear HB; have HO253 := n0_; have BK229 := n1_; have BK239 := n2_; have BK245 := n3_; have HB := n4_; clear n0_ n1_ n2_ n3_ n4_; (try clear hb); (try clear hb2); (try clear hk); (try clear hi); (try clear ho0); obtain ⟨Ao49, co49, eo49⟩ := Kd.R_slice HO253.out; subst eo49) | ((with_reducible refine gate_callee (f := 30) rfl ?_); refine goesL_ (some 65) rfl rfl Try.func30 (by kernel_rfl) rfl #[.slice A0 l0.length c0, .agg #[.string t250, .slice Ao49 t251.length co49]] rfl (by (try simp only [List.map_toArray, List.map_cons, List.map_nil]); first | done | rfl | (simp only [List.length_drop, List.length_take]; rfl)) ?_; (with_reducible refine (parcel_Value.calls kj3 _ _ l0 t250 _ _ t251 t254 t255 _ ?side1 ?side2 ?side3 ?side4 A26.out).mono ?_); (case side1 => repeat (first | exact (Kd.C_below HR0.out HB.out) | (with_reducible refine Kd.C_alloc ?_ _) | (with_reducible refine Kd.C_drewN ?_ _) | (with_reducible refine Kd.C_drew ?_))); (case side2 => exact HC0.out); (case side3 => repeat (first | exact (Kd.R_reads' HO253.out).2.2 | (with_reducible refine Kd.C_alloc ?_ _) | (with_reducible refine Kd.C_drewN ?_ _) | (with_reducible refine Kd.C_drew ?_))); (case side4 => exact (Kd.R_reads' HO253.out).2.1); rintro e w50 ⟨rfl, hb⟩; refine ⟨_, rfl, ?_⟩; have n0_ := Aside0.mk (Kd.R_below (by (with_reducible repeat (first | apply Kd.R_alloc | apply Kd.R_drewN | apply Kd.R_drew)); exact HO253.out) hb); have n1_ := Aside0.mk (blk_below (g := gb229) (by (with_reducible repeat (first | refine blk_drewN ?_ _ | refine blk_drew ?_ | refine blk_alloc ?_ _)); exact BK229.out) hb); have n2_ := Aside0.mk (blk_below (g := gb239) (by (with_reducible repeat (first | refine blk_drewN ?_ _ | refine blk_drew ?_ | refine blk_alloc ?_ _)); exact BK239.out) hb); have n3_ := Aside0.mk (blk_below (g := gb245) (by (with_reducible repeat (first | refine blk_drewN ?_ _ | refine blk_drew ?_ | refine blk_alloc ?_ _)); exact BK245.out) hb); have n4_ := Aside0.mk (below_step (by repeat (first | (with_reducible first | exact HB.out | apply below_alloc | apply pw_below_drewN | apply below_drew1 | refine below_set ?_ GE229.out | refine below_set ?_ GE239.out | refine below_set ?_ GE245.out) | exact HB.out)) hb); clear HO253; clear BK229; clear BK239; clear BK245; clear HB; have HO253 := n0_; have BK229 := n1_; have BK239 := n2_; have BK245 := n3_; have HB := n4_; clear n0_ n1_ n2_ n3_ n4_; (try clear hb); (try clear hb2); (try clear hk); (try clear hi); have hcz51_0 : w50.cell? ⟨gb229, 0, none⟩ = some (.string a2_0) := (blk_cell BK229.out 0).trans rfl; have hcz51_1 : w50.cell? ⟨gb229, 1, none⟩ = some (.slice A2_1 l2_1.length c2_1) := (blk_cell BK229.out 1).trans rfl; have hfz51_0 := blk_frozen BK229.out 0; have hfz51_1 := blk_frozen BK229.out 1) | ((with_reducible refine gate_callee (f := 32) rfl ?_); refine goesL_ (some 71) rfl rfl Try.func32 (by kernel_rfl) rfl #[.slice A0 l0.length c0, .agg #[.string a2_0, .slice A2_1 l2_1.length c2_1]] rfl (by (try simp only [List.map_toArray, List.map_cons, List.map_nil]); first | done | rfl | (simp only [List.length_drop, List.length_take]; rfl)) ?_; (with_reducible refine (culetref53_Value.calls kj3 _ _ l0 a2_0 _ _ l2_1 t256 t257 _ ?side1 ?side2 ?side3 ?side4 A27.out).mono ?_); (case side1 => repeat (first | exact (Kd.C_below HR0.out HB.out) | (with_reducible refine Kd.C_alloc ?_ _) | (with_reducible refine Kd.C_drewN ?_ _) | (with_reducible refine Kd.C_drew ?_))); (case side2 => exact HC0.out); (case side3 => repeat (first | exact (Kd.C_below HR2_1.out HB.out) | (with_reducible refine Kd.C_alloc ?_ _) | (with_reducible refine Kd.C_drewN ?_ _) | (with_reducible refine Kd.C_drew ?_))); (case side4 => exact HC2_1.out); rintro e w52 ⟨rfl, hb⟩; refine ⟨_, rfl, ?_⟩; have n0_ := Aside0.mk (Kd.R_below (by (with_reducible repeat (first | apply Kd.R_alloc | apply Kd.R_drewN | apply Kd.R_drew)); exact HO253.out) hb); have n1_ := Aside0.mk (blk_below (g := gb229) (by (with_reducible repeat (first | refine blk_drewN ?_ _ | refine blk_drew ?_ | refine blk_alloc ?_ _)); exact BK229.out) hb); have n2_ := Aside0.mk (blk_below (g := gb239) (by (with_reducible repeat (first | refine blk_drewN ?_ _ | refine blk_drew ?_ | refine blk_alloc ?_ _)); exact BK239.out) hb); have n3_ := Aside0.mk (blk_below (g := gb245) (by (with_reducible repeat (first | refine blk_drewN ?_ _ | refine blk_drew ?_ | refine blk_alloc ?_ _)); exact BK245.out) hb); have n4_ := Aside0.mk (below_step (by repeat (first | (with_reducible first | exact HB.out | apply below_alloc | apply pw_below_drewN | apply below_drew1 | refine below_set ?_ GE229.out | refine below_set ?_ GE239.out | refine below_set ?_ GE245.out) | exact HB.out)) hb); clear HO253; clear BK229; clear BK239; clear BK245; clear HB; have HO253 := n0_; have BK229 := n1_; have BK239 := n2_; have BK245 := n3_; have HB := n4_; clear n0_ n1_ n2_ n3_ n4_; (try clear hb); (try clear hb2); (try clear hk); (try clear hi)) | ((with_reducible refine gate_callee (f := 21) rfl ?_); refine goesL_ (some 75) rfl rfl Try.func21 (by kernel_rfl) rfl #[.slice A0 l0.length c0] rfl (by (try simp only [List.map_toArray, List.map_cons, List.map_nil]); first | done | rfl | (simp only [List.length_drop, List.length_take]; rfl)) ?_; (with_reducible refine (parcel_Valid.calls kj3 _ _ l0 t258 _ ?side1 ?side2 A28.out).mono ?_); (case side1 => repeat (first | exact (Kd.C_below HR0.out HB.out) | (with_reducible refine Kd.C_alloc ?_ _) | (with_reducible refine Kd.C_drewN ?_ _) | (with_reducible refine Kd.C_drew ?_))); (case side2 => exact HC0.out); rintro e w53 ⟨rfl, hb⟩; refine ⟨_, rfl, ?_⟩; have n0_ := Aside0.mk (Kd.R_below (by (with_reducible repeat (first | apply Kd.R_alloc | apply Kd.R_drewN | apply Kd.R_drew)); exact HO253.out) hb); have n1_ := Aside0.mk (blk_below (g := gb229) (by (with_reducible repeat (first | refine blk_drewN ?_ _ | refine blk_drew ?_ | refine blk_alloc ?_ _)); exact BK229.out) hb); have n2_ := Aside0.mk (blk_below (g := gb239) (by (with_reducible repeat (first | refine blk_drewN ?_ _ | refine blk_drew ?_ | refine blk_alloc ?_ _)); exact BK239.out) hb); have n3_ := Aside0.mk (blk_below (g := gb245) (by (with_reducible repeat (first | refine blk_drewN ?_ _ | refine blk_drew ?_ | refine blk_alloc ?_ _)); exact BK245.out) hb); have n4_ := Aside0.mk (below_step (by repeat (first | (with_reducible first | exact HB.out | apply below_alloc | apply pw_below_drewN | apply below_drew1 | refine below_set ?_ GE229.out | refine below_set ?_ GE239.out | refine below_set ?_ GE245.out) | exact HB.out)) hb); clear HO253; clear BK229; clear BK239; clear BK245; clear HB; have HO253 := n0_; have BK229 := n1_; have BK239 := n2_; have BK245 := n3_; have HB := n4_; clear n0_ n1_ n2_ n3_ n4_; (try clear hb); (try clear hb2); (try clear hk); (try clear hi)) | ((with_reducible refine gate_callee (f := 33) rfl ?_); refine goesL_ (some 77) rfl rfl Try.func33 (by kernel_rfl) rfl #[.slice A0 l0.length c0] rfl (by (try simp only [List.map_toArray, List.map_cons, List.map_nil]); first | done | rfl | (simp only [List.length_drop, List.length_take]; rfl)) ?_; (with_reducible refine (culetref53_Valid.calls kj3 _ _ l0 t259 _ ?side1 ?side2 A29.out).mono ?_); (case side1 => repeat (first | exact (Kd.C_below HR0.out HB.out) | (with_reducible refine Kd.C_alloc ?_ _) | (with_reducible refine Kd.C_drewN ?_ _) | (with_reducible refine Kd.C_drew ?_))); (case side2 => exact HC0.out); rintro e w54 ⟨rfl, hb⟩; refine ⟨_, rfl, ?_⟩; have n0_ := Aside0.mk (Kd.R_below (by (with_reducible repeat (first | apply Kd.R_alloc | apply Kd.R_drewN | apply Kd.R_drew)); exact HO253.out) hb); have n1_ := Aside0.mk (blk_below (g := gb229) (by (with_reducible repeat (first | refine blk_drewN ?_ _ | refine blk_drew ?_ | refine blk_alloc ?_ _)); exact BK229.out) hb); have n2_ := Aside0.mk (blk_below (g := gb239) (by (with_reducible repeat (first | refine blk_drewN ?_ _ | refine blk_drew ?_ | refine blk_alloc ?_ _)); exact BK239.out) hb); have n3_ := Aside0.mk (blk_below (g := gb245) (by (with_reducible repeat (first | refine blk_drewN ?_ _ | refine blk_drew ?_ | refine blk_alloc ?_ _)); exact BK245.out) hb); have n4_ := Aside0.mk (below_step (by repeat (first | (with_reducible first | exact HB.out | apply below_alloc | apply pw_below_drewN | apply below_drew1 | refine below_set ?_ GE229.out | refine below_set ?_ GE239.out | refine below_set ?_ GE245.out) | exact HB.out)) hb); clear HO253; clear BK229; clear BK239; clear BK245; clear HB; have HO253 := n0_; have BK229 := n1_; have BK239 := n2_; have BK245 := n3_; have HB := n4_; clear n0_ n1_ n2_ n3_ n4_; (try clear hb); (try clear hb2); (try clear hk); (try clear hi); obtain ⟨hcz55_0, hcz55_1, hcz55_2, hcz55_3⟩ := sqc4 BK239.out; obtain ⟨hfz55_0, hfz55_1, hfz55_2, hfz55_3⟩ := frozen4 BK239.out; obtain ⟨hcz56_0, hcz56_1, hcz56_2, hcz56_3⟩ := sqc4 BK245.out; obtain ⟨hfz56_0, hfz56_1, hfz56_2, hfz56_3⟩ := frozen4 BK245.out))
          go_ret
          exact ⟨by first | rfl | (simp [errW_none, errW_some] <;> rfl) | (simp [*, errW_none, errW_some] <;> rfl), by repeat (first | (with_reducible first | exact HB.out | apply below_alloc | apply pw_below_drewN | apply below_drew1 | refine below_set ?_ GE229.out | refine below_set ?_ GE239.out | refine below_set ?_ GE245.out) | exact HB.out)⟩
         ·rw [if_neg c35] at H
          have c35b0 : (t254 == t256) = false := beq_eq_false_iff_ne.mpr c35
          have c35b1 : (t254 != t256) = true := bne_iff_ne.mpr c35
          exact absurd ((Option.some.inj H).trans HTRUE.out) (by decide)
        ·rw [if_neg c34] at H
         have c34b0 : (t247 == t249) = false := beq_eq_false_iff_ne.mpr c34
         have c34b1 : (t247 != t249) = true := bne_iff_ne.mpr c34
         exact absurd ((Option.some.inj H).trans HTRUE.out) (by decide)
       ·rw [if_neg c33] at H
        have c33b0 : (t246 == t248) = false := beq_eq_false_iff_ne.mpr c33
        have c33b1 : (t246 != t248) = true := bne_iff_ne.mpr c33
        exact absurd ((Option.some.inj H).trans HTRUE.out) (by decide)
      ·rw [if_neg c32] at H
       have c32b0 : (t238 == t244) = false := by simpa using c32
       (try (have c32b1 : decide (t238 = t244) = false := by simpa using c32))
       (try (have c32b2 : (t238 == t244) = false := by simpa using c32))
       (try (have c32b3 : ¬ (t238 = t244) := by simpa using c32))
       clear c32
       exact absurd ((Option.some.inj H).trans HTRUE.out) (by decide)
     ·rw [if_neg c31] at H
      have c31b0 : (t234.toList == t240.toList && (t235.toList == t241.toList && (t236 == t242 && (t237 == t243)))) = false := by simpa using c31
      (try (have c31b1 : decide (t234.toList = t240.toList && (t235.toList == t241.toList && (t236 == t242 && (t237 == t243)))) = false := by simpa using c31))
      (try (have c31b2 : (t234.toList == t240.toList && (t235.toList == t241.toList && (t236 == t242 && (t237 == t243)))) = false := by simpa using c31))
      (try (have c31b3 : ¬ (t234.toList = t240.toList && (t235.toList == t241.toList && (t236 == t242 && (t237 == t243)))) := by simpa using c31))
      clear c31
      exact absurd ((Option.some.inj H).trans HTRUE.out) (by decide)
    ·rw [if_neg c30] at H
     have c30b0 : (t258 == t259) = false := by simpa using c30
     (try (have c30b1 : decide (t258 = t259) = false := by simpa using c30))
     (try (have c30b2 : (t258 == t259) = false := by simpa using c30))
     (try (have c30b3 : ¬ (t258 = t259) := by simpa using c30))
     clear c30
     exact absurd ((Option.some.inj H).trans HTRUE.out) (by decide)

/-- THE ONE PURE STATEMENT of culetlaw53_ParcelForms: yours. -/
def culetlaw53_ParcelForms.Pure : Prop := ∀ (x0 : List (S24)) (x1 : ByteArray) (x2 : S55), (AllV V24) x0 → (fun s_ : ByteArray => s_.size ≤ 9223372036854775807) x1 → V55 x2 → ∃ k, culetlaw53_ParcelForms.f k x0 x1 x2.f0 x2.f1 = some true

end Go.Proofs.Ytndbchcfjajgbaa.XP
