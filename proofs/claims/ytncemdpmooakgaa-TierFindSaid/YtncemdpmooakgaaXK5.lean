-- printed by xprint.py
import Derived.Test.YtncemdpmooakgaaXK0
import Derived.Test.YtncemdpmooakgaaXK2
import Derived.Test.YtncemdpmooakgaaXK3
import Derived.Test.YtncemdpmooakgaaXK4
import Derived.Test.YtncemdpmooakgaaHandFew
import Derived.Test.YtncemdpmooakgaaHandPrefix
import Derived.Test.YtncemdpmooakgaaHandSameF
import Derived.Test.YtncemdpmooakgaaHandTier
namespace Go.Proofs.Ytncemdpmooakgaa.XK
open Go.Proofs.Ytncemdpmooakgaa.XW
open Go.RowKit Go.Proofs.YtncemdpmooakgaaW.PrintWords Go.Proofs.YtncemdpmooakgaaW.PrintLast Go.Proofs.YtncemdpmooakgaaW.PrintMore
attribute [local go_sem] max2_int min2_int max_two min_two max_three min_three max_four min_four   -- for this text's walks alone
set_option linter.unusedVariables false
set_option linter.unusedSimpArgs false

/-! ### culetlaw16_TierFind: function 6 -/
mutual
def culetlaw16_TierFind.j0 : Nat → List (S73) → Bool → ByteArray → Int → ByteArray → Int → Bool → List (S51) → Int → Option (Bool)
 | 0, _, _, _, _, _, _, _, _, _ => none
 | k + 1, x0, x27, Qa0, Qa1, Qb0, Qb1, Qb2, Qb3, Qb4 => if x27 = true then (some true) else ((tier_Find.f x0 Qa0 Qa1).bind fun bt147 => ((culetref16_Find.f k x0 Qa0 Qa1).bind fun bt149 => (culetlaw16_TierFind.l0 k bt147.1 bt147.2 bt149.1 bt149.2 x0 (x0.length : Int) 0 Qb0 Qb1 Qb2 Qb3 Qb4)))
def culetlaw16_TierFind.l0 : Nat → Int → Bool → Int → Bool → List (S73) → Int → Int → ByteArray → Int → Bool → List (S51) → Int → Option (Bool)
 | 0, _, _, _, _, _, _, _, _, _, _, _, _ => none
 | k + 1, x7, x8, x9, x10, x40, x41, x42, Qb0, Qb1, Qb2, Qb3, Qb4 => if x42 < x41 then (if 0 ≤ x42 then (if x42 < (x40.length : Int) then ((tier_Part.f ((rd_T73 x40 x42).f1.f0) ((rd_T73 x40 x42).f1.f1) ((rd_T73 x40 x42).f1.f2)).bind fun t170 => ((culetref16_Part.f ((rd_T73 x40 x42).f1.f0) ((rd_T73 x40 x42).f1.f1) ((rd_T73 x40 x42).f1.f2)).bind fun t171 => (if t170 = t171 then (culetlaw16_TierFind.l0 k x7 x8 x9 x10 x40 x41 (wrap64 (x42 + 1)) Qb0 Qb1 Qb2 Qb3 Qb4) else (some false)))) else (none)) else (none)) else ((tier_Prefix.f Qb0 Qb1 Qb2 Qb3 Qb4).bind fun bt151 => ((culetref16_Prefix.f Qb0 Qb1 Qb2 Qb3 Qb4).bind fun bt159 => (if x7 = x9 then (if (x8 == x10) = true then ((culetref14_Same.f bt151.1 bt151.2.1 bt151.2.2.1 bt151.2.2.2.1 bt159.1 bt159.2.1 bt159.2.2.1 bt159.2.2.2.1).bind fun t167 => (if t167 = true then (some (bt151.2.2.2.2 == bt159.2.2.2.2)) else (some false))) else (some false)) else (some false))))
end
def culetlaw16_TierFind.f (k : Nat) (l0 : List (S73)) (a1_0 : ByteArray) (a1_1 : Int) (a2_0 : ByteArray) (a2_1 : Int) (a2_2 : Bool) (l2_3 : List (S51)) (a2_4 : Int) : Option (Bool) := (culetlaw16_awake.f k).bind fun t145 => (if t145 = true then (if (l0.length : Int) > 100 then (culetlaw16_TierFind.j0 k l0 true a1_0 a1_1 a2_0 a2_1 a2_2 l2_3 a2_4) else ((culetref15_Few.f a2_0 a2_1 a2_2 l2_3).bind fun t146 => (culetlaw16_TierFind.j0 k l0 (!t146) a1_0 a1_1 a2_0 a2_1 a2_2 l2_3 a2_4))) else (some false))
theorem culetlaw16_TierFind.mono_l : ∀ k, (∀ y0 y1 y2 y3 y4 y5 y6 y7 y8, LeO (culetlaw16_TierFind.j0 k y0 y1 y2 y3 y4 y5 y6 y7 y8) (culetlaw16_TierFind.j0 (k + 1) y0 y1 y2 y3 y4 y5 y6 y7 y8)) ∧ (∀ y0 y1 y2 y3 y4 y5 y6 y7 y8 y9 y10 y11, LeO (culetlaw16_TierFind.l0 k y0 y1 y2 y3 y4 y5 y6 y7 y8 y9 y10 y11) (culetlaw16_TierFind.l0 (k + 1) y0 y1 y2 y3 y4 y5 y6 y7 y8 y9 y10 y11))
 | 0 => ⟨fun _ _ _ _ _ _ _ _ _ r h => by simp [culetlaw16_TierFind.j0] at h, fun _ _ _ _ _ _ _ _ _ _ _ _ r h => by simp [culetlaw16_TierFind.l0] at h⟩
 | k + 1 => by
  obtain ⟨ih0, ih1⟩ := culetlaw16_TierFind.mono_l k
  refine ⟨?_, ?_⟩
  ·intro y0 y1 y2 y3 y4 y5 y6 y7 y8
   unfold culetlaw16_TierFind.j0
   repeat' first
   | (with_reducible exact ih0 _ _ _ _ _ _ _ _ _)
   | (with_reducible exact ih1 _ _ _ _ _ _ _ _ _ _ _ _)
   | (with_reducible exact culetlaw16_awake.mono _)
   | (with_reducible exact culetref16_Find.mono _ _ _ _)
   | (with_reducible exact LeO.refl _)
   | (with_reducible exact LeO.none _)
   | (with_reducible refine LeO.ite ?_ ?_)
   | (with_reducible refine LeO.bind ?_ (fun _ => ?_))
   | exact ih0 _ _ _ _ _ _ _ _ _
   | exact ih1 _ _ _ _ _ _ _ _ _ _ _ _
   | exact culetlaw16_awake.mono _
   | exact culetref16_Find.mono _ _ _ _
   | exact LeO.none _
   | refine LeO.ite ?_ ?_
   | refine LeO.bind ?_ (fun _ => ?_)
  ·intro y0 y1 y2 y3 y4 y5 y6 y7 y8 y9 y10 y11
   unfold culetlaw16_TierFind.l0
   repeat' first
   | (with_reducible exact ih0 _ _ _ _ _ _ _ _ _)
   | (with_reducible exact ih1 _ _ _ _ _ _ _ _ _ _ _ _)
   | (with_reducible exact culetlaw16_awake.mono _)
   | (with_reducible exact culetref16_Find.mono _ _ _ _)
   | (with_reducible exact LeO.refl _)
   | (with_reducible exact LeO.none _)
   | (with_reducible refine LeO.ite ?_ ?_)
   | (with_reducible refine LeO.bind ?_ (fun _ => ?_))
   | exact ih0 _ _ _ _ _ _ _ _ _
   | exact ih1 _ _ _ _ _ _ _ _ _ _ _ _
   | exact culetlaw16_awake.mono _
   | exact culetref16_Find.mono _ _ _ _
   | exact LeO.none _
   | refine LeO.ite ?_ ?_
   | refine LeO.bind ?_ (fun _ => ?_)
theorem culetlaw16_TierFind.mono : ∀ a0 a1 a2 a3 a4 a5 a6 a7 k, LeO (culetlaw16_TierFind.f k a0 a1 a2 a3 a4 a5 a6 a7) (culetlaw16_TierFind.f (k + 1) a0 a1 a2 a3 a4 a5 a6 a7) := by
 intro a0 a1 a2 a3 a4 a5 a6 a7 k
 obtain ⟨ih0, ih1⟩ := culetlaw16_TierFind.mono_l k
 unfold culetlaw16_TierFind.f
 repeat' first
   | (with_reducible exact ih0 _ _ _ _ _ _ _ _ _)
   | (with_reducible exact ih1 _ _ _ _ _ _ _ _ _ _ _ _)
   | (with_reducible exact culetlaw16_awake.mono _)
   | (with_reducible exact culetref16_Find.mono _ _ _ _)
   | (with_reducible exact LeO.refl _)
   | (with_reducible exact LeO.none _)
   | (with_reducible refine LeO.ite ?_ ?_)
   | (with_reducible refine LeO.bind ?_ (fun _ => ?_))
   | exact ih0 _ _ _ _ _ _ _ _ _
   | exact ih1 _ _ _ _ _ _ _ _ _ _ _ _
   | exact culetlaw16_awake.mono _
   | exact culetref16_Find.mono _ _ _ _
   | exact LeO.none _
   | refine LeO.ite ?_ ?_
   | refine LeO.bind ?_ (fun _ => ?_)
set_option maxHeartbeats 8000000 in
set_option maxRecDepth 100000 in
theorem culetlaw16_TierFind.calls (k : Nat) (A0 : Option Addr) (c0 : Nat) (l0 : List (S73)) (a1_0 : ByteArray) (a1_1 : Int) (a2_0 : ByteArray) (a2_1 : Int) (a2_2 : Bool) (A2_3 : Option Addr) (c2_3 : Nat) (l2_3 : List (S51)) (a2_4 : Int) (r : Bool) (w : World) (hr0 : Kd.C k73 w A0 l0.length l0) (hc0 : l0.length ≤ c0) (hr2_3 : Kd.C k51 w A2_3 l2_3.length l2_3) (hc2_3 : l2_3.length ≤ c2_3) (h : culetlaw16_TierFind.f k l0 a1_0 a1_1 a2_0 a2_1 a2_2 l2_3 a2_4 = some r) (ht_ : r = true) :
  Calls Try.prog 6 #[.slice A0 l0.length c0, .agg #[.string a1_0, .int .i64 a1_1], .agg #[.string a2_0, .int .i64 a2_1, .bool a2_2, .slice A2_3 l2_3.length c2_3, .int .i64 a2_4]] w fun e w' => e = .returned (.bool r) ∧ Below w.heap.size w w' := by
 have hu64 := Try.underlying64
 have hu66 := Try.underlying66
 have hu36 := Try.underlying36
 have hu73 := Try.underlying73
 have hu71 := Try.underlying71
 have HTRUE := Aside0.mk ht_
 clear ht_
 have HR0 := Aside0.mk hr0
 have HC0 := Aside0.mk hc0
 clear hr0 hc0
 have HR2_3 := Aside0.mk hr2_3
 have HC2_3 := Aside0.mk hc2_3
 clear hr2_3 hc2_3
 have HB := Aside0.mk (Below.refl w.heap.size w)
 have H : ((culetlaw16_awake.f k).bind fun t145 => (if t145 = true then (if (l0.length : Int) > 100 then (culetlaw16_TierFind.j0 k l0 true a1_0 a1_1 a2_0 a2_1 a2_2 l2_3 a2_4) else ((culetref15_Few.f a2_0 a2_1 a2_2 l2_3).bind fun t146 => (culetlaw16_TierFind.j0 k l0 (!t146) a1_0 a1_1 a2_0 a2_1 a2_2 l2_3 a2_4))) else (some false))) = some r := h
 clear h
 replace H := Option.bind_eq_some_iff.mp H
 obtain ⟨t145, A40, H⟩ := H
 replace H : (if t145 = true then (if (l0.length : Int) > 100 then (culetlaw16_TierFind.j0 k l0 true a1_0 a1_1 a2_0 a2_1 a2_2 l2_3 a2_4) else ((culetref15_Few.f a2_0 a2_1 a2_2 l2_3).bind fun t146 => (culetlaw16_TierFind.j0 k l0 (!t146) a1_0 a1_1 a2_0 a2_1 a2_2 l2_3 a2_4))) else (some false)) = some r := H
 have A4 := Aside0.mk A40
 clear A40
 by_cases c5 : t145 = true
 ·subst c5
  have H1 : (if (l0.length : Int) > 100 then (culetlaw16_TierFind.j0 k l0 true a1_0 a1_1 a2_0 a2_1 a2_2 l2_3 a2_4) else ((culetref15_Few.f a2_0 a2_1 a2_2 l2_3).bind fun t146 => (culetlaw16_TierFind.j0 k l0 (!t146) a1_0 a1_1 a2_0 a2_1 a2_2 l2_3 a2_4))) = some r := by rw [if_pos rfl] at H; exact H
  clear H
  have H := H1
  clear H1
  have HC6 := Aside0.mk H
  clear H
  go_enter Try.func6, Try.ntmps6
  go_upto_region 3 with (first | ((with_reducible refine gate_dst (N := 4) rfl ?_); refine box_event ?hg (N := 4) ?hd (cs := #[.string a1_0, .int .i64 a1_1]) (t := 64) ?hr ?_; (case hd => rfl); (case hg => rfl); (case hr => go_simp; try rfl); intro gb143 hg w7 hbox hb; have n0_ := Aside0.mk (below_step (by repeat first | exact HB.out | apply below_alloc | apply pw_below_drewN | apply below_drew1) hb); have n1_ := Aside0.mk (hbox); have n2_ := Aside0.mk ((by rw [hg]; exact (below_size (by repeat first | exact HB.out | apply below_alloc | apply pw_below_drewN | apply below_drew1)) : w.heap.size ≤ gb143)); have n3_ := Aside0.mk ((by rw [hg]; exact (below_size (by repeat first | exact HB.out | apply below_alloc | apply pw_below_drewN | apply below_drew1)) : w.heap.size ≤ gb143)); clear HB; have HB := n0_; have BK143 := n1_; have GW143 := n2_; have GE143 := n3_; clear n0_ n1_ n2_ n3_; clear hb hbox hg) | ((with_reducible refine gate_dst (N := 5) rfl ?_); refine box_event ?hg (N := 5) ?hd (cs := #[.string a2_0, .int .i64 a2_1, .bool a2_2, .slice A2_3 l2_3.length c2_3, .int .i64 a2_4]) (t := 66) ?hr ?_; (case hd => rfl); (case hg => rfl); (case hr => go_simp; try rfl); intro gb144 hg w8 hbox hb; have n0_ := Aside0.mk (blk_below (g := gb143) (by (with_reducible repeat (first | refine blk_drewN ?_ _ | refine blk_drew ?_ | refine blk_alloc ?_ _)); exact BK143.out) hb); have n1_ := Aside0.mk (below_step (by repeat (first | (with_reducible first | exact HB.out | apply below_alloc | apply pw_below_drewN | apply below_drew1 | refine below_set ?_ GE143.out) | exact HB.out)) hb); have n2_ := Aside0.mk (hbox); have n3_ := Aside0.mk ((by rw [hg]; exact (below_size (by repeat (first | (with_reducible first | exact HB.out | apply below_alloc | apply pw_below_drewN | apply below_drew1 | refine below_set ?_ GE143.out) | exact HB.out))) : w.heap.size ≤ gb144)); have n4_ := Aside0.mk ((by rw [hg]; exact (below_size (by repeat (first | (with_reducible first | exact HB.out | apply below_alloc | apply pw_below_drewN | apply below_drew1 | refine below_set ?_ GE143.out) | exact HB.out))) : w.heap.size ≤ gb144)); have n5_ := Aside0.mk ((by rw [hg]; exact Nat.ne_of_lt (blk_lt (g := gb143) (by (with_reducible repeat (first | refine blk_drewN ?_ _ | refine blk_drew ?_ | refine blk_alloc ?_ _)); exact BK143.out)) : gb143 ≠ gb144)); have n6_ := Aside0.mk ((by rw [hg]; exact Nat.ne_of_gt (blk_lt (g := gb143) (by (with_reducible repeat (first | refine blk_drewN ?_ _ | refine blk_drew ?_ | refine blk_alloc ?_ _)); exact BK143.out)) : gb144 ≠ gb143)); clear BK143; clear HB; have BK143 := n0_; have HB := n1_; have BK144 := n2_; have GW144 := n3_; have GE144 := n4_; have NB143_144 := n5_; have NB144_143 := n6_; clear n0_ n1_ n2_ n3_ n4_ n5_ n6_; clear hb hbox hg) | ((with_reducible refine gate_callee (f := 18) rfl ?_); refine goesL_ (some 17) rfl rfl Try.func18 (by kernel_rfl) rfl #[] rfl (by (try simp only [List.map_toArray, List.map_cons, List.map_nil]); first | done | rfl | (simp only [List.length_drop, List.length_take]; rfl)) ?_; (with_reducible refine (culetlaw16_awake.calls k  true _ A4.out).mono ?_); rintro e w9 ⟨rfl, hb⟩; refine ⟨_, rfl, ?_⟩; have n0_ := Aside0.mk (blk_below (g := gb143) (by (with_reducible repeat (first | refine blk_drewN ?_ _ | refine blk_drew ?_ | refine blk_alloc ?_ _)); exact BK143.out) hb); have n1_ := Aside0.mk (blk_below (g := gb144) (by (with_reducible repeat (first | refine blk_drewN ?_ _ | refine blk_drew ?_ | refine blk_alloc ?_ _)); exact BK144.out) hb); have n2_ := Aside0.mk (below_step (by repeat (first | (with_reducible first | exact HB.out | apply below_alloc | apply pw_below_drewN | apply below_drew1 | refine below_set ?_ GE143.out | refine below_set ?_ GE144.out) | exact HB.out)) hb); clear BK143; clear BK144; clear HB; have BK143 := n0_; have BK144 := n1_; have HB := n2_; clear n0_ n1_ n2_; (try clear hb); (try clear hb2); (try clear hk); (try clear hi)))
  (try simp only [Act.put, List.setIfInBounds_toArray, List.set_cons_zero, List.set_cons_succ])
  go_cut [27] (fun v27 wc => ∃ (kq : Nat) (x27_5 : Bool), v27 = .bool x27_5 ∧ Aside0 (culetlaw16_TierFind.j0 kq l0 x27_5 a1_0 a1_1 a2_0 a2_1 a2_2 l2_3 a2_4 = some r) ∧ Aside0 (kq ≤ k) ∧ Aside0 (wc.heap[gb143]? = some (.cells #[.string a1_0, .int .i64 a1_1] 64 (0, 0))) ∧ Aside0 (wc.heap[gb144]? = some (.cells #[.string a2_0, .int .i64 a2_1, .bool a2_2, (.slice A2_3 l2_3.length c2_3), .int .i64 a2_4] 66 (0, 0))) ∧ Aside0 (Below w.heap.size w wc))
  case first =>
   have H := HC6.out
   clear HC6
   by_cases c10 : (l0.length : Int) > 100
   ·rw [if_pos c10] at H
    have c10b0 : decide (100 < (l0.length : Int)) = true := decide_eq_true c10
    have c10b1 : decide (100 < l0.length) = true := decide_eq_true (by omega)
    clear c10
    (first | rw [c10b0] | (simp only [i64_w, i32_w]; rw [c10b0]) | skip)
    have H' := Aside0.mk H
    clear H
    go_wp2_with (first | (with_reducible refine gate_load (T := 73) rfl ?_; refine ev_load 13 rfl rfl Try.underlying73 rfl (by kernel_rfl) ?hx ?h0 ?hr ?_; (case hx => first | rfl | (go_simp; done) | (go_simp; rfl)); (case h0 => first | assumption | (go_simp; done)); (case hr => repeat first | exact cn | (refine cc (by first | assumption | (go_simp; done)) ?_))))
    go_meet
    case rel => exact ⟨_, (true), (by first | rfl | (simp; done) | (simp [*]; done)), H', ⟨by first | omega | exact Nat.le_refl _⟩, ⟨by (with_reducible repeat (first | refine blk_drewN ?_ _ | refine blk_drew ?_ | refine blk_alloc ?_ _)); exact BK143.out⟩, ⟨by (with_reducible repeat (first | refine blk_drewN ?_ _ | refine blk_drew ?_ | refine blk_alloc ?_ _)); exact BK144.out⟩, ⟨by repeat (first | (with_reducible first | exact HB.out | apply below_alloc | apply pw_below_drewN | apply below_drew1 | refine below_set ?_ GE143.out | refine below_set ?_ GE144.out) | exact HB.out)⟩⟩
   ·rw [if_neg c10] at H
    have c10b0 : decide (100 < (l0.length : Int)) = false := decide_eq_false c10
    have c10b1 : decide (100 < l0.length) = false := decide_eq_false (by omega)
    clear c10
    (first | rw [c10b0] | (simp only [i64_w, i32_w]; rw [c10b0]) | skip)
    replace H := Option.bind_eq_some_iff.mp H
    obtain ⟨t146, A110, H⟩ := H
    replace H : (culetlaw16_TierFind.j0 k l0 (!t146) a1_0 a1_1 a2_0 a2_1 a2_2 l2_3 a2_4) = some r := H
    have A11 := Aside0.mk A110
    clear A110
    have H' := Aside0.mk H
    clear H
    have hnb12 := NB144_143.out
    have hnc12 := NB143_144.out
    have hcz13_0 : w9.cell? ⟨gb144, 0, none⟩ = some (.string a2_0) := (blk_cell BK144.out 0).trans rfl
    have hcz13_1 : w9.cell? ⟨gb144, 1, none⟩ = some (.int .i64 a2_1) := (blk_cell BK144.out 1).trans rfl
    have hcz13_2 : w9.cell? ⟨gb144, 2, none⟩ = some (.bool a2_2) := (blk_cell BK144.out 2).trans rfl
    have hcz13_3 : w9.cell? ⟨gb144, 3, none⟩ = some (.slice A2_3 l2_3.length c2_3) := (blk_cell BK144.out 3).trans rfl
    have hcz13_4 : w9.cell? ⟨gb144, 4, none⟩ = some (.int .i64 a2_4) := (blk_cell BK144.out 4).trans rfl
    have hfz13_0 := blk_frozen BK144.out 0
    have hfz13_1 := blk_frozen BK144.out 1
    have hfz13_2 := blk_frozen BK144.out 2
    have hfz13_3 := blk_frozen BK144.out 3
    have hfz13_4 := blk_frozen BK144.out 4
    go_wp2_with (first | (with_reducible refine gate_load (T := 73) rfl ?_; refine ev_load 13 rfl rfl Try.underlying73 rfl (by kernel_rfl) ?hx ?h0 ?hr ?_; (case hx => first | rfl | (go_simp; done) | (go_simp; rfl)); (case h0 => first | assumption | (go_simp; done)); (case hr => repeat first | exact cn | (refine cc (by first | assumption | (go_simp; done)) ?_))) | (go_at_call 24; (with_reducible refine (culetref15_Few.calls a2_0 a2_1 a2_2 _ _ l2_3 t146 _ ?side1 ?side2 A11.out).mono ?_); (case side1 => repeat (first | exact (Kd.C_below HR2_3.out HB.out) | (with_reducible refine Kd.C_alloc ?_ _) | (with_reducible refine Kd.C_drewN ?_ _) | (with_reducible refine Kd.C_drew ?_))); (case side2 => exact HC2_3.out); rintro e w14 ⟨rfl, hb⟩; have n0_ := Aside0.mk (blk_below (g := gb143) (by (with_reducible repeat (first | refine blk_drewN ?_ _ | refine blk_drew ?_ | refine blk_alloc ?_ _)); exact BK143.out) hb); have n1_ := Aside0.mk (blk_below (g := gb144) (by (with_reducible repeat (first | refine blk_drewN ?_ _ | refine blk_drew ?_ | refine blk_alloc ?_ _)); exact BK144.out) hb); have n2_ := Aside0.mk (below_step (by repeat (first | (with_reducible first | exact HB.out | apply below_alloc | apply pw_below_drewN | apply below_drew1 | refine below_set ?_ GE143.out | refine below_set ?_ GE144.out) | exact HB.out)) hb); clear BK143; clear BK144; clear HB; have BK143 := n0_; have BK144 := n1_; have HB := n2_; clear n0_ n1_ n2_; (try clear hb); (try clear hb2); (try clear hk); (try clear hi)))
    go_meet
    case rel => exact ⟨_, (!t146), (by first | rfl | (simp; done) | (simp [*]; done)), H', ⟨by first | omega | exact Nat.le_refl _⟩, ⟨by (with_reducible repeat (first | refine blk_drewN ?_ _ | refine blk_drew ?_ | refine blk_alloc ?_ _)); exact BK143.out⟩, ⟨by (with_reducible repeat (first | refine blk_drewN ?_ _ | refine blk_drew ?_ | refine blk_alloc ?_ _)); exact BK144.out⟩, ⟨by repeat (first | (with_reducible first | exact HB.out | apply below_alloc | apply pw_below_drewN | apply below_drew1 | refine below_set ?_ GE143.out | refine below_set ?_ GE144.out) | exact HB.out)⟩⟩
  case rest =>
   clear HC6
   try clear c1
   try clear c2
   try clear p2
   try clear c5
   try clear c6
   try clear c10
   try clear c10b0
   try clear c10b1
   try clear c12
   try clear hcz13_0
   try clear hcz13_1
   try clear hcz13_2
   try clear hcz13_3
   try clear hcz13_4
   try clear hfz13_0
   try clear hfz13_1
   try clear hfz13_2
   try clear hfz13_3
   try clear hfz13_4
   obtain ⟨kq, x27_5, rfl, HA, HJ5, BK143, BK144, HB⟩ := hcut
   cases kq with
   | zero => exact absurd HA.out (by simp [culetlaw16_TierFind.j0])
   | succ kj5 =>
    have H := HA.out
    clear HA
    simp only [culetlaw16_TierFind.j0] at H
    by_cases c15 : x27_5 = true
    ·subst c15
     have H1 : (some true) = some r := by rw [if_pos rfl] at H; exact H
     clear H
     have H := H1
     clear H1
     obtain rfl := Option.some.inj H
     go_wp2_with (first | (with_reducible refine gate_load (T := 73) rfl ?_; refine ev_load 13 rfl rfl Try.underlying73 rfl (by kernel_rfl) ?hx ?h0 ?hr ?_; (case hx => first | rfl | (go_simp; done) | (go_simp; rfl)); (case h0 => first | assumption | (go_simp; done)); (case hr => repeat first | exact cn | (refine cc (by first | assumption | (go_simp; done)) ?_))))
     go_ret
     exact ⟨by first | rfl | (simp [errW_none, errW_some] <;> rfl) | (simp [*, errW_none, errW_some] <;> rfl), by repeat (first | (with_reducible first | exact HB.out | apply below_alloc | apply pw_below_drewN | apply below_drew1 | refine below_set ?_ GE143.out | refine below_set ?_ GE144.out) | exact HB.out)⟩
    ·replace c15 := Bool.eq_false_iff.mpr c15
     subst c15
     have H1 : ((tier_Find.f l0 a1_0 a1_1).bind fun bt147 => ((culetref16_Find.f kj5 l0 a1_0 a1_1).bind fun bt149 => (culetlaw16_TierFind.l0 kj5 bt147.1 bt147.2 bt149.1 bt149.2 l0 (l0.length : Int) 0 a2_0 a2_1 a2_2 l2_3 a2_4))) = some r := by rw [if_neg (show ¬ (false = true) by decide)] at H; exact H
     clear H
     have H := H1
     clear H1
     replace H := Option.bind_eq_some_iff.mp H
     obtain ⟨⟨t147, t148⟩, A160, H⟩ := H
     replace H : ((culetref16_Find.f kj5 l0 a1_0 a1_1).bind fun bt149 => (culetlaw16_TierFind.l0 kj5 t147 t148 bt149.1 bt149.2 l0 (l0.length : Int) 0 a2_0 a2_1 a2_2 l2_3 a2_4)) = some r := H
     have A16 := Aside0.mk A160
     clear A160
     replace H := Option.bind_eq_some_iff.mp H
     obtain ⟨⟨t149, t150⟩, A170, H⟩ := H
     replace H : (culetlaw16_TierFind.l0 kj5 t147 t148 t149 t150 l0 (l0.length : Int) 0 a2_0 a2_1 a2_2 l2_3 a2_4) = some r := H
     have A17 := Aside0.mk A170
     clear A170
     have H' := Aside0.mk H
     clear H
     have hnb18 := NB143_144.out
     have hnc18 := NB144_143.out
     have hcz19_0 : wc.cell? ⟨gb143, 0, none⟩ = some (.string a1_0) := (blk_cell BK143.out 0).trans rfl
     have hcz19_1 : wc.cell? ⟨gb143, 1, none⟩ = some (.int .i64 a1_1) := (blk_cell BK143.out 1).trans rfl
     have hfz19_0 := blk_frozen BK143.out 0
     have hfz19_1 := blk_frozen BK143.out 1
     go_wp2_with (first | (with_reducible refine gate_load (T := 73) rfl ?_; refine ev_load 13 rfl rfl Try.underlying73 rfl (by kernel_rfl) ?hx ?h0 ?hr ?_; (case hx => first | rfl | (go_simp; done) | (go_simp; rfl)); (case h0 => first | assumption | (go_simp; done)); (case hr => repeat first | exact cn | (refine cc (by first | assumption | (go_simp; done)) ?_))) | ((with_reducible refine gate_callee (f := 25) rfl ?_); refine goesL_ (some 31) rfl rfl Try.func25 (by kernel_rfl) rfl #[.slice A0 l0.length c0, .agg #[.string a1_0, .int .i64 a1_1]] rfl (by (try simp only [List.map_toArray, List.map_cons, List.map_nil]); first | done | rfl | (simp only [List.length_drop, List.length_take]; rfl)) ?_; (with_reducible refine (tier_Find.calls _ _ l0 a1_0 a1_1 t147 t148 _ ?side1 ?side2 A16.out).mono ?_); (case side1 => repeat (first | exact (Kd.C_below HR0.out HB.out) | (with_reducible refine Kd.C_alloc ?_ _) | (with_reducible refine Kd.C_drewN ?_ _) | (with_reducible refine Kd.C_drew ?_))); (case side2 => exact HC0.out); rintro e w20 ⟨rfl, hb⟩; refine ⟨_, rfl, ?_⟩; have n0_ := Aside0.mk (blk_below (g := gb143) (by (with_reducible repeat (first | refine blk_drewN ?_ _ | refine blk_drew ?_ | refine blk_alloc ?_ _)); exact BK143.out) hb); have n1_ := Aside0.mk (blk_below (g := gb144) (by (with_reducible repeat (first | refine blk_drewN ?_ _ | refine blk_drew ?_ | refine blk_alloc ?_ _)); exact BK144.out) hb); have n2_ := Aside0.mk (below_step (by repeat (first | (with_reducible first | exact HB.out | apply below_alloc | apply pw_below_drewN | apply below_drew1 | refine below_set ?_ GE143.out | refine below_set ?_ GE144.out) | exact HB.out)) hb); clear BK143; clear BK144; clear HB; have BK143 := n0_; have BK144 := n1_; have HB := n2_; clear n0_ n1_ n2_; (try clear hb); (try clear hb2); (try clear hk); (try clear hi); have hcz21_0 : w20.cell? ⟨gb143, 0, none⟩ = some (.string a1_0) := (blk_cell BK143.out 0).trans rfl; have hcz21_1 : w20.cell? ⟨gb143, 1, none⟩ = some (.int .i64 a1_1) := (blk_cell BK143.out 1).trans rfl; have hfz21_0 := blk_frozen BK143.out 0; have hfz21_1 := blk_frozen BK143.out 1) | ((with_reducible refine gate_callee (f := 26) rfl ?_); refine goesL_ (some 37) rfl rfl Try.func26 (by kernel_rfl) rfl #[.slice A0 l0.length c0, .agg #[.string a1_0, .int .i64 a1_1]] rfl (by (try simp only [List.map_toArray, List.map_cons, List.map_nil]); first | done | rfl | (simp only [List.length_drop, List.length_take]; rfl)) ?_; (with_reducible refine (culetref16_Find.calls kj5 _ _ l0 a1_0 a1_1 t149 t150 _ ?side1 ?side2 A17.out).mono ?_); (case side1 => repeat (first | exact (Kd.C_below HR0.out HB.out) | (with_reducible refine Kd.C_alloc ?_ _) | (with_reducible refine Kd.C_drewN ?_ _) | (with_reducible refine Kd.C_drew ?_))); (case side2 => exact HC0.out); rintro e w22 ⟨rfl, hb⟩; refine ⟨_, rfl, ?_⟩; have n0_ := Aside0.mk (blk_below (g := gb143) (by (with_reducible repeat (first | refine blk_drewN ?_ _ | refine blk_drew ?_ | refine blk_alloc ?_ _)); exact BK143.out) hb); have n1_ := Aside0.mk (blk_below (g := gb144) (by (with_reducible repeat (first | refine blk_drewN ?_ _ | refine blk_drew ?_ | refine blk_alloc ?_ _)); exact BK144.out) hb); have n2_ := Aside0.mk (below_step (by repeat (first | (with_reducible first | exact HB.out | apply below_alloc | apply pw_below_drewN | apply below_drew1 | refine below_set ?_ GE143.out | refine below_set ?_ GE144.out) | exact HB.out)) hb); clear BK143; clear BK144; clear HB; have BK143 := n0_; have BK144 := n1_; have HB := n2_; clear n0_ n1_ n2_; (try clear hb); (try clear hb2); (try clear hk); (try clear hi)))
     go_loopg [42] kj5 (fun kq v42 w' => ∃ (x42_2 : Int), v42 = .int .i64 x42_2 ∧ Aside0 (culetlaw16_TierFind.l0 kq t147 t148 t149 t150 l0 (l0.length : Int) x42_2 a2_0 a2_1 a2_2 l2_3 a2_4 = some r) ∧ Aside0 (kq ≤ kj5) ∧ Aside0 (w'.heap[gb143]? = some (.cells #[.string a1_0, .int .i64 a1_1] 64 (0, 0))) ∧ Aside0 (w'.heap[gb144]? = some (.cells #[.string a2_0, .int .i64 a2_1, .bool a2_2, (.slice A2_3 l2_3.length c2_3), .int .i64 a2_4] 66 (0, 0))) ∧ Aside0 (Below w.heap.size w w'))
     case atStart => exact ⟨(0), (by first | rfl | (simp; done) | (simp [*]; done)), H', ⟨Nat.le_refl _⟩, ⟨by (with_reducible repeat (first | refine blk_drewN ?_ _ | refine blk_drew ?_ | refine blk_alloc ?_ _)); exact BK143.out⟩, ⟨by (with_reducible repeat (first | refine blk_drewN ?_ _ | refine blk_drew ?_ | refine blk_alloc ?_ _)); exact BK144.out⟩, ⟨by repeat (first | (with_reducible first | exact HB.out | apply below_alloc | apply pw_below_drewN | apply below_drew1 | refine below_set ?_ GE143.out | refine below_set ?_ GE144.out) | exact HB.out)⟩⟩
     case round =>
      clear H'
      try clear c1
      try clear c2
      try clear p2
      try clear c5
      try clear c6
      try clear c10
      try clear c10b0
      try clear c10b1
      try clear c12
      try clear c15
      try clear c18
      try clear hcz13_0
      try clear hcz13_1
      try clear hcz13_2
      try clear hcz13_3
      try clear hcz13_4
      try clear hcz19_0
      try clear hcz19_1
      try clear hcz21_0
      try clear hcz21_1
      try clear hfz13_0
      try clear hfz13_1
      try clear hfz13_2
      try clear hfz13_3
      try clear hfz13_4
      try clear hfz19_0
      try clear hfz19_1
      try clear hfz21_0
      try clear hfz21_1
      try clear p2
      obtain ⟨x42_2, rfl, HA, HK2, BK143, BK144, HB⟩ := hrel
      cases gk with
      | zero => exact absurd HA.out (by simp [culetlaw16_TierFind.l0])
      | succ k2 =>
       have H := HA.out
       clear HA
       simp only [culetlaw16_TierFind.l0] at H
       by_cases c23 : x42_2 < (l0.length : Int)
       ·rw [if_pos c23] at H
        have c23b0 : decide (x42_2 < (l0.length : Int)) = true := decide_eq_true c23
        clear c23
        by_cases c24 : 0 ≤ x42_2
        ·rw [if_pos c24] at H
         have c24b0 : decide (0 ≤ x42_2) = true := decide_eq_true c24
         clear c24
         by_cases c25 : x42_2 < (l0.length : Int)
         ·rw [if_pos c25] at H
          have c25b0 : decide (x42_2 < (l0.length : Int)) = true := decide_eq_true c25
          clear c25
          replace H := Option.bind_eq_some_iff.mp H
          obtain ⟨t170, A260, H⟩ := H
          replace H : ((culetref16_Part.f ((rd_T73 l0 x42_2).f1.f0) ((rd_T73 l0 x42_2).f1.f1) ((rd_T73 l0 x42_2).f1.f2)).bind fun t171 => (if t170 = t171 then (culetlaw16_TierFind.l0 k2 t147 t148 t149 t150 l0 (l0.length : Int) (wrap64 (x42_2 + 1)) a2_0 a2_1 a2_2 l2_3 a2_4) else (some false))) = some r := H
          have A26 := Aside0.mk A260
          clear A260
          replace H := Option.bind_eq_some_iff.mp H
          obtain ⟨t171, A270, H⟩ := H
          replace H : (if t170 = t171 then (culetlaw16_TierFind.l0 k2 t147 t148 t149 t150 l0 (l0.length : Int) (wrap64 (x42_2 + 1)) a2_0 a2_1 a2_2 l2_3 a2_4) else (some false)) = some r := H
          have A27 := Aside0.mk A270
          clear A270
          by_cases c28 : t170 = t171
          ·rw [if_pos c28] at H
           have c28b0 : (t170 == t171) = true := beq_iff_eq.mpr c28
           have c28b1 : (t170 != t171) = false := bne_eq_false_iff_eq.mpr c28
           clear c28
           have H' := Aside0.mk H
           clear H
           have p168 : 0 ≤ (x42_2 : Int) := of_decide_eq_true (by first | (with_reducible assumption) | assumption)
           have q168 : x42_2 < (l0.length : Int) := of_decide_eq_true (by first | (with_reducible assumption) | assumption)
           obtain ⟨ad168, e168, hx168_0, hx168_1, hx168_2, hx168_3, hx168_4, hx168_5, hx168_6, hx168_7, hx168_8, hx168_9, hx168_10, hx168_11, hx168_12, hx168_13⟩ := at_T73 HR0.out x42_2 p168 q168
           cases e168
           replace hx168_0 := (HB.out.cell (World.block_lt_of_cell? w _ hx168_0)).trans hx168_0
           replace hx168_1 := (HB.out.cell (World.block_lt_of_cell? w _ hx168_1)).trans hx168_1
           replace hx168_2 := (HB.out.cell (World.block_lt_of_cell? w _ hx168_2)).trans hx168_2
           replace hx168_3 := (HB.out.cell (World.block_lt_of_cell? w _ hx168_3)).trans hx168_3
           replace hx168_4 := (HB.out.cell (World.block_lt_of_cell? w _ hx168_4)).trans hx168_4
           replace hx168_5 := (HB.out.cell (World.block_lt_of_cell? w _ hx168_5)).trans hx168_5
           replace hx168_6 := (HB.out.cell (World.block_lt_of_cell? w _ hx168_6)).trans hx168_6
           replace hx168_7 := (HB.out.cell (World.block_lt_of_cell? w _ hx168_7)).trans hx168_7
           replace hx168_8 := (HB.out.cell (World.block_lt_of_cell? w _ hx168_8)).trans hx168_8
           replace hx168_9 := (HB.out.cell (World.block_lt_of_cell? w _ hx168_9)).trans hx168_9
           replace hx168_10 := (HB.out.cell (World.block_lt_of_cell? w _ hx168_10)).trans hx168_10
           replace hx168_11 := (HB.out.cell (World.block_lt_of_cell? w _ hx168_11)).trans hx168_11
           replace hx168_12 := (HB.out.cell (World.block_lt_of_cell? w _ hx168_12)).trans hx168_12
           replace hx168_13 := (HB.out.cell (World.block_lt_of_cell? w _ hx168_13)).trans hx168_13
           replace p168 := eq_true p168
           replace q168 := eq_true q168
           try go_wp2_with (first | (with_reducible refine gate_load (T := 73) rfl ?_; refine ev_load 13 rfl rfl Try.underlying73 rfl (by kernel_rfl) ?hx ?h0 ?hr ?_; (case hx => first | rfl | (go_simp; done) | (go_simp; rfl)); (case h0 => first | assumption | (go_simp; done)); (case hr => repeat first | exact cn | (refine cc (by first | assumption | (go_simp; done)) ?_))) | ((with_reducible refine gate_dst (N := 12) rfl ?_); refine box_event ?hg (N := 12) ?hd (cs := #[.string (⟨#[]⟩ : ByteArray), .int .i64 0, .int .i64 0, .int .i64 0, .bool false, .string (⟨#[]⟩ : ByteArray), .bool false, .string (⟨#[]⟩ : ByteArray), .bool false, .string (⟨#[]⟩ : ByteArray), .bool false, .string (⟨#[]⟩ : ByteArray), .bool false, .string (⟨#[]⟩ : ByteArray)]) (t := 73) ?hr ?_; (case hd => rfl); (case hg => rfl); (case hr => go_simp; try rfl); intro gb169 hg w29 hbox hb; have n0_ := Aside0.mk (blk_below (g := gb143) (by (with_reducible repeat (first | refine blk_drewN ?_ _ | refine blk_drew ?_ | refine blk_alloc ?_ _)); exact BK143.out) hb); have n1_ := Aside0.mk (blk_below (g := gb144) (by (with_reducible repeat (first | refine blk_drewN ?_ _ | refine blk_drew ?_ | refine blk_alloc ?_ _)); exact BK144.out) hb); have n2_ := Aside0.mk (below_step (by repeat (first | (with_reducible first | exact HB.out | apply below_alloc | apply pw_below_drewN | apply below_drew1 | refine below_set ?_ GE143.out | refine below_set ?_ GE144.out) | exact HB.out)) hb); have n3_ := Aside0.mk (hbox); have n4_ := Aside0.mk ((by rw [hg]; exact (below_size (by repeat (first | (with_reducible first | exact HB.out | apply below_alloc | apply pw_below_drewN | apply below_drew1 | refine below_set ?_ GE143.out | refine below_set ?_ GE144.out) | exact HB.out))) : w.heap.size ≤ gb169)); have n5_ := Aside0.mk ((by rw [hg]; exact (below_size (by repeat (first | (with_reducible first | exact HB.out | apply below_alloc | apply pw_below_drewN | apply below_drew1 | refine below_set ?_ GE143.out | refine below_set ?_ GE144.out) | exact HB.out))) : w.heap.size ≤ gb169)); have n6_ := Aside0.mk ((by rw [hg]; exact Nat.ne_of_lt (blk_lt (g := gb143) (by (with_reducible repeat (first | refine blk_drewN ?_ _ | refine blk_drew ?_ | refine blk_alloc ?_ _)); exact BK143.out)) : gb143 ≠ gb169)); have n7_ := Aside0.mk ((by rw [hg]; exact Nat.ne_of_gt (blk_lt (g := gb143) (by (with_reducible repeat (first | refine blk_drewN ?_ _ | refine blk_drew ?_ | refine blk_alloc ?_ _)); exact BK143.out)) : gb169 ≠ gb143)); have n8_ := Aside0.mk ((by rw [hg]; exact Nat.ne_of_lt (blk_lt (g := gb144) (by (with_reducible repeat (first | refine blk_drewN ?_ _ | refine blk_drew ?_ | refine blk_alloc ?_ _)); exact BK144.out)) : gb144 ≠ gb169)); have n9_ := Aside0.mk ((by rw [hg]; exact Nat.ne_of_gt (blk_lt (g := gb144) (by (with_reducible repeat (first | refine blk_drewN ?_ _ | refine blk_drew ?_ | refine blk_alloc ?_ _)); exact BK144.out)) : gb169 ≠ gb144)); clear BK143; clear BK144; clear HB; have BK143 := n0_; have BK144 := n1_; have HB := n2_; have BK169 := n3_; have GW169 := n4_; have GE169 := n5_; have NB143_169 := n6_; have NB169_143 := n7_; have NB144_169 := n8_; have NB169_144 := n9_; clear n0_ n1_ n2_ n3_ n4_ n5_ n6_ n7_ n8_ n9_; clear hb hbox hg; have hnb30 := NB169_143.out; have hnc30 := NB143_169.out; have hnb31 := NB169_144.out; have hnc31 := NB144_169.out; obtain ⟨hcz32_0, hcz32_1, hcz32_2, hcz32_3, hcz32_4, hcz32_5, hcz32_6, hcz32_7, hcz32_8, hcz32_9, hcz32_10, hcz32_11, hcz32_12, hcz32_13⟩ := sqc14 BK169.out; obtain ⟨hfz32_0, hfz32_1, hfz32_2, hfz32_3, hfz32_4, hfz32_5, hfz32_6, hfz32_7, hfz32_8, hfz32_9, hfz32_10, hfz32_11, hfz32_12, hfz32_13⟩ := frozen14 BK169.out))
           have n0_ : Aside0 (((((((((((((((w29.setCell ⟨gb169, 0, none⟩ (.string ((rd_T73 l0 x42_2).f0))).setCell ⟨gb169, 1, none⟩ (.int .i64 ((rd_T73 l0 x42_2).f1.f0))).setCell ⟨gb169, 2, none⟩ (.int .i64 ((rd_T73 l0 x42_2).f1.f1))).setCell ⟨gb169, 3, none⟩ (.int .i64 ((rd_T73 l0 x42_2).f1.f2))).setCell ⟨gb169, 4, none⟩ (.bool ((rd_T73 l0 x42_2).f2.f0.f0.f0))).setCell ⟨gb169, 5, none⟩ (.string ((rd_T73 l0 x42_2).f2.f0.f0.f1))).setCell ⟨gb169, 6, none⟩ (.bool ((rd_T73 l0 x42_2).f2.f0.f1.f0))).setCell ⟨gb169, 7, none⟩ (.string ((rd_T73 l0 x42_2).f2.f0.f1.f1))).setCell ⟨gb169, 8, none⟩ (.bool ((rd_T73 l0 x42_2).f2.f0.f2.f0))).setCell ⟨gb169, 9, none⟩ (.string ((rd_T73 l0 x42_2).f2.f0.f2.f1))).setCell ⟨gb169, 10, none⟩ (.bool ((rd_T73 l0 x42_2).f2.f0.f3.f0))).setCell ⟨gb169, 11, none⟩ (.string ((rd_T73 l0 x42_2).f2.f0.f3.f1))).setCell ⟨gb169, 12, none⟩ (.bool ((rd_T73 l0 x42_2).f2.f1.f0))).setCell ⟨gb169, 13, none⟩ (.string ((rd_T73 l0 x42_2).f2.f1.f1))).heap[gb143]? = some (.cells #[.string a1_0, .int .i64 a1_1] 64 (0, 0))) := ⟨by (with_reducible repeat (first | refine blk_drewN ?_ _ | refine blk_drew ?_ | refine blk_alloc ?_ _)); refine blk_far ?_ NB143_169.out _; (with_reducible repeat (first | refine blk_drewN ?_ _ | refine blk_drew ?_ | refine blk_alloc ?_ _)); refine blk_far ?_ NB143_169.out _; (with_reducible repeat (first | refine blk_drewN ?_ _ | refine blk_drew ?_ | refine blk_alloc ?_ _)); refine blk_far ?_ NB143_169.out _; (with_reducible repeat (first | refine blk_drewN ?_ _ | refine blk_drew ?_ | refine blk_alloc ?_ _)); refine blk_far ?_ NB143_169.out _; (with_reducible repeat (first | refine blk_drewN ?_ _ | refine blk_drew ?_ | refine blk_alloc ?_ _)); refine blk_far ?_ NB143_169.out _; (with_reducible repeat (first | refine blk_drewN ?_ _ | refine blk_drew ?_ | refine blk_alloc ?_ _)); refine blk_far ?_ NB143_169.out _; (with_reducible repeat (first | refine blk_drewN ?_ _ | refine blk_drew ?_ | refine blk_alloc ?_ _)); refine blk_far ?_ NB143_169.out _; (with_reducible repeat (first | refine blk_drewN ?_ _ | refine blk_drew ?_ | refine blk_alloc ?_ _)); refine blk_far ?_ NB143_169.out _; (with_reducible repeat (first | refine blk_drewN ?_ _ | refine blk_drew ?_ | refine blk_alloc ?_ _)); refine blk_far ?_ NB143_169.out _; (with_reducible repeat (first | refine blk_drewN ?_ _ | refine blk_drew ?_ | refine blk_alloc ?_ _)); refine blk_far ?_ NB143_169.out _; (with_reducible repeat (first | refine blk_drewN ?_ _ | refine blk_drew ?_ | refine blk_alloc ?_ _)); refine blk_far ?_ NB143_169.out _; (with_reducible repeat (first | refine blk_drewN ?_ _ | refine blk_drew ?_ | refine blk_alloc ?_ _)); refine blk_far ?_ NB143_169.out _; (with_reducible repeat (first | refine blk_drewN ?_ _ | refine blk_drew ?_ | refine blk_alloc ?_ _)); refine blk_far ?_ NB143_169.out _; (with_reducible repeat (first | refine blk_drewN ?_ _ | refine blk_drew ?_ | refine blk_alloc ?_ _)); refine blk_far ?_ NB143_169.out _; (with_reducible repeat (first | refine blk_drewN ?_ _ | refine blk_drew ?_ | refine blk_alloc ?_ _)); exact BK143.out⟩
           have n1_ : Aside0 (((((((((((((((w29.setCell ⟨gb169, 0, none⟩ (.string ((rd_T73 l0 x42_2).f0))).setCell ⟨gb169, 1, none⟩ (.int .i64 ((rd_T73 l0 x42_2).f1.f0))).setCell ⟨gb169, 2, none⟩ (.int .i64 ((rd_T73 l0 x42_2).f1.f1))).setCell ⟨gb169, 3, none⟩ (.int .i64 ((rd_T73 l0 x42_2).f1.f2))).setCell ⟨gb169, 4, none⟩ (.bool ((rd_T73 l0 x42_2).f2.f0.f0.f0))).setCell ⟨gb169, 5, none⟩ (.string ((rd_T73 l0 x42_2).f2.f0.f0.f1))).setCell ⟨gb169, 6, none⟩ (.bool ((rd_T73 l0 x42_2).f2.f0.f1.f0))).setCell ⟨gb169, 7, none⟩ (.string ((rd_T73 l0 x42_2).f2.f0.f1.f1))).setCell ⟨gb169, 8, none⟩ (.bool ((rd_T73 l0 x42_2).f2.f0.f2.f0))).setCell ⟨gb169, 9, none⟩ (.string ((rd_T73 l0 x42_2).f2.f0.f2.f1))).setCell ⟨gb169, 10, none⟩ (.bool ((rd_T73 l0 x42_2).f2.f0.f3.f0))).setCell ⟨gb169, 11, none⟩ (.string ((rd_T73 l0 x42_2).f2.f0.f3.f1))).setCell ⟨gb169, 12, none⟩ (.bool ((rd_T73 l0 x42_2).f2.f1.f0))).setCell ⟨gb169, 13, none⟩ (.string ((rd_T73 l0 x42_2).f2.f1.f1))).heap[gb144]? = some (.cells #[.string a2_0, .int .i64 a2_1, .bool a2_2, .slice A2_3 l2_3.length c2_3, .int .i64 a2_4] 66 (0, 0))) := ⟨by (with_reducible repeat (first | refine blk_drewN ?_ _ | refine blk_drew ?_ | refine blk_alloc ?_ _)); refine blk_far ?_ NB144_169.out _; (with_reducible repeat (first | refine blk_drewN ?_ _ | refine blk_drew ?_ | refine blk_alloc ?_ _)); refine blk_far ?_ NB144_169.out _; (with_reducible repeat (first | refine blk_drewN ?_ _ | refine blk_drew ?_ | refine blk_alloc ?_ _)); refine blk_far ?_ NB144_169.out _; (with_reducible repeat (first | refine blk_drewN ?_ _ | refine blk_drew ?_ | refine blk_alloc ?_ _)); refine blk_far ?_ NB144_169.out _; (with_reducible repeat (first | refine blk_drewN ?_ _ | refine blk_drew ?_ | refine blk_alloc ?_ _)); refine blk_far ?_ NB144_169.out _; (with_reducible repeat (first | refine blk_drewN ?_ _ | refine blk_drew ?_ | refine blk_alloc ?_ _)); refine blk_far ?_ NB144_169.out _; (with_reducible repeat (first | refine blk_drewN ?_ _ | refine blk_drew ?_ | refine blk_alloc ?_ _)); refine blk_far ?_ NB144_169.out _; (with_reducible repeat (first | refine blk_drewN ?_ _ | refine blk_drew ?_ | refine blk_alloc ?_ _)); refine blk_far ?_ NB144_169.out _; (with_reducible repeat (first | refine blk_drewN ?_ _ | refine blk_drew ?_ | refine blk_alloc ?_ _)); refine blk_far ?_ NB144_169.out _; (with_reducible repeat (first | refine blk_drewN ?_ _ | refine blk_drew ?_ | refine blk_alloc ?_ _)); refine blk_far ?_ NB144_169.out _; (with_reducible repeat (first | refine blk_drewN ?_ _ | refine blk_drew ?_ | refine blk_alloc ?_ _)); refine blk_far ?_ NB144_169.out _; (with_reducible repeat (first | refine blk_drewN ?_ _ | refine blk_drew ?_ | refine blk_alloc ?_ _)); refine blk_far ?_ NB144_169.out _; (with_reducible repeat (first | refine blk_drewN ?_ _ | refine blk_drew ?_ | refine blk_alloc ?_ _)); refine blk_far ?_ NB144_169.out _; (with_reducible repeat (first | refine blk_drewN ?_ _ | refine blk_drew ?_ | refine blk_alloc ?_ _)); refine blk_far ?_ NB144_169.out _; (with_reducible repeat (first | refine blk_drewN ?_ _ | refine blk_drew ?_ | refine blk_alloc ?_ _)); exact BK144.out⟩
           have n2_ : Aside0 (((((((((((((((w29.setCell ⟨gb169, 0, none⟩ (.string ((rd_T73 l0 x42_2).f0))).setCell ⟨gb169, 1, none⟩ (.int .i64 ((rd_T73 l0 x42_2).f1.f0))).setCell ⟨gb169, 2, none⟩ (.int .i64 ((rd_T73 l0 x42_2).f1.f1))).setCell ⟨gb169, 3, none⟩ (.int .i64 ((rd_T73 l0 x42_2).f1.f2))).setCell ⟨gb169, 4, none⟩ (.bool ((rd_T73 l0 x42_2).f2.f0.f0.f0))).setCell ⟨gb169, 5, none⟩ (.string ((rd_T73 l0 x42_2).f2.f0.f0.f1))).setCell ⟨gb169, 6, none⟩ (.bool ((rd_T73 l0 x42_2).f2.f0.f1.f0))).setCell ⟨gb169, 7, none⟩ (.string ((rd_T73 l0 x42_2).f2.f0.f1.f1))).setCell ⟨gb169, 8, none⟩ (.bool ((rd_T73 l0 x42_2).f2.f0.f2.f0))).setCell ⟨gb169, 9, none⟩ (.string ((rd_T73 l0 x42_2).f2.f0.f2.f1))).setCell ⟨gb169, 10, none⟩ (.bool ((rd_T73 l0 x42_2).f2.f0.f3.f0))).setCell ⟨gb169, 11, none⟩ (.string ((rd_T73 l0 x42_2).f2.f0.f3.f1))).setCell ⟨gb169, 12, none⟩ (.bool ((rd_T73 l0 x42_2).f2.f1.f0))).setCell ⟨gb169, 13, none⟩ (.string ((rd_T73 l0 x42_2).f2.f1.f1))).heap[gb169]? = some (.cells #[.string ((rd_T73 l0 x42_2).f0), .int .i64 ((rd_T73 l0 x42_2).f1.f0), .int .i64 ((rd_T73 l0 x42_2).f1.f1), .int .i64 ((rd_T73 l0 x42_2).f1.f2), .bool ((rd_T73 l0 x42_2).f2.f0.f0.f0), .string ((rd_T73 l0 x42_2).f2.f0.f0.f1), .bool ((rd_T73 l0 x42_2).f2.f0.f1.f0), .string ((rd_T73 l0 x42_2).f2.f0.f1.f1), .bool ((rd_T73 l0 x42_2).f2.f0.f2.f0), .string ((rd_T73 l0 x42_2).f2.f0.f2.f1), .bool ((rd_T73 l0 x42_2).f2.f0.f3.f0), .string ((rd_T73 l0 x42_2).f2.f0.f3.f1), .bool ((rd_T73 l0 x42_2).f2.f1.f0), .string ((rd_T73 l0 x42_2).f2.f1.f1)] 73 (0, 0))) := ⟨by (with_reducible repeat (first | refine blk_drewN ?_ _ | refine blk_drew ?_ | refine blk_alloc ?_ _)); apply put14; (with_reducible repeat (first | refine blk_drewN ?_ _ | refine blk_drew ?_ | refine blk_alloc ?_ _)); exact BK169.out⟩
           have n3_ : Aside0 (Below w.heap.size w ((((((((((((((w29.setCell ⟨gb169, 0, none⟩ (.string ((rd_T73 l0 x42_2).f0))).setCell ⟨gb169, 1, none⟩ (.int .i64 ((rd_T73 l0 x42_2).f1.f0))).setCell ⟨gb169, 2, none⟩ (.int .i64 ((rd_T73 l0 x42_2).f1.f1))).setCell ⟨gb169, 3, none⟩ (.int .i64 ((rd_T73 l0 x42_2).f1.f2))).setCell ⟨gb169, 4, none⟩ (.bool ((rd_T73 l0 x42_2).f2.f0.f0.f0))).setCell ⟨gb169, 5, none⟩ (.string ((rd_T73 l0 x42_2).f2.f0.f0.f1))).setCell ⟨gb169, 6, none⟩ (.bool ((rd_T73 l0 x42_2).f2.f0.f1.f0))).setCell ⟨gb169, 7, none⟩ (.string ((rd_T73 l0 x42_2).f2.f0.f1.f1))).setCell ⟨gb169, 8, none⟩ (.bool ((rd_T73 l0 x42_2).f2.f0.f2.f0))).setCell ⟨gb169, 9, none⟩ (.string ((rd_T73 l0 x42_2).f2.f0.f2.f1))).setCell ⟨gb169, 10, none⟩ (.bool ((rd_T73 l0 x42_2).f2.f0.f3.f0))).setCell ⟨gb169, 11, none⟩ (.string ((rd_T73 l0 x42_2).f2.f0.f3.f1))).setCell ⟨gb169, 12, none⟩ (.bool ((rd_T73 l0 x42_2).f2.f1.f0))).setCell ⟨gb169, 13, none⟩ (.string ((rd_T73 l0 x42_2).f2.f1.f1)))) := ⟨by repeat (first | (with_reducible first | exact HB.out | apply below_alloc | apply pw_below_drewN | apply below_drew1 | refine below_set ?_ GE143.out | refine below_set ?_ GE144.out | refine below_set ?_ GE169.out) | exact HB.out)⟩
           (try clear BK143)
           (try clear BK144)
           (try clear BK169)
           (try clear HB)
           generalize ((((((((((((((w29.setCell ⟨gb169, 0, none⟩ (.string ((rd_T73 l0 x42_2).f0))).setCell ⟨gb169, 1, none⟩ (.int .i64 ((rd_T73 l0 x42_2).f1.f0))).setCell ⟨gb169, 2, none⟩ (.int .i64 ((rd_T73 l0 x42_2).f1.f1))).setCell ⟨gb169, 3, none⟩ (.int .i64 ((rd_T73 l0 x42_2).f1.f2))).setCell ⟨gb169, 4, none⟩ (.bool ((rd_T73 l0 x42_2).f2.f0.f0.f0))).setCell ⟨gb169, 5, none⟩ (.string ((rd_T73 l0 x42_2).f2.f0.f0.f1))).setCell ⟨gb169, 6, none⟩ (.bool ((rd_T73 l0 x42_2).f2.f0.f1.f0))).setCell ⟨gb169, 7, none⟩ (.string ((rd_T73 l0 x42_2).f2.f0.f1.f1))).setCell ⟨gb169, 8, none⟩ (.bool ((rd_T73 l0 x42_2).f2.f0.f2.f0))).setCell ⟨gb169, 9, none⟩ (.string ((rd_T73 l0 x42_2).f2.f0.f2.f1))).setCell ⟨gb169, 10, none⟩ (.bool ((rd_T73 l0 x42_2).f2.f0.f3.f0))).setCell ⟨gb169, 11, none⟩ (.string ((rd_T73 l0 x42_2).f2.f0.f3.f1))).setCell ⟨gb169, 12, none⟩ (.bool ((rd_T73 l0 x42_2).f2.f1.f0))).setCell ⟨gb169, 13, none⟩ (.string ((rd_T73 l0 x42_2).f2.f1.f1))) = w33 at n0_ n1_ n2_ n3_ ⊢
           have BK143 := n0_
           have BK144 := n1_
           have BK169 := n2_
           have HB := n3_
           clear n0_ n1_ n2_ n3_
           have n0_ := Aside0.mk (blk_drew BK143.out)
           have n1_ := Aside0.mk (blk_drew BK144.out)
           have n2_ := Aside0.mk (blk_drew BK169.out)
           have n3_ := Aside0.mk (below_drew1 HB.out)
           clear BK143
           clear BK144
           clear BK169
           clear HB
           have BK143 := n0_
           have BK144 := n1_
           have BK169 := n2_
           have HB := n3_
           clear n0_ n1_ n2_ n3_
           refine start_ (n := 7) (S := fun w' => w'.cell? ⟨gb169, 0, none⟩ = some (.string ((rd_T73 l0 x42_2).f0)) ∧ w'.cell? ⟨gb169, 1, none⟩ = some (.int .i64 ((rd_T73 l0 x42_2).f1.f0)) ∧ w'.cell? ⟨gb169, 2, none⟩ = some (.int .i64 ((rd_T73 l0 x42_2).f1.f1)) ∧ w'.cell? ⟨gb169, 3, none⟩ = some (.int .i64 ((rd_T73 l0 x42_2).f1.f2)) ∧ w'.cell? ⟨gb169, 4, none⟩ = some (.bool ((rd_T73 l0 x42_2).f2.f0.f0.f0)) ∧ w'.cell? ⟨gb169, 5, none⟩ = some (.string ((rd_T73 l0 x42_2).f2.f0.f0.f1)) ∧ w'.cell? ⟨gb169, 6, none⟩ = some (.bool ((rd_T73 l0 x42_2).f2.f0.f1.f0)) ∧ w'.cell? ⟨gb169, 7, none⟩ = some (.string ((rd_T73 l0 x42_2).f2.f0.f1.f1)) ∧ w'.cell? ⟨gb169, 8, none⟩ = some (.bool ((rd_T73 l0 x42_2).f2.f0.f2.f0)) ∧ w'.cell? ⟨gb169, 9, none⟩ = some (.string ((rd_T73 l0 x42_2).f2.f0.f2.f1)) ∧ w'.cell? ⟨gb169, 10, none⟩ = some (.bool ((rd_T73 l0 x42_2).f2.f0.f3.f0)) ∧ w'.cell? ⟨gb169, 11, none⟩ = some (.string ((rd_T73 l0 x42_2).f2.f0.f3.f1)) ∧ w'.cell? ⟨gb169, 12, none⟩ = some (.bool ((rd_T73 l0 x42_2).f2.f1.f0)) ∧ w'.cell? ⟨gb169, 13, none⟩ = some (.string ((rd_T73 l0 x42_2).f2.f1.f1))) (ds := []) #[false, false, false, false, false, false, false] (by kernel_rfl) rfl rfl (sqc14 BK169.out) (fun hHeld => ?_)
           generalize w33.drew = w34 at BK143 BK144 BK169 HB hHeld ⊢
           refine pure_ (i := 0) (N := some 46) (v := ?_) (a' := ?_) #[true, false, false, false, false, false, false] rfl rfl (by kernel_rfl) (fun _ _ _ h => h) (Or.inl ⟨by rfl, ?_⟩) ?_ ?_
           rotate_left
           ·intro w'
            go_simp
            with_reducible rfl
           rotate_left
           ·simp only [Act.put, List.setIfInBounds_toArray, List.set_cons_zero, List.set_cons_succ, i64_w, i32_w]
            rfl
           refine pure_ (i := 3) (N := some 49) (v := ?_) (a' := ?_) #[true, false, false, true, false, false, false] rfl rfl (by kernel_rfl) (fun _ _ _ h => h) (Or.inl ⟨by rfl, ?_⟩) ?_ ?_
           rotate_left
           ·intro w'
            go_simp
            with_reducible rfl
           rotate_left
           ·simp only [Act.put, List.setIfInBounds_toArray, List.set_cons_zero, List.set_cons_succ, i64_w, i32_w]
            rfl
           refine take_ (i := 1) (N := some 47) (v := ?_) (a' := ?_) #[true, true, false, true, false, false, false] rfl rfl (by kernel_rfl) (fun _ _ _ h => h) (Or.inl ⟨by rfl, ?_⟩) hHeld ?_ ?_
           rotate_left
           ·rintro w' ⟨s0, s1, s2, s3, s4, s5, s6, s7, s8, s9, s10, s11, s12, s13⟩
            go_simp
            with_reducible rfl
           rotate_left
           ·simp only [Act.put, List.setIfInBounds_toArray, List.set_cons_zero, List.set_cons_succ, i64_w, i32_w]
            rfl
           refine take_ (i := 4) (N := some 50) (v := ?_) (a' := ?_) #[true, true, false, true, true, false, false] rfl rfl (by kernel_rfl) (fun _ _ _ h => h) (Or.inl ⟨by rfl, ?_⟩) hHeld ?_ ?_
           rotate_left
           ·rintro w' ⟨s0, s1, s2, s3, s4, s5, s6, s7, s8, s9, s10, s11, s12, s13⟩
            go_simp
            with_reducible rfl
           rotate_left
           ·simp only [Act.put, List.setIfInBounds_toArray, List.set_cons_zero, List.set_cons_succ, i64_w, i32_w]
            rfl
           refine one_ (i := 2) (N := some 48) #[true, true, true, true, true, false, false] rfl rfl (by kernel_rfl) (by decide) (fun K hK => ?_)
           refine goes_ Try.func27 (by kernel_rfl) rfl #[.agg #[.int .i64 ((rd_T73 l0 x42_2).f1.f0), .int .i64 ((rd_T73 l0 x42_2).f1.f1), .int .i64 ((rd_T73 l0 x42_2).f1.f2)]] (by rfl) rfl rfl (by (try simp only [List.map_toArray, List.map_cons, List.map_nil]); first | done | rfl | (simp only [List.length_drop, List.length_take]; rfl)) ?_
           with_reducible refine (tier_Part.calls ((rd_T73 l0 x42_2).f1.f0) ((rd_T73 l0 x42_2).f1.f1) ((rd_T73 l0 x42_2).f1.f2) t170 _ A26.out).mono ?_
           rintro e w35 ⟨rfl, hb⟩
           refine ⟨_, rfl, ?_⟩
           have n0_ := Aside0.mk (blk_below (g := gb143) (by (with_reducible repeat (first | refine blk_drewN ?_ _ | refine blk_drew ?_ | refine blk_alloc ?_ _)); exact BK143.out) hb)
           have n1_ := Aside0.mk (blk_below (g := gb144) (by (with_reducible repeat (first | refine blk_drewN ?_ _ | refine blk_drew ?_ | refine blk_alloc ?_ _)); exact BK144.out) hb)
           have n2_ := Aside0.mk (blk_below (g := gb169) (by (with_reducible repeat (first | refine blk_drewN ?_ _ | refine blk_drew ?_ | refine blk_alloc ?_ _)); exact BK169.out) hb)
           have n3_ := Aside0.mk (below_step (by repeat (first | (with_reducible first | exact HB.out | apply below_alloc | apply pw_below_drewN | apply below_drew1 | refine below_set ?_ GE143.out | refine below_set ?_ GE144.out | refine below_set ?_ GE169.out) | exact HB.out)) hb)
           clear BK143
           clear BK144
           clear BK169
           clear HB
           have BK143 := n0_
           have BK144 := n1_
           have BK169 := n2_
           have HB := n3_
           clear n0_ n1_ n2_ n3_
           (try clear hb)
           (try clear hb2)
           (try clear hk)
           (try clear hi)
           refine hK.out _ _ (sqc14 BK169.out) (fun hHeld => ?_)
           clear hK K
           refine norm_ (a' := ?_) ?_ ?_
           rotate_left
           ·show Act.put _ (some 48) _ = _
            simp only [Act.put, List.setIfInBounds_toArray, List.set_cons_zero, List.set_cons_succ, i64_w, i32_w]
            rfl
           refine one_ (i := 5) (N := some 51) #[true, true, true, true, true, true, false] rfl rfl (by kernel_rfl) (by decide) (fun K hK => ?_)
           refine goes_ Try.func28 (by kernel_rfl) rfl #[.agg #[.int .i64 ((rd_T73 l0 x42_2).f1.f0), .int .i64 ((rd_T73 l0 x42_2).f1.f1), .int .i64 ((rd_T73 l0 x42_2).f1.f2)]] (by rfl) rfl rfl (by (try simp only [List.map_toArray, List.map_cons, List.map_nil]); first | done | rfl | (simp only [List.length_drop, List.length_take]; rfl)) ?_
           with_reducible refine (culetref16_Part.calls ((rd_T73 l0 x42_2).f1.f0) ((rd_T73 l0 x42_2).f1.f1) ((rd_T73 l0 x42_2).f1.f2) t171 _ A27.out).mono ?_
           rintro e w36 ⟨rfl, hb⟩
           refine ⟨_, rfl, ?_⟩
           have n0_ := Aside0.mk (blk_below (g := gb143) (by (with_reducible repeat (first | refine blk_drewN ?_ _ | refine blk_drew ?_ | refine blk_alloc ?_ _)); exact BK143.out) hb)
           have n1_ := Aside0.mk (blk_below (g := gb144) (by (with_reducible repeat (first | refine blk_drewN ?_ _ | refine blk_drew ?_ | refine blk_alloc ?_ _)); exact BK144.out) hb)
           have n2_ := Aside0.mk (blk_below (g := gb169) (by (with_reducible repeat (first | refine blk_drewN ?_ _ | refine blk_drew ?_ | refine blk_alloc ?_ _)); exact BK169.out) hb)
           have n3_ := Aside0.mk (below_step (by repeat (first | (with_reducible first | exact HB.out | apply below_alloc | apply pw_below_drewN | apply below_drew1 | refine below_set ?_ GE143.out | refine below_set ?_ GE144.out | refine below_set ?_ GE169.out) | exact HB.out)) hb)
           clear BK143
           clear BK144
           clear BK169
           clear HB
           have BK143 := n0_
           have BK144 := n1_
           have BK169 := n2_
           have HB := n3_
           clear n0_ n1_ n2_ n3_
           (try clear hb)
           (try clear hb2)
           (try clear hk)
           (try clear hi)
           refine hK.out _ _ (sqc14 BK169.out) (fun hHeld => ?_)
           clear hK K
           refine norm_ (a' := ?_) ?_ ?_
           rotate_left
           ·show Act.put _ (some 51) _ = _
            simp only [Act.put, List.setIfInBounds_toArray, List.set_cons_zero, List.set_cons_succ, i64_w, i32_w]
            rfl
           refine pure_ (i := 6) (N := some 52) (v := ?_) (a' := ?_) #[true, true, true, true, true, true, true] rfl rfl (by kernel_rfl) (fun _ _ _ h => h) (Or.inl ⟨by rfl, ?_⟩) ?_ ?_
           rotate_left
           ·intro w'
            go_simp
            with_reducible rfl
           rotate_left
           ·simp only [Act.put, List.setIfInBounds_toArray, List.set_cons_zero, List.set_cons_succ, i64_w, i32_w]
            rfl
           refine done_ (by kernel_rfl) ?_
           try go_wp2_with (first | (with_reducible refine gate_load (T := 73) rfl ?_; refine ev_load 13 rfl rfl Try.underlying73 rfl (by kernel_rfl) ?hx ?h0 ?hr ?_; (case hx => first | rfl | (go_simp; done) | (go_simp; rfl)); (case h0 => first | assumption | (go_simp; done)); (case hr => repeat first | exact cn | (refine cc (by first | assumption | (go_simp; done)) ?_))))
           go_roundg k2
           case measure => have := HJ5.out; have := HK2.out; omega
           case rel => exact ⟨(wrap64 (x42_2 + 1)), (by first | rfl | (simp; done) | (simp [*]; done)), H', ⟨by have := HJ5.out; have := HK2.out; omega⟩, ⟨by (with_reducible repeat (first | refine blk_drewN ?_ _ | refine blk_drew ?_ | refine blk_alloc ?_ _)); exact BK143.out⟩, ⟨by (with_reducible repeat (first | refine blk_drewN ?_ _ | refine blk_drew ?_ | refine blk_alloc ?_ _)); exact BK144.out⟩, ⟨by repeat (first | (with_reducible first | exact HB.out | apply below_alloc | apply pw_below_drewN | apply below_drew1 | refine below_set ?_ GE143.out | refine below_set ?_ GE144.out | refine below_set ?_ GE169.out) | exact HB.out)⟩⟩
          ·rw [if_neg c28] at H
           have c28b0 : (t170 == t171) = false := beq_eq_false_iff_ne.mpr c28
           have c28b1 : (t170 != t171) = true := bne_iff_ne.mpr c28
           exact absurd ((Option.some.inj H).trans HTRUE.out) (by decide)
         ·rw [if_neg c25] at H
          exact absurd H (by simp)
        ·rw [if_neg c24] at H
         exact absurd H (by simp)
       ·rw [if_neg c23] at H
        have c23b0 : decide (x42_2 < (l0.length : Int)) = false := decide_eq_false c23
        clear c23
        replace H := Option.bind_eq_some_iff.mp H
        obtain ⟨⟨t151, t152, t153, t154, t157⟩, A370, H⟩ := H
        replace H : ((culetref16_Prefix.f a2_0 a2_1 a2_2 l2_3 a2_4).bind fun bt159 => (if t147 = t149 then (if (t148 == t150) = true then ((culetref14_Same.f t151 t152 t153 t154 bt159.1 bt159.2.1 bt159.2.2.1 bt159.2.2.2.1).bind fun t167 => (if t167 = true then (some (t157 == bt159.2.2.2.2)) else (some false))) else (some false)) else (some false))) = some r := H
        have A37 := Aside0.mk A370
        clear A370
        replace H := Option.bind_eq_some_iff.mp H
        obtain ⟨⟨t159, t160, t161, t162, t165⟩, A380, H⟩ := H
        replace H : (if t147 = t149 then (if (t148 == t150) = true then ((culetref14_Same.f t151 t152 t153 t154 t159 t160 t161 t162).bind fun t167 => (if t167 = true then (some (t157 == t165)) else (some false))) else (some false)) else (some false)) = some r := H
        have A38 := Aside0.mk A380
        clear A380
        by_cases c39 : t147 = t149
        ·rw [if_pos c39] at H
         have c39b0 : (t147 == t149) = true := beq_iff_eq.mpr c39
         have c39b1 : (t147 != t149) = false := bne_eq_false_iff_eq.mpr c39
         clear c39
         by_cases c40 : (t148 == t150) = true
         ·rw [if_pos c40] at H
          have c40b0 : (t148 == t150) = true := c40
          (try (have c40b1 : decide (t148 = t150) = true := by simpa using c40))
          (try (have c40b2 : (t148 == t150) = true := by simpa using c40))
          clear c40
          replace H := Option.bind_eq_some_iff.mp H
          obtain ⟨t167, A410, H⟩ := H
          replace H : (if t167 = true then (some (t157 == t165)) else (some false)) = some r := H
          have A41 := Aside0.mk A410
          clear A410
          by_cases c42 : t167 = true
          ·subst c42
           have H1 : (some (t157 == t165)) = some r := by rw [if_pos rfl] at H; exact H
           clear H
           have H := H1
           clear H1
           obtain rfl := Option.some.inj H
           have hnb43 := NB144_143.out
           have hnc43 := NB143_144.out
           have hcz44_0 : wr.cell? ⟨gb144, 0, none⟩ = some (.string a2_0) := (blk_cell BK144.out 0).trans rfl
           have hcz44_1 : wr.cell? ⟨gb144, 1, none⟩ = some (.int .i64 a2_1) := (blk_cell BK144.out 1).trans rfl
           have hcz44_2 : wr.cell? ⟨gb144, 2, none⟩ = some (.bool a2_2) := (blk_cell BK144.out 2).trans rfl
           have hcz44_3 : wr.cell? ⟨gb144, 3, none⟩ = some (.slice A2_3 l2_3.length c2_3) := (blk_cell BK144.out 3).trans rfl
           have hcz44_4 : wr.cell? ⟨gb144, 4, none⟩ = some (.int .i64 a2_4) := (blk_cell BK144.out 4).trans rfl
           have hfz44_0 := blk_frozen BK144.out 0
           have hfz44_1 := blk_frozen BK144.out 1
           have hfz44_2 := blk_frozen BK144.out 2
           have hfz44_3 := blk_frozen BK144.out 3
           have hfz44_4 := blk_frozen BK144.out 4
           go_wp2_with (first | (with_reducible refine gate_load (T := 73) rfl ?_; refine ev_load 13 rfl rfl Try.underlying73 rfl (by kernel_rfl) ?hx ?h0 ?hr ?_; (case hx => first | rfl | (go_simp; done) | (go_simp; rfl)); (case h0 => first | assumption | (go_simp; done)); (case hr => repeat first | exact cn | (refine cc (by first | assumption | (go_simp; done)) ?_))) | ((with_reducible refine gate_callee (f := 29) rfl ?_); refine goesL_ (some 59) rfl rfl Try.func29 (by kernel_rfl) rfl #[.agg #[.string a2_0, .int .i64 a2_1, .bool a2_2, .slice A2_3 l2_3.length c2_3], .int .i64 a2_4] rfl (by (try simp only [List.map_toArray, List.map_cons, List.map_nil]); first | done | rfl | (simp only [List.length_drop, List.length_take]; rfl)) ?_; (with_reducible refine (tier_Prefix.calls a2_0 a2_1 a2_2 (fun k_ => k_ < w.heap.size) _ _ l2_3 a2_4 t151 t152 t153 t154 t157 _ ?side1 A37.out).mono ?_); (case side1 => exact Kd.V_mk HC2_3.out (Kd.F_below (Kd.C_F k51_heap HR2_3.out) (by repeat (first | (with_reducible first | exact HB.out | apply below_alloc | apply pw_below_drewN | apply below_drew1 | refine below_set ?_ GE143.out | refine below_set ?_ GE144.out) | exact HB.out)))); rintro e w45 ⟨v155, rfl, ho0, hb⟩; refine ⟨_, rfl, ?_⟩; have n0_ := Aside0.mk (Kd.V_lower (Kd.V_mono (ok' := fun k_ => k_ ≠ gb143 ∧ k_ ≠ gb144) ho0 (fun k_ hk_ => ⟨Or.elim hk_ (fun hs_ => fun e_ => Nat.not_le.2 hs_ (by rw [e_]; exact GW143.out)) (fun hn_ => (Kd.freshB (g := gb143) (by (with_reducible repeat (first | refine blk_drewN ?_ _ | refine blk_drew ?_ | refine blk_alloc ?_ _)); exact BK143.out) k_ hn_)), Or.elim hk_ (fun hs_ => fun e_ => Nat.not_le.2 hs_ (by rw [e_]; exact GW144.out)) (fun hn_ => (Kd.freshB (g := gb144) (by (with_reducible repeat (first | refine blk_drewN ?_ _ | refine blk_drew ?_ | refine blk_alloc ?_ _)); exact BK144.out) k_ hn_))⟩)) (below_size (by repeat (first | (with_reducible first | exact HB.out | apply below_alloc | apply pw_below_drewN | apply below_drew1 | refine below_set ?_ GE143.out | refine below_set ?_ GE144.out) | exact HB.out)))); have n1_ := Aside0.mk (blk_below (g := gb143) (by (with_reducible repeat (first | refine blk_drewN ?_ _ | refine blk_drew ?_ | refine blk_alloc ?_ _)); exact BK143.out) hb); have n2_ := Aside0.mk (blk_below (g := gb144) (by (with_reducible repeat (first | refine blk_drewN ?_ _ | refine blk_drew ?_ | refine blk_alloc ?_ _)); exact BK144.out) hb); have n3_ := Aside0.mk (below_step (by repeat (first | (with_reducible first | exact HB.out | apply below_alloc | apply pw_below_drewN | apply below_drew1 | refine below_set ?_ GE143.out | refine below_set ?_ GE144.out) | exact HB.out)) hb); clear BK143; clear BK144; clear HB; have HO156 := n0_; have BK143 := n1_; have BK144 := n2_; have HB := n3_; clear n0_ n1_ n2_ n3_; (try clear hb); (try clear hb2); (try clear hk); (try clear hi); (try clear ho0)) | ((with_reducible refine gate_dst (N := 13) rfl ?_); refine box_event ?hg (N := 13) ?hd (cs := #[.string (⟨#[]⟩ : ByteArray), .int .i64 0, .bool false, .slice none 0 0]) (t := 36) ?hr ?_; (case hd => rfl); (case hg => rfl); (case hr => go_simp; try rfl); intro gb158 hg w46 hbox hb; have n0_ := Aside0.mk (Kd.V_below (Kd.V_elderB (by (with_reducible repeat (first | apply Kd.V_alloc | apply Kd.V_drewN | apply Kd.V_drew)); exact HO156.out) gb158 (Nat.le_of_eq hg.symm)) hb); have n1_ := Aside0.mk (blk_below (g := gb143) (by (with_reducible repeat (first | refine blk_drewN ?_ _ | refine blk_drew ?_ | refine blk_alloc ?_ _)); exact BK143.out) hb); have n2_ := Aside0.mk (blk_below (g := gb144) (by (with_reducible repeat (first | refine blk_drewN ?_ _ | refine blk_drew ?_ | refine blk_alloc ?_ _)); exact BK144.out) hb); have n3_ := Aside0.mk (below_step (by repeat (first | (with_reducible first | exact HB.out | apply below_alloc | apply pw_below_drewN | apply below_drew1 | refine below_set ?_ GE143.out | refine below_set ?_ GE144.out) | exact HB.out)) hb); have n4_ := Aside0.mk (hbox); have n5_ := Aside0.mk ((by rw [hg]; exact (below_size (by repeat (first | (with_reducible first | exact HB.out | apply below_alloc | apply pw_below_drewN | apply below_drew1 | refine below_set ?_ GE143.out | refine below_set ?_ GE144.out) | exact HB.out))) : w.heap.size ≤ gb158)); have n6_ := Aside0.mk ((by rw [hg]; exact (below_size (by repeat (first | (with_reducible first | exact HB.out | apply below_alloc | apply pw_below_drewN | apply below_drew1 | refine below_set ?_ GE143.out | refine below_set ?_ GE144.out) | exact HB.out))) : w.heap.size ≤ gb158)); have n7_ := Aside0.mk ((by rw [hg]; exact Nat.ne_of_lt (blk_lt (g := gb143) (by (with_reducible repeat (first | refine blk_drewN ?_ _ | refine blk_drew ?_ | refine blk_alloc ?_ _)); exact BK143.out)) : gb143 ≠ gb158)); have n8_ := Aside0.mk ((by rw [hg]; exact Nat.ne_of_gt (blk_lt (g := gb143) (by (with_reducible repeat (first | refine blk_drewN ?_ _ | refine blk_drew ?_ | refine blk_alloc ?_ _)); exact BK143.out)) : gb158 ≠ gb143)); have n9_ := Aside0.mk ((by rw [hg]; exact Nat.ne_of_lt (blk_lt (g := gb144) (by (with_reducible repeat (first | refine blk_drewN ?_ _ | refine blk_drew ?_ | refine blk_alloc ?_ _)); exact BK144.out)) : gb144 ≠ gb158)); have n10_ := Aside0.mk ((by rw [hg]; exact Nat.ne_of_gt (blk_lt (g := gb144) (by (with_reducible repeat (first | refine blk_drewN ?_ _ | refine blk_drew ?_ | refine blk_alloc ?_ _)); exact BK144.out)) : gb158 ≠ gb144)); clear HO156; clear BK143; clear BK144; clear HB; have HO156 := n0_; have BK143 := n1_; have BK144 := n2_; have HB := n3_; have BK158 := n4_; have GW158 := n5_; have GE158 := n6_; have NB143_158 := n7_; have NB158_143 := n8_; have NB144_158 := n9_; have NB158_144 := n10_; clear n0_ n1_ n2_ n3_ n4_ n5_ n6_ n7_ n8_ n9_ n10_; clear hb hbox hg; have hnb47 := NB158_143.out; have hnc47 := NB143_158.out; have hnb48 := NB158_144.out; have hnc48 := NB144_158.out; obtain ⟨hcz49_0, hcz49_1, hcz49_2, hcz49_3⟩ := sqc4 BK158.out; obtain ⟨hfz49_0, hfz49_1, hfz49_2, hfz49_3⟩ := frozen4 BK158.out; obtain ⟨Ao50, co50, eo50⟩ := Kd.V_slice HO156.out; subst eo50) | ((with_reducible refine gate_store (t := 36) (p := 13) rfl ?_); refine store_event (t := 36) (p := 13) (v := ?vo_w51) (w1 := ((((w46.setCell ⟨gb158, 0, none⟩ (.string t151)).setCell ⟨gb158, 1, none⟩ (.int .i64 t152)).setCell ⟨gb158, 2, none⟩ (.bool t153)).setCell ⟨gb158, 3, none⟩ (.slice Ao50 t154.length co50))) ?hg ?ho ?hn ?hr ?_; (case ho => rfl); (case hg => rfl); (case hn => rfl); (case hr => go_simp; try rfl); intro w51 hw; have n0_ : Aside0 (Kd.V k51 51 w51 w.heap.size (fun k_ => k_ ≠ gb143 ∧ k_ ≠ gb144 ∧ k_ ≠ gb158) (.slice Ao50 t154.length co50) t154) := ⟨(by rw [hw]; exact (by (with_reducible repeat (first | apply Kd.V_alloc | apply Kd.V_drewN | apply Kd.V_drew)); exact Kd.V_mono (Kd.V_far (p := ⟨gb158, 3, none⟩) (Kd.V_far (p := ⟨gb158, 2, none⟩) (Kd.V_far (p := ⟨gb158, 1, none⟩) (Kd.V_far (p := ⟨gb158, 0, none⟩) (Kd.V_mono HO156.out (fun k_ hk => (⟨hk, hk.2⟩ : _ ∧ k_ ≠ gb158))) (fun _ hk => hk.2) (.string t151)) (fun _ hk => hk.2) (.int .i64 t152)) (fun _ hk => hk.2) (.bool t153)) (fun _ hk => hk.2) (.slice Ao50 t154.length co50)) (fun _ hk => ⟨hk.1.1.1, ⟨hk.1.1.2, hk.1.2⟩⟩)))⟩; have n1_ : Aside0 (w51.heap[gb143]? = some (.cells #[.string a1_0, .int .i64 a1_1] 64 (0, 0))) := ⟨(by rw [hw]; exact (by (with_reducible repeat (first | refine blk_drewN ?_ _ | refine blk_drew ?_ | refine blk_alloc ?_ _)); refine blk_far ?_ NB143_158.out _; (with_reducible repeat (first | refine blk_drewN ?_ _ | refine blk_drew ?_ | refine blk_alloc ?_ _)); refine blk_far ?_ NB143_158.out _; (with_reducible repeat (first | refine blk_drewN ?_ _ | refine blk_drew ?_ | refine blk_alloc ?_ _)); refine blk_far ?_ NB143_158.out _; (with_reducible repeat (first | refine blk_drewN ?_ _ | refine blk_drew ?_ | refine blk_alloc ?_ _)); refine blk_far ?_ NB143_158.out _; (with_reducible repeat (first | refine blk_drewN ?_ _ | refine blk_drew ?_ | refine blk_alloc ?_ _)); exact BK143.out))⟩; have n2_ : Aside0 (w51.heap[gb144]? = some (.cells #[.string a2_0, .int .i64 a2_1, .bool a2_2, .slice A2_3 l2_3.length c2_3, .int .i64 a2_4] 66 (0, 0))) := ⟨(by rw [hw]; exact (by (with_reducible repeat (first | refine blk_drewN ?_ _ | refine blk_drew ?_ | refine blk_alloc ?_ _)); refine blk_far ?_ NB144_158.out _; (with_reducible repeat (first | refine blk_drewN ?_ _ | refine blk_drew ?_ | refine blk_alloc ?_ _)); refine blk_far ?_ NB144_158.out _; (with_reducible repeat (first | refine blk_drewN ?_ _ | refine blk_drew ?_ | refine blk_alloc ?_ _)); refine blk_far ?_ NB144_158.out _; (with_reducible repeat (first | refine blk_drewN ?_ _ | refine blk_drew ?_ | refine blk_alloc ?_ _)); refine blk_far ?_ NB144_158.out _; (with_reducible repeat (first | refine blk_drewN ?_ _ | refine blk_drew ?_ | refine blk_alloc ?_ _)); exact BK144.out))⟩; have n3_ : Aside0 (w51.heap[gb158]? = some (.cells #[.string t151, .int .i64 t152, .bool t153, .slice Ao50 t154.length co50] 36 (0, 0))) := ⟨(by rw [hw]; exact (by (with_reducible repeat (first | refine blk_drewN ?_ _ | refine blk_drew ?_ | refine blk_alloc ?_ _)); apply put4; (with_reducible repeat (first | refine blk_drewN ?_ _ | refine blk_drew ?_ | refine blk_alloc ?_ _)); exact BK158.out))⟩; have n4_ : Aside0 (Below w.heap.size w w51) := ⟨(by rw [hw]; exact (by repeat (first | (with_reducible first | exact HB.out | apply below_alloc | apply pw_below_drewN | apply below_drew1 | refine below_set ?_ GE143.out | refine below_set ?_ GE144.out | refine below_set ?_ GE158.out) | exact HB.out)))⟩; clear hw; clear HO156; clear BK143; clear BK144; clear BK158; clear HB; have HO156 := n0_; have BK143 := n1_; have BK144 := n2_; have BK158 := n3_; have HB := n4_; clear n0_ n1_ n2_ n3_ n4_; obtain ⟨hcz52_0, hcz52_1, hcz52_2, hcz52_3, hcz52_4⟩ := sqc5 BK144.out; obtain ⟨hfz52_0, hfz52_1, hfz52_2, hfz52_3, hfz52_4⟩ := frozen5 BK144.out) | ((with_reducible refine gate_callee (f := 30) rfl ?_); refine goesL_ (some 67) rfl rfl Try.func30 (by kernel_rfl) rfl #[.agg #[.string a2_0, .int .i64 a2_1, .bool a2_2, .slice A2_3 l2_3.length c2_3], .int .i64 a2_4] rfl (by (try simp only [List.map_toArray, List.map_cons, List.map_nil]); first | done | rfl | (simp only [List.length_drop, List.length_take]; rfl)) ?_; (with_reducible refine (culetref16_Prefix.calls a2_0 a2_1 a2_2 (fun k_ => k_ < w.heap.size) _ _ l2_3 a2_4 t159 t160 t161 t162 t165 _ ?side1 A38.out).mono ?_); (case side1 => exact Kd.V_mk HC2_3.out (Kd.F_below (Kd.C_F k51_heap HR2_3.out) (by repeat (first | (with_reducible first | exact HB.out | apply below_alloc | apply pw_below_drewN | apply below_drew1 | refine below_set ?_ GE143.out | refine below_set ?_ GE144.out | refine below_set ?_ GE158.out) | exact HB.out)))); rintro e w53 ⟨v163, rfl, ho0, hb⟩; refine ⟨_, rfl, ?_⟩; have n0_ := Aside0.mk (Kd.V_elder' (by (with_reducible repeat (first | apply Kd.V_alloc | apply Kd.V_drewN | apply Kd.V_drew)); exact HO156.out) (Kd.N_base ho0) hb); have n1_ := Aside0.mk (Kd.N_lower (Kd.N_mono (ok' := fun k_ => k_ ≠ gb143 ∧ k_ ≠ gb144 ∧ k_ ≠ gb158) ho0 (fun k_ hk_ => ⟨Or.elim hk_ (fun hs_ => fun e_ => Nat.not_le.2 hs_ (by rw [e_]; exact GW143.out)) (fun hn_ => (Kd.freshB (g := gb143) (by (with_reducible repeat (first | refine blk_drewN ?_ _ | refine blk_drew ?_ | refine blk_alloc ?_ _)); exact BK143.out) k_ hn_)), Or.elim hk_ (fun hs_ => fun e_ => Nat.not_le.2 hs_ (by rw [e_]; exact GW144.out)) (fun hn_ => (Kd.freshB (g := gb144) (by (with_reducible repeat (first | refine blk_drewN ?_ _ | refine blk_drew ?_ | refine blk_alloc ?_ _)); exact BK144.out) k_ hn_)), Or.elim hk_ (fun hs_ => fun e_ => Nat.not_le.2 hs_ (by rw [e_]; exact GW158.out)) (fun hn_ => (Kd.freshB (g := gb158) (by (with_reducible repeat (first | refine blk_drewN ?_ _ | refine blk_drew ?_ | refine blk_alloc ?_ _)); exact BK158.out) k_ hn_))⟩)) (below_size (by repeat (first | (with_reducible first | exact HB.out | apply below_alloc | apply pw_below_drewN | apply below_drew1 | refine below_set ?_ GE143.out | refine below_set ?_ GE144.out | refine below_set ?_ GE158.out) | exact HB.out)))); have n2_ := Aside0.mk (blk_below (g := gb143) (by (with_reducible repeat (first | refine blk_drewN ?_ _ | refine blk_drew ?_ | refine blk_alloc ?_ _)); exact BK143.out) hb); have n3_ := Aside0.mk (blk_below (g := gb144) (by (with_reducible repeat (first | refine blk_drewN ?_ _ | refine blk_drew ?_ | refine blk_alloc ?_ _)); exact BK144.out) hb); have n4_ := Aside0.mk (blk_below (g := gb158) (by (with_reducible repeat (first | refine blk_drewN ?_ _ | refine blk_drew ?_ | refine blk_alloc ?_ _)); exact BK158.out) hb); have n5_ := Aside0.mk (below_step (by repeat (first | (with_reducible first | exact HB.out | apply below_alloc | apply pw_below_drewN | apply below_drew1 | refine below_set ?_ GE143.out | refine below_set ?_ GE144.out | refine below_set ?_ GE158.out) | exact HB.out)) hb); clear HO156; clear BK143; clear BK144; clear BK158; clear HB; have HO156 := n0_; have HO164 := n1_; have BK143 := n2_; have BK144 := n3_; have BK158 := n4_; have HB := n5_; clear n0_ n1_ n2_ n3_ n4_ n5_; (try clear hb); (try clear hb2); (try clear hk); (try clear hi); (try clear ho0)) | ((with_reducible refine gate_dst (N := 15) rfl ?_); refine box_event ?hg (N := 15) ?hd (cs := #[.string (⟨#[]⟩ : ByteArray), .int .i64 0, .bool false, .slice none 0 0]) (t := 36) ?hr ?_; (case hd => rfl); (case hg => rfl); (case hr => go_simp; try rfl); intro gb166 hg w54 hbox hb; have n0_ := Aside0.mk (Kd.V_below (Kd.V_elderB (by (with_reducible repeat (first | apply Kd.V_alloc | apply Kd.V_drewN | apply Kd.V_drew)); exact HO156.out) gb166 (Nat.le_of_eq hg.symm)) hb); have n1_ := Aside0.mk (Kd.N_below (Kd.N_elderB (by (with_reducible repeat (first | apply Kd.N_alloc | apply Kd.N_drewN | apply Kd.N_drew)); exact HO164.out) gb166 (Nat.le_of_eq hg.symm)) hb); have n2_ := Aside0.mk (blk_below (g := gb143) (by (with_reducible repeat (first | refine blk_drewN ?_ _ | refine blk_drew ?_ | refine blk_alloc ?_ _)); exact BK143.out) hb); have n3_ := Aside0.mk (blk_below (g := gb144) (by (with_reducible repeat (first | refine blk_drewN ?_ _ | refine blk_drew ?_ | refine blk_alloc ?_ _)); exact BK144.out) hb); have n4_ := Aside0.mk (blk_below (g := gb158) (by (with_reducible repeat (first | refine blk_drewN ?_ _ | refine blk_drew ?_ | refine blk_alloc ?_ _)); exact BK158.out) hb); have n5_ := Aside0.mk (below_step (by repeat (first | (with_reducible first | exact HB.out | apply below_alloc | apply pw_below_drewN | apply below_drew1 | refine below_set ?_ GE143.out | refine below_set ?_ GE144.out | refine below_set ?_ GE158.out) | exact HB.out)) hb); have n6_ := Aside0.mk (hbox); have n7_ := Aside0.mk ((by rw [hg]; exact (below_size (by repeat (first | (with_reducible first | exact HB.out | apply below_alloc | apply pw_below_drewN | apply below_drew1 | refine below_set ?_ GE143.out | refine below_set ?_ GE144.out | refine below_set ?_ GE158.out) | exact HB.out))) : w.heap.size ≤ gb166)); have n8_ := Aside0.mk ((by rw [hg]; exact (below_size (by repeat (first | (with_reducible first | exact HB.out | apply below_alloc | apply pw_below_drewN | apply below_drew1 | refine below_set ?_ GE143.out | refine below_set ?_ GE144.out | refine below_set ?_ GE158.out) | exact HB.out))) : w.heap.size ≤ gb166)); have n9_ := Aside0.mk ((by rw [hg]; exact Nat.ne_of_lt (blk_lt (g := gb143) (by (with_reducible repeat (first | refine blk_drewN ?_ _ | refine blk_drew ?_ | refine blk_alloc ?_ _)); exact BK143.out)) : gb143 ≠ gb166)); have n10_ := Aside0.mk ((by rw [hg]; exact Nat.ne_of_gt (blk_lt (g := gb143) (by (with_reducible repeat (first | refine blk_drewN ?_ _ | refine blk_drew ?_ | refine blk_alloc ?_ _)); exact BK143.out)) : gb166 ≠ gb143)); have n11_ := Aside0.mk ((by rw [hg]; exact Nat.ne_of_lt (blk_lt (g := gb144) (by (with_reducible repeat (first | refine blk_drewN ?_ _ | refine blk_drew ?_ | refine blk_alloc ?_ _)); exact BK144.out)) : gb144 ≠ gb166)); have n12_ := Aside0.mk ((by rw [hg]; exact Nat.ne_of_gt (blk_lt (g := gb144) (by (with_reducible repeat (first | refine blk_drewN ?_ _ | refine blk_drew ?_ | refine blk_alloc ?_ _)); exact BK144.out)) : gb166 ≠ gb144)); have n13_ := Aside0.mk ((by rw [hg]; exact Nat.ne_of_lt (blk_lt (g := gb158) (by (with_reducible repeat (first | refine blk_drewN ?_ _ | refine blk_drew ?_ | refine blk_alloc ?_ _)); exact BK158.out)) : gb158 ≠ gb166)); have n14_ := Aside0.mk ((by rw [hg]; exact Nat.ne_of_gt (blk_lt (g := gb158) (by (with_reducible repeat (first | refine blk_drewN ?_ _ | refine blk_drew ?_ | refine blk_alloc ?_ _)); exact BK158.out)) : gb166 ≠ gb158)); clear HO156; clear HO164; clear BK143; clear BK144; clear BK158; clear HB; have HO156 := n0_; have HO164 := n1_; have BK143 := n2_; have BK144 := n3_; have BK158 := n4_; have HB := n5_; have BK166 := n6_; have GW166 := n7_; have GE166 := n8_; have NB143_166 := n9_; have NB166_143 := n10_; have NB144_166 := n11_; have NB166_144 := n12_; have NB158_166 := n13_; have NB166_158 := n14_; clear n0_ n1_ n2_ n3_ n4_ n5_ n6_ n7_ n8_ n9_ n10_ n11_ n12_ n13_ n14_; clear hb hbox hg; have hnb55 := NB166_143.out; have hnc55 := NB143_166.out; have hnb56 := NB166_144.out; have hnc56 := NB144_166.out; have hnb57 := NB166_158.out; have hnc57 := NB158_166.out; obtain ⟨hcz58_0, hcz58_1, hcz58_2, hcz58_3⟩ := sqc4 BK166.out; obtain ⟨hfz58_0, hfz58_1, hfz58_2, hfz58_3⟩ := frozen4 BK166.out; obtain ⟨Ao59, co59, eo59⟩ := Kd.N_slice HO164.out; subst eo59; obtain ⟨hcz60_0, hcz60_1, hcz60_2, hcz60_3⟩ := sqc4 BK158.out; obtain ⟨hfz60_0, hfz60_1, hfz60_2, hfz60_3⟩ := frozen4 BK158.out) | (go_at_call 31; (with_reducible refine (culetref14_Same.calls t151 t152 t153 _ _ t154 t159 t160 t161 _ _ t162 true _ ?side1 ?side2 ?side3 ?side4 A41.out).mono ?_); (case side1 => refine (Kd.V_reads' (e := 51) (base := w.heap.size) (ok := fun k_ => (((k_ ≠ gb143 ∧ (k_ ≠ gb144 ∧ k_ ≠ gb158)) ∧ some k_ ≠ (.slice Ao59 t162.length co59 : Value).ownBlock) ∧ k_ ≠ gb166)) (n := t154.length) (c := co50) ?_).2.2; exact (by (with_reducible repeat (first | apply Kd.V_alloc | apply Kd.V_drewN | apply Kd.V_drew)); exact (Kd.V_mono (Kd.V_far (p := ⟨gb166, 3, none⟩) (Kd.V_far (p := ⟨gb166, 2, none⟩) (Kd.V_far (p := ⟨gb166, 1, none⟩) (Kd.V_far (p := ⟨gb166, 0, none⟩) (Kd.V_mono HO156.out (fun k_ hk => (⟨hk, hk.2⟩ : _ ∧ k_ ≠ gb166))) (fun _ hk => hk.2) (.string t159)) (fun _ hk => hk.2) (.int .i64 t160)) (fun _ hk => hk.2) (.bool t161)) (fun _ hk => hk.2) (.slice Ao59 t162.length co59)) (fun _ h_ => h_.1)))); (case side2 => exact (Kd.V_reads' HO156.out).2.1); (case side3 => refine (Kd.N_reads' (e := 51) (base := w.heap.size) (ok := fun k_ => ((k_ ≠ gb143 ∧ (k_ ≠ gb144 ∧ k_ ≠ gb158)) ∧ k_ ≠ gb166)) (n := t162.length) (c := co59) ?_).2.2; exact (by (with_reducible repeat (first | apply Kd.N_alloc | apply Kd.N_drewN | apply Kd.N_drew)); exact (Kd.N_mono (Kd.N_far (p := ⟨gb166, 3, none⟩) (Kd.N_far (p := ⟨gb166, 2, none⟩) (Kd.N_far (p := ⟨gb166, 1, none⟩) (Kd.N_far (p := ⟨gb166, 0, none⟩) (Kd.N_mono HO164.out (fun k_ hk => (⟨hk, hk.2⟩ : _ ∧ k_ ≠ gb166))) (fun _ hk => hk.2) (.string t159)) (fun _ hk => hk.2) (.int .i64 t160)) (fun _ hk => hk.2) (.bool t161)) (fun _ hk => hk.2) (.slice Ao59 t162.length co59)) (fun _ h_ => h_.1)))); (case side4 => exact (Kd.N_reads' HO164.out).2.1); rintro e w61 ⟨rfl, hb⟩; have n0_ := Aside0.mk (Kd.V_below (by (with_reducible repeat (first | apply Kd.V_alloc | apply Kd.V_drewN | apply Kd.V_drew)); exact (Kd.V_mono (Kd.V_far (p := ⟨gb166, 3, none⟩) (Kd.V_far (p := ⟨gb166, 2, none⟩) (Kd.V_far (p := ⟨gb166, 1, none⟩) (Kd.V_far (p := ⟨gb166, 0, none⟩) (Kd.V_mono HO156.out (fun k_ hk => (⟨hk, hk.2⟩ : _ ∧ k_ ≠ gb166))) (fun _ hk => hk.2) (.string t159)) (fun _ hk => hk.2) (.int .i64 t160)) (fun _ hk => hk.2) (.bool t161)) (fun _ hk => hk.2) (.slice Ao59 t162.length co59)) (fun _ h_ => h_.1))) hb); have n1_ := Aside0.mk (Kd.N_below (by (with_reducible repeat (first | apply Kd.N_alloc | apply Kd.N_drewN | apply Kd.N_drew)); exact (Kd.N_mono (Kd.N_far (p := ⟨gb166, 3, none⟩) (Kd.N_far (p := ⟨gb166, 2, none⟩) (Kd.N_far (p := ⟨gb166, 1, none⟩) (Kd.N_far (p := ⟨gb166, 0, none⟩) (Kd.N_mono HO164.out (fun k_ hk => (⟨hk, hk.2⟩ : _ ∧ k_ ≠ gb166))) (fun _ hk => hk.2) (.string t159)) (fun _ hk => hk.2) (.int .i64 t160)) (fun _ hk => hk.2) (.bool t161)) (fun _ hk => hk.2) (.slice Ao59 t162.length co59)) (fun _ h_ => h_.1))) hb); have n2_ := Aside0.mk (blk_below (g := gb143) (o := .cells #[.string a1_0, .int .i64 a1_1] 64 (0, 0)) (by (with_reducible repeat (first | refine blk_drewN ?_ _ | refine blk_drew ?_ | refine blk_alloc ?_ _)); refine blk_far ?_ NB143_166.out _; (with_reducible repeat (first | refine blk_drewN ?_ _ | refine blk_drew ?_ | refine blk_alloc ?_ _)); refine blk_far ?_ NB143_166.out _; (with_reducible repeat (first | refine blk_drewN ?_ _ | refine blk_drew ?_ | refine blk_alloc ?_ _)); refine blk_far ?_ NB143_166.out _; (with_reducible repeat (first | refine blk_drewN ?_ _ | refine blk_drew ?_ | refine blk_alloc ?_ _)); refine blk_far ?_ NB143_166.out _; (with_reducible repeat (first | refine blk_drewN ?_ _ | refine blk_drew ?_ | refine blk_alloc ?_ _)); exact BK143.out) hb); have n3_ := Aside0.mk (blk_below (g := gb144) (o := .cells #[.string a2_0, .int .i64 a2_1, .bool a2_2, .slice A2_3 l2_3.length c2_3, .int .i64 a2_4] 66 (0, 0)) (by (with_reducible repeat (first | refine blk_drewN ?_ _ | refine blk_drew ?_ | refine blk_alloc ?_ _)); refine blk_far ?_ NB144_166.out _; (with_reducible repeat (first | refine blk_drewN ?_ _ | refine blk_drew ?_ | refine blk_alloc ?_ _)); refine blk_far ?_ NB144_166.out _; (with_reducible repeat (first | refine blk_drewN ?_ _ | refine blk_drew ?_ | refine blk_alloc ?_ _)); refine blk_far ?_ NB144_166.out _; (with_reducible repeat (first | refine blk_drewN ?_ _ | refine blk_drew ?_ | refine blk_alloc ?_ _)); refine blk_far ?_ NB144_166.out _; (with_reducible repeat (first | refine blk_drewN ?_ _ | refine blk_drew ?_ | refine blk_alloc ?_ _)); exact BK144.out) hb); have n4_ := Aside0.mk (blk_below (g := gb158) (o := .cells #[.string t151, .int .i64 t152, .bool t153, .slice Ao50 t154.length co50] 36 (0, 0)) (by (with_reducible repeat (first | refine blk_drewN ?_ _ | refine blk_drew ?_ | refine blk_alloc ?_ _)); refine blk_far ?_ NB158_166.out _; (with_reducible repeat (first | refine blk_drewN ?_ _ | refine blk_drew ?_ | refine blk_alloc ?_ _)); refine blk_far ?_ NB158_166.out _; (with_reducible repeat (first | refine blk_drewN ?_ _ | refine blk_drew ?_ | refine blk_alloc ?_ _)); refine blk_far ?_ NB158_166.out _; (with_reducible repeat (first | refine blk_drewN ?_ _ | refine blk_drew ?_ | refine blk_alloc ?_ _)); refine blk_far ?_ NB158_166.out _; (with_reducible repeat (first | refine blk_drewN ?_ _ | refine blk_drew ?_ | refine blk_alloc ?_ _)); exact BK158.out) hb); have n5_ := Aside0.mk (blk_below (g := gb166) (o := .cells #[.string t159, .int .i64 t160, .bool t161, .slice Ao59 t162.length co59] 36 (0, 0)) (by (with_reducible repeat (first | refine blk_drewN ?_ _ | refine blk_drew ?_ | refine blk_alloc ?_ _)); apply put4; (with_reducible repeat (first | refine blk_drewN ?_ _ | refine blk_drew ?_ | refine blk_alloc ?_ _)); exact BK166.out) hb); have n6_ := Aside0.mk (below_step (by repeat (first | (with_reducible first | exact HB.out | apply below_alloc | apply pw_below_drewN | apply below_drew1 | refine below_set ?_ GE143.out | refine below_set ?_ GE144.out | refine below_set ?_ GE158.out | refine below_set ?_ GE166.out) | exact HB.out)) hb); clear HO156; clear HO164; clear BK143; clear BK144; clear BK158; clear BK166; clear HB; have HO156 := n0_; have HO164 := n1_; have BK143 := n2_; have BK144 := n3_; have BK158 := n4_; have BK166 := n5_; have HB := n6_; clear n0_ n1_ n2_ n3_ n4_ n5_ n6_; (try clear hb); (try clear hb2); (try clear hk); (try clear hi)))
           go_ret
           exact ⟨by first | rfl | (simp [errW_none, errW_some] <;> rfl) | (simp [*, errW_none, errW_some] <;> rfl), by repeat (first | (with_reducible first | exact HB.out | apply below_alloc | apply pw_below_drewN | apply below_drew1 | refine below_set ?_ GE143.out | refine below_set ?_ GE144.out | refine below_set ?_ GE158.out | refine below_set ?_ GE166.out) | exact HB.out)⟩
          ·replace c42 := Bool.eq_false_iff.mpr c42
           subst c42
           have H1 : (some false) = some r := by rw [if_neg (show ¬ (false = true) by decide)] at H; exact H
           clear H
           have H := H1
           clear H1
           exact absurd ((Option.some.inj H).trans HTRUE.out) (by decide)
         ·rw [if_neg c40] at H
          have c40b0 : (t148 == t150) = false := by simpa using c40
          (try (have c40b1 : decide (t148 = t150) = false := by simpa using c40))
          (try (have c40b2 : (t148 == t150) = false := by simpa using c40))
          (try (have c40b3 : ¬ (t148 = t150) := by simpa using c40))
          clear c40
          exact absurd ((Option.some.inj H).trans HTRUE.out) (by decide)
        ·rw [if_neg c39] at H
         have c39b0 : (t147 == t149) = false := beq_eq_false_iff_ne.mpr c39
         have c39b1 : (t147 != t149) = true := bne_iff_ne.mpr c39
         exact absurd ((Option.some.inj H).trans HTRUE.out) (by decide)
 ·replace c5 := Bool.eq_false_iff.mpr c5
  subst c5
  have H1 : (some false) = some r := by rw [if_neg (show ¬ (false = true) by decide)] at H; exact H
  clear H
  have H := H1
  clear H1
  exact absurd ((Option.some.inj H).trans HTRUE.out) (by decide)

/-- THE ONE PURE STATEMENT of culetlaw16_TierFind: yours. -/
def culetlaw16_TierFind.Pure : Prop := ∀ (x0 : List (S73)) (x1 : S64) (x2 : S66), (AllV V73) x0 → V64 x1 → V66 x2 → ∃ k, culetlaw16_TierFind.f k x0 x1.f0 x1.f1 x2.f0.f0 x2.f0.f1 x2.f0.f2 x2.f0.f3 x2.f1 = some true

end Go.Proofs.Ytncemdpmooakgaa.XK
