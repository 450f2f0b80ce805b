-- printed by xprint.py
import Derived.Test.YtndbchcfjajgbaaXP0
import Derived.Test.YtndbchcfjajgbaaXP15
import Derived.Test.YtndbchcfjajgbaaXP16
namespace Go.Proofs.Ytndbchcfjajgbaa.XP
open Go.Proofs.Ytndbchcfjajgbaa.XW
open Go.RowKit Go.Proofs.YtndbchcfjajgbaaW.PrintWords Go.Proofs.YtndbchcfjajgbaaW.PrintLast Go.Proofs.YtndbchcfjajgbaaW.PrintMore
attribute [local go_sem] max2_int min2_int max_two min_two max_three min_three max_four min_four   -- for this text's walks alone
set_option linter.unusedVariables false
set_option linter.unusedSimpArgs false

/-! ### culetref53_Value: function 32 -/
mutual
def culetref53_Value.j0 : Nat → List (S24) → Bool → ByteArray → List (S138) → Option (Int × Int)
 | 0, _, _, _, _ => none
 | k + 1, x0, x17, Qa0, Qa1 => if x17 = true then (some (0, 1)) else (culetref53_Value.l0 k x0 0 0 Qa0 Qa1)
def culetref53_Value.l0 : Nat → List (S24) → Int → Int → ByteArray → List (S138) → Option (Int × Int)
 | 0, _, _, _, _, _ => none
 | k + 1, x0, x6, x7, Qa0, Qa1 => if x7 < (x0.length : Int) then (if 0 ≤ x7 then (if ((rd_T24 x0 x7).f1).toList = Qa0.toList then (if ((rd_T24 x0 x7).f3) = 0 then (none) else ((culetref44_Value.f k Qa0 Qa1 (wrap64 (Int.tdiv ((rd_T24 x0 x7).f2) ((rd_T24 x0 x7).f3)))).bind fun bt226 => (culetref53_Value.l0 k x0 (wrap64 (x6 + (wrap64 (bt226.1 * ((rd_T24 x0 x7).f3))))) (wrap64 (x7 + 1)) Qa0 Qa1))) else (culetref53_Value.l0 k x0 x6 (wrap64 (x7 + 1)) Qa0 Qa1)) else (none)) else (some (x6, 0))
end
def culetref53_Value.f (k : Nat) (l0 : List (S24)) (a1_0 : ByteArray) (l1_1 : List (S138)) : Option (Int × Int) := (culetref53_Valid.f k l0).bind fun t221 => (if t221 = true then ((culetref44_Valid.f k a1_0 l1_1).bind fun t222 => (culetref53_Value.j0 k l0 (!t222) a1_0 l1_1)) else (culetref53_Value.j0 k l0 true a1_0 l1_1))
theorem culetref53_Value.mono_l : ∀ k, (∀ y0 y1 y2 y3, LeO (culetref53_Value.j0 k y0 y1 y2 y3) (culetref53_Value.j0 (k + 1) y0 y1 y2 y3)) ∧ (∀ y0 y1 y2 y3 y4, LeO (culetref53_Value.l0 k y0 y1 y2 y3 y4) (culetref53_Value.l0 (k + 1) y0 y1 y2 y3 y4))
 | 0 => ⟨fun _ _ _ _ r h => by simp [culetref53_Value.j0] at h, fun _ _ _ _ _ r h => by simp [culetref53_Value.l0] at h⟩
 | k + 1 => by
  obtain ⟨ih0, ih1⟩ := culetref53_Value.mono_l k
  refine ⟨?_, ?_⟩
  ·intro y0 y1 y2 y3
   unfold culetref53_Value.j0
   repeat' first
   | (with_reducible exact ih0 _ _ _ _)
   | (with_reducible exact ih1 _ _ _ _ _)
   | (with_reducible exact culetref44_Valid.mono _ _ _)
   | (with_reducible exact culetref44_Value.mono _ _ _ _)
   | (with_reducible exact culetref53_Valid.mono _ _)
   | (with_reducible exact LeO.refl _)
   | (with_reducible exact LeO.none _)
   | (with_reducible refine LeO.ite ?_ ?_)
   | (with_reducible refine LeO.bind ?_ (fun _ => ?_))
   | exact ih0 _ _ _ _
   | exact ih1 _ _ _ _ _
   | exact culetref44_Valid.mono _ _ _
   | exact culetref44_Value.mono _ _ _ _
   | exact culetref53_Valid.mono _ _
   | exact LeO.none _
   | refine LeO.ite ?_ ?_
   | refine LeO.bind ?_ (fun _ => ?_)
  ·intro y0 y1 y2 y3 y4
   unfold culetref53_Value.l0
   repeat' first
   | (with_reducible exact ih0 _ _ _ _)
   | (with_reducible exact ih1 _ _ _ _ _)
   | (with_reducible exact culetref44_Valid.mono _ _ _)
   | (with_reducible exact culetref44_Value.mono _ _ _ _)
   | (with_reducible exact culetref53_Valid.mono _ _)
   | (with_reducible exact LeO.refl _)
   | (with_reducible exact LeO.none _)
   | (with_reducible refine LeO.ite ?_ ?_)
   | (with_reducible refine LeO.bind ?_ (fun _ => ?_))
   | exact ih0 _ _ _ _
   | exact ih1 _ _ _ _ _
   | exact culetref44_Valid.mono _ _ _
   | exact culetref44_Value.mono _ _ _ _
   | exact culetref53_Valid.mono _ _
   | exact LeO.none _
   | refine LeO.ite ?_ ?_
   | refine LeO.bind ?_ (fun _ => ?_)
theorem culetref53_Value.mono : ∀ a0 a1 a2 k, LeO (culetref53_Value.f k a0 a1 a2) (culetref53_Value.f (k + 1) a0 a1 a2) := by
 intro a0 a1 a2 k
 obtain ⟨ih0, ih1⟩ := culetref53_Value.mono_l k
 unfold culetref53_Value.f
 repeat' first
   | (with_reducible exact ih0 _ _ _ _)
   | (with_reducible exact ih1 _ _ _ _ _)
   | (with_reducible exact culetref44_Valid.mono _ _ _)
   | (with_reducible exact culetref44_Value.mono _ _ _ _)
   | (with_reducible exact culetref53_Valid.mono _ _)
   | (with_reducible exact LeO.refl _)
   | (with_reducible exact LeO.none _)
   | (with_reducible refine LeO.ite ?_ ?_)
   | (with_reducible refine LeO.bind ?_ (fun _ => ?_))
   | exact ih0 _ _ _ _
   | exact ih1 _ _ _ _ _
   | exact culetref44_Valid.mono _ _ _
   | exact culetref44_Value.mono _ _ _ _
   | exact culetref53_Valid.mono _ _
   | exact LeO.none _
   | refine LeO.ite ?_ ?_
   | refine LeO.bind ?_ (fun _ => ?_)
def culetref53_Value.T7 : Bool × List (List Nat × List Nat) := (true, [([], []), ([], []), ([0, 1], [0, 1]), ([2], [2]), ([3], [3]), ([], []), ([5], [5]), ([4, 6], [4, 6])])
def culetref53_Value.B7 : List Nat := [0, 0, 3, 7, 15, 0, 32, 127]
theorem culetref53_Value.tab7 : rtab .any (opsOf Try.f32 7) = culetref53_Value.T7 := by kernel_rfl
theorem culetref53_Value.bits7 : waitsOk culetref53_Value.T7.2 culetref53_Value.B7 = true := by kernel_rfl
def culetref53_Value.T8 : Bool × List (List Nat × List Nat) := (true, [([], []), ([], []), ([], []), ([1, 2], [1, 2]), ([3], [3]), ([4], [4]), ([], []), ([], []), ([6, 7], [6, 7]), ([8], [8]), ([9], [9]), ([5, 10], [5, 10]), ([0, 11], [0, 11]), ([12], [12]), ([13], [13]), ([13], [13]), ([14, 12, 0, 1, 2, 3, 4, 5, 6, 7, 8, 9, 10, 11, 12, 13, 14], [14]), ([15, 16, 0, 1, 2, 3, 4, 5, 6, 7, 8, 9, 10, 11, 12, 13, 14, 15, 16], [15])])
def culetref53_Value.B8 : List Nat := [0, 0, 0, 6, 14, 30, 0, 0, 192, 448, 960, 2046, 4095, 8191, 16383, 16383, 32767, 131071]
theorem culetref53_Value.tab8 : rtab .any (opsOf Try.f32 8) = culetref53_Value.T8 := by kernel_rfl
theorem culetref53_Value.bits8 : waitsOk culetref53_Value.T8.2 culetref53_Value.B8 = true := by kernel_rfl
set_option maxHeartbeats 8000000 in
set_option maxRecDepth 100000 in
theorem culetref53_Value.calls (k : Nat) (A0 : Option Addr) (c0 : Nat) (l0 : List (S24)) (a1_0 : ByteArray) (A1_1 : Option Addr) (c1_1 : Nat) (l1_1 : List (S138)) (r1 : Int) (r2 : Int) (w : World) (hr0 : Kd.C k24 w A0 l0.length l0) (hc0 : l0.length ≤ c0) (hr1_1 : Kd.C k138 w A1_1 l1_1.length l1_1) (hc1_1 : l1_1.length ≤ c1_1) (h : culetref53_Value.f k l0 a1_0 l1_1 = some (r1, r2)) :
  Calls Try.prog 32 #[.slice A0 l0.length c0, .agg #[.string a1_0, .slice A1_1 l1_1.length c1_1]] w fun e w' => e = .returned (.tuple #[.int .i64 r1, .int .i64 r2]) ∧ Below w.heap.size w w' := by
 have hu55 := Try.underlying55
 have HR0 := Aside0.mk hr0
 have HC0 := Aside0.mk hc0
 clear hr0 hc0
 have HR1_1 := Aside0.mk hr1_1
 have HC1_1 := Aside0.mk hc1_1
 clear hr1_1 hc1_1
 have HB := Aside0.mk (Below.refl w.heap.size w)
 have H : ((culetref53_Valid.f k l0).bind fun t221 => (if t221 = true then ((culetref44_Valid.f k a1_0 l1_1).bind fun t222 => (culetref53_Value.j0 k l0 (!t222) a1_0 l1_1)) else (culetref53_Value.j0 k l0 true a1_0 l1_1))) = some (r1, r2) := h
 clear h
 have HC3 := Aside0.mk H
 clear H
 go_enter Try.func32, Try.ntmps32
 go_upto_region 1 with (first | ((with_reducible refine gate_dst (N := 3) rfl ?_); refine box_event ?hg (N := 3) ?hd (cs := #[.string a1_0, .slice A1_1 l1_1.length c1_1]) (t := 55) ?hr ?_; (case hd => rfl); (case hg => rfl); (case hr => go_simp; try rfl); intro gb220 hg w4 hbox hb; have n0_ := Aside0.mk (below_step (by repeat first | exact HB.out | apply below_alloc | apply pw_below_drewN | apply below_drew1) hb); have n1_ := Aside0.mk (hbox); have n2_ := Aside0.mk ((by rw [hg]; exact (below_size (by repeat first | exact HB.out | apply below_alloc | apply pw_below_drewN | apply below_drew1)) : w.heap.size ≤ gb220)); have n3_ := Aside0.mk ((by rw [hg]; exact (below_size (by repeat first | exact HB.out | apply below_alloc | apply pw_below_drewN | apply below_drew1)) : w.heap.size ≤ gb220)); clear HB; have HB := n0_; have BK220 := n1_; have GW220 := n2_; have GE220 := n3_; clear n0_ n1_ n2_ n3_; clear hb hbox hg))
 (try simp only [Act.put, List.setIfInBounds_toArray, List.set_cons_zero, List.set_cons_succ])
 go_cut [17] (fun v17 wc => ∃ (kq : Nat) (x17_2 : Bool), v17 = .bool x17_2 ∧ Aside0 (culetref53_Value.j0 kq l0 x17_2 a1_0 l1_1 = some (r1, r2)) ∧ Aside0 (kq ≤ k) ∧ Aside0 (wc.heap[gb220]? = some (.cells #[.string a1_0, (.slice A1_1 l1_1.length c1_1)] 55 (0, 0))) ∧ Aside0 (Below w.heap.size w wc))
 case first =>
  have H := HC3.out
  clear HC3
  replace H := Option.bind_eq_some_iff.mp H
  obtain ⟨t221, A50, H⟩ := H
  replace H : (if t221 = true then ((culetref44_Valid.f k a1_0 l1_1).bind fun t222 => (culetref53_Value.j0 k l0 (!t222) a1_0 l1_1)) else (culetref53_Value.j0 k l0 true a1_0 l1_1)) = some (r1, r2) := H
  have A5 := Aside0.mk A50
  clear A50
  by_cases c6 : t221 = true
  ·subst c6
   have H1 : ((culetref44_Valid.f k a1_0 l1_1).bind fun t222 => (culetref53_Value.j0 k l0 (!t222) a1_0 l1_1)) = some (r1, r2) := by rw [if_pos rfl] at H; exact H
   clear H
   have H := H1
   clear H1
   replace H := Option.bind_eq_some_iff.mp H
   obtain ⟨t222, A70, H⟩ := H
   replace H : (culetref53_Value.j0 k l0 (!t222) a1_0 l1_1) = some (r1, r2) := H
   have A7 := Aside0.mk A70
   clear A70
   have H' := Aside0.mk H
   clear H
   go_wp2_with (first | ((with_reducible refine gate_callee (f := 33) rfl ?_); refine goesL_ (some 11) rfl rfl Try.func33 (by kernel_rfl) rfl #[.slice A0 l0.length c0] rfl (by (try simp only [List.map_toArray, List.map_cons, List.map_nil]); first | done | rfl | (simp only [List.length_drop, List.length_take]; rfl)) ?_; (with_reducible refine (culetref53_Valid.calls k _ _ l0 true _ ?side1 ?side2 A5.out).mono ?_); (case side1 => repeat (first | exact (Kd.C_below HR0.out HB.out) | (with_reducible refine Kd.C_alloc ?_ _) | (with_reducible refine Kd.C_drewN ?_ _) | (with_reducible refine Kd.C_drew ?_))); (case side2 => exact HC0.out); rintro e w8 ⟨rfl, hb⟩; refine ⟨_, rfl, ?_⟩; have n0_ := Aside0.mk (blk_below (g := gb220) (by (with_reducible repeat (first | refine blk_drewN ?_ _ | refine blk_drew ?_ | refine blk_alloc ?_ _)); exact BK220.out) hb); have n1_ := Aside0.mk (below_step (by repeat (first | (with_reducible first | exact HB.out | apply below_alloc | apply pw_below_drewN | apply below_drew1 | refine below_set ?_ GE220.out) | exact HB.out)) hb); clear BK220; clear HB; have BK220 := n0_; have HB := n1_; clear n0_ n1_; (try clear hb); (try clear hb2); (try clear hk); (try clear hi); have hcz9_0 : w8.cell? ⟨gb220, 0, none⟩ = some (.string a1_0) := (blk_cell BK220.out 0).trans rfl; have hcz9_1 : w8.cell? ⟨gb220, 1, none⟩ = some (.slice A1_1 l1_1.length c1_1) := (blk_cell BK220.out 1).trans rfl; have hfz9_0 := blk_frozen BK220.out 0; have hfz9_1 := blk_frozen BK220.out 1) | (go_at_call 82; (with_reducible refine (culetref44_Valid.calls k a1_0 _ _ l1_1 t222 _ ?side1 ?side2 A7.out).mono ?_); (case side1 => repeat (first | exact (Kd.C_below HR1_1.out HB.out) | (with_reducible refine Kd.C_alloc ?_ _) | (with_reducible refine Kd.C_drewN ?_ _) | (with_reducible refine Kd.C_drew ?_))); (case side2 => exact HC1_1.out); rintro e w10 ⟨rfl, hb⟩; have n0_ := Aside0.mk (blk_below (g := gb220) (by (with_reducible repeat (first | refine blk_drewN ?_ _ | refine blk_drew ?_ | refine blk_alloc ?_ _)); exact BK220.out) hb); have n1_ := Aside0.mk (below_step (by repeat (first | (with_reducible first | exact HB.out | apply below_alloc | apply pw_below_drewN | apply below_drew1 | refine below_set ?_ GE220.out) | exact HB.out)) hb); clear BK220; clear HB; have BK220 := n0_; have HB := n1_; clear n0_ n1_; (try clear hb); (try clear hb2); (try clear hk); (try clear hi)))
   go_meet
   case rel => exact ⟨_, (!t222), (by first | rfl | (simp; done) | (simp [*]; done)), H', ⟨by first | omega | exact Nat.le_refl _⟩, ⟨by (with_reducible repeat (first | refine blk_drewN ?_ _ | refine blk_drew ?_ | refine blk_alloc ?_ _)); exact BK220.out⟩, ⟨by repeat (first | (with_reducible first | exact HB.out | apply below_alloc | apply pw_below_drewN | apply below_drew1 | refine below_set ?_ GE220.out) | exact HB.out)⟩⟩
  ·replace c6 := Bool.eq_false_iff.mpr c6
   subst c6
   have H1 : (culetref53_Value.j0 k l0 true a1_0 l1_1) = some (r1, r2) := by rw [if_neg (show ¬ (false = true) by decide)] at H; exact H
   clear H
   have H := H1
   clear H1
   have H' := Aside0.mk H
   clear H
   go_wp2_with (first | ((with_reducible refine gate_callee (f := 33) rfl ?_); refine goesL_ (some 11) rfl rfl Try.func33 (by kernel_rfl) rfl #[.slice A0 l0.length c0] rfl (by (try simp only [List.map_toArray, List.map_cons, List.map_nil]); first | done | rfl | (simp only [List.length_drop, List.length_take]; rfl)) ?_; (with_reducible refine (culetref53_Valid.calls k _ _ l0 false _ ?side1 ?side2 A5.out).mono ?_); (case side1 => repeat (first | exact (Kd.C_below HR0.out HB.out) | (with_reducible refine Kd.C_alloc ?_ _) | (with_reducible refine Kd.C_drewN ?_ _) | (with_reducible refine Kd.C_drew ?_))); (case side2 => exact HC0.out); rintro e w11 ⟨rfl, hb⟩; refine ⟨_, rfl, ?_⟩; have n0_ := Aside0.mk (blk_below (g := gb220) (by (with_reducible repeat (first | refine blk_drewN ?_ _ | refine blk_drew ?_ | refine blk_alloc ?_ _)); exact BK220.out) hb); have n1_ := Aside0.mk (below_step (by repeat (first | (with_reducible first | exact HB.out | apply below_alloc | apply pw_below_drewN | apply below_drew1 | refine below_set ?_ GE220.out) | exact HB.out)) hb); clear BK220; clear HB; have BK220 := n0_; have HB := n1_; clear n0_ n1_; (try clear hb); (try clear hb2); (try clear hk); (try clear hi)))
   go_meet
   case rel => exact ⟨_, (true), (by first | rfl | (simp; done) | (simp [*]; done)), H', ⟨by first | omega | exact Nat.le_refl _⟩, ⟨by (with_reducible repeat (first | refine blk_drewN ?_ _ | refine blk_drew ?_ | refine blk_alloc ?_ _)); exact BK220.out⟩, ⟨by repeat (first | (with_reducible first | exact HB.out | apply below_alloc | apply pw_below_drewN | apply below_drew1 | refine below_set ?_ GE220.out) | exact HB.out)⟩⟩
 case rest =>
  clear HC3
  try clear c1
  try clear p2
  try clear c3
  try clear c6
  try clear hcz9_0
  try clear hcz9_1
  try clear hfz9_0
  try clear hfz9_1
  obtain ⟨kq, x17_2, rfl, HA, HJ2, BK220, HB⟩ := hcut
  cases kq with
  | zero => exact absurd HA.out (by simp [culetref53_Value.j0])
  | succ kj2 =>
   have H := HA.out
   clear HA
   simp only [culetref53_Value.j0] at H
   by_cases c12 : x17_2 = true
   ·subst c12
    have H1 : (some (0, 1)) = some (r1, r2) := by rw [if_pos rfl] at H; exact H
    clear H
    have H := H1
    clear H1
    simp only [Option.some.injEq, Prod.mk.injEq] at H
    obtain ⟨rfl, rfl⟩ := H
    go_wp2
    go_ret2
    exact ⟨by first | rfl | (simp [errW_none, errW_some] <;> rfl) | (simp [*, errW_none, errW_some] <;> rfl), by repeat (first | (with_reducible first | exact HB.out | apply below_alloc | apply pw_below_drewN | apply below_drew1 | refine below_set ?_ GE220.out) | exact HB.out)⟩
   ·replace c12 := Bool.eq_false_iff.mpr c12
    subst c12
    have H1 : (culetref53_Value.l0 kj2 l0 0 0 a1_0 l1_1) = some (r1, r2) := by rw [if_neg (show ¬ (false = true) by decide)] at H; exact H
    clear H
    have H := H1
    clear H1
    have H' := Aside0.mk H
    clear H
    go_wp2
    go_loopg [6, 7] kj2 (fun kq v6 v7 w' => ∃ (x6_2 : Int) (x7_2 : Int), v6 = .int .i64 x6_2 ∧ v7 = .int .i64 x7_2 ∧ Aside0 (culetref53_Value.l0 kq l0 x6_2 x7_2 a1_0 l1_1 = some (r1, r2)) ∧ Aside0 (kq ≤ kj2) ∧ Aside0 (w'.heap[gb220]? = some (.cells #[.string a1_0, (.slice A1_1 l1_1.length c1_1)] 55 (0, 0))) ∧ Aside0 (Below w.heap.size w w'))
    case atStart => exact ⟨(0), (0), (by first | rfl | (simp; done) | (simp [*]; done)), (by first | rfl | (simp; done) | (simp [*]; done)), H', ⟨Nat.le_refl _⟩, ⟨by (with_reducible repeat (first | refine blk_drewN ?_ _ | refine blk_drew ?_ | refine blk_alloc ?_ _)); exact BK220.out⟩, ⟨by repeat (first | (with_reducible first | exact HB.out | apply below_alloc | apply pw_below_drewN | apply below_drew1 | refine below_set ?_ GE220.out) | exact HB.out)⟩⟩
    case round =>
     clear H'
     try clear c1
     try clear p2
     try clear c3
     try clear c6
     try clear c12
     try clear hcz9_0
     try clear hcz9_1
     try clear hfz9_0
     try clear hfz9_1
     try clear p2
     obtain ⟨x6_2, x7_2, rfl, rfl, HA, HK2, BK220, HB⟩ := hrel
     cases gk with
     | zero => exact absurd HA.out (by simp [culetref53_Value.l0])
     | succ k2 =>
      have H := HA.out
      clear HA
      simp only [culetref53_Value.l0] at H
      by_cases c13 : x7_2 < (l0.length : Int)
      ·rw [if_pos c13] at H
       have c13b0 : decide (x7_2 < (l0.length : Int)) = true := decide_eq_true c13
       clear c13
       by_cases c14 : 0 ≤ x7_2
       ·rw [if_pos c14] at H
        have c14b0 : decide (0 ≤ x7_2) = true := decide_eq_true c14
        clear c14
        by_cases c15 : ((rd_T24 l0 x7_2).f1).toList = a1_0.toList
        ·rw [if_pos c15] at H
         have c15b0 : (((rd_T24 l0 x7_2).f1).toList == a1_0.toList) = true := beq_iff_eq.mpr c15
         have c15b1 : (((rd_T24 l0 x7_2).f1).toList != a1_0.toList) = false := bne_eq_false_iff_eq.mpr c15
         clear c15
         by_cases c16 : ((rd_T24 l0 x7_2).f3) = 0
         ·rw [if_pos c16] at H
          exact absurd H (by simp)
         ·rw [if_neg c16] at H
          have c16b0 : (((rd_T24 l0 x7_2).f3) == 0) = false := beq_eq_false_iff_ne.mpr c16
          have c16b1 : (((rd_T24 l0 x7_2).f3) != 0) = true := bne_iff_ne.mpr c16
          replace H := Option.bind_eq_some_iff.mp H
          obtain ⟨⟨t226, t227⟩, A170, H⟩ := H
          replace H : (culetref53_Value.l0 k2 l0 (wrap64 (x6_2 + (wrap64 (t226 * ((rd_T24 l0 x7_2).f3))))) (wrap64 (x7_2 + 1)) a1_0 l1_1) = some (r1, r2) := H
          have A17 := Aside0.mk A170
          clear A170
          have H' := Aside0.mk H
          clear H
          try go_wp2
          have n0_ := Aside0.mk (blk_drew BK220.out)
          have n1_ := Aside0.mk (below_drew1 HB.out)
          clear BK220
          clear HB
          have BK220 := n0_
          have HB := n1_
          clear n0_ n1_
          have p223 : 0 ≤ (x7_2 : Int) := of_decide_eq_true (by first | (with_reducible assumption) | assumption)
          have q223 : x7_2 < (l0.length : Int) := of_decide_eq_true (by first | (with_reducible assumption) | assumption)
          obtain ⟨ad223, e223, hx223_0, hx223_1, hx223_2, hx223_3⟩ := at_T24 HR0.out x7_2 p223 q223
          have hw223_3 := hx223_3
          have hw223_2 := hx223_2
          have hw223_1 := hx223_1
          have hw223_0 := hx223_0
          cases e223
          replace hx223_0 := (HB.out.cell (World.block_lt_of_cell? w _ hx223_0)).trans hx223_0
          replace hx223_1 := (HB.out.cell (World.block_lt_of_cell? w _ hx223_1)).trans hx223_1
          replace hx223_2 := (HB.out.cell (World.block_lt_of_cell? w _ hx223_2)).trans hx223_2
          replace hx223_3 := (HB.out.cell (World.block_lt_of_cell? w _ hx223_3)).trans hx223_3
          replace p223 := eq_true p223
          replace q223 := eq_true q223
          refine start_ (n := 8) (S := fun w' => w'.cell? ⟨gb220, 0, none⟩ = some (.string a1_0) ∧ w'.cell? ⟨gb220, 1, none⟩ = some (.slice A1_1 l1_1.length c1_1) ∧ w'.cell? (ad223.add ((x7_2).toNat * 4)) = some (.string ((rd_T24 l0 x7_2).f0)) ∧ w'.cell? ⟨(ad223.add ((x7_2).toNat * 4)).block, (ad223.add ((x7_2).toNat * 4)).off + 1, none⟩ = some (.string ((rd_T24 l0 x7_2).f1)) ∧ w'.cell? ⟨(ad223.add ((x7_2).toNat * 4)).block, (ad223.add ((x7_2).toNat * 4)).off + 2, none⟩ = some (.int .i64 ((rd_T24 l0 x7_2).f2)) ∧ w'.cell? ⟨(ad223.add ((x7_2).toNat * 4)).block, (ad223.add ((x7_2).toNat * 4)).off + 3, none⟩ = some (.int .i64 ((rd_T24 l0 x7_2).f3))) (ds := []) #[false, false, false, false, false, false, false, false] (by kernel_rfl) rfl rfl ⟨(blk_cell BK220.out 0).trans rfl, (blk_cell BK220.out 1).trans rfl, ((HB.out.cell (World.block_lt_of_cell? w _ hw223_0)).trans hw223_0), ((HB.out.cell (World.block_lt_of_cell? w _ hw223_1)).trans hw223_1), ((HB.out.cell (World.block_lt_of_cell? w _ hw223_2)).trans hw223_2), ((HB.out.cell (World.block_lt_of_cell? w _ hw223_3)).trans hw223_3)⟩ (fun hHeld => ?_); refine with_tabW culetref53_Value.tab7 culetref53_Value.bits7 (fun HT_ HW_ => ?_)
          generalize wr.drew = w18 at BK220 HB hx223_0 hx223_1 hx223_2 hx223_3 hHeld ⊢
          refine pure_ (i := 0) (N := some 24) (v := ?_) (a' := ?_) #[true, false, false, false, false, false, false, false] rfl rfl (any_of HT_.out (by kernel_rfl)) (fun _ _ _ h => h) (Or.inl ⟨by rfl, ?_⟩) ?_ ?_
          rotate_left
          ·intro w'
           go_simp
           with_reducible rfl
          rotate_left
          ·simp only [Act.put, List.setIfInBounds_toArray, List.set_cons_zero, List.set_cons_succ, i64_w, i32_w]
           rfl
          refine pure_ (i := 1) (N := some 25) (v := ?_) (a' := ?_) #[true, true, false, false, false, false, false, false] rfl rfl (any_of HT_.out (by kernel_rfl)) (fun _ _ _ h => h) (Or.inl ⟨by rfl, ?_⟩) ?_ ?_
          rotate_left
          ·intro w'
           go_simp
           with_reducible rfl
          rotate_left
          ·simp only [Act.put, List.setIfInBounds_toArray, List.set_cons_zero, List.set_cons_succ, i64_w, i32_w]
           rfl
          refine pure_ (i := 2) (N := some 26) (v := ?_) (a' := ?_) #[true, true, true, false, false, false, false, false] rfl rfl (any_of HT_.out (by kernel_rfl)) (fun _ _ _ h => h) (Or.inl ⟨by rfl, ?_⟩) ?_ ?_
          rotate_left
          ·intro w'
           go_simp
           with_reducible rfl
          rotate_left
          ·simp only [Act.put, List.setIfInBounds_toArray, List.set_cons_zero, List.set_cons_succ, i64_w, i32_w]
           rfl
          refine pure_ (i := 3) (N := some 27) (v := ?_) (a' := ?_) #[true, true, true, true, false, false, false, false] rfl rfl (any_of HT_.out (by kernel_rfl)) (fun _ _ _ h => h) (Or.inl ⟨by rfl, ?_⟩) ?_ ?_
          rotate_left
          ·intro w'
           go_simp
           with_reducible rfl
          rotate_left
          ·simp only [Act.put, List.setIfInBounds_toArray, List.set_cons_zero, List.set_cons_succ, i64_w, i32_w]
           rfl
          refine pure_ (i := 5) (N := some 29) (v := ?_) (a' := ?_) #[true, true, true, true, false, true, false, false] rfl rfl (any_of HT_.out (by kernel_rfl)) (fun _ _ _ h => h) (Or.inl ⟨by rfl, ?_⟩) ?_ ?_
          rotate_left
          ·intro w'
           go_simp
           with_reducible rfl
          rotate_left
          ·simp only [Act.put, List.setIfInBounds_toArray, List.set_cons_zero, List.set_cons_succ, i64_w, i32_w]
           rfl
          refine take_ (i := 4) (N := some 28) (v := ?_) (a' := ?_) #[true, true, true, true, true, true, false, false] rfl rfl (take_ofW HT_.out HW_.out (by kernel_rfl)) (fun _ _ _ h => h) (Or.inl ⟨by rfl, ?_⟩) hHeld ?_ ?_
          rotate_left
          ·rintro w' ⟨s0, s1, s2, s3, s4, s5⟩
           go_simp
           with_reducible rfl
          rotate_left
          ·simp only [Act.put, List.setIfInBounds_toArray, List.set_cons_zero, List.set_cons_succ, i64_w, i32_w]
           rfl
          refine take_ (i := 6) (N := some 30) (v := ?_) (a' := ?_) #[true, true, true, true, true, true, true, false] rfl rfl (take_ofW HT_.out HW_.out (by kernel_rfl)) (fun _ _ _ h => h) (Or.inl ⟨by rfl, ?_⟩) hHeld ?_ ?_
          rotate_left
          ·rintro w' ⟨s0, s1, s2, s3, s4, s5⟩
           go_simp
           with_reducible rfl
          rotate_left
          ·simp only [Act.put, List.setIfInBounds_toArray, List.set_cons_zero, List.set_cons_succ, i64_w, i32_w]
           rfl
          refine pure_ (i := 7) (N := some 31) (v := ?_) (a' := ?_) #[true, true, true, true, true, true, true, true] rfl rfl (any_of HT_.out (by kernel_rfl)) (fun _ _ _ h => h) (Or.inl ⟨by rfl, ?_⟩) ?_ ?_
          rotate_left
          ·intro w'
           go_simp
           with_reducible rfl
          rotate_left
          ·simp only [Act.put, List.setIfInBounds_toArray, List.set_cons_zero, List.set_cons_succ, i64_w, i32_w]
           rfl
          refine done_ (done_of HT_.out (by kernel_rfl)) ?_
          try go_wp2
          have n0_ := Aside0.mk (blk_drew BK220.out)
          have n1_ := Aside0.mk (below_drew1 HB.out)
          clear BK220
          clear HB
          have BK220 := n0_
          have HB := n1_
          clear n0_ n1_
          have p224 : 0 ≤ (x7_2 : Int) := of_decide_eq_true (by first | (with_reducible assumption) | assumption)
          have q224 : x7_2 < (l0.length : Int) := of_decide_eq_true (by first | (with_reducible assumption) | assumption)
          obtain ⟨ad224, e224, hx224_0, hx224_1, hx224_2, hx224_3⟩ := at_T24 HR0.out x7_2 p224 q224
          have hw224_3 := hx224_3
          have hw224_2 := hx224_2
          have hw224_1 := hx224_1
          have hw224_0 := hx224_0
          obtain rfl : ad223 = ad224 := (by injection e224)
          replace hx224_0 := (HB.out.cell (World.block_lt_of_cell? w _ hx224_0)).trans hx224_0
          replace hx224_1 := (HB.out.cell (World.block_lt_of_cell? w _ hx224_1)).trans hx224_1
          replace hx224_2 := (HB.out.cell (World.block_lt_of_cell? w _ hx224_2)).trans hx224_2
          replace hx224_3 := (HB.out.cell (World.block_lt_of_cell? w _ hx224_3)).trans hx224_3
          replace p224 := eq_true p224
          replace q224 := eq_true q224
          have p225 : 0 ≤ (x7_2 : Int) := of_decide_eq_true (by first | (with_reducible assumption) | assumption)
          have q225 : x7_2 < (l0.length : Int) := of_decide_eq_true (by first | (with_reducible assumption) | assumption)
          obtain ⟨ad225, e225, hx225_0, hx225_1, hx225_2, hx225_3⟩ := at_T24 HR0.out x7_2 p225 q225
          have hw225_3 := hx225_3
          have hw225_2 := hx225_2
          have hw225_1 := hx225_1
          have hw225_0 := hx225_0
          obtain rfl : ad223 = ad225 := (by injection e225)
          replace hx225_0 := (HB.out.cell (World.block_lt_of_cell? w _ hx225_0)).trans hx225_0
          replace hx225_1 := (HB.out.cell (World.block_lt_of_cell? w _ hx225_1)).trans hx225_1
          replace hx225_2 := (HB.out.cell (World.block_lt_of_cell? w _ hx225_2)).trans hx225_2
          replace hx225_3 := (HB.out.cell (World.block_lt_of_cell? w _ hx225_3)).trans hx225_3
          replace p225 := eq_true p225
          replace q225 := eq_true q225
          refine start_ (n := 18) (S := fun w' => w'.cell? ⟨gb220, 0, none⟩ = some (.string a1_0) ∧ w'.cell? ⟨gb220, 1, none⟩ = some (.slice A1_1 l1_1.length c1_1) ∧ w'.cell? (ad223.add ((x7_2).toNat * 4)) = some (.string ((rd_T24 l0 x7_2).f0)) ∧ w'.cell? ⟨(ad223.add ((x7_2).toNat * 4)).block, (ad223.add ((x7_2).toNat * 4)).off + 1, none⟩ = some (.string ((rd_T24 l0 x7_2).f1)) ∧ w'.cell? ⟨(ad223.add ((x7_2).toNat * 4)).block, (ad223.add ((x7_2).toNat * 4)).off + 2, none⟩ = some (.int .i64 ((rd_T24 l0 x7_2).f2)) ∧ w'.cell? ⟨(ad223.add ((x7_2).toNat * 4)).block, (ad223.add ((x7_2).toNat * 4)).off + 3, none⟩ = some (.int .i64 ((rd_T24 l0 x7_2).f3)) ∧ w'.cell? (ad223.add ((x7_2).toNat * 4)) = some (.string ((rd_T24 l0 x7_2).f0)) ∧ w'.cell? ⟨(ad223.add ((x7_2).toNat * 4)).block, (ad223.add ((x7_2).toNat * 4)).off + 1, none⟩ = some (.string ((rd_T24 l0 x7_2).f1)) ∧ w'.cell? ⟨(ad223.add ((x7_2).toNat * 4)).block, (ad223.add ((x7_2).toNat * 4)).off + 2, none⟩ = some (.int .i64 ((rd_T24 l0 x7_2).f2)) ∧ w'.cell? ⟨(ad223.add ((x7_2).toNat * 4)).block, (ad223.add ((x7_2).toNat * 4)).off + 3, none⟩ = some (.int .i64 ((rd_T24 l0 x7_2).f3))) (ds := []) #[false, false, false, false, false, false, false, false, false, false, false, false, false, false, false, false, false, false] (by kernel_rfl) rfl rfl ⟨(blk_cell BK220.out 0).trans rfl, (blk_cell BK220.out 1).trans rfl, ((HB.out.cell (World.block_lt_of_cell? w _ hw224_0)).trans hw224_0), ((HB.out.cell (World.block_lt_of_cell? w _ hw224_1)).trans hw224_1), ((HB.out.cell (World.block_lt_of_cell? w _ hw224_2)).trans hw224_2), ((HB.out.cell (World.block_lt_of_cell? w _ hw224_3)).trans hw224_3), ((HB.out.cell (World.block_lt_of_cell? w _ hw225_0)).trans hw225_0), ((HB.out.cell (World.block_lt_of_cell? w _ hw225_1)).trans hw225_1), ((HB.out.cell (World.block_lt_of_cell? w _ hw225_2)).trans hw225_2), ((HB.out.cell (World.block_lt_of_cell? w _ hw225_3)).trans hw225_3)⟩ (fun hHeld => ?_); refine with_tabW culetref53_Value.tab8 culetref53_Value.bits8 (fun HT_ HW_ => ?_)
          generalize w18.drew = w19 at BK220 HB hx224_0 hx224_1 hx224_2 hx224_3 hx225_0 hx225_1 hx225_2 hx225_3 hHeld ⊢
          refine pure_ (i := 1) (N := some 34) (v := ?_) (a' := ?_) #[false, true, false, false, false, false, false, false, false, false, false, false, false, false, false, false, false, false] rfl rfl (any_of HT_.out (by kernel_rfl)) (fun _ _ _ h => h) (Or.inl ⟨by rfl, ?_⟩) ?_ ?_
          rotate_left
          ·intro w'
           go_simp
           with_reducible rfl
          rotate_left
          ·simp only [Act.put, List.setIfInBounds_toArray, List.set_cons_zero, List.set_cons_succ, i64_w, i32_w]
           rfl
          refine pure_ (i := 2) (N := some 35) (v := ?_) (a' := ?_) #[false, true, true, false, false, false, false, false, false, false, false, false, false, false, false, false, false, false] rfl rfl (any_of HT_.out (by kernel_rfl)) (fun _ _ _ h => h) (Or.inl ⟨by rfl, ?_⟩) ?_ ?_
          rotate_left
          ·intro w'
           go_simp
           with_reducible rfl
          rotate_left
          ·simp only [Act.put, List.setIfInBounds_toArray, List.set_cons_zero, List.set_cons_succ, i64_w, i32_w]
           rfl
          refine pure_ (i := 3) (N := some 36) (v := ?_) (a' := ?_) #[false, true, true, true, false, false, false, false, false, false, false, false, false, false, false, false, false, false] rfl rfl (any_of HT_.out (by kernel_rfl)) (fun _ _ _ h => h) (Or.inl ⟨by rfl, ?_⟩) ?_ ?_
          rotate_left
          ·intro w'
           go_simp
           with_reducible rfl
          rotate_left
          ·simp only [Act.put, List.setIfInBounds_toArray, List.set_cons_zero, List.set_cons_succ, i64_w, i32_w]
           rfl
          refine pure_ (i := 4) (N := some 37) (v := ?_) (a' := ?_) #[false, true, true, true, true, false, false, false, false, false, false, false, false, false, false, false, false, false] rfl rfl (any_of HT_.out (by kernel_rfl)) (fun _ _ _ h => h) (Or.inl ⟨by rfl, ?_⟩) ?_ ?_
          rotate_left
          ·intro w'
           go_simp
           with_reducible rfl
          rotate_left
          ·simp only [Act.put, List.setIfInBounds_toArray, List.set_cons_zero, List.set_cons_succ, i64_w, i32_w]
           rfl
          refine pure_ (i := 6) (N := some 39) (v := ?_) (a' := ?_) #[false, true, true, true, true, false, true, false, false, false, false, false, false, false, false, false, false, false] rfl rfl (any_of HT_.out (by kernel_rfl)) (fun _ _ _ h => h) (Or.inl ⟨by rfl, ?_⟩) ?_ ?_
          rotate_left
          ·intro w'
           go_simp
           with_reducible rfl
          rotate_left
          ·simp only [Act.put, List.setIfInBounds_toArray, List.set_cons_zero, List.set_cons_succ, i64_w, i32_w]
           rfl
          refine pure_ (i := 7) (N := some 40) (v := ?_) (a' := ?_) #[false, true, true, true, true, false, true, true, false, false, false, false, false, false, false, false, false, false] rfl rfl (any_of HT_.out (by kernel_rfl)) (fun _ _ _ h => h) (Or.inl ⟨by rfl, ?_⟩) ?_ ?_
          rotate_left
          ·intro w'
           go_simp
           with_reducible rfl
          rotate_left
          ·simp only [Act.put, List.setIfInBounds_toArray, List.set_cons_zero, List.set_cons_succ, i64_w, i32_w]
           rfl
          refine pure_ (i := 8) (N := some 41) (v := ?_) (a' := ?_) #[false, true, true, true, true, false, true, true, true, false, false, false, false, false, false, false, false, false] rfl rfl (any_of HT_.out (by kernel_rfl)) (fun _ _ _ h => h) (Or.inl ⟨by rfl, ?_⟩) ?_ ?_
          rotate_left
          ·intro w'
           go_simp
           with_reducible rfl
          rotate_left
          ·simp only [Act.put, List.setIfInBounds_toArray, List.set_cons_zero, List.set_cons_succ, i64_w, i32_w]
           rfl
          refine pure_ (i := 9) (N := some 42) (v := ?_) (a' := ?_) #[false, true, true, true, true, false, true, true, true, true, false, false, false, false, false, false, false, false] rfl rfl (any_of HT_.out (by kernel_rfl)) (fun _ _ _ h => h) (Or.inl ⟨by rfl, ?_⟩) ?_ ?_
          rotate_left
          ·intro w'
           go_simp
           with_reducible rfl
          rotate_left
          ·simp only [Act.put, List.setIfInBounds_toArray, List.set_cons_zero, List.set_cons_succ, i64_w, i32_w]
           rfl
          refine take_ (i := 0) (N := some 33) (v := ?_) (a' := ?_) #[true, true, true, true, true, false, true, true, true, true, false, false, false, false, false, false, false, false] rfl rfl (take_ofW HT_.out HW_.out (by kernel_rfl)) (fun _ _ _ h => h) (Or.inl ⟨by rfl, ?_⟩) hHeld ?_ ?_
          rotate_left
          ·rintro w' ⟨s0, s1, s2, s3, s4, s5, s6, s7, s8, s9⟩
           go_simp
           with_reducible rfl
          rotate_left
          ·simp only [Act.put, List.setIfInBounds_toArray, List.set_cons_zero, List.set_cons_succ, i64_w, i32_w]
           rfl
          refine take_ (i := 5) (N := some 38) (v := ?_) (a' := ?_) #[true, true, true, true, true, true, true, true, true, true, false, false, false, false, false, false, false, false] rfl rfl (take_ofW HT_.out HW_.out (by kernel_rfl)) (fun _ _ _ h => h) (Or.inl ⟨by rfl, ?_⟩) hHeld ?_ ?_
          rotate_left
          ·rintro w' ⟨s0, s1, s2, s3, s4, s5, s6, s7, s8, s9⟩
           go_simp
           with_reducible rfl
          rotate_left
          ·simp only [Act.put, List.setIfInBounds_toArray, List.set_cons_zero, List.set_cons_succ, i64_w, i32_w]
           rfl
          refine take_ (i := 10) (N := some 43) (v := ?_) (a' := ?_) #[true, true, true, true, true, true, true, true, true, true, true, false, false, false, false, false, false, false] rfl rfl (take_ofW HT_.out HW_.out (by kernel_rfl)) (fun _ _ _ h => h) (Or.inl ⟨by rfl, ?_⟩) hHeld ?_ ?_
          rotate_left
          ·rintro w' ⟨s0, s1, s2, s3, s4, s5, s6, s7, s8, s9⟩
           go_simp
           with_reducible rfl
          rotate_left
          ·simp only [Act.put, List.setIfInBounds_toArray, List.set_cons_zero, List.set_cons_succ, i64_w, i32_w]
           rfl
          refine pure_ (i := 11) (N := some 44) (v := ?_) (a' := ?_) #[true, true, true, true, true, true, true, true, true, true, true, true, false, false, false, false, false, false] rfl rfl (any_of HT_.out (by kernel_rfl)) (fun _ _ _ h => h) (Or.inl ⟨by rfl, ?_⟩) ?_ ?_
          rotate_left
          ·intro w'
           go_simp
           with_reducible rfl
          rotate_left
          ·simp only [Act.put, List.setIfInBounds_toArray, List.set_cons_zero, List.set_cons_succ, i64_w, i32_w]
           rfl
          refine one_ (i := 12) (N := some 45) #[true, true, true, true, true, true, true, true, true, true, true, true, true, false, false, false, false, false] rfl rfl (one_of HT_.out (by kernel_rfl)) (by decide) (fun K hK => ?_)
          refine goes_ Try.func83 (by kernel_rfl) rfl #[.agg #[.string a1_0, .slice A1_1 l1_1.length c1_1], .int .i64 (wrap64 (Int.tdiv ((rd_T24 l0 x7_2).f2) ((rd_T24 l0 x7_2).f3)))] (by rfl) rfl rfl (by (try simp only [List.map_toArray, List.map_cons, List.map_nil]); first | done | rfl | (simp only [List.length_drop, List.length_take]; rfl)) ?_
          with_reducible refine (culetref44_Value.calls k2 a1_0 _ _ l1_1 (wrap64 (Int.tdiv ((rd_T24 l0 x7_2).f2) ((rd_T24 l0 x7_2).f3))) t226 t227 _ ?side1 ?side2 A17.out).mono ?_
          (case side1 => repeat (first | exact (Kd.C_below HR1_1.out HB.out) | (with_reducible refine Kd.C_alloc ?_ _) | (with_reducible refine Kd.C_drewN ?_ _) | (with_reducible refine Kd.C_drew ?_)))
          (case side2 => exact HC1_1.out)
          rintro e w20 ⟨rfl, hb⟩
          refine ⟨_, rfl, ?_⟩
          have n0_ := Aside0.mk (blk_below (g := gb220) (by (with_reducible repeat (first | refine blk_drewN ?_ _ | refine blk_drew ?_ | refine blk_alloc ?_ _)); exact BK220.out) hb)
          have n1_ := Aside0.mk (below_step (by repeat (first | (with_reducible first | exact HB.out | apply below_alloc | apply pw_below_drewN | apply below_drew1 | refine below_set ?_ GE220.out) | exact HB.out)) hb)
          clear BK220
          clear HB
          have BK220 := n0_
          have HB := n1_
          clear n0_ n1_
          (try clear hb)
          (try clear hb2)
          (try clear hk)
          (try clear hi)
          refine hK.out _ _ ⟨(blk_cell BK220.out 0).trans rfl, (blk_cell BK220.out 1).trans rfl, ((HB.out.cell (World.block_lt_of_cell? w _ hw224_0)).trans hw224_0), ((HB.out.cell (World.block_lt_of_cell? w _ hw224_1)).trans hw224_1), ((HB.out.cell (World.block_lt_of_cell? w _ hw224_2)).trans hw224_2), ((HB.out.cell (World.block_lt_of_cell? w _ hw224_3)).trans hw224_3), ((HB.out.cell (World.block_lt_of_cell? w _ hw225_0)).trans hw225_0), ((HB.out.cell (World.block_lt_of_cell? w _ hw225_1)).trans hw225_1), ((HB.out.cell (World.block_lt_of_cell? w _ hw225_2)).trans hw225_2), ((HB.out.cell (World.block_lt_of_cell? w _ hw225_3)).trans hw225_3)⟩ (fun hHeld => ?_)
          clear hK K
          refine norm_ (a' := ?_) ?_ ?_
          rotate_left
          ·show Act.put _ (some 45) _ = _
           simp only [Act.put, List.setIfInBounds_toArray, List.set_cons_zero, List.set_cons_succ, i64_w, i32_w]
           rfl
          refine pure_ (i := 13) (N := some 32) (v := ?_) (a' := ?_) #[true, true, true, true, true, true, true, true, true, true, true, true, true, true, false, false, false, false] rfl rfl (any_of HT_.out (by kernel_rfl)) (fun _ _ _ h => h) (Or.inl ⟨by rfl, ?_⟩) ?_ ?_
          rotate_left
          ·intro w'
           go_simp
           with_reducible rfl
          rotate_left
          ·simp only [Act.put, List.setIfInBounds_toArray, List.set_cons_zero, List.set_cons_succ, i64_w, i32_w]
           rfl
          refine pure_ (i := 14) (N := some 46) (v := ?_) (a' := ?_) #[true, true, true, true, true, true, true, true, true, true, true, true, true, true, true, false, false, false] rfl rfl (any_of HT_.out (by kernel_rfl)) (fun _ _ _ h => h) (Or.inl ⟨by rfl, ?_⟩) ?_ ?_
          rotate_left
          ·intro w'
           go_simp
           with_reducible rfl
          rotate_left
          ·simp only [Act.put, List.setIfInBounds_toArray, List.set_cons_zero, List.set_cons_succ, i64_w, i32_w]
           rfl
          refine pure_ (i := 15) (N := some 47) (v := ?_) (a' := ?_) #[true, true, true, true, true, true, true, true, true, true, true, true, true, true, true, true, false, false] rfl rfl (any_of HT_.out (by kernel_rfl)) (fun _ _ _ h => h) (Or.inl ⟨by rfl, ?_⟩) ?_ ?_
          rotate_left
          ·intro w'
           go_simp
           with_reducible rfl
          rotate_left
          ·simp only [Act.put, List.setIfInBounds_toArray, List.set_cons_zero, List.set_cons_succ, i64_w, i32_w]
           rfl
          refine pure_ (i := 16) (N := some 8) (v := ?_) (a' := ?_) #[true, true, true, true, true, true, true, true, true, true, true, true, true, true, true, true, true, false] rfl rfl (any_of HT_.out (by kernel_rfl)) (fun _ _ _ h => h) (Or.inl ⟨by rfl, ?_⟩) ?_ ?_
          rotate_left
          ·intro w'
           go_simp
           with_reducible rfl
          rotate_left
          ·simp only [Act.put, List.setIfInBounds_toArray, List.set_cons_zero, List.set_cons_succ, i64_w, i32_w]
           rfl
          refine pure_ (i := 17) (N := some 9) (v := ?_) (a' := ?_) #[true, true, true, true, true, true, true, true, true, true, true, true, true, true, true, true, true, true] rfl rfl (any_of HT_.out (by kernel_rfl)) (fun _ _ _ h => h) (Or.inl ⟨by rfl, ?_⟩) ?_ ?_
          rotate_left
          ·intro w'
           go_simp
           with_reducible rfl
          rotate_left
          ·simp only [Act.put, List.setIfInBounds_toArray, List.set_cons_zero, List.set_cons_succ, i64_w, i32_w]
           rfl
          refine done_ (done_of HT_.out (by kernel_rfl)) ?_
          have p228 : 0 ≤ (x7_2 : Int) := of_decide_eq_true (by first | (with_reducible assumption) | assumption)
          have q228 : x7_2 < (l0.length : Int) := of_decide_eq_true (by first | (with_reducible assumption) | assumption)
          obtain ⟨ad228, e228, hx228_0, hx228_1, hx228_2, hx228_3⟩ := at_T24 HR0.out x7_2 p228 q228
          obtain rfl : ad223 = ad228 := (by injection e228)
          replace hx228_0 := (HB.out.cell (World.block_lt_of_cell? w _ hx228_0)).trans hx228_0
          replace hx228_1 := (HB.out.cell (World.block_lt_of_cell? w _ hx228_1)).trans hx228_1
          replace hx228_2 := (HB.out.cell (World.block_lt_of_cell? w _ hx228_2)).trans hx228_2
          replace hx228_3 := (HB.out.cell (World.block_lt_of_cell? w _ hx228_3)).trans hx228_3
          replace p228 := eq_true p228
          replace q228 := eq_true q228
          try go_wp2
          go_roundg k2
          case measure => have := HJ2.out; have := HK2.out; omega
          case rel => exact ⟨(wrap64 (x6_2 + (wrap64 (t226 * ((rd_T24 l0 x7_2).f3))))), (wrap64 (x7_2 + 1)), (by first | rfl | (simp; done) | (simp [*]; done)), (by first | rfl | (simp; done) | (simp [*]; done)), H', ⟨by have := HJ2.out; have := HK2.out; omega⟩, ⟨by (with_reducible repeat (first | refine blk_drewN ?_ _ | refine blk_drew ?_ | refine blk_alloc ?_ _)); exact BK220.out⟩, ⟨by repeat (first | (with_reducible first | exact HB.out | apply below_alloc | apply pw_below_drewN | apply below_drew1 | refine below_set ?_ GE220.out) | exact HB.out)⟩⟩
        ·rw [if_neg c15] at H
         have c15b0 : (((rd_T24 l0 x7_2).f1).toList == a1_0.toList) = false := beq_eq_false_iff_ne.mpr c15
         have c15b1 : (((rd_T24 l0 x7_2).f1).toList != a1_0.toList) = true := bne_iff_ne.mpr c15
         have H' := Aside0.mk H
         clear H
         try go_wp2
         have n0_ := Aside0.mk (blk_drew BK220.out)
         have n1_ := Aside0.mk (below_drew1 HB.out)
         clear BK220
         clear HB
         have BK220 := n0_
         have HB := n1_
         clear n0_ n1_
         have p223 : 0 ≤ (x7_2 : Int) := of_decide_eq_true (by first | (with_reducible assumption) | assumption)
         have q223 : x7_2 < (l0.length : Int) := of_decide_eq_true (by first | (with_reducible assumption) | assumption)
         obtain ⟨ad223, e223, hx223_0, hx223_1, hx223_2, hx223_3⟩ := at_T24 HR0.out x7_2 p223 q223
         have hw223_3 := hx223_3
         have hw223_2 := hx223_2
         have hw223_1 := hx223_1
         have hw223_0 := hx223_0
         cases e223
         replace hx223_0 := (HB.out.cell (World.block_lt_of_cell? w _ hx223_0)).trans hx223_0
         replace hx223_1 := (HB.out.cell (World.block_lt_of_cell? w _ hx223_1)).trans hx223_1
         replace hx223_2 := (HB.out.cell (World.block_lt_of_cell? w _ hx223_2)).trans hx223_2
         replace hx223_3 := (HB.out.cell (World.block_lt_of_cell? w _ hx223_3)).trans hx223_3
         replace p223 := eq_true p223
         replace q223 := eq_true q223
         refine start_ (n := 8) (S := fun w' => w'.cell? ⟨gb220, 0, none⟩ = some (.string a1_0) ∧ w'.cell? ⟨gb220, 1, none⟩ = some (.slice A1_1 l1_1.length c1_1) ∧ w'.cell? (ad223.add ((x7_2).toNat * 4)) = some (.string ((rd_T24 l0 x7_2).f0)) ∧ w'.cell? ⟨(ad223.add ((x7_2).toNat * 4)).block, (ad223.add ((x7_2).toNat * 4)).off + 1, none⟩ = some (.string ((rd_T24 l0 x7_2).f1)) ∧ w'.cell? ⟨(ad223.add ((x7_2).toNat * 4)).block, (ad223.add ((x7_2).toNat * 4)).off + 2, none⟩ = some (.int .i64 ((rd_T24 l0 x7_2).f2)) ∧ w'.cell? ⟨(ad223.add ((x7_2).toNat * 4)).block, (ad223.add ((x7_2).toNat * 4)).off + 3, none⟩ = some (.int .i64 ((rd_T24 l0 x7_2).f3))) (ds := []) #[false, false, false, false, false, false, false, false] (by kernel_rfl) rfl rfl ⟨(blk_cell BK220.out 0).trans rfl, (blk_cell BK220.out 1).trans rfl, ((HB.out.cell (World.block_lt_of_cell? w _ hw223_0)).trans hw223_0), ((HB.out.cell (World.block_lt_of_cell? w _ hw223_1)).trans hw223_1), ((HB.out.cell (World.block_lt_of_cell? w _ hw223_2)).trans hw223_2), ((HB.out.cell (World.block_lt_of_cell? w _ hw223_3)).trans hw223_3)⟩ (fun hHeld => ?_); refine with_tabW culetref53_Value.tab7 culetref53_Value.bits7 (fun HT_ HW_ => ?_)
         generalize wr.drew = w21 at BK220 HB hx223_0 hx223_1 hx223_2 hx223_3 hHeld ⊢
         refine pure_ (i := 0) (N := some 24) (v := ?_) (a' := ?_) #[true, false, false, false, false, false, false, false] rfl rfl (any_of HT_.out (by kernel_rfl)) (fun _ _ _ h => h) (Or.inl ⟨by rfl, ?_⟩) ?_ ?_
         rotate_left
         ·intro w'
          go_simp
          with_reducible rfl
         rotate_left
         ·simp only [Act.put, List.setIfInBounds_toArray, List.set_cons_zero, List.set_cons_succ, i64_w, i32_w]
          rfl
         refine pure_ (i := 1) (N := some 25) (v := ?_) (a' := ?_) #[true, true, false, false, false, false, false, false] rfl rfl (any_of HT_.out (by kernel_rfl)) (fun _ _ _ h => h) (Or.inl ⟨by rfl, ?_⟩) ?_ ?_
         rotate_left
         ·intro w'
          go_simp
          with_reducible rfl
         rotate_left
         ·simp only [Act.put, List.setIfInBounds_toArray, List.set_cons_zero, List.set_cons_succ, i64_w, i32_w]
          rfl
         refine pure_ (i := 2) (N := some 26) (v := ?_) (a' := ?_) #[true, true, true, false, false, false, false, false] rfl rfl (any_of HT_.out (by kernel_rfl)) (fun _ _ _ h => h) (Or.inl ⟨by rfl, ?_⟩) ?_ ?_
         rotate_left
         ·intro w'
          go_simp
          with_reducible rfl
         rotate_left
         ·simp only [Act.put, List.setIfInBounds_toArray, List.set_cons_zero, List.set_cons_succ, i64_w, i32_w]
          rfl
         refine pure_ (i := 3) (N := some 27) (v := ?_) (a' := ?_) #[true, true, true, true, false, false, false, false] rfl rfl (any_of HT_.out (by kernel_rfl)) (fun _ _ _ h => h) (Or.inl ⟨by rfl, ?_⟩) ?_ ?_
         rotate_left
         ·intro w'
          go_simp
          with_reducible rfl
         rotate_left
         ·simp only [Act.put, List.setIfInBounds_toArray, List.set_cons_zero, List.set_cons_succ, i64_w, i32_w]
          rfl
         refine pure_ (i := 5) (N := some 29) (v := ?_) (a' := ?_) #[true, true, true, true, false, true, false, false] rfl rfl (any_of HT_.out (by kernel_rfl)) (fun _ _ _ h => h) (Or.inl ⟨by rfl, ?_⟩) ?_ ?_
         rotate_left
         ·intro w'
          go_simp
          with_reducible rfl
         rotate_left
         ·simp only [Act.put, List.setIfInBounds_toArray, List.set_cons_zero, List.set_cons_succ, i64_w, i32_w]
          rfl
         refine take_ (i := 4) (N := some 28) (v := ?_) (a' := ?_) #[true, true, true, true, true, true, false, false] rfl rfl (take_ofW HT_.out HW_.out (by kernel_rfl)) (fun _ _ _ h => h) (Or.inl ⟨by rfl, ?_⟩) hHeld ?_ ?_
         rotate_left
         ·rintro w' ⟨s0, s1, s2, s3, s4, s5⟩
          go_simp
          with_reducible rfl
         rotate_left
         ·simp only [Act.put, List.setIfInBounds_toArray, List.set_cons_zero, List.set_cons_succ, i64_w, i32_w]
          rfl
         refine take_ (i := 6) (N := some 30) (v := ?_) (a' := ?_) #[true, true, true, true, true, true, true, false] rfl rfl (take_ofW HT_.out HW_.out (by kernel_rfl)) (fun _ _ _ h => h) (Or.inl ⟨by rfl, ?_⟩) hHeld ?_ ?_
         rotate_left
         ·rintro w' ⟨s0, s1, s2, s3, s4, s5⟩
          go_simp
          with_reducible rfl
         rotate_left
         ·simp only [Act.put, List.setIfInBounds_toArray, List.set_cons_zero, List.set_cons_succ, i64_w, i32_w]
          rfl
         refine pure_ (i := 7) (N := some 31) (v := ?_) (a' := ?_) #[true, true, true, true, true, true, true, true] rfl rfl (any_of HT_.out (by kernel_rfl)) (fun _ _ _ h => h) (Or.inl ⟨by rfl, ?_⟩) ?_ ?_
         rotate_left
         ·intro w'
          go_simp
          with_reducible rfl
         rotate_left
         ·simp only [Act.put, List.setIfInBounds_toArray, List.set_cons_zero, List.set_cons_succ, i64_w, i32_w]
          rfl
         refine done_ (done_of HT_.out (by kernel_rfl)) ?_
         try go_wp2
         go_roundg k2
         case measure => have := HJ2.out; have := HK2.out; omega
         case rel => exact ⟨(x6_2), (wrap64 (x7_2 + 1)), (by first | rfl | (simp; done) | (simp [*]; done)), (by first | rfl | (simp; done) | (simp [*]; done)), H', ⟨by have := HJ2.out; have := HK2.out; omega⟩, ⟨by (with_reducible repeat (first | refine blk_drewN ?_ _ | refine blk_drew ?_ | refine blk_alloc ?_ _)); exact BK220.out⟩, ⟨by repeat (first | (with_reducible first | exact HB.out | apply below_alloc | apply pw_below_drewN | apply below_drew1 | refine below_set ?_ GE220.out) | exact HB.out)⟩⟩
       ·rw [if_neg c14] at H
        exact absurd H (by simp)
      ·rw [if_neg c13] at H
       have c13b0 : decide (x7_2 < (l0.length : Int)) = false := decide_eq_false c13
       clear c13
       simp only [Option.some.injEq, Prod.mk.injEq] at H
       obtain ⟨rfl, rfl⟩ := H
       go_wp2
       go_ret2
       exact ⟨by first | rfl | (simp [errW_none, errW_some] <;> rfl) | (simp [*, errW_none, errW_some] <;> rfl), by repeat (first | (with_reducible first | exact HB.out | apply below_alloc | apply pw_below_drewN | apply below_drew1 | refine below_set ?_ GE220.out) | exact HB.out)⟩

end Go.Proofs.Ytndbchcfjajgbaa.XP
