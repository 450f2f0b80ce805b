-- printed by xprint.py
import Derived.Test.YtncemdpmooakgaaXK0
import Derived.Test.YtncemdpmooakgaaXK4
import Derived.Test.YtncemdpmooakgaaXK5
namespace Go.Proofs.Ytncemdpmooakgaa.XK
open Go.Proofs.Ytncemdpmooakgaa.XW
open Go.RowKit Go.Proofs.YtncemdpmooakgaaW.PrintWords Go.Proofs.YtncemdpmooakgaaW.PrintLast Go.Proofs.YtncemdpmooakgaaW.PrintMore
attribute [local go_sem] max2_int min2_int max_two min_two max_three min_three max_four min_four   -- for this text's walks alone
set_option linter.unusedVariables false
set_option linter.unusedSimpArgs false

/-! ### culetlaw39_OptimizeKeep: function 3 -/
mutual
def culetlaw39_OptimizeKeep.j0 : Nat → List (S38) → List Int → Int → Bool → Option (Bool)
  | 0, _, _, _, _ => none
  | k + 1, x0, x3, x4, x36 => if x36 = true then (some false) else (if x4 = 0 then (culetlaw39_OptimizeKeep.j1 k x0 x3 ((x0.length : Int) == 0)) else (culetlaw39_OptimizeKeep.j1 k x0 x3 true))
def culetlaw39_OptimizeKeep.j1 : Nat → List (S38) → List Int → Bool → Option (Bool)
  | 0, _, _, _ => none
  | k + 1, x0, x3, x43 => if x43 = true then (some true) else (culetlaw39_OptimizeKeep.l0 k x0 x3 0 0)
def culetlaw39_OptimizeKeep.l0 : Nat → List (S38) → List Int → Int → Int → Option (Bool)
  | 0, _, _, _, _ => none
  | k + 1, x0, x3, x7, x8 => if x8 < (x0.length : Int) then (if 0 ≤ x8 then (if 0 ≤ x7 then (if x7 < (x0.length : Int) then (if ((rd_T38 x0 x8).f1.f0) > ((rd_T38 x0 x7).f1.f0) then (culetlaw39_OptimizeKeep.l0 k x0 x3 x8 (wrap64 (x8 + 1))) else (culetlaw39_OptimizeKeep.l0 k x0 x3 x7 (wrap64 (x8 + 1)))) else (none)) else (none)) else (none)) else (culetlaw39_OptimizeKeep.l1 k x0 x3 x7 0)
def culetlaw39_OptimizeKeep.l1 : Nat → List (S38) → List Int → Int → Int → Option (Bool)
  | 0, _, _, _, _ => none
  | k + 1, x0, x3, x7, x9 => if x9 < (x0.length : Int) then (culetlaw39_OptimizeKeep.l2 k x0 x3 x7 x9 false 0) else (some true)
def culetlaw39_OptimizeKeep.l2 : Nat → List (S38) → List Int → Int → Int → Bool → Int → Option (Bool)
  | 0, _, _, _, _, _, _ => none
  | k + 1, x0, x3, x7, x9, x10, x11 => if x11 < (x3.length : Int) then (if x10 = true then (culetlaw39_OptimizeKeep.l2 k x0 x3 x7 x9 true (wrap64 (x11 + 1))) else (if 0 ≤ x11 then (culetlaw39_OptimizeKeep.l2 k x0 x3 x7 x9 ((rd x3 x11) == x9) (wrap64 (x11 + 1))) else (none))) else (if 0 ≤ x9 then (if x9 < (x0.length : Int) then (if 0 ≤ x7 then (if x7 < (x0.length : Int) then (if (x10 != (decide (((rd_T38 x0 x9).f1.f1) ≥ ((rd_T38 x0 x7).f1.f0)))) = true then (some false) else (culetlaw39_OptimizeKeep.l1 k x0 x3 x7 (wrap64 (x9 + 1)))) else (none)) else (none)) else (none)) else (none))
end
def culetlaw39_OptimizeKeep.f (k : Nat) (l0 : List (S38)) : Option (Bool) := (culetlaw39_awake.f k).bind fun t140 => (if t140 = true then (if (l0.length : Int) > 20 then (some true) else ((optimize_Keep.f k l0).bind fun bt141 => ((culetlaw39_theirs.f k l0).bind fun t145 => ((culetref39_Keep.f k t145).bind fun bt148 => ((culetref16_SameInts.f k bt141.1 bt148.1).bind fun t152 => (if t152 = true then (culetlaw39_OptimizeKeep.j0 k l0 bt141.1 bt141.2 (bt141.2 != bt148.2)) else (culetlaw39_OptimizeKeep.j0 k l0 bt141.1 bt141.2 true))))))) else (some false))
theorem culetlaw39_OptimizeKeep.mono_l : ∀ k, (∀ y0 y1 y2 y3, LeO (culetlaw39_OptimizeKeep.j0 k y0 y1 y2 y3) (culetlaw39_OptimizeKeep.j0 (k + 1) y0 y1 y2 y3)) ∧ (∀ y0 y1 y2, LeO (culetlaw39_OptimizeKeep.j1 k y0 y1 y2) (culetlaw39_OptimizeKeep.j1 (k + 1) y0 y1 y2)) ∧ (∀ y0 y1 y2 y3, LeO (culetlaw39_OptimizeKeep.l0 k y0 y1 y2 y3) (culetlaw39_OptimizeKeep.l0 (k + 1) y0 y1 y2 y3)) ∧ (∀ y0 y1 y2 y3, LeO (culetlaw39_OptimizeKeep.l1 k y0 y1 y2 y3) (culetlaw39_OptimizeKeep.l1 (k + 1) y0 y1 y2 y3)) ∧ (∀ y0 y1 y2 y3 y4 y5, LeO (culetlaw39_OptimizeKeep.l2 k y0 y1 y2 y3 y4 y5) (culetlaw39_OptimizeKeep.l2 (k + 1) y0 y1 y2 y3 y4 y5))
  | 0 => ⟨fun _ _ _ _ r h => by simp [culetlaw39_OptimizeKeep.j0] at h, fun _ _ _ r h => by simp [culetlaw39_OptimizeKeep.j1] at h, fun _ _ _ _ r h => by simp [culetlaw39_OptimizeKeep.l0] at h, fun _ _ _ _ r h => by simp [culetlaw39_OptimizeKeep.l1] at h, fun _ _ _ _ _ _ r h => by simp [culetlaw39_OptimizeKeep.l2] at h⟩
  | k + 1 => by
    obtain ⟨ih0, ih1, ih2, ih3, ih4⟩ := culetlaw39_OptimizeKeep.mono_l k
    refine ⟨?_, ?_, ?_, ?_, ?_⟩
    · intro y0 y1 y2 y3
      unfold culetlaw39_OptimizeKeep.j0
      repeat' first
      | (with_reducible exact ih0 _ _ _ _)
      | (with_reducible exact ih1 _ _ _)
      | (with_reducible exact ih2 _ _ _ _)
      | (with_reducible exact ih3 _ _ _ _)
      | (with_reducible exact ih4 _ _ _ _ _ _)
      | (with_reducible exact culetlaw39_awake.mono _)
      | (with_reducible exact culetlaw39_theirs.mono _ _)
      | (with_reducible exact culetref16_SameInts.mono _ _ _)
      | (with_reducible exact culetref39_Keep.mono _ _)
      | (with_reducible exact optimize_Keep.mono _ _)
      | (with_reducible exact LeO.refl _)
      | (with_reducible exact LeO.none _)
      | (with_reducible refine LeO.ite ?_ ?_)
      | (with_reducible refine LeO.bind ?_ (fun _ => ?_))
      | exact ih0 _ _ _ _
      | exact ih1 _ _ _
      | exact ih2 _ _ _ _
      | exact ih3 _ _ _ _
      | exact ih4 _ _ _ _ _ _
      | exact culetlaw39_awake.mono _
      | exact culetlaw39_theirs.mono _ _
      | exact culetref16_SameInts.mono _ _ _
      | exact culetref39_Keep.mono _ _
      | exact optimize_Keep.mono _ _
      | exact LeO.none _
      | refine LeO.ite ?_ ?_
      | refine LeO.bind ?_ (fun _ => ?_)
    · intro y0 y1 y2
      unfold culetlaw39_OptimizeKeep.j1
      repeat' first
      | (with_reducible exact ih0 _ _ _ _)
      | (with_reducible exact ih1 _ _ _)
      | (with_reducible exact ih2 _ _ _ _)
      | (with_reducible exact ih3 _ _ _ _)
      | (with_reducible exact ih4 _ _ _ _ _ _)
      | (with_reducible exact culetlaw39_awake.mono _)
      | (with_reducible exact culetlaw39_theirs.mono _ _)
      | (with_reducible exact culetref16_SameInts.mono _ _ _)
      | (with_reducible exact culetref39_Keep.mono _ _)
      | (with_reducible exact optimize_Keep.mono _ _)
      | (with_reducible exact LeO.refl _)
      | (with_reducible exact LeO.none _)
      | (with_reducible refine LeO.ite ?_ ?_)
      | (with_reducible refine LeO.bind ?_ (fun _ => ?_))
      | exact ih0 _ _ _ _
      | exact ih1 _ _ _
      | exact ih2 _ _ _ _
      | exact ih3 _ _ _ _
      | exact ih4 _ _ _ _ _ _
      | exact culetlaw39_awake.mono _
      | exact culetlaw39_theirs.mono _ _
      | exact culetref16_SameInts.mono _ _ _
      | exact culetref39_Keep.mono _ _
      | exact optimize_Keep.mono _ _
      | exact LeO.none _
      | refine LeO.ite ?_ ?_
      | refine LeO.bind ?_ (fun _ => ?_)
    · intro y0 y1 y2 y3
      unfold culetlaw39_OptimizeKeep.l0
      repeat' first
      | (with_reducible exact ih0 _ _ _ _)
      | (with_reducible exact ih1 _ _ _)
      | (with_reducible exact ih2 _ _ _ _)
      | (with_reducible exact ih3 _ _ _ _)
      | (with_reducible exact ih4 _ _ _ _ _ _)
      | (with_reducible exact culetlaw39_awake.mono _)
      | (with_reducible exact culetlaw39_theirs.mono _ _)
      | (with_reducible exact culetref16_SameInts.mono _ _ _)
      | (with_reducible exact culetref39_Keep.mono _ _)
      | (with_reducible exact optimize_Keep.mono _ _)
      | (with_reducible exact LeO.refl _)
      | (with_reducible exact LeO.none _)
      | (with_reducible refine LeO.ite ?_ ?_)
      | (with_reducible refine LeO.bind ?_ (fun _ => ?_))
      | exact ih0 _ _ _ _
      | exact ih1 _ _ _
      | exact ih2 _ _ _ _
      | exact ih3 _ _ _ _
      | exact ih4 _ _ _ _ _ _
      | exact culetlaw39_awake.mono _
      | exact culetlaw39_theirs.mono _ _
      | exact culetref16_SameInts.mono _ _ _
      | exact culetref39_Keep.mono _ _
      | exact optimize_Keep.mono _ _
      | exact LeO.none _
      | refine LeO.ite ?_ ?_
      | refine LeO.bind ?_ (fun _ => ?_)
    · intro y0 y1 y2 y3
      unfold culetlaw39_OptimizeKeep.l1
      repeat' first
      | (with_reducible exact ih0 _ _ _ _)
      | (with_reducible exact ih1 _ _ _)
      | (with_reducible exact ih2 _ _ _ _)
      | (with_reducible exact ih3 _ _ _ _)
      | (with_reducible exact ih4 _ _ _ _ _ _)
      | (with_reducible exact culetlaw39_awake.mono _)
      | (with_reducible exact culetlaw39_theirs.mono _ _)
      | (with_reducible exact culetref16_SameInts.mono _ _ _)
      | (with_reducible exact culetref39_Keep.mono _ _)
      | (with_reducible exact optimize_Keep.mono _ _)
      | (with_reducible exact LeO.refl _)
      | (with_reducible exact LeO.none _)
      | (with_reducible refine LeO.ite ?_ ?_)
      | (with_reducible refine LeO.bind ?_ (fun _ => ?_))
      | exact ih0 _ _ _ _
      | exact ih1 _ _ _
      | exact ih2 _ _ _ _
      | exact ih3 _ _ _ _
      | exact ih4 _ _ _ _ _ _
      | exact culetlaw39_awake.mono _
      | exact culetlaw39_theirs.mono _ _
      | exact culetref16_SameInts.mono _ _ _
      | exact culetref39_Keep.mono _ _
      | exact optimize_Keep.mono _ _
      | exact LeO.none _
      | refine LeO.ite ?_ ?_
      | refine LeO.bind ?_ (fun _ => ?_)
    · intro y0 y1 y2 y3 y4 y5
      unfold culetlaw39_OptimizeKeep.l2
      repeat' first
      | (with_reducible exact ih0 _ _ _ _)
      | (with_reducible exact ih1 _ _ _)
      | (with_reducible exact ih2 _ _ _ _)
      | (with_reducible exact ih3 _ _ _ _)
      | (with_reducible exact ih4 _ _ _ _ _ _)
      | (with_reducible exact culetlaw39_awake.mono _)
      | (with_reducible exact culetlaw39_theirs.mono _ _)
      | (with_reducible exact culetref16_SameInts.mono _ _ _)
      | (with_reducible exact culetref39_Keep.mono _ _)
      | (with_reducible exact optimize_Keep.mono _ _)
      | (with_reducible exact LeO.refl _)
      | (with_reducible exact LeO.none _)
      | (with_reducible refine LeO.ite ?_ ?_)
      | (with_reducible refine LeO.bind ?_ (fun _ => ?_))
      | exact ih0 _ _ _ _
      | exact ih1 _ _ _
      | exact ih2 _ _ _ _
      | exact ih3 _ _ _ _
      | exact ih4 _ _ _ _ _ _
      | exact culetlaw39_awake.mono _
      | exact culetlaw39_theirs.mono _ _
      | exact culetref16_SameInts.mono _ _ _
      | exact culetref39_Keep.mono _ _
      | exact optimize_Keep.mono _ _
      | exact LeO.none _
      | refine LeO.ite ?_ ?_
      | refine LeO.bind ?_ (fun _ => ?_)
theorem culetlaw39_OptimizeKeep.mono : ∀ a0 k, LeO (culetlaw39_OptimizeKeep.f k a0) (culetlaw39_OptimizeKeep.f (k + 1) a0) := by
  intro a0 k
  obtain ⟨ih0, ih1, ih2, ih3, ih4⟩ := culetlaw39_OptimizeKeep.mono_l k
  unfold culetlaw39_OptimizeKeep.f
  repeat' first
      | (with_reducible exact ih0 _ _ _ _)
      | (with_reducible exact ih1 _ _ _)
      | (with_reducible exact ih2 _ _ _ _)
      | (with_reducible exact ih3 _ _ _ _)
      | (with_reducible exact ih4 _ _ _ _ _ _)
      | (with_reducible exact culetlaw39_awake.mono _)
      | (with_reducible exact culetlaw39_theirs.mono _ _)
      | (with_reducible exact culetref16_SameInts.mono _ _ _)
      | (with_reducible exact culetref39_Keep.mono _ _)
      | (with_reducible exact optimize_Keep.mono _ _)
      | (with_reducible exact LeO.refl _)
      | (with_reducible exact LeO.none _)
      | (with_reducible refine LeO.ite ?_ ?_)
      | (with_reducible refine LeO.bind ?_ (fun _ => ?_))
      | exact ih0 _ _ _ _
      | exact ih1 _ _ _
      | exact ih2 _ _ _ _
      | exact ih3 _ _ _ _
      | exact ih4 _ _ _ _ _ _
      | exact culetlaw39_awake.mono _
      | exact culetlaw39_theirs.mono _ _
      | exact culetref16_SameInts.mono _ _ _
      | exact culetref39_Keep.mono _ _
      | exact optimize_Keep.mono _ _
      | exact LeO.none _
      | refine LeO.ite ?_ ?_
      | refine LeO.bind ?_ (fun _ => ?_)
set_option maxHeartbeats 8000000 in
set_option maxRecDepth 100000 in
theorem culetlaw39_OptimizeKeep.calls (k : Nat) (A0 : Option Addr) (c0 : Nat) (l0 : List (S38)) (r : Bool) (w : World) (hr0 : Kd.C k38 w A0 l0.length l0) (hc0 : l0.length ≤ c0) (h : culetlaw39_OptimizeKeep.f k l0 = some r) :
    Calls Try.prog 3 #[.slice A0 l0.length c0] w fun e w' => e = .returned (.bool r) ∧ Below w.heap.size w w' := by
  have HR0 := Aside0.mk hr0
  have HC0 := Aside0.mk hc0
  clear hr0 hc0
  have HB := Aside0.mk (Below.refl w.heap.size w)
  have H : ((culetlaw39_awake.f k).bind fun t140 => (if t140 = true then (if (l0.length : Int) > 20 then (some true) else ((optimize_Keep.f k l0).bind fun bt141 => ((culetlaw39_theirs.f k l0).bind fun t145 => ((culetref39_Keep.f k t145).bind fun bt148 => ((culetref16_SameInts.f k bt141.1 bt148.1).bind fun t152 => (if t152 = true then (culetlaw39_OptimizeKeep.j0 k l0 bt141.1 bt141.2 (bt141.2 != bt148.2)) else (culetlaw39_OptimizeKeep.j0 k l0 bt141.1 bt141.2 true))))))) else (some false))) = some r := h
  clear h
  replace H := Option.bind_eq_some_iff.mp H
  obtain ⟨t140, A20, H⟩ := H
  replace H : (if t140 = true then (if (l0.length : Int) > 20 then (some true) else ((optimize_Keep.f k l0).bind fun bt141 => ((culetlaw39_theirs.f k l0).bind fun t145 => ((culetref39_Keep.f k t145).bind fun bt148 => ((culetref16_SameInts.f k bt141.1 bt148.1).bind fun t152 => (if t152 = true then (culetlaw39_OptimizeKeep.j0 k l0 bt141.1 bt141.2 (bt141.2 != bt148.2)) else (culetlaw39_OptimizeKeep.j0 k l0 bt141.1 bt141.2 true))))))) else (some false)) = some r := H
  have A2 := Aside0.mk A20
  clear A20
  by_cases c3 : t140 = true
  · subst c3
    have H1 : (if (l0.length : Int) > 20 then (some true) else ((optimize_Keep.f k l0).bind fun bt141 => ((culetlaw39_theirs.f k l0).bind fun t145 => ((culetref39_Keep.f k t145).bind fun bt148 => ((culetref16_SameInts.f k bt141.1 bt148.1).bind fun t152 => (if t152 = true then (culetlaw39_OptimizeKeep.j0 k l0 bt141.1 bt141.2 (bt141.2 != bt148.2)) else (culetlaw39_OptimizeKeep.j0 k l0 bt141.1 bt141.2 true))))))) = some r := by rw [if_pos rfl] at H; exact H
    clear H
    have H := H1
    clear H1
    by_cases c4 : (l0.length : Int) > 20
    · rw [if_pos c4] at H
      have c4b0 : decide (20 < (l0.length : Int)) = true := decide_eq_true c4
      have c4b1 : decide (20 < l0.length) = true := decide_eq_true (by omega)
      clear c4
      obtain rfl := Option.some.inj H
      go_enter Try.func3, Try.ntmps3
      go_wp2_with (first | (go_at_call 13; (with_reducible refine (culetlaw39_awake.calls k  true _ A2.out).mono ?_); rintro e w5 ⟨rfl, hb⟩; have n0_ := Aside0.mk (below_step (by repeat (first | (with_reducible first | exact HB.out | apply below_alloc | apply pw_below_drewN | apply below_drew1) | exact HB.out)) hb); clear HB; have HB := n0_; clear n0_; (try clear hb); (try clear hb2); (try clear hk); (try clear hi)))
      repeat (go_quiet (first | (go_at_call 13; (with_reducible refine (culetlaw39_awake.calls k  true _ A2.out).mono ?_); rintro e w5 ⟨rfl, hb⟩; have n0_ := Aside0.mk (below_step (by repeat (first | (with_reducible first | exact HB.out | apply below_alloc | apply pw_below_drewN | apply below_drew1) | exact HB.out)) hb); clear HB; have HB := n0_; clear n0_; (try clear hb); (try clear hb2); (try clear hk); (try clear hi))); try go_wp2_with (first | (go_at_call 13; (with_reducible refine (culetlaw39_awake.calls k  true _ A2.out).mono ?_); rintro e w5 ⟨rfl, hb⟩; have n0_ := Aside0.mk (below_step (by repeat (first | (with_reducible first | exact HB.out | apply below_alloc | apply pw_below_drewN | apply below_drew1) | exact HB.out)) hb); clear HB; have HB := n0_; clear n0_; (try clear hb); (try clear hb2); (try clear hk); (try clear hi))))
      go_ret
      exact ⟨by first | rfl | (simp [errW_none, errW_some] <;> rfl) | (simp [*, errW_none, errW_some] <;> rfl), by repeat (first | (with_reducible first | exact HB.out | apply below_alloc | apply pw_below_drewN | apply below_drew1) | exact HB.out)⟩
    · rw [if_neg c4] at H
      have c4b0 : decide (20 < (l0.length : Int)) = false := decide_eq_false c4
      have c4b1 : decide (20 < l0.length) = false := decide_eq_false (by omega)
      clear c4
      replace H := Option.bind_eq_some_iff.mp H
      obtain ⟨⟨t141, t142⟩, A60, H⟩ := H
      replace H : ((culetlaw39_theirs.f k l0).bind fun t145 => ((culetref39_Keep.f k t145).bind fun bt148 => ((culetref16_SameInts.f k t141 bt148.1).bind fun t152 => (if t152 = true then (culetlaw39_OptimizeKeep.j0 k l0 t141 t142 (t142 != bt148.2)) else (culetlaw39_OptimizeKeep.j0 k l0 t141 t142 true))))) = some r := H
      have A6 := Aside0.mk A60
      clear A60
      replace H := Option.bind_eq_some_iff.mp H
      obtain ⟨t145, A70, H⟩ := H
      replace H : ((culetref39_Keep.f k t145).bind fun bt148 => ((culetref16_SameInts.f k t141 bt148.1).bind fun t152 => (if t152 = true then (culetlaw39_OptimizeKeep.j0 k l0 t141 t142 (t142 != bt148.2)) else (culetlaw39_OptimizeKeep.j0 k l0 t141 t142 true)))) = some r := H
      have A7 := Aside0.mk A70
      clear A70
      replace H := Option.bind_eq_some_iff.mp H
      obtain ⟨⟨t148, t149⟩, A80, H⟩ := H
      replace H : ((culetref16_SameInts.f k t141 t148).bind fun t152 => (if t152 = true then (culetlaw39_OptimizeKeep.j0 k l0 t141 t142 (t142 != t149)) else (culetlaw39_OptimizeKeep.j0 k l0 t141 t142 true))) = some r := H
      have A8 := Aside0.mk A80
      clear A80
      have HC9 := Aside0.mk H
      clear H
      go_enter Try.func3, Try.ntmps3
      go_upto_region 7 with (first | (go_at_call 13; (with_reducible refine (culetlaw39_awake.calls k  true _ A2.out).mono ?_); rintro e w10 ⟨rfl, hb⟩; have n0_ := Aside0.mk (below_step (by repeat (first | (with_reducible first | exact HB.out | apply below_alloc | apply pw_below_drewN | apply below_drew1) | exact HB.out)) hb); clear HB; have HB := n0_; clear n0_; (try clear hb); (try clear hb2); (try clear hk); (try clear hi)) | (go_at_call 14; (with_reducible refine (optimize_Keep.calls k _ _ l0 t141 t142 _ ?side1 ?side2 A6.out).mono ?_); (case side1 => repeat (first | exact (Kd.C_below HR0.out HB.out) | (with_reducible refine Kd.C_alloc ?_ _) | (with_reducible refine Kd.C_drewN ?_ _) | (with_reducible refine Kd.C_drew ?_))); (case side2 => exact HC0.out); rintro e w11 ⟨v143, rfl, ho0, hb⟩; have n0_ := Aside0.mk (Kd.R_lower ho0 (below_size (by repeat (first | (with_reducible first | exact HB.out | apply below_alloc | apply pw_below_drewN | apply below_drew1) | exact HB.out)))); have n1_ := Aside0.mk (below_step (by repeat (first | (with_reducible first | exact HB.out | apply below_alloc | apply pw_below_drewN | apply below_drew1) | exact HB.out)) hb); clear HB; have HO144 := n0_; have HB := n1_; clear n0_ n1_; (try clear hb); (try clear hb2); (try clear hk); (try clear hi); (try clear ho0)) | (go_at_call 16; (with_reducible refine (culetlaw39_theirs.calls k (fun k_ => k_ < w.heap.size) _ _ l0 t145 _ ?side1 A7.out).mono ?_); (case side1 => exact Kd.V_mk HC0.out (Kd.F_below (Kd.C_F k38_heap HR0.out) (by repeat (first | (with_reducible first | exact HB.out | apply below_alloc | apply pw_below_drewN | apply below_drew1) | exact HB.out)))); rintro e w12 ⟨v146, rfl, ho0, hb⟩; have n0_ := Aside0.mk (Kd.R_below (by (with_reducible repeat (first | apply Kd.R_alloc | apply Kd.R_drewN | apply Kd.R_drew)); exact HO144.out) hb); have n1_ := Aside0.mk (Kd.N_lower (Kd.N_mono (ok' := fun k_ => some k_ ≠ (v143 : Value).ownBlock) ho0 (fun k_ hk_ => Or.elim hk_ (fun hs_ => fun e_ => Nat.not_le.2 hs_ (Kd.R_base HO144.out k_ e_.symm)) (fun hn_ => (Kd.fresh' (Kd.R_lt (by (with_reducible repeat (first | apply Kd.R_alloc | apply Kd.R_drewN | apply Kd.R_drew)); exact HO144.out)) k_ hn_)))) (below_size (by repeat (first | (with_reducible first | exact HB.out | apply below_alloc | apply pw_below_drewN | apply below_drew1) | exact HB.out)))); have n2_ := Aside0.mk (below_step (by repeat (first | (with_reducible first | exact HB.out | apply below_alloc | apply pw_below_drewN | apply below_drew1) | exact HB.out)) hb); clear HO144; clear HB; have HO144 := n0_; have HO147 := n1_; have HB := n2_; clear n0_ n1_ n2_; (try clear hb); (try clear hb2); (try clear hk); (try clear hi); (try clear ho0); obtain ⟨Ao13, co13, eo13⟩ := Kd.N_slice HO147.out; subst eo13) | (go_at_call 15; (with_reducible refine (culetref39_Keep.calls k _ _ t145 t148 t149 _ ?side1 ?side2 A8.out).mono ?_); (case side1 => repeat (first | exact (Kd.N_reads' HO147.out).2.2 | (with_reducible refine Kd.C_alloc ?_ _) | (with_reducible refine Kd.C_drewN ?_ _) | (with_reducible refine Kd.C_drew ?_))); (case side2 => exact (Kd.N_reads' HO147.out).2.1); rintro e w14 ⟨v150, rfl, ho0, hb⟩; have n0_ := Aside0.mk (Kd.R_elder' (by (with_reducible repeat (first | apply Kd.R_alloc | apply Kd.R_drewN | apply Kd.R_drew)); exact HO144.out) (Kd.R_base ho0) hb); have n1_ := Aside0.mk (Kd.N_elder' (by (with_reducible repeat (first | apply Kd.N_alloc | apply Kd.N_drewN | apply Kd.N_drew)); exact HO147.out) (Kd.R_base ho0) hb); have n2_ := Aside0.mk (Kd.R_lower (Kd.R_new' ho0 (Kd.R_lt (by (with_reducible repeat (first | apply Kd.R_alloc | apply Kd.R_drewN | apply Kd.R_drew)); exact HO144.out))) (below_size (by repeat (first | (with_reducible first | exact HB.out | apply below_alloc | apply pw_below_drewN | apply below_drew1) | exact HB.out)))); have n3_ := Aside0.mk (below_step (by repeat (first | (with_reducible first | exact HB.out | apply below_alloc | apply pw_below_drewN | apply below_drew1) | exact HB.out)) hb); clear HO144; clear HO147; clear HB; have HO144 := n0_; have HO147 := n1_; have HO151 := n2_; have HB := n3_; clear n0_ n1_ n2_ n3_; (try clear hb); (try clear hb2); (try clear hk); (try clear hi); (try clear ho0)))
      repeat (go_quiet (first | (go_at_call 13; (with_reducible refine (culetlaw39_awake.calls k  true _ A2.out).mono ?_); rintro e w10 ⟨rfl, hb⟩; have n0_ := Aside0.mk (below_step (by repeat (first | (with_reducible first | exact HB.out | apply below_alloc | apply pw_below_drewN | apply below_drew1) | exact HB.out)) hb); clear HB; have HB := n0_; clear n0_; (try clear hb); (try clear hb2); (try clear hk); (try clear hi)) | (go_at_call 14; (with_reducible refine (optimize_Keep.calls k _ _ l0 t141 t142 _ ?side1 ?side2 A6.out).mono ?_); (case side1 => repeat (first | exact (Kd.C_below HR0.out HB.out) | (with_reducible refine Kd.C_alloc ?_ _) | (with_reducible refine Kd.C_drewN ?_ _) | (with_reducible refine Kd.C_drew ?_))); (case side2 => exact HC0.out); rintro e w11 ⟨v143, rfl, ho0, hb⟩; have n0_ := Aside0.mk (Kd.R_lower ho0 (below_size (by repeat (first | (with_reducible first | exact HB.out | apply below_alloc | apply pw_below_drewN | apply below_drew1) | exact HB.out)))); have n1_ := Aside0.mk (below_step (by repeat (first | (with_reducible first | exact HB.out | apply below_alloc | apply pw_below_drewN | apply below_drew1) | exact HB.out)) hb); clear HB; have HO144 := n0_; have HB := n1_; clear n0_ n1_; (try clear hb); (try clear hb2); (try clear hk); (try clear hi); (try clear ho0)) | (go_at_call 16; (with_reducible refine (culetlaw39_theirs.calls k (fun k_ => k_ < w.heap.size) _ _ l0 t145 _ ?side1 A7.out).mono ?_); (case side1 => exact Kd.V_mk HC0.out (Kd.F_below (Kd.C_F k38_heap HR0.out) (by repeat (first | (with_reducible first | exact HB.out | apply below_alloc | apply pw_below_drewN | apply below_drew1) | exact HB.out)))); rintro e w12 ⟨v146, rfl, ho0, hb⟩; have n0_ := Aside0.mk (Kd.R_below (by (with_reducible repeat (first | apply Kd.R_alloc | apply Kd.R_drewN | apply Kd.R_drew)); exact HO144.out) hb); have n1_ := Aside0.mk (Kd.N_lower (Kd.N_mono (ok' := fun k_ => some k_ ≠ (v143 : Value).ownBlock) ho0 (fun k_ hk_ => Or.elim hk_ (fun hs_ => fun e_ => Nat.not_le.2 hs_ (Kd.R_base HO144.out k_ e_.symm)) (fun hn_ => (Kd.fresh' (Kd.R_lt (by (with_reducible repeat (first | apply Kd.R_alloc | apply Kd.R_drewN | apply Kd.R_drew)); exact HO144.out)) k_ hn_)))) (below_size (by repeat (first | (with_reducible first | exact HB.out | apply below_alloc | apply pw_below_drewN | apply below_drew1) | exact HB.out)))); have n2_ := Aside0.mk (below_step (by repeat (first | (with_reducible first | exact HB.out | apply below_alloc | apply pw_below_drewN | apply below_drew1) | exact HB.out)) hb); clear HO144; clear HB; have HO144 := n0_; have HO147 := n1_; have HB := n2_; clear n0_ n1_ n2_; (try clear hb); (try clear hb2); (try clear hk); (try clear hi); (try clear ho0); obtain ⟨Ao13, co13, eo13⟩ := Kd.N_slice HO147.out; subst eo13) | (go_at_call 15; (with_reducible refine (culetref39_Keep.calls k _ _ t145 t148 t149 _ ?side1 ?side2 A8.out).mono ?_); (case side1 => repeat (first | exact (Kd.N_reads' HO147.out).2.2 | (with_reducible refine Kd.C_alloc ?_ _) | (with_reducible refine Kd.C_drewN ?_ _) | (with_reducible refine Kd.C_drew ?_))); (case side2 => exact (Kd.N_reads' HO147.out).2.1); rintro e w14 ⟨v150, rfl, ho0, hb⟩; have n0_ := Aside0.mk (Kd.R_elder' (by (with_reducible repeat (first | apply Kd.R_alloc | apply Kd.R_drewN | apply Kd.R_drew)); exact HO144.out) (Kd.R_base ho0) hb); have n1_ := Aside0.mk (Kd.N_elder' (by (with_reducible repeat (first | apply Kd.N_alloc | apply Kd.N_drewN | apply Kd.N_drew)); exact HO147.out) (Kd.R_base ho0) hb); have n2_ := Aside0.mk (Kd.R_lower (Kd.R_new' ho0 (Kd.R_lt (by (with_reducible repeat (first | apply Kd.R_alloc | apply Kd.R_drewN | apply Kd.R_drew)); exact HO144.out))) (below_size (by repeat (first | (with_reducible first | exact HB.out | apply below_alloc | apply pw_below_drewN | apply below_drew1) | exact HB.out)))); have n3_ := Aside0.mk (below_step (by repeat (first | (with_reducible first | exact HB.out | apply below_alloc | apply pw_below_drewN | apply below_drew1) | exact HB.out)) hb); clear HO144; clear HO147; clear HB; have HO144 := n0_; have HO147 := n1_; have HO151 := n2_; have HB := n3_; clear n0_ n1_ n2_ n3_; (try clear hb); (try clear hb2); (try clear hk); (try clear hi); (try clear ho0))); go_upto_region 7 with (first | (go_at_call 13; (with_reducible refine (culetlaw39_awake.calls k  true _ A2.out).mono ?_); rintro e w10 ⟨rfl, hb⟩; have n0_ := Aside0.mk (below_step (by repeat (first | (with_reducible first | exact HB.out | apply below_alloc | apply pw_below_drewN | apply below_drew1) | exact HB.out)) hb); clear HB; have HB := n0_; clear n0_; (try clear hb); (try clear hb2); (try clear hk); (try clear hi)) | (go_at_call 14; (with_reducible refine (optimize_Keep.calls k _ _ l0 t141 t142 _ ?side1 ?side2 A6.out).mono ?_); (case side1 => repeat (first | exact (Kd.C_below HR0.out HB.out) | (with_reducible refine Kd.C_alloc ?_ _) | (with_reducible refine Kd.C_drewN ?_ _) | (with_reducible refine Kd.C_drew ?_))); (case side2 => exact HC0.out); rintro e w11 ⟨v143, rfl, ho0, hb⟩; have n0_ := Aside0.mk (Kd.R_lower ho0 (below_size (by repeat (first | (with_reducible first | exact HB.out | apply below_alloc | apply pw_below_drewN | apply below_drew1) | exact HB.out)))); have n1_ := Aside0.mk (below_step (by repeat (first | (with_reducible first | exact HB.out | apply below_alloc | apply pw_below_drewN | apply below_drew1) | exact HB.out)) hb); clear HB; have HO144 := n0_; have HB := n1_; clear n0_ n1_; (try clear hb); (try clear hb2); (try clear hk); (try clear hi); (try clear ho0)) | (go_at_call 16; (with_reducible refine (culetlaw39_theirs.calls k (fun k_ => k_ < w.heap.size) _ _ l0 t145 _ ?side1 A7.out).mono ?_); (case side1 => exact Kd.V_mk HC0.out (Kd.F_below (Kd.C_F k38_heap HR0.out) (by repeat (first | (with_reducible first | exact HB.out | apply below_alloc | apply pw_below_drewN | apply below_drew1) | exact HB.out)))); rintro e w12 ⟨v146, rfl, ho0, hb⟩; have n0_ := Aside0.mk (Kd.R_below (by (with_reducible repeat (first | apply Kd.R_alloc | apply Kd.R_drewN | apply Kd.R_drew)); exact HO144.out) hb); have n1_ := Aside0.mk (Kd.N_lower (Kd.N_mono (ok' := fun k_ => some k_ ≠ (v143 : Value).ownBlock) ho0 (fun k_ hk_ => Or.elim hk_ (fun hs_ => fun e_ => Nat.not_le.2 hs_ (Kd.R_base HO144.out k_ e_.symm)) (fun hn_ => (Kd.fresh' (Kd.R_lt (by (with_reducible repeat (first | apply Kd.R_alloc | apply Kd.R_drewN | apply Kd.R_drew)); exact HO144.out)) k_ hn_)))) (below_size (by repeat (first | (with_reducible first | exact HB.out | apply below_alloc | apply pw_below_drewN | apply below_drew1) | exact HB.out)))); have n2_ := Aside0.mk (below_step (by repeat (first | (with_reducible first | exact HB.out | apply below_alloc | apply pw_below_drewN | apply below_drew1) | exact HB.out)) hb); clear HO144; clear HB; have HO144 := n0_; have HO147 := n1_; have HB := n2_; clear n0_ n1_ n2_; (try clear hb); (try clear hb2); (try clear hk); (try clear hi); (try clear ho0); obtain ⟨Ao13, co13, eo13⟩ := Kd.N_slice HO147.out; subst eo13) | (go_at_call 15; (with_reducible refine (culetref39_Keep.calls k _ _ t145 t148 t149 _ ?side1 ?side2 A8.out).mono ?_); (case side1 => repeat (first | exact (Kd.N_reads' HO147.out).2.2 | (with_reducible refine Kd.C_alloc ?_ _) | (with_reducible refine Kd.C_drewN ?_ _) | (with_reducible refine Kd.C_drew ?_))); (case side2 => exact (Kd.N_reads' HO147.out).2.1); rintro e w14 ⟨v150, rfl, ho0, hb⟩; have n0_ := Aside0.mk (Kd.R_elder' (by (with_reducible repeat (first | apply Kd.R_alloc | apply Kd.R_drewN | apply Kd.R_drew)); exact HO144.out) (Kd.R_base ho0) hb); have n1_ := Aside0.mk (Kd.N_elder' (by (with_reducible repeat (first | apply Kd.N_alloc | apply Kd.N_drewN | apply Kd.N_drew)); exact HO147.out) (Kd.R_base ho0) hb); have n2_ := Aside0.mk (Kd.R_lower (Kd.R_new' ho0 (Kd.R_lt (by (with_reducible repeat (first | apply Kd.R_alloc | apply Kd.R_drewN | apply Kd.R_drew)); exact HO144.out))) (below_size (by repeat (first | (with_reducible first | exact HB.out | apply below_alloc | apply pw_below_drewN | apply below_drew1) | exact HB.out)))); have n3_ := Aside0.mk (below_step (by repeat (first | (with_reducible first | exact HB.out | apply below_alloc | apply pw_below_drewN | apply below_drew1) | exact HB.out)) hb); clear HO144; clear HO147; clear HB; have HO144 := n0_; have HO147 := n1_; have HO151 := n2_; have HB := n3_; clear n0_ n1_ n2_ n3_; (try clear hb); (try clear hb2); (try clear hk); (try clear hi); (try clear ho0))))
      (try simp only [Act.put, List.setIfInBounds_toArray, List.set_cons_zero, List.set_cons_succ])
      go_cut [36] (fun v36 wc => ∃ (kq : Nat) (x36_8 : Bool), v36 = .bool x36_8 ∧ Aside0 (culetlaw39_OptimizeKeep.j0 kq l0 t141 t142 x36_8 = some r) ∧ Aside0 (kq ≤ k) ∧ Aside0 (Kd.R (Kd.int .i64) 3 wc w.heap.size (fun _ => True) v143 t141) ∧ Aside0 (Below w.heap.size w wc))
      case first =>
        have H := HC9.out
        clear HC9
        replace H := Option.bind_eq_some_iff.mp H
        obtain ⟨t152, A150, H⟩ := H
        replace H : (if t152 = true then (culetlaw39_OptimizeKeep.j0 k l0 t141 t142 (t142 != t149)) else (culetlaw39_OptimizeKeep.j0 k l0 t141 t142 true)) = some r := H
        have A15 := Aside0.mk A150
        clear A150
        by_cases c16 : t152 = true
        · subst c16
          have H1 : (culetlaw39_OptimizeKeep.j0 k l0 t141 t142 (t142 != t149)) = some r := by rw [if_pos rfl] at H; exact H
          clear H
          have H := H1
          clear H1
          have H' := Aside0.mk H
          clear H
          obtain ⟨Ao17, co17, eo17⟩ := Kd.R_slice HO144.out
          subst eo17
          obtain ⟨Ao18, co18, eo18⟩ := Kd.R_slice HO151.out
          subst eo18
          go_wp2_with (first | (go_at_call 17; (with_reducible refine (culetref16_SameInts.calls k _ _ t141 _ _ t148 true _ ?side1 ?side2 ?side3 ?side4 A15.out).mono ?_); (case side1 => repeat (first | exact (Kd.R_reads' HO144.out).2.2 | (with_reducible refine Kd.C_alloc ?_ _) | (with_reducible refine Kd.C_drewN ?_ _) | (with_reducible refine Kd.C_drew ?_))); (case side2 => exact (Kd.R_reads' HO144.out).2.1); (case side3 => repeat (first | exact (Kd.R_reads' HO151.out).2.2 | (with_reducible refine Kd.C_alloc ?_ _) | (with_reducible refine Kd.C_drewN ?_ _) | (with_reducible refine Kd.C_drew ?_))); (case side4 => exact (Kd.R_reads' HO151.out).2.1); rintro e w' ⟨rfl, ⟨nd, rfl⟩⟩; (try first | exact ⟨rfl, _, World.drewN_drewN _ _ _⟩ | exact ⟨rfl, _, Eq.trans (World.drewN_drewN _ _ _) (congrArg (World.drewN _) (Nat.add_assoc _ _ _))⟩)))
          repeat (go_quiet (first | (go_at_call 17; (with_reducible refine (culetref16_SameInts.calls k _ _ t141 _ _ t148 true _ ?side1 ?side2 ?side3 ?side4 A15.out).mono ?_); (case side1 => repeat (first | exact (Kd.R_reads' HO144.out).2.2 | (with_reducible refine Kd.C_alloc ?_ _) | (with_reducible refine Kd.C_drewN ?_ _) | (with_reducible refine Kd.C_drew ?_))); (case side2 => exact (Kd.R_reads' HO144.out).2.1); (case side3 => repeat (first | exact (Kd.R_reads' HO151.out).2.2 | (with_reducible refine Kd.C_alloc ?_ _) | (with_reducible refine Kd.C_drewN ?_ _) | (with_reducible refine Kd.C_drew ?_))); (case side4 => exact (Kd.R_reads' HO151.out).2.1); rintro e w' ⟨rfl, ⟨nd, rfl⟩⟩; (try first | exact ⟨rfl, _, World.drewN_drewN _ _ _⟩ | exact ⟨rfl, _, Eq.trans (World.drewN_drewN _ _ _) (congrArg (World.drewN _) (Nat.add_assoc _ _ _))⟩))); try go_wp2_with (first | (go_at_call 17; (with_reducible refine (culetref16_SameInts.calls k _ _ t141 _ _ t148 true _ ?side1 ?side2 ?side3 ?side4 A15.out).mono ?_); (case side1 => repeat (first | exact (Kd.R_reads' HO144.out).2.2 | (with_reducible refine Kd.C_alloc ?_ _) | (with_reducible refine Kd.C_drewN ?_ _) | (with_reducible refine Kd.C_drew ?_))); (case side2 => exact (Kd.R_reads' HO144.out).2.1); (case side3 => repeat (first | exact (Kd.R_reads' HO151.out).2.2 | (with_reducible refine Kd.C_alloc ?_ _) | (with_reducible refine Kd.C_drewN ?_ _) | (with_reducible refine Kd.C_drew ?_))); (case side4 => exact (Kd.R_reads' HO151.out).2.1); rintro e w' ⟨rfl, ⟨nd, rfl⟩⟩; (try first | exact ⟨rfl, _, World.drewN_drewN _ _ _⟩ | exact ⟨rfl, _, Eq.trans (World.drewN_drewN _ _ _) (congrArg (World.drewN _) (Nat.add_assoc _ _ _))⟩))))
          go_meet
          case rel => exact ⟨_, ((t142 != t149)), (by first | rfl | (simp; done) | (simp [*]; done)), H', ⟨by first | omega | exact Nat.le_refl _⟩, ⟨by (with_reducible repeat (first | apply Kd.R_alloc | apply Kd.R_drewN | apply Kd.R_drew)); exact Kd.R_mono HO144.out (fun _ hk => trivial)⟩, ⟨by repeat (first | (with_reducible first | exact HB.out | apply below_alloc | apply pw_below_drewN | apply below_drew1) | exact HB.out)⟩⟩
        · replace c16 := Bool.eq_false_iff.mpr c16
          subst c16
          have H1 : (culetlaw39_OptimizeKeep.j0 k l0 t141 t142 true) = some r := by rw [if_neg (show ¬ (false = true) by decide)] at H; exact H
          clear H
          have H := H1
          clear H1
          have H' := Aside0.mk H
          clear H
          obtain ⟨Ao19, co19, eo19⟩ := Kd.R_slice HO144.out
          subst eo19
          obtain ⟨Ao20, co20, eo20⟩ := Kd.R_slice HO151.out
          subst eo20
          go_wp2_with (first | (go_at_call 17; (with_reducible refine (culetref16_SameInts.calls k _ _ t141 _ _ t148 false _ ?side1 ?side2 ?side3 ?side4 A15.out).mono ?_); (case side1 => repeat (first | exact (Kd.R_reads' HO144.out).2.2 | (with_reducible refine Kd.C_alloc ?_ _) | (with_reducible refine Kd.C_drewN ?_ _) | (with_reducible refine Kd.C_drew ?_))); (case side2 => exact (Kd.R_reads' HO144.out).2.1); (case side3 => repeat (first | exact (Kd.R_reads' HO151.out).2.2 | (with_reducible refine Kd.C_alloc ?_ _) | (with_reducible refine Kd.C_drewN ?_ _) | (with_reducible refine Kd.C_drew ?_))); (case side4 => exact (Kd.R_reads' HO151.out).2.1); rintro e w' ⟨rfl, ⟨nd, rfl⟩⟩; (try first | exact ⟨rfl, _, World.drewN_drewN _ _ _⟩ | exact ⟨rfl, _, Eq.trans (World.drewN_drewN _ _ _) (congrArg (World.drewN _) (Nat.add_assoc _ _ _))⟩)))
          repeat (go_quiet (first | (go_at_call 17; (with_reducible refine (culetref16_SameInts.calls k _ _ t141 _ _ t148 false _ ?side1 ?side2 ?side3 ?side4 A15.out).mono ?_); (case side1 => repeat (first | exact (Kd.R_reads' HO144.out).2.2 | (with_reducible refine Kd.C_alloc ?_ _) | (with_reducible refine Kd.C_drewN ?_ _) | (with_reducible refine Kd.C_drew ?_))); (case side2 => exact (Kd.R_reads' HO144.out).2.1); (case side3 => repeat (first | exact (Kd.R_reads' HO151.out).2.2 | (with_reducible refine Kd.C_alloc ?_ _) | (with_reducible refine Kd.C_drewN ?_ _) | (with_reducible refine Kd.C_drew ?_))); (case side4 => exact (Kd.R_reads' HO151.out).2.1); rintro e w' ⟨rfl, ⟨nd, rfl⟩⟩; (try first | exact ⟨rfl, _, World.drewN_drewN _ _ _⟩ | exact ⟨rfl, _, Eq.trans (World.drewN_drewN _ _ _) (congrArg (World.drewN _) (Nat.add_assoc _ _ _))⟩))); try go_wp2_with (first | (go_at_call 17; (with_reducible refine (culetref16_SameInts.calls k _ _ t141 _ _ t148 false _ ?side1 ?side2 ?side3 ?side4 A15.out).mono ?_); (case side1 => repeat (first | exact (Kd.R_reads' HO144.out).2.2 | (with_reducible refine Kd.C_alloc ?_ _) | (with_reducible refine Kd.C_drewN ?_ _) | (with_reducible refine Kd.C_drew ?_))); (case side2 => exact (Kd.R_reads' HO144.out).2.1); (case side3 => repeat (first | exact (Kd.R_reads' HO151.out).2.2 | (with_reducible refine Kd.C_alloc ?_ _) | (with_reducible refine Kd.C_drewN ?_ _) | (with_reducible refine Kd.C_drew ?_))); (case side4 => exact (Kd.R_reads' HO151.out).2.1); rintro e w' ⟨rfl, ⟨nd, rfl⟩⟩; (try first | exact ⟨rfl, _, World.drewN_drewN _ _ _⟩ | exact ⟨rfl, _, Eq.trans (World.drewN_drewN _ _ _) (congrArg (World.drewN _) (Nat.add_assoc _ _ _))⟩))))
          go_meet
          case rel => exact ⟨_, (true), (by first | rfl | (simp; done) | (simp [*]; done)), H', ⟨by first | omega | exact Nat.le_refl _⟩, ⟨by (with_reducible repeat (first | apply Kd.R_alloc | apply Kd.R_drewN | apply Kd.R_drew)); exact Kd.R_mono HO144.out (fun _ hk => trivial)⟩, ⟨by repeat (first | (with_reducible first | exact HB.out | apply below_alloc | apply pw_below_drewN | apply below_drew1) | exact HB.out)⟩⟩
      case rest =>
        clear HC9
        try clear c1
        try clear p2
        try clear c3
        try clear c4
        try clear c4b0
        try clear c4b1
        try clear c16
        obtain ⟨kq, x36_8, rfl, HA, HJ8, HO_3, HB⟩ := hcut
        cases kq with
        | zero => exact absurd HA.out (by simp [culetlaw39_OptimizeKeep.j0])
        | succ kj8 =>
          have H := HA.out
          clear HA
          simp only [culetlaw39_OptimizeKeep.j0] at H
          by_cases c21 : x36_8 = true
          · subst c21
            have H1 : (some false) = some r := by rw [if_pos rfl] at H; exact H
            clear H
            have H := H1
            clear H1
            obtain rfl := Option.some.inj H
            go_wp2
            repeat (go_quiet (fail); try go_wp2)
            go_ret
            exact ⟨by first | rfl | (simp [errW_none, errW_some] <;> rfl) | (simp [*, errW_none, errW_some] <;> rfl), by repeat (first | (with_reducible first | exact HB.out | apply below_alloc | apply pw_below_drewN | apply below_drew1) | exact HB.out)⟩
          · replace c21 := Bool.eq_false_iff.mpr c21
            subst c21
            have H1 : (if t142 = 0 then (culetlaw39_OptimizeKeep.j1 kj8 l0 t141 ((l0.length : Int) == 0)) else (culetlaw39_OptimizeKeep.j1 kj8 l0 t141 true)) = some r := by rw [if_neg (show ¬ (false = true) by decide)] at H; exact H
            clear H
            have H := H1
            clear H1
            have HC22 := Aside0.mk H
            clear H
            go_upto_region 9 with (fail)
            repeat (go_quiet (fail); go_upto_region 9 with (fail))
            go_cut [43] (fun v43 wc => ∃ (kq : Nat) (x43_21 : Bool), v43 = .bool x43_21 ∧ Aside0 (culetlaw39_OptimizeKeep.j1 kq l0 t141 x43_21 = some r) ∧ Aside0 (kq ≤ kj8) ∧ Aside0 (Kd.R (Kd.int .i64) 3 wc w.heap.size (fun _ => True) v143 t141) ∧ Aside0 (Below w.heap.size w wc))
            case first =>
              have H := HC22.out
              clear HC22
              by_cases c23 : t142 = 0
              · rw [if_pos c23] at H
                have c23b0 : (t142 == 0) = true := beq_iff_eq.mpr c23
                have c23b1 : (t142 != 0) = false := bne_eq_false_iff_eq.mpr c23
                clear c23
                (first | rw [c23b0] | (simp only [i64_w, i32_w]; rw [c23b0]) | skip)
                have H' := Aside0.mk H
                clear H
                go_wp2
                repeat (go_quiet (fail); try go_wp2)
                go_meet
                case rel => exact ⟨_, (((l0.length : Int) == 0)), (by first | rfl | (simp; done) | (simp [*]; done)), H', ⟨by have := HJ8.out; first | omega | exact Nat.le_refl _⟩, ⟨by (with_reducible repeat (first | apply Kd.R_alloc | apply Kd.R_drewN | apply Kd.R_drew)); exact HO_3.out⟩, ⟨by repeat (first | (with_reducible first | exact HB.out | apply below_alloc | apply pw_below_drewN | apply below_drew1) | exact HB.out)⟩⟩
              · rw [if_neg c23] at H
                have c23b0 : (t142 == 0) = false := beq_eq_false_iff_ne.mpr c23
                have c23b1 : (t142 != 0) = true := bne_iff_ne.mpr c23
                (first | rw [c23b0] | (simp only [i64_w, i32_w]; rw [c23b0]) | skip)
                have H' := Aside0.mk H
                clear H
                go_wp2
                repeat (go_quiet (fail); try go_wp2)
                go_meet
                case rel => exact ⟨_, (true), (by first | rfl | (simp; done) | (simp [*]; done)), H', ⟨by have := HJ8.out; first | omega | exact Nat.le_refl _⟩, ⟨by (with_reducible repeat (first | apply Kd.R_alloc | apply Kd.R_drewN | apply Kd.R_drew)); exact HO_3.out⟩, ⟨by repeat (first | (with_reducible first | exact HB.out | apply below_alloc | apply pw_below_drewN | apply below_drew1) | exact HB.out)⟩⟩
            case rest =>
              clear HC22
              try clear c1
              try clear c2
              try clear p2
              try clear c3
              try clear c4
              try clear c4b0
              try clear c4b1
              try clear c16
              try clear c21
              try clear c23
              try clear c23b0
              try clear c23b1
              try clear p2
              obtain ⟨kq, x43_21, rfl, HA, HJ21, HO_3, HB⟩ := hcut
              cases kq with
              | zero => exact absurd HA.out (by simp [culetlaw39_OptimizeKeep.j1])
              | succ kj21 =>
                have H := HA.out
                clear HA
                simp only [culetlaw39_OptimizeKeep.j1] at H
                by_cases c24 : x43_21 = true
                · subst c24
                  have H1 : (some true) = some r := by rw [if_pos rfl] at H; exact H
                  clear H
                  have H := H1
                  clear H1
                  obtain rfl := Option.some.inj H
                  go_wp2
                  repeat (go_quiet (fail); try go_wp2)
                  go_ret
                  exact ⟨by first | rfl | (simp [errW_none, errW_some] <;> rfl) | (simp [*, errW_none, errW_some] <;> rfl), by repeat (first | (with_reducible first | exact HB.out | apply below_alloc | apply pw_below_drewN | apply below_drew1) | exact HB.out)⟩
                · replace c24 := Bool.eq_false_iff.mpr c24
                  subst c24
                  have H1 : (culetlaw39_OptimizeKeep.l0 kj21 l0 t141 0 0) = some r := by rw [if_neg (show ¬ (false = true) by decide)] at H; exact H
                  clear H
                  have H := H1
                  clear H1
                  have H' := Aside0.mk H
                  clear H
                  go_wp2
                  repeat (go_quiet (fail); try go_wp2)
                  go_loopg [7, 8] kj21 (fun kq v7 v8 w' => ∃ (x7_3 : Int) (x8_3 : Int), v7 = .int .i64 x7_3 ∧ v8 = .int .i64 x8_3 ∧ Aside0 (culetlaw39_OptimizeKeep.l0 kq l0 t141 x7_3 x8_3 = some r) ∧ Aside0 (kq ≤ kj21) ∧ Aside0 (Kd.R (Kd.int .i64) 3 w' w.heap.size (fun _ => True) v143 t141) ∧ Aside0 (Below w.heap.size w w'))
                  case atStart => exact ⟨(0), (0), (by first | rfl | (simp; done) | (simp [*]; done)), (by first | rfl | (simp; done) | (simp [*]; done)), H', ⟨Nat.le_refl _⟩, ⟨by (with_reducible repeat (first | apply Kd.R_alloc | apply Kd.R_drewN | apply Kd.R_drew)); exact HO_3.out⟩, ⟨by repeat (first | (with_reducible first | exact HB.out | apply below_alloc | apply pw_below_drewN | apply below_drew1) | exact HB.out)⟩⟩
                  case round =>
                    clear H'
                    try clear c1
                    try clear c2
                    try clear p2
                    try clear c3
                    try clear c4
                    try clear c4b0
                    try clear c4b1
                    try clear c16
                    try clear c21
                    try clear c23
                    try clear c23b0
                    try clear c23b1
                    try clear c24
                    try clear p2
                    obtain ⟨x7_3, x8_3, rfl, rfl, HA, HK3, HO_3, HB⟩ := hrel
                    cases gk with
                    | zero => exact absurd HA.out (by simp [culetlaw39_OptimizeKeep.l0])
                    | succ k3 =>
                      have H := HA.out
                      clear HA
                      simp only [culetlaw39_OptimizeKeep.l0] at H
                      by_cases c25 : x8_3 < (l0.length : Int)
                      · rw [if_pos c25] at H
                        have c25b0 : decide (x8_3 < (l0.length : Int)) = true := decide_eq_true c25
                        clear c25
                        by_cases c26 : 0 ≤ x8_3
                        · rw [if_pos c26] at H
                          have c26b0 : decide (0 ≤ x8_3) = true := decide_eq_true c26
                          clear c26
                          by_cases c27 : 0 ≤ x7_3
                          · rw [if_pos c27] at H
                            have c27b0 : decide (0 ≤ x7_3) = true := decide_eq_true c27
                            clear c27
                            by_cases c28 : x7_3 < (l0.length : Int)
                            · rw [if_pos c28] at H
                              have c28b0 : decide (x7_3 < (l0.length : Int)) = true := decide_eq_true c28
                              clear c28
                              by_cases c29 : ((rd_T38 l0 x8_3).f1.f0) > ((rd_T38 l0 x7_3).f1.f0)
                              · rw [if_pos c29] at H
                                have c29b0 : decide (((rd_T38 l0 x7_3).f1.f0) < ((rd_T38 l0 x8_3).f1.f0)) = true := decide_eq_true c29
                                clear c29
                                have H' := Aside0.mk H
                                clear H
                                have p153 : 0 ≤ (x8_3 : Int) := of_decide_eq_true (by first | (with_reducible assumption) | assumption)
                                have q153 : x8_3 < (l0.length : Int) := of_decide_eq_true (by first | (with_reducible assumption) | assumption)
                                obtain ⟨ad153, A153_3, c153_3, e153, hx153_0, hx153_1, hx153_2, hx153_3, hx153_4, hx153_5, hl153_3, hi153_3⟩ := at_T38 HR0.out x8_3 p153 q153
                                cases e153
                                replace hx153_0 := (HB.out.cell (World.block_lt_of_cell? w _ hx153_0)).trans hx153_0
                                replace hx153_1 := (HB.out.cell (World.block_lt_of_cell? w _ hx153_1)).trans hx153_1
                                replace hx153_2 := (HB.out.cell (World.block_lt_of_cell? w _ hx153_2)).trans hx153_2
                                replace hx153_3 := (HB.out.cell (World.block_lt_of_cell? w _ hx153_3)).trans hx153_3
                                replace hx153_4 := (HB.out.cell (World.block_lt_of_cell? w _ hx153_4)).trans hx153_4
                                replace hx153_5 := (HB.out.cell (World.block_lt_of_cell? w _ hx153_5)).trans hx153_5
                                have HR153_3 := Aside0.mk hi153_3
                                have HC153_3 := Aside0.mk hl153_3
                                clear hi153_3 hl153_3
                                replace p153 := eq_true p153
                                replace q153 := eq_true q153
                                have p154 : 0 ≤ (x7_3 : Int) := of_decide_eq_true (by first | (with_reducible assumption) | assumption)
                                have q154 : x7_3 < (l0.length : Int) := of_decide_eq_true (by first | (with_reducible assumption) | assumption)
                                obtain ⟨ad154, A154_3, c154_3, e154, hx154_0, hx154_1, hx154_2, hx154_3, hx154_4, hx154_5, hl154_3, hi154_3⟩ := at_T38 HR0.out x7_3 p154 q154
                                obtain rfl : ad153 = ad154 := (by injection e154)
                                replace hx154_0 := (HB.out.cell (World.block_lt_of_cell? w _ hx154_0)).trans hx154_0
                                replace hx154_1 := (HB.out.cell (World.block_lt_of_cell? w _ hx154_1)).trans hx154_1
                                replace hx154_2 := (HB.out.cell (World.block_lt_of_cell? w _ hx154_2)).trans hx154_2
                                replace hx154_3 := (HB.out.cell (World.block_lt_of_cell? w _ hx154_3)).trans hx154_3
                                replace hx154_4 := (HB.out.cell (World.block_lt_of_cell? w _ hx154_4)).trans hx154_4
                                replace hx154_5 := (HB.out.cell (World.block_lt_of_cell? w _ hx154_5)).trans hx154_5
                                have HR154_3 := Aside0.mk hi154_3
                                have HC154_3 := Aside0.mk hl154_3
                                clear hi154_3 hl154_3
                                replace p154 := eq_true p154
                                replace q154 := eq_true q154
                                go_wp2
                                repeat (go_quiet (fail); try go_wp2)
                                go_roundg k3
                                case measure => have := HJ8.out; have := HJ21.out; have := HK3.out; omega
                                case rel => exact ⟨(x8_3), (wrap64 (x8_3 + 1)), (by first | rfl | (simp; done) | (simp [*]; done)), (by first | rfl | (simp; done) | (simp [*]; done)), H', ⟨by have := HJ8.out; have := HJ21.out; have := HK3.out; omega⟩, ⟨by (with_reducible repeat (first | apply Kd.R_alloc | apply Kd.R_drewN | apply Kd.R_drew)); exact HO_3.out⟩, ⟨by repeat (first | (with_reducible first | exact HB.out | apply below_alloc | apply pw_below_drewN | apply below_drew1) | exact HB.out)⟩⟩
                              · rw [if_neg c29] at H
                                have c29b0 : decide (((rd_T38 l0 x7_3).f1.f0) < ((rd_T38 l0 x8_3).f1.f0)) = false := decide_eq_false c29
                                clear c29
                                have H' := Aside0.mk H
                                clear H
                                have p153 : 0 ≤ (x8_3 : Int) := of_decide_eq_true (by first | (with_reducible assumption) | assumption)
                                have q153 : x8_3 < (l0.length : Int) := of_decide_eq_true (by first | (with_reducible assumption) | assumption)
                                obtain ⟨ad153, A153_3, c153_3, e153, hx153_0, hx153_1, hx153_2, hx153_3, hx153_4, hx153_5, hl153_3, hi153_3⟩ := at_T38 HR0.out x8_3 p153 q153
                                cases e153
                                replace hx153_0 := (HB.out.cell (World.block_lt_of_cell? w _ hx153_0)).trans hx153_0
                                replace hx153_1 := (HB.out.cell (World.block_lt_of_cell? w _ hx153_1)).trans hx153_1
                                replace hx153_2 := (HB.out.cell (World.block_lt_of_cell? w _ hx153_2)).trans hx153_2
                                replace hx153_3 := (HB.out.cell (World.block_lt_of_cell? w _ hx153_3)).trans hx153_3
                                replace hx153_4 := (HB.out.cell (World.block_lt_of_cell? w _ hx153_4)).trans hx153_4
                                replace hx153_5 := (HB.out.cell (World.block_lt_of_cell? w _ hx153_5)).trans hx153_5
                                have HR153_3 := Aside0.mk hi153_3
                                have HC153_3 := Aside0.mk hl153_3
                                clear hi153_3 hl153_3
                                replace p153 := eq_true p153
                                replace q153 := eq_true q153
                                have p154 : 0 ≤ (x7_3 : Int) := of_decide_eq_true (by first | (with_reducible assumption) | assumption)
                                have q154 : x7_3 < (l0.length : Int) := of_decide_eq_true (by first | (with_reducible assumption) | assumption)
                                obtain ⟨ad154, A154_3, c154_3, e154, hx154_0, hx154_1, hx154_2, hx154_3, hx154_4, hx154_5, hl154_3, hi154_3⟩ := at_T38 HR0.out x7_3 p154 q154
                                obtain rfl : ad153 = ad154 := (by injection e154)
                                replace hx154_0 := (HB.out.cell (World.block_lt_of_cell? w _ hx154_0)).trans hx154_0
                                replace hx154_1 := (HB.out.cell (World.block_lt_of_cell? w _ hx154_1)).trans hx154_1
                                replace hx154_2 := (HB.out.cell (World.block_lt_of_cell? w _ hx154_2)).trans hx154_2
                                replace hx154_3 := (HB.out.cell (World.block_lt_of_cell? w _ hx154_3)).trans hx154_3
                                replace hx154_4 := (HB.out.cell (World.block_lt_of_cell? w _ hx154_4)).trans hx154_4
                                replace hx154_5 := (HB.out.cell (World.block_lt_of_cell? w _ hx154_5)).trans hx154_5
                                have HR154_3 := Aside0.mk hi154_3
                                have HC154_3 := Aside0.mk hl154_3
                                clear hi154_3 hl154_3
                                replace p154 := eq_true p154
                                replace q154 := eq_true q154
                                go_wp2
                                repeat (go_quiet (fail); try go_wp2)
                                go_roundg k3
                                case measure => have := HJ8.out; have := HJ21.out; have := HK3.out; omega
                                case rel => exact ⟨(x7_3), (wrap64 (x8_3 + 1)), (by first | rfl | (simp; done) | (simp [*]; done)), (by first | rfl | (simp; done) | (simp [*]; done)), H', ⟨by have := HJ8.out; have := HJ21.out; have := HK3.out; omega⟩, ⟨by (with_reducible repeat (first | apply Kd.R_alloc | apply Kd.R_drewN | apply Kd.R_drew)); exact HO_3.out⟩, ⟨by repeat (first | (with_reducible first | exact HB.out | apply below_alloc | apply pw_below_drewN | apply below_drew1) | exact HB.out)⟩⟩
                            · rw [if_neg c28] at H
                              exact absurd H (by simp)
                          · rw [if_neg c27] at H
                            exact absurd H (by simp)
                        · rw [if_neg c26] at H
                          exact absurd H (by simp)
                      · rw [if_neg c25] at H
                        have c25b0 : decide (x8_3 < (l0.length : Int)) = false := decide_eq_false c25
                        clear c25
                        have H' := Aside0.mk H
                        clear H
                        go_wp2
                        repeat (go_quiet (fail); try go_wp2)
                        go_loopg [9] k3 (fun kq v9 w' => ∃ (x9_4 : Int), v9 = .int .i64 x9_4 ∧ Aside0 (culetlaw39_OptimizeKeep.l1 kq l0 t141 x7_3 x9_4 = some r) ∧ Aside0 (kq ≤ k3) ∧ Aside0 (Kd.R (Kd.int .i64) 3 w' w.heap.size (fun _ => True) v143 t141) ∧ Aside0 (Below w.heap.size w w'))
                        case atStart => exact ⟨(0), (by first | rfl | (simp; done) | (simp [*]; done)), H', ⟨Nat.le_refl _⟩, ⟨by (with_reducible repeat (first | apply Kd.R_alloc | apply Kd.R_drewN | apply Kd.R_drew)); exact HO_3.out⟩, ⟨by repeat (first | (with_reducible first | exact HB.out | apply below_alloc | apply pw_below_drewN | apply below_drew1) | exact HB.out)⟩⟩
                        case round =>
                          clear H'
                          try clear c1
                          try clear p1
                          try clear q1
                          try clear hx1
                          try clear c2
                          try clear p2
                          try clear c3
                          try clear c4
                          try clear c4b0
                          try clear c4b1
                          try clear p6
                          try clear c15
                          try clear p15
                          try clear q15
                          try clear hx15
                          try clear c16
                          try clear c21
                          try clear c23
                          try clear c23b0
                          try clear c23b1
                          try clear c24
                          try clear c25
                          try clear c25b0
                          try clear c26
                          try clear c26b0
                          try clear c27
                          try clear c27b0
                          try clear c28
                          try clear c28b0
                          try clear c29
                          try clear c29b0
                          try clear hx153_0
                          try clear hx153_1
                          try clear hx153_2
                          try clear hx153_3
                          try clear hx153_4
                          try clear hx153_5
                          try clear hx154_0
                          try clear hx154_1
                          try clear hx154_2
                          try clear hx154_3
                          try clear hx154_4
                          try clear hx154_5
                          try clear p153
                          try clear p154
                          try clear p2
                          try clear q153
                          try clear q154
                          obtain ⟨x9_4, rfl, HA, HK4, HO_3, HB⟩ := hrel
                          cases gk with
                          | zero => exact absurd HA.out (by simp [culetlaw39_OptimizeKeep.l1])
                          | succ k4 =>
                            have H := HA.out
                            clear HA
                            simp only [culetlaw39_OptimizeKeep.l1] at H
                            by_cases c30 : x9_4 < (l0.length : Int)
                            · rw [if_pos c30] at H
                              have c30b0 : decide (x9_4 < (l0.length : Int)) = true := decide_eq_true c30
                              clear c30
                              have H' := Aside0.mk H
                              clear H
                              go_wp2
                              repeat (go_quiet (fail); try go_wp2)
                              go_loopg [10, 11] k4 (fun kq v10 v11 w' => ∃ (x10_5 : Bool) (x11_5 : Int), v10 = .bool x10_5 ∧ v11 = .int .i64 x11_5 ∧ Aside0 (culetlaw39_OptimizeKeep.l2 kq l0 t141 x7_3 x9_4 x10_5 x11_5 = some r) ∧ Aside0 (kq ≤ k4) ∧ Aside0 (Kd.R (Kd.int .i64) 3 w' w.heap.size (fun _ => True) v143 t141) ∧ Aside0 (Below w.heap.size w w'))
                              case atStart => exact ⟨(false), (0), (by first | rfl | (simp; done) | (simp [*]; done)), (by first | rfl | (simp; done) | (simp [*]; done)), H', ⟨Nat.le_refl _⟩, ⟨by (with_reducible repeat (first | apply Kd.R_alloc | apply Kd.R_drewN | apply Kd.R_drew)); exact HO_3.out⟩, ⟨by repeat (first | (with_reducible first | exact HB.out | apply below_alloc | apply pw_below_drewN | apply below_drew1) | exact HB.out)⟩⟩
                              case round =>
                                clear H'
                                try clear c1
                                try clear p1
                                try clear q1
                                try clear hx1
                                try clear c2
                                try clear p2
                                try clear c3
                                try clear c4
                                try clear c4b0
                                try clear c4b1
                                try clear p6
                                try clear c15
                                try clear p15
                                try clear q15
                                try clear hx15
                                try clear c16
                                try clear c21
                                try clear c23
                                try clear c23b0
                                try clear c23b1
                                try clear c24
                                try clear c25
                                try clear c25b0
                                try clear c26
                                try clear c26b0
                                try clear c27
                                try clear c27b0
                                try clear c28
                                try clear c28b0
                                try clear c29
                                try clear c29b0
                                try clear c30
                                try clear c30b0
                                try clear hx153_0
                                try clear hx153_1
                                try clear hx153_2
                                try clear hx153_3
                                try clear hx153_4
                                try clear hx153_5
                                try clear hx154_0
                                try clear hx154_1
                                try clear hx154_2
                                try clear hx154_3
                                try clear hx154_4
                                try clear hx154_5
                                try clear p1
                                try clear p15
                                try clear p153
                                try clear p154
                                try clear p2
                                try clear p6
                                try clear q1
                                try clear q15
                                try clear q153
                                try clear q154
                                obtain ⟨x10_5, x11_5, rfl, rfl, HA, HK5, HO_3, HB⟩ := hrel
                                cases gk with
                                | zero => exact absurd HA.out (by simp [culetlaw39_OptimizeKeep.l2])
                                | succ k5 =>
                                  have H := HA.out
                                  clear HA
                                  simp only [culetlaw39_OptimizeKeep.l2] at H
                                  by_cases c31 : x11_5 < (t141.length : Int)
                                  · rw [if_pos c31] at H
                                    have c31b0 : decide (x11_5 < (t141.length : Int)) = true := decide_eq_true c31
                                    clear c31
                                    by_cases c32 : x10_5 = true
                                    · subst c32
                                      have H1 : (culetlaw39_OptimizeKeep.l2 k5 l0 t141 x7_3 x9_4 true (wrap64 (x11_5 + 1))) = some r := by rw [if_pos rfl] at H; exact H
                                      clear H
                                      have H := H1
                                      clear H1
                                      have H' := Aside0.mk H
                                      clear H
                                      obtain ⟨Ao33, co33, eo33⟩ := Kd.R_slice HO_3.out
                                      subst eo33
                                      go_wp2
                                      repeat (go_quiet (fail); try go_wp2)
                                      go_roundg k5
                                      case measure => have := HJ8.out; have := HJ21.out; have := HK3.out; have := HK4.out; have := HK5.out; omega
                                      case rel => exact ⟨(true), (wrap64 (x11_5 + 1)), (by first | rfl | (simp; done) | (simp [*]; done)), (by first | rfl | (simp; done) | (simp [*]; done)), H', ⟨by have := HJ8.out; have := HJ21.out; have := HK3.out; have := HK4.out; have := HK5.out; omega⟩, ⟨by (with_reducible repeat (first | apply Kd.R_alloc | apply Kd.R_drewN | apply Kd.R_drew)); exact HO_3.out⟩, ⟨by repeat (first | (with_reducible first | exact HB.out | apply below_alloc | apply pw_below_drewN | apply below_drew1) | exact HB.out)⟩⟩
                                    · replace c32 := Bool.eq_false_iff.mpr c32
                                      subst c32
                                      have H1 : (if 0 ≤ x11_5 then (culetlaw39_OptimizeKeep.l2 k5 l0 t141 x7_3 x9_4 ((rd t141 x11_5) == x9_4) (wrap64 (x11_5 + 1))) else (none)) = some r := by rw [if_neg (show ¬ (false = true) by decide)] at H; exact H
                                      clear H
                                      have H := H1
                                      clear H1
                                      by_cases c34 : 0 ≤ x11_5
                                      · rw [if_pos c34] at H
                                        have c34b0 : decide (0 ≤ x11_5) = true := decide_eq_true c34
                                        clear c34
                                        have H' := Aside0.mk H
                                        clear H
                                        obtain ⟨Ao35, co35, eo35⟩ := Kd.R_slice HO_3.out
                                        subst eo35
                                        have p155 : 0 ≤ (x11_5 : Int) := of_decide_eq_true (by first | (with_reducible assumption) | assumption)
                                        have q155 : x11_5 < (t141.length : Int) := of_decide_eq_true (by first | (with_reducible assumption) | assumption)
                                        obtain ⟨ad155, e155, hx155_0⟩ := Kd.at_int (Kd.R_reads' HO_3.out).2.2 x11_5 p155 q155
                                        cases e155
                                        replace p155 := eq_true p155
                                        replace q155 := eq_true q155
                                        go_wp2
                                        repeat (go_quiet (fail); try go_wp2)
                                        go_roundg k5
                                        case measure => have := HJ8.out; have := HJ21.out; have := HK3.out; have := HK4.out; have := HK5.out; omega
                                        case rel => exact ⟨(((rd t141 x11_5) == x9_4)), (wrap64 (x11_5 + 1)), (by first | rfl | (simp; done) | (simp [*]; done)), (by first | rfl | (simp; done) | (simp [*]; done)), H', ⟨by have := HJ8.out; have := HJ21.out; have := HK3.out; have := HK4.out; have := HK5.out; omega⟩, ⟨by (with_reducible repeat (first | apply Kd.R_alloc | apply Kd.R_drewN | apply Kd.R_drew)); exact HO_3.out⟩, ⟨by repeat (first | (with_reducible first | exact HB.out | apply below_alloc | apply pw_below_drewN | apply below_drew1) | exact HB.out)⟩⟩
                                      · rw [if_neg c34] at H
                                        exact absurd H (by simp)
                                  · rw [if_neg c31] at H
                                    have c31b0 : decide (x11_5 < (t141.length : Int)) = false := decide_eq_false c31
                                    clear c31
                                    by_cases c36 : 0 ≤ x9_4
                                    · rw [if_pos c36] at H
                                      have c36b0 : decide (0 ≤ x9_4) = true := decide_eq_true c36
                                      clear c36
                                      by_cases c37 : x9_4 < (l0.length : Int)
                                      · rw [if_pos c37] at H
                                        have c37b0 : decide (x9_4 < (l0.length : Int)) = true := decide_eq_true c37
                                        clear c37
                                        by_cases c38 : 0 ≤ x7_3
                                        · rw [if_pos c38] at H
                                          have c38b0 : decide (0 ≤ x7_3) = true := decide_eq_true c38
                                          clear c38
                                          by_cases c39 : x7_3 < (l0.length : Int)
                                          · rw [if_pos c39] at H
                                            have c39b0 : decide (x7_3 < (l0.length : Int)) = true := decide_eq_true c39
                                            clear c39
                                            by_cases c40 : (x10_5 != (decide (((rd_T38 l0 x9_4).f1.f1) ≥ ((rd_T38 l0 x7_3).f1.f0)))) = true
                                            · rw [if_pos c40] at H
                                              have c40b0 : (x10_5 != (decide (((rd_T38 l0 x9_4).f1.f1) ≥ ((rd_T38 l0 x7_3).f1.f0)))) = true := c40
                                              (try (have c40b1 : decide (x10_5 = (decide (((rd_T38 l0 x9_4).f1.f1) ≥ ((rd_T38 l0 x7_3).f1.f0)))) = false := by simpa using c40))
                                              (try (have c40b2 : (x10_5 == (decide (((rd_T38 l0 x9_4).f1.f1) ≥ ((rd_T38 l0 x7_3).f1.f0)))) = false := by simpa using c40))
                                              (try (have c40b3 : ¬ (x10_5 = (decide (((rd_T38 l0 x9_4).f1.f1) ≥ ((rd_T38 l0 x7_3).f1.f0)))) := by simpa using c40))
                                              clear c40
                                              obtain rfl := Option.some.inj H
                                              obtain ⟨Ao41, co41, eo41⟩ := Kd.R_slice HO_3.out
                                              subst eo41
                                              have p156 : 0 ≤ (x9_4 : Int) := of_decide_eq_true (by first | (with_reducible assumption) | assumption)
                                              have q156 : x9_4 < (l0.length : Int) := of_decide_eq_true (by first | (with_reducible assumption) | assumption)
                                              obtain ⟨ad156, A156_3, c156_3, e156, hx156_0, hx156_1, hx156_2, hx156_3, hx156_4, hx156_5, hl156_3, hi156_3⟩ := at_T38 HR0.out x9_4 p156 q156
                                              cases e156
                                              replace hx156_0 := (HB.out.cell (World.block_lt_of_cell? w _ hx156_0)).trans hx156_0
                                              replace hx156_1 := (HB.out.cell (World.block_lt_of_cell? w _ hx156_1)).trans hx156_1
                                              replace hx156_2 := (HB.out.cell (World.block_lt_of_cell? w _ hx156_2)).trans hx156_2
                                              replace hx156_3 := (HB.out.cell (World.block_lt_of_cell? w _ hx156_3)).trans hx156_3
                                              replace hx156_4 := (HB.out.cell (World.block_lt_of_cell? w _ hx156_4)).trans hx156_4
                                              replace hx156_5 := (HB.out.cell (World.block_lt_of_cell? w _ hx156_5)).trans hx156_5
                                              have HR156_3 := Aside0.mk hi156_3
                                              have HC156_3 := Aside0.mk hl156_3
                                              clear hi156_3 hl156_3
                                              replace p156 := eq_true p156
                                              replace q156 := eq_true q156
                                              have p157 : 0 ≤ (x7_3 : Int) := of_decide_eq_true (by first | (with_reducible assumption) | assumption)
                                              have q157 : x7_3 < (l0.length : Int) := of_decide_eq_true (by first | (with_reducible assumption) | assumption)
                                              obtain ⟨ad157, A157_3, c157_3, e157, hx157_0, hx157_1, hx157_2, hx157_3, hx157_4, hx157_5, hl157_3, hi157_3⟩ := at_T38 HR0.out x7_3 p157 q157
                                              obtain rfl : ad156 = ad157 := (by injection e157)
                                              replace hx157_0 := (HB.out.cell (World.block_lt_of_cell? w _ hx157_0)).trans hx157_0
                                              replace hx157_1 := (HB.out.cell (World.block_lt_of_cell? w _ hx157_1)).trans hx157_1
                                              replace hx157_2 := (HB.out.cell (World.block_lt_of_cell? w _ hx157_2)).trans hx157_2
                                              replace hx157_3 := (HB.out.cell (World.block_lt_of_cell? w _ hx157_3)).trans hx157_3
                                              replace hx157_4 := (HB.out.cell (World.block_lt_of_cell? w _ hx157_4)).trans hx157_4
                                              replace hx157_5 := (HB.out.cell (World.block_lt_of_cell? w _ hx157_5)).trans hx157_5
                                              have HR157_3 := Aside0.mk hi157_3
                                              have HC157_3 := Aside0.mk hl157_3
                                              clear hi157_3 hl157_3
                                              replace p157 := eq_true p157
                                              replace q157 := eq_true q157
                                              go_wp2
                                              repeat (go_quiet (fail); try go_wp2)
                                              go_ret
                                              exact ⟨by first | rfl | (simp [errW_none, errW_some] <;> rfl) | (simp [*, errW_none, errW_some] <;> rfl), by repeat (first | (with_reducible first | exact HB.out | apply below_alloc | apply pw_below_drewN | apply below_drew1) | exact HB.out)⟩
                                            · rw [if_neg c40] at H
                                              have c40b0 : (x10_5 != (decide (((rd_T38 l0 x9_4).f1.f1) ≥ ((rd_T38 l0 x7_3).f1.f0)))) = false := by simpa using c40
                                              (try (have c40b1 : decide (x10_5 = (decide (((rd_T38 l0 x9_4).f1.f1) ≥ ((rd_T38 l0 x7_3).f1.f0)))) = true := by simpa using c40))
                                              (try (have c40b2 : (x10_5 == (decide (((rd_T38 l0 x9_4).f1.f1) ≥ ((rd_T38 l0 x7_3).f1.f0)))) = true := by simpa using c40))
                                              clear c40
                                              have H' := Aside0.mk H
                                              clear H
                                              obtain ⟨Ao42, co42, eo42⟩ := Kd.R_slice HO_3.out
                                              subst eo42
                                              have p156 : 0 ≤ (x9_4 : Int) := of_decide_eq_true (by first | (with_reducible assumption) | assumption)
                                              have q156 : x9_4 < (l0.length : Int) := of_decide_eq_true (by first | (with_reducible assumption) | assumption)
                                              obtain ⟨ad156, A156_3, c156_3, e156, hx156_0, hx156_1, hx156_2, hx156_3, hx156_4, hx156_5, hl156_3, hi156_3⟩ := at_T38 HR0.out x9_4 p156 q156
                                              cases e156
                                              replace hx156_0 := (HB.out.cell (World.block_lt_of_cell? w _ hx156_0)).trans hx156_0
                                              replace hx156_1 := (HB.out.cell (World.block_lt_of_cell? w _ hx156_1)).trans hx156_1
                                              replace hx156_2 := (HB.out.cell (World.block_lt_of_cell? w _ hx156_2)).trans hx156_2
                                              replace hx156_3 := (HB.out.cell (World.block_lt_of_cell? w _ hx156_3)).trans hx156_3
                                              replace hx156_4 := (HB.out.cell (World.block_lt_of_cell? w _ hx156_4)).trans hx156_4
                                              replace hx156_5 := (HB.out.cell (World.block_lt_of_cell? w _ hx156_5)).trans hx156_5
                                              have HR156_3 := Aside0.mk hi156_3
                                              have HC156_3 := Aside0.mk hl156_3
                                              clear hi156_3 hl156_3
                                              replace p156 := eq_true p156
                                              replace q156 := eq_true q156
                                              have p157 : 0 ≤ (x7_3 : Int) := of_decide_eq_true (by first | (with_reducible assumption) | assumption)
                                              have q157 : x7_3 < (l0.length : Int) := of_decide_eq_true (by first | (with_reducible assumption) | assumption)
                                              obtain ⟨ad157, A157_3, c157_3, e157, hx157_0, hx157_1, hx157_2, hx157_3, hx157_4, hx157_5, hl157_3, hi157_3⟩ := at_T38 HR0.out x7_3 p157 q157
                                              obtain rfl : ad156 = ad157 := (by injection e157)
                                              replace hx157_0 := (HB.out.cell (World.block_lt_of_cell? w _ hx157_0)).trans hx157_0
                                              replace hx157_1 := (HB.out.cell (World.block_lt_of_cell? w _ hx157_1)).trans hx157_1
                                              replace hx157_2 := (HB.out.cell (World.block_lt_of_cell? w _ hx157_2)).trans hx157_2
                                              replace hx157_3 := (HB.out.cell (World.block_lt_of_cell? w _ hx157_3)).trans hx157_3
                                              replace hx157_4 := (HB.out.cell (World.block_lt_of_cell? w _ hx157_4)).trans hx157_4
                                              replace hx157_5 := (HB.out.cell (World.block_lt_of_cell? w _ hx157_5)).trans hx157_5
                                              have HR157_3 := Aside0.mk hi157_3
                                              have HC157_3 := Aside0.mk hl157_3
                                              clear hi157_3 hl157_3
                                              replace p157 := eq_true p157
                                              replace q157 := eq_true q157
                                              go_wp2
                                              repeat (go_quiet (fail); try go_wp2)
                                              go_roundg k5
                                              case measure => have := HJ8.out; have := HJ21.out; have := HK3.out; have := HK4.out; have := HK5.out; omega
                                              case rel => exact ⟨(wrap64 (x9_4 + 1)), (by first | rfl | (simp; done) | (simp [*]; done)), H', ⟨by have := HJ8.out; have := HJ21.out; have := HK3.out; have := HK4.out; have := HK5.out; omega⟩, ⟨by (with_reducible repeat (first | apply Kd.R_alloc | apply Kd.R_drewN | apply Kd.R_drew)); exact HO_3.out⟩, ⟨by repeat (first | (with_reducible first | exact HB.out | apply below_alloc | apply pw_below_drewN | apply below_drew1) | exact HB.out)⟩⟩
                                          · rw [if_neg c39] at H
                                            exact absurd H (by simp)
                                        · rw [if_neg c38] at H
                                          exact absurd H (by simp)
                                      · rw [if_neg c37] at H
                                        exact absurd H (by simp)
                                    · rw [if_neg c36] at H
                                      exact absurd H (by simp)
                            · rw [if_neg c30] at H
                              have c30b0 : decide (x9_4 < (l0.length : Int)) = false := decide_eq_false c30
                              clear c30
                              obtain rfl := Option.some.inj H
                              go_wp2
                              repeat (go_quiet (fail); try go_wp2)
                              go_ret
                              exact ⟨by first | rfl | (simp [errW_none, errW_some] <;> rfl) | (simp [*, errW_none, errW_some] <;> rfl), by repeat (first | (with_reducible first | exact HB.out | apply below_alloc | apply pw_below_drewN | apply below_drew1) | exact HB.out)⟩
  · replace c3 := Bool.eq_false_iff.mpr c3
    subst c3
    have H1 : (some false) = some r := by rw [if_neg (show ¬ (false = true) by decide)] at H; exact H
    clear H
    have H := H1
    clear H1
    obtain rfl := Option.some.inj H
    go_enter Try.func3, Try.ntmps3
    go_wp2_with (first | (go_at_call 13; (with_reducible refine (culetlaw39_awake.calls k  false _ A2.out).mono ?_); rintro e w43 ⟨rfl, hb⟩; have n0_ := Aside0.mk (below_step (by repeat (first | (with_reducible first | exact HB.out | apply below_alloc | apply pw_below_drewN | apply below_drew1) | exact HB.out)) hb); clear HB; have HB := n0_; clear n0_; (try clear hb); (try clear hb2); (try clear hk); (try clear hi)))
    repeat (go_quiet (first | (go_at_call 13; (with_reducible refine (culetlaw39_awake.calls k  false _ A2.out).mono ?_); rintro e w43 ⟨rfl, hb⟩; have n0_ := Aside0.mk (below_step (by repeat (first | (with_reducible first | exact HB.out | apply below_alloc | apply pw_below_drewN | apply below_drew1) | exact HB.out)) hb); clear HB; have HB := n0_; clear n0_; (try clear hb); (try clear hb2); (try clear hk); (try clear hi))); try go_wp2_with (first | (go_at_call 13; (with_reducible refine (culetlaw39_awake.calls k  false _ A2.out).mono ?_); rintro e w43 ⟨rfl, hb⟩; have n0_ := Aside0.mk (below_step (by repeat (first | (with_reducible first | exact HB.out | apply below_alloc | apply pw_below_drewN | apply below_drew1) | exact HB.out)) hb); clear HB; have HB := n0_; clear n0_; (try clear hb); (try clear hb2); (try clear hk); (try clear hi))))
    go_ret
    exact ⟨by first | rfl | (simp [errW_none, errW_some] <;> rfl) | (simp [*, errW_none, errW_some] <;> rfl), by repeat (first | (with_reducible first | exact HB.out | apply below_alloc | apply pw_below_drewN | apply below_drew1) | exact HB.out)⟩

/-- THE ONE PURE STATEMENT of culetlaw39_OptimizeKeep: yours. -/
def culetlaw39_OptimizeKeep.Pure : Prop := ∀ (x0 : List (S38)), (AllV V38) x0 → ∃ k, culetlaw39_OptimizeKeep.f k x0 = some true

-- HAND: function 19 (tier_Orbit) stands in HandTier

end Go.Proofs.Ytncemdpmooakgaa.XK
