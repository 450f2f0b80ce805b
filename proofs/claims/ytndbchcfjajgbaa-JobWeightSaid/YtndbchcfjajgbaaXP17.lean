-- printed by xprint.py
import Derived.Test.YtndbchcfjajgbaaXB
import Derived.Test.YtndbchcfjajgbaaXP0
import Derived.Test.YtndbchcfjajgbaaXP14
import Derived.Test.YtndbchcfjajgbaaXP15
import Derived.Test.YtndbchcfjajgbaaXP16
import Derived.Test.YtndbchcfjajgbaaHandJobDoF
namespace Go.Proofs.Ytndbchcfjajgbaa.XP
open Go.Proofs.Ytndbchcfjajgbaa.XB Go.Proofs.Ytndbchcfjajgbaa.XQ
open Go.Proofs.Ytndbchcfjajgbaa.XW
open Go.RowKit Go.Proofs.YtndbchcfjajgbaaW.PrintWords Go.Proofs.YtndbchcfjajgbaaW.PrintLast Go.Proofs.YtndbchcfjajgbaaW.PrintMore
attribute [local go_sem] max2_int min2_int max_two min_two max_three min_three max_four min_four   -- for this text's walks alone
set_option linter.unusedVariables false
set_option linter.unusedSimpArgs false

/-! ### culetlaw54_JobWeight: function 10 -/
def culetlaw54_JobWeight.j0 : Nat → Bool → Int → List (S107) → List (S24) → Int → Int → Int → Int → ByteArray → ByteArray → ByteArray → Int → Int → ByteArray → Int → Option (Bool)
 | 0, _, _, _, _, _, _, _, _, _, _, _, _, _, _, _ => none
 | k + 1, x19, Qa0, Qa1, Qa2, Qa3, Qa4, Qb0, Qb1, Qb2, Qb3, Qb4, Qb5, Qb6, Qb7, Qb8 => if x19 = true then ((culetlaw54_awake.f k).bind fun t244 => (some t244)) else ((culetlaw54_Own.f k Qa0 Qa1 Qa2 Qa3 Qa4).bind fun bt245 => ((culetlaw54_event.f Qb0 Qb1 Qb2 Qb3 Qb4 Qb5 Qb6 Qb7 Qb8).bind fun bt254 => ((job_Do.f bt245.1 bt245.2.1 bt245.2.2.1 bt245.2.2.2.1 bt245.2.2.2.2 bt254.1 bt254.2.1 bt254.2.2.1 bt254.2.2.2.1 bt254.2.2.2.2.1 bt254.2.2.2.2.2.1 bt254.2.2.2.2.2.2.1 bt254.2.2.2.2.2.2.2.1 bt254.2.2.2.2.2.2.2.2).bind fun bt263 => (if bt263.2.2.2.2.2 = 0 then ((culetlaw54_weight.f k bt263.1 bt263.2.1 bt263.2.2.1 bt263.2.2.2.1 bt263.2.2.2.2.1).bind fun t274 => ((culetlaw54_Own.f k Qa0 Qa1 Qa2 Qa3 Qa4).bind fun bt275 => ((culetlaw54_weight.f k bt275.1 bt275.2.1 bt275.2.2.1 bt275.2.2.2.1 bt275.2.2.2.2).bind fun t284 => (some (t274 == t284))))) else (some true)))))
def culetlaw54_JobWeight.f (k : Nat) (a0_0 : Int) (l0_1 : List (S107)) (l0_2 : List (S24)) (a0_3 : Int) (a0_4 : Int) (a1_0 : Int) (a1_1 : Int) (a1_2 : ByteArray) (a1_3 : ByteArray) (a1_4 : ByteArray) (a1_5 : Int) (a1_6 : Int) (a1_7 : ByteArray) (a1_8 : Int) : Option (Bool) := (culetlaw54_awake.f k).bind fun t238 => (if t238 = true then ((culetref54_Few.f k a0_0 l0_1 l0_2 a0_3 a0_4).bind fun t239 => (if t239 = true then ((culetref54_FewEvents.f k (([(⟨a1_0, a1_1, (⟨a1_2, a1_3, a1_4, a1_5, a1_6⟩ : S69), a1_7, a1_8⟩ : S71)] : List (S71)))).bind fun t243 => (culetlaw54_JobWeight.j0 k (!t243) a0_0 l0_1 l0_2 a0_3 a0_4 a1_0 a1_1 a1_2 a1_3 a1_4 a1_5 a1_6 a1_7 a1_8)) else (culetlaw54_JobWeight.j0 k true a0_0 l0_1 l0_2 a0_3 a0_4 a1_0 a1_1 a1_2 a1_3 a1_4 a1_5 a1_6 a1_7 a1_8))) else (culetlaw54_JobWeight.j0 k true a0_0 l0_1 l0_2 a0_3 a0_4 a1_0 a1_1 a1_2 a1_3 a1_4 a1_5 a1_6 a1_7 a1_8))
theorem culetlaw54_JobWeight.mono_l : ∀ k, (∀ y0 y1 y2 y3 y4 y5 y6 y7 y8 y9 y10 y11 y12 y13 y14, LeO (culetlaw54_JobWeight.j0 k y0 y1 y2 y3 y4 y5 y6 y7 y8 y9 y10 y11 y12 y13 y14) (culetlaw54_JobWeight.j0 (k + 1) y0 y1 y2 y3 y4 y5 y6 y7 y8 y9 y10 y11 y12 y13 y14))
 | 0 => fun _ _ _ _ _ _ _ _ _ _ _ _ _ _ _ r h => by simp [culetlaw54_JobWeight.j0] at h
 | k + 1 => by
  have ih0 := culetlaw54_JobWeight.mono_l k
  ·intro y0 y1 y2 y3 y4 y5 y6 y7 y8 y9 y10 y11 y12 y13 y14
   unfold culetlaw54_JobWeight.j0
   repeat' first
   | (with_reducible exact ih0 _ _ _ _ _ _ _ _ _ _ _ _ _ _ _)
   | (with_reducible exact culetlaw54_Own.mono _ _ _ _ _ _)
   | (with_reducible exact culetlaw54_awake.mono _)
   | (with_reducible exact culetlaw54_weight.mono _ _ _ _ _ _)
   | (with_reducible exact culetref54_Few.mono _ _ _ _ _ _)
   | (with_reducible exact culetref54_FewEvents.mono _ _)
   | (with_reducible exact LeO.refl _)
   | (with_reducible exact LeO.none _)
   | (with_reducible refine LeO.ite ?_ ?_)
   | (with_reducible refine LeO.bind ?_ (fun _ => ?_))
   | exact ih0 _ _ _ _ _ _ _ _ _ _ _ _ _ _ _
   | exact culetlaw54_Own.mono _ _ _ _ _ _
   | exact culetlaw54_awake.mono _
   | exact culetlaw54_weight.mono _ _ _ _ _ _
   | exact culetref54_Few.mono _ _ _ _ _ _
   | exact culetref54_FewEvents.mono _ _
   | exact LeO.none _
   | refine LeO.ite ?_ ?_
   | refine LeO.bind ?_ (fun _ => ?_)
theorem culetlaw54_JobWeight.mono : ∀ a0 a1 a2 a3 a4 a5 a6 a7 a8 a9 a10 a11 a12 a13 k, LeO (culetlaw54_JobWeight.f k a0 a1 a2 a3 a4 a5 a6 a7 a8 a9 a10 a11 a12 a13) (culetlaw54_JobWeight.f (k + 1) a0 a1 a2 a3 a4 a5 a6 a7 a8 a9 a10 a11 a12 a13) := by
 intro a0 a1 a2 a3 a4 a5 a6 a7 a8 a9 a10 a11 a12 a13 k
 have ih0 := culetlaw54_JobWeight.mono_l k
 unfold culetlaw54_JobWeight.f
 repeat' first
   | (with_reducible exact ih0 _ _ _ _ _ _ _ _ _ _ _ _ _ _ _)
   | (with_reducible exact culetlaw54_Own.mono _ _ _ _ _ _)
   | (with_reducible exact culetlaw54_awake.mono _)
   | (with_reducible exact culetlaw54_weight.mono _ _ _ _ _ _)
   | (with_reducible exact culetref54_Few.mono _ _ _ _ _ _)
   | (with_reducible exact culetref54_FewEvents.mono _ _)
   | (with_reducible exact LeO.refl _)
   | (with_reducible exact LeO.none _)
   | (with_reducible refine LeO.ite ?_ ?_)
   | (with_reducible refine LeO.bind ?_ (fun _ => ?_))
   | exact ih0 _ _ _ _ _ _ _ _ _ _ _ _ _ _ _
   | exact culetlaw54_Own.mono _ _ _ _ _ _
   | exact culetlaw54_awake.mono _
   | exact culetlaw54_weight.mono _ _ _ _ _ _
   | exact culetref54_Few.mono _ _ _ _ _ _
   | exact culetref54_FewEvents.mono _ _
   | exact LeO.none _
   | refine LeO.ite ?_ ?_
   | refine LeO.bind ?_ (fun _ => ?_)
def culetlaw54_JobWeight.T3 : Bool × List (List Nat × List Nat) := (true, [([], []), ([0], [0]), ([], []), ([2, 1], [2]), ([1, 3, 3], [1, 3]), ([4], [4]), ([5], [5]), ([5], [5]), ([], []), ([8, 6, 4, 0, 1, 2, 3, 4, 5, 6, 8], [6, 8]), ([7, 9, 0, 1, 2, 3, 4, 5, 6, 7, 8, 9], [7])])
def culetlaw54_JobWeight.B3 : List Nat := [0, 1, 0, 7, 15, 31, 63, 63, 0, 383, 1023]
theorem culetlaw54_JobWeight.tab3 : rtab .any (opsOf Try.f10 3) = culetlaw54_JobWeight.T3 := by kernel_rfl
theorem culetlaw54_JobWeight.bits3 : waitsOk culetlaw54_JobWeight.T3.2 culetlaw54_JobWeight.B3 = true := by kernel_rfl
def culetlaw54_JobWeight.T4 : Bool × List (List Nat × List Nat) := (true, [([], []), ([0], [0]), ([1], [1]), ([2], [2]), ([3, 2, 2], [2, 3]), ([2], [2]), ([5, 4, 2], [2, 5]), ([6, 6, 2], [2, 6]), ([4, 7, 2], [2, 4, 7]), ([2, 8], [2, 8]), ([9, 7, 0, 1, 2, 3, 4, 5, 6, 7, 8, 9], [9])])
def culetlaw54_JobWeight.B4 : List Nat := [0, 1, 3, 7, 15, 7, 63, 127, 255, 511, 1023]
theorem culetlaw54_JobWeight.tab4 : rtab .any (opsOf Try.f10 4) = culetlaw54_JobWeight.T4 := by kernel_rfl
theorem culetlaw54_JobWeight.bits4 : waitsOk culetlaw54_JobWeight.T4.2 culetlaw54_JobWeight.B4 = true := by kernel_rfl
set_option maxHeartbeats 8000000 in
set_option maxRecDepth 100000 in
theorem culetlaw54_JobWeight.calls (k : Nat) (a0_0 : Int) (A0_1 : Option Addr) (c0_1 : Nat) (l0_1 : List (S107)) (A0_2 : Option Addr) (c0_2 : Nat) (l0_2 : List (S24)) (a0_3 : Int) (a0_4 : Int) (a1_0 : Int) (a1_1 : Int) (a1_2 : ByteArray) (a1_3 : ByteArray) (a1_4 : ByteArray) (a1_5 : Int) (a1_6 : Int) (a1_7 : ByteArray) (a1_8 : Int) (r : Bool) (w : World) (hr0_1 : Kd.C k107 w A0_1 l0_1.length l0_1) (hc0_1 : l0_1.length ≤ c0_1) (hr0_2 : Kd.C k24 w A0_2 l0_2.length l0_2) (hc0_2 : l0_2.length ≤ c0_2) (h : culetlaw54_JobWeight.f k a0_0 l0_1 l0_2 a0_3 a0_4 a1_0 a1_1 a1_2 a1_3 a1_4 a1_5 a1_6 a1_7 a1_8 = some r) (ht_ : r = true) :
  Calls Try.prog 10 #[.agg #[.int .i64 a0_0, .slice A0_1 l0_1.length c0_1, .slice A0_2 l0_2.length c0_2, .int .i64 a0_3, .int .i64 a0_4], .agg #[.int .i64 a1_0, .int .i64 a1_1, .string a1_2, .string a1_3, .string a1_4, .int .i64 a1_5, .int .i64 a1_6, .string a1_7, .int .i64 a1_8]] w fun e w' => e = .returned (.bool r) ∧ Below w.heap.size w w' := by
 have hu67 := Try.underlying67
 have hu71 := Try.underlying71
 have hu77 := Try.underlying77
 have HTRUE := Aside0.mk ht_
 clear ht_
 have HR0_1 := Aside0.mk hr0_1
 have HC0_1 := Aside0.mk hc0_1
 clear hr0_1 hc0_1
 have HR0_2 := Aside0.mk hr0_2
 have HC0_2 := Aside0.mk hc0_2
 clear hr0_2 hc0_2
 have HB := Aside0.mk (Below.refl w.heap.size w)
 have H : ((culetlaw54_awake.f k).bind fun t238 => (if t238 = true then ((culetref54_Few.f k a0_0 l0_1 l0_2 a0_3 a0_4).bind fun t239 => (if t239 = true then ((culetref54_FewEvents.f k (([(⟨a1_0, a1_1, (⟨a1_2, a1_3, a1_4, a1_5, a1_6⟩ : S69), a1_7, a1_8⟩ : S71)] : List (S71)))).bind fun t243 => (culetlaw54_JobWeight.j0 k (!t243) a0_0 l0_1 l0_2 a0_3 a0_4 a1_0 a1_1 a1_2 a1_3 a1_4 a1_5 a1_6 a1_7 a1_8)) else (culetlaw54_JobWeight.j0 k true a0_0 l0_1 l0_2 a0_3 a0_4 a1_0 a1_1 a1_2 a1_3 a1_4 a1_5 a1_6 a1_7 a1_8))) else (culetlaw54_JobWeight.j0 k true a0_0 l0_1 l0_2 a0_3 a0_4 a1_0 a1_1 a1_2 a1_3 a1_4 a1_5 a1_6 a1_7 a1_8))) = some r := h
 clear h
 have HC3 := Aside0.mk H
 clear H
 go_enter Try.func10, Try.ntmps10
 go_upto_region 1 with (first | ((with_reducible refine gate_dst (N := 2) rfl ?_); (try (refine gate_guard (by rfl) ?_; dsimp only)); refine bx_ (N := 2) (cs := #[.int .i64 a0_0, .slice A0_1 l0_1.length c0_1, .slice A0_2 l0_2.length c0_2, .int .i64 a0_3, .int .i64 a0_4]) (t := 67) ?_; intro gb236 hg w4 hbox hb; have BK236 := Aside0.mk (hbox); have GW236 := Aside0.mk ((by rw [hg]; exact (below_size (bb HB.out)) : w.heap.size ≤ gb236)); have GE236 := Aside0.mk ((by rw [hg]; exact (below_size (bb HB.out)) : w.heap.size ≤ gb236)); replace HB := Aside0.mk (below_step (bb HB.out) hb); clear hb hbox hg) | ((with_reducible refine gate_dst (N := 3) rfl ?_); (try (refine gate_guard (by rfl) ?_; dsimp only)); refine bx_ (N := 3) (cs := #[.int .i64 a1_0, .int .i64 a1_1, .string a1_2, .string a1_3, .string a1_4, .int .i64 a1_5, .int .i64 a1_6, .string a1_7, .int .i64 a1_8]) (t := 71) ?_; intro gb237 hg w5 hbox hb; have BK237 := Aside0.mk (hbox); have GW237 := Aside0.mk ((by rw [hg]; exact (below_size t_28) : w.heap.size ≤ gb237)); have GE237 := Aside0.mk ((by rw [hg]; exact (below_size t_28) : w.heap.size ≤ gb237)); replace HB := Aside0.mk (below_step t_28 hb); have NB236_237 := Aside0.mk ((by rw [hg]; exact Nat.ne_of_lt (blk_lt (g := gb236) (bl BK236.out)) : gb236 ≠ gb237)); have NB237_236 := Aside0.mk ((by rw [hg]; exact Nat.ne_of_gt (blk_lt (g := gb236) (bl BK236.out)) : gb237 ≠ gb236)); replace BK236 := Aside0.mk (blk_below (g := gb236) (bl BK236.out) hb); clear hb hbox hg))
 (try simp only [Act.put, List.setIfInBounds_toArray, List.set_cons_zero, List.set_cons_succ])
 go_cut [19] (fun v19 wc => ∃ (kq : Nat) (x19_2 : Bool), v19 = .bool x19_2 ∧ Aside0 (culetlaw54_JobWeight.j0 kq x19_2 a0_0 l0_1 l0_2 a0_3 a0_4 a1_0 a1_1 a1_2 a1_3 a1_4 a1_5 a1_6 a1_7 a1_8 = some r) ∧ Aside0 (kq ≤ k) ∧ Aside0 (wc.heap[gb236]? = some (.cells #[.int .i64 a0_0, (.slice A0_1 l0_1.length c0_1), (.slice A0_2 l0_2.length c0_2), .int .i64 a0_3, .int .i64 a0_4] 67 (0, 0))) ∧ Aside0 (wc.heap[gb237]? = some (.cells #[.int .i64 a1_0, .int .i64 a1_1, .string a1_2, .string a1_3, .string a1_4, .int .i64 a1_5, .int .i64 a1_6, .string a1_7, .int .i64 a1_8] 71 (0, 0))) ∧ Aside0 (Below w.heap.size w wc))
 case first =>
  have H := HC3.out
  clear HC3
  replace H := Option.bind_eq_some_iff.mp H
  obtain ⟨t238, A60, H⟩ := H
  replace H : (if t238 = true then ((culetref54_Few.f k a0_0 l0_1 l0_2 a0_3 a0_4).bind fun t239 => (if t239 = true then ((culetref54_FewEvents.f k (([(⟨a1_0, a1_1, (⟨a1_2, a1_3, a1_4, a1_5, a1_6⟩ : S69), a1_7, a1_8⟩ : S71)] : List (S71)))).bind fun t243 => (culetlaw54_JobWeight.j0 k (!t243) a0_0 l0_1 l0_2 a0_3 a0_4 a1_0 a1_1 a1_2 a1_3 a1_4 a1_5 a1_6 a1_7 a1_8)) else (culetlaw54_JobWeight.j0 k true a0_0 l0_1 l0_2 a0_3 a0_4 a1_0 a1_1 a1_2 a1_3 a1_4 a1_5 a1_6 a1_7 a1_8))) else (culetlaw54_JobWeight.j0 k true a0_0 l0_1 l0_2 a0_3 a0_4 a1_0 a1_1 a1_2 a1_3 a1_4 a1_5 a1_6 a1_7 a1_8)) = some r := H
  have A6 := Aside0.mk A60
  clear A60
  by_cases c7 : t238 = true
  ·subst c7
   have H1 : ((culetref54_Few.f k a0_0 l0_1 l0_2 a0_3 a0_4).bind fun t239 => (if t239 = true then ((culetref54_FewEvents.f k (([(⟨a1_0, a1_1, (⟨a1_2, a1_3, a1_4, a1_5, a1_6⟩ : S69), a1_7, a1_8⟩ : S71)] : List (S71)))).bind fun t243 => (culetlaw54_JobWeight.j0 k (!t243) a0_0 l0_1 l0_2 a0_3 a0_4 a1_0 a1_1 a1_2 a1_3 a1_4 a1_5 a1_6 a1_7 a1_8)) else (culetlaw54_JobWeight.j0 k true a0_0 l0_1 l0_2 a0_3 a0_4 a1_0 a1_1 a1_2 a1_3 a1_4 a1_5 a1_6 a1_7 a1_8))) = some r := by rw [if_pos rfl] at H; exact H
   clear H
   have H := H1
   clear H1
   replace H := Option.bind_eq_some_iff.mp H
   obtain ⟨t239, A80, H⟩ := H
   replace H : (if t239 = true then ((culetref54_FewEvents.f k (([(⟨a1_0, a1_1, (⟨a1_2, a1_3, a1_4, a1_5, a1_6⟩ : S69), a1_7, a1_8⟩ : S71)] : List (S71)))).bind fun t243 => (culetlaw54_JobWeight.j0 k (!t243) a0_0 l0_1 l0_2 a0_3 a0_4 a1_0 a1_1 a1_2 a1_3 a1_4 a1_5 a1_6 a1_7 a1_8)) else (culetlaw54_JobWeight.j0 k true a0_0 l0_1 l0_2 a0_3 a0_4 a1_0 a1_1 a1_2 a1_3 a1_4 a1_5 a1_6 a1_7 a1_8)) = some r := H
   have A8 := Aside0.mk A80
   clear A80
   by_cases c9 : t239 = true
   ·subst c9
    have H1 : ((culetref54_FewEvents.f k (([(⟨a1_0, a1_1, (⟨a1_2, a1_3, a1_4, a1_5, a1_6⟩ : S69), a1_7, a1_8⟩ : S71)] : List (S71)))).bind fun t243 => (culetlaw54_JobWeight.j0 k (!t243) a0_0 l0_1 l0_2 a0_3 a0_4 a1_0 a1_1 a1_2 a1_3 a1_4 a1_5 a1_6 a1_7 a1_8)) = some r := by rw [if_pos rfl] at H; exact H
    clear H
    have H := H1
    clear H1
    obtain ⟨y240, hy240⟩ : ∃ y_ : List (S71), y_ = (([(⟨a1_0, a1_1, (⟨a1_2, a1_3, a1_4, a1_5, a1_6⟩ : S69), a1_7, a1_8⟩ : S71)] : List (S71))) := ⟨_, rfl⟩
    replace H : ((culetref54_FewEvents.f k y240).bind fun t243 => (culetlaw54_JobWeight.j0 k (!t243) a0_0 l0_1 l0_2 a0_3 a0_4 a1_0 a1_1 a1_2 a1_3 a1_4 a1_5 a1_6 a1_7 a1_8)) = some r := by first | (rw [hy240]; with_reducible exact H) | (have H2_ := (Option.bind_some _ _).symm.trans H; rw [hy240]; with_reducible exact H2_) | (have H2_ := (Option.bind_some _ _).symm.trans H; with_reducible exact H2_) | with_reducible exact H | (rw [hy240]; exact H) | exact H
    have Ny240 := Aside0.mk hy240
    clear hy240
    replace H := Option.bind_eq_some_iff.mp H
    obtain ⟨t243, A100, H⟩ := H
    replace H : (culetlaw54_JobWeight.j0 k (!t243) a0_0 l0_1 l0_2 a0_3 a0_4 a1_0 a1_1 a1_2 a1_3 a1_4 a1_5 a1_6 a1_7 a1_8) = some r := H
    have A10 := Aside0.mk A100
    clear A100
    have H' := Aside0.mk H
    clear H
    go_wp2_with (first | ((with_reducible refine gate_callee (f := 34) rfl ?_); refine goesL_ (some 7) rfl rfl Try.func34 t_6f rfl #[] rfl t_2b ?_; (with_reducible refine (culetlaw54_awake.calls k  true _ A6.out).mono ?_); rintro e w11 ⟨rfl, hb⟩; refine ⟨_, rfl, ?_⟩; replace BK236 := Aside0.mk (blk_below (g := gb236) (bl BK236.out) hb); replace BK237 := Aside0.mk (blk_below (g := gb237) (bl BK237.out) hb); replace HB := Aside0.mk (below_step t_1a hb); (try clear hb); (try clear hb2); (try clear hk); (try clear hi); have hnb12 := NB236_237.out; have hnc12 := NB237_236.out; obtain ⟨hcz13_0, hcz13_1, hcz13_2, hcz13_3, hcz13_4⟩ := sqc5 BK236.out; obtain ⟨hfz13_0, hfz13_1, hfz13_2, hfz13_3, hfz13_4⟩ := frozen5 BK236.out) | (go_at_call 35; (with_reducible refine (culetref54_Few.calls k a0_0 _ _ l0_1 _ _ l0_2 a0_3 a0_4 true _ ?side1 ?side2 ?side3 ?side4 A8.out).mono ?_); (case side1 => exact cl ((Kd.C_below HR0_1.out HB.out))); (case side2 => exact HC0_1.out); (case side3 => exact cl ((Kd.C_below HR0_2.out HB.out))); (case side4 => exact HC0_2.out); rintro e w14 ⟨rfl, hb⟩; replace BK236 := Aside0.mk (blk_below (g := gb236) (bl BK236.out) hb); replace BK237 := Aside0.mk (blk_below (g := gb237) (bl BK237.out) hb); replace HB := Aside0.mk (below_step t_1a hb); (try clear hb); (try clear hb2); (try clear hk); (try clear hi); obtain ⟨hcz15_0, hcz15_1, hcz15_2, hcz15_3, hcz15_4, hcz15_5, hcz15_6, hcz15_7, hcz15_8⟩ := sqc9 BK237.out; obtain ⟨hfz15_0, hfz15_1, hfz15_2, hfz15_3, hfz15_4, hfz15_5, hfz15_6, hfz15_7, hfz15_8⟩ := frozen9 BK237.out) | ((with_reducible refine gate_dst (N := 16) rfl ?_); (try (refine gate_guard (by rfl) ?_; dsimp only)); refine Kd.R_lit k71 _ 71 ?hg (N := 16) ?hd (xs := ([(⟨a1_0, a1_1, (⟨a1_2, a1_3, a1_4, a1_5, a1_6⟩ : S69), a1_7, a1_8⟩ : S71)] : List (S71))) (inner := [.int .i64 a1_0, .int .i64 a1_1, .string a1_2, .string a1_3, .string a1_4, .int .i64 a1_5, .int .i64 a1_6, .string a1_7, .int .i64 a1_8]) (ok := fun _ => True) (okp := fun _ => True) ?hr ?hp (fun _ hk => hk) trivial (Below.refl _ _) (Nat.le_refl _) (by simp) ?_; (case hd => rfl); (case hg => rfl); (case hr => go_simp; try rfl); (case hp => exact (Reps.c9 (show Kd.M k71 _ _ _ (⟨a1_0, a1_1, (⟨a1_2, a1_3, a1_4, a1_5, a1_6⟩ : S69), a1_7, a1_8⟩ : S71) [.int .i64 a1_0, .int .i64 a1_1, .string a1_2, .string a1_3, .string a1_4, .int .i64 a1_5, .int .i64 a1_6, .string a1_7, .int .i64 a1_8] from (k71_mkM _ _ _ (⟨a1_0, a1_1, (⟨a1_2, a1_3, a1_4, a1_5, a1_6⟩ : S69), a1_7, a1_8⟩ : S71) )) (Reps.none _ _))); intro v241 w16 ho17 hb hg_ hnew_; clear hg_ hnew_; (first | rw [← Ny240.out] at ho17 | (simp only [Int.reduceToNat] at ho17; rw [← Ny240.out] at ho17)); have HO242 := Aside0.mk (Kd.R_lower (Kd.R_newB ho17 (g := gb237) (bl BK237.out)) (below_size t_1a)); replace BK236 := Aside0.mk (blk_below (g := gb236) (bl BK236.out) hb); replace BK237 := Aside0.mk (blk_below (g := gb237) (bl BK237.out) hb); replace HB := Aside0.mk (below_step t_1a hb); clear hb ho17; obtain ⟨Ao18, co18, eo18⟩ := Kd.R_slice HO242.out; subst eo18) | (go_at_call 36; (with_reducible refine (culetref54_FewEvents.calls k _ _ y240 t243 _ ?side1 ?side2 A10.out).mono ?_); (case side1 => exact cl ((Kd.R_reads' HO242.out).2.2)); (case side2 => exact (Kd.R_reads' HO242.out).2.1); rintro e w' ⟨rfl, ⟨nd, rfl⟩⟩))
    go_meet
    case rel => exact ⟨_, (!t243), t_5e, H', ⟨t_64⟩, ⟨t_43⟩, ⟨t_44⟩, ⟨t_1a⟩⟩
   ·replace c9 := Bool.eq_false_iff.mpr c9
    subst c9
    have H1 : (culetlaw54_JobWeight.j0 k true a0_0 l0_1 l0_2 a0_3 a0_4 a1_0 a1_1 a1_2 a1_3 a1_4 a1_5 a1_6 a1_7 a1_8) = some r := by rw [if_neg (show ¬ (false = true) by decide)] at H; exact H
    clear H
    have H := H1
    clear H1
    have H' := Aside0.mk H
    clear H
    go_wp2_with (first | ((with_reducible refine gate_callee (f := 34) rfl ?_); refine goesL_ (some 7) rfl rfl Try.func34 t_6f rfl #[] rfl t_2b ?_; (with_reducible refine (culetlaw54_awake.calls k  true _ A6.out).mono ?_); rintro e w19 ⟨rfl, hb⟩; refine ⟨_, rfl, ?_⟩; replace BK236 := Aside0.mk (blk_below (g := gb236) (bl BK236.out) hb); replace BK237 := Aside0.mk (blk_below (g := gb237) (bl BK237.out) hb); replace HB := Aside0.mk (below_step t_1a hb); (try clear hb); (try clear hb2); (try clear hk); (try clear hi); have hnb20 := NB236_237.out; have hnc20 := NB237_236.out; obtain ⟨hcz21_0, hcz21_1, hcz21_2, hcz21_3, hcz21_4⟩ := sqc5 BK236.out; obtain ⟨hfz21_0, hfz21_1, hfz21_2, hfz21_3, hfz21_4⟩ := frozen5 BK236.out) | (go_at_call 35; (with_reducible refine (culetref54_Few.calls k a0_0 _ _ l0_1 _ _ l0_2 a0_3 a0_4 false _ ?side1 ?side2 ?side3 ?side4 A8.out).mono ?_); (case side1 => exact cl ((Kd.C_below HR0_1.out HB.out))); (case side2 => exact HC0_1.out); (case side3 => exact cl ((Kd.C_below HR0_2.out HB.out))); (case side4 => exact HC0_2.out); rintro e w22 ⟨rfl, hb⟩; replace BK236 := Aside0.mk (blk_below (g := gb236) (bl BK236.out) hb); replace BK237 := Aside0.mk (blk_below (g := gb237) (bl BK237.out) hb); replace HB := Aside0.mk (below_step t_1a hb); (try clear hb); (try clear hb2); (try clear hk); (try clear hi)))
    go_meet
    case rel => exact ⟨_, (true), t_5e, H', ⟨t_64⟩, ⟨t_43⟩, ⟨t_44⟩, ⟨t_1a⟩⟩
  ·replace c7 := Bool.eq_false_iff.mpr c7
   subst c7
   have H1 : (culetlaw54_JobWeight.j0 k true a0_0 l0_1 l0_2 a0_3 a0_4 a1_0 a1_1 a1_2 a1_3 a1_4 a1_5 a1_6 a1_7 a1_8) = some r := by rw [if_neg (show ¬ (false = true) by decide)] at H; exact H
   clear H
   have H := H1
   clear H1
   have H' := Aside0.mk H
   clear H
   go_wp2_with (first | ((with_reducible refine gate_callee (f := 34) rfl ?_); refine goesL_ (some 7) rfl rfl Try.func34 t_6f rfl #[] rfl t_2b ?_; (with_reducible refine (culetlaw54_awake.calls k  false _ A6.out).mono ?_); rintro e w23 ⟨rfl, hb⟩; refine ⟨_, rfl, ?_⟩; replace BK236 := Aside0.mk (blk_below (g := gb236) (bl BK236.out) hb); replace BK237 := Aside0.mk (blk_below (g := gb237) (bl BK237.out) hb); replace HB := Aside0.mk (below_step t_1a hb); (try clear hb); (try clear hb2); (try clear hk); (try clear hi)))
   go_meet
   case rel => exact ⟨_, (true), t_5e, H', ⟨t_64⟩, ⟨t_43⟩, ⟨t_44⟩, ⟨t_1a⟩⟩
 case rest =>
  clear HC3
  try clear c1
  try clear c2
  try clear p2
  try clear c3
  try clear c7
  try clear c9
  try clear c10
  try clear c12
  try clear c20
  try clear hcz13_0 hcz13_1 hcz13_2 hcz13_3 hcz13_4
  try clear hcz15_0 hcz15_1 hcz15_2 hcz15_3 hcz15_4 hcz15_5 hcz15_6 hcz15_7 hcz15_8
  try clear hcz21_0 hcz21_1 hcz21_2 hcz21_3 hcz21_4
  try clear hfz13_0 hfz13_1 hfz13_2 hfz13_3 hfz13_4
  try clear hfz15_0 hfz15_1 hfz15_2 hfz15_3 hfz15_4 hfz15_5 hfz15_6 hfz15_7 hfz15_8
  try clear hfz21_0 hfz21_1 hfz21_2 hfz21_3 hfz21_4
  obtain ⟨kq, x19_2, rfl, HA, HJ2, BK236, BK237, HB⟩ := hcut
  cases kq with
  | zero => exact absurd HA.out (by simp [culetlaw54_JobWeight.j0])
  | succ kj2 =>
   have H := HA.out
   clear HA
   simp only [culetlaw54_JobWeight.j0] at H
   by_cases c24 : x19_2 = true
   ·subst c24
    have H1 : ((culetlaw54_awake.f kj2).bind fun t244 => (some t244)) = some r := by rw [if_pos rfl] at H; exact H
    clear H
    have H := H1
    clear H1
    replace H := Option.bind_eq_some_iff.mp H
    obtain ⟨t244, A250, H⟩ := H
    replace H : (some t244) = some r := H
    have A25 := Aside0.mk A250
    clear A250
    obtain rfl := Option.some.inj H
    go_wp2_with (first | ((with_reducible refine gate_callee (f := 34) rfl ?_); refine goesL_ (some 20) rfl rfl Try.func34 t_6f rfl #[] rfl t_2b ?_; (with_reducible refine (culetlaw54_awake.calls kj2  t244 _ A25.out).mono ?_); rintro e w26 ⟨rfl, hb⟩; refine ⟨_, rfl, ?_⟩; replace BK236 := Aside0.mk (blk_below (g := gb236) (bl BK236.out) hb); replace BK237 := Aside0.mk (blk_below (g := gb237) (bl BK237.out) hb); replace HB := Aside0.mk (below_step t_1a hb); (try clear hb); (try clear hb2); (try clear hk); (try clear hi)))
    go_ret
    exact ⟨t_47, t_1a⟩
   ·replace c24 := Bool.eq_false_iff.mpr c24
    subst c24
    have H1 : ((culetlaw54_Own.f kj2 a0_0 l0_1 l0_2 a0_3 a0_4).bind fun bt245 => ((culetlaw54_event.f a1_0 a1_1 a1_2 a1_3 a1_4 a1_5 a1_6 a1_7 a1_8).bind fun bt254 => ((job_Do.f bt245.1 bt245.2.1 bt245.2.2.1 bt245.2.2.2.1 bt245.2.2.2.2 bt254.1 bt254.2.1 bt254.2.2.1 bt254.2.2.2.1 bt254.2.2.2.2.1 bt254.2.2.2.2.2.1 bt254.2.2.2.2.2.2.1 bt254.2.2.2.2.2.2.2.1 bt254.2.2.2.2.2.2.2.2).bind fun bt263 => (if bt263.2.2.2.2.2 = 0 then ((culetlaw54_weight.f kj2 bt263.1 bt263.2.1 bt263.2.2.1 bt263.2.2.2.1 bt263.2.2.2.2.1).bind fun t274 => ((culetlaw54_Own.f kj2 a0_0 l0_1 l0_2 a0_3 a0_4).bind fun bt275 => ((culetlaw54_weight.f kj2 bt275.1 bt275.2.1 bt275.2.2.1 bt275.2.2.2.1 bt275.2.2.2.2).bind fun t284 => (some (t274 == t284))))) else (some true))))) = some r := by rw [if_neg (show ¬ (false = true) by decide)] at H; exact H
    clear H
    have H := H1
    clear H1
    replace H := Option.bind_eq_some_iff.mp H
    obtain ⟨⟨t245, t246, t249, t252, t253⟩, A270, H⟩ := H
    replace H : ((culetlaw54_event.f a1_0 a1_1 a1_2 a1_3 a1_4 a1_5 a1_6 a1_7 a1_8).bind fun bt254 => ((job_Do.f t245 t246 t249 t252 t253 bt254.1 bt254.2.1 bt254.2.2.1 bt254.2.2.2.1 bt254.2.2.2.2.1 bt254.2.2.2.2.2.1 bt254.2.2.2.2.2.2.1 bt254.2.2.2.2.2.2.2.1 bt254.2.2.2.2.2.2.2.2).bind fun bt263 => (if bt263.2.2.2.2.2 = 0 then ((culetlaw54_weight.f kj2 bt263.1 bt263.2.1 bt263.2.2.1 bt263.2.2.2.1 bt263.2.2.2.2.1).bind fun t274 => ((culetlaw54_Own.f kj2 a0_0 l0_1 l0_2 a0_3 a0_4).bind fun bt275 => ((culetlaw54_weight.f kj2 bt275.1 bt275.2.1 bt275.2.2.1 bt275.2.2.2.1 bt275.2.2.2.2).bind fun t284 => (some (t274 == t284))))) else (some true)))) = some r := H
    have A27 := Aside0.mk A270
    clear A270
    replace H := Option.bind_eq_some_iff.mp H
    obtain ⟨⟨t254, t255, t256, t257, t258, t259, t260, t261, t262⟩, A280, H⟩ := H
    replace H : ((job_Do.f t245 t246 t249 t252 t253 t254 t255 t256 t257 t258 t259 t260 t261 t262).bind fun bt263 => (if bt263.2.2.2.2.2 = 0 then ((culetlaw54_weight.f kj2 bt263.1 bt263.2.1 bt263.2.2.1 bt263.2.2.2.1 bt263.2.2.2.2.1).bind fun t274 => ((culetlaw54_Own.f kj2 a0_0 l0_1 l0_2 a0_3 a0_4).bind fun bt275 => ((culetlaw54_weight.f kj2 bt275.1 bt275.2.1 bt275.2.2.1 bt275.2.2.2.1 bt275.2.2.2.2).bind fun t284 => (some (t274 == t284))))) else (some true))) = some r := H
    have A28 := Aside0.mk A280
    clear A280
    replace H := Option.bind_eq_some_iff.mp H
    obtain ⟨⟨t263, t264, t267, t270, t271, t272⟩, A290, H⟩ := H
    replace H : (if t272 = 0 then ((culetlaw54_weight.f kj2 t263 t264 t267 t270 t271).bind fun t274 => ((culetlaw54_Own.f kj2 a0_0 l0_1 l0_2 a0_3 a0_4).bind fun bt275 => ((culetlaw54_weight.f kj2 bt275.1 bt275.2.1 bt275.2.2.1 bt275.2.2.2.1 bt275.2.2.2.2).bind fun t284 => (some (t274 == t284))))) else (some true)) = some r := H
    have A29 := Aside0.mk A290
    clear A290
    by_cases c30 : t272 = 0
    ·rw [if_pos c30] at H
     have c30b0 : (t272 == 0) = true := beq_iff_eq.mpr c30
     have c30b1 : (t272 != 0) = false := bne_eq_false_iff_eq.mpr c30
     clear c30
     replace H := Option.bind_eq_some_iff.mp H
     obtain ⟨t274, A310, H⟩ := H
     replace H : ((culetlaw54_Own.f kj2 a0_0 l0_1 l0_2 a0_3 a0_4).bind fun bt275 => ((culetlaw54_weight.f kj2 bt275.1 bt275.2.1 bt275.2.2.1 bt275.2.2.2.1 bt275.2.2.2.2).bind fun t284 => (some (t274 == t284)))) = some r := H
     have A31 := Aside0.mk A310
     clear A310
     replace H := Option.bind_eq_some_iff.mp H
     obtain ⟨⟨t275, t276, t279, t282, t283⟩, A320, H⟩ := H
     replace H : ((culetlaw54_weight.f kj2 t275 t276 t279 t282 t283).bind fun t284 => (some (t274 == t284))) = some r := H
     have A32 := Aside0.mk A320
     clear A320
     replace H := Option.bind_eq_some_iff.mp H
     obtain ⟨t284, A330, H⟩ := H
     replace H : (some (t274 == t284)) = some r := H
     have A33 := Aside0.mk A330
     clear A330
     obtain rfl := Option.some.inj H
     try go_wp2
     replace BK236 := Aside0.mk (blk_drew BK236.out)
     replace BK237 := Aside0.mk (blk_drew BK237.out)
     replace HB := Aside0.mk (below_drew1 HB.out)
     refine start_ (n := 11) (S := fun w' => w'.cell? ⟨gb236, 0, none⟩ = some (.int .i64 a0_0) ∧ w'.cell? ⟨gb236, 1, none⟩ = some (.slice A0_1 l0_1.length c0_1) ∧ w'.cell? ⟨gb236, 2, none⟩ = some (.slice A0_2 l0_2.length c0_2) ∧ w'.cell? ⟨gb236, 3, none⟩ = some (.int .i64 a0_3) ∧ w'.cell? ⟨gb236, 4, none⟩ = some (.int .i64 a0_4) ∧ w'.cell? ⟨gb237, 0, none⟩ = some (.int .i64 a1_0) ∧ w'.cell? ⟨gb237, 1, none⟩ = some (.int .i64 a1_1) ∧ w'.cell? ⟨gb237, 2, none⟩ = some (.string a1_2) ∧ w'.cell? ⟨gb237, 3, none⟩ = some (.string a1_3) ∧ w'.cell? ⟨gb237, 4, none⟩ = some (.string a1_4) ∧ w'.cell? ⟨gb237, 5, none⟩ = some (.int .i64 a1_5) ∧ w'.cell? ⟨gb237, 6, none⟩ = some (.int .i64 a1_6) ∧ w'.cell? ⟨gb237, 7, none⟩ = some (.string a1_7) ∧ w'.cell? ⟨gb237, 8, none⟩ = some (.int .i64 a1_8)) (ds := []) q11_0 t_6f rfl rfl ⟨(blk_cell BK236.out 0).trans rfl, (blk_cell BK236.out 1).trans rfl, (blk_cell BK236.out 2).trans rfl, (blk_cell BK236.out 3).trans rfl, (blk_cell BK236.out 4).trans rfl, sqc9 BK237.out⟩ (fun hHeld => ?_); refine with_tabW culetlaw54_JobWeight.tab3 culetlaw54_JobWeight.bits3 (fun HT_ HW_ => ?_)
     generalize wc.drew = w34 at BK236 BK237 HB hHeld ⊢
     refine k_ (i := 0) (N := some 22) q11_1 rfl rfl (take_ofW HT_.out HW_.out t_6f) (Or.inl ⟨rfl, t_45⟩) hHeld ?_
     refine k_ (i := 2) (N := some 24) q11_5 rfl rfl (take_ofW HT_.out HW_.out t_6f) (Or.inl ⟨rfl, t_45⟩) hHeld ?_
     refine join_ (σ := Value × Value × Value × Value × Nat) 2 q11_1ff (fun s_ => [(23, .agg #[.int .i64 t245, s_.1, s_.2.1, .int .i64 t252, .int .i64 t253]), (25, .agg #[.int .i64 t254, .int .i64 t255, .string t256, .string t257, .string t258, .int .i64 t259, .int .i64 t260, .string t261, .int .i64 t262]), (26, .tuple #[.agg #[.int .i64 t263, s_.2.2.1, s_.2.2.2.1, .int .i64 t270, .int .i64 t271], .int .i64 t272]), (5, .pointer (some ⟨s_.2.2.2.2, 0, none⟩)), (21, .tuple #[.agg #[.int .i64 t263, s_.2.2.1, s_.2.2.2.1, .int .i64 t270, .int .i64 t271], .int .i64 t272]), (27, .agg #[.int .i64 t263, s_.2.2.1, s_.2.2.2.1, .int .i64 t270, .int .i64 t271]), (28, .int .i64 t272)]) (fun s_ w' => (w'.cell? ⟨gb236, 0, none⟩ = some (.int .i64 a0_0) ∧ w'.cell? ⟨gb236, 1, none⟩ = some (.slice A0_1 l0_1.length c0_1) ∧ w'.cell? ⟨gb236, 2, none⟩ = some (.slice A0_2 l0_2.length c0_2) ∧ w'.cell? ⟨gb236, 3, none⟩ = some (.int .i64 a0_3) ∧ w'.cell? ⟨gb236, 4, none⟩ = some (.int .i64 a0_4) ∧ w'.cell? ⟨gb237, 0, none⟩ = some (.int .i64 a1_0) ∧ w'.cell? ⟨gb237, 1, none⟩ = some (.int .i64 a1_1) ∧ w'.cell? ⟨gb237, 2, none⟩ = some (.string a1_2) ∧ w'.cell? ⟨gb237, 3, none⟩ = some (.string a1_3) ∧ w'.cell? ⟨gb237, 4, none⟩ = some (.string a1_4) ∧ w'.cell? ⟨gb237, 5, none⟩ = some (.int .i64 a1_5) ∧ w'.cell? ⟨gb237, 6, none⟩ = some (.int .i64 a1_6) ∧ w'.cell? ⟨gb237, 7, none⟩ = some (.string a1_7) ∧ w'.cell? ⟨gb237, 8, none⟩ = some (.int .i64 a1_8)) ∧ (Kd.R k99 99 w' w.heap.size (fun k_ => some k_ ≠ (s_.2.2.1 : Value).ownBlock) s_.1 t246) ∧ (Kd.V k24 24 w' w.heap.size (fun k_ => some k_ ≠ (s_.1 : Value).ownBlock ∧ some k_ ≠ (s_.2.2.1 : Value).ownBlock ∧ some k_ ≠ (s_.2.2.2.1 : Value).ownBlock ∧ k_ ≠ gb236 ∧ k_ ≠ gb237 ∧ k_ ≠ s_.2.2.2.2) s_.2.1 t249) ∧ (Kd.R k99 99 w' w.heap.size (fun k_ => some k_ ≠ (s_.1 : Value).ownBlock) s_.2.2.1 t264) ∧ (Kd.R k24 24 w' w.heap.size (fun _ => True) s_.2.2.2.1 t267) ∧ (w'.heap[gb236]? = some (.cells #[.int .i64 a0_0, .slice A0_1 l0_1.length c0_1, .slice A0_2 l0_2.length c0_2, .int .i64 a0_3, .int .i64 a0_4] 67 (0, 0))) ∧ (w'.heap[gb237]? = some (.cells #[.int .i64 a1_0, .int .i64 a1_1, .string a1_2, .string a1_3, .string a1_4, .int .i64 a1_5, .int .i64 a1_6, .string a1_7, .int .i64 a1_8] 71 (0, 0))) ∧ (w'.heap[s_.2.2.2.2]? = some (.cells #[.int .i64 0, .slice none 0 0, .slice none 0 0, .int .i64 0, .int .i64 0] 77 (0, 0))) ∧ (w.heap.size ≤ s_.2.2.2.2) ∧ (w.heap.size ≤ s_.2.2.2.2) ∧ (gb236 ≠ s_.2.2.2.2) ∧ (s_.2.2.2.2 ≠ gb236) ∧ (gb237 ≠ s_.2.2.2.2) ∧ (s_.2.2.2.2 ≠ gb237) ∧ (Below w.heap.size w w')) ?_ ?_
     rotate_left
     ·intro hCont
      refine two_ (i := 1) (j := 8) (Ni := some 23) (Nj := some 5) q11_7 q11_105 rfl rfl rfl rfl (two_of HT_.out t_6f) (by decide) (by decide) (fun K hK => ?_) (fun K hK => ?_)
      ·skip
       refine goes_ Try.func38 t_6f rfl #[.agg #[.int .i64 a0_0, .slice A0_1 l0_1.length c0_1, .slice A0_2 l0_2.length c0_2, .int .i64 a0_3, .int .i64 a0_4]] (by rfl) rfl rfl t_2b ?_
       with_reducible refine (culetlaw54_Own.calls kj2 a0_0 _ _ l0_1 (fun k_ => k_ < w.heap.size) _ _ l0_2 a0_3 a0_4 t245 t246 t249 t252 t253 _ ?side1 ?side2 ?side3 A27.out).mono ?_
       (case side1 => exact cl ((Kd.C_below HR0_1.out HB.out)))
       (case side2 => exact HC0_1.out)
       (case side3 => exact Kd.V_mk HC0_2.out (Kd.F_below (Kd.C_F k24_heap HR0_2.out) t_1a))
       rintro e w35 ⟨v247, v250, rfl, ho0, ho1, hb⟩
       refine ⟨_, rfl, ?_⟩
       have HO248 := Aside0.mk (Kd.R_lower (Kd.R_mono (ok' := fun k_ => True) ho0 (fun _ hk_ => trivial)) (below_size t_1a))
       have HO251 := Aside0.mk (Kd.V_lower (Kd.V_mono (ok' := fun k_ => some k_ ≠ (v247 : Value).ownBlock ∧ k_ ≠ gb236 ∧ k_ ≠ gb237) ho1 (fun k_ hk_ => ⟨hk_.2, Or.elim hk_.1 (fun hs_ => fun e_ => Nat.not_le.2 hs_ (by rw [e_]; exact GW236.out)) (fun hn_ => (Kd.freshB (g := gb236) (bl BK236.out) k_ hn_)), Or.elim hk_.1 (fun hs_ => fun e_ => Nat.not_le.2 hs_ (by rw [e_]; exact GW237.out)) (fun hn_ => (Kd.freshB (g := gb237) (bl BK237.out) k_ hn_))⟩)) (below_size t_1a))
       replace BK236 := Aside0.mk (blk_below (g := gb236) (bl BK236.out) hb)
       replace BK237 := Aside0.mk (blk_below (g := gb237) (bl BK237.out) hb)
       replace HB := Aside0.mk (below_step t_1a hb)
       (try clear hb)
       (try clear ho0)
       (try clear ho1)
       refine hK.out _ _ ⟨(blk_cell BK236.out 0).trans rfl, (blk_cell BK236.out 1).trans rfl, (blk_cell BK236.out 2).trans rfl, (blk_cell BK236.out 3).trans rfl, (blk_cell BK236.out 4).trans rfl, sqc9 BK237.out⟩ (fun hHeld => ?_)
       clear hK K
       refine norm_ t_32 ?_
       refine two_ (i := 3) (j := 8) (Ni := some 25) (Nj := some 5) q11_f q11_107 rfl rfl rfl rfl (two_of HT_.out t_6f) (by decide) (by decide) (fun K hK => ?_) (fun K hK => ?_)
       ·skip
        refine goes_ Try.func39 t_6f rfl #[.agg #[.int .i64 a1_0, .int .i64 a1_1, .string a1_2, .string a1_3, .string a1_4, .int .i64 a1_5, .int .i64 a1_6, .string a1_7, .int .i64 a1_8]] (by rfl) rfl rfl t_2b ?_
        with_reducible refine (culetlaw54_event.calls a1_0 a1_1 a1_2 a1_3 a1_4 a1_5 a1_6 a1_7 a1_8 t254 t255 t256 t257 t258 t259 t260 t261 t262 _ A28.out).mono ?_
        rintro e w36 ⟨rfl, hb⟩
        refine ⟨_, rfl, ?_⟩
        replace HO248 := Aside0.mk (Kd.R_below (rl HO248.out) hb)
        replace HO251 := Aside0.mk (Kd.V_below (vl HO251.out) hb)
        replace BK236 := Aside0.mk (blk_below (g := gb236) (bl BK236.out) hb)
        replace BK237 := Aside0.mk (blk_below (g := gb237) (bl BK237.out) hb)
        replace HB := Aside0.mk (below_step t_1a hb)
        (try clear hb)
        obtain ⟨Ao37, co37, eo37⟩ := Kd.R_slice HO248.out
        (first | subst eo37 | (injection eo37 with f1_ f2_ f3_; have f4_ := f1_.symm; have f5_ := f3_.symm; clear f1_ f2_ f3_; subst f4_; subst f5_))
        obtain ⟨Ao38, co38, eo38⟩ := Kd.V_slice HO251.out
        (first | subst eo38 | (injection eo38 with f1_ f2_ f3_; have f4_ := f1_.symm; have f5_ := f3_.symm; clear f1_ f2_ f3_; subst f4_; subst f5_))
        refine hK.out _ _ ⟨(blk_cell BK236.out 0).trans rfl, (blk_cell BK236.out 1).trans rfl, (blk_cell BK236.out 2).trans rfl, (blk_cell BK236.out 3).trans rfl, (blk_cell BK236.out 4).trans rfl, sqc9 BK237.out⟩ (fun hHeld => ?_)
        clear hK K
        refine norm_ t_33 ?_
        refine two_ (i := 4) (j := 8) (Ni := some 26) (Nj := some 5) q11_1f q11_10f rfl rfl rfl rfl (two_of HT_.out t_6f) (by decide) (by decide) (fun K hK => ?_) (fun K hK => ?_)
        ·skip
         refine goes_ Try.func37 t_6f rfl #[.agg #[.int .i64 t245, .slice Ao37 t246.length co37, .slice Ao38 t249.length co38, .int .i64 t252, .int .i64 t253], .agg #[.int .i64 t254, .int .i64 t255, .string t256, .string t257, .string t258, .int .i64 t259, .int .i64 t260, .string t261, .int .i64 t262]] (by rfl) rfl rfl t_2b ?_
         with_reducible refine (job_Do.calls t245 _ _ t246 _ _ t249 t252 t253 t254 t255 t256 t257 t258 t259 t260 t261 t262 t263 t264 t267 t270 t271 t272 _ ?side1 ?side2 ?side3 ?side4 A29.out).mono ?_
         (case side1 => exact cl ((Kd.R_reads' HO248.out).2.2))
         (case side2 => exact (Kd.R_reads' HO248.out).2.1)
         (case side3 => exact cl ((Kd.V_reads' HO251.out).2.2))
         (case side4 => exact (Kd.V_reads' HO251.out).2.1)
         rintro e w39 ⟨v265, v268, rfl, ho0, ho1, hb⟩
         refine ⟨_, rfl, ?_⟩
         replace HO251 := Aside0.mk (Kd.V_mono (Kd.V_told (Kd.V_told (Kd.V_old (vl HO251.out) hb) (Kd.R_base ho0)) (Kd.R_base ho1)) (fun _ h_ => h_.1))
         have HO266 := Aside0.mk (Kd.R_lower (Kd.R_new' ho0 (Kd.R_lt (rl HO248.out))) (below_size t_1a))
         replace HO248 := Aside0.mk (Kd.R_elder' (rl HO248.out) (Kd.R_base ho0) hb)
         have HO269 := Aside0.mk (Kd.R_lower ho1 (below_size t_1a))
         replace BK236 := Aside0.mk (blk_below (g := gb236) (bl BK236.out) hb)
         replace BK237 := Aside0.mk (blk_below (g := gb237) (bl BK237.out) hb)
         replace HB := Aside0.mk (below_step t_1a hb)
         (try clear hb)
         (try clear ho0)
         (try clear ho1)
         refine hK.out _ _ ⟨(blk_cell BK236.out 0).trans rfl, (blk_cell BK236.out 1).trans rfl, (blk_cell BK236.out 2).trans rfl, (blk_cell BK236.out 3).trans rfl, (blk_cell BK236.out 4).trans rfl, sqc9 BK237.out⟩ (fun hHeld => ?_)
         clear hK K
         refine norm_ t_34 ?_
         refine p_ (i := 5) (N := some 21) q11_3f rfl rfl (any_of HT_.out t_6f) ?_
         refine p_ (i := 6) (N := some 27) q11_7f rfl rfl (any_of HT_.out t_6f) ?_
         refine p_ (i := 7) (N := some 28) q11_ff rfl rfl (any_of HT_.out t_6f) ?_
         refine one_ (i := 8) (N := some 5) q11_1ff rfl rfl (one_of HT_.out t_6f) (by decide) (fun K hK => ?_)
         refine box_step ?hg (N := 5) ?hd (cs := #[.int .i64 0, .slice none 0 0, .slice none 0 0, .int .i64 0, .int .i64 0]) (t := 77) ?hr ?_; (case hd => rfl); (case hg => rfl); (case hr => go_simp; try rfl)
         intro gb273 hg w40 hbox hb
         replace HO248 := Aside0.mk (Kd.R_below (rl HO248.out) hb)
         replace HO251 := Aside0.mk (Kd.V_below (Kd.V_elderB (vl HO251.out) gb273 (Nat.le_of_eq hg.symm)) hb)
         replace HO266 := Aside0.mk (Kd.R_below (rl HO266.out) hb)
         replace HO269 := Aside0.mk (Kd.R_below (rl HO269.out) hb)
         have BK273 := Aside0.mk (hbox)
         have GW273 := Aside0.mk ((by rw [hg]; exact (below_size t_1a) : w.heap.size ≤ gb273))
         have GE273 := Aside0.mk ((by rw [hg]; exact (below_size t_1a) : w.heap.size ≤ gb273))
         replace HB := Aside0.mk (below_step t_1a hb)
         have NB236_273 := Aside0.mk ((by rw [hg]; exact Nat.ne_of_lt (blk_lt (g := gb236) (bl BK236.out)) : gb236 ≠ gb273))
         have NB273_236 := Aside0.mk ((by rw [hg]; exact Nat.ne_of_gt (blk_lt (g := gb236) (bl BK236.out)) : gb273 ≠ gb236))
         replace BK236 := Aside0.mk (blk_below (g := gb236) (bl BK236.out) hb)
         have NB237_273 := Aside0.mk ((by rw [hg]; exact Nat.ne_of_lt (blk_lt (g := gb237) (bl BK237.out)) : gb237 ≠ gb273))
         have NB273_237 := Aside0.mk ((by rw [hg]; exact Nat.ne_of_gt (blk_lt (g := gb237) (bl BK237.out)) : gb273 ≠ gb237))
         replace BK237 := Aside0.mk (blk_below (g := gb237) (bl BK237.out) hb)
         clear hb hbox hg
         refine hK.out _ _ ⟨(blk_cell BK236.out 0).trans rfl, (blk_cell BK236.out 1).trans rfl, (blk_cell BK236.out 2).trans rfl, (blk_cell BK236.out 3).trans rfl, (blk_cell BK236.out 4).trans rfl, sqc9 BK237.out⟩ (fun hHeld => ?_)
         clear hK K
         refine norm_ t_35 ?_
         exact norm_ t_46 (hCont (.slice Ao37 t246.length co37, .slice Ao38 t249.length co38, v265, v268, gb273) _ ⟨hHeld, t_38, t_12, t_39, (rl HO269.out), (bl BK236.out), (bl BK237.out), (bl BK273.out), GW273.out, GE273.out, NB236_273.out, NB273_236.out, NB237_273.out, NB273_237.out, t_11⟩)
        ·skip
         refine box_step ?hg (N := 5) ?hd (cs := #[.int .i64 0, .slice none 0 0, .slice none 0 0, .int .i64 0, .int .i64 0]) (t := 77) ?hr ?_; (case hd => rfl); (case hg => rfl); (case hr => go_simp; try rfl)
         intro gb273 hg w37 hbox hb
         replace HO248 := Aside0.mk (Kd.R_below (rl HO248.out) hb)
         replace HO251 := Aside0.mk (Kd.V_below (Kd.V_elderB (vl HO251.out) gb273 (Nat.le_of_eq hg.symm)) hb)
         have BK273 := Aside0.mk (hbox)
         have GW273 := Aside0.mk ((by rw [hg]; exact (below_size t_1a) : w.heap.size ≤ gb273))
         have GE273 := Aside0.mk ((by rw [hg]; exact (below_size t_1a) : w.heap.size ≤ gb273))
         replace HB := Aside0.mk (below_step t_1a hb)
         have NB236_273 := Aside0.mk ((by rw [hg]; exact Nat.ne_of_lt (blk_lt (g := gb236) (bl BK236.out)) : gb236 ≠ gb273))
         have NB273_236 := Aside0.mk ((by rw [hg]; exact Nat.ne_of_gt (blk_lt (g := gb236) (bl BK236.out)) : gb273 ≠ gb236))
         replace BK236 := Aside0.mk (blk_below (g := gb236) (bl BK236.out) hb)
         have NB237_273 := Aside0.mk ((by rw [hg]; exact Nat.ne_of_lt (blk_lt (g := gb237) (bl BK237.out)) : gb237 ≠ gb273))
         have NB273_237 := Aside0.mk ((by rw [hg]; exact Nat.ne_of_gt (blk_lt (g := gb237) (bl BK237.out)) : gb273 ≠ gb237))
         replace BK237 := Aside0.mk (blk_below (g := gb237) (bl BK237.out) hb)
         clear hb hbox hg
         obtain ⟨Ao38, co38, eo38⟩ := Kd.R_slice HO248.out
         (first | subst eo38 | (injection eo38 with f1_ f2_ f3_; have f4_ := f1_.symm; have f5_ := f3_.symm; clear f1_ f2_ f3_; subst f4_; subst f5_))
         obtain ⟨Ao39, co39, eo39⟩ := Kd.V_slice HO251.out
         (first | subst eo39 | (injection eo39 with f1_ f2_ f3_; have f4_ := f1_.symm; have f5_ := f3_.symm; clear f1_ f2_ f3_; subst f4_; subst f5_))
         refine hK.out _ _ ⟨(blk_cell BK236.out 0).trans rfl, (blk_cell BK236.out 1).trans rfl, (blk_cell BK236.out 2).trans rfl, (blk_cell BK236.out 3).trans rfl, (blk_cell BK236.out 4).trans rfl, sqc9 BK237.out⟩ (fun hHeld => ?_)
         clear hK K
         refine norm_ t_35 ?_
         refine one_ (i := 4) (N := some 26) q11_11f rfl rfl (one_of HT_.out t_6f) (by decide) (fun K hK => ?_)
         refine goes_ Try.func37 t_6f rfl #[.agg #[.int .i64 t245, .slice Ao38 t246.length co38, .slice Ao39 t249.length co39, .int .i64 t252, .int .i64 t253], .agg #[.int .i64 t254, .int .i64 t255, .string t256, .string t257, .string t258, .int .i64 t259, .int .i64 t260, .string t261, .int .i64 t262]] (by rfl) rfl rfl t_2b ?_
         with_reducible refine (job_Do.calls t245 _ _ t246 _ _ t249 t252 t253 t254 t255 t256 t257 t258 t259 t260 t261 t262 t263 t264 t267 t270 t271 t272 _ ?side1 ?side2 ?side3 ?side4 A29.out).mono ?_
         (case side1 => exact cl ((Kd.R_reads' HO248.out).2.2))
         (case side2 => exact (Kd.R_reads' HO248.out).2.1)
         (case side3 => exact cl ((Kd.V_reads' HO251.out).2.2))
         (case side4 => exact (Kd.V_reads' HO251.out).2.1)
         rintro e w40 ⟨v265, v268, rfl, ho0, ho1, hb⟩
         refine ⟨_, rfl, ?_⟩
         replace HO251 := Aside0.mk (Kd.V_mono (Kd.V_told (Kd.V_told (Kd.V_old (vl HO251.out) hb) (Kd.R_base ho0)) (Kd.R_base ho1)) (fun _ h_ => h_.1))
         have HO266 := Aside0.mk (Kd.R_lower (Kd.R_new' ho0 (Kd.R_lt (rl HO248.out))) (below_size t_11))
         replace HO248 := Aside0.mk (Kd.R_elder' (rl HO248.out) (Kd.R_base ho0) hb)
         have HO269 := Aside0.mk (Kd.R_lower ho1 (below_size t_11))
         replace BK236 := Aside0.mk (blk_below (g := gb236) (bl BK236.out) hb)
         replace BK237 := Aside0.mk (blk_below (g := gb237) (bl BK237.out) hb)
         replace BK273 := Aside0.mk (blk_below (g := gb273) (bl BK273.out) hb)
         replace HB := Aside0.mk (below_step t_11 hb)
         (try clear hb)
         (try clear hk)
         (try clear ho0)
         (try clear ho1)
         refine hK.out _ _ ⟨(blk_cell BK236.out 0).trans rfl, (blk_cell BK236.out 1).trans rfl, (blk_cell BK236.out 2).trans rfl, (blk_cell BK236.out 3).trans rfl, (blk_cell BK236.out 4).trans rfl, sqc9 BK237.out⟩ (fun hHeld => ?_)
         clear hK K
         refine norm_ t_34 ?_
         refine p_ (i := 5) (N := some 21) q11_13f rfl rfl (any_of HT_.out t_6f) ?_
         refine p_ (i := 6) (N := some 27) q11_17f rfl rfl (any_of HT_.out t_6f) ?_
         refine p_ (i := 7) (N := some 28) q11_1ff rfl rfl (any_of HT_.out t_6f) ?_
         exact norm_ t_46 (hCont (.slice Ao38 t246.length co38, .slice Ao39 t249.length co39, v265, v268, gb273) _ ⟨hHeld, t_38, t_13, t_39, (rl HO269.out), (bl BK236.out), (bl BK237.out), (bl BK273.out), GW273.out, GE273.out, NB236_273.out, NB273_236.out, NB237_273.out, NB273_237.out, t_11⟩)
       ·skip
        refine box_step ?hg (N := 5) ?hd (cs := #[.int .i64 0, .slice none 0 0, .slice none 0 0, .int .i64 0, .int .i64 0]) (t := 77) ?hr ?_; (case hd => rfl); (case hg => rfl); (case hr => go_simp; try rfl)
        intro gb273 hg w36 hbox hb
        replace HO248 := Aside0.mk (Kd.R_below (rl HO248.out) hb)
        replace HO251 := Aside0.mk (Kd.V_below (Kd.V_elderB (vl HO251.out) gb273 (Nat.le_of_eq hg.symm)) hb)
        have BK273 := Aside0.mk (hbox)
        have GW273 := Aside0.mk ((by rw [hg]; exact (below_size t_1a) : w.heap.size ≤ gb273))
        have GE273 := Aside0.mk ((by rw [hg]; exact (below_size t_1a) : w.heap.size ≤ gb273))
        replace HB := Aside0.mk (below_step t_1a hb)
        have NB236_273 := Aside0.mk ((by rw [hg]; exact Nat.ne_of_lt (blk_lt (g := gb236) (bl BK236.out)) : gb236 ≠ gb273))
        have NB273_236 := Aside0.mk ((by rw [hg]; exact Nat.ne_of_gt (blk_lt (g := gb236) (bl BK236.out)) : gb273 ≠ gb236))
        replace BK236 := Aside0.mk (blk_below (g := gb236) (bl BK236.out) hb)
        have NB237_273 := Aside0.mk ((by rw [hg]; exact Nat.ne_of_lt (blk_lt (g := gb237) (bl BK237.out)) : gb237 ≠ gb273))
        have NB273_237 := Aside0.mk ((by rw [hg]; exact Nat.ne_of_gt (blk_lt (g := gb237) (bl BK237.out)) : gb273 ≠ gb237))
        replace BK237 := Aside0.mk (blk_below (g := gb237) (bl BK237.out) hb)
        clear hb hbox hg
        refine hK.out _ _ ⟨(blk_cell BK236.out 0).trans rfl, (blk_cell BK236.out 1).trans rfl, (blk_cell BK236.out 2).trans rfl, (blk_cell BK236.out 3).trans rfl, (blk_cell BK236.out 4).trans rfl, sqc9 BK237.out⟩ (fun hHeld => ?_)
        clear hK K
        refine norm_ t_35 ?_
        refine one_ (i := 3) (N := some 25) q11_10f rfl rfl (one_of HT_.out t_6f) (by decide) (fun K hK => ?_)
        refine goes_ Try.func39 t_6f rfl #[.agg #[.int .i64 a1_0, .int .i64 a1_1, .string a1_2, .string a1_3, .string a1_4, .int .i64 a1_5, .int .i64 a1_6, .string a1_7, .int .i64 a1_8]] (by rfl) rfl rfl t_2b ?_
        with_reducible refine (culetlaw54_event.calls a1_0 a1_1 a1_2 a1_3 a1_4 a1_5 a1_6 a1_7 a1_8 t254 t255 t256 t257 t258 t259 t260 t261 t262 _ A28.out).mono ?_
        rintro e w37 ⟨rfl, hb⟩
        refine ⟨_, rfl, ?_⟩
        replace HO248 := Aside0.mk (Kd.R_below (rl HO248.out) hb)
        replace HO251 := Aside0.mk (Kd.V_below (vl HO251.out) hb)
        replace BK236 := Aside0.mk (blk_below (g := gb236) (bl BK236.out) hb)
        replace BK237 := Aside0.mk (blk_below (g := gb237) (bl BK237.out) hb)
        replace BK273 := Aside0.mk (blk_below (g := gb273) (bl BK273.out) hb)
        replace HB := Aside0.mk (below_step t_11 hb)
        (try clear hb)
        (try clear hk)
        obtain ⟨Ao38, co38, eo38⟩ := Kd.R_slice HO248.out
        (first | subst eo38 | (injection eo38 with f1_ f2_ f3_; have f4_ := f1_.symm; have f5_ := f3_.symm; clear f1_ f2_ f3_; subst f4_; subst f5_))
        obtain ⟨Ao39, co39, eo39⟩ := Kd.V_slice HO251.out
        (first | subst eo39 | (injection eo39 with f1_ f2_ f3_; have f4_ := f1_.symm; have f5_ := f3_.symm; clear f1_ f2_ f3_; subst f4_; subst f5_))
        refine hK.out _ _ ⟨(blk_cell BK236.out 0).trans rfl, (blk_cell BK236.out 1).trans rfl, (blk_cell BK236.out 2).trans rfl, (blk_cell BK236.out 3).trans rfl, (blk_cell BK236.out 4).trans rfl, sqc9 BK237.out⟩ (fun hHeld => ?_)
        clear hK K
        refine norm_ t_33 ?_
        refine one_ (i := 4) (N := some 26) q11_11f rfl rfl (one_of HT_.out t_6f) (by decide) (fun K hK => ?_)
        refine goes_ Try.func37 t_6f rfl #[.agg #[.int .i64 t245, .slice Ao38 t246.length co38, .slice Ao39 t249.length co39, .int .i64 t252, .int .i64 t253], .agg #[.int .i64 t254, .int .i64 t255, .string t256, .string t257, .string t258, .int .i64 t259, .int .i64 t260, .string t261, .int .i64 t262]] (by rfl) rfl rfl t_2b ?_
        with_reducible refine (job_Do.calls t245 _ _ t246 _ _ t249 t252 t253 t254 t255 t256 t257 t258 t259 t260 t261 t262 t263 t264 t267 t270 t271 t272 _ ?side1 ?side2 ?side3 ?side4 A29.out).mono ?_
        (case side1 => exact cl ((Kd.R_reads' HO248.out).2.2))
        (case side2 => exact (Kd.R_reads' HO248.out).2.1)
        (case side3 => exact cl ((Kd.V_reads' HO251.out).2.2))
        (case side4 => exact (Kd.V_reads' HO251.out).2.1)
        rintro e w40 ⟨v265, v268, rfl, ho0, ho1, hb⟩
        refine ⟨_, rfl, ?_⟩
        replace HO251 := Aside0.mk (Kd.V_mono (Kd.V_told (Kd.V_told (Kd.V_old (vl HO251.out) hb) (Kd.R_base ho0)) (Kd.R_base ho1)) (fun _ h_ => h_.1))
        have HO266 := Aside0.mk (Kd.R_lower (Kd.R_new' ho0 (Kd.R_lt (rl HO248.out))) (below_size t_11))
        replace HO248 := Aside0.mk (Kd.R_elder' (rl HO248.out) (Kd.R_base ho0) hb)
        have HO269 := Aside0.mk (Kd.R_lower ho1 (below_size t_11))
        replace BK236 := Aside0.mk (blk_below (g := gb236) (bl BK236.out) hb)
        replace BK237 := Aside0.mk (blk_below (g := gb237) (bl BK237.out) hb)
        replace BK273 := Aside0.mk (blk_below (g := gb273) (bl BK273.out) hb)
        replace HB := Aside0.mk (below_step t_11 hb)
        (try clear hb)
        (try clear ho0)
        (try clear ho1)
        refine hK.out _ _ ⟨(blk_cell BK236.out 0).trans rfl, (blk_cell BK236.out 1).trans rfl, (blk_cell BK236.out 2).trans rfl, (blk_cell BK236.out 3).trans rfl, (blk_cell BK236.out 4).trans rfl, sqc9 BK237.out⟩ (fun hHeld => ?_)
        clear hK K
        refine norm_ t_34 ?_
        refine p_ (i := 5) (N := some 21) q11_13f rfl rfl (any_of HT_.out t_6f) ?_
        refine p_ (i := 6) (N := some 27) q11_17f rfl rfl (any_of HT_.out t_6f) ?_
        refine p_ (i := 7) (N := some 28) q11_1ff rfl rfl (any_of HT_.out t_6f) ?_
        exact norm_ t_46 (hCont (.slice Ao38 t246.length co38, .slice Ao39 t249.length co39, v265, v268, gb273) _ ⟨hHeld, t_38, t_13, t_39, (rl HO269.out), (bl BK236.out), (bl BK237.out), (bl BK273.out), GW273.out, GE273.out, NB236_273.out, NB273_236.out, NB237_273.out, NB273_237.out, t_11⟩)
      ·skip
       refine box_step ?hg (N := 5) ?hd (cs := #[.int .i64 0, .slice none 0 0, .slice none 0 0, .int .i64 0, .int .i64 0]) (t := 77) ?hr ?_; (case hd => rfl); (case hg => rfl); (case hr => go_simp; try rfl)
       intro gb273 hg w35 hbox hb
       have BK273 := Aside0.mk (hbox)
       have GW273 := Aside0.mk ((by rw [hg]; exact (below_size t_1a) : w.heap.size ≤ gb273))
       have GE273 := Aside0.mk ((by rw [hg]; exact (below_size t_1a) : w.heap.size ≤ gb273))
       replace HB := Aside0.mk (below_step t_1a hb)
       have NB236_273 := Aside0.mk ((by rw [hg]; exact Nat.ne_of_lt (blk_lt (g := gb236) (bl BK236.out)) : gb236 ≠ gb273))
       have NB273_236 := Aside0.mk ((by rw [hg]; exact Nat.ne_of_gt (blk_lt (g := gb236) (bl BK236.out)) : gb273 ≠ gb236))
       replace BK236 := Aside0.mk (blk_below (g := gb236) (bl BK236.out) hb)
       have NB237_273 := Aside0.mk ((by rw [hg]; exact Nat.ne_of_lt (blk_lt (g := gb237) (bl BK237.out)) : gb237 ≠ gb273))
       have NB273_237 := Aside0.mk ((by rw [hg]; exact Nat.ne_of_gt (blk_lt (g := gb237) (bl BK237.out)) : gb273 ≠ gb237))
       replace BK237 := Aside0.mk (blk_below (g := gb237) (bl BK237.out) hb)
       clear hb hbox hg
       refine hK.out _ _ ⟨(blk_cell BK236.out 0).trans rfl, (blk_cell BK236.out 1).trans rfl, (blk_cell BK236.out 2).trans rfl, (blk_cell BK236.out 3).trans rfl, (blk_cell BK236.out 4).trans rfl, sqc9 BK237.out⟩ (fun hHeld => ?_)
       clear hK K
       refine norm_ t_35 ?_
       refine one_ (i := 1) (N := some 23) q11_107 rfl rfl (one_of HT_.out t_6f) (by decide) (fun K hK => ?_)
       refine goes_ Try.func38 t_6f rfl #[.agg #[.int .i64 a0_0, .slice A0_1 l0_1.length c0_1, .slice A0_2 l0_2.length c0_2, .int .i64 a0_3, .int .i64 a0_4]] (by rfl) rfl rfl t_2b ?_
       with_reducible refine (culetlaw54_Own.calls kj2 a0_0 _ _ l0_1 (fun k_ => k_ < w.heap.size) _ _ l0_2 a0_3 a0_4 t245 t246 t249 t252 t253 _ ?side1 ?side2 ?side3 A27.out).mono ?_
       (case side1 => exact cl ((Kd.C_below HR0_1.out HB.out)))
       (case side2 => exact HC0_1.out)
       (case side3 => exact Kd.V_mk HC0_2.out (Kd.F_below (Kd.C_F k24_heap HR0_2.out) t_11))
       rintro e w36 ⟨v247, v250, rfl, ho0, ho1, hb⟩
       refine ⟨_, rfl, ?_⟩
       have HO248 := Aside0.mk (Kd.R_lower (Kd.R_mono (ok' := fun k_ => True) ho0 (fun _ hk_ => trivial)) (below_size t_11))
       have HO251 := Aside0.mk (Kd.V_lower (Kd.V_mono (ok' := fun k_ => some k_ ≠ (v247 : Value).ownBlock ∧ k_ ≠ gb236 ∧ k_ ≠ gb237 ∧ k_ ≠ gb273) ho1 (fun k_ hk_ => ⟨hk_.2, Or.elim hk_.1 (fun hs_ => fun e_ => Nat.not_le.2 hs_ (by rw [e_]; exact GW236.out)) (fun hn_ => (Kd.freshB (g := gb236) (bl BK236.out) k_ hn_)), Or.elim hk_.1 (fun hs_ => fun e_ => Nat.not_le.2 hs_ (by rw [e_]; exact GW237.out)) (fun hn_ => (Kd.freshB (g := gb237) (bl BK237.out) k_ hn_)), Or.elim hk_.1 (fun hs_ => fun e_ => Nat.not_le.2 hs_ (by rw [e_]; exact GW273.out)) (fun hn_ => (Kd.freshB (g := gb273) (bl BK273.out) k_ hn_))⟩)) (below_size t_11))
       replace BK236 := Aside0.mk (blk_below (g := gb236) (bl BK236.out) hb)
       replace BK237 := Aside0.mk (blk_below (g := gb237) (bl BK237.out) hb)
       replace BK273 := Aside0.mk (blk_below (g := gb273) (bl BK273.out) hb)
       replace HB := Aside0.mk (below_step t_11 hb)
       (try clear hb)
       (try clear hk)
       (try clear ho0)
       (try clear ho1)
       refine hK.out _ _ ⟨(blk_cell BK236.out 0).trans rfl, (blk_cell BK236.out 1).trans rfl, (blk_cell BK236.out 2).trans rfl, (blk_cell BK236.out 3).trans rfl, (blk_cell BK236.out 4).trans rfl, sqc9 BK237.out⟩ (fun hHeld => ?_)
       clear hK K
       refine norm_ t_32 ?_
       refine one_ (i := 3) (N := some 25) q11_10f rfl rfl (one_of HT_.out t_6f) (by decide) (fun K hK => ?_)
       refine goes_ Try.func39 t_6f rfl #[.agg #[.int .i64 a1_0, .int .i64 a1_1, .string a1_2, .string a1_3, .string a1_4, .int .i64 a1_5, .int .i64 a1_6, .string a1_7, .int .i64 a1_8]] (by rfl) rfl rfl t_2b ?_
       with_reducible refine (culetlaw54_event.calls a1_0 a1_1 a1_2 a1_3 a1_4 a1_5 a1_6 a1_7 a1_8 t254 t255 t256 t257 t258 t259 t260 t261 t262 _ A28.out).mono ?_
       rintro e w37 ⟨rfl, hb⟩
       refine ⟨_, rfl, ?_⟩
       replace HO248 := Aside0.mk (Kd.R_below (rl HO248.out) hb)
       replace HO251 := Aside0.mk (Kd.V_below (vl HO251.out) hb)
       replace BK236 := Aside0.mk (blk_below (g := gb236) (bl BK236.out) hb)
       replace BK237 := Aside0.mk (blk_below (g := gb237) (bl BK237.out) hb)
       replace BK273 := Aside0.mk (blk_below (g := gb273) (bl BK273.out) hb)
       replace HB := Aside0.mk (below_step t_11 hb)
       (try clear hb)
       (try clear hk)
       obtain ⟨Ao38, co38, eo38⟩ := Kd.R_slice HO248.out
       (first | subst eo38 | (injection eo38 with f1_ f2_ f3_; have f4_ := f1_.symm; have f5_ := f3_.symm; clear f1_ f2_ f3_; subst f4_; subst f5_))
       obtain ⟨Ao39, co39, eo39⟩ := Kd.V_slice HO251.out
       (first | subst eo39 | (injection eo39 with f1_ f2_ f3_; have f4_ := f1_.symm; have f5_ := f3_.symm; clear f1_ f2_ f3_; subst f4_; subst f5_))
       refine hK.out _ _ ⟨(blk_cell BK236.out 0).trans rfl, (blk_cell BK236.out 1).trans rfl, (blk_cell BK236.out 2).trans rfl, (blk_cell BK236.out 3).trans rfl, (blk_cell BK236.out 4).trans rfl, sqc9 BK237.out⟩ (fun hHeld => ?_)
       clear hK K
       refine norm_ t_33 ?_
       refine one_ (i := 4) (N := some 26) q11_11f rfl rfl (one_of HT_.out t_6f) (by decide) (fun K hK => ?_)
       refine goes_ Try.func37 t_6f rfl #[.agg #[.int .i64 t245, .slice Ao38 t246.length co38, .slice Ao39 t249.length co39, .int .i64 t252, .int .i64 t253], .agg #[.int .i64 t254, .int .i64 t255, .string t256, .string t257, .string t258, .int .i64 t259, .int .i64 t260, .string t261, .int .i64 t262]] (by rfl) rfl rfl t_2b ?_
       with_reducible refine (job_Do.calls t245 _ _ t246 _ _ t249 t252 t253 t254 t255 t256 t257 t258 t259 t260 t261 t262 t263 t264 t267 t270 t271 t272 _ ?side1 ?side2 ?side3 ?side4 A29.out).mono ?_
       (case side1 => exact cl ((Kd.R_reads' HO248.out).2.2))
       (case side2 => exact (Kd.R_reads' HO248.out).2.1)
       (case side3 => exact cl ((Kd.V_reads' HO251.out).2.2))
       (case side4 => exact (Kd.V_reads' HO251.out).2.1)
       rintro e w40 ⟨v265, v268, rfl, ho0, ho1, hb⟩
       refine ⟨_, rfl, ?_⟩
       replace HO251 := Aside0.mk (Kd.V_mono (Kd.V_told (Kd.V_told (Kd.V_old (vl HO251.out) hb) (Kd.R_base ho0)) (Kd.R_base ho1)) (fun _ h_ => h_.1))
       have HO266 := Aside0.mk (Kd.R_lower (Kd.R_new' ho0 (Kd.R_lt (rl HO248.out))) (below_size t_11))
       replace HO248 := Aside0.mk (Kd.R_elder' (rl HO248.out) (Kd.R_base ho0) hb)
       have HO269 := Aside0.mk (Kd.R_lower ho1 (below_size t_11))
       replace BK236 := Aside0.mk (blk_below (g := gb236) (bl BK236.out) hb)
       replace BK237 := Aside0.mk (blk_below (g := gb237) (bl BK237.out) hb)
       replace BK273 := Aside0.mk (blk_below (g := gb273) (bl BK273.out) hb)
       replace HB := Aside0.mk (below_step t_11 hb)
       (try clear hb)
       (try clear ho0)
       (try clear ho1)
       refine hK.out _ _ ⟨(blk_cell BK236.out 0).trans rfl, (blk_cell BK236.out 1).trans rfl, (blk_cell BK236.out 2).trans rfl, (blk_cell BK236.out 3).trans rfl, (blk_cell BK236.out 4).trans rfl, sqc9 BK237.out⟩ (fun hHeld => ?_)
       clear hK K
       refine norm_ t_34 ?_
       refine p_ (i := 5) (N := some 21) q11_13f rfl rfl (any_of HT_.out t_6f) ?_
       refine p_ (i := 6) (N := some 27) q11_17f rfl rfl (any_of HT_.out t_6f) ?_
       refine p_ (i := 7) (N := some 28) q11_1ff rfl rfl (any_of HT_.out t_6f) ?_
       exact norm_ t_46 (hCont (.slice Ao38 t246.length co38, .slice Ao39 t249.length co39, v265, v268, gb273) _ ⟨hHeld, t_38, t_14, t_39, (rl HO269.out), (bl BK236.out), (bl BK237.out), (bl BK273.out), GW273.out, GE273.out, NB236_273.out, NB273_236.out, NB237_273.out, NB273_237.out, t_11⟩)
     rintro ⟨v247, v250, v265, v268, gb273⟩ w41 ⟨hS_, h0_, h1_, h2_, h3_, h4_, h5_, h6_, h7_, h8_, h9_, h10_, h11_, h12_, h13_⟩
     have n0_ : Aside0 (Kd.R k99 99 w41 w.heap.size (fun k_ => some k_ ≠ (v265 : Value).ownBlock) v247 t246) := ⟨h0_⟩
     have n1_ : Aside0 (Kd.V k24 24 w41 w.heap.size (fun k_ => some k_ ≠ (v247 : Value).ownBlock ∧ some k_ ≠ (v265 : Value).ownBlock ∧ some k_ ≠ (v268 : Value).ownBlock ∧ k_ ≠ gb236 ∧ k_ ≠ gb237 ∧ k_ ≠ gb273) v250 t249) := ⟨h1_⟩
     have n2_ : Aside0 (Kd.R k99 99 w41 w.heap.size (fun k_ => some k_ ≠ (v247 : Value).ownBlock) v265 t264) := ⟨h2_⟩
     have n3_ : Aside0 (Kd.R k24 24 w41 w.heap.size (fun _ => True) v268 t267) := ⟨h3_⟩
     have n4_ : Aside0 (w41.heap[gb236]? = some (.cells #[.int .i64 a0_0, .slice A0_1 l0_1.length c0_1, .slice A0_2 l0_2.length c0_2, .int .i64 a0_3, .int .i64 a0_4] 67 (0, 0))) := ⟨h4_⟩
     have n5_ : Aside0 (w41.heap[gb237]? = some (.cells #[.int .i64 a1_0, .int .i64 a1_1, .string a1_2, .string a1_3, .string a1_4, .int .i64 a1_5, .int .i64 a1_6, .string a1_7, .int .i64 a1_8] 71 (0, 0))) := ⟨h5_⟩
     have n6_ : Aside0 (w41.heap[gb273]? = some (.cells #[.int .i64 0, .slice none 0 0, .slice none 0 0, .int .i64 0, .int .i64 0] 77 (0, 0))) := ⟨h6_⟩
     have n7_ : Aside0 (w.heap.size ≤ gb273) := ⟨h7_⟩
     have n8_ : Aside0 (w.heap.size ≤ gb273) := ⟨h8_⟩
     have n9_ : Aside0 (gb236 ≠ gb273) := ⟨h9_⟩
     have n10_ : Aside0 (gb273 ≠ gb236) := ⟨h10_⟩
     have n11_ : Aside0 (gb237 ≠ gb273) := ⟨h11_⟩
     have n12_ : Aside0 (gb273 ≠ gb237) := ⟨h12_⟩
     have n13_ : Aside0 (Below w.heap.size w w41) := ⟨h13_⟩
     clear BK236
     clear BK237
     clear HB
     clear h0_ h1_ h2_ h3_ h4_ h5_ h6_ h7_ h8_ h9_ h10_ h11_ h12_ h13_
     have HO248 := n0_
     have HO251 := n1_
     have HO266 := n2_
     have HO269 := n3_
     have BK236 := n4_
     have BK237 := n5_
     have BK273 := n6_
     have GW273 := n7_
     have GE273 := n8_
     have NB236_273 := n9_
     have NB273_236 := n10_
     have NB237_273 := n11_
     have NB273_237 := n12_
     have HB := n13_
     clear n0_ n1_ n2_ n3_ n4_ n5_ n6_ n7_ n8_ n9_ n10_ n11_ n12_ n13_
     have hHeld : w41.cell? ⟨gb236, 0, none⟩ = some (.int .i64 a0_0) ∧ w41.cell? ⟨gb236, 1, none⟩ = some (.slice A0_1 l0_1.length c0_1) ∧ w41.cell? ⟨gb236, 2, none⟩ = some (.slice A0_2 l0_2.length c0_2) ∧ w41.cell? ⟨gb236, 3, none⟩ = some (.int .i64 a0_3) ∧ w41.cell? ⟨gb236, 4, none⟩ = some (.int .i64 a0_4) ∧ w41.cell? ⟨gb237, 0, none⟩ = some (.int .i64 a1_0) ∧ w41.cell? ⟨gb237, 1, none⟩ = some (.int .i64 a1_1) ∧ w41.cell? ⟨gb237, 2, none⟩ = some (.string a1_2) ∧ w41.cell? ⟨gb237, 3, none⟩ = some (.string a1_3) ∧ w41.cell? ⟨gb237, 4, none⟩ = some (.string a1_4) ∧ w41.cell? ⟨gb237, 5, none⟩ = some (.int .i64 a1_5) ∧ w41.cell? ⟨gb237, 6, none⟩ = some (.int .i64 a1_6) ∧ w41.cell? ⟨gb237, 7, none⟩ = some (.string a1_7) ∧ w41.cell? ⟨gb237, 8, none⟩ = some (.int .i64 a1_8) := hS_
     obtain ⟨Ao43, co43, eo43⟩ := Kd.R_slice HO266.out
     (first | subst eo43 | (injection eo43 with f1_ f2_ f3_; have f4_ := f1_.symm; have f5_ := f3_.symm; clear f1_ f2_ f3_; subst f4_; subst f5_))
     obtain ⟨Ao45, co45, eo45⟩ := Kd.R_slice HO269.out
     (first | subst eo45 | (injection eo45 with f1_ f2_ f3_; have f4_ := f1_.symm; have f5_ := f3_.symm; clear f1_ f2_ f3_; subst f4_; subst f5_))
     refine norm_ (a' := ?_) ?_ ?_
     rotate_left
     ·simp only [putAll, Act.put, List.setIfInBounds_toArray, List.set_cons_zero, List.set_cons_succ]
      rfl
     refine one_ (i := 9) (N := none) q11_3ff rfl rfl (one_of HT_.out t_6f) (by decide) (fun K hK => ?_)
     have hs42 : w41.cell? ⟨gb273, 0, none⟩ = some (.int .i64 0) := (blk_cell BK273.out 0).trans rfl
     have hfs42 := blk_frozen BK273.out 0
     have hns42_0 := NB236_273.out
     have hns42_1 := NB237_273.out
     have hms42_0 := NB273_236.out
     have hms42_1 := NB273_237.out
     have hs44 : w41.cell? ⟨gb273, 1, none⟩ = some (.slice none 0 0) := (blk_cell BK273.out 1).trans rfl
     have hfs44 := blk_frozen BK273.out 1
     have hns44_0 := NB236_273.out
     have hns44_1 := NB237_273.out
     have hms44_0 := NB273_236.out
     have hms44_1 := NB273_237.out
     have hs46 : w41.cell? ⟨gb273, 2, none⟩ = some (.slice none 0 0) := (blk_cell BK273.out 2).trans rfl
     have hfs46 := blk_frozen BK273.out 2
     have hns46_0 := NB236_273.out
     have hns46_1 := NB237_273.out
     have hms46_0 := NB273_236.out
     have hms46_1 := NB273_237.out
     have hs47 : w41.cell? ⟨gb273, 3, none⟩ = some (.int .i64 0) := (blk_cell BK273.out 3).trans rfl
     have hfs47 := blk_frozen BK273.out 3
     have hns47_0 := NB236_273.out
     have hns47_1 := NB237_273.out
     have hms47_0 := NB273_236.out
     have hms47_1 := NB273_237.out
     have hs48 : w41.cell? ⟨gb273, 4, none⟩ = some (.int .i64 0) := (blk_cell BK273.out 4).trans rfl
     have hfs48 := blk_frozen BK273.out 4
     have hns48_0 := NB236_273.out
     have hns48_1 := NB237_273.out
     have hms48_0 := NB273_236.out
     have hms48_1 := NB273_237.out
     refine skip_ (w1 := ?_) (by rfl) rfl ?_ ?_
     rotate_left
     ·go_simp
      rfl
     refine hK.out _ _ ⟨((cell_far (p := ⟨gb273, _, none⟩) NB236_273.out _).trans (((cell_far (p := ⟨gb273, _, none⟩) NB236_273.out _).trans (((cell_far (p := ⟨gb273, _, none⟩) NB236_273.out _).trans (((cell_far (p := ⟨gb273, _, none⟩) NB236_273.out _).trans (((cell_far (p := ⟨gb273, _, none⟩) NB236_273.out _).trans (hHeld.1)))))))))), ((cell_far (p := ⟨gb273, _, none⟩) NB236_273.out _).trans (((cell_far (p := ⟨gb273, _, none⟩) NB236_273.out _).trans (((cell_far (p := ⟨gb273, _, none⟩) NB236_273.out _).trans (((cell_far (p := ⟨gb273, _, none⟩) NB236_273.out _).trans (((cell_far (p := ⟨gb273, _, none⟩) NB236_273.out _).trans (hHeld.2.1)))))))))), ((cell_far (p := ⟨gb273, _, none⟩) NB236_273.out _).trans (((cell_far (p := ⟨gb273, _, none⟩) NB236_273.out _).trans (((cell_far (p := ⟨gb273, _, none⟩) NB236_273.out _).trans (((cell_far (p := ⟨gb273, _, none⟩) NB236_273.out _).trans (((cell_far (p := ⟨gb273, _, none⟩) NB236_273.out _).trans (hHeld.2.2.1)))))))))), ((cell_far (p := ⟨gb273, _, none⟩) NB236_273.out _).trans (((cell_far (p := ⟨gb273, _, none⟩) NB236_273.out _).trans (((cell_far (p := ⟨gb273, _, none⟩) NB236_273.out _).trans (((cell_far (p := ⟨gb273, _, none⟩) NB236_273.out _).trans (((cell_far (p := ⟨gb273, _, none⟩) NB236_273.out _).trans (hHeld.2.2.2.1)))))))))), ((cell_far (p := ⟨gb273, _, none⟩) NB236_273.out _).trans (((cell_far (p := ⟨gb273, _, none⟩) NB236_273.out _).trans (((cell_far (p := ⟨gb273, _, none⟩) NB236_273.out _).trans (((cell_far (p := ⟨gb273, _, none⟩) NB236_273.out _).trans (((cell_far (p := ⟨gb273, _, none⟩) NB236_273.out _).trans (hHeld.2.2.2.2.1)))))))))), ((cell_far (p := ⟨gb273, _, none⟩) NB237_273.out _).trans (((cell_far (p := ⟨gb273, _, none⟩) NB237_273.out _).trans (((cell_far (p := ⟨gb273, _, none⟩) NB237_273.out _).trans (((cell_far (p := ⟨gb273, _, none⟩) NB237_273.out _).trans (((cell_far (p := ⟨gb273, _, none⟩) NB237_273.out _).trans (hHeld.2.2.2.2.2.1)))))))))), ((cell_far (p := ⟨gb273, _, none⟩) NB237_273.out _).trans (((cell_far (p := ⟨gb273, _, none⟩) NB237_273.out _).trans (((cell_far (p := ⟨gb273, _, none⟩) NB237_273.out _).trans (((cell_far (p := ⟨gb273, _, none⟩) NB237_273.out _).trans (((cell_far (p := ⟨gb273, _, none⟩) NB237_273.out _).trans (hHeld.2.2.2.2.2.2.1)))))))))), ((cell_far (p := ⟨gb273, _, none⟩) NB237_273.out _).trans (((cell_far (p := ⟨gb273, _, none⟩) NB237_273.out _).trans (((cell_far (p := ⟨gb273, _, none⟩) NB237_273.out _).trans (((cell_far (p := ⟨gb273, _, none⟩) NB237_273.out _).trans (((cell_far (p := ⟨gb273, _, none⟩) NB237_273.out _).trans (hHeld.2.2.2.2.2.2.2.1)))))))))), ((cell_far (p := ⟨gb273, _, none⟩) NB237_273.out _).trans (((cell_far (p := ⟨gb273, _, none⟩) NB237_273.out _).trans (((cell_far (p := ⟨gb273, _, none⟩) NB237_273.out _).trans (((cell_far (p := ⟨gb273, _, none⟩) NB237_273.out _).trans (((cell_far (p := ⟨gb273, _, none⟩) NB237_273.out _).trans (hHeld.2.2.2.2.2.2.2.2.1)))))))))), ((cell_far (p := ⟨gb273, _, none⟩) NB237_273.out _).trans (((cell_far (p := ⟨gb273, _, none⟩) NB237_273.out _).trans (((cell_far (p := ⟨gb273, _, none⟩) NB237_273.out _).trans (((cell_far (p := ⟨gb273, _, none⟩) NB237_273.out _).trans (((cell_far (p := ⟨gb273, _, none⟩) NB237_273.out _).trans (hHeld.2.2.2.2.2.2.2.2.2.1)))))))))), ((cell_far (p := ⟨gb273, _, none⟩) NB237_273.out _).trans (((cell_far (p := ⟨gb273, _, none⟩) NB237_273.out _).trans (((cell_far (p := ⟨gb273, _, none⟩) NB237_273.out _).trans (((cell_far (p := ⟨gb273, _, none⟩) NB237_273.out _).trans (((cell_far (p := ⟨gb273, _, none⟩) NB237_273.out _).trans (hHeld.2.2.2.2.2.2.2.2.2.2.1)))))))))), ((cell_far (p := ⟨gb273, _, none⟩) NB237_273.out _).trans (((cell_far (p := ⟨gb273, _, none⟩) NB237_273.out _).trans (((cell_far (p := ⟨gb273, _, none⟩) NB237_273.out _).trans (((cell_far (p := ⟨gb273, _, none⟩) NB237_273.out _).trans (((cell_far (p := ⟨gb273, _, none⟩) NB237_273.out _).trans (hHeld.2.2.2.2.2.2.2.2.2.2.2.1)))))))))), ((cell_far (p := ⟨gb273, _, none⟩) NB237_273.out _).trans (((cell_far (p := ⟨gb273, _, none⟩) NB237_273.out _).trans (((cell_far (p := ⟨gb273, _, none⟩) NB237_273.out _).trans (((cell_far (p := ⟨gb273, _, none⟩) NB237_273.out _).trans (((cell_far (p := ⟨gb273, _, none⟩) NB237_273.out _).trans (hHeld.2.2.2.2.2.2.2.2.2.2.2.2.1)))))))))), ((cell_far (p := ⟨gb273, _, none⟩) NB237_273.out _).trans (((cell_far (p := ⟨gb273, _, none⟩) NB237_273.out _).trans (((cell_far (p := ⟨gb273, _, none⟩) NB237_273.out _).trans (((cell_far (p := ⟨gb273, _, none⟩) NB237_273.out _).trans (((cell_far (p := ⟨gb273, _, none⟩) NB237_273.out _).trans (hHeld.2.2.2.2.2.2.2.2.2.2.2.2.2))))))))))⟩ (fun hHeld => ?_)
     clear hK K
     refine p_ (i := 10) (N := some 6) q11_7ff rfl rfl (any_of HT_.out t_6f) ?_
     refine done_ (done_of HT_.out t_6f) ?_
     try go_wp2
     have n0_ : Aside0 (Kd.R k99 99 (((((w41.setCell ⟨gb273, 0, none⟩ (.int .i64 t263)).setCell ⟨gb273, 1, none⟩ (.slice Ao43 t264.length co43)).setCell ⟨gb273, 2, none⟩ (.slice Ao45 t267.length co45)).setCell ⟨gb273, 3, none⟩ (.int .i64 t270)).setCell ⟨gb273, 4, none⟩ (.int .i64 t271)) w.heap.size (fun k_ => some k_ ≠ (.slice Ao43 t264.length co43 : Value).ownBlock) v247 t246) := ⟨by (with_reducible repeat (first | apply Kd.R_alloc | apply Kd.R_drewN | apply Kd.R_drew)); exact Kd.R_mono (Kd.R_far (p := ⟨gb273, 4, none⟩) (Kd.R_far (p := ⟨gb273, 3, none⟩) (Kd.R_far (p := ⟨gb273, 2, none⟩) (Kd.R_far (p := ⟨gb273, 1, none⟩) (Kd.R_far (p := ⟨gb273, 0, none⟩) (Kd.R_types HO248.out BK273.out (by decide)) (fun _ hk => hk.2) (.int .i64 t263)) (fun _ hk => hk.2) (.slice Ao43 t264.length co43)) (fun _ hk => hk.2) (.slice Ao45 t267.length co45)) (fun _ hk => hk.2) (.int .i64 t270)) (fun _ hk => hk.2) (.int .i64 t271)) (fun _ hk => hk.1)⟩
     have n1_ : Aside0 (Kd.V k24 24 (((((w41.setCell ⟨gb273, 0, none⟩ (.int .i64 t263)).setCell ⟨gb273, 1, none⟩ (.slice Ao43 t264.length co43)).setCell ⟨gb273, 2, none⟩ (.slice Ao45 t267.length co45)).setCell ⟨gb273, 3, none⟩ (.int .i64 t270)).setCell ⟨gb273, 4, none⟩ (.int .i64 t271)) w.heap.size (fun k_ => some k_ ≠ (v247 : Value).ownBlock ∧ some k_ ≠ (.slice Ao43 t264.length co43 : Value).ownBlock ∧ some k_ ≠ (.slice Ao45 t267.length co45 : Value).ownBlock ∧ k_ ≠ gb236 ∧ k_ ≠ gb237 ∧ k_ ≠ gb273) v250 t249) := ⟨by (with_reducible repeat (first | apply Kd.V_alloc | apply Kd.V_drewN | apply Kd.V_drew)); exact Kd.V_mono (Kd.V_far (p := ⟨gb273, 4, none⟩) (Kd.V_far (p := ⟨gb273, 3, none⟩) (Kd.V_far (p := ⟨gb273, 2, none⟩) (Kd.V_far (p := ⟨gb273, 1, none⟩) (Kd.V_far (p := ⟨gb273, 0, none⟩) (Kd.V_mono HO251.out (fun k_ hk => (⟨hk, hk.2.2.2.2.2⟩ : _ ∧ k_ ≠ gb273))) (fun _ hk => hk.2) (.int .i64 t263)) (fun _ hk => hk.2) (.slice Ao43 t264.length co43)) (fun _ hk => hk.2) (.slice Ao45 t267.length co45)) (fun _ hk => hk.2) (.int .i64 t270)) (fun _ hk => hk.2) (.int .i64 t271)) (fun _ hk => ⟨hk.1.1, ⟨hk.1.2.1, ⟨hk.1.2.2.1, ⟨hk.1.2.2.2.1, ⟨hk.1.2.2.2.2.1, hk.1.2.2.2.2.2⟩⟩⟩⟩⟩)⟩
     have n2_ : Aside0 (Kd.R k99 99 (((((w41.setCell ⟨gb273, 0, none⟩ (.int .i64 t263)).setCell ⟨gb273, 1, none⟩ (.slice Ao43 t264.length co43)).setCell ⟨gb273, 2, none⟩ (.slice Ao45 t267.length co45)).setCell ⟨gb273, 3, none⟩ (.int .i64 t270)).setCell ⟨gb273, 4, none⟩ (.int .i64 t271)) w.heap.size (fun k_ => some k_ ≠ (v247 : Value).ownBlock) (.slice Ao43 t264.length co43) t264) := ⟨by (with_reducible repeat (first | apply Kd.R_alloc | apply Kd.R_drewN | apply Kd.R_drew)); exact Kd.R_mono (Kd.R_far (p := ⟨gb273, 4, none⟩) (Kd.R_far (p := ⟨gb273, 3, none⟩) (Kd.R_far (p := ⟨gb273, 2, none⟩) (Kd.R_far (p := ⟨gb273, 1, none⟩) (Kd.R_far (p := ⟨gb273, 0, none⟩) (Kd.R_types HO266.out BK273.out (by decide)) (fun _ hk => hk.2) (.int .i64 t263)) (fun _ hk => hk.2) (.slice Ao43 t264.length co43)) (fun _ hk => hk.2) (.slice Ao45 t267.length co45)) (fun _ hk => hk.2) (.int .i64 t270)) (fun _ hk => hk.2) (.int .i64 t271)) (fun _ hk => hk.1)⟩
     have n3_ : Aside0 (Kd.R k24 24 (((((w41.setCell ⟨gb273, 0, none⟩ (.int .i64 t263)).setCell ⟨gb273, 1, none⟩ (.slice Ao43 t264.length co43)).setCell ⟨gb273, 2, none⟩ (.slice Ao45 t267.length co45)).setCell ⟨gb273, 3, none⟩ (.int .i64 t270)).setCell ⟨gb273, 4, none⟩ (.int .i64 t271)) w.heap.size (fun _ => True) (.slice Ao45 t267.length co45) t267) := ⟨by (with_reducible repeat (first | apply Kd.R_alloc | apply Kd.R_drewN | apply Kd.R_drew)); exact Kd.R_mono (Kd.R_far (p := ⟨gb273, 4, none⟩) (Kd.R_far (p := ⟨gb273, 3, none⟩) (Kd.R_far (p := ⟨gb273, 2, none⟩) (Kd.R_far (p := ⟨gb273, 1, none⟩) (Kd.R_far (p := ⟨gb273, 0, none⟩) (Kd.R_types HO269.out BK273.out (by decide)) (fun _ hk => hk.2) (.int .i64 t263)) (fun _ hk => hk.2) (.slice Ao43 t264.length co43)) (fun _ hk => hk.2) (.slice Ao45 t267.length co45)) (fun _ hk => hk.2) (.int .i64 t270)) (fun _ hk => hk.2) (.int .i64 t271)) (fun _ hk => trivial)⟩
     have n4_ : Aside0 ((((((w41.setCell ⟨gb273, 0, none⟩ (.int .i64 t263)).setCell ⟨gb273, 1, none⟩ (.slice Ao43 t264.length co43)).setCell ⟨gb273, 2, none⟩ (.slice Ao45 t267.length co45)).setCell ⟨gb273, 3, none⟩ (.int .i64 t270)).setCell ⟨gb273, 4, none⟩ (.int .i64 t271)).heap[gb236]? = some (.cells #[.int .i64 a0_0, .slice A0_1 l0_1.length c0_1, .slice A0_2 l0_2.length c0_2, .int .i64 a0_3, .int .i64 a0_4] 67 (0, 0))) := ⟨t_5⟩
     have n5_ : Aside0 ((((((w41.setCell ⟨gb273, 0, none⟩ (.int .i64 t263)).setCell ⟨gb273, 1, none⟩ (.slice Ao43 t264.length co43)).setCell ⟨gb273, 2, none⟩ (.slice Ao45 t267.length co45)).setCell ⟨gb273, 3, none⟩ (.int .i64 t270)).setCell ⟨gb273, 4, none⟩ (.int .i64 t271)).heap[gb237]? = some (.cells #[.int .i64 a1_0, .int .i64 a1_1, .string a1_2, .string a1_3, .string a1_4, .int .i64 a1_5, .int .i64 a1_6, .string a1_7, .int .i64 a1_8] 71 (0, 0))) := ⟨t_6⟩
     have n6_ : Aside0 ((((((w41.setCell ⟨gb273, 0, none⟩ (.int .i64 t263)).setCell ⟨gb273, 1, none⟩ (.slice Ao43 t264.length co43)).setCell ⟨gb273, 2, none⟩ (.slice Ao45 t267.length co45)).setCell ⟨gb273, 3, none⟩ (.int .i64 t270)).setCell ⟨gb273, 4, none⟩ (.int .i64 t271)).heap[gb273]? = some (.cells #[.int .i64 t263, .slice Ao43 t264.length co43, .slice Ao45 t267.length co45, .int .i64 t270, .int .i64 t271] 77 (0, 0))) := ⟨t_f⟩
     have n7_ : Aside0 (Below w.heap.size w (((((w41.setCell ⟨gb273, 0, none⟩ (.int .i64 t263)).setCell ⟨gb273, 1, none⟩ (.slice Ao43 t264.length co43)).setCell ⟨gb273, 2, none⟩ (.slice Ao45 t267.length co45)).setCell ⟨gb273, 3, none⟩ (.int .i64 t270)).setCell ⟨gb273, 4, none⟩ (.int .i64 t271))) := ⟨t_11⟩
     (try clear HO248)
     (try clear HO251)
     (try clear HO266)
     (try clear HO269)
     (try clear BK236)
     (try clear BK237)
     (try clear BK273)
     (try clear HB)
     generalize (((((w41.setCell ⟨gb273, 0, none⟩ (.int .i64 t263)).setCell ⟨gb273, 1, none⟩ (.slice Ao43 t264.length co43)).setCell ⟨gb273, 2, none⟩ (.slice Ao45 t267.length co45)).setCell ⟨gb273, 3, none⟩ (.int .i64 t270)).setCell ⟨gb273, 4, none⟩ (.int .i64 t271)) = w49 at n0_ n1_ n2_ n3_ n4_ n5_ n6_ n7_ ⊢
     have HO248 := n0_
     have HO251 := n1_
     have HO266 := n2_
     have HO269 := n3_
     have BK236 := n4_
     have BK237 := n5_
     have BK273 := n6_
     have HB := n7_
     clear n0_ n1_ n2_ n3_ n4_ n5_ n6_ n7_
     replace HO248 := Aside0.mk (Kd.R_drew HO248.out)
     replace HO251 := Aside0.mk (Kd.V_drew HO251.out)
     replace HO266 := Aside0.mk (Kd.R_drew HO266.out)
     replace HO269 := Aside0.mk (Kd.R_drew HO269.out)
     replace BK236 := Aside0.mk (blk_drew BK236.out)
     replace BK237 := Aside0.mk (blk_drew BK237.out)
     replace BK273 := Aside0.mk (blk_drew BK273.out)
     replace HB := Aside0.mk (below_drew1 HB.out)
     refine start_ (n := 11) (S := fun w' => w'.cell? ⟨gb273, 0, none⟩ = some (.int .i64 t263) ∧ w'.cell? ⟨gb273, 1, none⟩ = some (.slice Ao43 t264.length co43) ∧ w'.cell? ⟨gb273, 2, none⟩ = some (.slice Ao45 t267.length co45) ∧ w'.cell? ⟨gb273, 3, none⟩ = some (.int .i64 t270) ∧ w'.cell? ⟨gb273, 4, none⟩ = some (.int .i64 t271) ∧ w'.cell? ⟨gb236, 0, none⟩ = some (.int .i64 a0_0) ∧ w'.cell? ⟨gb236, 1, none⟩ = some (.slice A0_1 l0_1.length c0_1) ∧ w'.cell? ⟨gb236, 2, none⟩ = some (.slice A0_2 l0_2.length c0_2) ∧ w'.cell? ⟨gb236, 3, none⟩ = some (.int .i64 a0_3) ∧ w'.cell? ⟨gb236, 4, none⟩ = some (.int .i64 a0_4)) (ds := []) q11_0 t_6f rfl rfl ⟨(blk_cell BK273.out 0).trans rfl, (blk_cell BK273.out 1).trans rfl, (blk_cell BK273.out 2).trans rfl, (blk_cell BK273.out 3).trans rfl, (blk_cell BK273.out 4).trans rfl, sqc5 BK236.out⟩ (fun hHeld => ?_); refine with_tabW culetlaw54_JobWeight.tab4 culetlaw54_JobWeight.bits4 (fun HT_ HW_ => ?_)
     generalize w49.drew = w50 at HO248 HO251 HO266 HO269 BK236 BK237 BK273 HB hHeld ⊢
     refine p_ (i := 0) (N := some 29) q11_1 rfl rfl (any_of HT_.out t_6f) ?_
     refine p_ (i := 1) (N := some 30) q11_3 rfl rfl (any_of HT_.out t_6f) ?_
     refine p_ (i := 2) (N := some 31) q11_7 rfl rfl (any_of HT_.out t_6f) ?_
     refine k_ (i := 3) (N := some 32) q11_f rfl rfl (take_ofW HT_.out HW_.out t_6f) (Or.inl ⟨rfl, (by rintro w' ⟨s0, s1, s2, s3, s4, s5, s6, s7, s8, s9⟩; go_simp; with_reducible rfl)⟩) hHeld ?_
     refine k_ (i := 5) (N := some 34) q11_2f rfl rfl (take_ofW HT_.out HW_.out t_6f) (Or.inl ⟨rfl, (by rintro w' ⟨s0, s1, s2, s3, s4, s5, s6, s7, s8, s9⟩; go_simp; with_reducible rfl)⟩) hHeld ?_
     refine one_ (i := 4) (N := some 33) q11_3f rfl rfl (one_of HT_.out t_6f) (by decide) (fun K hK => ?_)
     refine goes_ Try.func46 t_6f rfl #[.agg #[.int .i64 t263, .slice Ao43 t264.length co43, .slice Ao45 t267.length co45, .int .i64 t270, .int .i64 t271]] (by rfl) rfl rfl t_2b ?_
     with_reducible refine (culetlaw54_weight.calls kj2 t263 _ _ t264 _ _ t267 t270 t271 t274 _ ?side1 ?side2 ?side3 ?side4 A31.out).mono ?_
     (case side1 => exact cl ((Kd.R_reads' HO266.out).2.2))
     (case side2 => exact (Kd.R_reads' HO266.out).2.1)
     (case side3 => exact cl ((Kd.R_reads' HO269.out).2.2))
     (case side4 => exact (Kd.R_reads' HO269.out).2.1)
     rintro e w51 ⟨rfl, hb⟩
     refine ⟨_, rfl, ?_⟩
     replace HO248 := Aside0.mk (Kd.R_below (rl HO248.out) hb)
     replace HO251 := Aside0.mk (Kd.V_below (vl HO251.out) hb)
     replace HO266 := Aside0.mk (Kd.R_below (rl HO266.out) hb)
     replace HO269 := Aside0.mk (Kd.R_below (rl HO269.out) hb)
     replace BK236 := Aside0.mk (blk_below (g := gb236) (bl BK236.out) hb)
     replace BK237 := Aside0.mk (blk_below (g := gb237) (bl BK237.out) hb)
     replace BK273 := Aside0.mk (blk_below (g := gb273) (bl BK273.out) hb)
     replace HB := Aside0.mk (below_step t_11 hb)
     (try clear hb)
     (try clear hk)
     refine hK.out _ _ ⟨(blk_cell BK273.out 0).trans rfl, (blk_cell BK273.out 1).trans rfl, (blk_cell BK273.out 2).trans rfl, (blk_cell BK273.out 3).trans rfl, (blk_cell BK273.out 4).trans rfl, sqc5 BK236.out⟩ (fun hHeld => ?_)
     clear hK K
     refine norm_ t_2e ?_
     refine one_ (i := 6) (N := some 35) q11_7f rfl rfl (one_of HT_.out t_6f) (by decide) (fun K hK => ?_)
     refine goes_ Try.func38 t_6f rfl #[.agg #[.int .i64 a0_0, .slice A0_1 l0_1.length c0_1, .slice A0_2 l0_2.length c0_2, .int .i64 a0_3, .int .i64 a0_4]] (by rfl) rfl rfl t_2b ?_
     with_reducible refine (culetlaw54_Own.calls kj2 a0_0 _ _ l0_1 (fun k_ => k_ < w.heap.size) _ _ l0_2 a0_3 a0_4 t275 t276 t279 t282 t283 _ ?side1 ?side2 ?side3 A32.out).mono ?_
     (case side1 => exact cl ((Kd.C_below HR0_1.out HB.out)))
     (case side2 => exact HC0_1.out)
     (case side3 => exact Kd.V_mk HC0_2.out (Kd.F_below (Kd.C_F k24_heap HR0_2.out) t_11))
     rintro e w52 ⟨v277, v280, rfl, ho0, ho1, hb⟩
     refine ⟨_, rfl, ?_⟩
     replace HO251 := Aside0.mk (Kd.V_elder' (vl HO251.out) (Kd.R_base ho0) hb)
     have HO278 := Aside0.mk (Kd.R_lower (Kd.R_new' (Kd.R_new' (Kd.R_mono (ok' := fun k_ => True) ho0 (fun _ hk_ => trivial)) (Kd.R_lt (rl HO248.out))) (Kd.R_lt (rl HO266.out))) (below_size t_11))
     have HO281 := Aside0.mk (Kd.V_lower (Kd.V_mono (ok' := fun k_ => some k_ ≠ (v277 : Value).ownBlock ∧ some k_ ≠ (v247 : Value).ownBlock ∧ some k_ ≠ (.slice Ao43 t264.length co43 : Value).ownBlock ∧ some k_ ≠ (.slice Ao45 t267.length co45 : Value).ownBlock ∧ k_ ≠ gb236 ∧ k_ ≠ gb237 ∧ k_ ≠ gb273) ho1 (fun k_ hk_ => ⟨hk_.2, Or.elim hk_.1 (fun hs_ => fun e_ => Nat.not_le.2 hs_ (Kd.R_base HO248.out k_ e_.symm)) (fun hn_ => (Kd.fresh' (Kd.R_lt (rl HO248.out)) k_ hn_)), Or.elim hk_.1 (fun hs_ => fun e_ => Nat.not_le.2 hs_ (Kd.R_base HO266.out k_ e_.symm)) (fun hn_ => (Kd.fresh' (Kd.R_lt (rl HO266.out)) k_ hn_)), Or.elim hk_.1 (fun hs_ => fun e_ => Nat.not_le.2 hs_ (Kd.R_base HO269.out k_ e_.symm)) (fun hn_ => (Kd.fresh' (Kd.R_lt (rl HO269.out)) k_ hn_)), Or.elim hk_.1 (fun hs_ => fun e_ => Nat.not_le.2 hs_ (by rw [e_]; exact GW236.out)) (fun hn_ => (Kd.freshB (g := gb236) (bl BK236.out) k_ hn_)), Or.elim hk_.1 (fun hs_ => fun e_ => Nat.not_le.2 hs_ (by rw [e_]; exact GW237.out)) (fun hn_ => (Kd.freshB (g := gb237) (bl BK237.out) k_ hn_)), Or.elim hk_.1 (fun hs_ => fun e_ => Nat.not_le.2 hs_ (by rw [e_]; exact GW273.out)) (fun hn_ => (Kd.freshB (g := gb273) (bl BK273.out) k_ hn_))⟩)) (below_size t_11))
     replace HO248 := Aside0.mk (Kd.R_elder' (rl HO248.out) (Kd.R_base ho0) hb)
     replace HO266 := Aside0.mk (Kd.R_elder' (rl HO266.out) (Kd.R_base ho0) hb)
     replace HO269 := Aside0.mk (Kd.R_below (rl HO269.out) hb)
     replace BK236 := Aside0.mk (blk_below (g := gb236) (bl BK236.out) hb)
     replace BK237 := Aside0.mk (blk_below (g := gb237) (bl BK237.out) hb)
     replace BK273 := Aside0.mk (blk_below (g := gb273) (bl BK273.out) hb)
     replace HB := Aside0.mk (below_step t_11 hb)
     (try clear hb)
     (try clear ho0)
     (try clear ho1)
     obtain ⟨Ao53, co53, eo53⟩ := Kd.R_slice HO278.out
     (first | subst eo53 | (injection eo53 with f1_ f2_ f3_; have f4_ := f1_.symm; have f5_ := f3_.symm; clear f1_ f2_ f3_; subst f4_; subst f5_))
     obtain ⟨Ao54, co54, eo54⟩ := Kd.V_slice HO281.out
     (first | subst eo54 | (injection eo54 with f1_ f2_ f3_; have f4_ := f1_.symm; have f5_ := f3_.symm; clear f1_ f2_ f3_; subst f4_; subst f5_))
     refine hK.out _ _ ⟨(blk_cell BK273.out 0).trans rfl, (blk_cell BK273.out 1).trans rfl, (blk_cell BK273.out 2).trans rfl, (blk_cell BK273.out 3).trans rfl, (blk_cell BK273.out 4).trans rfl, sqc5 BK236.out⟩ (fun hHeld => ?_)
     clear hK K
     refine norm_ (by show Act.put _ (some 35) _ = _; simp only [Act.put, List.setIfInBounds_toArray, List.set_cons_zero, List.set_cons_succ, i64_w, i32_w]; rfl) ?_
     refine one_ (i := 7) (N := some 36) q11_ff rfl rfl (one_of HT_.out t_6f) (by decide) (fun K hK => ?_)
     refine goes_ Try.func46 t_6f rfl #[.agg #[.int .i64 t275, .slice Ao53 t276.length co53, .slice Ao54 t279.length co54, .int .i64 t282, .int .i64 t283]] (by rfl) rfl rfl t_2b ?_
     with_reducible refine (culetlaw54_weight.calls kj2 t275 _ _ t276 _ _ t279 t282 t283 t284 _ ?side1 ?side2 ?side3 ?side4 A33.out).mono ?_
     (case side1 => exact cl ((Kd.R_reads' HO278.out).2.2))
     (case side2 => exact (Kd.R_reads' HO278.out).2.1)
     (case side3 => exact cl ((Kd.V_reads' HO281.out).2.2))
     (case side4 => exact (Kd.V_reads' HO281.out).2.1)
     rintro e w55 ⟨rfl, hb⟩
     refine ⟨_, rfl, ?_⟩
     replace HO248 := Aside0.mk (Kd.R_below (rl HO248.out) hb)
     replace HO251 := Aside0.mk (Kd.V_below (vl HO251.out) hb)
     replace HO266 := Aside0.mk (Kd.R_below (rl HO266.out) hb)
     replace HO269 := Aside0.mk (Kd.R_below (rl HO269.out) hb)
     replace HO278 := Aside0.mk (Kd.R_below (rl HO278.out) hb)
     replace HO281 := Aside0.mk (Kd.V_below (vl HO281.out) hb)
     replace BK236 := Aside0.mk (blk_below (g := gb236) (bl BK236.out) hb)
     replace BK237 := Aside0.mk (blk_below (g := gb237) (bl BK237.out) hb)
     replace BK273 := Aside0.mk (blk_below (g := gb273) (bl BK273.out) hb)
     replace HB := Aside0.mk (below_step t_11 hb)
     (try clear hb)
     refine hK.out _ _ ⟨(blk_cell BK273.out 0).trans rfl, (blk_cell BK273.out 1).trans rfl, (blk_cell BK273.out 2).trans rfl, (blk_cell BK273.out 3).trans rfl, (blk_cell BK273.out 4).trans rfl, sqc5 BK236.out⟩ (fun hHeld => ?_)
     clear hK K
     refine norm_ t_31 ?_
     refine p_ (i := 8) (N := some 37) q11_1ff rfl rfl (any_of HT_.out t_6f) ?_
     refine p_ (i := 9) (N := some 38) q11_3ff rfl rfl (any_of HT_.out t_6f) ?_
     refine p_ (i := 10) (N := some 4) q11_7ff rfl rfl (any_of HT_.out t_6f) ?_
     refine done_ (done_of HT_.out t_6f) ?_
     try go_wp2
     go_ret
     exact ⟨t_47, t_11⟩
    ·rw [if_neg c30] at H
     have c30b0 : (t272 == 0) = false := beq_eq_false_iff_ne.mpr c30
     have c30b1 : (t272 != 0) = true := bne_iff_ne.mpr c30
     obtain rfl := Option.some.inj H
     try go_wp2
     replace BK236 := Aside0.mk (blk_drew BK236.out)
     replace BK237 := Aside0.mk (blk_drew BK237.out)
     replace HB := Aside0.mk (below_drew1 HB.out)
     refine start_ (n := 11) (S := fun w' => w'.cell? ⟨gb236, 0, none⟩ = some (.int .i64 a0_0) ∧ w'.cell? ⟨gb236, 1, none⟩ = some (.slice A0_1 l0_1.length c0_1) ∧ w'.cell? ⟨gb236, 2, none⟩ = some (.slice A0_2 l0_2.length c0_2) ∧ w'.cell? ⟨gb236, 3, none⟩ = some (.int .i64 a0_3) ∧ w'.cell? ⟨gb236, 4, none⟩ = some (.int .i64 a0_4) ∧ w'.cell? ⟨gb237, 0, none⟩ = some (.int .i64 a1_0) ∧ w'.cell? ⟨gb237, 1, none⟩ = some (.int .i64 a1_1) ∧ w'.cell? ⟨gb237, 2, none⟩ = some (.string a1_2) ∧ w'.cell? ⟨gb237, 3, none⟩ = some (.string a1_3) ∧ w'.cell? ⟨gb237, 4, none⟩ = some (.string a1_4) ∧ w'.cell? ⟨gb237, 5, none⟩ = some (.int .i64 a1_5) ∧ w'.cell? ⟨gb237, 6, none⟩ = some (.int .i64 a1_6) ∧ w'.cell? ⟨gb237, 7, none⟩ = some (.string a1_7) ∧ w'.cell? ⟨gb237, 8, none⟩ = some (.int .i64 a1_8)) (ds := []) q11_0 t_6f rfl rfl ⟨(blk_cell BK236.out 0).trans rfl, (blk_cell BK236.out 1).trans rfl, (blk_cell BK236.out 2).trans rfl, (blk_cell BK236.out 3).trans rfl, (blk_cell BK236.out 4).trans rfl, sqc9 BK237.out⟩ (fun hHeld => ?_); refine with_tabW culetlaw54_JobWeight.tab3 culetlaw54_JobWeight.bits3 (fun HT_ HW_ => ?_)
     generalize wc.drew = w56 at BK236 BK237 HB hHeld ⊢
     refine k_ (i := 0) (N := some 22) q11_1 rfl rfl (take_ofW HT_.out HW_.out t_6f) (Or.inl ⟨rfl, t_45⟩) hHeld ?_
     refine k_ (i := 2) (N := some 24) q11_5 rfl rfl (take_ofW HT_.out HW_.out t_6f) (Or.inl ⟨rfl, t_45⟩) hHeld ?_
     refine join_ (σ := Value × Value × Value × Value × Nat) 2 q11_1ff (fun s_ => [(23, .agg #[.int .i64 t245, s_.1, s_.2.1, .int .i64 t252, .int .i64 t253]), (25, .agg #[.int .i64 t254, .int .i64 t255, .string t256, .string t257, .string t258, .int .i64 t259, .int .i64 t260, .string t261, .int .i64 t262]), (26, .tuple #[.agg #[.int .i64 t263, s_.2.2.1, s_.2.2.2.1, .int .i64 t270, .int .i64 t271], .int .i64 t272]), (5, .pointer (some ⟨s_.2.2.2.2, 0, none⟩)), (21, .tuple #[.agg #[.int .i64 t263, s_.2.2.1, s_.2.2.2.1, .int .i64 t270, .int .i64 t271], .int .i64 t272]), (27, .agg #[.int .i64 t263, s_.2.2.1, s_.2.2.2.1, .int .i64 t270, .int .i64 t271]), (28, .int .i64 t272)]) (fun s_ w' => (w'.cell? ⟨gb236, 0, none⟩ = some (.int .i64 a0_0) ∧ w'.cell? ⟨gb236, 1, none⟩ = some (.slice A0_1 l0_1.length c0_1) ∧ w'.cell? ⟨gb236, 2, none⟩ = some (.slice A0_2 l0_2.length c0_2) ∧ w'.cell? ⟨gb236, 3, none⟩ = some (.int .i64 a0_3) ∧ w'.cell? ⟨gb236, 4, none⟩ = some (.int .i64 a0_4) ∧ w'.cell? ⟨gb237, 0, none⟩ = some (.int .i64 a1_0) ∧ w'.cell? ⟨gb237, 1, none⟩ = some (.int .i64 a1_1) ∧ w'.cell? ⟨gb237, 2, none⟩ = some (.string a1_2) ∧ w'.cell? ⟨gb237, 3, none⟩ = some (.string a1_3) ∧ w'.cell? ⟨gb237, 4, none⟩ = some (.string a1_4) ∧ w'.cell? ⟨gb237, 5, none⟩ = some (.int .i64 a1_5) ∧ w'.cell? ⟨gb237, 6, none⟩ = some (.int .i64 a1_6) ∧ w'.cell? ⟨gb237, 7, none⟩ = some (.string a1_7) ∧ w'.cell? ⟨gb237, 8, none⟩ = some (.int .i64 a1_8)) ∧ (Kd.R k99 99 w' w.heap.size (fun k_ => some k_ ≠ (s_.2.2.1 : Value).ownBlock) s_.1 t246) ∧ (Kd.V k24 24 w' w.heap.size (fun k_ => some k_ ≠ (s_.1 : Value).ownBlock ∧ some k_ ≠ (s_.2.2.1 : Value).ownBlock ∧ some k_ ≠ (s_.2.2.2.1 : Value).ownBlock ∧ k_ ≠ gb236 ∧ k_ ≠ gb237 ∧ k_ ≠ s_.2.2.2.2) s_.2.1 t249) ∧ (Kd.R k99 99 w' w.heap.size (fun k_ => some k_ ≠ (s_.1 : Value).ownBlock) s_.2.2.1 t264) ∧ (Kd.R k24 24 w' w.heap.size (fun _ => True) s_.2.2.2.1 t267) ∧ (w'.heap[gb236]? = some (.cells #[.int .i64 a0_0, .slice A0_1 l0_1.length c0_1, .slice A0_2 l0_2.length c0_2, .int .i64 a0_3, .int .i64 a0_4] 67 (0, 0))) ∧ (w'.heap[gb237]? = some (.cells #[.int .i64 a1_0, .int .i64 a1_1, .string a1_2, .string a1_3, .string a1_4, .int .i64 a1_5, .int .i64 a1_6, .string a1_7, .int .i64 a1_8] 71 (0, 0))) ∧ (w'.heap[s_.2.2.2.2]? = some (.cells #[.int .i64 0, .slice none 0 0, .slice none 0 0, .int .i64 0, .int .i64 0] 77 (0, 0))) ∧ (w.heap.size ≤ s_.2.2.2.2) ∧ (w.heap.size ≤ s_.2.2.2.2) ∧ (gb236 ≠ s_.2.2.2.2) ∧ (s_.2.2.2.2 ≠ gb236) ∧ (gb237 ≠ s_.2.2.2.2) ∧ (s_.2.2.2.2 ≠ gb237) ∧ (Below w.heap.size w w')) ?_ ?_
     rotate_left
     ·intro hCont
      refine two_ (i := 1) (j := 8) (Ni := some 23) (Nj := some 5) q11_7 q11_105 rfl rfl rfl rfl (two_of HT_.out t_6f) (by decide) (by decide) (fun K hK => ?_) (fun K hK => ?_)
      ·skip
       refine goes_ Try.func38 t_6f rfl #[.agg #[.int .i64 a0_0, .slice A0_1 l0_1.length c0_1, .slice A0_2 l0_2.length c0_2, .int .i64 a0_3, .int .i64 a0_4]] (by rfl) rfl rfl t_2b ?_
       with_reducible refine (culetlaw54_Own.calls kj2 a0_0 _ _ l0_1 (fun k_ => k_ < w.heap.size) _ _ l0_2 a0_3 a0_4 t245 t246 t249 t252 t253 _ ?side1 ?side2 ?side3 A27.out).mono ?_
       (case side1 => exact cl ((Kd.C_below HR0_1.out HB.out)))
       (case side2 => exact HC0_1.out)
       (case side3 => exact Kd.V_mk HC0_2.out (Kd.F_below (Kd.C_F k24_heap HR0_2.out) t_1a))
       rintro e w57 ⟨v247, v250, rfl, ho0, ho1, hb⟩
       refine ⟨_, rfl, ?_⟩
       have HO248 := Aside0.mk (Kd.R_lower (Kd.R_mono (ok' := fun k_ => True) ho0 (fun _ hk_ => trivial)) (below_size t_1a))
       have HO251 := Aside0.mk (Kd.V_lower (Kd.V_mono (ok' := fun k_ => some k_ ≠ (v247 : Value).ownBlock ∧ k_ ≠ gb236 ∧ k_ ≠ gb237) ho1 (fun k_ hk_ => ⟨hk_.2, Or.elim hk_.1 (fun hs_ => fun e_ => Nat.not_le.2 hs_ (by rw [e_]; exact GW236.out)) (fun hn_ => (Kd.freshB (g := gb236) (bl BK236.out) k_ hn_)), Or.elim hk_.1 (fun hs_ => fun e_ => Nat.not_le.2 hs_ (by rw [e_]; exact GW237.out)) (fun hn_ => (Kd.freshB (g := gb237) (bl BK237.out) k_ hn_))⟩)) (below_size t_1a))
       replace BK236 := Aside0.mk (blk_below (g := gb236) (bl BK236.out) hb)
       replace BK237 := Aside0.mk (blk_below (g := gb237) (bl BK237.out) hb)
       replace HB := Aside0.mk (below_step t_1a hb)
       (try clear hb)
       (try clear ho0)
       (try clear ho1)
       refine hK.out _ _ ⟨(blk_cell BK236.out 0).trans rfl, (blk_cell BK236.out 1).trans rfl, (blk_cell BK236.out 2).trans rfl, (blk_cell BK236.out 3).trans rfl, (blk_cell BK236.out 4).trans rfl, sqc9 BK237.out⟩ (fun hHeld => ?_)
       clear hK K
       refine norm_ t_32 ?_
       refine two_ (i := 3) (j := 8) (Ni := some 25) (Nj := some 5) q11_f q11_107 rfl rfl rfl rfl (two_of HT_.out t_6f) (by decide) (by decide) (fun K hK => ?_) (fun K hK => ?_)
       ·skip
        refine goes_ Try.func39 t_6f rfl #[.agg #[.int .i64 a1_0, .int .i64 a1_1, .string a1_2, .string a1_3, .string a1_4, .int .i64 a1_5, .int .i64 a1_6, .string a1_7, .int .i64 a1_8]] (by rfl) rfl rfl t_2b ?_
        with_reducible refine (culetlaw54_event.calls a1_0 a1_1 a1_2 a1_3 a1_4 a1_5 a1_6 a1_7 a1_8 t254 t255 t256 t257 t258 t259 t260 t261 t262 _ A28.out).mono ?_
        rintro e w58 ⟨rfl, hb⟩
        refine ⟨_, rfl, ?_⟩
        replace HO248 := Aside0.mk (Kd.R_below (rl HO248.out) hb)
        replace HO251 := Aside0.mk (Kd.V_below (vl HO251.out) hb)
        replace BK236 := Aside0.mk (blk_below (g := gb236) (bl BK236.out) hb)
        replace BK237 := Aside0.mk (blk_below (g := gb237) (bl BK237.out) hb)
        replace HB := Aside0.mk (below_step t_1a hb)
        (try clear hb)
        obtain ⟨Ao59, co59, eo59⟩ := Kd.R_slice HO248.out
        (first | subst eo59 | (injection eo59 with f1_ f2_ f3_; have f4_ := f1_.symm; have f5_ := f3_.symm; clear f1_ f2_ f3_; subst f4_; subst f5_))
        obtain ⟨Ao60, co60, eo60⟩ := Kd.V_slice HO251.out
        (first | subst eo60 | (injection eo60 with f1_ f2_ f3_; have f4_ := f1_.symm; have f5_ := f3_.symm; clear f1_ f2_ f3_; subst f4_; subst f5_))
        refine hK.out _ _ ⟨(blk_cell BK236.out 0).trans rfl, (blk_cell BK236.out 1).trans rfl, (blk_cell BK236.out 2).trans rfl, (blk_cell BK236.out 3).trans rfl, (blk_cell BK236.out 4).trans rfl, sqc9 BK237.out⟩ (fun hHeld => ?_)
        clear hK K
        refine norm_ t_33 ?_
        refine two_ (i := 4) (j := 8) (Ni := some 26) (Nj := some 5) q11_1f q11_10f rfl rfl rfl rfl (two_of HT_.out t_6f) (by decide) (by decide) (fun K hK => ?_) (fun K hK => ?_)
        ·skip
         refine goes_ Try.func37 t_6f rfl #[.agg #[.int .i64 t245, .slice Ao59 t246.length co59, .slice Ao60 t249.length co60, .int .i64 t252, .int .i64 t253], .agg #[.int .i64 t254, .int .i64 t255, .string t256, .string t257, .string t258, .int .i64 t259, .int .i64 t260, .string t261, .int .i64 t262]] (by rfl) rfl rfl t_2b ?_
         with_reducible refine (job_Do.calls t245 _ _ t246 _ _ t249 t252 t253 t254 t255 t256 t257 t258 t259 t260 t261 t262 t263 t264 t267 t270 t271 t272 _ ?side1 ?side2 ?side3 ?side4 A29.out).mono ?_
         (case side1 => exact cl ((Kd.R_reads' HO248.out).2.2))
         (case side2 => exact (Kd.R_reads' HO248.out).2.1)
         (case side3 => exact cl ((Kd.V_reads' HO251.out).2.2))
         (case side4 => exact (Kd.V_reads' HO251.out).2.1)
         rintro e w61 ⟨v265, v268, rfl, ho0, ho1, hb⟩
         refine ⟨_, rfl, ?_⟩
         replace HO251 := Aside0.mk (Kd.V_mono (Kd.V_told (Kd.V_told (Kd.V_old (vl HO251.out) hb) (Kd.R_base ho0)) (Kd.R_base ho1)) (fun _ h_ => h_.1))
         have HO266 := Aside0.mk (Kd.R_lower (Kd.R_new' ho0 (Kd.R_lt (rl HO248.out))) (below_size t_1a))
         replace HO248 := Aside0.mk (Kd.R_elder' (rl HO248.out) (Kd.R_base ho0) hb)
         have HO269 := Aside0.mk (Kd.R_lower ho1 (below_size t_1a))
         replace BK236 := Aside0.mk (blk_below (g := gb236) (bl BK236.out) hb)
         replace BK237 := Aside0.mk (blk_below (g := gb237) (bl BK237.out) hb)
         replace HB := Aside0.mk (below_step t_1a hb)
         (try clear hb)
         (try clear ho0)
         (try clear ho1)
         refine hK.out _ _ ⟨(blk_cell BK236.out 0).trans rfl, (blk_cell BK236.out 1).trans rfl, (blk_cell BK236.out 2).trans rfl, (blk_cell BK236.out 3).trans rfl, (blk_cell BK236.out 4).trans rfl, sqc9 BK237.out⟩ (fun hHeld => ?_)
         clear hK K
         refine norm_ t_34 ?_
         refine p_ (i := 5) (N := some 21) q11_3f rfl rfl (any_of HT_.out t_6f) ?_
         refine p_ (i := 6) (N := some 27) q11_7f rfl rfl (any_of HT_.out t_6f) ?_
         refine p_ (i := 7) (N := some 28) q11_ff rfl rfl (any_of HT_.out t_6f) ?_
         refine one_ (i := 8) (N := some 5) q11_1ff rfl rfl (one_of HT_.out t_6f) (by decide) (fun K hK => ?_)
         refine box_step ?hg (N := 5) ?hd (cs := #[.int .i64 0, .slice none 0 0, .slice none 0 0, .int .i64 0, .int .i64 0]) (t := 77) ?hr ?_; (case hd => rfl); (case hg => rfl); (case hr => go_simp; try rfl)
         intro gb273 hg w62 hbox hb
         replace HO248 := Aside0.mk (Kd.R_below (rl HO248.out) hb)
         replace HO251 := Aside0.mk (Kd.V_below (Kd.V_elderB (vl HO251.out) gb273 (Nat.le_of_eq hg.symm)) hb)
         replace HO266 := Aside0.mk (Kd.R_below (rl HO266.out) hb)
         replace HO269 := Aside0.mk (Kd.R_below (rl HO269.out) hb)
         have BK273 := Aside0.mk (hbox)
         have GW273 := Aside0.mk ((by rw [hg]; exact (below_size t_1a) : w.heap.size ≤ gb273))
         have GE273 := Aside0.mk ((by rw [hg]; exact (below_size t_1a) : w.heap.size ≤ gb273))
         replace HB := Aside0.mk (below_step t_1a hb)
         have NB236_273 := Aside0.mk ((by rw [hg]; exact Nat.ne_of_lt (blk_lt (g := gb236) (bl BK236.out)) : gb236 ≠ gb273))
         have NB273_236 := Aside0.mk ((by rw [hg]; exact Nat.ne_of_gt (blk_lt (g := gb236) (bl BK236.out)) : gb273 ≠ gb236))
         replace BK236 := Aside0.mk (blk_below (g := gb236) (bl BK236.out) hb)
         have NB237_273 := Aside0.mk ((by rw [hg]; exact Nat.ne_of_lt (blk_lt (g := gb237) (bl BK237.out)) : gb237 ≠ gb273))
         have NB273_237 := Aside0.mk ((by rw [hg]; exact Nat.ne_of_gt (blk_lt (g := gb237) (bl BK237.out)) : gb273 ≠ gb237))
         replace BK237 := Aside0.mk (blk_below (g := gb237) (bl BK237.out) hb)
         clear hb hbox hg
         refine hK.out _ _ ⟨(blk_cell BK236.out 0).trans rfl, (blk_cell BK236.out 1).trans rfl, (blk_cell BK236.out 2).trans rfl, (blk_cell BK236.out 3).trans rfl, (blk_cell BK236.out 4).trans rfl, sqc9 BK237.out⟩ (fun hHeld => ?_)
         clear hK K
         refine norm_ t_35 ?_
         exact norm_ t_46 (hCont (.slice Ao59 t246.length co59, .slice Ao60 t249.length co60, v265, v268, gb273) _ ⟨hHeld, t_38, t_12, t_39, (rl HO269.out), (bl BK236.out), (bl BK237.out), (bl BK273.out), GW273.out, GE273.out, NB236_273.out, NB273_236.out, NB237_273.out, NB273_237.out, t_11⟩)
        ·skip
         refine box_step ?hg (N := 5) ?hd (cs := #[.int .i64 0, .slice none 0 0, .slice none 0 0, .int .i64 0, .int .i64 0]) (t := 77) ?hr ?_; (case hd => rfl); (case hg => rfl); (case hr => go_simp; try rfl)
         intro gb273 hg w59 hbox hb
         replace HO248 := Aside0.mk (Kd.R_below (rl HO248.out) hb)
         replace HO251 := Aside0.mk (Kd.V_below (Kd.V_elderB (vl HO251.out) gb273 (Nat.le_of_eq hg.symm)) hb)
         have BK273 := Aside0.mk (hbox)
         have GW273 := Aside0.mk ((by rw [hg]; exact (below_size t_1a) : w.heap.size ≤ gb273))
         have GE273 := Aside0.mk ((by rw [hg]; exact (below_size t_1a) : w.heap.size ≤ gb273))
         replace HB := Aside0.mk (below_step t_1a hb)
         have NB236_273 := Aside0.mk ((by rw [hg]; exact Nat.ne_of_lt (blk_lt (g := gb236) (bl BK236.out)) : gb236 ≠ gb273))
         have NB273_236 := Aside0.mk ((by rw [hg]; exact Nat.ne_of_gt (blk_lt (g := gb236) (bl BK236.out)) : gb273 ≠ gb236))
         replace BK236 := Aside0.mk (blk_below (g := gb236) (bl BK236.out) hb)
         have NB237_273 := Aside0.mk ((by rw [hg]; exact Nat.ne_of_lt (blk_lt (g := gb237) (bl BK237.out)) : gb237 ≠ gb273))
         have NB273_237 := Aside0.mk ((by rw [hg]; exact Nat.ne_of_gt (blk_lt (g := gb237) (bl BK237.out)) : gb273 ≠ gb237))
         replace BK237 := Aside0.mk (blk_below (g := gb237) (bl BK237.out) hb)
         clear hb hbox hg
         obtain ⟨Ao60, co60, eo60⟩ := Kd.R_slice HO248.out
         (first | subst eo60 | (injection eo60 with f1_ f2_ f3_; have f4_ := f1_.symm; have f5_ := f3_.symm; clear f1_ f2_ f3_; subst f4_; subst f5_))
         obtain ⟨Ao61, co61, eo61⟩ := Kd.V_slice HO251.out
         (first | subst eo61 | (injection eo61 with f1_ f2_ f3_; have f4_ := f1_.symm; have f5_ := f3_.symm; clear f1_ f2_ f3_; subst f4_; subst f5_))
         refine hK.out _ _ ⟨(blk_cell BK236.out 0).trans rfl, (blk_cell BK236.out 1).trans rfl, (blk_cell BK236.out 2).trans rfl, (blk_cell BK236.out 3).trans rfl, (blk_cell BK236.out 4).trans rfl, sqc9 BK237.out⟩ (fun hHeld => ?_)
         clear hK K
         refine norm_ t_35 ?_
         refine one_ (i := 4) (N := some 26) q11_11f rfl rfl (one_of HT_.out t_6f) (by decide) (fun K hK => ?_)
         refine goes_ Try.func37 t_6f rfl #[.agg #[.int .i64 t245, .slice Ao60 t246.length co60, .slice Ao61 t249.length co61, .int .i64 t252, .int .i64 t253], .agg #[.int .i64 t254, .int .i64 t255, .string t256, .string t257, .string t258, .int .i64 t259, .int .i64 t260, .string t261, .int .i64 t262]] (by rfl) rfl rfl t_2b ?_
         with_reducible refine (job_Do.calls t245 _ _ t246 _ _ t249 t252 t253 t254 t255 t256 t257 t258 t259 t260 t261 t262 t263 t264 t267 t270 t271 t272 _ ?side1 ?side2 ?side3 ?side4 A29.out).mono ?_
         (case side1 => exact cl ((Kd.R_reads' HO248.out).2.2))
         (case side2 => exact (Kd.R_reads' HO248.out).2.1)
         (case side3 => exact cl ((Kd.V_reads' HO251.out).2.2))
         (case side4 => exact (Kd.V_reads' HO251.out).2.1)
         rintro e w62 ⟨v265, v268, rfl, ho0, ho1, hb⟩
         refine ⟨_, rfl, ?_⟩
         replace HO251 := Aside0.mk (Kd.V_mono (Kd.V_told (Kd.V_told (Kd.V_old (vl HO251.out) hb) (Kd.R_base ho0)) (Kd.R_base ho1)) (fun _ h_ => h_.1))
         have HO266 := Aside0.mk (Kd.R_lower (Kd.R_new' ho0 (Kd.R_lt (rl HO248.out))) (below_size t_11))
         replace HO248 := Aside0.mk (Kd.R_elder' (rl HO248.out) (Kd.R_base ho0) hb)
         have HO269 := Aside0.mk (Kd.R_lower ho1 (below_size t_11))
         replace BK236 := Aside0.mk (blk_below (g := gb236) (bl BK236.out) hb)
         replace BK237 := Aside0.mk (blk_below (g := gb237) (bl BK237.out) hb)
         replace BK273 := Aside0.mk (blk_below (g := gb273) (bl BK273.out) hb)
         replace HB := Aside0.mk (below_step t_11 hb)
         (try clear hb)
         (try clear hk)
         (try clear ho0)
         (try clear ho1)
         refine hK.out _ _ ⟨(blk_cell BK236.out 0).trans rfl, (blk_cell BK236.out 1).trans rfl, (blk_cell BK236.out 2).trans rfl, (blk_cell BK236.out 3).trans rfl, (blk_cell BK236.out 4).trans rfl, sqc9 BK237.out⟩ (fun hHeld => ?_)
         clear hK K
         refine norm_ t_34 ?_
         refine p_ (i := 5) (N := some 21) q11_13f rfl rfl (any_of HT_.out t_6f) ?_
         refine p_ (i := 6) (N := some 27) q11_17f rfl rfl (any_of HT_.out t_6f) ?_
         refine p_ (i := 7) (N := some 28) q11_1ff rfl rfl (any_of HT_.out t_6f) ?_
         exact norm_ t_46 (hCont (.slice Ao60 t246.length co60, .slice Ao61 t249.length co61, v265, v268, gb273) _ ⟨hHeld, t_38, t_13, t_39, (rl HO269.out), (bl BK236.out), (bl BK237.out), (bl BK273.out), GW273.out, GE273.out, NB236_273.out, NB273_236.out, NB237_273.out, NB273_237.out, t_11⟩)
       ·skip
        refine box_step ?hg (N := 5) ?hd (cs := #[.int .i64 0, .slice none 0 0, .slice none 0 0, .int .i64 0, .int .i64 0]) (t := 77) ?hr ?_; (case hd => rfl); (case hg => rfl); (case hr => go_simp; try rfl)
        intro gb273 hg w58 hbox hb
        replace HO248 := Aside0.mk (Kd.R_below (rl HO248.out) hb)
        replace HO251 := Aside0.mk (Kd.V_below (Kd.V_elderB (vl HO251.out) gb273 (Nat.le_of_eq hg.symm)) hb)
        have BK273 := Aside0.mk (hbox)
        have GW273 := Aside0.mk ((by rw [hg]; exact (below_size t_1a) : w.heap.size ≤ gb273))
        have GE273 := Aside0.mk ((by rw [hg]; exact (below_size t_1a) : w.heap.size ≤ gb273))
        replace HB := Aside0.mk (below_step t_1a hb)
        have NB236_273 := Aside0.mk ((by rw [hg]; exact Nat.ne_of_lt (blk_lt (g := gb236) (bl BK236.out)) : gb236 ≠ gb273))
        have NB273_236 := Aside0.mk ((by rw [hg]; exact Nat.ne_of_gt (blk_lt (g := gb236) (bl BK236.out)) : gb273 ≠ gb236))
        replace BK236 := Aside0.mk (blk_below (g := gb236) (bl BK236.out) hb)
        have NB237_273 := Aside0.mk ((by rw [hg]; exact Nat.ne_of_lt (blk_lt (g := gb237) (bl BK237.out)) : gb237 ≠ gb273))
        have NB273_237 := Aside0.mk ((by rw [hg]; exact Nat.ne_of_gt (blk_lt (g := gb237) (bl BK237.out)) : gb273 ≠ gb237))
        replace BK237 := Aside0.mk (blk_below (g := gb237) (bl BK237.out) hb)
        clear hb hbox hg
        refine hK.out _ _ ⟨(blk_cell BK236.out 0).trans rfl, (blk_cell BK236.out 1).trans rfl, (blk_cell BK236.out 2).trans rfl, (blk_cell BK236.out 3).trans rfl, (blk_cell BK236.out 4).trans rfl, sqc9 BK237.out⟩ (fun hHeld => ?_)
        clear hK K
        refine norm_ t_35 ?_
        refine one_ (i := 3) (N := some 25) q11_10f rfl rfl (one_of HT_.out t_6f) (by decide) (fun K hK => ?_)
        refine goes_ Try.func39 t_6f rfl #[.agg #[.int .i64 a1_0, .int .i64 a1_1, .string a1_2, .string a1_3, .string a1_4, .int .i64 a1_5, .int .i64 a1_6, .string a1_7, .int .i64 a1_8]] (by rfl) rfl rfl t_2b ?_
        with_reducible refine (culetlaw54_event.calls a1_0 a1_1 a1_2 a1_3 a1_4 a1_5 a1_6 a1_7 a1_8 t254 t255 t256 t257 t258 t259 t260 t261 t262 _ A28.out).mono ?_
        rintro e w59 ⟨rfl, hb⟩
        refine ⟨_, rfl, ?_⟩
        replace HO248 := Aside0.mk (Kd.R_below (rl HO248.out) hb)
        replace HO251 := Aside0.mk (Kd.V_below (vl HO251.out) hb)
        replace BK236 := Aside0.mk (blk_below (g := gb236) (bl BK236.out) hb)
        replace BK237 := Aside0.mk (blk_below (g := gb237) (bl BK237.out) hb)
        replace BK273 := Aside0.mk (blk_below (g := gb273) (bl BK273.out) hb)
        replace HB := Aside0.mk (below_step t_11 hb)
        (try clear hb)
        (try clear hk)
        obtain ⟨Ao60, co60, eo60⟩ := Kd.R_slice HO248.out
        (first | subst eo60 | (injection eo60 with f1_ f2_ f3_; have f4_ := f1_.symm; have f5_ := f3_.symm; clear f1_ f2_ f3_; subst f4_; subst f5_))
        obtain ⟨Ao61, co61, eo61⟩ := Kd.V_slice HO251.out
        (first | subst eo61 | (injection eo61 with f1_ f2_ f3_; have f4_ := f1_.symm; have f5_ := f3_.symm; clear f1_ f2_ f3_; subst f4_; subst f5_))
        refine hK.out _ _ ⟨(blk_cell BK236.out 0).trans rfl, (blk_cell BK236.out 1).trans rfl, (blk_cell BK236.out 2).trans rfl, (blk_cell BK236.out 3).trans rfl, (blk_cell BK236.out 4).trans rfl, sqc9 BK237.out⟩ (fun hHeld => ?_)
        clear hK K
        refine norm_ t_33 ?_
        refine one_ (i := 4) (N := some 26) q11_11f rfl rfl (one_of HT_.out t_6f) (by decide) (fun K hK => ?_)
        refine goes_ Try.func37 t_6f rfl #[.agg #[.int .i64 t245, .slice Ao60 t246.length co60, .slice Ao61 t249.length co61, .int .i64 t252, .int .i64 t253], .agg #[.int .i64 t254, .int .i64 t255, .string t256, .string t257, .string t258, .int .i64 t259, .int .i64 t260, .string t261, .int .i64 t262]] (by rfl) rfl rfl t_2b ?_
        with_reducible refine (job_Do.calls t245 _ _ t246 _ _ t249 t252 t253 t254 t255 t256 t257 t258 t259 t260 t261 t262 t263 t264 t267 t270 t271 t272 _ ?side1 ?side2 ?side3 ?side4 A29.out).mono ?_
        (case side1 => exact cl ((Kd.R_reads' HO248.out).2.2))
        (case side2 => exact (Kd.R_reads' HO248.out).2.1)
        (case side3 => exact cl ((Kd.V_reads' HO251.out).2.2))
        (case side4 => exact (Kd.V_reads' HO251.out).2.1)
        rintro e w62 ⟨v265, v268, rfl, ho0, ho1, hb⟩
        refine ⟨_, rfl, ?_⟩
        replace HO251 := Aside0.mk (Kd.V_mono (Kd.V_told (Kd.V_told (Kd.V_old (vl HO251.out) hb) (Kd.R_base ho0)) (Kd.R_base ho1)) (fun _ h_ => h_.1))
        have HO266 := Aside0.mk (Kd.R_lower (Kd.R_new' ho0 (Kd.R_lt (rl HO248.out))) (below_size t_11))
        replace HO248 := Aside0.mk (Kd.R_elder' (rl HO248.out) (Kd.R_base ho0) hb)
        have HO269 := Aside0.mk (Kd.R_lower ho1 (below_size t_11))
        replace BK236 := Aside0.mk (blk_below (g := gb236) (bl BK236.out) hb)
        replace BK237 := Aside0.mk (blk_below (g := gb237) (bl BK237.out) hb)
        replace BK273 := Aside0.mk (blk_below (g := gb273) (bl BK273.out) hb)
        replace HB := Aside0.mk (below_step t_11 hb)
        (try clear hb)
        (try clear ho0)
        (try clear ho1)
        refine hK.out _ _ ⟨(blk_cell BK236.out 0).trans rfl, (blk_cell BK236.out 1).trans rfl, (blk_cell BK236.out 2).trans rfl, (blk_cell BK236.out 3).trans rfl, (blk_cell BK236.out 4).trans rfl, sqc9 BK237.out⟩ (fun hHeld => ?_)
        clear hK K
        refine norm_ t_34 ?_
        refine p_ (i := 5) (N := some 21) q11_13f rfl rfl (any_of HT_.out t_6f) ?_
        refine p_ (i := 6) (N := some 27) q11_17f rfl rfl (any_of HT_.out t_6f) ?_
        refine p_ (i := 7) (N := some 28) q11_1ff rfl rfl (any_of HT_.out t_6f) ?_
        exact norm_ t_46 (hCont (.slice Ao60 t246.length co60, .slice Ao61 t249.length co61, v265, v268, gb273) _ ⟨hHeld, t_38, t_13, t_39, (rl HO269.out), (bl BK236.out), (bl BK237.out), (bl BK273.out), GW273.out, GE273.out, NB236_273.out, NB273_236.out, NB237_273.out, NB273_237.out, t_11⟩)
      ·skip
       refine box_step ?hg (N := 5) ?hd (cs := #[.int .i64 0, .slice none 0 0, .slice none 0 0, .int .i64 0, .int .i64 0]) (t := 77) ?hr ?_; (case hd => rfl); (case hg => rfl); (case hr => go_simp; try rfl)
       intro gb273 hg w57 hbox hb
       have BK273 := Aside0.mk (hbox)
       have GW273 := Aside0.mk ((by rw [hg]; exact (below_size t_1a) : w.heap.size ≤ gb273))
       have GE273 := Aside0.mk ((by rw [hg]; exact (below_size t_1a) : w.heap.size ≤ gb273))
       replace HB := Aside0.mk (below_step t_1a hb)
       have NB236_273 := Aside0.mk ((by rw [hg]; exact Nat.ne_of_lt (blk_lt (g := gb236) (bl BK236.out)) : gb236 ≠ gb273))
       have NB273_236 := Aside0.mk ((by rw [hg]; exact Nat.ne_of_gt (blk_lt (g := gb236) (bl BK236.out)) : gb273 ≠ gb236))
       replace BK236 := Aside0.mk (blk_below (g := gb236) (bl BK236.out) hb)
       have NB237_273 := Aside0.mk ((by rw [hg]; exact Nat.ne_of_lt (blk_lt (g := gb237) (bl BK237.out)) : gb237 ≠ gb273))
       have NB273_237 := Aside0.mk ((by rw [hg]; exact Nat.ne_of_gt (blk_lt (g := gb237) (bl BK237.out)) : gb273 ≠ gb237))
       replace BK237 := Aside0.mk (blk_below (g := gb237) (bl BK237.out) hb)
       clear hb hbox hg
       refine hK.out _ _ ⟨(blk_cell BK236.out 0).trans rfl, (blk_cell BK236.out 1).trans rfl, (blk_cell BK236.out 2).trans rfl, (blk_cell BK236.out 3).trans rfl, (blk_cell BK236.out 4).trans rfl, sqc9 BK237.out⟩ (fun hHeld => ?_)
       clear hK K
       refine norm_ t_35 ?_
       refine one_ (i := 1) (N := some 23) q11_107 rfl rfl (one_of HT_.out t_6f) (by decide) (fun K hK => ?_)
       refine goes_ Try.func38 t_6f rfl #[.agg #[.int .i64 a0_0, .slice A0_1 l0_1.length c0_1, .slice A0_2 l0_2.length c0_2, .int .i64 a0_3, .int .i64 a0_4]] (by rfl) rfl rfl t_2b ?_
       with_reducible refine (culetlaw54_Own.calls kj2 a0_0 _ _ l0_1 (fun k_ => k_ < w.heap.size) _ _ l0_2 a0_3 a0_4 t245 t246 t249 t252 t253 _ ?side1 ?side2 ?side3 A27.out).mono ?_
       (case side1 => exact cl ((Kd.C_below HR0_1.out HB.out)))
       (case side2 => exact HC0_1.out)
       (case side3 => exact Kd.V_mk HC0_2.out (Kd.F_below (Kd.C_F k24_heap HR0_2.out) t_11))
       rintro e w58 ⟨v247, v250, rfl, ho0, ho1, hb⟩
       refine ⟨_, rfl, ?_⟩
       have HO248 := Aside0.mk (Kd.R_lower (Kd.R_mono (ok' := fun k_ => True) ho0 (fun _ hk_ => trivial)) (below_size t_11))
       have HO251 := Aside0.mk (Kd.V_lower (Kd.V_mono (ok' := fun k_ => some k_ ≠ (v247 : Value).ownBlock ∧ k_ ≠ gb236 ∧ k_ ≠ gb237 ∧ k_ ≠ gb273) ho1 (fun k_ hk_ => ⟨hk_.2, Or.elim hk_.1 (fun hs_ => fun e_ => Nat.not_le.2 hs_ (by rw [e_]; exact GW236.out)) (fun hn_ => (Kd.freshB (g := gb236) (bl BK236.out) k_ hn_)), Or.elim hk_.1 (fun hs_ => fun e_ => Nat.not_le.2 hs_ (by rw [e_]; exact GW237.out)) (fun hn_ => (Kd.freshB (g := gb237) (bl BK237.out) k_ hn_)), Or.elim hk_.1 (fun hs_ => fun e_ => Nat.not_le.2 hs_ (by rw [e_]; exact GW273.out)) (fun hn_ => (Kd.freshB (g := gb273) (bl BK273.out) k_ hn_))⟩)) (below_size t_11))
       replace BK236 := Aside0.mk (blk_below (g := gb236) (bl BK236.out) hb)
       replace BK237 := Aside0.mk (blk_below (g := gb237) (bl BK237.out) hb)
       replace BK273 := Aside0.mk (blk_below (g := gb273) (bl BK273.out) hb)
       replace HB := Aside0.mk (below_step t_11 hb)
       (try clear hb)
       (try clear hk)
       (try clear ho0)
       (try clear ho1)
       refine hK.out _ _ ⟨(blk_cell BK236.out 0).trans rfl, (blk_cell BK236.out 1).trans rfl, (blk_cell BK236.out 2).trans rfl, (blk_cell BK236.out 3).trans rfl, (blk_cell BK236.out 4).trans rfl, sqc9 BK237.out⟩ (fun hHeld => ?_)
       clear hK K
       refine norm_ t_32 ?_
       refine one_ (i := 3) (N := some 25) q11_10f rfl rfl (one_of HT_.out t_6f) (by decide) (fun K hK => ?_)
       refine goes_ Try.func39 t_6f rfl #[.agg #[.int .i64 a1_0, .int .i64 a1_1, .string a1_2, .string a1_3, .string a1_4, .int .i64 a1_5, .int .i64 a1_6, .string a1_7, .int .i64 a1_8]] (by rfl) rfl rfl t_2b ?_
       with_reducible refine (culetlaw54_event.calls a1_0 a1_1 a1_2 a1_3 a1_4 a1_5 a1_6 a1_7 a1_8 t254 t255 t256 t257 t258 t259 t260 t261 t262 _ A28.out).mono ?_
       rintro e w59 ⟨rfl, hb⟩
       refine ⟨_, rfl, ?_⟩
       replace HO248 := Aside0.mk (Kd.R_below (rl HO248.out) hb)
       replace HO251 := Aside0.mk (Kd.V_below (vl HO251.out) hb)
       replace BK236 := Aside0.mk (blk_below (g := gb236) (bl BK236.out) hb)
       replace BK237 := Aside0.mk (blk_below (g := gb237) (bl BK237.out) hb)
       replace BK273 := Aside0.mk (blk_below (g := gb273) (bl BK273.out) hb)
       replace HB := Aside0.mk (below_step t_11 hb)
       (try clear hb)
       (try clear hk)
       obtain ⟨Ao60, co60, eo60⟩ := Kd.R_slice HO248.out
       (first | subst eo60 | (injection eo60 with f1_ f2_ f3_; have f4_ := f1_.symm; have f5_ := f3_.symm; clear f1_ f2_ f3_; subst f4_; subst f5_))
       obtain ⟨Ao61, co61, eo61⟩ := Kd.V_slice HO251.out
       (first | subst eo61 | (injection eo61 with f1_ f2_ f3_; have f4_ := f1_.symm; have f5_ := f3_.symm; clear f1_ f2_ f3_; subst f4_; subst f5_))
       refine hK.out _ _ ⟨(blk_cell BK236.out 0).trans rfl, (blk_cell BK236.out 1).trans rfl, (blk_cell BK236.out 2).trans rfl, (blk_cell BK236.out 3).trans rfl, (blk_cell BK236.out 4).trans rfl, sqc9 BK237.out⟩ (fun hHeld => ?_)
       clear hK K
       refine norm_ t_33 ?_
       refine one_ (i := 4) (N := some 26) q11_11f rfl rfl (one_of HT_.out t_6f) (by decide) (fun K hK => ?_)
       refine goes_ Try.func37 t_6f rfl #[.agg #[.int .i64 t245, .slice Ao60 t246.length co60, .slice Ao61 t249.length co61, .int .i64 t252, .int .i64 t253], .agg #[.int .i64 t254, .int .i64 t255, .string t256, .string t257, .string t258, .int .i64 t259, .int .i64 t260, .string t261, .int .i64 t262]] (by rfl) rfl rfl t_2b ?_
       with_reducible refine (job_Do.calls t245 _ _ t246 _ _ t249 t252 t253 t254 t255 t256 t257 t258 t259 t260 t261 t262 t263 t264 t267 t270 t271 t272 _ ?side1 ?side2 ?side3 ?side4 A29.out).mono ?_
       (case side1 => exact cl ((Kd.R_reads' HO248.out).2.2))
       (case side2 => exact (Kd.R_reads' HO248.out).2.1)
       (case side3 => exact cl ((Kd.V_reads' HO251.out).2.2))
       (case side4 => exact (Kd.V_reads' HO251.out).2.1)
       rintro e w62 ⟨v265, v268, rfl, ho0, ho1, hb⟩
       refine ⟨_, rfl, ?_⟩
       replace HO251 := Aside0.mk (Kd.V_mono (Kd.V_told (Kd.V_told (Kd.V_old (vl HO251.out) hb) (Kd.R_base ho0)) (Kd.R_base ho1)) (fun _ h_ => h_.1))
       have HO266 := Aside0.mk (Kd.R_lower (Kd.R_new' ho0 (Kd.R_lt (rl HO248.out))) (below_size t_11))
       replace HO248 := Aside0.mk (Kd.R_elder' (rl HO248.out) (Kd.R_base ho0) hb)
       have HO269 := Aside0.mk (Kd.R_lower ho1 (below_size t_11))
       replace BK236 := Aside0.mk (blk_below (g := gb236) (bl BK236.out) hb)
       replace BK237 := Aside0.mk (blk_below (g := gb237) (bl BK237.out) hb)
       replace BK273 := Aside0.mk (blk_below (g := gb273) (bl BK273.out) hb)
       replace HB := Aside0.mk (below_step t_11 hb)
       (try clear hb)
       (try clear ho0)
       (try clear ho1)
       refine hK.out _ _ ⟨(blk_cell BK236.out 0).trans rfl, (blk_cell BK236.out 1).trans rfl, (blk_cell BK236.out 2).trans rfl, (blk_cell BK236.out 3).trans rfl, (blk_cell BK236.out 4).trans rfl, sqc9 BK237.out⟩ (fun hHeld => ?_)
       clear hK K
       refine norm_ t_34 ?_
       refine p_ (i := 5) (N := some 21) q11_13f rfl rfl (any_of HT_.out t_6f) ?_
       refine p_ (i := 6) (N := some 27) q11_17f rfl rfl (any_of HT_.out t_6f) ?_
       refine p_ (i := 7) (N := some 28) q11_1ff rfl rfl (any_of HT_.out t_6f) ?_
       exact norm_ t_46 (hCont (.slice Ao60 t246.length co60, .slice Ao61 t249.length co61, v265, v268, gb273) _ ⟨hHeld, t_38, t_14, t_39, (rl HO269.out), (bl BK236.out), (bl BK237.out), (bl BK273.out), GW273.out, GE273.out, NB236_273.out, NB273_236.out, NB237_273.out, NB273_237.out, t_11⟩)
     rintro ⟨v247, v250, v265, v268, gb273⟩ w63 ⟨hS_, h0_, h1_, h2_, h3_, h4_, h5_, h6_, h7_, h8_, h9_, h10_, h11_, h12_, h13_⟩
     have n0_ : Aside0 (Kd.R k99 99 w63 w.heap.size (fun k_ => some k_ ≠ (v265 : Value).ownBlock) v247 t246) := ⟨h0_⟩
     have n1_ : Aside0 (Kd.V k24 24 w63 w.heap.size (fun k_ => some k_ ≠ (v247 : Value).ownBlock ∧ some k_ ≠ (v265 : Value).ownBlock ∧ some k_ ≠ (v268 : Value).ownBlock ∧ k_ ≠ gb236 ∧ k_ ≠ gb237 ∧ k_ ≠ gb273) v250 t249) := ⟨h1_⟩
     have n2_ : Aside0 (Kd.R k99 99 w63 w.heap.size (fun k_ => some k_ ≠ (v247 : Value).ownBlock) v265 t264) := ⟨h2_⟩
     have n3_ : Aside0 (Kd.R k24 24 w63 w.heap.size (fun _ => True) v268 t267) := ⟨h3_⟩
     have n4_ : Aside0 (w63.heap[gb236]? = some (.cells #[.int .i64 a0_0, .slice A0_1 l0_1.length c0_1, .slice A0_2 l0_2.length c0_2, .int .i64 a0_3, .int .i64 a0_4] 67 (0, 0))) := ⟨h4_⟩
     have n5_ : Aside0 (w63.heap[gb237]? = some (.cells #[.int .i64 a1_0, .int .i64 a1_1, .string a1_2, .string a1_3, .string a1_4, .int .i64 a1_5, .int .i64 a1_6, .string a1_7, .int .i64 a1_8] 71 (0, 0))) := ⟨h5_⟩
     have n6_ : Aside0 (w63.heap[gb273]? = some (.cells #[.int .i64 0, .slice none 0 0, .slice none 0 0, .int .i64 0, .int .i64 0] 77 (0, 0))) := ⟨h6_⟩
     have n7_ : Aside0 (w.heap.size ≤ gb273) := ⟨h7_⟩
     have n8_ : Aside0 (w.heap.size ≤ gb273) := ⟨h8_⟩
     have n9_ : Aside0 (gb236 ≠ gb273) := ⟨h9_⟩
     have n10_ : Aside0 (gb273 ≠ gb236) := ⟨h10_⟩
     have n11_ : Aside0 (gb237 ≠ gb273) := ⟨h11_⟩
     have n12_ : Aside0 (gb273 ≠ gb237) := ⟨h12_⟩
     have n13_ : Aside0 (Below w.heap.size w w63) := ⟨h13_⟩
     clear BK236
     clear BK237
     clear HB
     clear h0_ h1_ h2_ h3_ h4_ h5_ h6_ h7_ h8_ h9_ h10_ h11_ h12_ h13_
     have HO248 := n0_
     have HO251 := n1_
     have HO266 := n2_
     have HO269 := n3_
     have BK236 := n4_
     have BK237 := n5_
     have BK273 := n6_
     have GW273 := n7_
     have GE273 := n8_
     have NB236_273 := n9_
     have NB273_236 := n10_
     have NB237_273 := n11_
     have NB273_237 := n12_
     have HB := n13_
     clear n0_ n1_ n2_ n3_ n4_ n5_ n6_ n7_ n8_ n9_ n10_ n11_ n12_ n13_
     have hHeld : w63.cell? ⟨gb236, 0, none⟩ = some (.int .i64 a0_0) ∧ w63.cell? ⟨gb236, 1, none⟩ = some (.slice A0_1 l0_1.length c0_1) ∧ w63.cell? ⟨gb236, 2, none⟩ = some (.slice A0_2 l0_2.length c0_2) ∧ w63.cell? ⟨gb236, 3, none⟩ = some (.int .i64 a0_3) ∧ w63.cell? ⟨gb236, 4, none⟩ = some (.int .i64 a0_4) ∧ w63.cell? ⟨gb237, 0, none⟩ = some (.int .i64 a1_0) ∧ w63.cell? ⟨gb237, 1, none⟩ = some (.int .i64 a1_1) ∧ w63.cell? ⟨gb237, 2, none⟩ = some (.string a1_2) ∧ w63.cell? ⟨gb237, 3, none⟩ = some (.string a1_3) ∧ w63.cell? ⟨gb237, 4, none⟩ = some (.string a1_4) ∧ w63.cell? ⟨gb237, 5, none⟩ = some (.int .i64 a1_5) ∧ w63.cell? ⟨gb237, 6, none⟩ = some (.int .i64 a1_6) ∧ w63.cell? ⟨gb237, 7, none⟩ = some (.string a1_7) ∧ w63.cell? ⟨gb237, 8, none⟩ = some (.int .i64 a1_8) := hS_
     obtain ⟨Ao65, co65, eo65⟩ := Kd.R_slice HO266.out
     (first | subst eo65 | (injection eo65 with f1_ f2_ f3_; have f4_ := f1_.symm; have f5_ := f3_.symm; clear f1_ f2_ f3_; subst f4_; subst f5_))
     obtain ⟨Ao67, co67, eo67⟩ := Kd.R_slice HO269.out
     (first | subst eo67 | (injection eo67 with f1_ f2_ f3_; have f4_ := f1_.symm; have f5_ := f3_.symm; clear f1_ f2_ f3_; subst f4_; subst f5_))
     refine norm_ (a' := ?_) ?_ ?_
     rotate_left
     ·simp only [putAll, Act.put, List.setIfInBounds_toArray, List.set_cons_zero, List.set_cons_succ]
      rfl
     refine one_ (i := 9) (N := none) q11_3ff rfl rfl (one_of HT_.out t_6f) (by decide) (fun K hK => ?_)
     have hs64 : w63.cell? ⟨gb273, 0, none⟩ = some (.int .i64 0) := (blk_cell BK273.out 0).trans rfl
     have hfs64 := blk_frozen BK273.out 0
     have hns64_0 := NB236_273.out
     have hns64_1 := NB237_273.out
     have hms64_0 := NB273_236.out
     have hms64_1 := NB273_237.out
     have hs66 : w63.cell? ⟨gb273, 1, none⟩ = some (.slice none 0 0) := (blk_cell BK273.out 1).trans rfl
     have hfs66 := blk_frozen BK273.out 1
     have hns66_0 := NB236_273.out
     have hns66_1 := NB237_273.out
     have hms66_0 := NB273_236.out
     have hms66_1 := NB273_237.out
     have hs68 : w63.cell? ⟨gb273, 2, none⟩ = some (.slice none 0 0) := (blk_cell BK273.out 2).trans rfl
     have hfs68 := blk_frozen BK273.out 2
     have hns68_0 := NB236_273.out
     have hns68_1 := NB237_273.out
     have hms68_0 := NB273_236.out
     have hms68_1 := NB273_237.out
     have hs69 : w63.cell? ⟨gb273, 3, none⟩ = some (.int .i64 0) := (blk_cell BK273.out 3).trans rfl
     have hfs69 := blk_frozen BK273.out 3
     have hns69_0 := NB236_273.out
     have hns69_1 := NB237_273.out
     have hms69_0 := NB273_236.out
     have hms69_1 := NB273_237.out
     have hs70 : w63.cell? ⟨gb273, 4, none⟩ = some (.int .i64 0) := (blk_cell BK273.out 4).trans rfl
     have hfs70 := blk_frozen BK273.out 4
     have hns70_0 := NB236_273.out
     have hns70_1 := NB237_273.out
     have hms70_0 := NB273_236.out
     have hms70_1 := NB273_237.out
     refine skip_ (w1 := ?_) (by rfl) rfl ?_ ?_
     rotate_left
     ·go_simp
      rfl
     refine hK.out _ _ ⟨((cell_far (p := ⟨gb273, _, none⟩) NB236_273.out _).trans (((cell_far (p := ⟨gb273, _, none⟩) NB236_273.out _).trans (((cell_far (p := ⟨gb273, _, none⟩) NB236_273.out _).trans (((cell_far (p := ⟨gb273, _, none⟩) NB236_273.out _).trans (((cell_far (p := ⟨gb273, _, none⟩) NB236_273.out _).trans (hHeld.1)))))))))), ((cell_far (p := ⟨gb273, _, none⟩) NB236_273.out _).trans (((cell_far (p := ⟨gb273, _, none⟩) NB236_273.out _).trans (((cell_far (p := ⟨gb273, _, none⟩) NB236_273.out _).trans (((cell_far (p := ⟨gb273, _, none⟩) NB236_273.out _).trans (((cell_far (p := ⟨gb273, _, none⟩) NB236_273.out _).trans (hHeld.2.1)))))))))), ((cell_far (p := ⟨gb273, _, none⟩) NB236_273.out _).trans (((cell_far (p := ⟨gb273, _, none⟩) NB236_273.out _).trans (((cell_far (p := ⟨gb273, _, none⟩) NB236_273.out _).trans (((cell_far (p := ⟨gb273, _, none⟩) NB236_273.out _).trans (((cell_far (p := ⟨gb273, _, none⟩) NB236_273.out _).trans (hHeld.2.2.1)))))))))), ((cell_far (p := ⟨gb273, _, none⟩) NB236_273.out _).trans (((cell_far (p := ⟨gb273, _, none⟩) NB236_273.out _).trans (((cell_far (p := ⟨gb273, _, none⟩) NB236_273.out _).trans (((cell_far (p := ⟨gb273, _, none⟩) NB236_273.out _).trans (((cell_far (p := ⟨gb273, _, none⟩) NB236_273.out _).trans (hHeld.2.2.2.1)))))))))), ((cell_far (p := ⟨gb273, _, none⟩) NB236_273.out _).trans (((cell_far (p := ⟨gb273, _, none⟩) NB236_273.out _).trans (((cell_far (p := ⟨gb273, _, none⟩) NB236_273.out _).trans (((cell_far (p := ⟨gb273, _, none⟩) NB236_273.out _).trans (((cell_far (p := ⟨gb273, _, none⟩) NB236_273.out _).trans (hHeld.2.2.2.2.1)))))))))), ((cell_far (p := ⟨gb273, _, none⟩) NB237_273.out _).trans (((cell_far (p := ⟨gb273, _, none⟩) NB237_273.out _).trans (((cell_far (p := ⟨gb273, _, none⟩) NB237_273.out _).trans (((cell_far (p := ⟨gb273, _, none⟩) NB237_273.out _).trans (((cell_far (p := ⟨gb273, _, none⟩) NB237_273.out _).trans (hHeld.2.2.2.2.2.1)))))))))), ((cell_far (p := ⟨gb273, _, none⟩) NB237_273.out _).trans (((cell_far (p := ⟨gb273, _, none⟩) NB237_273.out _).trans (((cell_far (p := ⟨gb273, _, none⟩) NB237_273.out _).trans (((cell_far (p := ⟨gb273, _, none⟩) NB237_273.out _).trans (((cell_far (p := ⟨gb273, _, none⟩) NB237_273.out _).trans (hHeld.2.2.2.2.2.2.1)))))))))), ((cell_far (p := ⟨gb273, _, none⟩) NB237_273.out _).trans (((cell_far (p := ⟨gb273, _, none⟩) NB237_273.out _).trans (((cell_far (p := ⟨gb273, _, none⟩) NB237_273.out _).trans (((cell_far (p := ⟨gb273, _, none⟩) NB237_273.out _).trans (((cell_far (p := ⟨gb273, _, none⟩) NB237_273.out _).trans (hHeld.2.2.2.2.2.2.2.1)))))))))), ((cell_far (p := ⟨gb273, _, none⟩) NB237_273.out _).trans (((cell_far (p := ⟨gb273, _, none⟩) NB237_273.out _).trans (((cell_far (p := ⟨gb273, _, none⟩) NB237_273.out _).trans (((cell_far (p := ⟨gb273, _, none⟩) NB237_273.out _).trans (((cell_far (p := ⟨gb273, _, none⟩) NB237_273.out _).trans (hHeld.2.2.2.2.2.2.2.2.1)))))))))), ((cell_far (p := ⟨gb273, _, none⟩) NB237_273.out _).trans (((cell_far (p := ⟨gb273, _, none⟩) NB237_273.out _).trans (((cell_far (p := ⟨gb273, _, none⟩) NB237_273.out _).trans (((cell_far (p := ⟨gb273, _, none⟩) NB237_273.out _).trans (((cell_far (p := ⟨gb273, _, none⟩) NB237_273.out _).trans (hHeld.2.2.2.2.2.2.2.2.2.1)))))))))), ((cell_far (p := ⟨gb273, _, none⟩) NB237_273.out _).trans (((cell_far (p := ⟨gb273, _, none⟩) NB237_273.out _).trans (((cell_far (p := ⟨gb273, _, none⟩) NB237_273.out _).trans (((cell_far (p := ⟨gb273, _, none⟩) NB237_273.out _).trans (((cell_far (p := ⟨gb273, _, none⟩) NB237_273.out _).trans (hHeld.2.2.2.2.2.2.2.2.2.2.1)))))))))), ((cell_far (p := ⟨gb273, _, none⟩) NB237_273.out _).trans (((cell_far (p := ⟨gb273, _, none⟩) NB237_273.out _).trans (((cell_far (p := ⟨gb273, _, none⟩) NB237_273.out _).trans (((cell_far (p := ⟨gb273, _, none⟩) NB237_273.out _).trans (((cell_far (p := ⟨gb273, _, none⟩) NB237_273.out _).trans (hHeld.2.2.2.2.2.2.2.2.2.2.2.1)))))))))), ((cell_far (p := ⟨gb273, _, none⟩) NB237_273.out _).trans (((cell_far (p := ⟨gb273, _, none⟩) NB237_273.out _).trans (((cell_far (p := ⟨gb273, _, none⟩) NB237_273.out _).trans (((cell_far (p := ⟨gb273, _, none⟩) NB237_273.out _).trans (((cell_far (p := ⟨gb273, _, none⟩) NB237_273.out _).trans (hHeld.2.2.2.2.2.2.2.2.2.2.2.2.1)))))))))), ((cell_far (p := ⟨gb273, _, none⟩) NB237_273.out _).trans (((cell_far (p := ⟨gb273, _, none⟩) NB237_273.out _).trans (((cell_far (p := ⟨gb273, _, none⟩) NB237_273.out _).trans (((cell_far (p := ⟨gb273, _, none⟩) NB237_273.out _).trans (((cell_far (p := ⟨gb273, _, none⟩) NB237_273.out _).trans (hHeld.2.2.2.2.2.2.2.2.2.2.2.2.2))))))))))⟩ (fun hHeld => ?_)
     clear hK K
     refine p_ (i := 10) (N := some 6) q11_7ff rfl rfl (any_of HT_.out t_6f) ?_
     refine done_ (done_of HT_.out t_6f) ?_
     try go_wp2
     have n0_ : Aside0 (Kd.R k99 99 (((((w63.setCell ⟨gb273, 0, none⟩ (.int .i64 t263)).setCell ⟨gb273, 1, none⟩ (.slice Ao65 t264.length co65)).setCell ⟨gb273, 2, none⟩ (.slice Ao67 t267.length co67)).setCell ⟨gb273, 3, none⟩ (.int .i64 t270)).setCell ⟨gb273, 4, none⟩ (.int .i64 t271)) w.heap.size (fun k_ => some k_ ≠ (.slice Ao65 t264.length co65 : Value).ownBlock) v247 t246) := ⟨by (with_reducible repeat (first | apply Kd.R_alloc | apply Kd.R_drewN | apply Kd.R_drew)); exact Kd.R_mono (Kd.R_far (p := ⟨gb273, 4, none⟩) (Kd.R_far (p := ⟨gb273, 3, none⟩) (Kd.R_far (p := ⟨gb273, 2, none⟩) (Kd.R_far (p := ⟨gb273, 1, none⟩) (Kd.R_far (p := ⟨gb273, 0, none⟩) (Kd.R_types HO248.out BK273.out (by decide)) (fun _ hk => hk.2) (.int .i64 t263)) (fun _ hk => hk.2) (.slice Ao65 t264.length co65)) (fun _ hk => hk.2) (.slice Ao67 t267.length co67)) (fun _ hk => hk.2) (.int .i64 t270)) (fun _ hk => hk.2) (.int .i64 t271)) (fun _ hk => hk.1)⟩
     have n1_ : Aside0 (Kd.V k24 24 (((((w63.setCell ⟨gb273, 0, none⟩ (.int .i64 t263)).setCell ⟨gb273, 1, none⟩ (.slice Ao65 t264.length co65)).setCell ⟨gb273, 2, none⟩ (.slice Ao67 t267.length co67)).setCell ⟨gb273, 3, none⟩ (.int .i64 t270)).setCell ⟨gb273, 4, none⟩ (.int .i64 t271)) w.heap.size (fun k_ => some k_ ≠ (v247 : Value).ownBlock ∧ some k_ ≠ (.slice Ao65 t264.length co65 : Value).ownBlock ∧ some k_ ≠ (.slice Ao67 t267.length co67 : Value).ownBlock ∧ k_ ≠ gb236 ∧ k_ ≠ gb237 ∧ k_ ≠ gb273) v250 t249) := ⟨by (with_reducible repeat (first | apply Kd.V_alloc | apply Kd.V_drewN | apply Kd.V_drew)); exact Kd.V_mono (Kd.V_far (p := ⟨gb273, 4, none⟩) (Kd.V_far (p := ⟨gb273, 3, none⟩) (Kd.V_far (p := ⟨gb273, 2, none⟩) (Kd.V_far (p := ⟨gb273, 1, none⟩) (Kd.V_far (p := ⟨gb273, 0, none⟩) (Kd.V_mono HO251.out (fun k_ hk => (⟨hk, hk.2.2.2.2.2⟩ : _ ∧ k_ ≠ gb273))) (fun _ hk => hk.2) (.int .i64 t263)) (fun _ hk => hk.2) (.slice Ao65 t264.length co65)) (fun _ hk => hk.2) (.slice Ao67 t267.length co67)) (fun _ hk => hk.2) (.int .i64 t270)) (fun _ hk => hk.2) (.int .i64 t271)) (fun _ hk => ⟨hk.1.1, ⟨hk.1.2.1, ⟨hk.1.2.2.1, ⟨hk.1.2.2.2.1, ⟨hk.1.2.2.2.2.1, hk.1.2.2.2.2.2⟩⟩⟩⟩⟩)⟩
     have n2_ : Aside0 (Kd.R k99 99 (((((w63.setCell ⟨gb273, 0, none⟩ (.int .i64 t263)).setCell ⟨gb273, 1, none⟩ (.slice Ao65 t264.length co65)).setCell ⟨gb273, 2, none⟩ (.slice Ao67 t267.length co67)).setCell ⟨gb273, 3, none⟩ (.int .i64 t270)).setCell ⟨gb273, 4, none⟩ (.int .i64 t271)) w.heap.size (fun k_ => some k_ ≠ (v247 : Value).ownBlock) (.slice Ao65 t264.length co65) t264) := ⟨by (with_reducible repeat (first | apply Kd.R_alloc | apply Kd.R_drewN | apply Kd.R_drew)); exact Kd.R_mono (Kd.R_far (p := ⟨gb273, 4, none⟩) (Kd.R_far (p := ⟨gb273, 3, none⟩) (Kd.R_far (p := ⟨gb273, 2, none⟩) (Kd.R_far (p := ⟨gb273, 1, none⟩) (Kd.R_far (p := ⟨gb273, 0, none⟩) (Kd.R_types HO266.out BK273.out (by decide)) (fun _ hk => hk.2) (.int .i64 t263)) (fun _ hk => hk.2) (.slice Ao65 t264.length co65)) (fun _ hk => hk.2) (.slice Ao67 t267.length co67)) (fun _ hk => hk.2) (.int .i64 t270)) (fun _ hk => hk.2) (.int .i64 t271)) (fun _ hk => hk.1)⟩
     have n3_ : Aside0 (Kd.R k24 24 (((((w63.setCell ⟨gb273, 0, none⟩ (.int .i64 t263)).setCell ⟨gb273, 1, none⟩ (.slice Ao65 t264.length co65)).setCell ⟨gb273, 2, none⟩ (.slice Ao67 t267.length co67)).setCell ⟨gb273, 3, none⟩ (.int .i64 t270)).setCell ⟨gb273, 4, none⟩ (.int .i64 t271)) w.heap.size (fun _ => True) (.slice Ao67 t267.length co67) t267) := ⟨by (with_reducible repeat (first | apply Kd.R_alloc | apply Kd.R_drewN | apply Kd.R_drew)); exact Kd.R_mono (Kd.R_far (p := ⟨gb273, 4, none⟩) (Kd.R_far (p := ⟨gb273, 3, none⟩) (Kd.R_far (p := ⟨gb273, 2, none⟩) (Kd.R_far (p := ⟨gb273, 1, none⟩) (Kd.R_far (p := ⟨gb273, 0, none⟩) (Kd.R_types HO269.out BK273.out (by decide)) (fun _ hk => hk.2) (.int .i64 t263)) (fun _ hk => hk.2) (.slice Ao65 t264.length co65)) (fun _ hk => hk.2) (.slice Ao67 t267.length co67)) (fun _ hk => hk.2) (.int .i64 t270)) (fun _ hk => hk.2) (.int .i64 t271)) (fun _ hk => trivial)⟩
     have n4_ : Aside0 ((((((w63.setCell ⟨gb273, 0, none⟩ (.int .i64 t263)).setCell ⟨gb273, 1, none⟩ (.slice Ao65 t264.length co65)).setCell ⟨gb273, 2, none⟩ (.slice Ao67 t267.length co67)).setCell ⟨gb273, 3, none⟩ (.int .i64 t270)).setCell ⟨gb273, 4, none⟩ (.int .i64 t271)).heap[gb236]? = some (.cells #[.int .i64 a0_0, .slice A0_1 l0_1.length c0_1, .slice A0_2 l0_2.length c0_2, .int .i64 a0_3, .int .i64 a0_4] 67 (0, 0))) := ⟨t_5⟩
     have n5_ : Aside0 ((((((w63.setCell ⟨gb273, 0, none⟩ (.int .i64 t263)).setCell ⟨gb273, 1, none⟩ (.slice Ao65 t264.length co65)).setCell ⟨gb273, 2, none⟩ (.slice Ao67 t267.length co67)).setCell ⟨gb273, 3, none⟩ (.int .i64 t270)).setCell ⟨gb273, 4, none⟩ (.int .i64 t271)).heap[gb237]? = some (.cells #[.int .i64 a1_0, .int .i64 a1_1, .string a1_2, .string a1_3, .string a1_4, .int .i64 a1_5, .int .i64 a1_6, .string a1_7, .int .i64 a1_8] 71 (0, 0))) := ⟨t_6⟩
     have n6_ : Aside0 ((((((w63.setCell ⟨gb273, 0, none⟩ (.int .i64 t263)).setCell ⟨gb273, 1, none⟩ (.slice Ao65 t264.length co65)).setCell ⟨gb273, 2, none⟩ (.slice Ao67 t267.length co67)).setCell ⟨gb273, 3, none⟩ (.int .i64 t270)).setCell ⟨gb273, 4, none⟩ (.int .i64 t271)).heap[gb273]? = some (.cells #[.int .i64 t263, .slice Ao65 t264.length co65, .slice Ao67 t267.length co67, .int .i64 t270, .int .i64 t271] 77 (0, 0))) := ⟨t_f⟩
     have n7_ : Aside0 (Below w.heap.size w (((((w63.setCell ⟨gb273, 0, none⟩ (.int .i64 t263)).setCell ⟨gb273, 1, none⟩ (.slice Ao65 t264.length co65)).setCell ⟨gb273, 2, none⟩ (.slice Ao67 t267.length co67)).setCell ⟨gb273, 3, none⟩ (.int .i64 t270)).setCell ⟨gb273, 4, none⟩ (.int .i64 t271))) := ⟨t_11⟩
     (try clear HO248)
     (try clear HO251)
     (try clear HO266)
     (try clear HO269)
     (try clear BK236)
     (try clear BK237)
     (try clear BK273)
     (try clear HB)
     generalize (((((w63.setCell ⟨gb273, 0, none⟩ (.int .i64 t263)).setCell ⟨gb273, 1, none⟩ (.slice Ao65 t264.length co65)).setCell ⟨gb273, 2, none⟩ (.slice Ao67 t267.length co67)).setCell ⟨gb273, 3, none⟩ (.int .i64 t270)).setCell ⟨gb273, 4, none⟩ (.int .i64 t271)) = w71 at n0_ n1_ n2_ n3_ n4_ n5_ n6_ n7_ ⊢
     have HO248 := n0_
     have HO251 := n1_
     have HO266 := n2_
     have HO269 := n3_
     have BK236 := n4_
     have BK237 := n5_
     have BK273 := n6_
     have HB := n7_
     clear n0_ n1_ n2_ n3_ n4_ n5_ n6_ n7_
     replace HO248 := Aside0.mk (Kd.R_drew HO248.out)
     replace HO251 := Aside0.mk (Kd.V_drew HO251.out)
     replace HO266 := Aside0.mk (Kd.R_drew HO266.out)
     replace HO269 := Aside0.mk (Kd.R_drew HO269.out)
     replace BK236 := Aside0.mk (blk_drew BK236.out)
     replace BK237 := Aside0.mk (blk_drew BK237.out)
     replace BK273 := Aside0.mk (blk_drew BK273.out)
     replace HB := Aside0.mk (below_drew1 HB.out)
     refine start_ (n := 11) (S := fun w' => True) (ds := []) q11_0 t_6f rfl rfl trivial (fun hHeld => ?_); refine with_tabW culetlaw54_JobWeight.tab4 culetlaw54_JobWeight.bits4 (fun HT_ HW_ => ?_)
     generalize w71.drew = w72 at HO248 HO251 HO266 HO269 BK236 BK237 BK273 HB hHeld ⊢
     refine p_ (i := 0) (N := some 29) q11_1 rfl rfl (any_of HT_.out t_6f) ?_
     refine p_ (i := 1) (N := some 30) q11_3 rfl rfl (any_of HT_.out t_6f) ?_
     refine p_ (i := 2) (N := some 31) q11_7 rfl rfl (any_of HT_.out t_6f) ?_
     refine u_ (i := 3) (N := some 32) q11_f rfl rfl (any_of HT_.out t_6f) ?_
     refine u_ (i := 4) (N := some 33) q11_1f rfl rfl (any_of HT_.out t_6f) ?_
     refine u_ (i := 5) (N := some 34) q11_3f rfl rfl (any_of HT_.out t_6f) ?_
     refine u_ (i := 6) (N := some 35) q11_7f rfl rfl (any_of HT_.out t_6f) ?_
     refine u_ (i := 7) (N := some 36) q11_ff rfl rfl (any_of HT_.out t_6f) ?_
     refine u_ (i := 8) (N := some 37) q11_1ff rfl rfl (any_of HT_.out t_6f) ?_
     refine p_ (i := 9) (N := some 38) q11_3ff rfl rfl (any_of HT_.out t_6f) ?_
     refine p_ (i := 10) (N := some 4) q11_7ff rfl rfl (any_of HT_.out t_6f) ?_
     refine done_ (done_of HT_.out t_6f) ?_
     try go_wp2
     go_ret
     exact ⟨t_47, t_11⟩

/-- THE ONE PURE STATEMENT of culetlaw54_JobWeight: yours. -/
def culetlaw54_JobWeight.Pure : Prop := ∀ (x0 : S67) (x1 : S71), V67 x0 → V71 x1 → ∃ k, culetlaw54_JobWeight.f k x0.f0 x0.f1 x0.f2 x0.f3 x0.f4 x1.f0 x1.f1 x1.f2.f0 x1.f2.f1 x1.f2.f2 x1.f2.f3 x1.f2.f4 x1.f3 x1.f4 = some true

end Go.Proofs.Ytndbchcfjajgbaa.XP
