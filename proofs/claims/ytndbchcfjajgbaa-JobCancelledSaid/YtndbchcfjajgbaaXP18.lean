-- printed by xprint.py
import Derived.Test.YtndbchcfjajgbaaXB
import Derived.Test.YtndbchcfjajgbaaXP0
import Derived.Test.YtndbchcfjajgbaaXP1
import Derived.Test.YtndbchcfjajgbaaXP12
import Derived.Test.YtndbchcfjajgbaaXP14
import Derived.Test.YtndbchcfjajgbaaXP15
import Derived.Test.YtndbchcfjajgbaaXP16
namespace Go.Proofs.Ytndbchcfjajgbaa.XP
open Go.Proofs.Ytndbchcfjajgbaa.XB Go.Proofs.Ytndbchcfjajgbaa.XQ
open Go.Proofs.Ytndbchcfjajgbaa.XW
open Go.RowKit Go.Proofs.YtndbchcfjajgbaaW.PrintWords Go.Proofs.YtndbchcfjajgbaaW.PrintLast Go.Proofs.YtndbchcfjajgbaaW.PrintMore
attribute [local go_sem] max2_int min2_int max_two min_two max_three min_three max_four min_four   -- for this text's walks alone
set_option linter.unusedVariables false
set_option linter.unusedSimpArgs false

attribute [local go_sem high] eqA24
/-! ### culetlaw54_events: function 48 -/
def culetlaw54_events.l0 : Nat → List (S83) → List (S71) → Int → Int → Option ((List (S83)))
 | 0, _, _, _, _ => none
 | k + 1, x3, x6, x7, x8 => if x8 < x7 then (if 0 ≤ x8 then (if x8 < (x6.length : Int) then ((culetlaw54_event.f ((rd_T71 x6 x8).f0) ((rd_T71 x6 x8).f1) ((rd_T71 x6 x8).f2.f0) ((rd_T71 x6 x8).f2.f1) ((rd_T71 x6 x8).f2.f2) ((rd_T71 x6 x8).f2.f3) ((rd_T71 x6 x8).f2.f4) ((rd_T71 x6 x8).f3) ((rd_T71 x6 x8).f4)).bind fun bt287 => (if x3.length < 1353245080339 then (culetlaw54_events.l0 k (x3 ++ [(⟨bt287.1, bt287.2.1, (⟨bt287.2.2.1, bt287.2.2.2.1, bt287.2.2.2.2.1, bt287.2.2.2.2.2.1, bt287.2.2.2.2.2.2.1⟩ : S81), bt287.2.2.2.2.2.2.2.1, bt287.2.2.2.2.2.2.2.2⟩ : S83)]) x6 x7 (wrap64 (x8 + 1))) else (none))) else (none)) else (none)) else (some x3)
def culetlaw54_events.f (k : Nat) (l0 : List (S71)) : Option ((List (S83))) := culetlaw54_events.l0 k ([] : List (S83)) l0 (l0.length : Int) 0
theorem culetlaw54_events.mono_l : ∀ k, (∀ y0 y1 y2 y3, LeO (culetlaw54_events.l0 k y0 y1 y2 y3) (culetlaw54_events.l0 (k + 1) y0 y1 y2 y3))
 | 0 => fun _ _ _ _ r h => by simp [culetlaw54_events.l0] at h
 | k + 1 => by
  have ih0 := culetlaw54_events.mono_l k
  ·intro y0 y1 y2 y3
   unfold culetlaw54_events.l0
   repeat' first
   | (with_reducible exact ih0 _ _ _ _)
   | (with_reducible exact LeO.refl _)
   | (with_reducible exact LeO.none _)
   | (with_reducible refine LeO.ite ?_ ?_)
   | (with_reducible refine LeO.bind ?_ (fun _ => ?_))
   | exact ih0 _ _ _ _
   | exact LeO.none _
   | refine LeO.ite ?_ ?_
   | refine LeO.bind ?_ (fun _ => ?_)
theorem culetlaw54_events.mono : ∀ a0 k, LeO (culetlaw54_events.f k a0) (culetlaw54_events.f (k + 1) a0) := by
 intro a0 k
 have ih0 := culetlaw54_events.mono_l k
 unfold culetlaw54_events.f
 repeat' first
   | (with_reducible exact ih0 _ _ _ _)
   | (with_reducible exact LeO.refl _)
   | (with_reducible exact LeO.none _)
   | (with_reducible refine LeO.ite ?_ ?_)
   | (with_reducible refine LeO.bind ?_ (fun _ => ?_))
   | exact ih0 _ _ _ _
   | exact LeO.none _
   | refine LeO.ite ?_ ?_
   | refine LeO.bind ?_ (fun _ => ?_)
set_option maxHeartbeats 8000000 in
set_option maxRecDepth 100000 in
theorem culetlaw54_events.calls (k : Nat) (A0 : Option Addr) (c0 : Nat) (l0 : List (S71)) (r : List (S83)) (w : World) (hr0 : Kd.C k71 w A0 l0.length l0) (hc0 : l0.length ≤ c0) (h : culetlaw54_events.f k l0 = some r) :
  Calls Try.prog 48 #[.slice A0 l0.length c0] w fun e w' => ∃ v0_ : Value, e = .returned (v0_) ∧ Kd.R k83 83 w' w.heap.size (fun _ => True) v0_ r ∧ Below w.heap.size w w' := by
 have hu71 := Try.underlying71
 have HR0 := Aside0.mk hr0
 have HC0 := Aside0.mk hc0
 clear hr0 hc0
 have HB := Aside0.mk (Below.refl w.heap.size w)
 have H : (culetlaw54_events.l0 k ([] : List (S83)) l0 (l0.length : Int) 0) = some r := h
 clear h
 have H' := Aside0.mk H
 clear H
 go_enter Try.func48, Try.ntmps48
 go_wp2
 go_loopg [3, 8] k (fun kq v3 v8 w' => ∃ (x3_1 : List (S83)) (x8_1 : Int), v8 = .int .i64 x8_1 ∧ Aside0 (culetlaw54_events.l0 kq x3_1 l0 (l0.length : Int) x8_1 = some r) ∧ Aside0 (kq ≤ k) ∧ Aside0 (Kd.R k83 83 w' w.heap.size (fun _ => True) v3 x3_1) ∧ Aside0 (Below w.heap.size w w'))
 case atStart => exact ⟨(([] : List (S83))), (0), t_63, H', ⟨Nat.le_refl _⟩, ⟨t_33⟩, ⟨t_4c⟩⟩
 case round =>
  clear H'
  obtain ⟨x3_1, x8_1, rfl, HA, HK1, HO_3, HB⟩ := hrel
  cases gk with
  | zero => exact absurd HA.out (by simp [culetlaw54_events.l0])
  | succ k1 =>
   have H := HA.out
   clear HA
   simp only [culetlaw54_events.l0] at H
   by_cases c2 : x8_1 < (l0.length : Int)
   ·rw [if_pos c2] at H
    have c2b0 : decide (x8_1 < (l0.length : Int)) = true := decide_eq_true c2
    clear c2
    by_cases c3 : 0 ≤ x8_1
    ·rw [if_pos c3] at H
     have c3b0 : decide (0 ≤ x8_1) = true := decide_eq_true c3
     clear c3
     by_cases c4 : x8_1 < (l0.length : Int)
     ·rw [if_pos c4] at H
      have c4b0 : decide (x8_1 < (l0.length : Int)) = true := decide_eq_true c4
      clear c4
      replace H := Option.bind_eq_some_iff.mp H
      obtain ⟨⟨t287, t288, t289, t290, t291, t292, t293, t294, t295⟩, A50, H⟩ := H
      replace H : (if x3_1.length < 1353245080339 then (culetlaw54_events.l0 k1 (x3_1 ++ [(⟨t287, t288, (⟨t289, t290, t291, t292, t293⟩ : S81), t294, t295⟩ : S83)]) l0 (l0.length : Int) (wrap64 (x8_1 + 1))) else (none)) = some r := H
      have A5 := Aside0.mk A50
      clear A50
      by_cases c6 : x3_1.length < 1353245080339
      ·rw [if_pos c6] at H
       have LMc6 := Aside0.mk c6
       clear c6
       obtain ⟨y296, hy296⟩ : ∃ y_ : List (S83), y_ = (x3_1 ++ [(⟨t287, t288, (⟨t289, t290, t291, t292, t293⟩ : S81), t294, t295⟩ : S83)]) := ⟨_, rfl⟩
       replace H : (culetlaw54_events.l0 k1 y296 l0 (l0.length : Int) (wrap64 (x8_1 + 1))) = some r := by first | (rw [hy296]; with_reducible exact H) | (have H2_ := (Option.bind_some _ _).symm.trans H; rw [hy296]; with_reducible exact H2_) | (have H2_ := (Option.bind_some _ _).symm.trans H; with_reducible exact H2_) | with_reducible exact H | (rw [hy296]; exact H) | exact H
       have Ny296 := Aside0.mk hy296
       clear hy296
       have H' := Aside0.mk H
       clear H
       have p285 : 0 ≤ (x8_1 : Int) := of_decide_eq_true t_61
       have q285 : x8_1 < (l0.length : Int) := of_decide_eq_true t_61
       obtain ⟨ad285, e285, hx285_0, hx285_1, hx285_2, hx285_3, hx285_4, hx285_5, hx285_6, hx285_7, hx285_8⟩ := at_T71 HR0.out x8_1 p285 q285
       cases e285
       replace hx285_0 := hc_ HB.out hx285_0
       replace hx285_1 := hc_ HB.out hx285_1
       replace hx285_2 := hc_ HB.out hx285_2
       replace hx285_3 := hc_ HB.out hx285_3
       replace hx285_4 := hc_ HB.out hx285_4
       replace hx285_5 := hc_ HB.out hx285_5
       replace hx285_6 := hc_ HB.out hx285_6
       replace hx285_7 := hc_ HB.out hx285_7
       replace hx285_8 := hc_ HB.out hx285_8
       replace p285 := eq_true p285
       replace q285 := eq_true q285
       go_wp2_with (first | ((with_reducible refine gate_dst (N := 5) rfl ?_); refine bx_ (N := 5) (cs := #[.int .i64 0, .int .i64 0, .string (⟨#[]⟩ : ByteArray), .string (⟨#[]⟩ : ByteArray), .string (⟨#[]⟩ : ByteArray), .int .i64 0, .int .i64 0, .string (⟨#[]⟩ : ByteArray), .int .i64 0]) (t := 71) ?_; intro gb286 hg w7 hbox hb; replace HO_3 := Aside0.mk (Kd.R_below (rl HO_3.out) hb); have BK286 := Aside0.mk (hbox); have GW286 := Aside0.mk ((by rw [hg]; exact (below_size (bb HB.out)) : w.heap.size ≤ gb286)); have GE286 := Aside0.mk ((by rw [hg]; exact (below_size (bb HB.out)) : w.heap.size ≤ gb286)); replace HB := Aside0.mk (below_step (bb HB.out) hb); clear hb hbox hg; obtain ⟨hcz8_0, hcz8_1, hcz8_2, hcz8_3, hcz8_4, hcz8_5, hcz8_6, hcz8_7, hcz8_8⟩ := sqc9 BK286.out; obtain ⟨hfz8_0, hfz8_1, hfz8_2, hfz8_3, hfz8_4, hfz8_5, hfz8_6, hfz8_7, hfz8_8⟩ := frozen9 BK286.out) | ((with_reducible refine gate_callee (f := 39) rfl ?_); refine goesL_ (some 14) rfl rfl Try.func39 t_74 rfl #[.agg #[.int .i64 ((rd_T71 l0 x8_1).f0), .int .i64 ((rd_T71 l0 x8_1).f1), .string ((rd_T71 l0 x8_1).f2.f0), .string ((rd_T71 l0 x8_1).f2.f1), .string ((rd_T71 l0 x8_1).f2.f2), .int .i64 ((rd_T71 l0 x8_1).f2.f3), .int .i64 ((rd_T71 l0 x8_1).f2.f4), .string ((rd_T71 l0 x8_1).f3), .int .i64 ((rd_T71 l0 x8_1).f4)]] rfl t_34 ?_; (with_reducible refine (culetlaw54_event.calls ((rd_T71 l0 x8_1).f0) ((rd_T71 l0 x8_1).f1) ((rd_T71 l0 x8_1).f2.f0) ((rd_T71 l0 x8_1).f2.f1) ((rd_T71 l0 x8_1).f2.f2) ((rd_T71 l0 x8_1).f2.f3) ((rd_T71 l0 x8_1).f2.f4) ((rd_T71 l0 x8_1).f3) ((rd_T71 l0 x8_1).f4) t287 t288 t289 t290 t291 t292 t293 t294 t295 _ A5.out).mono ?_); rintro e w9 ⟨rfl, hb⟩; refine ⟨_, rfl, ?_⟩; replace HO_3 := Aside0.mk (Kd.R_below (by (with_reducible repeat (first | apply Kd.R_alloc | apply Kd.R_drewN | apply Kd.R_drew)); exact (Kd.R_mono (Kd.R_far (p := ⟨gb286, 8, none⟩) (Kd.R_far (p := ⟨gb286, 7, none⟩) (Kd.R_far (p := ⟨gb286, 6, none⟩) (Kd.R_far (p := ⟨gb286, 5, none⟩) (Kd.R_far (p := ⟨gb286, 4, none⟩) (Kd.R_far (p := ⟨gb286, 3, none⟩) (Kd.R_far (p := ⟨gb286, 2, none⟩) (Kd.R_far (p := ⟨gb286, 1, none⟩) (Kd.R_far (p := ⟨gb286, 0, none⟩) (Kd.R_types HO_3.out BK286.out (by decide)) (fun _ hk => hk.2) (.int .i64 ((rd_T71 l0 x8_1).f0))) (fun _ hk => hk.2) (.int .i64 ((rd_T71 l0 x8_1).f1))) (fun _ hk => hk.2) (.string ((rd_T71 l0 x8_1).f2.f0))) (fun _ hk => hk.2) (.string ((rd_T71 l0 x8_1).f2.f1))) (fun _ hk => hk.2) (.string ((rd_T71 l0 x8_1).f2.f2))) (fun _ hk => hk.2) (.int .i64 ((rd_T71 l0 x8_1).f2.f3))) (fun _ hk => hk.2) (.int .i64 ((rd_T71 l0 x8_1).f2.f4))) (fun _ hk => hk.2) (.string ((rd_T71 l0 x8_1).f3))) (fun _ hk => hk.2) (.int .i64 ((rd_T71 l0 x8_1).f4))) (fun _ h_ => h_.1))) hb); replace BK286 := Aside0.mk (blk_below (g := gb286) (o := .cells #[.int .i64 ((rd_T71 l0 x8_1).f0), .int .i64 ((rd_T71 l0 x8_1).f1), .string ((rd_T71 l0 x8_1).f2.f0), .string ((rd_T71 l0 x8_1).f2.f1), .string ((rd_T71 l0 x8_1).f2.f2), .int .i64 ((rd_T71 l0 x8_1).f2.f3), .int .i64 ((rd_T71 l0 x8_1).f2.f4), .string ((rd_T71 l0 x8_1).f3), .int .i64 ((rd_T71 l0 x8_1).f4)] 71 (0, 0)) (by (with_reducible repeat (first | refine blk_drewN ?_ _ | refine blk_drew ?_ | refine blk_alloc ?_ _)); apply put9; (with_reducible repeat (first | refine blk_drewN ?_ _ | refine blk_drew ?_ | refine blk_alloc ?_ _)); exact BK286.out) hb); replace HB := Aside0.mk (below_step t_2f hb); (try clear hb); (try clear hb2); (try clear hk); (try clear hi)) | ((with_reducible refine gate_builtin (b := .append) (xs := #[.tmp 12, .tmp 15]) rfl ?_); at_builtin; refine Kd.R_append k83 (w0 := w) w.heap.size rfl (.tmp 12) (.tmp 15) 96 83 (.agg #[(.int .i64 0), (.int .i64 0), (.string ⟨#[]⟩), (.string ⟨#[]⟩), (.string ⟨#[]⟩), (.int .i64 0), (.int .i64 0), (.string ⟨#[]⟩), (.int .i64 0)]) 104 rfl Try.underlying96 info83 rfl (by decide) (by omega) u3 x3_1 (⟨t287, t288, (⟨t289, t290, t291, t292, t293⟩ : S81), t294, t295⟩ : S83) [.int .i64 t287, .int .i64 t288, .string t289, .string t290, .string t291, .int .i64 t292, .int .i64 t293, .string t294, .int .i64 t295] (fun _ => True) (fun _ => False) rfl rfl ?aP (fun _ hk => hk.elim) ?aF ?aO ?aB ?aS ?aL ?_; (case aP => exact k83_mkM _ _ _ (⟨t287, t288, (⟨t289, t290, t291, t292, t293⟩ : S81), t294, t295⟩ : S83)); (case aB => exact t_2f); (case aF => exact (fun _ _ => trivial)); (case aO => exact (rl HO_3.out)); (case aS => exact (below_size t_2f)); (case aL => have := LMc6.out; omega); intro v297 w10 ho hb hg hat; rw [← Ny296.out] at ho; replace BK286 := Aside0.mk (blk_grown (g := gb286) (bl BK286.out) hg (Kd.R_ne HO_3.out BK286.out (by decide))); replace HB := Aside0.mk (hb); have HO298 := Aside0.mk (ho); clear HO_3; clear ho hb hg hat))
       go_roundg k1
       case measure => have := HK1.out; omega
       case rel => exact ⟨(y296), (wrap64 (x8_1 + 1)), t_63, H', ⟨t_6d⟩, ⟨by (with_reducible repeat (first | apply Kd.R_alloc | apply Kd.R_drewN | apply Kd.R_drew)); exact HO298.out⟩, ⟨t_2f⟩⟩
      ·rw [if_neg c6] at H
       exact absurd H (by simp)
     ·rw [if_neg c4] at H
      exact absurd H (by simp)
    ·rw [if_neg c3] at H
     exact absurd H (by simp)
   ·rw [if_neg c2] at H
    have c2b0 : decide (x8_1 < (l0.length : Int)) = false := decide_eq_false c2
    clear c2
    obtain rfl := Option.some.inj H
    go_wp2
    go_ret
    exact ⟨_, t_4b, by (with_reducible repeat (first | apply Kd.R_alloc | apply Kd.R_drewN | apply Kd.R_drew)); exact HO_3.out, t_4c⟩

/-! ### culetlaw54_JobEarned: function 11 -/
mutual
def culetlaw54_JobEarned.j0 : Nat → List (S24) → List (S71) → Bool → Option (Bool)
 | 0, _, _, _ => none
 | k + 1, x0, x1, x23 => if x23 = true then ((culetlaw54_awake.f k).bind fun t302 => (some t302)) else ((culetlaw54_events.f k x1).bind fun t303 => ((job_Of.f k x0 t303).bind fun bt306 => (culetlaw54_JobEarned.l0 k bt306.2.2.2.2.2.2 0 0 bt306.2.1 (bt306.2.1.length : Int) 0 bt306.1 bt306.2.1 bt306.2.2.1 bt306.2.2.2.1 bt306.2.2.2.2.1)))
def culetlaw54_JobEarned.l0 : Nat → Int → Int → Int → List (S99) → Int → Int → Int → List (S99) → List (S24) → Int → Int → Option (Bool)
 | 0, _, _, _, _, _, _, _, _, _, _, _ => none
 | k + 1, x7, x8, x9, x34, x35, x36, Qa0, Qa1, Qa2, Qa3, Qa4 => if x36 < x35 then (if 0 ≤ x36 then (if x36 < (x34.length : Int) then (if ((rd_T99 x34 x36).f1) = 4 then (culetlaw54_JobEarned.l0 k x7 (wrap64 (x8 + ((rd_T99 x34 x36).f0.f4))) (wrap64 (x9 + (mx 0 (wrap64 (((rd_T99 x34 x36).f2) - ((rd_T99 x34 x36).f0.f3)))))) x34 x35 (wrap64 (x36 + 1)) Qa0 Qa1 Qa2 Qa3 Qa4) else (culetlaw54_JobEarned.l0 k x7 x8 x9 x34 x35 (wrap64 (x36 + 1)) Qa0 Qa1 Qa2 Qa3 Qa4)) else (none)) else (none)) else (if x7 = 0 then (if Qa3 = x8 then (some (Qa4 == x9)) else (some false)) else (some true))
end
def culetlaw54_JobEarned.f (k : Nat) (l0 : List (S24)) (l1 : List (S71)) : Option (Bool) := (culetlaw54_awake.f k).bind fun t299 => (if t299 = true then ((culetref53_Few.f k l0).bind fun t300 => (if t300 = true then ((culetref54_FewEvents.f k l1).bind fun t301 => (culetlaw54_JobEarned.j0 k l0 l1 (!t301))) else (culetlaw54_JobEarned.j0 k l0 l1 true))) else (culetlaw54_JobEarned.j0 k l0 l1 true))
theorem culetlaw54_JobEarned.mono_l : ∀ k, (∀ y0 y1 y2, LeO (culetlaw54_JobEarned.j0 k y0 y1 y2) (culetlaw54_JobEarned.j0 (k + 1) y0 y1 y2)) ∧ (∀ y0 y1 y2 y3 y4 y5 y6 y7 y8 y9 y10, LeO (culetlaw54_JobEarned.l0 k y0 y1 y2 y3 y4 y5 y6 y7 y8 y9 y10) (culetlaw54_JobEarned.l0 (k + 1) y0 y1 y2 y3 y4 y5 y6 y7 y8 y9 y10))
 | 0 => ⟨fun _ _ _ r h => by simp [culetlaw54_JobEarned.j0] at h, fun _ _ _ _ _ _ _ _ _ _ _ r h => by simp [culetlaw54_JobEarned.l0] at h⟩
 | k + 1 => by
  obtain ⟨ih0, ih1⟩ := culetlaw54_JobEarned.mono_l k
  refine ⟨?_, ?_⟩
  ·intro y0 y1 y2
   unfold culetlaw54_JobEarned.j0
   repeat' first
   | (with_reducible exact ih0 _ _ _)
   | (with_reducible exact ih1 _ _ _ _ _ _ _ _ _ _ _)
   | (with_reducible exact culetlaw54_awake.mono _)
   | (with_reducible exact culetlaw54_events.mono _ _)
   | (with_reducible exact culetref53_Few.mono _ _)
   | (with_reducible exact culetref54_FewEvents.mono _ _)
   | (with_reducible exact job_Of.mono _ _ _)
   | (with_reducible exact LeO.refl _)
   | (with_reducible exact LeO.none _)
   | (with_reducible refine LeO.ite ?_ ?_)
   | (with_reducible refine LeO.bind ?_ (fun _ => ?_))
   | exact ih0 _ _ _
   | exact ih1 _ _ _ _ _ _ _ _ _ _ _
   | exact culetlaw54_awake.mono _
   | exact culetlaw54_events.mono _ _
   | exact culetref53_Few.mono _ _
   | exact culetref54_FewEvents.mono _ _
   | exact job_Of.mono _ _ _
   | exact LeO.none _
   | refine LeO.ite ?_ ?_
   | refine LeO.bind ?_ (fun _ => ?_)
  ·intro y0 y1 y2 y3 y4 y5 y6 y7 y8 y9 y10
   unfold culetlaw54_JobEarned.l0
   repeat' first
   | (with_reducible exact ih0 _ _ _)
   | (with_reducible exact ih1 _ _ _ _ _ _ _ _ _ _ _)
   | (with_reducible exact culetlaw54_awake.mono _)
   | (with_reducible exact culetlaw54_events.mono _ _)
   | (with_reducible exact culetref53_Few.mono _ _)
   | (with_reducible exact culetref54_FewEvents.mono _ _)
   | (with_reducible exact job_Of.mono _ _ _)
   | (with_reducible exact LeO.refl _)
   | (with_reducible exact LeO.none _)
   | (with_reducible refine LeO.ite ?_ ?_)
   | (with_reducible refine LeO.bind ?_ (fun _ => ?_))
   | exact ih0 _ _ _
   | exact ih1 _ _ _ _ _ _ _ _ _ _ _
   | exact culetlaw54_awake.mono _
   | exact culetlaw54_events.mono _ _
   | exact culetref53_Few.mono _ _
   | exact culetref54_FewEvents.mono _ _
   | exact job_Of.mono _ _ _
   | exact LeO.none _
   | refine LeO.ite ?_ ?_
   | refine LeO.bind ?_ (fun _ => ?_)
theorem culetlaw54_JobEarned.mono : ∀ a0 a1 k, LeO (culetlaw54_JobEarned.f k a0 a1) (culetlaw54_JobEarned.f (k + 1) a0 a1) := by
 intro a0 a1 k
 obtain ⟨ih0, ih1⟩ := culetlaw54_JobEarned.mono_l k
 unfold culetlaw54_JobEarned.f
 repeat' first
   | (with_reducible exact ih0 _ _ _)
   | (with_reducible exact ih1 _ _ _ _ _ _ _ _ _ _ _)
   | (with_reducible exact culetlaw54_awake.mono _)
   | (with_reducible exact culetlaw54_events.mono _ _)
   | (with_reducible exact culetref53_Few.mono _ _)
   | (with_reducible exact culetref54_FewEvents.mono _ _)
   | (with_reducible exact job_Of.mono _ _ _)
   | (with_reducible exact LeO.refl _)
   | (with_reducible exact LeO.none _)
   | (with_reducible refine LeO.ite ?_ ?_)
   | (with_reducible refine LeO.bind ?_ (fun _ => ?_))
   | exact ih0 _ _ _
   | exact ih1 _ _ _ _ _ _ _ _ _ _ _
   | exact culetlaw54_awake.mono _
   | exact culetlaw54_events.mono _ _
   | exact culetref53_Few.mono _ _
   | exact culetref54_FewEvents.mono _ _
   | exact job_Of.mono _ _ _
   | exact LeO.none _
   | refine LeO.ite ?_ ?_
   | refine LeO.bind ?_ (fun _ => ?_)
set_option maxHeartbeats 8000000 in
set_option maxRecDepth 100000 in
theorem culetlaw54_JobEarned.calls (k : Nat) (A0 : Option Addr) (c0 : Nat) (l0 : List (S24)) (A1 : Option Addr) (c1 : Nat) (l1 : List (S71)) (r : Bool) (w : World) (hr0 : Kd.C k24 w A0 l0.length l0) (hc0 : l0.length ≤ c0) (hr1 : Kd.C k71 w A1 l1.length l1) (hc1 : l1.length ≤ c1) (h : culetlaw54_JobEarned.f k l0 l1 = some r) (ht_ : r = true) :
  Calls Try.prog 11 #[.slice A0 l0.length c0, .slice A1 l1.length c1] w fun e w' => e = .returned (.bool r) ∧ Below w.heap.size w w' := by
 have hu77 := Try.underlying77
 have hu99 := Try.underlying99
 have HTRUE := Aside0.mk ht_
 clear ht_
 have HR0 := Aside0.mk hr0
 have HC0 := Aside0.mk hc0
 clear hr0 hc0
 have HR1 := Aside0.mk hr1
 have HC1 := Aside0.mk hc1
 clear hr1 hc1
 have HB := Aside0.mk (Below.refl w.heap.size w)
 have H : ((culetlaw54_awake.f k).bind fun t299 => (if t299 = true then ((culetref53_Few.f k l0).bind fun t300 => (if t300 = true then ((culetref54_FewEvents.f k l1).bind fun t301 => (culetlaw54_JobEarned.j0 k l0 l1 (!t301))) else (culetlaw54_JobEarned.j0 k l0 l1 true))) else (culetlaw54_JobEarned.j0 k l0 l1 true))) = some r := h
 clear h
 have HC3 := Aside0.mk H
 clear H
 go_enter Try.func11, Try.ntmps11
 go_upto_region 1 with (fail)
 go_cut [23] (fun v23 wc => ∃ (kq : Nat) (x23_2 : Bool), v23 = .bool x23_2 ∧ Aside0 (culetlaw54_JobEarned.j0 kq l0 l1 x23_2 = some r) ∧ Aside0 (kq ≤ k) ∧ Aside0 (Below w.heap.size w wc))
 case first =>
  have H := HC3.out
  clear HC3
  replace H := Option.bind_eq_some_iff.mp H
  obtain ⟨t299, A40, H⟩ := H
  replace H : (if t299 = true then ((culetref53_Few.f k l0).bind fun t300 => (if t300 = true then ((culetref54_FewEvents.f k l1).bind fun t301 => (culetlaw54_JobEarned.j0 k l0 l1 (!t301))) else (culetlaw54_JobEarned.j0 k l0 l1 true))) else (culetlaw54_JobEarned.j0 k l0 l1 true)) = some r := H
  have A4 := Aside0.mk A40
  clear A40
  by_cases c5 : t299 = true
  ·subst c5
   have H1 : ((culetref53_Few.f k l0).bind fun t300 => (if t300 = true then ((culetref54_FewEvents.f k l1).bind fun t301 => (culetlaw54_JobEarned.j0 k l0 l1 (!t301))) else (culetlaw54_JobEarned.j0 k l0 l1 true))) = some r := by rw [if_pos rfl] at H; exact H
   clear H
   have H := H1
   clear H1
   replace H := Option.bind_eq_some_iff.mp H
   obtain ⟨t300, A60, H⟩ := H
   replace H : (if t300 = true then ((culetref54_FewEvents.f k l1).bind fun t301 => (culetlaw54_JobEarned.j0 k l0 l1 (!t301))) else (culetlaw54_JobEarned.j0 k l0 l1 true)) = some r := H
   have A6 := Aside0.mk A60
   clear A60
   by_cases c7 : t300 = true
   ·subst c7
    have H1 : ((culetref54_FewEvents.f k l1).bind fun t301 => (culetlaw54_JobEarned.j0 k l0 l1 (!t301))) = some r := by rw [if_pos rfl] at H; exact H
    clear H
    have H := H1
    clear H1
    replace H := Option.bind_eq_some_iff.mp H
    obtain ⟨t301, A80, H⟩ := H
    replace H : (culetlaw54_JobEarned.j0 k l0 l1 (!t301)) = some r := H
    have A8 := Aside0.mk A80
    clear A80
    have H' := Aside0.mk H
    clear H
    go_wp2_with (first | (with_reducible refine gate_load (T := 99) rfl ?_; refine ev_load 12 rfl rfl Try.underlying99 rfl t_74 ?hx ?h0 ?hr ?_; (case hx => first | rfl | (go_simp; done) | (go_simp; rfl)); (case h0 => first | assumption | (go_simp; done)); (case hr => repeat first | exact cn | (refine cc t_68 ?_))) | ((with_reducible refine gate_callee (f := 34) rfl ?_); refine goesL_ (some 12) rfl rfl Try.func34 t_74 rfl #[] rfl t_34 ?_; (with_reducible refine (culetlaw54_awake.calls k  true _ A4.out).mono ?_); rintro e w9 ⟨rfl, hb⟩; refine ⟨_, rfl, ?_⟩; replace HB := Aside0.mk (below_step (bb HB.out) hb); (try clear hb); (try clear hb2); (try clear hk); (try clear hi)) | (go_at_call 16; (with_reducible refine (culetref53_Few.calls k _ _ l0 true _ ?side1 ?side2 A6.out).mono ?_); (case side1 => exact cl ((Kd.C_below HR0.out HB.out))); (case side2 => exact HC0.out); rintro e w' ⟨rfl, ⟨nd, rfl⟩⟩) | (go_at_call 36; (with_reducible refine (culetref54_FewEvents.calls k _ _ l1 t301 _ ?side1 ?side2 A8.out).mono ?_); (case side1 => repeat (first | exact (Kd.C_below HR1.out (bb HB.out)) | (with_reducible refine Kd.C_alloc ?_ _) | (with_reducible refine Kd.C_drewN ?_ _) | (with_reducible refine Kd.C_drew ?_))); (case side2 => exact HC1.out); rintro e w' ⟨rfl, ⟨nd, rfl⟩⟩))
    go_meet
    case rel => exact ⟨_, (!t301), t_63, H', ⟨t_69⟩, ⟨t_4c⟩⟩
   ·replace c7 := Bool.eq_false_iff.mpr c7
    subst c7
    have H1 : (culetlaw54_JobEarned.j0 k l0 l1 true) = some r := by rw [if_neg (show ¬ (false = true) by decide)] at H; exact H
    clear H
    have H := H1
    clear H1
    have H' := Aside0.mk H
    clear H
    go_wp2_with (first | (with_reducible refine gate_load (T := 99) rfl ?_; refine ev_load 12 rfl rfl Try.underlying99 rfl t_74 ?hx ?h0 ?hr ?_; (case hx => first | rfl | (go_simp; done) | (go_simp; rfl)); (case h0 => first | assumption | (go_simp; done)); (case hr => repeat first | exact cn | (refine cc t_68 ?_))) | ((with_reducible refine gate_callee (f := 34) rfl ?_); refine goesL_ (some 12) rfl rfl Try.func34 t_74 rfl #[] rfl t_34 ?_; (with_reducible refine (culetlaw54_awake.calls k  true _ A4.out).mono ?_); rintro e w10 ⟨rfl, hb⟩; refine ⟨_, rfl, ?_⟩; replace HB := Aside0.mk (below_step (bb HB.out) hb); (try clear hb); (try clear hb2); (try clear hk); (try clear hi)) | (go_at_call 16; (with_reducible refine (culetref53_Few.calls k _ _ l0 false _ ?side1 ?side2 A6.out).mono ?_); (case side1 => exact cl ((Kd.C_below HR0.out HB.out))); (case side2 => exact HC0.out); rintro e w' ⟨rfl, ⟨nd, rfl⟩⟩))
    go_meet
    case rel => exact ⟨_, (true), t_63, H', ⟨t_69⟩, ⟨t_4c⟩⟩
  ·replace c5 := Bool.eq_false_iff.mpr c5
   subst c5
   have H1 : (culetlaw54_JobEarned.j0 k l0 l1 true) = some r := by rw [if_neg (show ¬ (false = true) by decide)] at H; exact H
   clear H
   have H := H1
   clear H1
   have H' := Aside0.mk H
   clear H
   go_wp2_with (first | (with_reducible refine gate_load (T := 99) rfl ?_; refine ev_load 12 rfl rfl Try.underlying99 rfl t_74 ?hx ?h0 ?hr ?_; (case hx => first | rfl | (go_simp; done) | (go_simp; rfl)); (case h0 => first | assumption | (go_simp; done)); (case hr => repeat first | exact cn | (refine cc t_68 ?_))) | ((with_reducible refine gate_callee (f := 34) rfl ?_); refine goesL_ (some 12) rfl rfl Try.func34 t_74 rfl #[] rfl t_34 ?_; (with_reducible refine (culetlaw54_awake.calls k  false _ A4.out).mono ?_); rintro e w11 ⟨rfl, hb⟩; refine ⟨_, rfl, ?_⟩; replace HB := Aside0.mk (below_step (bb HB.out) hb); (try clear hb); (try clear hb2); (try clear hk); (try clear hi)))
   go_meet
   case rel => exact ⟨_, (true), t_63, H', ⟨t_69⟩, ⟨t_4c⟩⟩
 case rest =>
  clear HC3
  try clear c1
  try clear p2
  try clear c3
  try clear c5
  try clear c7
  try clear c11
  obtain ⟨kq, x23_2, rfl, HA, HJ2, HB⟩ := hcut
  cases kq with
  | zero => exact absurd HA.out (by simp [culetlaw54_JobEarned.j0])
  | succ kj2 =>
   have H := HA.out
   clear HA
   simp only [culetlaw54_JobEarned.j0] at H
   by_cases c12 : x23_2 = true
   ·subst c12
    have H1 : ((culetlaw54_awake.f kj2).bind fun t302 => (some t302)) = some r := by rw [if_pos rfl] at H; exact H
    clear H
    have H := H1
    clear H1
    replace H := Option.bind_eq_some_iff.mp H
    obtain ⟨t302, A130, H⟩ := H
    replace H : (some t302) = some r := H
    have A13 := Aside0.mk A130
    clear A130
    obtain rfl := Option.some.inj H
    go_wp2_with (first | (with_reducible refine gate_load (T := 99) rfl ?_; refine ev_load 12 rfl rfl Try.underlying99 rfl t_74 ?hx ?h0 ?hr ?_; (case hx => first | rfl | (go_simp; done) | (go_simp; rfl)); (case h0 => first | assumption | (go_simp; done)); (case hr => repeat first | exact cn | (refine cc t_68 ?_))) | ((with_reducible refine gate_callee (f := 34) rfl ?_); refine goesL_ (some 24) rfl rfl Try.func34 t_74 rfl #[] rfl t_34 ?_; (with_reducible refine (culetlaw54_awake.calls kj2  t302 _ A13.out).mono ?_); rintro e w14 ⟨rfl, hb⟩; refine ⟨_, rfl, ?_⟩; replace HB := Aside0.mk (below_step (bb HB.out) hb); (try clear hb); (try clear hb2); (try clear hk); (try clear hi)))
    go_ret
    exact ⟨t_4b, t_4c⟩
   ·replace c12 := Bool.eq_false_iff.mpr c12
    subst c12
    have H1 : ((culetlaw54_events.f kj2 l1).bind fun t303 => ((job_Of.f kj2 l0 t303).bind fun bt306 => (culetlaw54_JobEarned.l0 kj2 bt306.2.2.2.2.2.2 0 0 bt306.2.1 (bt306.2.1.length : Int) 0 bt306.1 bt306.2.1 bt306.2.2.1 bt306.2.2.2.1 bt306.2.2.2.2.1))) = some r := by rw [if_neg (show ¬ (false = true) by decide)] at H; exact H
    clear H
    have H := H1
    clear H1
    replace H := Option.bind_eq_some_iff.mp H
    obtain ⟨t303, A150, H⟩ := H
    replace H : ((job_Of.f kj2 l0 t303).bind fun bt306 => (culetlaw54_JobEarned.l0 kj2 bt306.2.2.2.2.2.2 0 0 bt306.2.1 (bt306.2.1.length : Int) 0 bt306.1 bt306.2.1 bt306.2.2.1 bt306.2.2.2.1 bt306.2.2.2.2.1)) = some r := H
    have A15 := Aside0.mk A150
    clear A150
    replace H := Option.bind_eq_some_iff.mp H
    obtain ⟨⟨t306, t307, t310, t313, t314, t315, t316⟩, A160, H⟩ := H
    replace H : (culetlaw54_JobEarned.l0 kj2 t316 0 0 t307 (t307.length : Int) 0 t306 t307 t310 t313 t314) = some r := H
    have A16 := Aside0.mk A160
    clear A160
    have H' := Aside0.mk H
    clear H
    go_wp2_with (first | (with_reducible refine gate_load (T := 99) rfl ?_; refine ev_load 12 rfl rfl Try.underlying99 rfl t_74 ?hx ?h0 ?hr ?_; (case hx => first | rfl | (go_simp; done) | (go_simp; rfl)); (case h0 => first | assumption | (go_simp; done)); (case hr => repeat first | exact cn | (refine cc t_68 ?_))) | ((with_reducible refine gate_callee (f := 48) rfl ?_); refine goesL_ (some 28) rfl rfl Try.func48 t_74 rfl #[.slice A1 l1.length c1] rfl t_34 ?_; (with_reducible refine (culetlaw54_events.calls kj2 _ _ l1 t303 _ ?side1 ?side2 A15.out).mono ?_); (case side1 => exact cl ((Kd.C_below HR1.out HB.out))); (case side2 => exact HC1.out); rintro e w17 ⟨v304, rfl, ho0, hb⟩; refine ⟨_, rfl, ?_⟩; have HO305 := Aside0.mk (Kd.R_lower ho0 (below_size (bb HB.out))); replace HB := Aside0.mk (below_step (bb HB.out) hb); (try clear hb); (try clear hb2); (try clear hk); (try clear hi); (try clear ho0); obtain ⟨Ao18, co18, eo18⟩ := Kd.R_slice HO305.out; subst eo18) | ((with_reducible refine gate_callee (f := 47) rfl ?_); refine goesL_ (some 29) rfl rfl Try.func47 t_74 rfl #[.slice A0 l0.length c0, .slice Ao18 t303.length co18] rfl t_34 ?_; (with_reducible refine (job_Of.calls kj2 _ _ l0 _ _ t303 t306 t307 t310 t313 t314 t315 t316 _ ?side1 ?side2 ?side3 ?side4 A16.out).mono ?_); (case side1 => exact cl ((Kd.C_below HR0.out HB.out))); (case side2 => exact HC0.out); (case side3 => exact cl ((Kd.R_reads' HO305.out).2.2)); (case side4 => exact (Kd.R_reads' HO305.out).2.1); rintro e w19 ⟨v308, v311, rfl, ho0, ho1, hb⟩; refine ⟨_, rfl, ?_⟩; replace HO305 := Aside0.mk (Kd.R_below (rl HO305.out) hb); have HO309 := Aside0.mk (Kd.R_lower ho0 (below_size (bb HB.out))); have HO312 := Aside0.mk (Kd.R_lower ho1 (below_size (bb HB.out))); replace HB := Aside0.mk (below_step (bb HB.out) hb); (try clear hb); (try clear hb2); (try clear hk); (try clear hi); (try clear ho0); (try clear ho1)) | ((with_reducible refine gate_dst (N := 5) rfl ?_); refine bx_ (N := 5) (cs := #[.int .i64 0, .slice none 0 0, .slice none 0 0, .int .i64 0, .int .i64 0]) (t := 77) ?_; intro gb317 hg w20 hbox hb; replace HO305 := Aside0.mk (Kd.R_below (rl HO305.out) hb); replace HO309 := Aside0.mk (Kd.R_below (rl HO309.out) hb); replace HO312 := Aside0.mk (Kd.R_below (rl HO312.out) hb); have BK317 := Aside0.mk (hbox); have GW317 := Aside0.mk ((by rw [hg]; exact (below_size (bb HB.out)) : w.heap.size ≤ gb317)); have GE317 := Aside0.mk ((by rw [hg]; exact (below_size (bb HB.out)) : w.heap.size ≤ gb317)); replace HB := Aside0.mk (below_step (bb HB.out) hb); clear hb hbox hg; obtain ⟨hcz21_0, hcz21_1, hcz21_2, hcz21_3, hcz21_4⟩ := sqc5 BK317.out; obtain ⟨hfz21_0, hfz21_1, hfz21_2, hfz21_3, hfz21_4⟩ := frozen5 BK317.out; obtain ⟨Ao22, co22, eo22⟩ := Kd.R_slice HO309.out; subst eo22; obtain ⟨Ao23, co23, eo23⟩ := Kd.R_slice HO312.out; subst eo23))
    go_loopg [8, 9, 36] kj2 (fun kq v8 v9 v36 w' => ∃ (x8_2 : Int) (x9_2 : Int) (x36_2 : Int), v8 = .int .i64 x8_2 ∧ v9 = .int .i64 x9_2 ∧ v36 = .int .i64 x36_2 ∧ Aside0 (culetlaw54_JobEarned.l0 kq t316 x8_2 x9_2 t307 (t307.length : Int) x36_2 t306 t307 t310 t313 t314 = some r) ∧ Aside0 (kq ≤ kj2) ∧ Aside0 (Kd.R k99 99 w' w.heap.size (fun _ => True) (.slice Ao22 t307.length co22) t307) ∧ Aside0 (Kd.R k99 99 w' w.heap.size (fun _ => True) (.slice Ao22 t307.length co22) t307) ∧ Aside0 (Kd.R k24 24 w' w.heap.size (fun _ => True) (.slice Ao23 t310.length co23) t310) ∧ Aside0 (w'.heap[gb317]? = some (.cells #[.int .i64 t306, (.slice Ao22 t307.length co22), (.slice Ao23 t310.length co23), .int .i64 t313, .int .i64 t314] 77 (0, 0))) ∧ Aside0 (Below w.heap.size w w'))
    case atStart => exact ⟨(0), (0), (0), t_63, t_63, t_63, H', ⟨Nat.le_refl _⟩, ⟨t_b⟩, ⟨t_b⟩, ⟨by (with_reducible repeat (first | apply Kd.R_alloc | apply Kd.R_drewN | apply Kd.R_drew)); exact Kd.R_mono (Kd.R_far (p := ⟨gb317, 4, none⟩) (Kd.R_far (p := ⟨gb317, 3, none⟩) (Kd.R_far (p := ⟨gb317, 2, none⟩) (Kd.R_far (p := ⟨gb317, 1, none⟩) (Kd.R_far (p := ⟨gb317, 0, none⟩) (Kd.R_types HO312.out BK317.out (by decide)) (fun _ hk => hk.2) (.int .i64 t306)) (fun _ hk => hk.2) (.slice Ao22 t307.length co22)) (fun _ hk => hk.2) (.slice Ao23 t310.length co23)) (fun _ hk => hk.2) (.int .i64 t313)) (fun _ hk => hk.2) (.int .i64 t314)) (fun _ hk => trivial)⟩, ⟨by (with_reducible repeat (first | refine blk_drewN ?_ _ | refine blk_drew ?_ | refine blk_alloc ?_ _)); apply put5; (with_reducible repeat (first | refine blk_drewN ?_ _ | refine blk_drew ?_ | refine blk_alloc ?_ _)); exact BK317.out⟩, ⟨t_30⟩⟩
    case round =>
     clear H'
     try clear c1
     try clear p2
     try clear c3
     try clear c4
     try clear c5
     try clear c7
     try clear c11
     try clear c12
     try clear hcz21_0 hcz21_1 hcz21_2 hcz21_3 hcz21_4
     try clear hfz21_0 hfz21_1 hfz21_2 hfz21_3 hfz21_4
     try clear p2
     obtain ⟨x8_2, x9_2, x36_2, rfl, rfl, rfl, HA, HK2, HO_34, HO_318001, HO_318002, BK317, HB⟩ := hrel
     cases gk with
     | zero => exact absurd HA.out (by simp [culetlaw54_JobEarned.l0])
     | succ k2 =>
      have H := HA.out
      clear HA
      simp only [culetlaw54_JobEarned.l0] at H
      by_cases c24 : x36_2 < (t307.length : Int)
      ·rw [if_pos c24] at H
       have c24b0 : decide (x36_2 < (t307.length : Int)) = true := decide_eq_true c24
       clear c24
       by_cases c25 : 0 ≤ x36_2
       ·rw [if_pos c25] at H
        have c25b0 : decide (0 ≤ x36_2) = true := decide_eq_true c25
        clear c25
        by_cases c26 : x36_2 < (t307.length : Int)
        ·rw [if_pos c26] at H
         have c26b0 : decide (x36_2 < (t307.length : Int)) = true := decide_eq_true c26
         clear c26
         by_cases c27 : ((rd_T99 t307 x36_2).f1) = 4
         ·rw [if_pos c27] at H
          have c27b0 : (((rd_T99 t307 x36_2).f1) == 4) = true := beq_iff_eq.mpr c27
          have c27b1 : (((rd_T99 t307 x36_2).f1) != 4) = false := bne_eq_false_iff_eq.mpr c27
          clear c27
          obtain ⟨ji28, hji28⟩ : ∃ j_ : Int, (mx 0 (wrap64 (((rd_T99 t307 x36_2).f2) - ((rd_T99 t307 x36_2).f0.f3)))) = j_ := ⟨_, rfl⟩
          replace H : (culetlaw54_JobEarned.l0 k2 t316 (wrap64 (x8_2 + ((rd_T99 t307 x36_2).f0.f4))) (wrap64 (x9_2 + (ji28))) t307 (t307.length : Int) (wrap64 (x36_2 + 1)) t306 t307 t310 t313 t314) = some r := by first | (rw [hji28] at H; exact H) | (simp only [hji28] at H ⊢; exact H)
          have hji28_ : (if 0 < (wrap64 (((rd_T99 t307 x36_2).f2) - ((rd_T99 t307 x36_2).f0.f3))) then (wrap64 (((rd_T99 t307 x36_2).f2) - ((rd_T99 t307 x36_2).f0.f3))) else 0) = ji28 := hji28
          have H' := Aside0.mk H
          clear H
          have p318 : 0 ≤ (x36_2 : Int) := of_decide_eq_true t_61
          have q318 : x36_2 < (t307.length : Int) := of_decide_eq_true t_61
          obtain ⟨ad318, e318, hx318_0, hx318_1, hx318_2, hx318_3, hx318_4, hx318_5, hx318_6, hx318_7, hx318_8, hx318_9, hx318_10, hx318_11, hx318_12⟩ := at_T99 (Kd.R_reads' HO_34.out).2.2 x36_2 p318 q318
          cases e318
          replace p318 := eq_true p318
          replace q318 := eq_true q318
          go_wp2_with (first | (with_reducible refine gate_load (T := 99) rfl ?_; refine ev_load 12 rfl rfl Try.underlying99 rfl t_74 ?hx ?h0 ?hr ?_; (case hx => first | rfl | (go_simp; done) | (go_simp; rfl)); (case h0 => first | assumption | (go_simp; done)); (case hr => repeat first | exact cn | (refine cc t_68 ?_))) | ((with_reducible refine gate_dst (N := 11) rfl ?_); refine bx_ (N := 11) (cs := #[.string (⟨#[]⟩ : ByteArray), .string (⟨#[]⟩ : ByteArray), .string (⟨#[]⟩ : ByteArray), .int .i64 0, .int .i64 0, .int .i64 0, .int .i64 0, .int .i64 0, .int .i64 0, .string (⟨#[]⟩ : ByteArray), .string (⟨#[]⟩ : ByteArray), .int .i64 0, .int .i64 0]) (t := 99) ?_; intro gb319 hg w29 hbox hb; replace HO_34 := Aside0.mk (Kd.R_below (Kd.R_elderB (rl HO_34.out) gb319 (Nat.le_of_eq hg.symm)) hb); replace HO_318001 := Aside0.mk (Kd.R_below (Kd.R_elderB (rl HO_318001.out) gb319 (Nat.le_of_eq hg.symm)) hb); replace HO_318002 := Aside0.mk (Kd.R_below (rl HO_318002.out) hb); have BK319 := Aside0.mk (hbox); have GW319 := Aside0.mk ((by rw [hg]; exact (below_size t_30) : w.heap.size ≤ gb319)); have GE319 := Aside0.mk ((by rw [hg]; exact (below_size t_30) : w.heap.size ≤ gb319)); replace HB := Aside0.mk (below_step t_30 hb); have NB317_319 := Aside0.mk ((by rw [hg]; exact Nat.ne_of_lt (blk_lt (g := gb317) (bl BK317.out)) : gb317 ≠ gb319)); have NB319_317 := Aside0.mk ((by rw [hg]; exact Nat.ne_of_gt (blk_lt (g := gb317) (bl BK317.out)) : gb319 ≠ gb317)); replace BK317 := Aside0.mk (blk_below (g := gb317) (bl BK317.out) hb); clear hb hbox hg; have hnb30 := NB319_317.out; have hnc30 := NB317_319.out; obtain ⟨hcz31_0, hcz31_1, hcz31_2, hcz31_3, hcz31_4, hcz31_5, hcz31_6, hcz31_7, hcz31_8, hcz31_9, hcz31_10, hcz31_11, hcz31_12⟩ := sqc13 BK319.out; obtain ⟨hfz31_0, hfz31_1, hfz31_2, hfz31_3, hfz31_4, hfz31_5, hfz31_6, hfz31_7, hfz31_8, hfz31_9, hfz31_10, hfz31_11, hfz31_12⟩ := frozen13 BK319.out))
          go_roundg k2
          case measure => have := HJ2.out; have := HK2.out; omega
          case rel => exact ⟨(wrap64 (x8_2 + ((rd_T99 t307 x36_2).f0.f4))), (wrap64 (x9_2 + (ji28))), (wrap64 (x36_2 + 1)), t_63, (by first | rfl | (simp; done) | (simp only [← hji28] <;> (first | rfl | simp)) | (simp [*]; done)), t_63, H', ⟨by have := HJ2.out; have := HK2.out; omega⟩, ⟨t_3⟩, ⟨t_2⟩, ⟨t_4⟩, ⟨t_1⟩, ⟨t_20⟩⟩
         ·rw [if_neg c27] at H
          have c27b0 : (((rd_T99 t307 x36_2).f1) == 4) = false := beq_eq_false_iff_ne.mpr c27
          have c27b1 : (((rd_T99 t307 x36_2).f1) != 4) = true := bne_iff_ne.mpr c27
          have H' := Aside0.mk H
          clear H
          have p318 : 0 ≤ (x36_2 : Int) := of_decide_eq_true t_61
          have q318 : x36_2 < (t307.length : Int) := of_decide_eq_true t_61
          obtain ⟨ad318, e318, hx318_0, hx318_1, hx318_2, hx318_3, hx318_4, hx318_5, hx318_6, hx318_7, hx318_8, hx318_9, hx318_10, hx318_11, hx318_12⟩ := at_T99 (Kd.R_reads' HO_34.out).2.2 x36_2 p318 q318
          cases e318
          replace p318 := eq_true p318
          replace q318 := eq_true q318
          go_wp2_with (first | (with_reducible refine gate_load (T := 99) rfl ?_; refine ev_load 12 rfl rfl Try.underlying99 rfl t_74 ?hx ?h0 ?hr ?_; (case hx => first | rfl | (go_simp; done) | (go_simp; rfl)); (case h0 => first | assumption | (go_simp; done)); (case hr => repeat first | exact cn | (refine cc t_68 ?_))) | ((with_reducible refine gate_dst (N := 11) rfl ?_); refine bx_ (N := 11) (cs := #[.string (⟨#[]⟩ : ByteArray), .string (⟨#[]⟩ : ByteArray), .string (⟨#[]⟩ : ByteArray), .int .i64 0, .int .i64 0, .int .i64 0, .int .i64 0, .int .i64 0, .int .i64 0, .string (⟨#[]⟩ : ByteArray), .string (⟨#[]⟩ : ByteArray), .int .i64 0, .int .i64 0]) (t := 99) ?_; intro gb319 hg w32 hbox hb; replace HO_34 := Aside0.mk (Kd.R_below (Kd.R_elderB (rl HO_34.out) gb319 (Nat.le_of_eq hg.symm)) hb); replace HO_318001 := Aside0.mk (Kd.R_below (Kd.R_elderB (rl HO_318001.out) gb319 (Nat.le_of_eq hg.symm)) hb); replace HO_318002 := Aside0.mk (Kd.R_below (rl HO_318002.out) hb); have BK319 := Aside0.mk (hbox); have GW319 := Aside0.mk ((by rw [hg]; exact (below_size t_30) : w.heap.size ≤ gb319)); have GE319 := Aside0.mk ((by rw [hg]; exact (below_size t_30) : w.heap.size ≤ gb319)); replace HB := Aside0.mk (below_step t_30 hb); have NB317_319 := Aside0.mk ((by rw [hg]; exact Nat.ne_of_lt (blk_lt (g := gb317) (bl BK317.out)) : gb317 ≠ gb319)); have NB319_317 := Aside0.mk ((by rw [hg]; exact Nat.ne_of_gt (blk_lt (g := gb317) (bl BK317.out)) : gb319 ≠ gb317)); replace BK317 := Aside0.mk (blk_below (g := gb317) (bl BK317.out) hb); clear hb hbox hg; have hnb33 := NB319_317.out; have hnc33 := NB317_319.out; obtain ⟨hcz34_0, hcz34_1, hcz34_2, hcz34_3, hcz34_4, hcz34_5, hcz34_6, hcz34_7, hcz34_8, hcz34_9, hcz34_10, hcz34_11, hcz34_12⟩ := sqc13 BK319.out; obtain ⟨hfz34_0, hfz34_1, hfz34_2, hfz34_3, hfz34_4, hfz34_5, hfz34_6, hfz34_7, hfz34_8, hfz34_9, hfz34_10, hfz34_11, hfz34_12⟩ := frozen13 BK319.out))
          go_roundg k2
          case measure => have := HJ2.out; have := HK2.out; omega
          case rel => exact ⟨(x8_2), (x9_2), (wrap64 (x36_2 + 1)), t_63, t_63, t_63, H', ⟨by have := HJ2.out; have := HK2.out; omega⟩, ⟨t_3⟩, ⟨t_2⟩, ⟨t_4⟩, ⟨t_1⟩, ⟨t_20⟩⟩
        ·rw [if_neg c26] at H
         exact absurd H (by simp)
       ·rw [if_neg c25] at H
        exact absurd H (by simp)
      ·rw [if_neg c24] at H
       have c24b0 : decide (x36_2 < (t307.length : Int)) = false := decide_eq_false c24
       clear c24
       by_cases c35 : t316 = 0
       ·rw [if_pos c35] at H
        have c35b0 : (t316 == 0) = true := beq_iff_eq.mpr c35
        have c35b1 : (t316 != 0) = false := bne_eq_false_iff_eq.mpr c35
        clear c35
        by_cases c36 : t313 = x8_2
        ·rw [if_pos c36] at H
         have c36b0 : (t313 == x8_2) = true := beq_iff_eq.mpr c36
         have c36b1 : (t313 != x8_2) = false := bne_eq_false_iff_eq.mpr c36
         clear c36
         obtain rfl := Option.some.inj H
         obtain ⟨hcz37_0, hcz37_1, hcz37_2, hcz37_3, hcz37_4⟩ := cz5 BK317.out
         obtain ⟨hfz37_0, hfz37_1, hfz37_2, hfz37_3, hfz37_4⟩ := fz5 BK317.out
         go_wp2_with (first | (with_reducible refine gate_load (T := 99) rfl ?_; refine ev_load 12 rfl rfl Try.underlying99 rfl t_74 ?hx ?h0 ?hr ?_; (case hx => first | rfl | (go_simp; done) | (go_simp; rfl)); (case h0 => first | assumption | (go_simp; done)); (case hr => repeat first | exact cn | (refine cc t_68 ?_))))
         go_ret
         exact ⟨t_4b, t_30⟩
        ·rw [if_neg c36] at H
         have c36b0 : (t313 == x8_2) = false := beq_eq_false_iff_ne.mpr c36
         have c36b1 : (t313 != x8_2) = true := bne_iff_ne.mpr c36
         exact absurd ((Option.some.inj H).trans HTRUE.out) (by decide)
       ·rw [if_neg c35] at H
        have c35b0 : (t316 == 0) = false := beq_eq_false_iff_ne.mpr c35
        have c35b1 : (t316 != 0) = true := bne_iff_ne.mpr c35
        obtain rfl := Option.some.inj H
        go_wp2_with (first | (with_reducible refine gate_load (T := 99) rfl ?_; refine ev_load 12 rfl rfl Try.underlying99 rfl t_74 ?hx ?h0 ?hr ?_; (case hx => first | rfl | (go_simp; done) | (go_simp; rfl)); (case h0 => first | assumption | (go_simp; done)); (case hr => repeat first | exact cn | (refine cc t_68 ?_))))
        go_ret
        exact ⟨t_4b, t_30⟩

/-- THE ONE PURE STATEMENT of culetlaw54_JobEarned: yours. -/
def culetlaw54_JobEarned.Pure : Prop := ∀ (x0 : List (S24)) (x1 : List (S71)), (AllV V24) x0 → (AllV V71) x1 → ∃ k, culetlaw54_JobEarned.f k x0 x1 = some true

/-! ### culetref53_Same: function 20 -/
def culetref53_Same.l0 : Nat → List (S24) → List (S24) → Int → Option (Bool)
 | 0, _, _, _ => none
 | k + 1, x0, x1, x5 => if x5 < (x0.length : Int) then (if 0 ≤ x5 then (if x5 < (x1.length : Int) then (if (!((((rd_T24 x0 x5).f0).toList) == (((rd_T24 x1 x5).f0).toList)) || (!((((rd_T24 x0 x5).f1).toList) == (((rd_T24 x1 x5).f1).toList)) || (!(((rd_T24 x0 x5).f2) == ((rd_T24 x1 x5).f2)) || (!(((rd_T24 x0 x5).f3) == ((rd_T24 x1 x5).f3)))))) = true then (some false) else (culetref53_Same.l0 k x0 x1 (wrap64 (x5 + 1)))) else (none)) else (none)) else (some true)
def culetref53_Same.f (k : Nat) (l0 : List (S24)) (l1 : List (S24)) : Option (Bool) := if (l0.length : Int) = (l1.length : Int) then (culetref53_Same.l0 k l0 l1 0) else (some false)
theorem culetref53_Same.mono_l : ∀ k, (∀ y0 y1 y2, LeO (culetref53_Same.l0 k y0 y1 y2) (culetref53_Same.l0 (k + 1) y0 y1 y2))
 | 0 => fun _ _ _ r h => by simp [culetref53_Same.l0] at h
 | k + 1 => by
  have ih0 := culetref53_Same.mono_l k
  ·intro y0 y1 y2
   unfold culetref53_Same.l0
   repeat' first
   | (with_reducible exact ih0 _ _ _)
   | (with_reducible exact LeO.refl _)
   | (with_reducible exact LeO.none _)
   | (with_reducible refine LeO.ite ?_ ?_)
   | (with_reducible refine LeO.bind ?_ (fun _ => ?_))
   | exact ih0 _ _ _
   | exact LeO.none _
   | refine LeO.ite ?_ ?_
   | refine LeO.bind ?_ (fun _ => ?_)
theorem culetref53_Same.mono : ∀ a0 a1 k, LeO (culetref53_Same.f k a0 a1) (culetref53_Same.f (k + 1) a0 a1) := by
 intro a0 a1 k
 have ih0 := culetref53_Same.mono_l k
 unfold culetref53_Same.f
 repeat' first
   | (with_reducible exact ih0 _ _ _)
   | (with_reducible exact LeO.refl _)
   | (with_reducible exact LeO.none _)
   | (with_reducible refine LeO.ite ?_ ?_)
   | (with_reducible refine LeO.bind ?_ (fun _ => ?_))
   | exact ih0 _ _ _
   | exact LeO.none _
   | refine LeO.ite ?_ ?_
   | refine LeO.bind ?_ (fun _ => ?_)
set_option maxHeartbeats 8000000 in
set_option maxRecDepth 100000 in
theorem culetref53_Same.calls (k : Nat) (A0 : Option Addr) (c0 : Nat) (l0 : List (S24)) (A1 : Option Addr) (c1 : Nat) (l1 : List (S24)) (r : Bool) (w : World) (hr0 : Kd.C k24 w A0 l0.length l0) (hc0 : l0.length ≤ c0) (hr1 : Kd.C k24 w A1 l1.length l1) (hc1 : l1.length ≤ c1) (h : culetref53_Same.f k l0 l1 = some r) :
  Calls Try.prog 20 #[.slice A0 l0.length c0, .slice A1 l1.length c1] w fun e w' => e = .returned (.bool r) ∧ Drawn0 w w' := by
 have hu24 := Try.underlying24
 have HR0 := Aside0.mk hr0
 have HC0 := Aside0.mk hc0
 clear hr0 hc0
 have HR1 := Aside0.mk hr1
 have HC1 := Aside0.mk hc1
 clear hr1 hc1
 have H : (if (l0.length : Int) = (l1.length : Int) then (culetref53_Same.l0 k l0 l1 0) else (some false)) = some r := h
 clear h
 by_cases c3 : (l0.length : Int) = (l1.length : Int)
 ·rw [if_pos c3] at H
  have c3b0 : ((l0.length : Int) == (l1.length : Int)) = true := beq_iff_eq.mpr c3
  have c3b1 : ((l0.length : Int) != (l1.length : Int)) = false := bne_eq_false_iff_eq.mpr c3
  have c3b2 : (l0.length == l1.length) = true := by first | simpa using c3 | (simp at c3 ⊢; omega)
  clear c3
  have H' := Aside0.mk H
  clear H
  go_enter Try.func20, Try.ntmps20
  go_wp2
  repeat (go_quiet (fail); try go_wp2)
  go_loopg [5] k (fun kq v5 w' => ∃ (x5_1 : Int), v5 = .int .i64 x5_1 ∧ Aside0 (culetref53_Same.l0 kq l0 l1 x5_1 = some r) ∧ Aside0 (kq ≤ k) ∧ Drawn0 w w')
  case atStart => exact ⟨(0), t_63, H', ⟨Nat.le_refl _⟩, t_56⟩
  case round =>
   clear H'
   try clear c1
   try clear c2
   try clear p2
   try clear c3
   try clear c3b0
   try clear c3b1
   try clear c3b2
   obtain ⟨x5_1, rfl, HA, HK1, ⟨m1, rfl⟩⟩ := hrel
   cases gk with
   | zero => exact absurd HA.out (by simp [culetref53_Same.l0])
   | succ k1 =>
    have H := HA.out
    clear HA
    simp only [culetref53_Same.l0] at H
    by_cases c4 : x5_1 < (l0.length : Int)
    ·rw [if_pos c4] at H
     have c4b0 : decide (x5_1 < (l0.length : Int)) = true := decide_eq_true c4
     clear c4
     by_cases c5 : 0 ≤ x5_1
     ·rw [if_pos c5] at H
      have c5b0 : decide (0 ≤ x5_1) = true := decide_eq_true c5
      clear c5
      by_cases c6 : x5_1 < (l1.length : Int)
      ·rw [if_pos c6] at H
       have c6b0 : decide (x5_1 < (l1.length : Int)) = true := decide_eq_true c6
       clear c6
       by_cases c7 : (!((((rd_T24 l0 x5_1).f0).toList) == (((rd_T24 l1 x5_1).f0).toList)) || (!((((rd_T24 l0 x5_1).f1).toList) == (((rd_T24 l1 x5_1).f1).toList)) || (!(((rd_T24 l0 x5_1).f2) == ((rd_T24 l1 x5_1).f2)) || (!(((rd_T24 l0 x5_1).f3) == ((rd_T24 l1 x5_1).f3)))))) = true
       ·rw [if_pos c7] at H
        have c7b0 : (!((((rd_T24 l0 x5_1).f0).toList) == (((rd_T24 l1 x5_1).f0).toList)) || (!((((rd_T24 l0 x5_1).f1).toList) == (((rd_T24 l1 x5_1).f1).toList)) || (!(((rd_T24 l0 x5_1).f2) == ((rd_T24 l1 x5_1).f2)) || (!(((rd_T24 l0 x5_1).f3) == ((rd_T24 l1 x5_1).f3)))))) = true := c7
        clear c7
        obtain rfl := Option.some.inj H
        have p320 : 0 ≤ (x5_1 : Int) := of_decide_eq_true t_61
        have q320 : x5_1 < (l0.length : Int) := of_decide_eq_true t_61
        obtain ⟨ad320, e320, hx320_0, hx320_1, hx320_2, hx320_3⟩ := at_T24 HR0.out x5_1 p320 q320
        cases e320
        replace p320 := eq_true p320
        replace q320 := eq_true q320
        have p321 : 0 ≤ (x5_1 : Int) := of_decide_eq_true t_61
        have q321 : x5_1 < (l1.length : Int) := of_decide_eq_true t_61
        obtain ⟨ad321, e321, hx321_0, hx321_1, hx321_2, hx321_3⟩ := at_T24 HR1.out x5_1 p321 q321
        cases e321
        replace p321 := eq_true p321
        replace q321 := eq_true q321
        go_wp2
        repeat (go_quiet (fail); try go_wp2)
        go_ret
        exact ⟨t_63, t_56⟩
       ·rw [if_neg c7] at H
        have c7b0 : (!((((rd_T24 l0 x5_1).f0).toList) == (((rd_T24 l1 x5_1).f0).toList)) || (!((((rd_T24 l0 x5_1).f1).toList) == (((rd_T24 l1 x5_1).f1).toList)) || (!(((rd_T24 l0 x5_1).f2) == ((rd_T24 l1 x5_1).f2)) || (!(((rd_T24 l0 x5_1).f3) == ((rd_T24 l1 x5_1).f3)))))) = false := by simpa using c7
        clear c7
        have H' := Aside0.mk H
        clear H
        have p320 : 0 ≤ (x5_1 : Int) := of_decide_eq_true t_61
        have q320 : x5_1 < (l0.length : Int) := of_decide_eq_true t_61
        obtain ⟨ad320, e320, hx320_0, hx320_1, hx320_2, hx320_3⟩ := at_T24 HR0.out x5_1 p320 q320
        cases e320
        replace p320 := eq_true p320
        replace q320 := eq_true q320
        have p321 : 0 ≤ (x5_1 : Int) := of_decide_eq_true t_61
        have q321 : x5_1 < (l1.length : Int) := of_decide_eq_true t_61
        obtain ⟨ad321, e321, hx321_0, hx321_1, hx321_2, hx321_3⟩ := at_T24 HR1.out x5_1 p321 q321
        cases e321
        replace p321 := eq_true p321
        replace q321 := eq_true q321
        go_wp2
        repeat (go_quiet (fail); try go_wp2)
        go_roundg k1
        case measure => have := HK1.out; omega
        case rel => exact ⟨(wrap64 (x5_1 + 1)), t_63, H', ⟨t_6d⟩, t_56⟩
      ·rw [if_neg c6] at H
       exact absurd H (by simp)
     ·rw [if_neg c5] at H
      exact absurd H (by simp)
    ·rw [if_neg c4] at H
     have c4b0 : decide (x5_1 < (l0.length : Int)) = false := decide_eq_false c4
     clear c4
     obtain rfl := Option.some.inj H
     go_wp2
     repeat (go_quiet (fail); try go_wp2)
     go_ret
     exact ⟨t_63, t_56⟩
 ·rw [if_neg c3] at H
  have c3b0 : ((l0.length : Int) == (l1.length : Int)) = false := beq_eq_false_iff_ne.mpr c3
  have c3b1 : ((l0.length : Int) != (l1.length : Int)) = true := bne_iff_ne.mpr c3
  have c3b2 : (l0.length == l1.length) = false := by first | simpa using c3 | (simp at c3 ⊢; omega)
  obtain rfl := Option.some.inj H
  go_enter Try.func20, Try.ntmps20
  go_wp2
  repeat (go_quiet (fail); try go_wp2)
  go_ret
  exact ⟨t_63, t_56⟩

-- HAND: function 49 (job_Find) stands in HandJobFind

end Go.Proofs.Ytndbchcfjajgbaa.XP
