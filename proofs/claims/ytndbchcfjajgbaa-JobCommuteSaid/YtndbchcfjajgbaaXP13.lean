-- printed by xprint.py
import Derived.Test.YtndbchcfjajgbaaXB
import Derived.Test.YtndbchcfjajgbaaXP0
namespace Go.Proofs.Ytndbchcfjajgbaa.XP
open Go.Proofs.Ytndbchcfjajgbaa.XB Go.Proofs.Ytndbchcfjajgbaa.XQ
open Go.Proofs.Ytndbchcfjajgbaa.XW
open Go.RowKit Go.Proofs.YtndbchcfjajgbaaW.PrintWords Go.Proofs.YtndbchcfjajgbaaW.PrintLast Go.Proofs.YtndbchcfjajgbaaW.PrintMore
attribute [local go_sem] max2_int min2_int max_two min_two max_three min_three max_four min_four   -- for this text's walks alone
set_option linter.unusedVariables false
set_option linter.unusedSimpArgs false

/-! ### job_Yield: function 52 -/
def job_Yield.l0 : Nat → ByteArray → Int → Int → List (S99) → Int → Int → Option (Int × Int)
 | 0, _, _, _, _, _, _ => none
 | k + 1, x1, x4, x5, x9, x10, x11 => if x11 < x10 then (if 0 ≤ x11 then (if x11 < (x9.length : Int) then (if ((rd_T99 x9 x11).f0.f2).toList = x1.toList then (if ((rd_T99 x9 x11).f1) = 3 then (job_Yield.l0 k x1 (wrap64 (x4 + ((rd_T99 x9 x11).f4))) (wrap64 (x5 + ((rd_T99 x9 x11).f3))) x9 x10 (wrap64 (x11 + 1))) else (if ((rd_T99 x9 x11).f1) = 4 then (job_Yield.l0 k x1 (wrap64 (x4 + ((rd_T99 x9 x11).f4))) (wrap64 (x5 + ((rd_T99 x9 x11).f3))) x9 x10 (wrap64 (x11 + 1))) else (job_Yield.l0 k x1 x4 x5 x9 x10 (wrap64 (x11 + 1))))) else (job_Yield.l0 k x1 x4 x5 x9 x10 (wrap64 (x11 + 1)))) else (none)) else (none)) else (some (x4, x5))
def job_Yield.f (k : Nat) (a0_0 : Int) (l0_1 : List (S99)) (l0_2 : List (S24)) (a0_3 : Int) (a0_4 : Int) (a1 : ByteArray) : Option (Int × Int) := job_Yield.l0 k a1 0 0 l0_1 (l0_1.length : Int) 0
theorem job_Yield.mono_l : ∀ k, (∀ y0 y1 y2 y3 y4 y5, LeO (job_Yield.l0 k y0 y1 y2 y3 y4 y5) (job_Yield.l0 (k + 1) y0 y1 y2 y3 y4 y5))
 | 0 => fun _ _ _ _ _ _ r h => by simp [job_Yield.l0] at h
 | k + 1 => by
  have ih0 := job_Yield.mono_l k
  ·intro y0 y1 y2 y3 y4 y5
   unfold job_Yield.l0
   repeat' first
   | (with_reducible exact ih0 _ _ _ _ _ _)
   | (with_reducible exact LeO.refl _)
   | (with_reducible exact LeO.none _)
   | (with_reducible refine LeO.ite ?_ ?_)
   | (with_reducible refine LeO.bind ?_ (fun _ => ?_))
   | exact ih0 _ _ _ _ _ _
   | exact LeO.none _
   | refine LeO.ite ?_ ?_
   | refine LeO.bind ?_ (fun _ => ?_)
theorem job_Yield.mono : ∀ a0 a1 a2 a3 a4 a5 k, LeO (job_Yield.f k a0 a1 a2 a3 a4 a5) (job_Yield.f (k + 1) a0 a1 a2 a3 a4 a5) := by
 intro a0 a1 a2 a3 a4 a5 k
 have ih0 := job_Yield.mono_l k
 unfold job_Yield.f
 repeat' first
   | (with_reducible exact ih0 _ _ _ _ _ _)
   | (with_reducible exact LeO.refl _)
   | (with_reducible exact LeO.none _)
   | (with_reducible refine LeO.ite ?_ ?_)
   | (with_reducible refine LeO.bind ?_ (fun _ => ?_))
   | exact ih0 _ _ _ _ _ _
   | exact LeO.none _
   | refine LeO.ite ?_ ?_
   | refine LeO.bind ?_ (fun _ => ?_)
set_option maxHeartbeats 8000000 in
set_option maxRecDepth 100000 in
theorem job_Yield.calls (k : Nat) (a0_0 : Int) (A0_1 : Option Addr) (c0_1 : Nat) (l0_1 : List (S99)) (A0_2 : Option Addr) (c0_2 : Nat) (l0_2 : List (S24)) (a0_3 : Int) (a0_4 : Int) (a1 : ByteArray) (r1 : Int) (r2 : Int) (w : World) (hr0_1 : Kd.C k99 w A0_1 l0_1.length l0_1) (hc0_1 : l0_1.length ≤ c0_1) (hr0_2 : Kd.C k24 w A0_2 l0_2.length l0_2) (hc0_2 : l0_2.length ≤ c0_2) (h : job_Yield.f k a0_0 l0_1 l0_2 a0_3 a0_4 a1 = some (r1, r2)) :
  Calls Try.prog 52 #[.agg #[.int .i64 a0_0, .slice A0_1 l0_1.length c0_1, .slice A0_2 l0_2.length c0_2, .int .i64 a0_3, .int .i64 a0_4], .string a1] w fun e w' => e = .returned (.tuple #[.int .i64 r1, .int .i64 r2]) ∧ Below w.heap.size w w' := by
 have hu77 := Try.underlying77
 have hu99 := Try.underlying99
 have HR0_1 := Aside0.mk hr0_1
 have HC0_1 := Aside0.mk hc0_1
 clear hr0_1 hc0_1
 have HR0_2 := Aside0.mk hr0_2
 have HC0_2 := Aside0.mk hc0_2
 clear hr0_2 hc0_2
 have HB := Aside0.mk (Below.refl w.heap.size w)
 have H : (job_Yield.l0 k a1 0 0 l0_1 (l0_1.length : Int) 0) = some (r1, r2) := h
 clear h
 have H' := Aside0.mk H
 clear H
 go_enter Try.func52, Try.ntmps52
 go_wp2_with (first | (with_reducible refine gate_load (T := 99) rfl ?_; refine ev_load 12 rfl rfl Try.underlying99 rfl t_8e ?hx ?h0 ?hr ?_; (case hx => first | rfl | (go_simp; done) | (go_simp; rfl)); (case h0 => first | assumption | (go_simp; done)); (case hr => repeat first | exact cn | (refine cc t_83 ?_))) | ((with_reducible refine gate_dst (N := 2) rfl ?_); refine bx_ (N := 2) (cs := #[.int .i64 a0_0, .slice A0_1 l0_1.length c0_1, .slice A0_2 l0_2.length c0_2, .int .i64 a0_3, .int .i64 a0_4]) (t := 77) ?_; intro gb180 hg w3 hbox hb; have BK180 := Aside0.mk (hbox); have GW180 := Aside0.mk ((by rw [hg]; exact (below_size (bb HB.out)) : w.heap.size ≤ gb180)); have GE180 := Aside0.mk ((by rw [hg]; exact (below_size (bb HB.out)) : w.heap.size ≤ gb180)); replace HB := Aside0.mk (below_step (bb HB.out) hb); clear hb hbox hg; obtain ⟨hcz4_0, hcz4_1, hcz4_2, hcz4_3, hcz4_4⟩ := sqc5 BK180.out; obtain ⟨hfz4_0, hfz4_1, hfz4_2, hfz4_3, hfz4_4⟩ := frozen5 BK180.out))
 repeat (go_quiet (first | ((with_reducible refine gate_dst (N := 2) rfl ?_); refine bx_ (N := 2) (cs := #[.int .i64 a0_0, .slice A0_1 l0_1.length c0_1, .slice A0_2 l0_2.length c0_2, .int .i64 a0_3, .int .i64 a0_4]) (t := 77) ?_; intro gb180 hg w3 hbox hb; have BK180 := Aside0.mk (hbox); have GW180 := Aside0.mk ((by rw [hg]; exact (below_size (bb HB.out)) : w.heap.size ≤ gb180)); have GE180 := Aside0.mk ((by rw [hg]; exact (below_size (bb HB.out)) : w.heap.size ≤ gb180)); replace HB := Aside0.mk (below_step (bb HB.out) hb); clear hb hbox hg; obtain ⟨hcz4_0, hcz4_1, hcz4_2, hcz4_3, hcz4_4⟩ := sqc5 BK180.out; obtain ⟨hfz4_0, hfz4_1, hfz4_2, hfz4_3, hfz4_4⟩ := frozen5 BK180.out)); try go_wp2_with (first | (with_reducible refine gate_load (T := 99) rfl ?_; refine ev_load 12 rfl rfl Try.underlying99 rfl t_8e ?hx ?h0 ?hr ?_; (case hx => first | rfl | (go_simp; done) | (go_simp; rfl)); (case h0 => first | assumption | (go_simp; done)); (case hr => repeat first | exact cn | (refine cc t_83 ?_))) | ((with_reducible refine gate_dst (N := 2) rfl ?_); refine bx_ (N := 2) (cs := #[.int .i64 a0_0, .slice A0_1 l0_1.length c0_1, .slice A0_2 l0_2.length c0_2, .int .i64 a0_3, .int .i64 a0_4]) (t := 77) ?_; intro gb180 hg w3 hbox hb; have BK180 := Aside0.mk (hbox); have GW180 := Aside0.mk ((by rw [hg]; exact (below_size (bb HB.out)) : w.heap.size ≤ gb180)); have GE180 := Aside0.mk ((by rw [hg]; exact (below_size (bb HB.out)) : w.heap.size ≤ gb180)); replace HB := Aside0.mk (below_step (bb HB.out) hb); clear hb hbox hg; obtain ⟨hcz4_0, hcz4_1, hcz4_2, hcz4_3, hcz4_4⟩ := sqc5 BK180.out; obtain ⟨hfz4_0, hfz4_1, hfz4_2, hfz4_3, hfz4_4⟩ := frozen5 BK180.out)))
 go_loopg [4, 5, 11] k (fun kq v4 v5 v11 w' => ∃ (x4_1 : Int) (x5_1 : Int) (x11_1 : Int), v4 = .int .i64 x4_1 ∧ v5 = .int .i64 x5_1 ∧ v11 = .int .i64 x11_1 ∧ Aside0 (job_Yield.l0 kq a1 x4_1 x5_1 l0_1 (l0_1.length : Int) x11_1 = some (r1, r2)) ∧ Aside0 (kq ≤ k) ∧ Aside0 (w'.heap[gb180]? = some (.cells #[.int .i64 a0_0, (.slice A0_1 l0_1.length c0_1), (.slice A0_2 l0_2.length c0_2), .int .i64 a0_3, .int .i64 a0_4] 77 (0, 0))) ∧ Aside0 (Below w.heap.size w w'))
 case atStart => exact ⟨(0), (0), (0), t_7f, t_7f, t_7f, H', ⟨Nat.le_refl _⟩, ⟨by (with_reducible repeat (first | refine blk_drewN ?_ _ | refine blk_drew ?_ | refine blk_alloc ?_ _)); exact BK180.out⟩, ⟨t_36⟩⟩
 case round =>
  clear H'
  try clear p2
  try clear hcz4_0 hcz4_1 hcz4_2 hcz4_3 hcz4_4
  try clear hfz4_0 hfz4_1 hfz4_2 hfz4_3 hfz4_4
  obtain ⟨x4_1, x5_1, x11_1, rfl, rfl, rfl, HA, HK1, BK180, HB⟩ := hrel
  cases gk with
  | zero => exact absurd HA.out (by simp [job_Yield.l0])
  | succ k1 =>
   have H := HA.out
   clear HA
   simp only [job_Yield.l0] at H
   by_cases c5 : x11_1 < (l0_1.length : Int)
   ·rw [if_pos c5] at H
    have c5b0 : decide (x11_1 < (l0_1.length : Int)) = true := decide_eq_true c5
    clear c5
    by_cases c6 : 0 ≤ x11_1
    ·rw [if_pos c6] at H
     have c6b0 : decide (0 ≤ x11_1) = true := decide_eq_true c6
     clear c6
     by_cases c7 : x11_1 < (l0_1.length : Int)
     ·rw [if_pos c7] at H
      have c7b0 : decide (x11_1 < (l0_1.length : Int)) = true := decide_eq_true c7
      clear c7
      by_cases c8 : ((rd_T99 l0_1 x11_1).f0.f2).toList = a1.toList
      ·rw [if_pos c8] at H
       have c8b0 : (((rd_T99 l0_1 x11_1).f0.f2).toList == a1.toList) = true := beq_iff_eq.mpr c8
       have c8b1 : (((rd_T99 l0_1 x11_1).f0.f2).toList != a1.toList) = false := bne_eq_false_iff_eq.mpr c8
       clear c8
       by_cases c9 : ((rd_T99 l0_1 x11_1).f1) = 3
       ·rw [if_pos c9] at H
        have c9b0 : (((rd_T99 l0_1 x11_1).f1) == 3) = true := beq_iff_eq.mpr c9
        have c9b1 : (((rd_T99 l0_1 x11_1).f1) != 3) = false := bne_eq_false_iff_eq.mpr c9
        clear c9
        have H' := Aside0.mk H
        clear H
        have p181 : 0 ≤ (x11_1 : Int) := of_decide_eq_true t_7d
        have q181 : x11_1 < (l0_1.length : Int) := of_decide_eq_true t_7d
        obtain ⟨ad181, e181, hx181_0, hx181_1, hx181_2, hx181_3, hx181_4, hx181_5, hx181_6, hx181_7, hx181_8, hx181_9, hx181_10, hx181_11, hx181_12⟩ := at_T99 HR0_1.out x11_1 p181 q181
        cases e181
        replace hx181_0 := hc_ HB.out hx181_0
        replace hx181_1 := hc_ HB.out hx181_1
        replace hx181_2 := hc_ HB.out hx181_2
        replace hx181_3 := hc_ HB.out hx181_3
        replace hx181_4 := hc_ HB.out hx181_4
        replace hx181_5 := hc_ HB.out hx181_5
        replace hx181_6 := hc_ HB.out hx181_6
        replace hx181_7 := hc_ HB.out hx181_7
        replace hx181_8 := hc_ HB.out hx181_8
        replace hx181_9 := hc_ HB.out hx181_9
        replace hx181_10 := hc_ HB.out hx181_10
        replace hx181_11 := hc_ HB.out hx181_11
        replace hx181_12 := hc_ HB.out hx181_12
        replace p181 := eq_true p181
        replace q181 := eq_true q181
        go_wp2_with (first | (with_reducible refine gate_load (T := 99) rfl ?_; refine ev_load 12 rfl rfl Try.underlying99 rfl t_8e ?hx ?h0 ?hr ?_; (case hx => first | rfl | (go_simp; done) | (go_simp; rfl)); (case h0 => first | assumption | (go_simp; done)); (case hr => repeat first | exact cn | (refine cc t_83 ?_))) | ((with_reducible refine gate_dst (N := 7) rfl ?_); refine bx_ (N := 7) (cs := #[.string (⟨#[]⟩ : ByteArray), .string (⟨#[]⟩ : ByteArray), .string (⟨#[]⟩ : ByteArray), .int .i64 0, .int .i64 0, .int .i64 0, .int .i64 0, .int .i64 0, .int .i64 0, .string (⟨#[]⟩ : ByteArray), .string (⟨#[]⟩ : ByteArray), .int .i64 0, .int .i64 0]) (t := 99) ?_; intro gb182 hg w10 hbox hb; have BK182 := Aside0.mk (hbox); have GW182 := Aside0.mk ((by rw [hg]; exact (below_size t_36) : w.heap.size ≤ gb182)); have GE182 := Aside0.mk ((by rw [hg]; exact (below_size t_36) : w.heap.size ≤ gb182)); replace HB := Aside0.mk (below_step t_36 hb); have NB180_182 := nl hg BK180; have NB182_180 := ng hg BK180; replace BK180 := kc BK180 hb; clear hb hbox hg; have hnb11 := NB182_180.out; have hnc11 := NB180_182.out; obtain ⟨hcz12_0, hcz12_1, hcz12_2, hcz12_3, hcz12_4, hcz12_5, hcz12_6, hcz12_7, hcz12_8, hcz12_9, hcz12_10, hcz12_11, hcz12_12⟩ := sqc13 BK182.out; obtain ⟨hfz12_0, hfz12_1, hfz12_2, hfz12_3, hfz12_4, hfz12_5, hfz12_6, hfz12_7, hfz12_8, hfz12_9, hfz12_10, hfz12_11, hfz12_12⟩ := frozen13 BK182.out))
        repeat (go_quiet (first | ((with_reducible refine gate_dst (N := 7) rfl ?_); refine bx_ (N := 7) (cs := #[.string (⟨#[]⟩ : ByteArray), .string (⟨#[]⟩ : ByteArray), .string (⟨#[]⟩ : ByteArray), .int .i64 0, .int .i64 0, .int .i64 0, .int .i64 0, .int .i64 0, .int .i64 0, .string (⟨#[]⟩ : ByteArray), .string (⟨#[]⟩ : ByteArray), .int .i64 0, .int .i64 0]) (t := 99) ?_; intro gb182 hg w10 hbox hb; have BK182 := Aside0.mk (hbox); have GW182 := Aside0.mk ((by rw [hg]; exact (below_size t_36) : w.heap.size ≤ gb182)); have GE182 := Aside0.mk ((by rw [hg]; exact (below_size t_36) : w.heap.size ≤ gb182)); replace HB := Aside0.mk (below_step t_36 hb); have NB180_182 := nl hg BK180; have NB182_180 := ng hg BK180; replace BK180 := kc BK180 hb; clear hb hbox hg; have hnb11 := NB182_180.out; have hnc11 := NB180_182.out; obtain ⟨hcz12_0, hcz12_1, hcz12_2, hcz12_3, hcz12_4, hcz12_5, hcz12_6, hcz12_7, hcz12_8, hcz12_9, hcz12_10, hcz12_11, hcz12_12⟩ := sqc13 BK182.out; obtain ⟨hfz12_0, hfz12_1, hfz12_2, hfz12_3, hfz12_4, hfz12_5, hfz12_6, hfz12_7, hfz12_8, hfz12_9, hfz12_10, hfz12_11, hfz12_12⟩ := frozen13 BK182.out)); try go_wp2_with (first | (with_reducible refine gate_load (T := 99) rfl ?_; refine ev_load 12 rfl rfl Try.underlying99 rfl t_8e ?hx ?h0 ?hr ?_; (case hx => first | rfl | (go_simp; done) | (go_simp; rfl)); (case h0 => first | assumption | (go_simp; done)); (case hr => repeat first | exact cn | (refine cc t_83 ?_))) | ((with_reducible refine gate_dst (N := 7) rfl ?_); refine bx_ (N := 7) (cs := #[.string (⟨#[]⟩ : ByteArray), .string (⟨#[]⟩ : ByteArray), .string (⟨#[]⟩ : ByteArray), .int .i64 0, .int .i64 0, .int .i64 0, .int .i64 0, .int .i64 0, .int .i64 0, .string (⟨#[]⟩ : ByteArray), .string (⟨#[]⟩ : ByteArray), .int .i64 0, .int .i64 0]) (t := 99) ?_; intro gb182 hg w10 hbox hb; have BK182 := Aside0.mk (hbox); have GW182 := Aside0.mk ((by rw [hg]; exact (below_size t_36) : w.heap.size ≤ gb182)); have GE182 := Aside0.mk ((by rw [hg]; exact (below_size t_36) : w.heap.size ≤ gb182)); replace HB := Aside0.mk (below_step t_36 hb); have NB180_182 := nl hg BK180; have NB182_180 := ng hg BK180; replace BK180 := kc BK180 hb; clear hb hbox hg; have hnb11 := NB182_180.out; have hnc11 := NB180_182.out; obtain ⟨hcz12_0, hcz12_1, hcz12_2, hcz12_3, hcz12_4, hcz12_5, hcz12_6, hcz12_7, hcz12_8, hcz12_9, hcz12_10, hcz12_11, hcz12_12⟩ := sqc13 BK182.out; obtain ⟨hfz12_0, hfz12_1, hfz12_2, hfz12_3, hfz12_4, hfz12_5, hfz12_6, hfz12_7, hfz12_8, hfz12_9, hfz12_10, hfz12_11, hfz12_12⟩ := frozen13 BK182.out)))
        go_roundg k1
        case measure => have := HK1.out; omega
        case rel => exact ⟨(wrap64 (x4_1 + ((rd_T99 l0_1 x11_1).f4))), (wrap64 (x5_1 + ((rd_T99 l0_1 x11_1).f3))), (wrap64 (x11_1 + 1)), t_7f, t_7f, t_7f, H', ⟨t_87⟩, ⟨t_0⟩, ⟨t_1e⟩⟩
       ·rw [if_neg c9] at H
        have c9b0 : (((rd_T99 l0_1 x11_1).f1) == 3) = false := beq_eq_false_iff_ne.mpr c9
        have c9b1 : (((rd_T99 l0_1 x11_1).f1) != 3) = true := bne_iff_ne.mpr c9
        by_cases c13 : ((rd_T99 l0_1 x11_1).f1) = 4
        ·rw [if_pos c13] at H
         have c13b0 : (((rd_T99 l0_1 x11_1).f1) == 4) = true := beq_iff_eq.mpr c13
         have c13b1 : (((rd_T99 l0_1 x11_1).f1) != 4) = false := bne_eq_false_iff_eq.mpr c13
         clear c13
         have H' := Aside0.mk H
         clear H
         have p181 : 0 ≤ (x11_1 : Int) := of_decide_eq_true t_7d
         have q181 : x11_1 < (l0_1.length : Int) := of_decide_eq_true t_7d
         obtain ⟨ad181, e181, hx181_0, hx181_1, hx181_2, hx181_3, hx181_4, hx181_5, hx181_6, hx181_7, hx181_8, hx181_9, hx181_10, hx181_11, hx181_12⟩ := at_T99 HR0_1.out x11_1 p181 q181
         cases e181
         replace hx181_0 := hc_ HB.out hx181_0
         replace hx181_1 := hc_ HB.out hx181_1
         replace hx181_2 := hc_ HB.out hx181_2
         replace hx181_3 := hc_ HB.out hx181_3
         replace hx181_4 := hc_ HB.out hx181_4
         replace hx181_5 := hc_ HB.out hx181_5
         replace hx181_6 := hc_ HB.out hx181_6
         replace hx181_7 := hc_ HB.out hx181_7
         replace hx181_8 := hc_ HB.out hx181_8
         replace hx181_9 := hc_ HB.out hx181_9
         replace hx181_10 := hc_ HB.out hx181_10
         replace hx181_11 := hc_ HB.out hx181_11
         replace hx181_12 := hc_ HB.out hx181_12
         replace p181 := eq_true p181
         replace q181 := eq_true q181
         go_wp2_with (first | (with_reducible refine gate_load (T := 99) rfl ?_; refine ev_load 12 rfl rfl Try.underlying99 rfl t_8e ?hx ?h0 ?hr ?_; (case hx => first | rfl | (go_simp; done) | (go_simp; rfl)); (case h0 => first | assumption | (go_simp; done)); (case hr => repeat first | exact cn | (refine cc t_83 ?_))) | ((with_reducible refine gate_dst (N := 7) rfl ?_); refine bx_ (N := 7) (cs := #[.string (⟨#[]⟩ : ByteArray), .string (⟨#[]⟩ : ByteArray), .string (⟨#[]⟩ : ByteArray), .int .i64 0, .int .i64 0, .int .i64 0, .int .i64 0, .int .i64 0, .int .i64 0, .string (⟨#[]⟩ : ByteArray), .string (⟨#[]⟩ : ByteArray), .int .i64 0, .int .i64 0]) (t := 99) ?_; intro gb182 hg w14 hbox hb; have BK182 := Aside0.mk (hbox); have GW182 := Aside0.mk ((by rw [hg]; exact (below_size t_36) : w.heap.size ≤ gb182)); have GE182 := Aside0.mk ((by rw [hg]; exact (below_size t_36) : w.heap.size ≤ gb182)); replace HB := Aside0.mk (below_step t_36 hb); have NB180_182 := nl hg BK180; have NB182_180 := ng hg BK180; replace BK180 := kc BK180 hb; clear hb hbox hg; have hnb15 := NB182_180.out; have hnc15 := NB180_182.out; obtain ⟨hcz16_0, hcz16_1, hcz16_2, hcz16_3, hcz16_4, hcz16_5, hcz16_6, hcz16_7, hcz16_8, hcz16_9, hcz16_10, hcz16_11, hcz16_12⟩ := sqc13 BK182.out; obtain ⟨hfz16_0, hfz16_1, hfz16_2, hfz16_3, hfz16_4, hfz16_5, hfz16_6, hfz16_7, hfz16_8, hfz16_9, hfz16_10, hfz16_11, hfz16_12⟩ := frozen13 BK182.out))
         repeat (go_quiet (first | ((with_reducible refine gate_dst (N := 7) rfl ?_); refine bx_ (N := 7) (cs := #[.string (⟨#[]⟩ : ByteArray), .string (⟨#[]⟩ : ByteArray), .string (⟨#[]⟩ : ByteArray), .int .i64 0, .int .i64 0, .int .i64 0, .int .i64 0, .int .i64 0, .int .i64 0, .string (⟨#[]⟩ : ByteArray), .string (⟨#[]⟩ : ByteArray), .int .i64 0, .int .i64 0]) (t := 99) ?_; intro gb182 hg w14 hbox hb; have BK182 := Aside0.mk (hbox); have GW182 := Aside0.mk ((by rw [hg]; exact (below_size t_36) : w.heap.size ≤ gb182)); have GE182 := Aside0.mk ((by rw [hg]; exact (below_size t_36) : w.heap.size ≤ gb182)); replace HB := Aside0.mk (below_step t_36 hb); have NB180_182 := nl hg BK180; have NB182_180 := ng hg BK180; replace BK180 := kc BK180 hb; clear hb hbox hg; have hnb15 := NB182_180.out; have hnc15 := NB180_182.out; obtain ⟨hcz16_0, hcz16_1, hcz16_2, hcz16_3, hcz16_4, hcz16_5, hcz16_6, hcz16_7, hcz16_8, hcz16_9, hcz16_10, hcz16_11, hcz16_12⟩ := sqc13 BK182.out; obtain ⟨hfz16_0, hfz16_1, hfz16_2, hfz16_3, hfz16_4, hfz16_5, hfz16_6, hfz16_7, hfz16_8, hfz16_9, hfz16_10, hfz16_11, hfz16_12⟩ := frozen13 BK182.out)); try go_wp2_with (first | (with_reducible refine gate_load (T := 99) rfl ?_; refine ev_load 12 rfl rfl Try.underlying99 rfl t_8e ?hx ?h0 ?hr ?_; (case hx => first | rfl | (go_simp; done) | (go_simp; rfl)); (case h0 => first | assumption | (go_simp; done)); (case hr => repeat first | exact cn | (refine cc t_83 ?_))) | ((with_reducible refine gate_dst (N := 7) rfl ?_); refine bx_ (N := 7) (cs := #[.string (⟨#[]⟩ : ByteArray), .string (⟨#[]⟩ : ByteArray), .string (⟨#[]⟩ : ByteArray), .int .i64 0, .int .i64 0, .int .i64 0, .int .i64 0, .int .i64 0, .int .i64 0, .string (⟨#[]⟩ : ByteArray), .string (⟨#[]⟩ : ByteArray), .int .i64 0, .int .i64 0]) (t := 99) ?_; intro gb182 hg w14 hbox hb; have BK182 := Aside0.mk (hbox); have GW182 := Aside0.mk ((by rw [hg]; exact (below_size t_36) : w.heap.size ≤ gb182)); have GE182 := Aside0.mk ((by rw [hg]; exact (below_size t_36) : w.heap.size ≤ gb182)); replace HB := Aside0.mk (below_step t_36 hb); have NB180_182 := nl hg BK180; have NB182_180 := ng hg BK180; replace BK180 := kc BK180 hb; clear hb hbox hg; have hnb15 := NB182_180.out; have hnc15 := NB180_182.out; obtain ⟨hcz16_0, hcz16_1, hcz16_2, hcz16_3, hcz16_4, hcz16_5, hcz16_6, hcz16_7, hcz16_8, hcz16_9, hcz16_10, hcz16_11, hcz16_12⟩ := sqc13 BK182.out; obtain ⟨hfz16_0, hfz16_1, hfz16_2, hfz16_3, hfz16_4, hfz16_5, hfz16_6, hfz16_7, hfz16_8, hfz16_9, hfz16_10, hfz16_11, hfz16_12⟩ := frozen13 BK182.out)))
         go_roundg k1
         case measure => have := HK1.out; omega
         case rel => exact ⟨(wrap64 (x4_1 + ((rd_T99 l0_1 x11_1).f4))), (wrap64 (x5_1 + ((rd_T99 l0_1 x11_1).f3))), (wrap64 (x11_1 + 1)), t_7f, t_7f, t_7f, H', ⟨t_87⟩, ⟨t_0⟩, ⟨t_1e⟩⟩
        ·rw [if_neg c13] at H
         have c13b0 : (((rd_T99 l0_1 x11_1).f1) == 4) = false := beq_eq_false_iff_ne.mpr c13
         have c13b1 : (((rd_T99 l0_1 x11_1).f1) != 4) = true := bne_iff_ne.mpr c13
         have H' := Aside0.mk H
         clear H
         have p181 : 0 ≤ (x11_1 : Int) := of_decide_eq_true t_7d
         have q181 : x11_1 < (l0_1.length : Int) := of_decide_eq_true t_7d
         obtain ⟨ad181, e181, hx181_0, hx181_1, hx181_2, hx181_3, hx181_4, hx181_5, hx181_6, hx181_7, hx181_8, hx181_9, hx181_10, hx181_11, hx181_12⟩ := at_T99 HR0_1.out x11_1 p181 q181
         cases e181
         replace hx181_0 := hc_ HB.out hx181_0
         replace hx181_1 := hc_ HB.out hx181_1
         replace hx181_2 := hc_ HB.out hx181_2
         replace hx181_3 := hc_ HB.out hx181_3
         replace hx181_4 := hc_ HB.out hx181_4
         replace hx181_5 := hc_ HB.out hx181_5
         replace hx181_6 := hc_ HB.out hx181_6
         replace hx181_7 := hc_ HB.out hx181_7
         replace hx181_8 := hc_ HB.out hx181_8
         replace hx181_9 := hc_ HB.out hx181_9
         replace hx181_10 := hc_ HB.out hx181_10
         replace hx181_11 := hc_ HB.out hx181_11
         replace hx181_12 := hc_ HB.out hx181_12
         replace p181 := eq_true p181
         replace q181 := eq_true q181
         go_wp2_with (first | (with_reducible refine gate_load (T := 99) rfl ?_; refine ev_load 12 rfl rfl Try.underlying99 rfl t_8e ?hx ?h0 ?hr ?_; (case hx => first | rfl | (go_simp; done) | (go_simp; rfl)); (case h0 => first | assumption | (go_simp; done)); (case hr => repeat first | exact cn | (refine cc t_83 ?_))) | ((with_reducible refine gate_dst (N := 7) rfl ?_); refine bx_ (N := 7) (cs := #[.string (⟨#[]⟩ : ByteArray), .string (⟨#[]⟩ : ByteArray), .string (⟨#[]⟩ : ByteArray), .int .i64 0, .int .i64 0, .int .i64 0, .int .i64 0, .int .i64 0, .int .i64 0, .string (⟨#[]⟩ : ByteArray), .string (⟨#[]⟩ : ByteArray), .int .i64 0, .int .i64 0]) (t := 99) ?_; intro gb182 hg w17 hbox hb; have BK182 := Aside0.mk (hbox); have GW182 := Aside0.mk ((by rw [hg]; exact (below_size t_36) : w.heap.size ≤ gb182)); have GE182 := Aside0.mk ((by rw [hg]; exact (below_size t_36) : w.heap.size ≤ gb182)); replace HB := Aside0.mk (below_step t_36 hb); have NB180_182 := nl hg BK180; have NB182_180 := ng hg BK180; replace BK180 := kc BK180 hb; clear hb hbox hg; have hnb18 := NB182_180.out; have hnc18 := NB180_182.out; obtain ⟨hcz19_0, hcz19_1, hcz19_2, hcz19_3, hcz19_4, hcz19_5, hcz19_6, hcz19_7, hcz19_8, hcz19_9, hcz19_10, hcz19_11, hcz19_12⟩ := sqc13 BK182.out; obtain ⟨hfz19_0, hfz19_1, hfz19_2, hfz19_3, hfz19_4, hfz19_5, hfz19_6, hfz19_7, hfz19_8, hfz19_9, hfz19_10, hfz19_11, hfz19_12⟩ := frozen13 BK182.out))
         repeat (go_quiet (first | ((with_reducible refine gate_dst (N := 7) rfl ?_); refine bx_ (N := 7) (cs := #[.string (⟨#[]⟩ : ByteArray), .string (⟨#[]⟩ : ByteArray), .string (⟨#[]⟩ : ByteArray), .int .i64 0, .int .i64 0, .int .i64 0, .int .i64 0, .int .i64 0, .int .i64 0, .string (⟨#[]⟩ : ByteArray), .string (⟨#[]⟩ : ByteArray), .int .i64 0, .int .i64 0]) (t := 99) ?_; intro gb182 hg w17 hbox hb; have BK182 := Aside0.mk (hbox); have GW182 := Aside0.mk ((by rw [hg]; exact (below_size t_36) : w.heap.size ≤ gb182)); have GE182 := Aside0.mk ((by rw [hg]; exact (below_size t_36) : w.heap.size ≤ gb182)); replace HB := Aside0.mk (below_step t_36 hb); have NB180_182 := nl hg BK180; have NB182_180 := ng hg BK180; replace BK180 := kc BK180 hb; clear hb hbox hg; have hnb18 := NB182_180.out; have hnc18 := NB180_182.out; obtain ⟨hcz19_0, hcz19_1, hcz19_2, hcz19_3, hcz19_4, hcz19_5, hcz19_6, hcz19_7, hcz19_8, hcz19_9, hcz19_10, hcz19_11, hcz19_12⟩ := sqc13 BK182.out; obtain ⟨hfz19_0, hfz19_1, hfz19_2, hfz19_3, hfz19_4, hfz19_5, hfz19_6, hfz19_7, hfz19_8, hfz19_9, hfz19_10, hfz19_11, hfz19_12⟩ := frozen13 BK182.out)); try go_wp2_with (first | (with_reducible refine gate_load (T := 99) rfl ?_; refine ev_load 12 rfl rfl Try.underlying99 rfl t_8e ?hx ?h0 ?hr ?_; (case hx => first | rfl | (go_simp; done) | (go_simp; rfl)); (case h0 => first | assumption | (go_simp; done)); (case hr => repeat first | exact cn | (refine cc t_83 ?_))) | ((with_reducible refine gate_dst (N := 7) rfl ?_); refine bx_ (N := 7) (cs := #[.string (⟨#[]⟩ : ByteArray), .string (⟨#[]⟩ : ByteArray), .string (⟨#[]⟩ : ByteArray), .int .i64 0, .int .i64 0, .int .i64 0, .int .i64 0, .int .i64 0, .int .i64 0, .string (⟨#[]⟩ : ByteArray), .string (⟨#[]⟩ : ByteArray), .int .i64 0, .int .i64 0]) (t := 99) ?_; intro gb182 hg w17 hbox hb; have BK182 := Aside0.mk (hbox); have GW182 := Aside0.mk ((by rw [hg]; exact (below_size t_36) : w.heap.size ≤ gb182)); have GE182 := Aside0.mk ((by rw [hg]; exact (below_size t_36) : w.heap.size ≤ gb182)); replace HB := Aside0.mk (below_step t_36 hb); have NB180_182 := nl hg BK180; have NB182_180 := ng hg BK180; replace BK180 := kc BK180 hb; clear hb hbox hg; have hnb18 := NB182_180.out; have hnc18 := NB180_182.out; obtain ⟨hcz19_0, hcz19_1, hcz19_2, hcz19_3, hcz19_4, hcz19_5, hcz19_6, hcz19_7, hcz19_8, hcz19_9, hcz19_10, hcz19_11, hcz19_12⟩ := sqc13 BK182.out; obtain ⟨hfz19_0, hfz19_1, hfz19_2, hfz19_3, hfz19_4, hfz19_5, hfz19_6, hfz19_7, hfz19_8, hfz19_9, hfz19_10, hfz19_11, hfz19_12⟩ := frozen13 BK182.out)))
         go_roundg k1
         case measure => have := HK1.out; omega
         case rel => exact ⟨(x4_1), (x5_1), (wrap64 (x11_1 + 1)), t_7f, t_7f, t_7f, H', ⟨t_87⟩, ⟨t_0⟩, ⟨t_1e⟩⟩
      ·rw [if_neg c8] at H
       have c8b0 : (((rd_T99 l0_1 x11_1).f0.f2).toList == a1.toList) = false := beq_eq_false_iff_ne.mpr c8
       have c8b1 : (((rd_T99 l0_1 x11_1).f0.f2).toList != a1.toList) = true := bne_iff_ne.mpr c8
       have H' := Aside0.mk H
       clear H
       have p181 : 0 ≤ (x11_1 : Int) := of_decide_eq_true t_7d
       have q181 : x11_1 < (l0_1.length : Int) := of_decide_eq_true t_7d
       obtain ⟨ad181, e181, hx181_0, hx181_1, hx181_2, hx181_3, hx181_4, hx181_5, hx181_6, hx181_7, hx181_8, hx181_9, hx181_10, hx181_11, hx181_12⟩ := at_T99 HR0_1.out x11_1 p181 q181
       cases e181
       replace hx181_0 := hc_ HB.out hx181_0
       replace hx181_1 := hc_ HB.out hx181_1
       replace hx181_2 := hc_ HB.out hx181_2
       replace hx181_3 := hc_ HB.out hx181_3
       replace hx181_4 := hc_ HB.out hx181_4
       replace hx181_5 := hc_ HB.out hx181_5
       replace hx181_6 := hc_ HB.out hx181_6
       replace hx181_7 := hc_ HB.out hx181_7
       replace hx181_8 := hc_ HB.out hx181_8
       replace hx181_9 := hc_ HB.out hx181_9
       replace hx181_10 := hc_ HB.out hx181_10
       replace hx181_11 := hc_ HB.out hx181_11
       replace hx181_12 := hc_ HB.out hx181_12
       replace p181 := eq_true p181
       replace q181 := eq_true q181
       go_wp2_with (first | (with_reducible refine gate_load (T := 99) rfl ?_; refine ev_load 12 rfl rfl Try.underlying99 rfl t_8e ?hx ?h0 ?hr ?_; (case hx => first | rfl | (go_simp; done) | (go_simp; rfl)); (case h0 => first | assumption | (go_simp; done)); (case hr => repeat first | exact cn | (refine cc t_83 ?_))) | ((with_reducible refine gate_dst (N := 7) rfl ?_); refine bx_ (N := 7) (cs := #[.string (⟨#[]⟩ : ByteArray), .string (⟨#[]⟩ : ByteArray), .string (⟨#[]⟩ : ByteArray), .int .i64 0, .int .i64 0, .int .i64 0, .int .i64 0, .int .i64 0, .int .i64 0, .string (⟨#[]⟩ : ByteArray), .string (⟨#[]⟩ : ByteArray), .int .i64 0, .int .i64 0]) (t := 99) ?_; intro gb182 hg w20 hbox hb; have BK182 := Aside0.mk (hbox); have GW182 := Aside0.mk ((by rw [hg]; exact (below_size t_36) : w.heap.size ≤ gb182)); have GE182 := Aside0.mk ((by rw [hg]; exact (below_size t_36) : w.heap.size ≤ gb182)); replace HB := Aside0.mk (below_step t_36 hb); have NB180_182 := nl hg BK180; have NB182_180 := ng hg BK180; replace BK180 := kc BK180 hb; clear hb hbox hg; have hnb21 := NB182_180.out; have hnc21 := NB180_182.out; obtain ⟨hcz22_0, hcz22_1, hcz22_2, hcz22_3, hcz22_4, hcz22_5, hcz22_6, hcz22_7, hcz22_8, hcz22_9, hcz22_10, hcz22_11, hcz22_12⟩ := sqc13 BK182.out; obtain ⟨hfz22_0, hfz22_1, hfz22_2, hfz22_3, hfz22_4, hfz22_5, hfz22_6, hfz22_7, hfz22_8, hfz22_9, hfz22_10, hfz22_11, hfz22_12⟩ := frozen13 BK182.out))
       repeat (go_quiet (first | ((with_reducible refine gate_dst (N := 7) rfl ?_); refine bx_ (N := 7) (cs := #[.string (⟨#[]⟩ : ByteArray), .string (⟨#[]⟩ : ByteArray), .string (⟨#[]⟩ : ByteArray), .int .i64 0, .int .i64 0, .int .i64 0, .int .i64 0, .int .i64 0, .int .i64 0, .string (⟨#[]⟩ : ByteArray), .string (⟨#[]⟩ : ByteArray), .int .i64 0, .int .i64 0]) (t := 99) ?_; intro gb182 hg w20 hbox hb; have BK182 := Aside0.mk (hbox); have GW182 := Aside0.mk ((by rw [hg]; exact (below_size t_36) : w.heap.size ≤ gb182)); have GE182 := Aside0.mk ((by rw [hg]; exact (below_size t_36) : w.heap.size ≤ gb182)); replace HB := Aside0.mk (below_step t_36 hb); have NB180_182 := nl hg BK180; have NB182_180 := ng hg BK180; replace BK180 := kc BK180 hb; clear hb hbox hg; have hnb21 := NB182_180.out; have hnc21 := NB180_182.out; obtain ⟨hcz22_0, hcz22_1, hcz22_2, hcz22_3, hcz22_4, hcz22_5, hcz22_6, hcz22_7, hcz22_8, hcz22_9, hcz22_10, hcz22_11, hcz22_12⟩ := sqc13 BK182.out; obtain ⟨hfz22_0, hfz22_1, hfz22_2, hfz22_3, hfz22_4, hfz22_5, hfz22_6, hfz22_7, hfz22_8, hfz22_9, hfz22_10, hfz22_11, hfz22_12⟩ := frozen13 BK182.out)); try go_wp2_with (first | (with_reducible refine gate_load (T := 99) rfl ?_; refine ev_load 12 rfl rfl Try.underlying99 rfl t_8e ?hx ?h0 ?hr ?_; (case hx => first | rfl | (go_simp; done) | (go_simp; rfl)); (case h0 => first | assumption | (go_simp; done)); (case hr => repeat first | exact cn | (refine cc t_83 ?_))) | ((with_reducible refine gate_dst (N := 7) rfl ?_); refine bx_ (N := 7) (cs := #[.string (⟨#[]⟩ : ByteArray), .string (⟨#[]⟩ : ByteArray), .string (⟨#[]⟩ : ByteArray), .int .i64 0, .int .i64 0, .int .i64 0, .int .i64 0, .int .i64 0, .int .i64 0, .string (⟨#[]⟩ : ByteArray), .string (⟨#[]⟩ : ByteArray), .int .i64 0, .int .i64 0]) (t := 99) ?_; intro gb182 hg w20 hbox hb; have BK182 := Aside0.mk (hbox); have GW182 := Aside0.mk ((by rw [hg]; exact (below_size t_36) : w.heap.size ≤ gb182)); have GE182 := Aside0.mk ((by rw [hg]; exact (below_size t_36) : w.heap.size ≤ gb182)); replace HB := Aside0.mk (below_step t_36 hb); have NB180_182 := nl hg BK180; have NB182_180 := ng hg BK180; replace BK180 := kc BK180 hb; clear hb hbox hg; have hnb21 := NB182_180.out; have hnc21 := NB180_182.out; obtain ⟨hcz22_0, hcz22_1, hcz22_2, hcz22_3, hcz22_4, hcz22_5, hcz22_6, hcz22_7, hcz22_8, hcz22_9, hcz22_10, hcz22_11, hcz22_12⟩ := sqc13 BK182.out; obtain ⟨hfz22_0, hfz22_1, hfz22_2, hfz22_3, hfz22_4, hfz22_5, hfz22_6, hfz22_7, hfz22_8, hfz22_9, hfz22_10, hfz22_11, hfz22_12⟩ := frozen13 BK182.out)))
       go_roundg k1
       case measure => have := HK1.out; omega
       case rel => exact ⟨(x4_1), (x5_1), (wrap64 (x11_1 + 1)), t_7f, t_7f, t_7f, H', ⟨t_87⟩, ⟨t_0⟩, ⟨t_1e⟩⟩
     ·rw [if_neg c7] at H
      exact absurd H (by simp)
    ·rw [if_neg c6] at H
     exact absurd H (by simp)
   ·rw [if_neg c5] at H
    have c5b0 : decide (x11_1 < (l0_1.length : Int)) = false := decide_eq_false c5
    clear c5
    simp only [Option.some.injEq, Prod.mk.injEq] at H
    obtain ⟨rfl, rfl⟩ := H
    go_wp2_with (first | (with_reducible refine gate_load (T := 99) rfl ?_; refine ev_load 12 rfl rfl Try.underlying99 rfl t_8e ?hx ?h0 ?hr ?_; (case hx => first | rfl | (go_simp; done) | (go_simp; rfl)); (case h0 => first | assumption | (go_simp; done)); (case hr => repeat first | exact cn | (refine cc t_83 ?_))))
    repeat (go_quiet (fail); try go_wp2_with (first | (with_reducible refine gate_load (T := 99) rfl ?_; refine ev_load 12 rfl rfl Try.underlying99 rfl t_8e ?hx ?h0 ?hr ?_; (case hx => first | rfl | (go_simp; done) | (go_simp; rfl)); (case h0 => first | assumption | (go_simp; done)); (case hr => repeat first | exact cn | (refine cc t_83 ?_)))))
    go_ret2
    exact ⟨t_68, t_36⟩

end Go.Proofs.Ytndbchcfjajgbaa.XP
