-- printed by xprint.py
import Derived.Test.YtndbchcfjajgbaaXB
import Derived.Test.YtndbchcfjajgbaaXP0
import Derived.Test.YtndbchcfjajgbaaHandJobFind
import Derived.Test.YtndbchcfjajgbaaHandJobDoF
namespace Go.Proofs.Ytndbchcfjajgbaa.XP
open Go.Proofs.Ytndbchcfjajgbaa.XB Go.Proofs.Ytndbchcfjajgbaa.XQ
open Go.Proofs.Ytndbchcfjajgbaa.XW
open Go.RowKit Go.Proofs.YtndbchcfjajgbaaW.PrintWords Go.Proofs.YtndbchcfjajgbaaW.PrintLast Go.Proofs.YtndbchcfjajgbaaW.PrintMore
attribute [local go_sem] max2_int min2_int max_two min_two max_three min_three max_four min_four   -- for this text's walks alone
set_option linter.unusedVariables false
set_option linter.unusedSimpArgs false

/-! ### job_Of: function 47 -/
def job_Of.l0 : Nat → List (S83) → List (S83) → Int → Int → Int → List (S99) → List (S24) → Int → Int → Option (Int × (List (S99)) × (List (S24)) × Int × Int × Int × Int)
 | 0, _, _, _, _, _, _, _, _, _ => none
 | k + 1, x1, x22, x23, x24, Qa0, Qa1, Qa2, Qa3, Qa4 => if x24 < x23 then (if 0 ≤ x24 then (if x24 < (x22.length : Int) then ((job_Do.f Qa0 Qa1 Qa2 Qa3 Qa4 ((rd_T83 x22 x24).f0) ((rd_T83 x22 x24).f1) ((rd_T83 x22 x24).f2.f0) ((rd_T83 x22 x24).f2.f1) ((rd_T83 x22 x24).f2.f2) ((rd_T83 x22 x24).f2.f3) ((rd_T83 x22 x24).f2.f4) ((rd_T83 x22 x24).f3) ((rd_T83 x22 x24).f4)).bind fun bt170 => (if bt170.2.2.2.2.2 = 0 then (job_Of.l0 k x1 x22 x23 (wrap64 (x24 + 1)) bt170.1 bt170.2.1 bt170.2.2.1 bt170.2.2.2.1 bt170.2.2.2.2.1) else (some (0, ([] : List (S99)), ([] : List (S24)), 0, 0, x24, bt170.2.2.2.2.2)))) else (none)) else (none)) else (some (Qa0, Qa1, Qa2, Qa3, Qa4, (x1.length : Int), 0))
def job_Of.f (k : Nat) (l0 : List (S24)) (l1 : List (S83)) : Option (Int × (List (S99)) × (List (S24)) × Int × Int × Int × Int) := if (l1.length : Int) > 200 then (some (0, ([] : List (S99)), ([] : List (S24)), 0, 0, 0, 3)) else ((job_Begin.f l0).bind fun bt158 => (if bt158.2.2.2.2.2 = 0 then (job_Of.l0 k l1 l1 (l1.length : Int) 0 bt158.1 bt158.2.1 bt158.2.2.1 bt158.2.2.2.1 bt158.2.2.2.2.1) else (some (0, ([] : List (S99)), ([] : List (S24)), 0, 0, 0, bt158.2.2.2.2.2))))
theorem job_Of.mono_l : ∀ k, (∀ y0 y1 y2 y3 y4 y5 y6 y7 y8, LeO (job_Of.l0 k y0 y1 y2 y3 y4 y5 y6 y7 y8) (job_Of.l0 (k + 1) y0 y1 y2 y3 y4 y5 y6 y7 y8))
 | 0 => fun _ _ _ _ _ _ _ _ _ r h => by simp [job_Of.l0] at h
 | k + 1 => by
  have ih0 := job_Of.mono_l k
  ·intro y0 y1 y2 y3 y4 y5 y6 y7 y8
   unfold job_Of.l0
   repeat' first
   | (with_reducible exact ih0 _ _ _ _ _ _ _ _ _)
   | (with_reducible exact LeO.refl _)
   | (with_reducible exact LeO.none _)
   | (with_reducible refine LeO.ite ?_ ?_)
   | (with_reducible refine LeO.bind ?_ (fun _ => ?_))
   | exact ih0 _ _ _ _ _ _ _ _ _
   | exact LeO.none _
   | refine LeO.ite ?_ ?_
   | refine LeO.bind ?_ (fun _ => ?_)
theorem job_Of.mono : ∀ a0 a1 k, LeO (job_Of.f k a0 a1) (job_Of.f (k + 1) a0 a1) := by
 intro a0 a1 k
 have ih0 := job_Of.mono_l k
 unfold job_Of.f
 repeat' first
   | (with_reducible exact ih0 _ _ _ _ _ _ _ _ _)
   | (with_reducible exact LeO.refl _)
   | (with_reducible exact LeO.none _)
   | (with_reducible refine LeO.ite ?_ ?_)
   | (with_reducible refine LeO.bind ?_ (fun _ => ?_))
   | exact ih0 _ _ _ _ _ _ _ _ _
   | exact LeO.none _
   | refine LeO.ite ?_ ?_
   | refine LeO.bind ?_ (fun _ => ?_)
set_option maxHeartbeats 8000000 in
set_option maxRecDepth 100000 in
theorem job_Of.calls (k : Nat) (A0 : Option Addr) (c0 : Nat) (l0 : List (S24)) (A1 : Option Addr) (c1 : Nat) (l1 : List (S83)) (r1 : Int) (r2 : List (S99)) (r3 : List (S24)) (r4 : Int) (r5 : Int) (r6 : Int) (r7 : Int) (w : World) (hr0 : Kd.C k24 w A0 l0.length l0) (hc0 : l0.length ≤ c0) (hr1 : Kd.C k83 w A1 l1.length l1) (hc1 : l1.length ≤ c1) (h : job_Of.f k l0 l1 = some (r1, r2, r3, r4, r5, r6, r7)) :
  Calls Try.prog 47 #[.slice A0 l0.length c0, .slice A1 l1.length c1] w fun e w' => ∃ v1_ v2_ : Value, e = .returned (.tuple #[.agg #[.int .i64 r1, v1_, v2_, .int .i64 r4, .int .i64 r5], .int .i64 r6, .int .i64 r7]) ∧ Kd.R k99 99 w' w.heap.size (fun _ => True) v1_ r2 ∧ Kd.R k24 24 w' w.heap.size (fun _ => True) v2_ r3 ∧ Below w.heap.size w w' := by
 have hu77 := Try.underlying77
 have hu83 := Try.underlying83
 have HR0 := Aside0.mk hr0
 have HC0 := Aside0.mk hc0
 clear hr0 hc0
 have HR1 := Aside0.mk hr1
 have HC1 := Aside0.mk hc1
 clear hr1 hc1
 have HB := Aside0.mk (Below.refl w.heap.size w)
 have H : (if (l1.length : Int) > 200 then (some (0, ([] : List (S99)), ([] : List (S24)), 0, 0, 0, 3)) else ((job_Begin.f l0).bind fun bt158 => (if bt158.2.2.2.2.2 = 0 then (job_Of.l0 k l1 l1 (l1.length : Int) 0 bt158.1 bt158.2.1 bt158.2.2.1 bt158.2.2.2.1 bt158.2.2.2.2.1) else (some (0, ([] : List (S99)), ([] : List (S24)), 0, 0, 0, bt158.2.2.2.2.2))))) = some (r1, r2, r3, r4, r5, r6, r7) := h
 clear h
 by_cases c3 : (l1.length : Int) > 200
 ·rw [if_pos c3] at H
  have c3b0 : decide (200 < (l1.length : Int)) = true := decide_eq_true c3
  have c3b1 : decide (200 < l1.length) = true := decide_eq_true (by omega)
  clear c3
  simp only [Option.some.injEq, Prod.mk.injEq] at H
  obtain ⟨rfl, rfl, rfl, rfl, rfl, rfl, rfl⟩ := H
  go_enter Try.func47, Try.ntmps47
  go_wp2_with (first | ((with_reducible refine gate_dst (N := 4) rfl ?_); refine bx_ (N := 4) (cs := #[.int .i64 0, .slice none 0 0, .slice none 0 0, .int .i64 0, .int .i64 0]) (t := 77) ?_; intro gb157 hg w4 hbox hb; have BK157 := Aside0.mk (hbox); have GW157 := Aside0.mk ((by rw [hg]; exact (below_size (bb HB.out)) : w.heap.size ≤ gb157)); have GE157 := Aside0.mk ((by rw [hg]; exact (below_size (bb HB.out)) : w.heap.size ≤ gb157)); replace HB := Aside0.mk (below_step (bb HB.out) hb); clear hb hbox hg; obtain ⟨hcz5_0, hcz5_1, hcz5_2, hcz5_3, hcz5_4⟩ := sqc5 BK157.out; obtain ⟨hfz5_0, hfz5_1, hfz5_2, hfz5_3, hfz5_4⟩ := frozen5 BK157.out))
  refine bodyPost_ret (results_ctt rfl _ _ gb157 77 #[.int .i64 0, .slice none 0 0, .slice none 0 0, .int .i64 0, .int .i64 0] (0, 0) _ rfl t_17 Try.underlying77 rfl t_8e) rfl ?_
  exact ⟨_, _, t_68, t_44, t_44, t_35⟩
 ·rw [if_neg c3] at H
  have c3b0 : decide (200 < (l1.length : Int)) = false := decide_eq_false c3
  have c3b1 : decide (200 < l1.length) = false := decide_eq_false (by omega)
  clear c3
  replace H := Option.bind_eq_some_iff.mp H
  obtain ⟨⟨t158, t159, t162, t165, t166, t167⟩, A60, H⟩ := H
  try dsimp only at H
  have A6 := Aside0.mk A60
  clear A60
  by_cases c7 : t167 = 0
  ·rw [if_pos c7] at H
   have c7b0 : (t167 == 0) = true := beq_iff_eq.mpr c7
   have c7b1 : (t167 != 0) = false := bne_eq_false_iff_eq.mpr c7
   clear c7
   have H' := Aside0.mk H
   clear H
   go_enter Try.func47, Try.ntmps47
   go_wp2_with (first | ((with_reducible refine gate_dst (N := 4) rfl ?_); refine bx_ (N := 4) (cs := #[.int .i64 0, .slice none 0 0, .slice none 0 0, .int .i64 0, .int .i64 0]) (t := 77) ?_; intro gb157 hg w8 hbox hb; have BK157 := Aside0.mk (hbox); have GW157 := Aside0.mk ((by rw [hg]; exact (below_size (bb HB.out)) : w.heap.size ≤ gb157)); have GE157 := Aside0.mk ((by rw [hg]; exact (below_size (bb HB.out)) : w.heap.size ≤ gb157)); replace HB := Aside0.mk (below_step (bb HB.out) hb); clear hb hbox hg) | ((with_reducible refine gate_callee (f := 54) rfl ?_); refine goesL_ (some 15) rfl rfl Try.func54 t_8e rfl #[.slice A0 l0.length c0] rfl t_45 ?_; (with_reducible refine (job_Begin.calls _ _ l0 t158 t159 t162 t165 t166 t167 _ ?side1 ?side2 A6.out).mono ?_); (case side1 => exact cl ((Kd.C_below HR0.out HB.out))); (case side2 => exact HC0.out); rintro e w9 ⟨v160, v163, rfl, ho0, ho1, hb⟩; refine ⟨_, rfl, ?_⟩; have HO161 := Aside0.mk (Kd.R_lower ho0 (below_size t_35)); have HO164 := Aside0.mk (Kd.R_lower ho1 (below_size t_35)); replace BK157 := kc BK157 hb; replace HB := Aside0.mk (below_step t_35 hb); (try clear hb); (try clear hb2); (try clear hk); (try clear hi); (try clear ho0); (try clear ho1); obtain ⟨hcz10_0, hcz10_1, hcz10_2, hcz10_3, hcz10_4⟩ := sqc5 BK157.out; obtain ⟨hfz10_0, hfz10_1, hfz10_2, hfz10_3, hfz10_4⟩ := frozen5 BK157.out; obtain ⟨Ao11, co11, eo11⟩ := Kd.R_slice HO161.out; subst eo11; obtain ⟨Ao12, co12, eo12⟩ := Kd.R_slice HO164.out; subst eo12))
   go_loopg [24] k (fun kq v24 w' => ∃ (x24_1 : Int) (Qa0_1 : Int) (Qa1_1 : List (S99)) (Qa2_1 : List (S24)) (Qa3_1 : Int) (Qa4_1 : Int) (u158001 : Value) (u158002 : Value), v24 = .int .i64 x24_1 ∧ Aside0 (job_Of.l0 kq l1 l1 (l1.length : Int) x24_1 Qa0_1 Qa1_1 Qa2_1 Qa3_1 Qa4_1 = some (r1, r2, r3, r4, r5, r6, r7)) ∧ Aside0 (kq ≤ k) ∧ Aside0 (Kd.R k99 99 w' w.heap.size (fun _ => True) u158001 Qa1_1) ∧ Aside0 (Kd.R k24 24 w' w.heap.size (fun _ => True) u158002 Qa2_1) ∧ Aside0 (w'.heap[gb157]? = some (.cells #[.int .i64 Qa0_1, u158001, u158002, .int .i64 Qa3_1, .int .i64 Qa4_1] 77 (0, 0))) ∧ Aside0 (Below w.heap.size w w'))
   case atStart => exact ⟨(0), (t158), (t159), (t162), (t165), (t166), (.slice Ao11 t159.length co11), (.slice Ao12 t162.length co12), t_7f, H', ⟨Nat.le_refl _⟩, ⟨by (with_reducible repeat (first | apply Kd.R_alloc | apply Kd.R_drewN | apply Kd.R_drew)); exact Kd.R_mono (Kd.R_far (p := ⟨gb157, 4, none⟩) (Kd.R_far (p := ⟨gb157, 3, none⟩) (Kd.R_far (p := ⟨gb157, 2, none⟩) (Kd.R_far (p := ⟨gb157, 1, none⟩) (Kd.R_far (p := ⟨gb157, 0, none⟩) (Kd.R_types HO161.out BK157.out (by decide)) (fun _ hk => hk.2) (.int .i64 t158)) (fun _ hk => hk.2) (.slice Ao11 t159.length co11)) (fun _ hk => hk.2) (.slice Ao12 t162.length co12)) (fun _ hk => hk.2) (.int .i64 t165)) (fun _ hk => hk.2) (.int .i64 t166)) (fun _ hk => trivial)⟩, ⟨by (with_reducible repeat (first | apply Kd.R_alloc | apply Kd.R_drewN | apply Kd.R_drew)); exact Kd.R_mono (Kd.R_far (p := ⟨gb157, 4, none⟩) (Kd.R_far (p := ⟨gb157, 3, none⟩) (Kd.R_far (p := ⟨gb157, 2, none⟩) (Kd.R_far (p := ⟨gb157, 1, none⟩) (Kd.R_far (p := ⟨gb157, 0, none⟩) (Kd.R_types HO164.out BK157.out (by decide)) (fun _ hk => hk.2) (.int .i64 t158)) (fun _ hk => hk.2) (.slice Ao11 t159.length co11)) (fun _ hk => hk.2) (.slice Ao12 t162.length co12)) (fun _ hk => hk.2) (.int .i64 t165)) (fun _ hk => hk.2) (.int .i64 t166)) (fun _ hk => trivial)⟩, ⟨t_17⟩, ⟨t_35⟩⟩
   case round =>
    clear H'
    try clear c1
    try clear p2
    try clear c3
    try clear c3b0
    try clear c3b1
    try clear c4
    try clear c5
    try clear c7
    try clear c7b0
    try clear c7b1
    try clear hcz10_0 hcz10_1 hcz10_2 hcz10_3 hcz10_4
    try clear hcz5_0 hcz5_1 hcz5_2 hcz5_3 hcz5_4
    try clear hfz10_0 hfz10_1 hfz10_2 hfz10_3 hfz10_4
    try clear hfz5_0 hfz5_1 hfz5_2 hfz5_3 hfz5_4
    obtain ⟨x24_1, Qa0_1, Qa1_1, Qa2_1, Qa3_1, Qa4_1, u158001, u158002, rfl, HA, HK1, HO_158001, HO_158002, BK157, HB⟩ := hrel
    cases gk with
    | zero => exact absurd HA.out (by simp [job_Of.l0])
    | succ k1 =>
     have H := HA.out
     clear HA
     simp only [job_Of.l0] at H
     by_cases c13 : x24_1 < (l1.length : Int)
     ·rw [if_pos c13] at H
      have c13b0 : decide (x24_1 < (l1.length : Int)) = true := decide_eq_true c13
      clear c13
      by_cases c14 : 0 ≤ x24_1
      ·rw [if_pos c14] at H
       have c14b0 : decide (0 ≤ x24_1) = true := decide_eq_true c14
       clear c14
       by_cases c15 : x24_1 < (l1.length : Int)
       ·rw [if_pos c15] at H
        have c15b0 : decide (x24_1 < (l1.length : Int)) = true := decide_eq_true c15
        clear c15
        replace H := Option.bind_eq_some_iff.mp H
        obtain ⟨⟨t170, t171, t174, t177, t178, t179⟩, A160, H⟩ := H
        try dsimp only at H
        have A16 := Aside0.mk A160
        clear A160
        by_cases c17 : t179 = 0
        ·rw [if_pos c17] at H
         have c17b0 : (t179 == 0) = true := beq_iff_eq.mpr c17
         have c17b1 : (t179 != 0) = false := bne_eq_false_iff_eq.mpr c17
         clear c17
         have H' := Aside0.mk H
         clear H
         have p168 : 0 ≤ (x24_1 : Int) := of_decide_eq_true t_7d
         have q168 : x24_1 < (l1.length : Int) := of_decide_eq_true t_7d
         obtain ⟨ad168, e168, hx168_0, hx168_1, hx168_2, hx168_3, hx168_4, hx168_5, hx168_6, hx168_7, hx168_8⟩ := at_T83 HR1.out x24_1 p168 q168
         cases e168
         replace hx168_0 := hc_ HB.out hx168_0
         replace hx168_1 := hc_ HB.out hx168_1
         replace hx168_2 := hc_ HB.out hx168_2
         replace hx168_3 := hc_ HB.out hx168_3
         replace hx168_4 := hc_ HB.out hx168_4
         replace hx168_5 := hc_ HB.out hx168_5
         replace hx168_6 := hc_ HB.out hx168_6
         replace hx168_7 := hc_ HB.out hx168_7
         replace hx168_8 := hc_ HB.out hx168_8
         replace p168 := eq_true p168
         replace q168 := eq_true q168
         go_wp2_with (first | ((with_reducible refine gate_dst (N := 8) rfl ?_); refine bx_ (N := 8) (cs := #[.int .i64 0, .int .i64 0, .string (⟨#[]⟩ : ByteArray), .string (⟨#[]⟩ : ByteArray), .string (⟨#[]⟩ : ByteArray), .int .i64 0, .int .i64 0, .string (⟨#[]⟩ : ByteArray), .int .i64 0]) (t := 83) ?_; intro gb169 hg w18 hbox hb; replace HO_158001 := ko HO_158001 hb; replace HO_158002 := ko HO_158002 hb; have BK169 := Aside0.mk (hbox); have GW169 := Aside0.mk ((by rw [hg]; exact (below_size t_35) : w.heap.size ≤ gb169)); have GE169 := Aside0.mk ((by rw [hg]; exact (below_size t_35) : w.heap.size ≤ gb169)); replace HB := Aside0.mk (below_step t_35 hb); have NB157_169 := nl hg BK157; have NB169_157 := ng hg BK157; replace BK157 := kc BK157 hb; clear hb hbox hg; have hnb19 := NB169_157.out; have hnc19 := NB157_169.out; obtain ⟨hcz20_0, hcz20_1, hcz20_2, hcz20_3, hcz20_4, hcz20_5, hcz20_6, hcz20_7, hcz20_8⟩ := sqc9 BK169.out; obtain ⟨hfz20_0, hfz20_1, hfz20_2, hfz20_3, hfz20_4, hfz20_5, hfz20_6, hfz20_7, hfz20_8⟩ := frozen9 BK169.out; obtain ⟨hcz21_0, hcz21_1, hcz21_2, hcz21_3, hcz21_4⟩ := sqc5 BK157.out; obtain ⟨hfz21_0, hfz21_1, hfz21_2, hfz21_3, hfz21_4⟩ := frozen5 BK157.out; obtain ⟨Ao22, co22, eo22⟩ := Kd.R_slice HO_158001.out; subst eo22; obtain ⟨Ao23, co23, eo23⟩ := Kd.R_slice HO_158002.out; subst eo23) | ((with_reducible refine gate_callee (f := 37) rfl ?_); refine goesL_ (some 32) rfl rfl Try.func37 t_8e rfl #[.agg #[.int .i64 Qa0_1, .slice Ao22 Qa1_1.length co22, .slice Ao23 Qa2_1.length co23, .int .i64 Qa3_1, .int .i64 Qa4_1], .agg #[.int .i64 ((rd_T83 l1 x24_1).f0), .int .i64 ((rd_T83 l1 x24_1).f1), .string ((rd_T83 l1 x24_1).f2.f0), .string ((rd_T83 l1 x24_1).f2.f1), .string ((rd_T83 l1 x24_1).f2.f2), .int .i64 ((rd_T83 l1 x24_1).f2.f3), .int .i64 ((rd_T83 l1 x24_1).f2.f4), .string ((rd_T83 l1 x24_1).f3), .int .i64 ((rd_T83 l1 x24_1).f4)]] rfl t_45 ?_; (with_reducible refine (job_Do.calls Qa0_1 _ _ Qa1_1 _ _ Qa2_1 Qa3_1 Qa4_1 ((rd_T83 l1 x24_1).f0) ((rd_T83 l1 x24_1).f1) ((rd_T83 l1 x24_1).f2.f0) ((rd_T83 l1 x24_1).f2.f1) ((rd_T83 l1 x24_1).f2.f2) ((rd_T83 l1 x24_1).f2.f3) ((rd_T83 l1 x24_1).f2.f4) ((rd_T83 l1 x24_1).f3) ((rd_T83 l1 x24_1).f4) t170 t171 t174 t177 t178 t179 _ ?side1 ?side2 ?side3 ?side4 A16.out).mono ?_); (case side1 => refine (Kd.R_reads' (e := 99) (base := w.heap.size) (ok := fun k_ => True) (n := Qa1_1.length) (c := co22) ?_).2.2; exact t_2); (case side2 => exact (Kd.R_reads' HO_158001.out).2.1); (case side3 => refine (Kd.R_reads' (e := 24) (base := w.heap.size) (ok := fun k_ => True) (n := Qa2_1.length) (c := co23) ?_).2.2; exact t_3); (case side4 => exact (Kd.R_reads' HO_158002.out).2.1); rintro e w24 ⟨v172, v175, rfl, ho0, ho1, hb⟩; refine ⟨_, rfl, ?_⟩; have HO173 := Aside0.mk (Kd.R_lower (Kd.R_new' ho0 (Kd.R_lt t_2)) (below_size t_1d)); replace HO_158001 := Aside0.mk (Kd.R_elder' t_2 (Kd.R_base ho0) hb); have HO176 := Aside0.mk (Kd.R_lower (Kd.R_new' ho1 (Kd.R_lt t_3)) (below_size t_1d)); replace HO_158002 := Aside0.mk (Kd.R_elder' t_3 (Kd.R_base ho1) hb); replace BK157 := Aside0.mk (blk_below (g := gb157) (o := .cells #[.int .i64 Qa0_1, .slice Ao22 Qa1_1.length co22, .slice Ao23 Qa2_1.length co23, .int .i64 Qa3_1, .int .i64 Qa4_1] 77 (0, 0)) t_1 hb); replace BK169 := Aside0.mk (blk_below (g := gb169) (o := .cells #[.int .i64 ((rd_T83 l1 x24_1).f0), .int .i64 ((rd_T83 l1 x24_1).f1), .string ((rd_T83 l1 x24_1).f2.f0), .string ((rd_T83 l1 x24_1).f2.f1), .string ((rd_T83 l1 x24_1).f2.f2), .int .i64 ((rd_T83 l1 x24_1).f2.f3), .int .i64 ((rd_T83 l1 x24_1).f2.f4), .string ((rd_T83 l1 x24_1).f3), .int .i64 ((rd_T83 l1 x24_1).f4)] 83 (0, 0)) t_18 hb); replace HB := Aside0.mk (below_step t_1d hb); (try clear hb); (try clear hb2); (try clear hk); (try clear hi); (try clear ho0); (try clear ho1); obtain ⟨hcz25_0, hcz25_1, hcz25_2, hcz25_3, hcz25_4⟩ := sqc5 BK157.out; obtain ⟨hfz25_0, hfz25_1, hfz25_2, hfz25_3, hfz25_4⟩ := frozen5 BK157.out; obtain ⟨Ao26, co26, eo26⟩ := Kd.R_slice HO173.out; subst eo26; obtain ⟨Ao27, co27, eo27⟩ := Kd.R_slice HO176.out; subst eo27))
         go_roundg k1
         case measure => have := HK1.out; omega
         case rel => exact ⟨(wrap64 (x24_1 + 1)), (t170), (t171), (t174), (t177), (t178), (.slice Ao26 t171.length co26), (.slice Ao27 t174.length co27), t_7f, H', ⟨t_87⟩, ⟨by (with_reducible repeat (first | apply Kd.R_alloc | apply Kd.R_drewN | apply Kd.R_drew)); exact Kd.R_mono (Kd.R_far (p := ⟨gb157, 4, none⟩) (Kd.R_far (p := ⟨gb157, 3, none⟩) (Kd.R_far (p := ⟨gb157, 2, none⟩) (Kd.R_far (p := ⟨gb157, 1, none⟩) (Kd.R_far (p := ⟨gb157, 0, none⟩) (Kd.R_types HO173.out BK157.out (by decide)) (fun _ hk => hk.2) (.int .i64 t170)) (fun _ hk => hk.2) (.slice Ao26 t171.length co26)) (fun _ hk => hk.2) (.slice Ao27 t174.length co27)) (fun _ hk => hk.2) (.int .i64 t177)) (fun _ hk => hk.2) (.int .i64 t178)) (fun _ hk => trivial)⟩, ⟨by (with_reducible repeat (first | apply Kd.R_alloc | apply Kd.R_drewN | apply Kd.R_drew)); exact Kd.R_mono (Kd.R_far (p := ⟨gb157, 4, none⟩) (Kd.R_far (p := ⟨gb157, 3, none⟩) (Kd.R_far (p := ⟨gb157, 2, none⟩) (Kd.R_far (p := ⟨gb157, 1, none⟩) (Kd.R_far (p := ⟨gb157, 0, none⟩) (Kd.R_types HO176.out BK157.out (by decide)) (fun _ hk => hk.2) (.int .i64 t170)) (fun _ hk => hk.2) (.slice Ao26 t171.length co26)) (fun _ hk => hk.2) (.slice Ao27 t174.length co27)) (fun _ hk => hk.2) (.int .i64 t177)) (fun _ hk => hk.2) (.int .i64 t178)) (fun _ hk => trivial)⟩, ⟨t_17⟩, ⟨t_1d⟩⟩
        ·rw [if_neg c17] at H
         have c17b0 : (t179 == 0) = false := beq_eq_false_iff_ne.mpr c17
         have c17b1 : (t179 != 0) = true := bne_iff_ne.mpr c17
         simp only [Option.some.injEq, Prod.mk.injEq] at H
         obtain ⟨rfl, rfl, rfl, rfl, rfl, rfl, rfl⟩ := H
         have p168 : 0 ≤ (x24_1 : Int) := of_decide_eq_true t_7d
         have q168 : x24_1 < (l1.length : Int) := of_decide_eq_true t_7d
         obtain ⟨ad168, e168, hx168_0, hx168_1, hx168_2, hx168_3, hx168_4, hx168_5, hx168_6, hx168_7, hx168_8⟩ := at_T83 HR1.out x24_1 p168 q168
         cases e168
         replace hx168_0 := hc_ HB.out hx168_0
         replace hx168_1 := hc_ HB.out hx168_1
         replace hx168_2 := hc_ HB.out hx168_2
         replace hx168_3 := hc_ HB.out hx168_3
         replace hx168_4 := hc_ HB.out hx168_4
         replace hx168_5 := hc_ HB.out hx168_5
         replace hx168_6 := hc_ HB.out hx168_6
         replace hx168_7 := hc_ HB.out hx168_7
         replace hx168_8 := hc_ HB.out hx168_8
         replace p168 := eq_true p168
         replace q168 := eq_true q168
         go_wp2_with (first | ((with_reducible refine gate_dst (N := 8) rfl ?_); refine bx_ (N := 8) (cs := #[.int .i64 0, .int .i64 0, .string (⟨#[]⟩ : ByteArray), .string (⟨#[]⟩ : ByteArray), .string (⟨#[]⟩ : ByteArray), .int .i64 0, .int .i64 0, .string (⟨#[]⟩ : ByteArray), .int .i64 0]) (t := 83) ?_; intro gb169 hg w28 hbox hb; replace HO_158001 := ko HO_158001 hb; replace HO_158002 := ko HO_158002 hb; have BK169 := Aside0.mk (hbox); have GW169 := Aside0.mk ((by rw [hg]; exact (below_size t_35) : w.heap.size ≤ gb169)); have GE169 := Aside0.mk ((by rw [hg]; exact (below_size t_35) : w.heap.size ≤ gb169)); replace HB := Aside0.mk (below_step t_35 hb); have NB157_169 := nl hg BK157; have NB169_157 := ng hg BK157; replace BK157 := kc BK157 hb; clear hb hbox hg; have hnb29 := NB169_157.out; have hnc29 := NB157_169.out; obtain ⟨hcz30_0, hcz30_1, hcz30_2, hcz30_3, hcz30_4, hcz30_5, hcz30_6, hcz30_7, hcz30_8⟩ := sqc9 BK169.out; obtain ⟨hfz30_0, hfz30_1, hfz30_2, hfz30_3, hfz30_4, hfz30_5, hfz30_6, hfz30_7, hfz30_8⟩ := frozen9 BK169.out; obtain ⟨hcz31_0, hcz31_1, hcz31_2, hcz31_3, hcz31_4⟩ := sqc5 BK157.out; obtain ⟨hfz31_0, hfz31_1, hfz31_2, hfz31_3, hfz31_4⟩ := frozen5 BK157.out; obtain ⟨Ao32, co32, eo32⟩ := Kd.R_slice HO_158001.out; subst eo32; obtain ⟨Ao33, co33, eo33⟩ := Kd.R_slice HO_158002.out; subst eo33) | ((with_reducible refine gate_callee (f := 37) rfl ?_); refine goesL_ (some 32) rfl rfl Try.func37 t_8e rfl #[.agg #[.int .i64 Qa0_1, .slice Ao32 Qa1_1.length co32, .slice Ao33 Qa2_1.length co33, .int .i64 Qa3_1, .int .i64 Qa4_1], .agg #[.int .i64 ((rd_T83 l1 x24_1).f0), .int .i64 ((rd_T83 l1 x24_1).f1), .string ((rd_T83 l1 x24_1).f2.f0), .string ((rd_T83 l1 x24_1).f2.f1), .string ((rd_T83 l1 x24_1).f2.f2), .int .i64 ((rd_T83 l1 x24_1).f2.f3), .int .i64 ((rd_T83 l1 x24_1).f2.f4), .string ((rd_T83 l1 x24_1).f3), .int .i64 ((rd_T83 l1 x24_1).f4)]] rfl t_45 ?_; (with_reducible refine (job_Do.calls Qa0_1 _ _ Qa1_1 _ _ Qa2_1 Qa3_1 Qa4_1 ((rd_T83 l1 x24_1).f0) ((rd_T83 l1 x24_1).f1) ((rd_T83 l1 x24_1).f2.f0) ((rd_T83 l1 x24_1).f2.f1) ((rd_T83 l1 x24_1).f2.f2) ((rd_T83 l1 x24_1).f2.f3) ((rd_T83 l1 x24_1).f2.f4) ((rd_T83 l1 x24_1).f3) ((rd_T83 l1 x24_1).f4) t170 t171 t174 t177 t178 t179 _ ?side1 ?side2 ?side3 ?side4 A16.out).mono ?_); (case side1 => refine (Kd.R_reads' (e := 99) (base := w.heap.size) (ok := fun k_ => True) (n := Qa1_1.length) (c := co32) ?_).2.2; exact t_2); (case side2 => exact (Kd.R_reads' HO_158001.out).2.1); (case side3 => refine (Kd.R_reads' (e := 24) (base := w.heap.size) (ok := fun k_ => True) (n := Qa2_1.length) (c := co33) ?_).2.2; exact t_3); (case side4 => exact (Kd.R_reads' HO_158002.out).2.1); rintro e w34 ⟨v172, v175, rfl, ho0, ho1, hb⟩; refine ⟨_, rfl, ?_⟩; have HO173 := Aside0.mk (Kd.R_lower (Kd.R_new' ho0 (Kd.R_lt t_2)) (below_size t_1d)); replace HO_158001 := Aside0.mk (Kd.R_elder' t_2 (Kd.R_base ho0) hb); have HO176 := Aside0.mk (Kd.R_lower (Kd.R_new' ho1 (Kd.R_lt t_3)) (below_size t_1d)); replace HO_158002 := Aside0.mk (Kd.R_elder' t_3 (Kd.R_base ho1) hb); replace BK157 := Aside0.mk (blk_below (g := gb157) (o := .cells #[.int .i64 Qa0_1, .slice Ao32 Qa1_1.length co32, .slice Ao33 Qa2_1.length co33, .int .i64 Qa3_1, .int .i64 Qa4_1] 77 (0, 0)) t_1 hb); replace BK169 := Aside0.mk (blk_below (g := gb169) (o := .cells #[.int .i64 ((rd_T83 l1 x24_1).f0), .int .i64 ((rd_T83 l1 x24_1).f1), .string ((rd_T83 l1 x24_1).f2.f0), .string ((rd_T83 l1 x24_1).f2.f1), .string ((rd_T83 l1 x24_1).f2.f2), .int .i64 ((rd_T83 l1 x24_1).f2.f3), .int .i64 ((rd_T83 l1 x24_1).f2.f4), .string ((rd_T83 l1 x24_1).f3), .int .i64 ((rd_T83 l1 x24_1).f4)] 83 (0, 0)) t_18 hb); replace HB := Aside0.mk (below_step t_1d hb); (try clear hb); (try clear hb2); (try clear hk); (try clear hi); (try clear ho0); (try clear ho1); obtain ⟨hcz35_0, hcz35_1, hcz35_2, hcz35_3, hcz35_4⟩ := sqc5 BK157.out; obtain ⟨hfz35_0, hfz35_1, hfz35_2, hfz35_3, hfz35_4⟩ := frozen5 BK157.out; obtain ⟨Ao36, co36, eo36⟩ := Kd.R_slice HO173.out; subst eo36; obtain ⟨Ao37, co37, eo37⟩ := Kd.R_slice HO176.out; subst eo37))
         refine bodyPost_ret (results_ctt rfl _ _ gb157 77 #[.int .i64 0, .slice none 0 0, .slice none 0 0, .int .i64 0, .int .i64 0] (0, 0) _ rfl (by (with_reducible repeat (first | refine blk_drewN ?_ _ | refine blk_drew ?_ | refine blk_alloc ?_ _)); refine blk_put (cs := #[.int .i64 0, .slice none 0 0, .slice none 0 0, .int .i64 0, .int .i64 t178]) ?_ 4 _ rfl; (with_reducible repeat (first | refine blk_drewN ?_ _ | refine blk_drew ?_ | refine blk_alloc ?_ _)); refine blk_put (cs := #[.int .i64 0, .slice none 0 0, .slice none 0 0, .int .i64 t177, .int .i64 t178]) ?_ 3 _ rfl; (with_reducible repeat (first | refine blk_drewN ?_ _ | refine blk_drew ?_ | refine blk_alloc ?_ _)); refine blk_put (cs := #[.int .i64 0, .slice none 0 0, .slice Ao37 t174.length co37, .int .i64 t177, .int .i64 t178]) ?_ 2 _ rfl; (with_reducible repeat (first | refine blk_drewN ?_ _ | refine blk_drew ?_ | refine blk_alloc ?_ _)); refine blk_put (cs := #[.int .i64 0, .slice Ao36 t171.length co36, .slice Ao37 t174.length co37, .int .i64 t177, .int .i64 t178]) ?_ 1 _ rfl; (with_reducible repeat (first | refine blk_drewN ?_ _ | refine blk_drew ?_ | refine blk_alloc ?_ _)); refine blk_put (cs := #[.int .i64 t170, .slice Ao36 t171.length co36, .slice Ao37 t174.length co37, .int .i64 t177, .int .i64 t178]) ?_ 0 _ rfl; (with_reducible repeat (first | refine blk_drewN ?_ _ | refine blk_drew ?_ | refine blk_alloc ?_ _)); apply put5; (with_reducible repeat (first | refine blk_drewN ?_ _ | refine blk_drew ?_ | refine blk_alloc ?_ _)); exact BK157.out) Try.underlying77 rfl t_8e) rfl ?_
         exact ⟨_, _, t_68, t_44, t_44, t_1d⟩
       ·rw [if_neg c15] at H
        exact absurd H (by simp)
      ·rw [if_neg c14] at H
       exact absurd H (by simp)
     ·rw [if_neg c13] at H
      have c13b0 : decide (x24_1 < (l1.length : Int)) = false := decide_eq_false c13
      clear c13
      simp only [Option.some.injEq, Prod.mk.injEq] at H
      obtain ⟨rfl, rfl, rfl, rfl, rfl, rfl, rfl⟩ := H
      obtain ⟨hcz38_0, hcz38_1, hcz38_2, hcz38_3, hcz38_4⟩ := cz5 BK157.out
      obtain ⟨hfz38_0, hfz38_1, hfz38_2, hfz38_3, hfz38_4⟩ := fz5 BK157.out
      obtain ⟨Ao39, co39, eo39⟩ := Kd.R_slice HO_158001.out
      subst eo39
      obtain ⟨Ao40, co40, eo40⟩ := Kd.R_slice HO_158002.out
      subst eo40
      go_wp2
      refine bodyPost_ret (results_ctt rfl _ _ gb157 77 #[.int .i64 Qa0_1, .slice Ao39 Qa1_1.length co39, .slice Ao40 Qa2_1.length co40, .int .i64 Qa3_1, .int .i64 Qa4_1] (0, 0) _ rfl t_17 Try.underlying77 rfl t_8e) rfl ?_
      exact ⟨_, _, t_68, by (with_reducible repeat (first | apply Kd.R_alloc | apply Kd.R_drewN | apply Kd.R_drew)); exact Kd.R_mono (Kd.R_far (p := ⟨gb157, 4, none⟩) (Kd.R_far (p := ⟨gb157, 3, none⟩) (Kd.R_far (p := ⟨gb157, 2, none⟩) (Kd.R_far (p := ⟨gb157, 1, none⟩) (Kd.R_far (p := ⟨gb157, 0, none⟩) (Kd.R_types HO_158001.out BK157.out (by decide)) (fun _ hk => hk.2) (.int .i64 Qa0_1)) (fun _ hk => hk.2) (.slice Ao39 Qa1_1.length co39)) (fun _ hk => hk.2) (.slice Ao40 Qa2_1.length co40)) (fun _ hk => hk.2) (.int .i64 Qa3_1)) (fun _ hk => hk.2) (.int .i64 Qa4_1)) (fun _ hk => trivial), by (with_reducible repeat (first | apply Kd.R_alloc | apply Kd.R_drewN | apply Kd.R_drew)); exact Kd.R_mono (Kd.R_far (p := ⟨gb157, 4, none⟩) (Kd.R_far (p := ⟨gb157, 3, none⟩) (Kd.R_far (p := ⟨gb157, 2, none⟩) (Kd.R_far (p := ⟨gb157, 1, none⟩) (Kd.R_far (p := ⟨gb157, 0, none⟩) (Kd.R_types HO_158002.out BK157.out (by decide)) (fun _ hk => hk.2) (.int .i64 Qa0_1)) (fun _ hk => hk.2) (.slice Ao39 Qa1_1.length co39)) (fun _ hk => hk.2) (.slice Ao40 Qa2_1.length co40)) (fun _ hk => hk.2) (.int .i64 Qa3_1)) (fun _ hk => hk.2) (.int .i64 Qa4_1)) (fun _ hk => trivial), t_35⟩
  ·rw [if_neg c7] at H
   have c7b0 : (t167 == 0) = false := beq_eq_false_iff_ne.mpr c7
   have c7b1 : (t167 != 0) = true := bne_iff_ne.mpr c7
   simp only [Option.some.injEq, Prod.mk.injEq] at H
   obtain ⟨rfl, rfl, rfl, rfl, rfl, rfl, rfl⟩ := H
   go_enter Try.func47, Try.ntmps47
   go_wp2_with (first | ((with_reducible refine gate_dst (N := 4) rfl ?_); refine bx_ (N := 4) (cs := #[.int .i64 0, .slice none 0 0, .slice none 0 0, .int .i64 0, .int .i64 0]) (t := 77) ?_; intro gb157 hg w41 hbox hb; have BK157 := Aside0.mk (hbox); have GW157 := Aside0.mk ((by rw [hg]; exact (below_size (bb HB.out)) : w.heap.size ≤ gb157)); have GE157 := Aside0.mk ((by rw [hg]; exact (below_size (bb HB.out)) : w.heap.size ≤ gb157)); replace HB := Aside0.mk (below_step (bb HB.out) hb); clear hb hbox hg) | ((with_reducible refine gate_callee (f := 54) rfl ?_); refine goesL_ (some 15) rfl rfl Try.func54 t_8e rfl #[.slice A0 l0.length c0] rfl t_45 ?_; (with_reducible refine (job_Begin.calls _ _ l0 t158 t159 t162 t165 t166 t167 _ ?side1 ?side2 A6.out).mono ?_); (case side1 => exact cl ((Kd.C_below HR0.out HB.out))); (case side2 => exact HC0.out); rintro e w42 ⟨v160, v163, rfl, ho0, ho1, hb⟩; refine ⟨_, rfl, ?_⟩; have HO161 := Aside0.mk (Kd.R_lower ho0 (below_size t_35)); have HO164 := Aside0.mk (Kd.R_lower ho1 (below_size t_35)); replace BK157 := kc BK157 hb; replace HB := Aside0.mk (below_step t_35 hb); (try clear hb); (try clear hb2); (try clear hk); (try clear hi); (try clear ho0); (try clear ho1); obtain ⟨hcz43_0, hcz43_1, hcz43_2, hcz43_3, hcz43_4⟩ := sqc5 BK157.out; obtain ⟨hfz43_0, hfz43_1, hfz43_2, hfz43_3, hfz43_4⟩ := frozen5 BK157.out; obtain ⟨Ao44, co44, eo44⟩ := Kd.R_slice HO161.out; subst eo44; obtain ⟨Ao45, co45, eo45⟩ := Kd.R_slice HO164.out; subst eo45))
   refine bodyPost_ret (results_ctt rfl _ _ gb157 77 #[.int .i64 0, .slice none 0 0, .slice none 0 0, .int .i64 0, .int .i64 0] (0, 0) _ rfl (by (with_reducible repeat (first | refine blk_drewN ?_ _ | refine blk_drew ?_ | refine blk_alloc ?_ _)); refine blk_put (cs := #[.int .i64 0, .slice none 0 0, .slice none 0 0, .int .i64 0, .int .i64 t166]) ?_ 4 _ rfl; (with_reducible repeat (first | refine blk_drewN ?_ _ | refine blk_drew ?_ | refine blk_alloc ?_ _)); refine blk_put (cs := #[.int .i64 0, .slice none 0 0, .slice none 0 0, .int .i64 t165, .int .i64 t166]) ?_ 3 _ rfl; (with_reducible repeat (first | refine blk_drewN ?_ _ | refine blk_drew ?_ | refine blk_alloc ?_ _)); refine blk_put (cs := #[.int .i64 0, .slice none 0 0, .slice Ao45 t162.length co45, .int .i64 t165, .int .i64 t166]) ?_ 2 _ rfl; (with_reducible repeat (first | refine blk_drewN ?_ _ | refine blk_drew ?_ | refine blk_alloc ?_ _)); refine blk_put (cs := #[.int .i64 0, .slice Ao44 t159.length co44, .slice Ao45 t162.length co45, .int .i64 t165, .int .i64 t166]) ?_ 1 _ rfl; (with_reducible repeat (first | refine blk_drewN ?_ _ | refine blk_drew ?_ | refine blk_alloc ?_ _)); refine blk_put (cs := #[.int .i64 t158, .slice Ao44 t159.length co44, .slice Ao45 t162.length co45, .int .i64 t165, .int .i64 t166]) ?_ 0 _ rfl; (with_reducible repeat (first | refine blk_drewN ?_ _ | refine blk_drew ?_ | refine blk_alloc ?_ _)); apply put5; (with_reducible repeat (first | refine blk_drewN ?_ _ | refine blk_drew ?_ | refine blk_alloc ?_ _)); exact BK157.out) Try.underlying77 rfl t_8e) rfl ?_
   exact ⟨_, _, t_68, t_44, t_44, t_35⟩

end Go.Proofs.Ytndbchcfjajgbaa.XP
