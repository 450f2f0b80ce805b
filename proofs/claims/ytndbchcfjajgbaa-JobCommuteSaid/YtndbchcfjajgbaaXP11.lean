-- printed by xprint.py
import Derived.Test.YtndbchcfjajgbaaXB
import Derived.Test.YtndbchcfjajgbaaXP0
import Derived.Test.YtndbchcfjajgbaaXP3
import Derived.Test.YtndbchcfjajgbaaXP9
namespace Go.Proofs.Ytndbchcfjajgbaa.XP
open Go.Proofs.Ytndbchcfjajgbaa.XB Go.Proofs.Ytndbchcfjajgbaa.XQ
open Go.Proofs.Ytndbchcfjajgbaa.XW
open Go.RowKit Go.Proofs.YtndbchcfjajgbaaW.PrintWords Go.Proofs.YtndbchcfjajgbaaW.PrintLast Go.Proofs.YtndbchcfjajgbaaW.PrintMore
attribute [local go_sem] max2_int min2_int max_two min_two max_three min_three max_four min_four   -- for this text's walks alone
set_option linter.unusedVariables false
set_option linter.unusedSimpArgs false

attribute [local go_sem high] eqA81
-- NOT PRINTED: function 96 (job_Item_96)

-- NOT PRINTED: function 117 (job_Item_117)

-- HAND: function 94 (job_taken) stands in HandTaken

-- HAND: function 43 (job_Right) stands in HandRight54

/-! ### job_shaped: function 84 -/
def job_shaped.j0 : Nat → Int → Bool → Int → Int → ByteArray → ByteArray → ByteArray → Int → Int → ByteArray → Int → Option (Bool)
 | 0, _, _, _, _, _, _, _, _, _, _, _ => none
 | k + 1, x8, x24, Qa0, Qa1, Qa2, Qa3, Qa4, Qa5, Qa6, Qa7, Qa8 => if x24 = true then (if (Qa2.toList == ([] : List UInt8) && (Qa3.toList == ([] : List UInt8) && (Qa4.toList == ([] : List UInt8) && (Qa5 == 0 && (Qa6 == 0))))) = true then (some (Qa8 == 0)) else (some false)) else (if x8 = 3 then (some (Qa2.toList == ([] : List UInt8) && (Qa3.toList == ([] : List UInt8) && (Qa4.toList == ([] : List UInt8) && (Qa5 == 0 && (Qa6 == 0)))))) else (some false))
def job_shaped.f (k : Nat) (a0_0 : Int) (a0_1 : Int) (a0_2 : ByteArray) (a0_3 : ByteArray) (a0_4 : ByteArray) (a0_5 : Int) (a0_6 : Int) (a0_7 : ByteArray) (a0_8 : Int) : Option (Bool) := (job_day.f a0_1).bind fun t126 => (if t126 = true then (if a0_0 = 1 then ((job_Valid.f a0_2 a0_3 a0_4 a0_5 a0_6).bind fun t127 => (if t127 = true then (if a0_7.toList = ([] : List UInt8) then (some (a0_8 == 0)) else (some false)) else (some false))) else (if a0_0 = 2 then (job_shaped.j0 k a0_0 (a0_0 == 2) a0_0 a0_1 a0_2 a0_3 a0_4 a0_5 a0_6 a0_7 a0_8) else (if a0_0 = 4 then (job_shaped.j0 k a0_0 (a0_0 == 4) a0_0 a0_1 a0_2 a0_3 a0_4 a0_5 a0_6 a0_7 a0_8) else (job_shaped.j0 k a0_0 (a0_0 == 5) a0_0 a0_1 a0_2 a0_3 a0_4 a0_5 a0_6 a0_7 a0_8)))) else (some false))
set_option maxHeartbeats 8000000 in
set_option maxRecDepth 100000 in
theorem job_shaped.calls (k : Nat) (a0_0 : Int) (a0_1 : Int) (a0_2 : ByteArray) (a0_3 : ByteArray) (a0_4 : ByteArray) (a0_5 : Int) (a0_6 : Int) (a0_7 : ByteArray) (a0_8 : Int) (r : Bool) (w : World) (h : job_shaped.f k a0_0 a0_1 a0_2 a0_3 a0_4 a0_5 a0_6 a0_7 a0_8 = some r) :
  Calls Try.prog 84 #[.agg #[.int .i64 a0_0, .int .i64 a0_1, .string a0_2, .string a0_3, .string a0_4, .int .i64 a0_5, .int .i64 a0_6, .string a0_7, .int .i64 a0_8]] w fun e w' => e = .returned (.bool r) ∧ Below w.heap.size w w' := by
 have hu83 := Try.underlying83
 have hu81 := Try.underlying81
 have HB := Aside0.mk (Below.refl w.heap.size w)
 have H : ((job_day.f a0_1).bind fun t126 => (if t126 = true then (if a0_0 = 1 then ((job_Valid.f a0_2 a0_3 a0_4 a0_5 a0_6).bind fun t127 => (if t127 = true then (if a0_7.toList = ([] : List UInt8) then (some (a0_8 == 0)) else (some false)) else (some false))) else (if a0_0 = 2 then (job_shaped.j0 k a0_0 (a0_0 == 2) a0_0 a0_1 a0_2 a0_3 a0_4 a0_5 a0_6 a0_7 a0_8) else (if a0_0 = 4 then (job_shaped.j0 k a0_0 (a0_0 == 4) a0_0 a0_1 a0_2 a0_3 a0_4 a0_5 a0_6 a0_7 a0_8) else (job_shaped.j0 k a0_0 (a0_0 == 5) a0_0 a0_1 a0_2 a0_3 a0_4 a0_5 a0_6 a0_7 a0_8)))) else (some false))) = some r := h
 clear h
 replace H := Option.bind_eq_some_iff.mp H
 obtain ⟨t126, A20, H⟩ := H
 try dsimp only at H
 have A2 := Aside0.mk A20
 clear A20
 by_cases c3 : t126 = true
 ·subst c3
  rw [if_pos rfl] at H
  by_cases c4 : a0_0 = 1
  ·rw [if_pos c4] at H
   have c4b0 : (a0_0 == 1) = true := beq_iff_eq.mpr c4
   have c4b1 : (a0_0 != 1) = false := bne_eq_false_iff_eq.mpr c4
   clear c4
   replace H := Option.bind_eq_some_iff.mp H
   obtain ⟨t127, A50, H⟩ := H
   try dsimp only at H
   have A5 := Aside0.mk A50
   clear A50
   by_cases c6 : t127 = true
   ·subst c6
    rw [if_pos rfl] at H
    by_cases c7 : a0_7.toList = ([] : List UInt8)
    ·rw [if_pos c7] at H
     have c7b0 : (a0_7.toList == ([] : List UInt8)) = true := beq_iff_eq.mpr c7
     have c7b1 : (a0_7.toList != ([] : List UInt8)) = false := bne_eq_false_iff_eq.mpr c7
     clear c7
     obtain rfl := Option.some.inj H
     go_enter Try.func84, Try.ntmps84
     go_wp2_with (first | ((with_reducible refine gate_dst (N := 1) rfl ?_); refine bx_ (N := 1) (cs := #[.int .i64 a0_0, .int .i64 a0_1, .string a0_2, .string a0_3, .string a0_4, .int .i64 a0_5, .int .i64 a0_6, .string a0_7, .int .i64 a0_8]) (t := 83) ?_; intro gb125 hg w8 hbox hb; have BK125 := Aside0.mk (hbox); have GW125 := Aside0.mk ((by rw [hg]; exact (below_size (bb HB.out)) : w.heap.size ≤ gb125)); have GE125 := Aside0.mk ((by rw [hg]; exact (below_size (bb HB.out)) : w.heap.size ≤ gb125)); replace HB := Aside0.mk (below_step (bb HB.out) hb); clear hb hbox hg; obtain ⟨hcz9_0, hcz9_1, hcz9_2, hcz9_3, hcz9_4, hcz9_5, hcz9_6, hcz9_7, hcz9_8⟩ := sqc9 BK125.out; obtain ⟨hfz9_0, hfz9_1, hfz9_2, hfz9_3, hfz9_4, hfz9_5, hfz9_6, hfz9_7, hfz9_8⟩ := frozen9 BK125.out) | ((with_reducible refine gate_callee (f := 92) rfl ?_); refine goesL_ (some 5) rfl rfl Try.func92 t_8e rfl #[.int .i64 a0_1] rfl t_45 ?_; (with_reducible refine (job_day.calls a0_1 true _ A2.out).mono ?_); rintro e w' ⟨rfl, ⟨nd, rfl⟩⟩; refine ⟨_, rfl, ?_⟩) | ((with_reducible refine gate_callee (f := 44) rfl ?_); refine goesL_ (some 13) rfl rfl Try.func44 t_8e rfl #[.agg #[.string a0_2, .string a0_3, .string a0_4, .int .i64 a0_5, .int .i64 a0_6]] rfl t_45 ?_; (with_reducible refine (job_Valid.calls a0_2 a0_3 a0_4 a0_5 a0_6 true _ A5.out).mono ?_); rintro e w10 ⟨rfl, hb⟩; refine ⟨_, rfl, ?_⟩; replace BK125 := kc BK125 hb; replace HB := Aside0.mk (below_step t_33 hb); (try clear hb); (try clear hb2); (try clear hk); (try clear hi); obtain ⟨hcz11_0, hcz11_1, hcz11_2, hcz11_3, hcz11_4, hcz11_5, hcz11_6, hcz11_7, hcz11_8⟩ := sqc9 BK125.out; obtain ⟨hfz11_0, hfz11_1, hfz11_2, hfz11_3, hfz11_4, hfz11_5, hfz11_6, hfz11_7, hfz11_8⟩ := frozen9 BK125.out))
     go_ret
     exact ⟨t_68, t_33⟩
    ·rw [if_neg c7] at H
     have c7b0 : (a0_7.toList == ([] : List UInt8)) = false := beq_eq_false_iff_ne.mpr c7
     have c7b1 : (a0_7.toList != ([] : List UInt8)) = true := bne_iff_ne.mpr c7
     obtain rfl := Option.some.inj H
     go_enter Try.func84, Try.ntmps84
     go_wp2_with (first | ((with_reducible refine gate_dst (N := 1) rfl ?_); refine bx_ (N := 1) (cs := #[.int .i64 a0_0, .int .i64 a0_1, .string a0_2, .string a0_3, .string a0_4, .int .i64 a0_5, .int .i64 a0_6, .string a0_7, .int .i64 a0_8]) (t := 83) ?_; intro gb125 hg w12 hbox hb; have BK125 := Aside0.mk (hbox); have GW125 := Aside0.mk ((by rw [hg]; exact (below_size (bb HB.out)) : w.heap.size ≤ gb125)); have GE125 := Aside0.mk ((by rw [hg]; exact (below_size (bb HB.out)) : w.heap.size ≤ gb125)); replace HB := Aside0.mk (below_step (bb HB.out) hb); clear hb hbox hg; obtain ⟨hcz13_0, hcz13_1, hcz13_2, hcz13_3, hcz13_4, hcz13_5, hcz13_6, hcz13_7, hcz13_8⟩ := sqc9 BK125.out; obtain ⟨hfz13_0, hfz13_1, hfz13_2, hfz13_3, hfz13_4, hfz13_5, hfz13_6, hfz13_7, hfz13_8⟩ := frozen9 BK125.out) | ((with_reducible refine gate_callee (f := 92) rfl ?_); refine goesL_ (some 5) rfl rfl Try.func92 t_8e rfl #[.int .i64 a0_1] rfl t_45 ?_; (with_reducible refine (job_day.calls a0_1 true _ A2.out).mono ?_); rintro e w' ⟨rfl, ⟨nd, rfl⟩⟩; refine ⟨_, rfl, ?_⟩) | ((with_reducible refine gate_callee (f := 44) rfl ?_); refine goesL_ (some 13) rfl rfl Try.func44 t_8e rfl #[.agg #[.string a0_2, .string a0_3, .string a0_4, .int .i64 a0_5, .int .i64 a0_6]] rfl t_45 ?_; (with_reducible refine (job_Valid.calls a0_2 a0_3 a0_4 a0_5 a0_6 true _ A5.out).mono ?_); rintro e w14 ⟨rfl, hb⟩; refine ⟨_, rfl, ?_⟩; replace BK125 := kc BK125 hb; replace HB := Aside0.mk (below_step t_33 hb); (try clear hb); (try clear hb2); (try clear hk); (try clear hi); obtain ⟨hcz15_0, hcz15_1, hcz15_2, hcz15_3, hcz15_4, hcz15_5, hcz15_6, hcz15_7, hcz15_8⟩ := sqc9 BK125.out; obtain ⟨hfz15_0, hfz15_1, hfz15_2, hfz15_3, hfz15_4, hfz15_5, hfz15_6, hfz15_7, hfz15_8⟩ := frozen9 BK125.out))
     go_ret
     exact ⟨t_68, t_33⟩
   ·replace c6 := Bool.eq_false_iff.mpr c6
    subst c6
    rw [if_neg (show ¬ (false = true) by decide)] at H
    obtain rfl := Option.some.inj H
    go_enter Try.func84, Try.ntmps84
    go_wp2_with (first | ((with_reducible refine gate_dst (N := 1) rfl ?_); refine bx_ (N := 1) (cs := #[.int .i64 a0_0, .int .i64 a0_1, .string a0_2, .string a0_3, .string a0_4, .int .i64 a0_5, .int .i64 a0_6, .string a0_7, .int .i64 a0_8]) (t := 83) ?_; intro gb125 hg w16 hbox hb; have BK125 := Aside0.mk (hbox); have GW125 := Aside0.mk ((by rw [hg]; exact (below_size (bb HB.out)) : w.heap.size ≤ gb125)); have GE125 := Aside0.mk ((by rw [hg]; exact (below_size (bb HB.out)) : w.heap.size ≤ gb125)); replace HB := Aside0.mk (below_step (bb HB.out) hb); clear hb hbox hg; obtain ⟨hcz17_0, hcz17_1, hcz17_2, hcz17_3, hcz17_4, hcz17_5, hcz17_6, hcz17_7, hcz17_8⟩ := sqc9 BK125.out; obtain ⟨hfz17_0, hfz17_1, hfz17_2, hfz17_3, hfz17_4, hfz17_5, hfz17_6, hfz17_7, hfz17_8⟩ := frozen9 BK125.out) | ((with_reducible refine gate_callee (f := 92) rfl ?_); refine goesL_ (some 5) rfl rfl Try.func92 t_8e rfl #[.int .i64 a0_1] rfl t_45 ?_; (with_reducible refine (job_day.calls a0_1 true _ A2.out).mono ?_); rintro e w' ⟨rfl, ⟨nd, rfl⟩⟩; refine ⟨_, rfl, ?_⟩) | ((with_reducible refine gate_callee (f := 44) rfl ?_); refine goesL_ (some 13) rfl rfl Try.func44 t_8e rfl #[.agg #[.string a0_2, .string a0_3, .string a0_4, .int .i64 a0_5, .int .i64 a0_6]] rfl t_45 ?_; (with_reducible refine (job_Valid.calls a0_2 a0_3 a0_4 a0_5 a0_6 false _ A5.out).mono ?_); rintro e w18 ⟨rfl, hb⟩; refine ⟨_, rfl, ?_⟩; replace BK125 := kc BK125 hb; replace HB := Aside0.mk (below_step t_33 hb); (try clear hb); (try clear hb2); (try clear hk); (try clear hi)))
    go_ret
    exact ⟨t_68, t_33⟩
  ·rw [if_neg c4] at H
   have c4b0 : (a0_0 == 1) = false := beq_eq_false_iff_ne.mpr c4
   have c4b1 : (a0_0 != 1) = true := bne_iff_ne.mpr c4
   have HC19 := Aside0.mk H
   clear H
   go_enter Try.func84, Try.ntmps84
   go_upto_if 24 with (first | ((with_reducible refine gate_dst (N := 1) rfl ?_); refine bx_ (N := 1) (cs := #[.int .i64 a0_0, .int .i64 a0_1, .string a0_2, .string a0_3, .string a0_4, .int .i64 a0_5, .int .i64 a0_6, .string a0_7, .int .i64 a0_8]) (t := 83) ?_; intro gb125 hg w20 hbox hb; have BK125 := Aside0.mk (hbox); have GW125 := Aside0.mk ((by rw [hg]; exact (below_size (bb HB.out)) : w.heap.size ≤ gb125)); have GE125 := Aside0.mk ((by rw [hg]; exact (below_size (bb HB.out)) : w.heap.size ≤ gb125)); replace HB := Aside0.mk (below_step (bb HB.out) hb); clear hb hbox hg; obtain ⟨hcz21_0, hcz21_1, hcz21_2, hcz21_3, hcz21_4, hcz21_5, hcz21_6, hcz21_7, hcz21_8⟩ := sqc9 BK125.out; obtain ⟨hfz21_0, hfz21_1, hfz21_2, hfz21_3, hfz21_4, hfz21_5, hfz21_6, hfz21_7, hfz21_8⟩ := frozen9 BK125.out) | ((with_reducible refine gate_callee (f := 92) rfl ?_); refine goesL_ (some 5) rfl rfl Try.func92 t_8e rfl #[.int .i64 a0_1] rfl t_45 ?_; (with_reducible refine (job_day.calls a0_1 true _ A2.out).mono ?_); rintro e w' ⟨rfl, ⟨nd, rfl⟩⟩; refine ⟨_, rfl, ?_⟩))
   (try simp only [Act.put, List.setIfInBounds_toArray, List.set_cons_zero, List.set_cons_succ])
   go_cut [24] (fun v24 wc => ∃ (kq : Nat) (x24_18 : Bool), v24 = .bool x24_18 ∧ Aside0 (job_shaped.j0 kq a0_0 x24_18 a0_0 a0_1 a0_2 a0_3 a0_4 a0_5 a0_6 a0_7 a0_8 = some r) ∧ Aside0 (kq ≤ k) ∧ Aside0 (wc.heap[gb125]? = some (.cells #[.int .i64 a0_0, .int .i64 a0_1, .string a0_2, .string a0_3, .string a0_4, .int .i64 a0_5, .int .i64 a0_6, .string a0_7, .int .i64 a0_8] 83 (0, 0))) ∧ Aside0 (Below w.heap.size w wc))
   case first =>
    have H := HC19.out
    clear HC19
    by_cases c22 : a0_0 = 2
    ·rw [if_pos c22] at H
     have c22b0 : (a0_0 == 2) = true := beq_iff_eq.mpr c22
     have c22b1 : (a0_0 != 2) = false := bne_eq_false_iff_eq.mpr c22
     clear c22
     (first | rw [c22b0] | (simp only [i64_w, i32_w]; rw [c22b0]) | skip)
     have H' := Aside0.mk H
     clear H
     go_wp2
     go_meet
     case rel => exact ⟨_, ((a0_0 == 2)), t_7f, H', ⟨t_84⟩, ⟨t_60⟩, ⟨t_33⟩⟩
    ·rw [if_neg c22] at H
     have c22b0 : (a0_0 == 2) = false := beq_eq_false_iff_ne.mpr c22
     have c22b1 : (a0_0 != 2) = true := bne_iff_ne.mpr c22
     (first | rw [c22b0] | (simp only [i64_w, i32_w]; rw [c22b0]) | skip)
     by_cases c23 : a0_0 = 4
     ·rw [if_pos c23] at H
      have c23b0 : (a0_0 == 4) = true := beq_iff_eq.mpr c23
      have c23b1 : (a0_0 != 4) = false := bne_eq_false_iff_eq.mpr c23
      clear c23
      have H' := Aside0.mk H
      clear H
      go_wp2
      go_meet
      case rel => exact ⟨_, ((a0_0 == 4)), t_7f, H', ⟨t_84⟩, ⟨t_60⟩, ⟨t_33⟩⟩
     ·rw [if_neg c23] at H
      have c23b0 : (a0_0 == 4) = false := beq_eq_false_iff_ne.mpr c23
      have c23b1 : (a0_0 != 4) = true := bne_iff_ne.mpr c23
      have H' := Aside0.mk H
      clear H
      go_wp2
      go_meet
      case rel => exact ⟨_, ((a0_0 == 5)), t_7f, H', ⟨t_84⟩, ⟨t_60⟩, ⟨t_33⟩⟩
   case rest =>
    clear HC19
    try clear c2
    try clear p2
    try clear c3
    try clear c4
    try clear c4b0
    try clear c4b1
    try clear c6
    try clear c7
    try clear c7b0
    try clear c7b1
    try clear c8
    try clear c9
    try clear c22
    try clear c22b0
    try clear c22b1
    try clear c23
    try clear c23b0
    try clear c23b1
    try clear hcz11_0 hcz11_1 hcz11_2 hcz11_3 hcz11_4 hcz11_5 hcz11_6 hcz11_7 hcz11_8
    try clear hcz13_0 hcz13_1 hcz13_2 hcz13_3 hcz13_4 hcz13_5 hcz13_6 hcz13_7 hcz13_8
    try clear hcz15_0 hcz15_1 hcz15_2 hcz15_3 hcz15_4 hcz15_5 hcz15_6 hcz15_7 hcz15_8
    try clear hcz17_0 hcz17_1 hcz17_2 hcz17_3 hcz17_4 hcz17_5 hcz17_6 hcz17_7 hcz17_8
    try clear hcz21_0 hcz21_1 hcz21_2 hcz21_3 hcz21_4 hcz21_5 hcz21_6 hcz21_7 hcz21_8
    try clear hcz9_0 hcz9_1 hcz9_2 hcz9_3 hcz9_4 hcz9_5 hcz9_6 hcz9_7 hcz9_8
    try clear hfz11_0 hfz11_1 hfz11_2 hfz11_3 hfz11_4 hfz11_5 hfz11_6 hfz11_7 hfz11_8
    try clear hfz13_0 hfz13_1 hfz13_2 hfz13_3 hfz13_4 hfz13_5 hfz13_6 hfz13_7 hfz13_8
    try clear hfz15_0 hfz15_1 hfz15_2 hfz15_3 hfz15_4 hfz15_5 hfz15_6 hfz15_7 hfz15_8
    try clear hfz17_0 hfz17_1 hfz17_2 hfz17_3 hfz17_4 hfz17_5 hfz17_6 hfz17_7 hfz17_8
    try clear hfz21_0 hfz21_1 hfz21_2 hfz21_3 hfz21_4 hfz21_5 hfz21_6 hfz21_7 hfz21_8
    try clear hfz9_0 hfz9_1 hfz9_2 hfz9_3 hfz9_4 hfz9_5 hfz9_6 hfz9_7 hfz9_8
    obtain ⟨kq, x24_18, rfl, HA, HJ18, BK125, HB⟩ := hcut
    cases kq with
    | zero => exact absurd HA.out (by simp [job_shaped.j0])
    | succ kj18 =>
     have H := HA.out
     clear HA
     simp only [job_shaped.j0] at H
     by_cases c24 : x24_18 = true
     ·subst c24
      rw [if_pos rfl] at H
      by_cases c25 : (a0_2.toList == ([] : List UInt8) && (a0_3.toList == ([] : List UInt8) && (a0_4.toList == ([] : List UInt8) && (a0_5 == 0 && (a0_6 == 0))))) = true
      ·rw [if_pos c25] at H
       have c25b0 : (a0_2.toList == ([] : List UInt8) && (a0_3.toList == ([] : List UInt8) && (a0_4.toList == ([] : List UInt8) && (a0_5 == 0 && (a0_6 == 0))))) = true := c25
       (try (have c25b9 : (a0_2.toList.isEmpty && (a0_3.toList.isEmpty && (a0_4.toList.isEmpty && (a0_5 == 0 && (a0_6 == 0))))) = true := by simpa using c25))
       (try (have c25b1 : decide (a0_2.toList = ([] : List UInt8) && (a0_3.toList == ([] : List UInt8) && (a0_4.toList == ([] : List UInt8) && (a0_5 == 0 && (a0_6 == 0))))) = true := by simpa using c25))
       (try (have c25b2 : (a0_2.toList == ([] : List UInt8) && (a0_3.toList == ([] : List UInt8) && (a0_4.toList == ([] : List UInt8) && (a0_5 == 0 && (a0_6 == 0))))) = true := by simpa using c25))
       clear c25
       obtain rfl := Option.some.inj H
       obtain ⟨hcz26_0, hcz26_1, hcz26_2, hcz26_3, hcz26_4, hcz26_5, hcz26_6, hcz26_7, hcz26_8⟩ := cz9 BK125.out
       obtain ⟨hfz26_0, hfz26_1, hfz26_2, hfz26_3, hfz26_4, hfz26_5, hfz26_6, hfz26_7, hfz26_8⟩ := fz9 BK125.out
       go_wp2
       go_ret
       exact ⟨t_68, t_33⟩
      ·rw [if_neg c25] at H
       have c25b0 : (a0_2.toList == ([] : List UInt8) && (a0_3.toList == ([] : List UInt8) && (a0_4.toList == ([] : List UInt8) && (a0_5 == 0 && (a0_6 == 0))))) = false := by simpa using c25
       (try (have c25b9 : (a0_2.toList.isEmpty && (a0_3.toList.isEmpty && (a0_4.toList.isEmpty && (a0_5 == 0 && (a0_6 == 0))))) = false := by simpa using c25))
       (try (have c25b1 : decide (a0_2.toList = ([] : List UInt8) && (a0_3.toList == ([] : List UInt8) && (a0_4.toList == ([] : List UInt8) && (a0_5 == 0 && (a0_6 == 0))))) = false := by simpa using c25))
       (try (have c25b2 : (a0_2.toList == ([] : List UInt8) && (a0_3.toList == ([] : List UInt8) && (a0_4.toList == ([] : List UInt8) && (a0_5 == 0 && (a0_6 == 0))))) = false := by simpa using c25))
       (try (have c25b3 : ¬ (a0_2.toList = ([] : List UInt8) && (a0_3.toList == ([] : List UInt8) && (a0_4.toList == ([] : List UInt8) && (a0_5 == 0 && (a0_6 == 0))))) := by simpa using c25))
       clear c25
       obtain rfl := Option.some.inj H
       obtain ⟨hcz27_0, hcz27_1, hcz27_2, hcz27_3, hcz27_4, hcz27_5, hcz27_6, hcz27_7, hcz27_8⟩ := cz9 BK125.out
       obtain ⟨hfz27_0, hfz27_1, hfz27_2, hfz27_3, hfz27_4, hfz27_5, hfz27_6, hfz27_7, hfz27_8⟩ := fz9 BK125.out
       go_wp2
       go_ret
       exact ⟨t_68, t_33⟩
     ·replace c24 := Bool.eq_false_iff.mpr c24
      subst c24
      rw [if_neg (show ¬ (false = true) by decide)] at H
      by_cases c28 : a0_0 = 3
      ·rw [if_pos c28] at H
       have c28b0 : (a0_0 == 3) = true := beq_iff_eq.mpr c28
       have c28b1 : (a0_0 != 3) = false := bne_eq_false_iff_eq.mpr c28
       clear c28
       obtain rfl := Option.some.inj H
       obtain ⟨hcz29_0, hcz29_1, hcz29_2, hcz29_3, hcz29_4, hcz29_5, hcz29_6, hcz29_7, hcz29_8⟩ := cz9 BK125.out
       obtain ⟨hfz29_0, hfz29_1, hfz29_2, hfz29_3, hfz29_4, hfz29_5, hfz29_6, hfz29_7, hfz29_8⟩ := fz9 BK125.out
       go_wp2
       go_ret
       exact ⟨t_68, t_33⟩
      ·rw [if_neg c28] at H
       have c28b0 : (a0_0 == 3) = false := beq_eq_false_iff_ne.mpr c28
       have c28b1 : (a0_0 != 3) = true := bne_iff_ne.mpr c28
       obtain rfl := Option.some.inj H
       go_wp2
       go_ret
       exact ⟨t_68, t_33⟩
 ·replace c3 := Bool.eq_false_iff.mpr c3
  subst c3
  rw [if_neg (show ¬ (false = true) by decide)] at H
  obtain rfl := Option.some.inj H
  go_enter Try.func84, Try.ntmps84
  go_wp2_with (first | ((with_reducible refine gate_dst (N := 1) rfl ?_); refine bx_ (N := 1) (cs := #[.int .i64 a0_0, .int .i64 a0_1, .string a0_2, .string a0_3, .string a0_4, .int .i64 a0_5, .int .i64 a0_6, .string a0_7, .int .i64 a0_8]) (t := 83) ?_; intro gb125 hg w30 hbox hb; have BK125 := Aside0.mk (hbox); have GW125 := Aside0.mk ((by rw [hg]; exact (below_size (bb HB.out)) : w.heap.size ≤ gb125)); have GE125 := Aside0.mk ((by rw [hg]; exact (below_size (bb HB.out)) : w.heap.size ≤ gb125)); replace HB := Aside0.mk (below_step (bb HB.out) hb); clear hb hbox hg; obtain ⟨hcz31_0, hcz31_1, hcz31_2, hcz31_3, hcz31_4, hcz31_5, hcz31_6, hcz31_7, hcz31_8⟩ := sqc9 BK125.out; obtain ⟨hfz31_0, hfz31_1, hfz31_2, hfz31_3, hfz31_4, hfz31_5, hfz31_6, hfz31_7, hfz31_8⟩ := frozen9 BK125.out) | ((with_reducible refine gate_callee (f := 92) rfl ?_); refine goesL_ (some 5) rfl rfl Try.func92 t_8e rfl #[.int .i64 a0_1] rfl t_45 ?_; (with_reducible refine (job_day.calls a0_1 false _ A2.out).mono ?_); rintro e w' ⟨rfl, ⟨nd, rfl⟩⟩; refine ⟨_, rfl, ?_⟩))
  go_ret
  exact ⟨t_68, t_33⟩

-- NOT PRINTED: function 78 (api_Piece_78)

-- HAND: function 26 (parcel_Find) stands in HandFind

-- NOT PRINTED: function 61 (api_Piece_61)

-- NOT PRINTED: function 85 (job_Item_85)

-- NOT PRINTED: function 112 (job_Item_string)

-- NOT PRINTED: function 87 (job_find)

-- NOT PRINTED: function 130 (job_Item_130)

-- NOT PRINTED: function 144 (job_Item_144)

-- NOT PRINTED: function 142 (job_Item_142)

-- NOT PRINTED: function 131 (job_Item_131)

-- NOT PRINTED: function 111 (job_Item_111)

-- NOT PRINTED: function 86 (job_Shop_accept)

/-! ### slices_Index_int_int: function 132 -/
def slices_Index_int_int.l0 : Nat → List Int → Int → Int → Int → Option (Int)
 | 0, _, _, _, _ => none
 | k + 1, x0, x1, x7, x8 => if x8 < x7 then (if 0 ≤ x8 then (if x8 < (x0.length : Int) then (if x1 = (rd x0 x8) then (some x8) else (slices_Index_int_int.l0 k x0 x1 x7 (wrap64 (x8 + 1)))) else (none)) else (none)) else (some (-1))
def slices_Index_int_int.f (k : Nat) (l0 : List Int) (a1 : Int) : Option (Int) := slices_Index_int_int.l0 k l0 a1 (l0.length : Int) 0
set_option maxHeartbeats 8000000 in
set_option maxRecDepth 100000 in
theorem slices_Index_int_int.calls (k : Nat) (A0 : Option Addr) (c0 : Nat) (l0 : List Int) (a1 : Int) (r : Int) (w : World) (hr0 : Kd.C (Kd.int .i64) w A0 l0.length l0) (hc0 : l0.length ≤ c0) (h : slices_Index_int_int.f k l0 a1 = some r) :
  Calls Try.prog 132 #[.slice A0 l0.length c0, .int .i64 a1] w fun e w' => e = .returned (.int .i64 r) ∧ Drawn0 w w' := by
 have HR0 := Aside0.mk hr0
 have HC0 := Aside0.mk hc0
 clear hr0 hc0
 have H : (slices_Index_int_int.l0 k l0 a1 (l0.length : Int) 0) = some r := h
 clear h
 have H' := Aside0.mk H
 clear H
 go_enter Try.func132, Try.ntmps132
 go_wp2
 go_loopg [8] k (fun kq v8 w' => ∃ (x8_1 : Int), v8 = .int .i64 x8_1 ∧ Aside0 (slices_Index_int_int.l0 kq l0 a1 (l0.length : Int) x8_1 = some r) ∧ Aside0 (kq ≤ k) ∧ Drawn0 w w')
 case atStart => exact ⟨(0), t_7f, H', ⟨Nat.le_refl _⟩, t_72⟩
 case round =>
  clear H'
  try clear c1
  try clear p2
  obtain ⟨x8_1, rfl, HA, HK1, ⟨m1, rfl⟩⟩ := hrel
  cases gk with
  | zero => exact absurd HA.out (by simp [slices_Index_int_int.l0])
  | succ k1 =>
   have H := HA.out
   clear HA
   simp only [slices_Index_int_int.l0] at H
   by_cases c3 : x8_1 < (l0.length : Int)
   ·rw [if_pos c3] at H
    have c3b0 : decide (x8_1 < (l0.length : Int)) = true := decide_eq_true c3
    clear c3
    by_cases c4 : 0 ≤ x8_1
    ·rw [if_pos c4] at H
     have c4b0 : decide (0 ≤ x8_1) = true := decide_eq_true c4
     clear c4
     by_cases c5 : x8_1 < (l0.length : Int)
     ·rw [if_pos c5] at H
      have c5b0 : decide (x8_1 < (l0.length : Int)) = true := decide_eq_true c5
      clear c5
      by_cases c6 : a1 = (rd l0 x8_1)
      ·rw [if_pos c6] at H
       have c6b0 : (a1 == (rd l0 x8_1)) = true := beq_iff_eq.mpr c6
       have c6b1 : (a1 != (rd l0 x8_1)) = false := bne_eq_false_iff_eq.mpr c6
       clear c6
       obtain rfl := Option.some.inj H
       have p140 : 0 ≤ (x8_1 : Int) := of_decide_eq_true t_7d
       have q140 : x8_1 < (l0.length : Int) := of_decide_eq_true t_7d
       obtain ⟨ad140, e140, hx140_0⟩ := Kd.at_int HR0.out x8_1 p140 q140
       cases e140
       replace p140 := eq_true p140
       replace q140 := eq_true q140
       go_wp2
       go_ret
       exact ⟨t_7f, t_72⟩
      ·rw [if_neg c6] at H
       have c6b0 : (a1 == (rd l0 x8_1)) = false := beq_eq_false_iff_ne.mpr c6
       have c6b1 : (a1 != (rd l0 x8_1)) = true := bne_iff_ne.mpr c6
       have H' := Aside0.mk H
       clear H
       have p140 : 0 ≤ (x8_1 : Int) := of_decide_eq_true t_7d
       have q140 : x8_1 < (l0.length : Int) := of_decide_eq_true t_7d
       obtain ⟨ad140, e140, hx140_0⟩ := Kd.at_int HR0.out x8_1 p140 q140
       cases e140
       replace p140 := eq_true p140
       replace q140 := eq_true q140
       go_wp2
       go_roundg k1
       case measure => have := HK1.out; omega
       case rel => exact ⟨(wrap64 (x8_1 + 1)), t_7f, H', ⟨t_87⟩, t_72⟩
     ·rw [if_neg c5] at H
      exact absurd H (by simp)
    ·rw [if_neg c4] at H
     exact absurd H (by simp)
   ·rw [if_neg c3] at H
    have c3b0 : decide (x8_1 < (l0.length : Int)) = false := decide_eq_false c3
    clear c3
    obtain rfl := Option.some.inj H
    go_wp2
    go_ret
    exact ⟨t_7f, t_72⟩

/-! ### slices_Contains_int_int: function 114 -/
def slices_Contains_int_int.f (k : Nat) (l0 : List Int) (a1 : Int) : Option (Bool) := (slices_Index_int_int.f k l0 a1).bind fun t141 => (some (decide (t141 ≥ 0)))
set_option maxHeartbeats 8000000 in
set_option maxRecDepth 100000 in
theorem slices_Contains_int_int.calls (k : Nat) (A0 : Option Addr) (c0 : Nat) (l0 : List Int) (a1 : Int) (r : Bool) (w : World) (hr0 : Kd.C (Kd.int .i64) w A0 l0.length l0) (hc0 : l0.length ≤ c0) (h : slices_Contains_int_int.f k l0 a1 = some r) :
    Calls Try.prog 114 #[.slice A0 l0.length c0, .int .i64 a1] w fun e w' => e = .returned (.bool r) ∧ Drawn0 w w' := by
  have HR0 := Aside0.mk hr0
  have HC0 := Aside0.mk hc0
  clear hr0 hc0
  have H : ((slices_Index_int_int.f k l0 a1).bind fun t141 => (some (decide (t141 ≥ 0)))) = some r := h
  clear h
  replace H := Option.bind_eq_some_iff.mp H
  obtain ⟨t141, A30, H⟩ := H
  replace H : (some (decide (t141 ≥ 0))) = some r := H
  have A3 := Aside0.mk A30
  clear A30
  obtain rfl := Option.some.inj H
  go_enter Try.func114, Try.ntmps114
  go_wp2_with (first | ((with_reducible refine gate_callee (f := 132) rfl ?_); refine goesL_ (some 7) rfl rfl Try.func132 t_8e rfl #[.slice A0 l0.length c0, .int .i64 a1] rfl t_45 ?_; (with_reducible refine (slices_Index_int_int.calls k _ _ l0 a1 t141 _ ?side1 ?side2 A3.out).mono ?_); (case side1 => exact cl (HR0.out)); (case side2 => exact HC0.out); rintro e w' ⟨rfl, ⟨nd, rfl⟩⟩; refine ⟨_, rfl, ?_⟩))
  go_ret
  exact ⟨t_7f, t_72⟩

-- NOT PRINTED: function 102 (api_Piece_string)

-- NOT PRINTED: function 63 (parcel_find)

-- NOT PRINTED: function 121 (api_Piece_121)

-- NOT PRINTED: function 143 (api_Piece_143)

-- NOT PRINTED: function 137 (api_Piece_137)

-- NOT PRINTED: function 122 (api_Piece_122)

-- NOT PRINTED: function 101 (api_Piece_101)

-- NOT PRINTED: function 62 (parcel_put)

-- NOT PRINTED: function 105 (api_Piece_105)

-- NOT PRINTED: function 64 (parcel_leave)

-- NOT PRINTED: function 65 (parcel_split)

-- NOT PRINTED: function 66 (parcel_join)

-- NOT PRINTED: function 67 (parcel_lose)

-- HAND: function 18 (parcel_Do) stands in HandDoF

-- NOT PRINTED: function 115 (job_Shop_start)

-- NOT PRINTED: function 116 (job_Shop_cancel)

-- NOT PRINTED: function 88 (job_Shop_change)

-- HAND: function 37 (job_Do) stands in HandJobDoF

-- HAND: function 54 (job_Begin) stands in HandBegin

end Go.Proofs.Ytndbchcfjajgbaa.XP
