-- printed by xprint.py
import Derived.Test.YtndbchcfjajgbaaXB
import Derived.Test.YtndbchcfjajgbaaXP0
namespace Go.Proofs.Ytndbchcfjajgbaa.XP
open Go.Proofs.Ytndbchcfjajgbaa.XB Go.Proofs.Ytndbchcfjajgbaa.XQ
open Go.Proofs.Ytndbchcfjajgbaa.XW
open Go.RowKit Go.Proofs.YtndbchcfjajgbaaW.PrintWords Go.Proofs.YtndbchcfjajgbaaW.PrintLast Go.Proofs.YtndbchcfjajgbaaW.PrintMore
attribute [local go_sem] max2_int min2_int max_two min_two max_three min_three max_four min_four   -- for this text's walks alone
set_option linter.unusedVariables false
set_option linter.unusedSimpArgs false

/-! ### culetref53_Few: function 16 -/
mutual
def culetref53_Few.l0 : Nat → List (S24) → Int → Option (Bool)
 | 0, _, _ => none
 | k + 1, x0, x3 => if x3 < (x0.length : Int) then (culetref53_Few.j1 k x0 x3 (decide (x3 < 103))) else (culetref53_Few.j1 k x0 x3 false)
def culetref53_Few.j1 : Nat → List (S24) → Int → Bool → Option (Bool)
 | 0, _, _, _ => none
 | k + 1, x0, x3, x11 => if x11 = true then (if 0 ≤ x3 then (if x3 < (x0.length : Int) then (if (((rd_T24 x0 x3).f0).size : Int) > 40 then (some false) else (if (((rd_T24 x0 x3).f1).size : Int) > 40 then (some false) else (culetref53_Few.l0 k x0 (wrap64 (x3 + 1))))) else (none)) else (none)) else (some (decide ((x0.length : Int) ≤ 102)))
end
def culetref53_Few.f (k : Nat) (l0 : List (S24)) : Option (Bool) := culetref53_Few.l0 k l0 0
set_option maxHeartbeats 8000000 in
set_option maxRecDepth 100000 in
theorem culetref53_Few.calls (k : Nat) (A0 : Option Addr) (c0 : Nat) (l0 : List (S24)) (r : Bool) (w : World) (hr0 : Kd.C k24 w A0 l0.length l0) (hc0 : l0.length ≤ c0) (h : culetref53_Few.f k l0 = some r) :
  Calls Try.prog 16 #[.slice A0 l0.length c0] w fun e w' => e = .returned (.bool r) ∧ Drawn0 w w' := by
 have HR0 := Aside0.mk hr0
 have HC0 := Aside0.mk hc0
 clear hr0 hc0
 have H : (culetref53_Few.l0 k l0 0) = some r := h
 clear h
 have H' := Aside0.mk H
 clear H
 go_enter Try.func16, Try.ntmps16
 go_wp2
 go_loopg [3] k (fun kq v3 w' => ∃ (x3_1 : Int), v3 = .int .i64 x3_1 ∧ Aside0 (culetref53_Few.l0 kq l0 x3_1 = some r) ∧ Aside0 (kq ≤ k) ∧ Drawn0 w w')
 case atStart => exact ⟨(0), t_7f, H', ⟨Nat.le_refl _⟩, t_72⟩
 case round =>
  clear H'
  try clear c1
  obtain ⟨x3_1, rfl, HA, HK1, ⟨m1, rfl⟩⟩ := hrel
  cases gk with
  | zero => exact absurd HA.out (by simp [culetref53_Few.l0])
  | succ k1 =>
   have H := HA.out
   clear HA
   simp only [culetref53_Few.l0] at H
   have HC2 := Aside0.mk H
   clear H
   go_upto_region 2 with (fail)
   go_cut [11] (fun v11 wc => ∃ (kq : Nat) (x11_1 : Bool), v11 = .bool x11_1 ∧ Aside0 (culetref53_Few.j1 kq l0 x3_1 x11_1 = some r) ∧ Aside0 (kq ≤ k1) ∧ Drawn0 w wc)
   case first =>
    have H := HC2.out
    clear HC2
    by_cases c3 : x3_1 < (l0.length : Int)
    ·rw [if_pos c3] at H
     have c3b0 : decide (x3_1 < (l0.length : Int)) = true := decide_eq_true c3
     clear c3
     (first | rw [c3b0] | (simp only [i64_w, i32_w]; rw [c3b0]) | skip)
     have H' := Aside0.mk H
     clear H
     go_wp2
     go_meet
     case rel => exact ⟨_, (decide (x3_1 < 103)), t_7f, H', ⟨t_74⟩, t_72⟩
    ·rw [if_neg c3] at H
     have c3b0 : decide (x3_1 < (l0.length : Int)) = false := decide_eq_false c3
     clear c3
     (first | rw [c3b0] | (simp only [i64_w, i32_w]; rw [c3b0]) | skip)
     have H' := Aside0.mk H
     clear H
     go_wp2
     go_meet
     case rel => exact ⟨_, (false), t_7f, H', ⟨t_74⟩, t_72⟩
   case rest =>
    clear HC2
    try clear c1
    try clear p2
    try clear c3
    try clear c3b0
    obtain ⟨kq, x11_1, rfl, HA, HJ1, ⟨mc1, rfl⟩⟩ := hcut
    cases kq with
    | zero => exact absurd HA.out (by simp [culetref53_Few.j1])
    | succ kj1 =>
     have H := HA.out
     clear HA
     simp only [culetref53_Few.j1] at H
     by_cases c4 : x11_1 = true
     ·subst c4
      rw [if_pos rfl] at H
      by_cases c5 : 0 ≤ x3_1
      ·rw [if_pos c5] at H
       have c5b0 : decide (0 ≤ x3_1) = true := decide_eq_true c5
       clear c5
       by_cases c6 : x3_1 < (l0.length : Int)
       ·rw [if_pos c6] at H
        have c6b0 : decide (x3_1 < (l0.length : Int)) = true := decide_eq_true c6
        clear c6
        by_cases c7 : (((rd_T24 l0 x3_1).f0).size : Int) > 40
        ·rw [if_pos c7] at H
         have c7b0 : decide (40 < (((rd_T24 l0 x3_1).f0).size : Int)) = true := decide_eq_true c7
         have c7b1 : decide (40 < ((rd_T24 l0 x3_1).f0).size) = true := decide_eq_true (by omega)
         clear c7
         obtain rfl := Option.some.inj H
         have p206 : 0 ≤ (x3_1 : Int) := of_decide_eq_true t_7d
         have q206 : x3_1 < (l0.length : Int) := of_decide_eq_true t_7d
         obtain ⟨ad206, e206, hx206_0, hx206_1, hx206_2, hx206_3⟩ := at_T24 HR0.out x3_1 p206 q206
         cases e206
         replace p206 := eq_true p206
         replace q206 := eq_true q206
         go_wp2
         go_ret
         exact ⟨t_7f, t_72⟩
        ·rw [if_neg c7] at H
         have c7b0 : decide (40 < (((rd_T24 l0 x3_1).f0).size : Int)) = false := decide_eq_false c7
         have c7b1 : decide (40 < ((rd_T24 l0 x3_1).f0).size) = false := decide_eq_false (by omega)
         clear c7
         by_cases c8 : (((rd_T24 l0 x3_1).f1).size : Int) > 40
         ·rw [if_pos c8] at H
          have c8b0 : decide (40 < (((rd_T24 l0 x3_1).f1).size : Int)) = true := decide_eq_true c8
          have c8b1 : decide (40 < ((rd_T24 l0 x3_1).f1).size) = true := decide_eq_true (by omega)
          clear c8
          obtain rfl := Option.some.inj H
          have p206 : 0 ≤ (x3_1 : Int) := of_decide_eq_true t_7d
          have q206 : x3_1 < (l0.length : Int) := of_decide_eq_true t_7d
          obtain ⟨ad206, e206, hx206_0, hx206_1, hx206_2, hx206_3⟩ := at_T24 HR0.out x3_1 p206 q206
          cases e206
          replace p206 := eq_true p206
          replace q206 := eq_true q206
          have p207 : 0 ≤ (x3_1 : Int) := of_decide_eq_true t_7d
          have q207 : x3_1 < (l0.length : Int) := of_decide_eq_true t_7d
          obtain ⟨ad207, e207, hx207_0, hx207_1, hx207_2, hx207_3⟩ := at_T24 HR0.out x3_1 p207 q207
          obtain rfl : ad206 = ad207 := (by injection e207)
          replace p207 := eq_true p207
          replace q207 := eq_true q207
          go_wp2
          go_ret
          exact ⟨t_7f, t_72⟩
         ·rw [if_neg c8] at H
          have c8b0 : decide (40 < (((rd_T24 l0 x3_1).f1).size : Int)) = false := decide_eq_false c8
          have c8b1 : decide (40 < ((rd_T24 l0 x3_1).f1).size) = false := decide_eq_false (by omega)
          clear c8
          have H' := Aside0.mk H
          clear H
          have p206 : 0 ≤ (x3_1 : Int) := of_decide_eq_true t_7d
          have q206 : x3_1 < (l0.length : Int) := of_decide_eq_true t_7d
          obtain ⟨ad206, e206, hx206_0, hx206_1, hx206_2, hx206_3⟩ := at_T24 HR0.out x3_1 p206 q206
          cases e206
          replace p206 := eq_true p206
          replace q206 := eq_true q206
          have p207 : 0 ≤ (x3_1 : Int) := of_decide_eq_true t_7d
          have q207 : x3_1 < (l0.length : Int) := of_decide_eq_true t_7d
          obtain ⟨ad207, e207, hx207_0, hx207_1, hx207_2, hx207_3⟩ := at_T24 HR0.out x3_1 p207 q207
          obtain rfl : ad206 = ad207 := (by injection e207)
          replace p207 := eq_true p207
          replace q207 := eq_true q207
          go_wp2
          go_roundg kj1
          case measure => have := HK1.out; have := HJ1.out; omega
          case rel => exact ⟨(wrap64 (x3_1 + 1)), t_7f, H', ⟨by have := HK1.out; have := HJ1.out; omega⟩, t_72⟩
       ·rw [if_neg c6] at H
        exact absurd H (by simp)
      ·rw [if_neg c5] at H
       exact absurd H (by simp)
     ·replace c4 := Bool.eq_false_iff.mpr c4
      subst c4
      rw [if_neg (show ¬ (false = true) by decide)] at H
      obtain rfl := Option.some.inj H
      go_wp2
      go_ret
      exact ⟨t_7f, t_72⟩

/-! ### culetref54_Few: function 35 -/
mutual
def culetref54_Few.l0 : Nat → Int → Int → List (S107) → List (S24) → Int → Int → Option (Bool)
 | 0, _, _, _, _, _, _ => none
 | k + 1, x3, Qa0, Qa1, Qa2, Qa3, Qa4 => if x3 < (Qa1.length : Int) then (culetref54_Few.j1 k x3 (decide (x3 < 63)) Qa0 Qa1 Qa2 Qa3 Qa4) else (culetref54_Few.j1 k x3 false Qa0 Qa1 Qa2 Qa3 Qa4)
def culetref54_Few.j1 : Nat → Int → Bool → Int → List (S107) → List (S24) → Int → Int → Option (Bool)
 | 0, _, _, _, _, _, _, _ => none
 | k + 1, x3, x13, Qa0, Qa1, Qa2, Qa3, Qa4 => if x13 = true then (if 0 ≤ x3 then (if x3 < (Qa1.length : Int) then (if (((rd_T107 Qa1 x3).f0.f0).size : Int) > 40 then (some false) else (if (((rd_T107 Qa1 x3).f0.f1).size : Int) > 40 then (some false) else (if (((rd_T107 Qa1 x3).f0.f2).size : Int) > 40 then (some false) else ((culetref53_Few.f k (([(⟨(rd_T107 Qa1 x3).f5.f0, (rd_T107 Qa1 x3).f5.f1, (rd_T107 Qa1 x3).f5.f2, (rd_T107 Qa1 x3).f5.f3⟩ : S24)] : List (S24)))).bind fun t215 => (if t215 = true then (culetref54_Few.l0 k (wrap64 (x3 + 1)) Qa0 Qa1 Qa2 Qa3 Qa4) else (some false)))))) else (none)) else (none)) else (if (Qa1.length : Int) ≤ 62 then ((culetref53_Few.f k Qa2).bind fun t216 => (if t216 = true then (if Qa3 ≤ 1099511627776 then (some (decide (Qa4 ≤ 1099511627776))) else (some false)) else (some false))) else (some false))
end
def culetref54_Few.f (k : Nat) (a0_0 : Int) (l0_1 : List (S107)) (l0_2 : List (S24)) (a0_3 : Int) (a0_4 : Int) : Option (Bool) := culetref54_Few.l0 k 0 a0_0 l0_1 l0_2 a0_3 a0_4
set_option maxHeartbeats 8000000 in
set_option maxRecDepth 100000 in
theorem culetref54_Few.calls (k : Nat) (a0_0 : Int) (A0_1 : Option Addr) (c0_1 : Nat) (l0_1 : List (S107)) (A0_2 : Option Addr) (c0_2 : Nat) (l0_2 : List (S24)) (a0_3 : Int) (a0_4 : Int) (r : Bool) (w : World) (hr0_1 : Kd.C k107 w A0_1 l0_1.length l0_1) (hc0_1 : l0_1.length ≤ c0_1) (hr0_2 : Kd.C k24 w A0_2 l0_2.length l0_2) (hc0_2 : l0_2.length ≤ c0_2) (h : culetref54_Few.f k a0_0 l0_1 l0_2 a0_3 a0_4 = some r) :
  Calls Try.prog 35 #[.agg #[.int .i64 a0_0, .slice A0_1 l0_1.length c0_1, .slice A0_2 l0_2.length c0_2, .int .i64 a0_3, .int .i64 a0_4]] w fun e w' => e = .returned (.bool r) ∧ Below w.heap.size w w' := by
 have hu67 := Try.underlying67
 have hu69 := Try.underlying69
 have hu24 := Try.underlying24
 have HR0_1 := Aside0.mk hr0_1
 have HC0_1 := Aside0.mk hc0_1
 clear hr0_1 hc0_1
 have HR0_2 := Aside0.mk hr0_2
 have HC0_2 := Aside0.mk hc0_2
 clear hr0_2 hc0_2
 have HB := Aside0.mk (Below.refl w.heap.size w)
 have H : (culetref54_Few.l0 k 0 a0_0 l0_1 l0_2 a0_3 a0_4) = some r := h
 clear h
 have H' := Aside0.mk H
 clear H
 go_enter Try.func35, Try.ntmps35
 go_wp2_with (first | ((with_reducible refine gate_dst (N := 1) rfl ?_); (try (refine gate_guard (by rfl) ?_; dsimp only)); refine bx_ (N := 1) (cs := #[.int .i64 a0_0, .slice A0_1 l0_1.length c0_1, .slice A0_2 l0_2.length c0_2, .int .i64 a0_3, .int .i64 a0_4]) (t := 67) ?_; intro gb208 hg w2 hbox hb; have BK208 := Aside0.mk (hbox); have GW208 := Aside0.mk ((by rw [hg]; exact (below_size (bb HB.out)) : w.heap.size ≤ gb208)); have GE208 := Aside0.mk ((by rw [hg]; exact (below_size (bb HB.out)) : w.heap.size ≤ gb208)); replace HB := Aside0.mk (below_step (bb HB.out) hb); clear hb hbox hg))
 go_loopg [3] k (fun kq v3 w' => ∃ (x3_1 : Int), v3 = .int .i64 x3_1 ∧ Aside0 (culetref54_Few.l0 kq x3_1 a0_0 l0_1 l0_2 a0_3 a0_4 = some r) ∧ Aside0 (kq ≤ k) ∧ Aside0 (w'.heap[gb208]? = some (.cells #[.int .i64 a0_0, (.slice A0_1 l0_1.length c0_1), (.slice A0_2 l0_2.length c0_2), .int .i64 a0_3, .int .i64 a0_4] 67 (0, 0))) ∧ Aside0 (Below w.heap.size w w'))
 case atStart => exact ⟨(0), t_7f, H', ⟨Nat.le_refl _⟩, ⟨t_62⟩, ⟨t_38⟩⟩
 case round =>
  clear H'
  try clear p2
  obtain ⟨x3_1, rfl, HA, HK1, BK208, HB⟩ := hrel
  cases gk with
  | zero => exact absurd HA.out (by simp [culetref54_Few.l0])
  | succ k1 =>
   have H := HA.out
   clear HA
   simp only [culetref54_Few.l0] at H
   have HC3 := Aside0.mk H
   clear H
   go_upto_region 2 with (fail)
   go_cut [13] (fun v13 wc => ∃ (kq : Nat) (x13_2 : Bool), v13 = .bool x13_2 ∧ Aside0 (culetref54_Few.j1 kq x3_1 x13_2 a0_0 l0_1 l0_2 a0_3 a0_4 = some r) ∧ Aside0 (kq ≤ k1) ∧ Aside0 (wc.heap[gb208]? = some (.cells #[.int .i64 a0_0, (.slice A0_1 l0_1.length c0_1), (.slice A0_2 l0_2.length c0_2), .int .i64 a0_3, .int .i64 a0_4] 67 (0, 0))) ∧ Aside0 (Below w.heap.size w wc))
   case first =>
    have H := HC3.out
    clear HC3
    by_cases c4 : x3_1 < (l0_1.length : Int)
    ·rw [if_pos c4] at H
     have c4b0 : decide (x3_1 < (l0_1.length : Int)) = true := decide_eq_true c4
     clear c4
     (first | rw [c4b0] | (simp only [i64_w, i32_w]; rw [c4b0]) | skip)
     have H' := Aside0.mk H
     clear H
     obtain ⟨hcz5_0, hcz5_1, hcz5_2, hcz5_3, hcz5_4⟩ := cz5 BK208.out
     obtain ⟨hfz5_0, hfz5_1, hfz5_2, hfz5_3, hfz5_4⟩ := fz5 BK208.out
     go_wp2
     go_meet
     case rel => exact ⟨_, (decide (x3_1 < 63)), t_7f, H', ⟨t_74⟩, ⟨t_62⟩, ⟨t_38⟩⟩
    ·rw [if_neg c4] at H
     have c4b0 : decide (x3_1 < (l0_1.length : Int)) = false := decide_eq_false c4
     clear c4
     (first | rw [c4b0] | (simp only [i64_w, i32_w]; rw [c4b0]) | skip)
     have H' := Aside0.mk H
     clear H
     obtain ⟨hcz6_0, hcz6_1, hcz6_2, hcz6_3, hcz6_4⟩ := cz5 BK208.out
     obtain ⟨hfz6_0, hfz6_1, hfz6_2, hfz6_3, hfz6_4⟩ := fz5 BK208.out
     go_wp2
     go_meet
     case rel => exact ⟨_, (false), t_7f, H', ⟨t_74⟩, ⟨t_62⟩, ⟨t_38⟩⟩
   case rest =>
    clear HC3
    try clear p2
    try clear c3
    try clear c4
    try clear c4b0
    try clear hcz5_0 hcz5_1 hcz5_2 hcz5_3 hcz5_4
    try clear hcz6_0 hcz6_1 hcz6_2 hcz6_3 hcz6_4
    try clear hfz5_0 hfz5_1 hfz5_2 hfz5_3 hfz5_4
    try clear hfz6_0 hfz6_1 hfz6_2 hfz6_3 hfz6_4
    try clear p2
    obtain ⟨kq, x13_2, rfl, HA, HJ2, BK208, HB⟩ := hcut
    cases kq with
    | zero => exact absurd HA.out (by simp [culetref54_Few.j1])
    | succ kj2 =>
     have H := HA.out
     clear HA
     simp only [culetref54_Few.j1] at H
     by_cases c7 : x13_2 = true
     ·subst c7
      rw [if_pos rfl] at H
      by_cases c8 : 0 ≤ x3_1
      ·rw [if_pos c8] at H
       have c8b0 : decide (0 ≤ x3_1) = true := decide_eq_true c8
       clear c8
       by_cases c9 : x3_1 < (l0_1.length : Int)
       ·rw [if_pos c9] at H
        have c9b0 : decide (x3_1 < (l0_1.length : Int)) = true := decide_eq_true c9
        clear c9
        by_cases c10 : (((rd_T107 l0_1 x3_1).f0.f0).size : Int) > 40
        ·rw [if_pos c10] at H
         have c10b0 : decide (40 < (((rd_T107 l0_1 x3_1).f0.f0).size : Int)) = true := decide_eq_true c10
         have c10b1 : decide (40 < ((rd_T107 l0_1 x3_1).f0.f0).size) = true := decide_eq_true (by omega)
         clear c10
         obtain rfl := Option.some.inj H
         obtain ⟨hcz11_0, hcz11_1, hcz11_2, hcz11_3, hcz11_4⟩ := cz5 BK208.out
         obtain ⟨hfz11_0, hfz11_1, hfz11_2, hfz11_3, hfz11_4⟩ := fz5 BK208.out
         have p209 : 0 ≤ (x3_1 : Int) := of_decide_eq_true t_7d
         have q209 : x3_1 < (l0_1.length : Int) := of_decide_eq_true t_7d
         obtain ⟨ad209, e209, hx209_0, hx209_1, hx209_2, hx209_3, hx209_4, hx209_5, hx209_6, hx209_7, hx209_8, hx209_9, hx209_10, hx209_11, hx209_12⟩ := at_T107 HR0_1.out x3_1 p209 q209
         cases e209
         replace hx209_0 := hc_ HB.out hx209_0
         replace hx209_1 := hc_ HB.out hx209_1
         replace hx209_2 := hc_ HB.out hx209_2
         replace hx209_3 := hc_ HB.out hx209_3
         replace hx209_4 := hc_ HB.out hx209_4
         replace hx209_5 := hc_ HB.out hx209_5
         replace hx209_6 := hc_ HB.out hx209_6
         replace hx209_7 := hc_ HB.out hx209_7
         replace hx209_8 := hc_ HB.out hx209_8
         replace hx209_9 := hc_ HB.out hx209_9
         replace hx209_10 := hc_ HB.out hx209_10
         replace hx209_11 := hc_ HB.out hx209_11
         replace hx209_12 := hc_ HB.out hx209_12
         replace p209 := eq_true p209
         replace q209 := eq_true q209
         go_wp2_with (first | ((with_reducible refine gate_dst (N := 4) rfl ?_); (try (refine gate_guard (by rfl) ?_; dsimp only)); refine bx_ (N := 4) (cs := #[.string (⟨#[]⟩ : ByteArray), .string (⟨#[]⟩ : ByteArray), .string (⟨#[]⟩ : ByteArray), .int .i64 0, .int .i64 0]) (t := 69) ?_; intro gb210 hg w12 hbox hb; have BK210 := Aside0.mk (hbox); have GW210 := Aside0.mk ((by rw [hg]; exact (below_size t_38) : w.heap.size ≤ gb210)); have GE210 := Aside0.mk ((by rw [hg]; exact (below_size t_38) : w.heap.size ≤ gb210)); replace HB := Aside0.mk (below_step t_38 hb); have NB208_210 := nl hg BK208; have NB210_208 := ng hg BK208; replace BK208 := kc BK208 hb; clear hb hbox hg; have hnb13 := NB210_208.out; have hnc13 := NB208_210.out; obtain ⟨hcz14_0, hcz14_1, hcz14_2, hcz14_3, hcz14_4⟩ := sqc5 BK210.out; obtain ⟨hfz14_0, hfz14_1, hfz14_2, hfz14_3, hfz14_4⟩ := frozen5 BK210.out))
         go_ret
         exact ⟨t_68, t_20⟩
        ·rw [if_neg c10] at H
         have c10b0 : decide (40 < (((rd_T107 l0_1 x3_1).f0.f0).size : Int)) = false := decide_eq_false c10
         have c10b1 : decide (40 < ((rd_T107 l0_1 x3_1).f0.f0).size) = false := decide_eq_false (by omega)
         clear c10
         by_cases c15 : (((rd_T107 l0_1 x3_1).f0.f1).size : Int) > 40
         ·rw [if_pos c15] at H
          have c15b0 : decide (40 < (((rd_T107 l0_1 x3_1).f0.f1).size : Int)) = true := decide_eq_true c15
          have c15b1 : decide (40 < ((rd_T107 l0_1 x3_1).f0.f1).size) = true := decide_eq_true (by omega)
          clear c15
          obtain rfl := Option.some.inj H
          obtain ⟨hcz16_0, hcz16_1, hcz16_2, hcz16_3, hcz16_4⟩ := cz5 BK208.out
          obtain ⟨hfz16_0, hfz16_1, hfz16_2, hfz16_3, hfz16_4⟩ := fz5 BK208.out
          have p209 : 0 ≤ (x3_1 : Int) := of_decide_eq_true t_7d
          have q209 : x3_1 < (l0_1.length : Int) := of_decide_eq_true t_7d
          obtain ⟨ad209, e209, hx209_0, hx209_1, hx209_2, hx209_3, hx209_4, hx209_5, hx209_6, hx209_7, hx209_8, hx209_9, hx209_10, hx209_11, hx209_12⟩ := at_T107 HR0_1.out x3_1 p209 q209
          cases e209
          replace hx209_0 := hc_ HB.out hx209_0
          replace hx209_1 := hc_ HB.out hx209_1
          replace hx209_2 := hc_ HB.out hx209_2
          replace hx209_3 := hc_ HB.out hx209_3
          replace hx209_4 := hc_ HB.out hx209_4
          replace hx209_5 := hc_ HB.out hx209_5
          replace hx209_6 := hc_ HB.out hx209_6
          replace hx209_7 := hc_ HB.out hx209_7
          replace hx209_8 := hc_ HB.out hx209_8
          replace hx209_9 := hc_ HB.out hx209_9
          replace hx209_10 := hc_ HB.out hx209_10
          replace hx209_11 := hc_ HB.out hx209_11
          replace hx209_12 := hc_ HB.out hx209_12
          replace p209 := eq_true p209
          replace q209 := eq_true q209
          go_wp2_with (first | ((with_reducible refine gate_dst (N := 4) rfl ?_); (try (refine gate_guard (by rfl) ?_; dsimp only)); refine bx_ (N := 4) (cs := #[.string (⟨#[]⟩ : ByteArray), .string (⟨#[]⟩ : ByteArray), .string (⟨#[]⟩ : ByteArray), .int .i64 0, .int .i64 0]) (t := 69) ?_; intro gb210 hg w17 hbox hb; have BK210 := Aside0.mk (hbox); have GW210 := Aside0.mk ((by rw [hg]; exact (below_size t_38) : w.heap.size ≤ gb210)); have GE210 := Aside0.mk ((by rw [hg]; exact (below_size t_38) : w.heap.size ≤ gb210)); replace HB := Aside0.mk (below_step t_38 hb); have NB208_210 := nl hg BK208; have NB210_208 := ng hg BK208; replace BK208 := kc BK208 hb; clear hb hbox hg; have hnb18 := NB210_208.out; have hnc18 := NB208_210.out; obtain ⟨hcz19_0, hcz19_1, hcz19_2, hcz19_3, hcz19_4⟩ := sqc5 BK210.out; obtain ⟨hfz19_0, hfz19_1, hfz19_2, hfz19_3, hfz19_4⟩ := frozen5 BK210.out))
          go_ret
          exact ⟨t_68, t_20⟩
         ·rw [if_neg c15] at H
          have c15b0 : decide (40 < (((rd_T107 l0_1 x3_1).f0.f1).size : Int)) = false := decide_eq_false c15
          have c15b1 : decide (40 < ((rd_T107 l0_1 x3_1).f0.f1).size) = false := decide_eq_false (by omega)
          clear c15
          by_cases c20 : (((rd_T107 l0_1 x3_1).f0.f2).size : Int) > 40
          ·rw [if_pos c20] at H
           have c20b0 : decide (40 < (((rd_T107 l0_1 x3_1).f0.f2).size : Int)) = true := decide_eq_true c20
           have c20b1 : decide (40 < ((rd_T107 l0_1 x3_1).f0.f2).size) = true := decide_eq_true (by omega)
           clear c20
           obtain rfl := Option.some.inj H
           obtain ⟨hcz21_0, hcz21_1, hcz21_2, hcz21_3, hcz21_4⟩ := cz5 BK208.out
           obtain ⟨hfz21_0, hfz21_1, hfz21_2, hfz21_3, hfz21_4⟩ := fz5 BK208.out
           have p209 : 0 ≤ (x3_1 : Int) := of_decide_eq_true t_7d
           have q209 : x3_1 < (l0_1.length : Int) := of_decide_eq_true t_7d
           obtain ⟨ad209, e209, hx209_0, hx209_1, hx209_2, hx209_3, hx209_4, hx209_5, hx209_6, hx209_7, hx209_8, hx209_9, hx209_10, hx209_11, hx209_12⟩ := at_T107 HR0_1.out x3_1 p209 q209
           cases e209
           replace hx209_0 := hc_ HB.out hx209_0
           replace hx209_1 := hc_ HB.out hx209_1
           replace hx209_2 := hc_ HB.out hx209_2
           replace hx209_3 := hc_ HB.out hx209_3
           replace hx209_4 := hc_ HB.out hx209_4
           replace hx209_5 := hc_ HB.out hx209_5
           replace hx209_6 := hc_ HB.out hx209_6
           replace hx209_7 := hc_ HB.out hx209_7
           replace hx209_8 := hc_ HB.out hx209_8
           replace hx209_9 := hc_ HB.out hx209_9
           replace hx209_10 := hc_ HB.out hx209_10
           replace hx209_11 := hc_ HB.out hx209_11
           replace hx209_12 := hc_ HB.out hx209_12
           replace p209 := eq_true p209
           replace q209 := eq_true q209
           go_wp2_with (first | ((with_reducible refine gate_dst (N := 4) rfl ?_); (try (refine gate_guard (by rfl) ?_; dsimp only)); refine bx_ (N := 4) (cs := #[.string (⟨#[]⟩ : ByteArray), .string (⟨#[]⟩ : ByteArray), .string (⟨#[]⟩ : ByteArray), .int .i64 0, .int .i64 0]) (t := 69) ?_; intro gb210 hg w22 hbox hb; have BK210 := Aside0.mk (hbox); have GW210 := Aside0.mk ((by rw [hg]; exact (below_size t_38) : w.heap.size ≤ gb210)); have GE210 := Aside0.mk ((by rw [hg]; exact (below_size t_38) : w.heap.size ≤ gb210)); replace HB := Aside0.mk (below_step t_38 hb); have NB208_210 := nl hg BK208; have NB210_208 := ng hg BK208; replace BK208 := kc BK208 hb; clear hb hbox hg; have hnb23 := NB210_208.out; have hnc23 := NB208_210.out; obtain ⟨hcz24_0, hcz24_1, hcz24_2, hcz24_3, hcz24_4⟩ := sqc5 BK210.out; obtain ⟨hfz24_0, hfz24_1, hfz24_2, hfz24_3, hfz24_4⟩ := frozen5 BK210.out))
           go_ret
           exact ⟨t_68, t_20⟩
          ·rw [if_neg c20] at H
           have c20b0 : decide (40 < (((rd_T107 l0_1 x3_1).f0.f2).size : Int)) = false := decide_eq_false c20
           have c20b1 : decide (40 < ((rd_T107 l0_1 x3_1).f0.f2).size) = false := decide_eq_false (by omega)
           clear c20
           obtain ⟨y212, hy212⟩ : ∃ y_ : List (S24), y_ = (([(⟨(rd_T107 l0_1 x3_1).f5.f0, (rd_T107 l0_1 x3_1).f5.f1, (rd_T107 l0_1 x3_1).f5.f2, (rd_T107 l0_1 x3_1).f5.f3⟩ : S24)] : List (S24))) := ⟨_, rfl⟩
           replace H : ((culetref53_Few.f kj2 y212).bind fun t215 => (if t215 = true then (culetref54_Few.l0 kj2 (wrap64 (x3_1 + 1)) a0_0 l0_1 l0_2 a0_3 a0_4) else (some false))) = some r := by first | (rw [hy212]; with_reducible exact H) | (have H2_ := (Option.bind_some _ _).symm.trans H; rw [hy212]; with_reducible exact H2_) | (have H2_ := (Option.bind_some _ _).symm.trans H; with_reducible exact H2_) | with_reducible exact H | (rw [hy212]; exact H) | exact H
           have Ny212 := Aside0.mk hy212
           clear hy212
           replace H := Option.bind_eq_some_iff.mp H
           obtain ⟨t215, A250, H⟩ := H
           try dsimp only at H
           have A25 := Aside0.mk A250
           clear A250
           by_cases c26 : t215 = true
           ·subst c26
            rw [if_pos rfl] at H
            have H' := Aside0.mk H
            clear H
            obtain ⟨hcz27_0, hcz27_1, hcz27_2, hcz27_3, hcz27_4⟩ := cz5 BK208.out
            obtain ⟨hfz27_0, hfz27_1, hfz27_2, hfz27_3, hfz27_4⟩ := fz5 BK208.out
            have p209 : 0 ≤ (x3_1 : Int) := of_decide_eq_true t_7d
            have q209 : x3_1 < (l0_1.length : Int) := of_decide_eq_true t_7d
            obtain ⟨ad209, e209, hx209_0, hx209_1, hx209_2, hx209_3, hx209_4, hx209_5, hx209_6, hx209_7, hx209_8, hx209_9, hx209_10, hx209_11, hx209_12⟩ := at_T107 HR0_1.out x3_1 p209 q209
            cases e209
            replace hx209_0 := hc_ HB.out hx209_0
            replace hx209_1 := hc_ HB.out hx209_1
            replace hx209_2 := hc_ HB.out hx209_2
            replace hx209_3 := hc_ HB.out hx209_3
            replace hx209_4 := hc_ HB.out hx209_4
            replace hx209_5 := hc_ HB.out hx209_5
            replace hx209_6 := hc_ HB.out hx209_6
            replace hx209_7 := hc_ HB.out hx209_7
            replace hx209_8 := hc_ HB.out hx209_8
            replace hx209_9 := hc_ HB.out hx209_9
            replace hx209_10 := hc_ HB.out hx209_10
            replace hx209_11 := hc_ HB.out hx209_11
            replace hx209_12 := hc_ HB.out hx209_12
            replace p209 := eq_true p209
            replace q209 := eq_true q209
            go_wp2_with (first | ((with_reducible refine gate_dst (N := 4) rfl ?_); (try (refine gate_guard (by rfl) ?_; dsimp only)); refine bx_ (N := 4) (cs := #[.string (⟨#[]⟩ : ByteArray), .string (⟨#[]⟩ : ByteArray), .string (⟨#[]⟩ : ByteArray), .int .i64 0, .int .i64 0]) (t := 69) ?_; intro gb210 hg w28 hbox hb; have BK210 := Aside0.mk (hbox); have GW210 := Aside0.mk ((by rw [hg]; exact (below_size t_38) : w.heap.size ≤ gb210)); have GE210 := Aside0.mk ((by rw [hg]; exact (below_size t_38) : w.heap.size ≤ gb210)); replace HB := Aside0.mk (below_step t_38 hb); have NB208_210 := nl hg BK208; have NB210_208 := ng hg BK208; replace BK208 := kc BK208 hb; clear hb hbox hg; have hnb29 := NB210_208.out; have hnc29 := NB208_210.out; obtain ⟨hcz30_0, hcz30_1, hcz30_2, hcz30_3, hcz30_4⟩ := sqc5 BK210.out; obtain ⟨hfz30_0, hfz30_1, hfz30_2, hfz30_3, hfz30_4⟩ := frozen5 BK210.out; obtain ⟨hcz31_0, hcz31_1, hcz31_2, hcz31_3, hcz31_4⟩ := sqc5 BK208.out; obtain ⟨hfz31_0, hfz31_1, hfz31_2, hfz31_3, hfz31_4⟩ := frozen5 BK208.out; have p211 : 0 ≤ (x3_1 : Int) := of_decide_eq_true t_7d; have q211 : x3_1 < (l0_1.length : Int) := of_decide_eq_true t_7d; obtain ⟨ad211, e211, hx211_0, hx211_1, hx211_2, hx211_3, hx211_4, hx211_5, hx211_6, hx211_7, hx211_8, hx211_9, hx211_10, hx211_11, hx211_12⟩ := at_T107 HR0_1.out x3_1 p211 q211; obtain rfl : ad209 = ad211 := (by injection e211); have hn211_0 : ad209.block ≠ gb210 := Nat.ne_of_lt (Nat.lt_of_lt_of_le t_69 GW210.out); have hn211_1 : ad209.block ≠ gb210 := Nat.ne_of_lt (Nat.lt_of_lt_of_le t_69 GW210.out); have hn211_2 : ad209.block ≠ gb210 := Nat.ne_of_lt (Nat.lt_of_lt_of_le t_69 GW210.out); have hn211_3 : ad209.block ≠ gb210 := Nat.ne_of_lt (Nat.lt_of_lt_of_le t_69 GW210.out); have hn211_4 : ad209.block ≠ gb210 := Nat.ne_of_lt (Nat.lt_of_lt_of_le t_69 GW210.out); replace hx211_0 := hc_ HB.out hx211_0; replace hx211_1 := hc_ HB.out hx211_1; replace hx211_2 := hc_ HB.out hx211_2; replace hx211_3 := hc_ HB.out hx211_3; replace hx211_4 := hc_ HB.out hx211_4; replace hx211_5 := hc_ HB.out hx211_5; replace hx211_6 := hc_ HB.out hx211_6; replace hx211_7 := hc_ HB.out hx211_7; replace hx211_8 := hc_ HB.out hx211_8; replace hx211_9 := hc_ HB.out hx211_9; replace hx211_10 := hc_ HB.out hx211_10; replace hx211_11 := hc_ HB.out hx211_11; replace hx211_12 := hc_ HB.out hx211_12; have hF_ := @fs5 gb210 (.string ((rd_T107 l0_1 x3_1).f0.f0)) (.string ((rd_T107 l0_1 x3_1).f0.f1)) (.string ((rd_T107 l0_1 x3_1).f0.f2)) (.int .i64 ((rd_T107 l0_1 x3_1).f0.f3)) (.int .i64 ((rd_T107 l0_1 x3_1).f0.f4)); replace hx211_0 := hF_ t_5f hx211_0; replace hx211_1 := hF_ t_5f hx211_1; replace hx211_2 := hF_ t_5f hx211_2; replace hx211_3 := hF_ t_5f hx211_3; replace hx211_4 := hF_ t_5f hx211_4; replace hx211_5 := hF_ t_5f hx211_5; replace hx211_6 := hF_ t_5f hx211_6; replace hx211_7 := hF_ t_5f hx211_7; replace hx211_8 := hF_ t_5f hx211_8; replace hx211_9 := hF_ t_5f hx211_9; replace hx211_10 := hF_ t_5f hx211_10; replace hx211_11 := hF_ t_5f hx211_11; replace hx211_12 := hF_ t_5f hx211_12; clear hF_; clear hn211_0; clear hn211_1; clear hn211_2; clear hn211_3; clear hn211_4; replace p211 := eq_true p211; replace q211 := eq_true q211) | ((with_reducible refine gate_dst (N := 45) rfl ?_); (try (refine gate_guard (by rfl) ?_; dsimp only)); refine Kd.R_lit k24 _ 24 ?hg (N := 45) ?hd (xs := ([(⟨(rd_T107 l0_1 x3_1).f5.f0, (rd_T107 l0_1 x3_1).f5.f1, (rd_T107 l0_1 x3_1).f5.f2, (rd_T107 l0_1 x3_1).f5.f3⟩ : S24)] : List (S24))) (inner := [.string ((rd_T107 l0_1 x3_1).f5.f0), .string ((rd_T107 l0_1 x3_1).f5.f1), .int .i64 ((rd_T107 l0_1 x3_1).f5.f2), .int .i64 ((rd_T107 l0_1 x3_1).f5.f3)]) (ok := fun _ => True) (okp := fun _ => True) ?hr ?hp (fun _ hk => hk) trivial (Below.refl _ _) (Nat.le_refl _) (by simp) ?_; (case hd => rfl); (case hg => rfl); (case hr => go_simp; try rfl); (case hp => exact (Reps.c4 (show Kd.M k24 _ _ _ (⟨(rd_T107 l0_1 x3_1).f5.f0, (rd_T107 l0_1 x3_1).f5.f1, (rd_T107 l0_1 x3_1).f5.f2, (rd_T107 l0_1 x3_1).f5.f3⟩ : S24) [.string ((rd_T107 l0_1 x3_1).f5.f0), .string ((rd_T107 l0_1 x3_1).f5.f1), .int .i64 ((rd_T107 l0_1 x3_1).f5.f2), .int .i64 ((rd_T107 l0_1 x3_1).f5.f3)] from (k24_mkM _ _ _ (⟨(rd_T107 l0_1 x3_1).f5.f0, (rd_T107 l0_1 x3_1).f5.f1, (rd_T107 l0_1 x3_1).f5.f2, (rd_T107 l0_1 x3_1).f5.f3⟩ : S24) )) (Reps.none _ _))); intro v213 w32 ho33 hb hg_ hnew_; clear hg_ hnew_; (first | rw [← Ny212.out] at ho33 | (simp only [Int.reduceToNat] at ho33; rw [← Ny212.out] at ho33)); have HO214 := Aside0.mk (Kd.R_lower ho33 (below_size t_20)); replace BK208 := Aside0.mk (blk_below (g := gb208) (o := .cells #[.int .i64 a0_0, .slice (some ad209) l0_1.length c0_1, .slice A0_2 l0_2.length c0_2, .int .i64 a0_3, .int .i64 a0_4] 67 (0, 0)) t_4 hb); replace BK210 := Aside0.mk (blk_below (g := gb210) (o := .cells #[.string ((rd_T107 l0_1 x3_1).f0.f0), .string ((rd_T107 l0_1 x3_1).f0.f1), .string ((rd_T107 l0_1 x3_1).f0.f2), .int .i64 ((rd_T107 l0_1 x3_1).f0.f3), .int .i64 ((rd_T107 l0_1 x3_1).f0.f4)] 69 (0, 0)) t_19 hb); replace HB := Aside0.mk (below_step t_20 hb); clear hb ho33; obtain ⟨Ao34, co34, eo34⟩ := Kd.R_slice HO214.out; subst eo34) | (go_at_call 16; (with_reducible refine (culetref53_Few.calls kj2 _ _ y212 true _ ?side1 ?side2 A25.out).mono ?_); (case side1 => exact cl ((Kd.R_reads' HO214.out).2.2)); (case side2 => exact (Kd.R_reads' HO214.out).2.1); rintro e w' ⟨rfl, ⟨nd, rfl⟩⟩))
            go_roundg kj2
            case measure => have := HK1.out; have := HJ2.out; omega
            case rel => exact ⟨(wrap64 (x3_1 + 1)), t_7f, H', ⟨by have := HK1.out; have := HJ2.out; omega⟩, ⟨t_62⟩, ⟨t_20⟩⟩
           ·replace c26 := Bool.eq_false_iff.mpr c26
            subst c26
            rw [if_neg (show ¬ (false = true) by decide)] at H
            obtain rfl := Option.some.inj H
            obtain ⟨hcz35_0, hcz35_1, hcz35_2, hcz35_3, hcz35_4⟩ := cz5 BK208.out
            obtain ⟨hfz35_0, hfz35_1, hfz35_2, hfz35_3, hfz35_4⟩ := fz5 BK208.out
            have p209 : 0 ≤ (x3_1 : Int) := of_decide_eq_true t_7d
            have q209 : x3_1 < (l0_1.length : Int) := of_decide_eq_true t_7d
            obtain ⟨ad209, e209, hx209_0, hx209_1, hx209_2, hx209_3, hx209_4, hx209_5, hx209_6, hx209_7, hx209_8, hx209_9, hx209_10, hx209_11, hx209_12⟩ := at_T107 HR0_1.out x3_1 p209 q209
            cases e209
            replace hx209_0 := hc_ HB.out hx209_0
            replace hx209_1 := hc_ HB.out hx209_1
            replace hx209_2 := hc_ HB.out hx209_2
            replace hx209_3 := hc_ HB.out hx209_3
            replace hx209_4 := hc_ HB.out hx209_4
            replace hx209_5 := hc_ HB.out hx209_5
            replace hx209_6 := hc_ HB.out hx209_6
            replace hx209_7 := hc_ HB.out hx209_7
            replace hx209_8 := hc_ HB.out hx209_8
            replace hx209_9 := hc_ HB.out hx209_9
            replace hx209_10 := hc_ HB.out hx209_10
            replace hx209_11 := hc_ HB.out hx209_11
            replace hx209_12 := hc_ HB.out hx209_12
            replace p209 := eq_true p209
            replace q209 := eq_true q209
            go_wp2_with (first | ((with_reducible refine gate_dst (N := 4) rfl ?_); (try (refine gate_guard (by rfl) ?_; dsimp only)); refine bx_ (N := 4) (cs := #[.string (⟨#[]⟩ : ByteArray), .string (⟨#[]⟩ : ByteArray), .string (⟨#[]⟩ : ByteArray), .int .i64 0, .int .i64 0]) (t := 69) ?_; intro gb210 hg w36 hbox hb; have BK210 := Aside0.mk (hbox); have GW210 := Aside0.mk ((by rw [hg]; exact (below_size t_38) : w.heap.size ≤ gb210)); have GE210 := Aside0.mk ((by rw [hg]; exact (below_size t_38) : w.heap.size ≤ gb210)); replace HB := Aside0.mk (below_step t_38 hb); have NB208_210 := nl hg BK208; have NB210_208 := ng hg BK208; replace BK208 := kc BK208 hb; clear hb hbox hg; have hnb37 := NB210_208.out; have hnc37 := NB208_210.out; obtain ⟨hcz38_0, hcz38_1, hcz38_2, hcz38_3, hcz38_4⟩ := sqc5 BK210.out; obtain ⟨hfz38_0, hfz38_1, hfz38_2, hfz38_3, hfz38_4⟩ := frozen5 BK210.out; obtain ⟨hcz39_0, hcz39_1, hcz39_2, hcz39_3, hcz39_4⟩ := sqc5 BK208.out; obtain ⟨hfz39_0, hfz39_1, hfz39_2, hfz39_3, hfz39_4⟩ := frozen5 BK208.out; have p211 : 0 ≤ (x3_1 : Int) := of_decide_eq_true t_7d; have q211 : x3_1 < (l0_1.length : Int) := of_decide_eq_true t_7d; obtain ⟨ad211, e211, hx211_0, hx211_1, hx211_2, hx211_3, hx211_4, hx211_5, hx211_6, hx211_7, hx211_8, hx211_9, hx211_10, hx211_11, hx211_12⟩ := at_T107 HR0_1.out x3_1 p211 q211; obtain rfl : ad209 = ad211 := (by injection e211); have hn211_0 : ad209.block ≠ gb210 := Nat.ne_of_lt (Nat.lt_of_lt_of_le t_69 GW210.out); have hn211_1 : ad209.block ≠ gb210 := Nat.ne_of_lt (Nat.lt_of_lt_of_le t_69 GW210.out); have hn211_2 : ad209.block ≠ gb210 := Nat.ne_of_lt (Nat.lt_of_lt_of_le t_69 GW210.out); have hn211_3 : ad209.block ≠ gb210 := Nat.ne_of_lt (Nat.lt_of_lt_of_le t_69 GW210.out); have hn211_4 : ad209.block ≠ gb210 := Nat.ne_of_lt (Nat.lt_of_lt_of_le t_69 GW210.out); replace hx211_0 := hc_ HB.out hx211_0; replace hx211_1 := hc_ HB.out hx211_1; replace hx211_2 := hc_ HB.out hx211_2; replace hx211_3 := hc_ HB.out hx211_3; replace hx211_4 := hc_ HB.out hx211_4; replace hx211_5 := hc_ HB.out hx211_5; replace hx211_6 := hc_ HB.out hx211_6; replace hx211_7 := hc_ HB.out hx211_7; replace hx211_8 := hc_ HB.out hx211_8; replace hx211_9 := hc_ HB.out hx211_9; replace hx211_10 := hc_ HB.out hx211_10; replace hx211_11 := hc_ HB.out hx211_11; replace hx211_12 := hc_ HB.out hx211_12; have hF_ := @fs5 gb210 (.string ((rd_T107 l0_1 x3_1).f0.f0)) (.string ((rd_T107 l0_1 x3_1).f0.f1)) (.string ((rd_T107 l0_1 x3_1).f0.f2)) (.int .i64 ((rd_T107 l0_1 x3_1).f0.f3)) (.int .i64 ((rd_T107 l0_1 x3_1).f0.f4)); replace hx211_0 := hF_ t_5f hx211_0; replace hx211_1 := hF_ t_5f hx211_1; replace hx211_2 := hF_ t_5f hx211_2; replace hx211_3 := hF_ t_5f hx211_3; replace hx211_4 := hF_ t_5f hx211_4; replace hx211_5 := hF_ t_5f hx211_5; replace hx211_6 := hF_ t_5f hx211_6; replace hx211_7 := hF_ t_5f hx211_7; replace hx211_8 := hF_ t_5f hx211_8; replace hx211_9 := hF_ t_5f hx211_9; replace hx211_10 := hF_ t_5f hx211_10; replace hx211_11 := hF_ t_5f hx211_11; replace hx211_12 := hF_ t_5f hx211_12; clear hF_; clear hn211_0; clear hn211_1; clear hn211_2; clear hn211_3; clear hn211_4; replace p211 := eq_true p211; replace q211 := eq_true q211) | ((with_reducible refine gate_dst (N := 45) rfl ?_); (try (refine gate_guard (by rfl) ?_; dsimp only)); refine Kd.R_lit k24 _ 24 ?hg (N := 45) ?hd (xs := ([(⟨(rd_T107 l0_1 x3_1).f5.f0, (rd_T107 l0_1 x3_1).f5.f1, (rd_T107 l0_1 x3_1).f5.f2, (rd_T107 l0_1 x3_1).f5.f3⟩ : S24)] : List (S24))) (inner := [.string ((rd_T107 l0_1 x3_1).f5.f0), .string ((rd_T107 l0_1 x3_1).f5.f1), .int .i64 ((rd_T107 l0_1 x3_1).f5.f2), .int .i64 ((rd_T107 l0_1 x3_1).f5.f3)]) (ok := fun _ => True) (okp := fun _ => True) ?hr ?hp (fun _ hk => hk) trivial (Below.refl _ _) (Nat.le_refl _) (by simp) ?_; (case hd => rfl); (case hg => rfl); (case hr => go_simp; try rfl); (case hp => exact (Reps.c4 (show Kd.M k24 _ _ _ (⟨(rd_T107 l0_1 x3_1).f5.f0, (rd_T107 l0_1 x3_1).f5.f1, (rd_T107 l0_1 x3_1).f5.f2, (rd_T107 l0_1 x3_1).f5.f3⟩ : S24) [.string ((rd_T107 l0_1 x3_1).f5.f0), .string ((rd_T107 l0_1 x3_1).f5.f1), .int .i64 ((rd_T107 l0_1 x3_1).f5.f2), .int .i64 ((rd_T107 l0_1 x3_1).f5.f3)] from (k24_mkM _ _ _ (⟨(rd_T107 l0_1 x3_1).f5.f0, (rd_T107 l0_1 x3_1).f5.f1, (rd_T107 l0_1 x3_1).f5.f2, (rd_T107 l0_1 x3_1).f5.f3⟩ : S24) )) (Reps.none _ _))); intro v213 w40 ho41 hb hg_ hnew_; clear hg_ hnew_; (first | rw [← Ny212.out] at ho41 | (simp only [Int.reduceToNat] at ho41; rw [← Ny212.out] at ho41)); have HO214 := Aside0.mk (Kd.R_lower ho41 (below_size t_20)); replace BK208 := Aside0.mk (blk_below (g := gb208) (o := .cells #[.int .i64 a0_0, .slice (some ad209) l0_1.length c0_1, .slice A0_2 l0_2.length c0_2, .int .i64 a0_3, .int .i64 a0_4] 67 (0, 0)) t_4 hb); replace BK210 := Aside0.mk (blk_below (g := gb210) (o := .cells #[.string ((rd_T107 l0_1 x3_1).f0.f0), .string ((rd_T107 l0_1 x3_1).f0.f1), .string ((rd_T107 l0_1 x3_1).f0.f2), .int .i64 ((rd_T107 l0_1 x3_1).f0.f3), .int .i64 ((rd_T107 l0_1 x3_1).f0.f4)] 69 (0, 0)) t_19 hb); replace HB := Aside0.mk (below_step t_20 hb); clear hb ho41; obtain ⟨Ao42, co42, eo42⟩ := Kd.R_slice HO214.out; subst eo42) | (go_at_call 16; (with_reducible refine (culetref53_Few.calls kj2 _ _ y212 false _ ?side1 ?side2 A25.out).mono ?_); (case side1 => exact cl ((Kd.R_reads' HO214.out).2.2)); (case side2 => exact (Kd.R_reads' HO214.out).2.1); rintro e w' ⟨rfl, ⟨nd, rfl⟩⟩))
            go_ret
            exact ⟨t_68, t_20⟩
       ·rw [if_neg c9] at H
        exact absurd H (by simp)
      ·rw [if_neg c8] at H
       exact absurd H (by simp)
     ·replace c7 := Bool.eq_false_iff.mpr c7
      subst c7
      rw [if_neg (show ¬ (false = true) by decide)] at H
      by_cases c43 : (l0_1.length : Int) ≤ 62
      ·rw [if_pos c43] at H
       have c43b0 : decide ((l0_1.length : Int) ≤ 62) = true := decide_eq_true c43
       have c43b1 : decide (l0_1.length ≤ 62) = true := decide_eq_true (by omega)
       clear c43
       replace H := Option.bind_eq_some_iff.mp H
       obtain ⟨t216, A440, H⟩ := H
       try dsimp only at H
       have A44 := Aside0.mk A440
       clear A440
       by_cases c45 : t216 = true
       ·subst c45
        rw [if_pos rfl] at H
        by_cases c46 : a0_3 ≤ 1099511627776
        ·rw [if_pos c46] at H
         have c46b0 : decide (a0_3 ≤ 1099511627776) = true := decide_eq_true c46
         clear c46
         obtain rfl := Option.some.inj H
         obtain ⟨hcz47_0, hcz47_1, hcz47_2, hcz47_3, hcz47_4⟩ := cz5 BK208.out
         obtain ⟨hfz47_0, hfz47_1, hfz47_2, hfz47_3, hfz47_4⟩ := fz5 BK208.out
         go_wp2_with (first | (go_at_call 16; (with_reducible refine (culetref53_Few.calls kj2 _ _ l0_2 true _ ?side1 ?side2 A44.out).mono ?_); (case side1 => exact cl ((Kd.C_below HR0_2.out HB.out))); (case side2 => exact HC0_2.out); rintro e w' ⟨rfl, ⟨nd, rfl⟩⟩))
         go_ret
         exact ⟨t_68, t_38⟩
        ·rw [if_neg c46] at H
         have c46b0 : decide (a0_3 ≤ 1099511627776) = false := decide_eq_false c46
         clear c46
         obtain rfl := Option.some.inj H
         obtain ⟨hcz48_0, hcz48_1, hcz48_2, hcz48_3, hcz48_4⟩ := cz5 BK208.out
         obtain ⟨hfz48_0, hfz48_1, hfz48_2, hfz48_3, hfz48_4⟩ := fz5 BK208.out
         go_wp2_with (first | (go_at_call 16; (with_reducible refine (culetref53_Few.calls kj2 _ _ l0_2 true _ ?side1 ?side2 A44.out).mono ?_); (case side1 => exact cl ((Kd.C_below HR0_2.out HB.out))); (case side2 => exact HC0_2.out); rintro e w' ⟨rfl, ⟨nd, rfl⟩⟩))
         go_ret
         exact ⟨t_68, t_38⟩
       ·replace c45 := Bool.eq_false_iff.mpr c45
        subst c45
        rw [if_neg (show ¬ (false = true) by decide)] at H
        obtain rfl := Option.some.inj H
        obtain ⟨hcz49_0, hcz49_1, hcz49_2, hcz49_3, hcz49_4⟩ := cz5 BK208.out
        obtain ⟨hfz49_0, hfz49_1, hfz49_2, hfz49_3, hfz49_4⟩ := fz5 BK208.out
        go_wp2_with (first | (go_at_call 16; (with_reducible refine (culetref53_Few.calls kj2 _ _ l0_2 false _ ?side1 ?side2 A44.out).mono ?_); (case side1 => exact cl ((Kd.C_below HR0_2.out HB.out))); (case side2 => exact HC0_2.out); rintro e w' ⟨rfl, ⟨nd, rfl⟩⟩))
        go_ret
        exact ⟨t_68, t_38⟩
      ·rw [if_neg c43] at H
       have c43b0 : decide ((l0_1.length : Int) ≤ 62) = false := decide_eq_false c43
       have c43b1 : decide (l0_1.length ≤ 62) = false := decide_eq_false (by omega)
       clear c43
       obtain rfl := Option.some.inj H
       obtain ⟨hcz50_0, hcz50_1, hcz50_2, hcz50_3, hcz50_4⟩ := cz5 BK208.out
       obtain ⟨hfz50_0, hfz50_1, hfz50_2, hfz50_3, hfz50_4⟩ := fz5 BK208.out
       go_wp2
       go_ret
       exact ⟨t_68, t_38⟩

end Go.Proofs.Ytndbchcfjajgbaa.XP
