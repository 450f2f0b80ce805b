-- printed by xprint.py
import Derived.Test.YtndbchcfjajgbaaXB
import Derived.Test.YtndbchcfjajgbaaXP0
import Derived.Test.YtndbchcfjajgbaaXP1
import Derived.Test.YtndbchcfjajgbaaXP4
namespace Go.Proofs.Ytndbchcfjajgbaa.XP
open Go.Proofs.Ytndbchcfjajgbaa.XB Go.Proofs.Ytndbchcfjajgbaa.XQ
open Go.Proofs.Ytndbchcfjajgbaa.XW
open Go.RowKit Go.Proofs.YtndbchcfjajgbaaW.PrintWords Go.Proofs.YtndbchcfjajgbaaW.PrintLast Go.Proofs.YtndbchcfjajgbaaW.PrintMore
attribute [local go_sem] max2_int min2_int max_two min_two max_three min_three max_four min_four   -- for this text's walks alone
set_option linter.unusedVariables false
set_option linter.unusedSimpArgs false

attribute [local go_sem high] eqA24 eqA99
/-! ### culetref54_FewEvents: function 36 -/
mutual
def culetref54_FewEvents.l0 : Nat → List (S71) → Int → Option (Bool)
 | 0, _, _ => none
 | k + 1, x0, x3 => if x3 < (x0.length : Int) then (culetref54_FewEvents.j1 k x0 x3 (decide (x3 < 203))) else (culetref54_FewEvents.j1 k x0 x3 false)
def culetref54_FewEvents.j1 : Nat → List (S71) → Int → Bool → Option (Bool)
 | 0, _, _, _ => none
 | k + 1, x0, x3, x11 => if x11 = true then (if 0 ≤ x3 then (if x3 < (x0.length : Int) then (if (((rd_T71 x0 x3).f3).size : Int) > 40 then (some false) else (if (((rd_T71 x0 x3).f2.f0).size : Int) > 40 then (some false) else (if (((rd_T71 x0 x3).f2.f1).size : Int) > 40 then (some false) else (if (((rd_T71 x0 x3).f2.f2).size : Int) > 40 then (some false) else (culetref54_FewEvents.l0 k x0 (wrap64 (x3 + 1))))))) else (none)) else (none)) else (some (decide ((x0.length : Int) ≤ 202)))
end
def culetref54_FewEvents.f (k : Nat) (l0 : List (S71)) : Option (Bool) := culetref54_FewEvents.l0 k l0 0
set_option maxHeartbeats 8000000 in
set_option maxRecDepth 100000 in
theorem culetref54_FewEvents.calls (k : Nat) (A0 : Option Addr) (c0 : Nat) (l0 : List (S71)) (r : Bool) (w : World) (hr0 : Kd.C k71 w A0 l0.length l0) (hc0 : l0.length ≤ c0) (h : culetref54_FewEvents.f k l0 = some r) :
  Calls Try.prog 36 #[.slice A0 l0.length c0] w fun e w' => e = .returned (.bool r) ∧ Drawn0 w w' := by
 have HR0 := Aside0.mk hr0
 have HC0 := Aside0.mk hc0
 clear hr0 hc0
 have H : (culetref54_FewEvents.l0 k l0 0) = some r := h
 clear h
 have H' := Aside0.mk H
 clear H
 go_enter Try.func36, Try.ntmps36
 go_wp2
 go_loopg [3] k (fun kq v3 w' => ∃ (x3_1 : Int), v3 = .int .i64 x3_1 ∧ Aside0 (culetref54_FewEvents.l0 kq l0 x3_1 = some r) ∧ Aside0 (kq ≤ k) ∧ Drawn0 w w')
 case atStart => exact ⟨(0), t_7f, H', ⟨Nat.le_refl _⟩, t_72⟩
 case round =>
  clear H'
  obtain ⟨x3_1, rfl, HA, HK1, ⟨m1, rfl⟩⟩ := hrel
  cases gk with
  | zero => exact absurd HA.out (by simp [culetref54_FewEvents.l0])
  | succ k1 =>
   have H := HA.out
   clear HA
   simp only [culetref54_FewEvents.l0] at H
   have HC2 := Aside0.mk H
   clear H
   go_upto_region 2 with (fail)
   go_cut [11] (fun v11 wc => ∃ (kq : Nat) (x11_1 : Bool), v11 = .bool x11_1 ∧ Aside0 (culetref54_FewEvents.j1 kq l0 x3_1 x11_1 = some r) ∧ Aside0 (kq ≤ k1) ∧ Drawn0 w wc)
   case first =>
    have H := HC2.out
    clear HC2
    by_cases c3 : x3_1 < (l0.length : Int)
    ·rw [if_pos c3] at H
     have c3b0 : decide (x3_1 < (l0.length : Int)) = true := decide_eq_true c3
     clear c3
     (first | rw [c3b0] | (simp only [i64_w, i32_w]; rw [c3b0]) | skip)
     have H' := Aside0.mk H
     clear H
     go_wp2
     go_meet
     case rel => exact ⟨_, (decide (x3_1 < 203)), t_7f, H', ⟨t_74⟩, t_72⟩
    ·rw [if_neg c3] at H
     have c3b0 : decide (x3_1 < (l0.length : Int)) = false := decide_eq_false c3
     clear c3
     (first | rw [c3b0] | (simp only [i64_w, i32_w]; rw [c3b0]) | skip)
     have H' := Aside0.mk H
     clear H
     go_wp2
     go_meet
     case rel => exact ⟨_, (false), t_7f, H', ⟨t_74⟩, t_72⟩
   case rest =>
    clear HC2
    try clear p2
    try clear c3
    try clear c3b0
    obtain ⟨kq, x11_1, rfl, HA, HJ1, ⟨mc1, rfl⟩⟩ := hcut
    cases kq with
    | zero => exact absurd HA.out (by simp [culetref54_FewEvents.j1])
    | succ kj1 =>
     have H := HA.out
     clear HA
     simp only [culetref54_FewEvents.j1] at H
     by_cases c4 : x11_1 = true
     ·subst c4
      rw [if_pos rfl] at H
      by_cases c5 : 0 ≤ x3_1
      ·rw [if_pos c5] at H
       have c5b0 : decide (0 ≤ x3_1) = true := decide_eq_true c5
       clear c5
       by_cases c6 : x3_1 < (l0.length : Int)
       ·rw [if_pos c6] at H
        have c6b0 : decide (x3_1 < (l0.length : Int)) = true := decide_eq_true c6
        clear c6
        by_cases c7 : (((rd_T71 l0 x3_1).f3).size : Int) > 40
        ·rw [if_pos c7] at H
         have c7b0 : decide (40 < (((rd_T71 l0 x3_1).f3).size : Int)) = true := decide_eq_true c7
         have c7b1 : decide (40 < ((rd_T71 l0 x3_1).f3).size) = true := decide_eq_true (by omega)
         clear c7
         obtain rfl := Option.some.inj H
         have p217 : 0 ≤ (x3_1 : Int) := of_decide_eq_true t_7d
         have q217 : x3_1 < (l0.length : Int) := of_decide_eq_true t_7d
         obtain ⟨ad217, e217, hx217_0, hx217_1, hx217_2, hx217_3, hx217_4, hx217_5, hx217_6, hx217_7, hx217_8⟩ := at_T71 HR0.out x3_1 p217 q217
         cases e217
         replace p217 := eq_true p217
         replace q217 := eq_true q217
         go_wp2
         go_ret
         exact ⟨t_7f, t_72⟩
        ·rw [if_neg c7] at H
         have c7b0 : decide (40 < (((rd_T71 l0 x3_1).f3).size : Int)) = false := decide_eq_false c7
         have c7b1 : decide (40 < ((rd_T71 l0 x3_1).f3).size) = false := decide_eq_false (by omega)
         clear c7
         by_cases c8 : (((rd_T71 l0 x3_1).f2.f0).size : Int) > 40
         ·rw [if_pos c8] at H
          have c8b0 : decide (40 < (((rd_T71 l0 x3_1).f2.f0).size : Int)) = true := decide_eq_true c8
          have c8b1 : decide (40 < ((rd_T71 l0 x3_1).f2.f0).size) = true := decide_eq_true (by omega)
          clear c8
          obtain rfl := Option.some.inj H
          have p217 : 0 ≤ (x3_1 : Int) := of_decide_eq_true t_7d
          have q217 : x3_1 < (l0.length : Int) := of_decide_eq_true t_7d
          obtain ⟨ad217, e217, hx217_0, hx217_1, hx217_2, hx217_3, hx217_4, hx217_5, hx217_6, hx217_7, hx217_8⟩ := at_T71 HR0.out x3_1 p217 q217
          cases e217
          replace p217 := eq_true p217
          replace q217 := eq_true q217
          have p218 : 0 ≤ (x3_1 : Int) := of_decide_eq_true t_7d
          have q218 : x3_1 < (l0.length : Int) := of_decide_eq_true t_7d
          obtain ⟨ad218, e218, hx218_0, hx218_1, hx218_2, hx218_3, hx218_4, hx218_5, hx218_6, hx218_7, hx218_8⟩ := at_T71 HR0.out x3_1 p218 q218
          obtain rfl : ad217 = ad218 := (by injection e218)
          replace p218 := eq_true p218
          replace q218 := eq_true q218
          go_wp2
          go_ret
          exact ⟨t_7f, t_72⟩
         ·rw [if_neg c8] at H
          have c8b0 : decide (40 < (((rd_T71 l0 x3_1).f2.f0).size : Int)) = false := decide_eq_false c8
          have c8b1 : decide (40 < ((rd_T71 l0 x3_1).f2.f0).size) = false := decide_eq_false (by omega)
          clear c8
          by_cases c9 : (((rd_T71 l0 x3_1).f2.f1).size : Int) > 40
          ·rw [if_pos c9] at H
           have c9b0 : decide (40 < (((rd_T71 l0 x3_1).f2.f1).size : Int)) = true := decide_eq_true c9
           have c9b1 : decide (40 < ((rd_T71 l0 x3_1).f2.f1).size) = true := decide_eq_true (by omega)
           clear c9
           obtain rfl := Option.some.inj H
           have p217 : 0 ≤ (x3_1 : Int) := of_decide_eq_true t_7d
           have q217 : x3_1 < (l0.length : Int) := of_decide_eq_true t_7d
           obtain ⟨ad217, e217, hx217_0, hx217_1, hx217_2, hx217_3, hx217_4, hx217_5, hx217_6, hx217_7, hx217_8⟩ := at_T71 HR0.out x3_1 p217 q217
           cases e217
           replace p217 := eq_true p217
           replace q217 := eq_true q217
           have p218 : 0 ≤ (x3_1 : Int) := of_decide_eq_true t_7d
           have q218 : x3_1 < (l0.length : Int) := of_decide_eq_true t_7d
           obtain ⟨ad218, e218, hx218_0, hx218_1, hx218_2, hx218_3, hx218_4, hx218_5, hx218_6, hx218_7, hx218_8⟩ := at_T71 HR0.out x3_1 p218 q218
           obtain rfl : ad217 = ad218 := (by injection e218)
           replace p218 := eq_true p218
           replace q218 := eq_true q218
           have p219 : 0 ≤ (x3_1 : Int) := of_decide_eq_true t_7d
           have q219 : x3_1 < (l0.length : Int) := of_decide_eq_true t_7d
           obtain ⟨ad219, e219, hx219_0, hx219_1, hx219_2, hx219_3, hx219_4, hx219_5, hx219_6, hx219_7, hx219_8⟩ := at_T71 HR0.out x3_1 p219 q219
           obtain rfl : ad217 = ad219 := (by injection e219)
           replace p219 := eq_true p219
           replace q219 := eq_true q219
           go_wp2
           go_ret
           exact ⟨t_7f, t_72⟩
          ·rw [if_neg c9] at H
           have c9b0 : decide (40 < (((rd_T71 l0 x3_1).f2.f1).size : Int)) = false := decide_eq_false c9
           have c9b1 : decide (40 < ((rd_T71 l0 x3_1).f2.f1).size) = false := decide_eq_false (by omega)
           clear c9
           by_cases c10 : (((rd_T71 l0 x3_1).f2.f2).size : Int) > 40
           ·rw [if_pos c10] at H
            have c10b0 : decide (40 < (((rd_T71 l0 x3_1).f2.f2).size : Int)) = true := decide_eq_true c10
            have c10b1 : decide (40 < ((rd_T71 l0 x3_1).f2.f2).size) = true := decide_eq_true (by omega)
            clear c10
            obtain rfl := Option.some.inj H
            have p217 : 0 ≤ (x3_1 : Int) := of_decide_eq_true t_7d
            have q217 : x3_1 < (l0.length : Int) := of_decide_eq_true t_7d
            obtain ⟨ad217, e217, hx217_0, hx217_1, hx217_2, hx217_3, hx217_4, hx217_5, hx217_6, hx217_7, hx217_8⟩ := at_T71 HR0.out x3_1 p217 q217
            cases e217
            replace p217 := eq_true p217
            replace q217 := eq_true q217
            have p218 : 0 ≤ (x3_1 : Int) := of_decide_eq_true t_7d
            have q218 : x3_1 < (l0.length : Int) := of_decide_eq_true t_7d
            obtain ⟨ad218, e218, hx218_0, hx218_1, hx218_2, hx218_3, hx218_4, hx218_5, hx218_6, hx218_7, hx218_8⟩ := at_T71 HR0.out x3_1 p218 q218
            obtain rfl : ad217 = ad218 := (by injection e218)
            replace p218 := eq_true p218
            replace q218 := eq_true q218
            have p219 : 0 ≤ (x3_1 : Int) := of_decide_eq_true t_7d
            have q219 : x3_1 < (l0.length : Int) := of_decide_eq_true t_7d
            obtain ⟨ad219, e219, hx219_0, hx219_1, hx219_2, hx219_3, hx219_4, hx219_5, hx219_6, hx219_7, hx219_8⟩ := at_T71 HR0.out x3_1 p219 q219
            obtain rfl : ad217 = ad219 := (by injection e219)
            replace p219 := eq_true p219
            replace q219 := eq_true q219
            have p220 : 0 ≤ (x3_1 : Int) := of_decide_eq_true t_7d
            have q220 : x3_1 < (l0.length : Int) := of_decide_eq_true t_7d
            obtain ⟨ad220, e220, hx220_0, hx220_1, hx220_2, hx220_3, hx220_4, hx220_5, hx220_6, hx220_7, hx220_8⟩ := at_T71 HR0.out x3_1 p220 q220
            obtain rfl : ad217 = ad220 := (by injection e220)
            replace p220 := eq_true p220
            replace q220 := eq_true q220
            go_wp2
            go_ret
            exact ⟨t_7f, t_72⟩
           ·rw [if_neg c10] at H
            have c10b0 : decide (40 < (((rd_T71 l0 x3_1).f2.f2).size : Int)) = false := decide_eq_false c10
            have c10b1 : decide (40 < ((rd_T71 l0 x3_1).f2.f2).size) = false := decide_eq_false (by omega)
            clear c10
            have H' := Aside0.mk H
            clear H
            have p217 : 0 ≤ (x3_1 : Int) := of_decide_eq_true t_7d
            have q217 : x3_1 < (l0.length : Int) := of_decide_eq_true t_7d
            obtain ⟨ad217, e217, hx217_0, hx217_1, hx217_2, hx217_3, hx217_4, hx217_5, hx217_6, hx217_7, hx217_8⟩ := at_T71 HR0.out x3_1 p217 q217
            cases e217
            replace p217 := eq_true p217
            replace q217 := eq_true q217
            have p218 : 0 ≤ (x3_1 : Int) := of_decide_eq_true t_7d
            have q218 : x3_1 < (l0.length : Int) := of_decide_eq_true t_7d
            obtain ⟨ad218, e218, hx218_0, hx218_1, hx218_2, hx218_3, hx218_4, hx218_5, hx218_6, hx218_7, hx218_8⟩ := at_T71 HR0.out x3_1 p218 q218
            obtain rfl : ad217 = ad218 := (by injection e218)
            replace p218 := eq_true p218
            replace q218 := eq_true q218
            have p219 : 0 ≤ (x3_1 : Int) := of_decide_eq_true t_7d
            have q219 : x3_1 < (l0.length : Int) := of_decide_eq_true t_7d
            obtain ⟨ad219, e219, hx219_0, hx219_1, hx219_2, hx219_3, hx219_4, hx219_5, hx219_6, hx219_7, hx219_8⟩ := at_T71 HR0.out x3_1 p219 q219
            obtain rfl : ad217 = ad219 := (by injection e219)
            replace p219 := eq_true p219
            replace q219 := eq_true q219
            have p220 : 0 ≤ (x3_1 : Int) := of_decide_eq_true t_7d
            have q220 : x3_1 < (l0.length : Int) := of_decide_eq_true t_7d
            obtain ⟨ad220, e220, hx220_0, hx220_1, hx220_2, hx220_3, hx220_4, hx220_5, hx220_6, hx220_7, hx220_8⟩ := at_T71 HR0.out x3_1 p220 q220
            obtain rfl : ad217 = ad220 := (by injection e220)
            replace p220 := eq_true p220
            replace q220 := eq_true q220
            go_wp2
            go_roundg kj1
            case measure => have := HK1.out; have := HJ1.out; omega
            case rel => exact ⟨(wrap64 (x3_1 + 1)), t_7f, H', ⟨by have := HK1.out; have := HJ1.out; omega⟩, t_72⟩
       ·rw [if_neg c6] at H
        exact absurd H (by simp)
      ·rw [if_neg c5] at H
       exact absurd H (by simp)
     ·replace c4 := Bool.eq_false_iff.mpr c4
      subst c4
      rw [if_neg (show ¬ (false = true) by decide)] at H
      obtain rfl := Option.some.inj H
      go_wp2
      go_ret
      exact ⟨t_7f, t_72⟩

/-! ### culetlaw54_Own: function 38 -/
def culetlaw54_Own.l0 : Nat → List (S107) → Int → Int → Int → List (S99) → List (S24) → Int → Int → Option (Int × (List (S99)) × (List (S24)) × Int × Int)
 | 0, _, _, _, _, _, _, _, _ => none
 | k + 1, x16, x17, x18, Qa0, Qa1, Qa2, Qa3, Qa4 => if x18 < x17 then (if 0 ≤ x18 then (if x18 < (x16.length : Int) then (if Qa1.length < 977343669134 then (culetlaw54_Own.l0 k x16 x17 (wrap64 (x18 + 1)) Qa0 (Qa1 ++ [(⟨(⟨(rd_T107 x16 x18).f0.f0, (rd_T107 x16 x18).f0.f1, (rd_T107 x16 x18).f0.f2, (rd_T107 x16 x18).f0.f3, (rd_T107 x16 x18).f0.f4⟩ : S81), (rd_T107 x16 x18).f1, (rd_T107 x16 x18).f2, (rd_T107 x16 x18).f3, (rd_T107 x16 x18).f4, (⟨(rd_T107 x16 x18).f5.f0, (rd_T107 x16 x18).f5.f1, (rd_T107 x16 x18).f5.f2, (rd_T107 x16 x18).f5.f3⟩ : S24)⟩ : S99)]) Qa2 Qa3 Qa4) else (none)) else (none)) else (none)) else (some (Qa0, Qa1, Qa2, Qa3, Qa4))
def culetlaw54_Own.f (k : Nat) (a0_0 : Int) (l0_1 : List (S107)) (l0_2 : List (S24)) (a0_3 : Int) (a0_4 : Int) : Option (Int × (List (S99)) × (List (S24)) × Int × Int) := culetlaw54_Own.l0 k l0_1 (l0_1.length : Int) 0 a0_0 ([] : List (S99)) l0_2 a0_3 a0_4
set_option maxHeartbeats 8000000 in
set_option maxRecDepth 100000 in
theorem culetlaw54_Own.calls (k : Nat) (a0_0 : Int) (A0_1 : Option Addr) (c0_1 : Nat) (l0_1 : List (S107)) (P0_2_ : Nat → Prop) (A0_2 : Option Addr) (c0_2 : Nat) (l0_2 : List (S24)) (a0_3 : Int) (a0_4 : Int) (r1 : Int) (r2 : List (S99)) (r3 : List (S24)) (r4 : Int) (r5 : Int) (w : World) (hr0_1 : Kd.C k107 w A0_1 l0_1.length l0_1) (hc0_1 : l0_1.length ≤ c0_1) (hs0_2 : Kd.V k24 24 w w.heap.size (fun k_ => P0_2_ k_) (.slice A0_2 l0_2.length c0_2) l0_2) (h : culetlaw54_Own.f k a0_0 l0_1 l0_2 a0_3 a0_4 = some (r1, r2, r3, r4, r5)) :
  Calls Try.prog 38 #[.agg #[.int .i64 a0_0, .slice A0_1 l0_1.length c0_1, .slice A0_2 l0_2.length c0_2, .int .i64 a0_3, .int .i64 a0_4]] w fun e w' => ∃ v1_ v2_ : Value, e = .returned (.agg #[.int .i64 r1, v1_, v2_, .int .i64 r4, .int .i64 r5]) ∧ Kd.R k99 99 w' w.heap.size (fun k_ => (w.heap.size ≤ k_)) v1_ r2 ∧ Kd.V k24 24 w' w.heap.size (fun k_ => (P0_2_ k_ ∨ w.heap.size ≤ k_) ∧ some k_ ≠ (v1_ : Value).ownBlock) v2_ r3 ∧ Below w.heap.size w w' := by
 have hu67 := Try.underlying67
 have hu77 := Try.underlying77
 have hu107 := Try.underlying107
 have hu69 := Try.underlying69
 have hu24 := Try.underlying24
 have hu99 := Try.underlying99
 have HR0_1 := Aside0.mk hr0_1
 have HC0_1 := Aside0.mk hc0_1
 clear hr0_1 hc0_1
 have HO0_2 := Aside0.mk (show Kd.V k24 24 w w.heap.size (fun k_ => (P0_2_ k_ ∨ w.heap.size ≤ k_)) (.slice A0_2 l0_2.length c0_2) l0_2 from Kd.V_mono hs0_2 (fun k_ hk => .inl hk))
 have HB := Aside0.mk (Below.refl w.heap.size w)
 have H : (culetlaw54_Own.l0 k l0_1 (l0_1.length : Int) 0 a0_0 ([] : List (S99)) l0_2 a0_3 a0_4) = some (r1, r2, r3, r4, r5) := h
 clear h
 have H' := Aside0.mk H
 clear H
 go_enter Try.func38, Try.ntmps38
 go_wp2_with (first | (with_reducible refine gate_load (T := 107) rfl ?_; refine ev_load 12 rfl rfl Try.underlying107 rfl t_8e ?hx ?h0 ?hr ?_; (case hx => first | rfl | (go_simp; done) | (go_simp; rfl)); (case h0 => first | assumption | (go_simp; done)); (case hr => repeat first | exact cn | (refine cc t_83 ?_))) | ((with_reducible refine gate_dst (N := 1) rfl ?_); refine bx_ (N := 1) (cs := #[.int .i64 a0_0, .slice A0_1 l0_1.length c0_1, .slice A0_2 l0_2.length c0_2, .int .i64 a0_3, .int .i64 a0_4]) (t := 67) ?_; intro gb221 hg w2 hbox hb; replace HO0_2 := Aside0.mk (Kd.V_below (Kd.V_elderB (vl HO0_2.out) gb221 (Nat.le_of_eq hg.symm)) hb); have BK221 := Aside0.mk (hbox); have GW221 := Aside0.mk ((by rw [hg]; exact (below_size (bb HB.out)) : w.heap.size ≤ gb221)); have GE221 := Aside0.mk ((by rw [hg]; exact (below_size (bb HB.out)) : w.heap.size ≤ gb221)); replace HB := Aside0.mk (below_step (bb HB.out) hb); clear hb hbox hg) | ((with_reducible refine gate_dst (N := 2) rfl ?_); refine bx_ (N := 2) (cs := #[.int .i64 0, .slice none 0 0, .slice none 0 0, .int .i64 0, .int .i64 0]) (t := 77) ?_; intro gb222 hg w3 hbox hb; replace HO0_2 := Aside0.mk (Kd.V_below (Kd.V_elderB (vl HO0_2.out) gb222 (Nat.le_of_eq hg.symm)) hb); have BK222 := Aside0.mk (hbox); have GW222 := Aside0.mk ((by rw [hg]; exact (below_size t_39) : w.heap.size ≤ gb222)); have GE222 := Aside0.mk ((by rw [hg]; exact (below_size t_39) : w.heap.size ≤ gb222)); replace HB := Aside0.mk (below_step t_39 hb); have NB221_222 := nl hg BK221; have NB222_221 := ng hg BK221; replace BK221 := kc BK221 hb; clear hb hbox hg; have hnb4 := NB221_222.out; have hnc4 := NB222_221.out; obtain ⟨hcz5_0, hcz5_1, hcz5_2, hcz5_3, hcz5_4⟩ := sqc5 BK221.out; obtain ⟨hfz5_0, hfz5_1, hfz5_2, hfz5_3, hfz5_4⟩ := frozen5 BK221.out) | ((with_reducible refine gate_dst (N := 3) rfl ?_); refine bx_ (N := 3) (cs := #[.int .i64 0, .slice none 0 0, .slice none 0 0, .int .i64 0, .int .i64 0]) (t := 77) ?_; intro gb223 hg w6 hbox hb; replace HO0_2 := Aside0.mk (Kd.V_below (Kd.V_elderB (vl HO0_2.out) gb223 (Nat.le_of_eq hg.symm)) hb); have BK223 := Aside0.mk (hbox); have GW223 := Aside0.mk ((by rw [hg]; exact (below_size t_21) : w.heap.size ≤ gb223)); have GE223 := Aside0.mk ((by rw [hg]; exact (below_size t_21) : w.heap.size ≤ gb223)); replace HB := Aside0.mk (below_step t_21 hb); have NB221_223 := nl hg BK221; have NB223_221 := ng hg BK221; replace BK221 := kc BK221 hb; have NB222_223 := nl hg BK222; have NB223_222 := ng hg BK222; replace BK222 := kc BK222 hb; clear hb hbox hg; have hnb7 := NB223_221.out; have hnc7 := NB221_223.out; have hnb8 := NB223_222.out; have hnc8 := NB222_223.out; obtain ⟨hcz9_0, hcz9_1, hcz9_2, hcz9_3, hcz9_4⟩ := sqc5 BK223.out; obtain ⟨hfz9_0, hfz9_1, hfz9_2, hfz9_3, hfz9_4⟩ := frozen5 BK223.out; obtain ⟨hcz10_0, hcz10_1, hcz10_2, hcz10_3, hcz10_4⟩ := sqc5 BK221.out; obtain ⟨hfz10_0, hfz10_1, hfz10_2, hfz10_3, hfz10_4⟩ := frozen5 BK221.out))
 go_loopg [18] k (fun kq v18 w' => ∃ (x18_1 : Int) (Qa1_1 : List (S99)) (u224001 : Value), v18 = .int .i64 x18_1 ∧ Aside0 (culetlaw54_Own.l0 kq l0_1 (l0_1.length : Int) x18_1 a0_0 Qa1_1 l0_2 a0_3 a0_4 = some (r1, r2, r3, r4, r5)) ∧ Aside0 (kq ≤ k) ∧ Aside0 (Kd.V k24 24 w' w.heap.size (fun k_ => (P0_2_ k_ ∨ w.heap.size ≤ k_) ∧ some k_ ≠ (u224001 : Value).ownBlock ∧ k_ ≠ gb221 ∧ k_ ≠ gb222 ∧ k_ ≠ gb223) (.slice A0_2 l0_2.length c0_2) l0_2) ∧ Aside0 (Kd.R k99 99 w' w.heap.size (fun k_ => (w.heap.size ≤ k_)) u224001 Qa1_1) ∧ Aside0 (Kd.V k24 24 w' w.heap.size (fun k_ => (P0_2_ k_ ∨ w.heap.size ≤ k_) ∧ some k_ ≠ (u224001 : Value).ownBlock ∧ k_ ≠ gb221 ∧ k_ ≠ gb222 ∧ k_ ≠ gb223) (.slice A0_2 l0_2.length c0_2) l0_2) ∧ Aside0 (w'.heap[gb221]? = some (.cells #[.int .i64 a0_0, (.slice A0_1 l0_1.length c0_1), (.slice A0_2 l0_2.length c0_2), .int .i64 a0_3, .int .i64 a0_4] 67 (0, 0))) ∧ Aside0 (w'.heap[gb222]? = some (.cells #[.int .i64 0, (.slice none 0 0), (.slice none 0 0), .int .i64 0, .int .i64 0] 77 (0, 0))) ∧ Aside0 (w'.heap[gb223]? = some (.cells #[.int .i64 a0_0, u224001, (.slice A0_2 l0_2.length c0_2), .int .i64 a0_3, .int .i64 a0_4] 77 (0, 0))) ∧ Aside0 (Below w.heap.size w w'))
 case atStart => exact ⟨(0), (([] : List (S99))), (.slice none 0 0), t_7f, H', ⟨Nat.le_refl _⟩, ⟨t_5⟩, ⟨t_44⟩, ⟨t_5⟩, ⟨by (with_reducible repeat (first | refine blk_drewN ?_ _ | refine blk_drew ?_ | refine blk_alloc ?_ _)); refine blk_far ?_ NB221_223.out _; (with_reducible repeat (first | refine blk_drewN ?_ _ | refine blk_drew ?_ | refine blk_alloc ?_ _)); refine blk_far ?_ NB221_223.out _; (with_reducible repeat (first | refine blk_drewN ?_ _ | refine blk_drew ?_ | refine blk_alloc ?_ _)); refine blk_far ?_ NB221_223.out _; (with_reducible repeat (first | refine blk_drewN ?_ _ | refine blk_drew ?_ | refine blk_alloc ?_ _)); refine blk_far ?_ NB221_223.out _; (with_reducible repeat (first | refine blk_drewN ?_ _ | refine blk_drew ?_ | refine blk_alloc ?_ _)); refine blk_far ?_ NB221_223.out _; (with_reducible repeat (first | refine blk_drewN ?_ _ | refine blk_drew ?_ | refine blk_alloc ?_ _)); exact BK221.out⟩, ⟨by (with_reducible repeat (first | refine blk_drewN ?_ _ | refine blk_drew ?_ | refine blk_alloc ?_ _)); refine blk_far ?_ NB222_223.out _; (with_reducible repeat (first | refine blk_drewN ?_ _ | refine blk_drew ?_ | refine blk_alloc ?_ _)); refine blk_far ?_ NB222_223.out _; (with_reducible repeat (first | refine blk_drewN ?_ _ | refine blk_drew ?_ | refine blk_alloc ?_ _)); refine blk_far ?_ NB222_223.out _; (with_reducible repeat (first | refine blk_drewN ?_ _ | refine blk_drew ?_ | refine blk_alloc ?_ _)); refine blk_far ?_ NB222_223.out _; (with_reducible repeat (first | refine blk_drewN ?_ _ | refine blk_drew ?_ | refine blk_alloc ?_ _)); refine blk_far ?_ NB222_223.out _; (with_reducible repeat (first | refine blk_drewN ?_ _ | refine blk_drew ?_ | refine blk_alloc ?_ _)); exact BK222.out⟩, ⟨by (with_reducible repeat (first | refine blk_drewN ?_ _ | refine blk_drew ?_ | refine blk_alloc ?_ _)); apply put5; (with_reducible repeat (first | refine blk_drewN ?_ _ | refine blk_drew ?_ | refine blk_alloc ?_ _)); exact BK223.out⟩, ⟨t_1a⟩⟩
 case round =>
  clear H'
  try clear p2
  try clear c3
  try clear c4
  try clear c7
  try clear c8
  try clear hcz10_0 hcz10_1 hcz10_2 hcz10_3 hcz10_4
  try clear hcz5_0 hcz5_1 hcz5_2 hcz5_3 hcz5_4
  try clear hcz9_0 hcz9_1 hcz9_2 hcz9_3 hcz9_4
  try clear hfz10_0 hfz10_1 hfz10_2 hfz10_3 hfz10_4
  try clear hfz5_0 hfz5_1 hfz5_2 hfz5_3 hfz5_4
  try clear hfz9_0 hfz9_1 hfz9_2 hfz9_3 hfz9_4
  obtain ⟨x18_1, Qa1_1, u224001, rfl, HA, HK1, HO_222002, HO_224001, HO_224002, BK221, BK222, BK223, HB⟩ := hrel
  cases gk with
  | zero => exact absurd HA.out (by simp [culetlaw54_Own.l0])
  | succ k1 =>
   have H := HA.out
   clear HA
   simp only [culetlaw54_Own.l0] at H
   by_cases c11 : x18_1 < (l0_1.length : Int)
   ·rw [if_pos c11] at H
    have c11b0 : decide (x18_1 < (l0_1.length : Int)) = true := decide_eq_true c11
    clear c11
    by_cases c12 : 0 ≤ x18_1
    ·rw [if_pos c12] at H
     have c12b0 : decide (0 ≤ x18_1) = true := decide_eq_true c12
     clear c12
     by_cases c13 : x18_1 < (l0_1.length : Int)
     ·rw [if_pos c13] at H
      have c13b0 : decide (x18_1 < (l0_1.length : Int)) = true := decide_eq_true c13
      clear c13
      by_cases c14 : Qa1_1.length < 977343669134
      ·rw [if_pos c14] at H
       have LMc14 := Aside0.mk c14
       clear c14
       obtain ⟨y226, hy226⟩ : ∃ y_ : List (S99), y_ = (Qa1_1 ++ [(⟨(⟨(rd_T107 l0_1 x18_1).f0.f0, (rd_T107 l0_1 x18_1).f0.f1, (rd_T107 l0_1 x18_1).f0.f2, (rd_T107 l0_1 x18_1).f0.f3, (rd_T107 l0_1 x18_1).f0.f4⟩ : S81), (rd_T107 l0_1 x18_1).f1, (rd_T107 l0_1 x18_1).f2, (rd_T107 l0_1 x18_1).f3, (rd_T107 l0_1 x18_1).f4, (⟨(rd_T107 l0_1 x18_1).f5.f0, (rd_T107 l0_1 x18_1).f5.f1, (rd_T107 l0_1 x18_1).f5.f2, (rd_T107 l0_1 x18_1).f5.f3⟩ : S24)⟩ : S99)]) := ⟨_, rfl⟩
       replace H : (culetlaw54_Own.l0 k1 l0_1 (l0_1.length : Int) (wrap64 (x18_1 + 1)) a0_0 y226 l0_2 a0_3 a0_4) = some (r1, r2, r3, r4, r5) := by first | (rw [hy226]; with_reducible exact H) | (have H2_ := (Option.bind_some _ _).symm.trans H; rw [hy226]; with_reducible exact H2_) | (have H2_ := (Option.bind_some _ _).symm.trans H; with_reducible exact H2_) | with_reducible exact H | (rw [hy226]; exact H) | exact H
       have Ny226 := Aside0.mk hy226
       clear hy226
       have H' := Aside0.mk H
       clear H
       have p224 : 0 ≤ (x18_1 : Int) := of_decide_eq_true t_7d
       have q224 : x18_1 < (l0_1.length : Int) := of_decide_eq_true t_7d
       obtain ⟨ad224, e224, hx224_0, hx224_1, hx224_2, hx224_3, hx224_4, hx224_5, hx224_6, hx224_7, hx224_8, hx224_9, hx224_10, hx224_11, hx224_12⟩ := at_T107 HR0_1.out x18_1 p224 q224
       cases e224
       replace hx224_0 := hc_ HB.out hx224_0
       replace hx224_1 := hc_ HB.out hx224_1
       replace hx224_2 := hc_ HB.out hx224_2
       replace hx224_3 := hc_ HB.out hx224_3
       replace hx224_4 := hc_ HB.out hx224_4
       replace hx224_5 := hc_ HB.out hx224_5
       replace hx224_6 := hc_ HB.out hx224_6
       replace hx224_7 := hc_ HB.out hx224_7
       replace hx224_8 := hc_ HB.out hx224_8
       replace hx224_9 := hc_ HB.out hx224_9
       replace hx224_10 := hc_ HB.out hx224_10
       replace hx224_11 := hc_ HB.out hx224_11
       replace hx224_12 := hc_ HB.out hx224_12
       replace p224 := eq_true p224
       replace q224 := eq_true q224
       go_wp2_with (first | (with_reducible refine gate_load (T := 107) rfl ?_; refine ev_load 12 rfl rfl Try.underlying107 rfl t_8e ?hx ?h0 ?hr ?_; (case hx => first | rfl | (go_simp; done) | (go_simp; rfl)); (case h0 => first | assumption | (go_simp; done)); (case hr => repeat first | exact cn | (refine cc t_83 ?_))) | ((with_reducible refine gate_dst (N := 5) rfl ?_); refine bx_ (N := 5) (cs := #[.string (⟨#[]⟩ : ByteArray), .string (⟨#[]⟩ : ByteArray), .string (⟨#[]⟩ : ByteArray), .int .i64 0, .int .i64 0, .int .i64 0, .int .i64 0, .int .i64 0, .int .i64 0, .string (⟨#[]⟩ : ByteArray), .string (⟨#[]⟩ : ByteArray), .int .i64 0, .int .i64 0]) (t := 107) ?_; intro gb225 hg w15 hbox hb; replace HO_222002 := Aside0.mk (Kd.V_below (Kd.V_elderB (vl HO_222002.out) gb225 (Nat.le_of_eq hg.symm)) hb); replace HO_224001 := ko HO_224001 hb; replace HO_224002 := Aside0.mk (Kd.V_below (Kd.V_elderB (vl HO_224002.out) gb225 (Nat.le_of_eq hg.symm)) hb); have BK225 := Aside0.mk (hbox); have GW225 := Aside0.mk ((by rw [hg]; exact (below_size t_1a) : w.heap.size ≤ gb225)); have GE225 := Aside0.mk ((by rw [hg]; exact (below_size t_1a) : w.heap.size ≤ gb225)); replace HB := Aside0.mk (below_step t_1a hb); have NB221_225 := nl hg BK221; have NB225_221 := ng hg BK221; replace BK221 := kc BK221 hb; have NB222_225 := nl hg BK222; have NB225_222 := ng hg BK222; replace BK222 := kc BK222 hb; have NB223_225 := nl hg BK223; have NB225_223 := ng hg BK223; replace BK223 := kc BK223 hb; clear hb hbox hg; have hnb16 := NB225_221.out; have hnc16 := NB221_225.out; have hnb17 := NB225_222.out; have hnc17 := NB222_225.out; have hnb18 := NB225_223.out; have hnc18 := NB223_225.out; obtain ⟨hcz19_0, hcz19_1, hcz19_2, hcz19_3, hcz19_4, hcz19_5, hcz19_6, hcz19_7, hcz19_8, hcz19_9, hcz19_10, hcz19_11, hcz19_12⟩ := sqc13 BK225.out; obtain ⟨hfz19_0, hfz19_1, hfz19_2, hfz19_3, hfz19_4, hfz19_5, hfz19_6, hfz19_7, hfz19_8, hfz19_9, hfz19_10, hfz19_11, hfz19_12⟩ := frozen13 BK225.out; have hnb20 := NB223_221.out; have hnc20 := NB221_223.out; have hnb21 := NB223_222.out; have hnc21 := NB222_223.out; obtain ⟨hcz22_0, hcz22_1, hcz22_2, hcz22_3, hcz22_4⟩ := sqc5 BK223.out; obtain ⟨hfz22_0, hfz22_1, hfz22_2, hfz22_3, hfz22_4⟩ := frozen5 BK223.out) | ((with_reducible refine gate_builtin (b := .append) (xs := #[.tmp 23, .tmp 37]) rfl ?_); at_builtin; refine Kd.R_append k99 (w0 := w) w.heap.size rfl (.tmp 23) (.tmp 37) 75 99 (.agg #[(.string ⟨#[]⟩), (.string ⟨#[]⟩), (.string ⟨#[]⟩), (.int .i64 0), (.int .i64 0), (.int .i64 0), (.int .i64 0), (.int .i64 0), (.int .i64 0), (.string ⟨#[]⟩), (.string ⟨#[]⟩), (.int .i64 0), (.int .i64 0)]) 144 rfl Try.underlying75 info99 rfl (by decide) (by omega) u224001 Qa1_1 (⟨(⟨(rd_T107 l0_1 x18_1).f0.f0, (rd_T107 l0_1 x18_1).f0.f1, (rd_T107 l0_1 x18_1).f0.f2, (rd_T107 l0_1 x18_1).f0.f3, (rd_T107 l0_1 x18_1).f0.f4⟩ : S81), (rd_T107 l0_1 x18_1).f1, (rd_T107 l0_1 x18_1).f2, (rd_T107 l0_1 x18_1).f3, (rd_T107 l0_1 x18_1).f4, (⟨(rd_T107 l0_1 x18_1).f5.f0, (rd_T107 l0_1 x18_1).f5.f1, (rd_T107 l0_1 x18_1).f5.f2, (rd_T107 l0_1 x18_1).f5.f3⟩ : S24)⟩ : S99) [.string ((rd_T107 l0_1 x18_1).f0.f0), .string ((rd_T107 l0_1 x18_1).f0.f1), .string ((rd_T107 l0_1 x18_1).f0.f2), .int .i64 ((rd_T107 l0_1 x18_1).f0.f3), .int .i64 ((rd_T107 l0_1 x18_1).f0.f4), .int .i64 ((rd_T107 l0_1 x18_1).f1), .int .i64 ((rd_T107 l0_1 x18_1).f2), .int .i64 ((rd_T107 l0_1 x18_1).f3), .int .i64 ((rd_T107 l0_1 x18_1).f4), .string ((rd_T107 l0_1 x18_1).f5.f0), .string ((rd_T107 l0_1 x18_1).f5.f1), .int .i64 ((rd_T107 l0_1 x18_1).f5.f2), .int .i64 ((rd_T107 l0_1 x18_1).f5.f3)] (fun k_ => (w.heap.size ≤ k_)) (fun _ => False) rfl (by first | (go_simp; done) | (go_simp; rfl)) ?aP (fun _ hk => hk.elim) ?aF ?aO ?aB ?aS ?aL ?_; (case aP => exact k99_mkM _ _ _ (⟨(⟨(rd_T107 l0_1 x18_1).f0.f0, (rd_T107 l0_1 x18_1).f0.f1, (rd_T107 l0_1 x18_1).f0.f2, (rd_T107 l0_1 x18_1).f0.f3, (rd_T107 l0_1 x18_1).f0.f4⟩ : S81), (rd_T107 l0_1 x18_1).f1, (rd_T107 l0_1 x18_1).f2, (rd_T107 l0_1 x18_1).f3, (rd_T107 l0_1 x18_1).f4, (⟨(rd_T107 l0_1 x18_1).f5.f0, (rd_T107 l0_1 x18_1).f5.f1, (rd_T107 l0_1 x18_1).f5.f2, (rd_T107 l0_1 x18_1).f5.f3⟩ : S24)⟩ : S99)); (case aB => exact t_14); (case aF => exact (fun k_ hk => (Nat.le_trans (below_size t_14) hk))); (case aO => exact (by (with_reducible repeat (first | apply Kd.R_alloc | apply Kd.R_drewN | apply Kd.R_drew)); exact Kd.R_mono (Kd.R_far (p := ⟨gb225, 12, none⟩) (Kd.R_far (p := ⟨gb225, 11, none⟩) (Kd.R_far (p := ⟨gb225, 10, none⟩) (Kd.R_far (p := ⟨gb225, 9, none⟩) (Kd.R_far (p := ⟨gb225, 8, none⟩) (Kd.R_far (p := ⟨gb225, 7, none⟩) (Kd.R_far (p := ⟨gb225, 6, none⟩) (Kd.R_far (p := ⟨gb225, 5, none⟩) (Kd.R_far (p := ⟨gb225, 4, none⟩) (Kd.R_far (p := ⟨gb225, 3, none⟩) (Kd.R_far (p := ⟨gb225, 2, none⟩) (Kd.R_far (p := ⟨gb225, 1, none⟩) (Kd.R_far (p := ⟨gb225, 0, none⟩) (Kd.R_types HO_224001.out BK225.out (by decide)) (fun _ hk => hk.2) (.string ((rd_T107 l0_1 x18_1).f0.f0))) (fun _ hk => hk.2) (.string ((rd_T107 l0_1 x18_1).f0.f1))) (fun _ hk => hk.2) (.string ((rd_T107 l0_1 x18_1).f0.f2))) (fun _ hk => hk.2) (.int .i64 ((rd_T107 l0_1 x18_1).f0.f3))) (fun _ hk => hk.2) (.int .i64 ((rd_T107 l0_1 x18_1).f0.f4))) (fun _ hk => hk.2) (.int .i64 ((rd_T107 l0_1 x18_1).f1))) (fun _ hk => hk.2) (.int .i64 ((rd_T107 l0_1 x18_1).f2))) (fun _ hk => hk.2) (.int .i64 ((rd_T107 l0_1 x18_1).f3))) (fun _ hk => hk.2) (.int .i64 ((rd_T107 l0_1 x18_1).f4))) (fun _ hk => hk.2) (.string ((rd_T107 l0_1 x18_1).f5.f0))) (fun _ hk => hk.2) (.string ((rd_T107 l0_1 x18_1).f5.f1))) (fun _ hk => hk.2) (.int .i64 ((rd_T107 l0_1 x18_1).f5.f2))) (fun _ hk => hk.2) (.int .i64 ((rd_T107 l0_1 x18_1).f5.f3))) (fun _ hk => hk.1))); (case aS => exact (below_size t_14)); (case aL => have := LMc14.out; omega); intro v227 w23 ho hb hg hat; rw [← Ny226.out] at ho; replace HO_222002 := Aside0.mk (Kd.V_afterv (ok := (fun k_ => (P0_2_ k_ ∨ w.heap.size ≤ k_) ∧ k_ ≠ gb221 ∧ k_ ≠ gb222 ∧ k_ ≠ gb223 ∧ k_ ≠ gb225)) (by (with_reducible repeat (first | apply Kd.V_alloc | apply Kd.V_drewN | apply Kd.V_drew)); exact Kd.V_mono (Kd.V_far (p := ⟨gb225, 12, none⟩) (Kd.V_far (p := ⟨gb225, 11, none⟩) (Kd.V_far (p := ⟨gb225, 10, none⟩) (Kd.V_far (p := ⟨gb225, 9, none⟩) (Kd.V_far (p := ⟨gb225, 8, none⟩) (Kd.V_far (p := ⟨gb225, 7, none⟩) (Kd.V_far (p := ⟨gb225, 6, none⟩) (Kd.V_far (p := ⟨gb225, 5, none⟩) (Kd.V_far (p := ⟨gb225, 4, none⟩) (Kd.V_far (p := ⟨gb225, 3, none⟩) (Kd.V_far (p := ⟨gb225, 2, none⟩) (Kd.V_far (p := ⟨gb225, 1, none⟩) (Kd.V_far (p := ⟨gb225, 0, none⟩) (Kd.V_mono HO_222002.out (fun k_ hk => (⟨hk, hk.2⟩ : _ ∧ k_ ≠ gb225))) (fun _ hk => hk.2) (.string ((rd_T107 l0_1 x18_1).f0.f0))) (fun _ hk => hk.2) (.string ((rd_T107 l0_1 x18_1).f0.f1))) (fun _ hk => hk.2) (.string ((rd_T107 l0_1 x18_1).f0.f2))) (fun _ hk => hk.2) (.int .i64 ((rd_T107 l0_1 x18_1).f0.f3))) (fun _ hk => hk.2) (.int .i64 ((rd_T107 l0_1 x18_1).f0.f4))) (fun _ hk => hk.2) (.int .i64 ((rd_T107 l0_1 x18_1).f1))) (fun _ hk => hk.2) (.int .i64 ((rd_T107 l0_1 x18_1).f2))) (fun _ hk => hk.2) (.int .i64 ((rd_T107 l0_1 x18_1).f3))) (fun _ hk => hk.2) (.int .i64 ((rd_T107 l0_1 x18_1).f4))) (fun _ hk => hk.2) (.string ((rd_T107 l0_1 x18_1).f5.f0))) (fun _ hk => hk.2) (.string ((rd_T107 l0_1 x18_1).f5.f1))) (fun _ hk => hk.2) (.int .i64 ((rd_T107 l0_1 x18_1).f5.f2))) (fun _ hk => hk.2) (.int .i64 ((rd_T107 l0_1 x18_1).f5.f3))) (fun _ hk => ⟨⟨hk.1.1.1, ⟨hk.1.1.2.2.1, ⟨hk.1.1.2.2.2.1, ⟨hk.1.1.2.2.2.2, hk.1.2⟩⟩⟩⟩, hk.1.1.2.1⟩)) hg hat); replace HO_224002 := Aside0.mk (Kd.V_afterv (ok := (fun k_ => (P0_2_ k_ ∨ w.heap.size ≤ k_) ∧ k_ ≠ gb221 ∧ k_ ≠ gb222 ∧ k_ ≠ gb223 ∧ k_ ≠ gb225)) (by (with_reducible repeat (first | apply Kd.V_alloc | apply Kd.V_drewN | apply Kd.V_drew)); exact Kd.V_mono (Kd.V_far (p := ⟨gb225, 12, none⟩) (Kd.V_far (p := ⟨gb225, 11, none⟩) (Kd.V_far (p := ⟨gb225, 10, none⟩) (Kd.V_far (p := ⟨gb225, 9, none⟩) (Kd.V_far (p := ⟨gb225, 8, none⟩) (Kd.V_far (p := ⟨gb225, 7, none⟩) (Kd.V_far (p := ⟨gb225, 6, none⟩) (Kd.V_far (p := ⟨gb225, 5, none⟩) (Kd.V_far (p := ⟨gb225, 4, none⟩) (Kd.V_far (p := ⟨gb225, 3, none⟩) (Kd.V_far (p := ⟨gb225, 2, none⟩) (Kd.V_far (p := ⟨gb225, 1, none⟩) (Kd.V_far (p := ⟨gb225, 0, none⟩) (Kd.V_mono HO_224002.out (fun k_ hk => (⟨hk, hk.2⟩ : _ ∧ k_ ≠ gb225))) (fun _ hk => hk.2) (.string ((rd_T107 l0_1 x18_1).f0.f0))) (fun _ hk => hk.2) (.string ((rd_T107 l0_1 x18_1).f0.f1))) (fun _ hk => hk.2) (.string ((rd_T107 l0_1 x18_1).f0.f2))) (fun _ hk => hk.2) (.int .i64 ((rd_T107 l0_1 x18_1).f0.f3))) (fun _ hk => hk.2) (.int .i64 ((rd_T107 l0_1 x18_1).f0.f4))) (fun _ hk => hk.2) (.int .i64 ((rd_T107 l0_1 x18_1).f1))) (fun _ hk => hk.2) (.int .i64 ((rd_T107 l0_1 x18_1).f2))) (fun _ hk => hk.2) (.int .i64 ((rd_T107 l0_1 x18_1).f3))) (fun _ hk => hk.2) (.int .i64 ((rd_T107 l0_1 x18_1).f4))) (fun _ hk => hk.2) (.string ((rd_T107 l0_1 x18_1).f5.f0))) (fun _ hk => hk.2) (.string ((rd_T107 l0_1 x18_1).f5.f1))) (fun _ hk => hk.2) (.int .i64 ((rd_T107 l0_1 x18_1).f5.f2))) (fun _ hk => hk.2) (.int .i64 ((rd_T107 l0_1 x18_1).f5.f3))) (fun _ hk => ⟨⟨hk.1.1.1, ⟨hk.1.1.2.2.1, ⟨hk.1.1.2.2.2.1, ⟨hk.1.1.2.2.2.2, hk.1.2⟩⟩⟩⟩, hk.1.1.2.1⟩)) hg hat); replace BK221 := Aside0.mk (blk_grown (g := gb221) (o := .cells #[.int .i64 a0_0, .slice (some ad224) l0_1.length c0_1, .slice A0_2 l0_2.length c0_2, .int .i64 a0_3, .int .i64 a0_4] 67 (0, 0)) (by (with_reducible repeat (first | refine blk_drewN ?_ _ | refine blk_drew ?_ | refine blk_alloc ?_ _)); refine blk_far ?_ NB221_225.out _; (with_reducible repeat (first | refine blk_drewN ?_ _ | refine blk_drew ?_ | refine blk_alloc ?_ _)); refine blk_far ?_ NB221_225.out _; (with_reducible repeat (first | refine blk_drewN ?_ _ | refine blk_drew ?_ | refine blk_alloc ?_ _)); refine blk_far ?_ NB221_225.out _; (with_reducible repeat (first | refine blk_drewN ?_ _ | refine blk_drew ?_ | refine blk_alloc ?_ _)); refine blk_far ?_ NB221_225.out _; (with_reducible repeat (first | refine blk_drewN ?_ _ | refine blk_drew ?_ | refine blk_alloc ?_ _)); refine blk_far ?_ NB221_225.out _; (with_reducible repeat (first | refine blk_drewN ?_ _ | refine blk_drew ?_ | refine blk_alloc ?_ _)); refine blk_far ?_ NB221_225.out _; (with_reducible repeat (first | refine blk_drewN ?_ _ | refine blk_drew ?_ | refine blk_alloc ?_ _)); refine blk_far ?_ NB221_225.out _; (with_reducible repeat (first | refine blk_drewN ?_ _ | refine blk_drew ?_ | refine blk_alloc ?_ _)); refine blk_far ?_ NB221_225.out _; (with_reducible repeat (first | refine blk_drewN ?_ _ | refine blk_drew ?_ | refine blk_alloc ?_ _)); refine blk_far ?_ NB221_225.out _; (with_reducible repeat (first | refine blk_drewN ?_ _ | refine blk_drew ?_ | refine blk_alloc ?_ _)); refine blk_far ?_ NB221_225.out _; (with_reducible repeat (first | refine blk_drewN ?_ _ | refine blk_drew ?_ | refine blk_alloc ?_ _)); refine blk_far ?_ NB221_225.out _; (with_reducible repeat (first | refine blk_drewN ?_ _ | refine blk_drew ?_ | refine blk_alloc ?_ _)); refine blk_far ?_ NB221_225.out _; (with_reducible repeat (first | refine blk_drewN ?_ _ | refine blk_drew ?_ | refine blk_alloc ?_ _)); refine blk_far ?_ NB221_225.out _; (with_reducible repeat (first | refine blk_drewN ?_ _ | refine blk_drew ?_ | refine blk_alloc ?_ _)); exact BK221.out) hg (Kd.R_ne HO_224001.out BK221.out (by decide))); replace BK222 := Aside0.mk (blk_grown (g := gb222) (o := .cells #[.int .i64 0, .slice none 0 0, .slice none 0 0, .int .i64 0, .int .i64 0] 77 (0, 0)) (by (with_reducible repeat (first | refine blk_drewN ?_ _ | refine blk_drew ?_ | refine blk_alloc ?_ _)); refine blk_far ?_ NB222_225.out _; (with_reducible repeat (first | refine blk_drewN ?_ _ | refine blk_drew ?_ | refine blk_alloc ?_ _)); refine blk_far ?_ NB222_225.out _; (with_reducible repeat (first | refine blk_drewN ?_ _ | refine blk_drew ?_ | refine blk_alloc ?_ _)); refine blk_far ?_ NB222_225.out _; (with_reducible repeat (first | refine blk_drewN ?_ _ | refine blk_drew ?_ | refine blk_alloc ?_ _)); refine blk_far ?_ NB222_225.out _; (with_reducible repeat (first | refine blk_drewN ?_ _ | refine blk_drew ?_ | refine blk_alloc ?_ _)); refine blk_far ?_ NB222_225.out _; (with_reducible repeat (first | refine blk_drewN ?_ _ | refine blk_drew ?_ | refine blk_alloc ?_ _)); refine blk_far ?_ NB222_225.out _; (with_reducible repeat (first | refine blk_drewN ?_ _ | refine blk_drew ?_ | refine blk_alloc ?_ _)); refine blk_far ?_ NB222_225.out _; (with_reducible repeat (first | refine blk_drewN ?_ _ | refine blk_drew ?_ | refine blk_alloc ?_ _)); refine blk_far ?_ NB222_225.out _; (with_reducible repeat (first | refine blk_drewN ?_ _ | refine blk_drew ?_ | refine blk_alloc ?_ _)); refine blk_far ?_ NB222_225.out _; (with_reducible repeat (first | refine blk_drewN ?_ _ | refine blk_drew ?_ | refine blk_alloc ?_ _)); refine blk_far ?_ NB222_225.out _; (with_reducible repeat (first | refine blk_drewN ?_ _ | refine blk_drew ?_ | refine blk_alloc ?_ _)); refine blk_far ?_ NB222_225.out _; (with_reducible repeat (first | refine blk_drewN ?_ _ | refine blk_drew ?_ | refine blk_alloc ?_ _)); refine blk_far ?_ NB222_225.out _; (with_reducible repeat (first | refine blk_drewN ?_ _ | refine blk_drew ?_ | refine blk_alloc ?_ _)); refine blk_far ?_ NB222_225.out _; (with_reducible repeat (first | refine blk_drewN ?_ _ | refine blk_drew ?_ | refine blk_alloc ?_ _)); exact BK222.out) hg (Kd.R_ne HO_224001.out BK222.out (by decide))); replace BK223 := Aside0.mk (blk_grown (g := gb223) (o := .cells #[.int .i64 a0_0, u224001, .slice A0_2 l0_2.length c0_2, .int .i64 a0_3, .int .i64 a0_4] 77 (0, 0)) (by (with_reducible repeat (first | refine blk_drewN ?_ _ | refine blk_drew ?_ | refine blk_alloc ?_ _)); refine blk_far ?_ NB223_225.out _; (with_reducible repeat (first | refine blk_drewN ?_ _ | refine blk_drew ?_ | refine blk_alloc ?_ _)); refine blk_far ?_ NB223_225.out _; (with_reducible repeat (first | refine blk_drewN ?_ _ | refine blk_drew ?_ | refine blk_alloc ?_ _)); refine blk_far ?_ NB223_225.out _; (with_reducible repeat (first | refine blk_drewN ?_ _ | refine blk_drew ?_ | refine blk_alloc ?_ _)); refine blk_far ?_ NB223_225.out _; (with_reducible repeat (first | refine blk_drewN ?_ _ | refine blk_drew ?_ | refine blk_alloc ?_ _)); refine blk_far ?_ NB223_225.out _; (with_reducible repeat (first | refine blk_drewN ?_ _ | refine blk_drew ?_ | refine blk_alloc ?_ _)); refine blk_far ?_ NB223_225.out _; (with_reducible repeat (first | refine blk_drewN ?_ _ | refine blk_drew ?_ | refine blk_alloc ?_ _)); refine blk_far ?_ NB223_225.out _; (with_reducible repeat (first | refine blk_drewN ?_ _ | refine blk_drew ?_ | refine blk_alloc ?_ _)); refine blk_far ?_ NB223_225.out _; (with_reducible repeat (first | refine blk_drewN ?_ _ | refine blk_drew ?_ | refine blk_alloc ?_ _)); refine blk_far ?_ NB223_225.out _; (with_reducible repeat (first | refine blk_drewN ?_ _ | refine blk_drew ?_ | refine blk_alloc ?_ _)); refine blk_far ?_ NB223_225.out _; (with_reducible repeat (first | refine blk_drewN ?_ _ | refine blk_drew ?_ | refine blk_alloc ?_ _)); refine blk_far ?_ NB223_225.out _; (with_reducible repeat (first | refine blk_drewN ?_ _ | refine blk_drew ?_ | refine blk_alloc ?_ _)); refine blk_far ?_ NB223_225.out _; (with_reducible repeat (first | refine blk_drewN ?_ _ | refine blk_drew ?_ | refine blk_alloc ?_ _)); refine blk_far ?_ NB223_225.out _; (with_reducible repeat (first | refine blk_drewN ?_ _ | refine blk_drew ?_ | refine blk_alloc ?_ _)); exact BK223.out) hg (Kd.R_ne HO_224001.out BK223.out (by decide))); replace BK225 := Aside0.mk (blk_grown (g := gb225) (o := .cells #[.string ((rd_T107 l0_1 x18_1).f0.f0), .string ((rd_T107 l0_1 x18_1).f0.f1), .string ((rd_T107 l0_1 x18_1).f0.f2), .int .i64 ((rd_T107 l0_1 x18_1).f0.f3), .int .i64 ((rd_T107 l0_1 x18_1).f0.f4), .int .i64 ((rd_T107 l0_1 x18_1).f1), .int .i64 ((rd_T107 l0_1 x18_1).f2), .int .i64 ((rd_T107 l0_1 x18_1).f3), .int .i64 ((rd_T107 l0_1 x18_1).f4), .string ((rd_T107 l0_1 x18_1).f5.f0), .string ((rd_T107 l0_1 x18_1).f5.f1), .int .i64 ((rd_T107 l0_1 x18_1).f5.f2), .int .i64 ((rd_T107 l0_1 x18_1).f5.f3)] 107 (0, 0)) (by (with_reducible repeat (first | refine blk_drewN ?_ _ | refine blk_drew ?_ | refine blk_alloc ?_ _)); apply put13; (with_reducible repeat (first | refine blk_drewN ?_ _ | refine blk_drew ?_ | refine blk_alloc ?_ _)); exact BK225.out) hg (Kd.R_ne HO_224001.out BK225.out (by decide))); replace HB := Aside0.mk (hb); have HO228 := Aside0.mk (ho); clear HO_224001; clear ho hb hg hat; obtain ⟨Ao24, co24, eo24⟩ := Kd.R_slice HO228.out; subst eo24; obtain ⟨hcz25_0, hcz25_1, hcz25_2, hcz25_3, hcz25_4⟩ := sqc5 BK223.out; obtain ⟨hfz25_0, hfz25_1, hfz25_2, hfz25_3, hfz25_4⟩ := frozen5 BK223.out))
       go_roundg k1
       case measure => have := HK1.out; omega
       case rel => exact ⟨(wrap64 (x18_1 + 1)), (y226), (.slice Ao24 y226.length co24), t_7f, H', ⟨t_87⟩, ⟨by (with_reducible repeat (first | apply Kd.V_alloc | apply Kd.V_drewN | apply Kd.V_drew)); exact Kd.V_mono (Kd.V_far (p := ⟨gb223, 1, none⟩) (Kd.V_mono HO_222002.out (fun k_ hk => (⟨hk, hk.1.2.2.2.1⟩ : _ ∧ k_ ≠ gb223))) (fun _ hk => hk.2) (.slice Ao24 y226.length co24)) (fun _ hk => ⟨hk.1.1.1, ⟨hk.1.2, ⟨hk.1.1.2.1, ⟨hk.1.1.2.2.1, hk.1.1.2.2.2.1⟩⟩⟩⟩)⟩, ⟨by (with_reducible repeat (first | apply Kd.R_alloc | apply Kd.R_drewN | apply Kd.R_drew)); exact Kd.R_mono (Kd.R_far (p := ⟨gb223, 1, none⟩) (Kd.R_types HO228.out BK223.out (by decide)) (fun _ hk => hk.2) (.slice Ao24 y226.length co24)) (fun _ hk => hk.1)⟩, ⟨by (with_reducible repeat (first | apply Kd.V_alloc | apply Kd.V_drewN | apply Kd.V_drew)); exact Kd.V_mono (Kd.V_far (p := ⟨gb223, 1, none⟩) (Kd.V_mono HO_224002.out (fun k_ hk => (⟨hk, hk.1.2.2.2.1⟩ : _ ∧ k_ ≠ gb223))) (fun _ hk => hk.2) (.slice Ao24 y226.length co24)) (fun _ hk => ⟨hk.1.1.1, ⟨hk.1.2, ⟨hk.1.1.2.1, ⟨hk.1.1.2.2.1, hk.1.1.2.2.2.1⟩⟩⟩⟩)⟩, ⟨by (with_reducible repeat (first | refine blk_drewN ?_ _ | refine blk_drew ?_ | refine blk_alloc ?_ _)); refine blk_far ?_ NB221_223.out _; (with_reducible repeat (first | refine blk_drewN ?_ _ | refine blk_drew ?_ | refine blk_alloc ?_ _)); exact BK221.out⟩, ⟨by (with_reducible repeat (first | refine blk_drewN ?_ _ | refine blk_drew ?_ | refine blk_alloc ?_ _)); refine blk_far ?_ NB222_223.out _; (with_reducible repeat (first | refine blk_drewN ?_ _ | refine blk_drew ?_ | refine blk_alloc ?_ _)); exact BK222.out⟩, ⟨by (with_reducible repeat (first | refine blk_drewN ?_ _ | refine blk_drew ?_ | refine blk_alloc ?_ _)); refine blk_put (cs := #[.int .i64 a0_0, u224001, .slice A0_2 l0_2.length c0_2, .int .i64 a0_3, .int .i64 a0_4]) ?_ 1 _ rfl; (with_reducible repeat (first | refine blk_drewN ?_ _ | refine blk_drew ?_ | refine blk_alloc ?_ _)); exact BK223.out⟩, ⟨t_14⟩⟩
      ·rw [if_neg c14] at H
       exact absurd H (by simp)
     ·rw [if_neg c13] at H
      exact absurd H (by simp)
    ·rw [if_neg c12] at H
     exact absurd H (by simp)
   ·rw [if_neg c11] at H
    have c11b0 : decide (x18_1 < (l0_1.length : Int)) = false := decide_eq_false c11
    clear c11
    simp only [Option.some.injEq, Prod.mk.injEq] at H
    obtain ⟨rfl, rfl, rfl, rfl, rfl⟩ := H
    have hnb26 := NB223_221.out
    have hnc26 := NB221_223.out
    have hnb27 := NB223_222.out
    have hnc27 := NB222_223.out
    obtain ⟨hcz28_0, hcz28_1, hcz28_2, hcz28_3, hcz28_4⟩ := cz5 BK223.out
    obtain ⟨hfz28_0, hfz28_1, hfz28_2, hfz28_3, hfz28_4⟩ := fz5 BK223.out
    have hnb29 := NB222_221.out
    have hnc29 := NB221_222.out
    obtain ⟨hcz30_0, hcz30_1, hcz30_2, hcz30_3, hcz30_4⟩ := cz5 BK222.out
    obtain ⟨hfz30_0, hfz30_1, hfz30_2, hfz30_3, hfz30_4⟩ := fz5 BK222.out
    obtain ⟨Ao31, co31, eo31⟩ := Kd.R_slice HO_224001.out
    subst eo31
    go_wp2_with (first | (with_reducible refine gate_load (T := 107) rfl ?_; refine ev_load 12 rfl rfl Try.underlying107 rfl t_8e ?hx ?h0 ?hr ?_; (case hx => first | rfl | (go_simp; done) | (go_simp; rfl)); (case h0 => first | assumption | (go_simp; done)); (case hr => repeat first | exact cn | (refine cc t_83 ?_))))
    refine bodyPost_ret (results_cell_row rfl _ _ gb222 77 #[.int .i64 a0_0, .slice Ao31 Qa1_1.length co31, .slice A0_2 l0_2.length c0_2, .int .i64 a0_3, .int .i64 a0_4] (0, 0) _ rfl (by (with_reducible repeat (first | refine blk_drewN ?_ _ | refine blk_drew ?_ | refine blk_alloc ?_ _)); apply put5; (with_reducible repeat (first | refine blk_drewN ?_ _ | refine blk_drew ?_ | refine blk_alloc ?_ _)); exact BK222.out) Try.underlying77 rfl t_8e) rfl ?_
    exact ⟨_, _, t_68, by (with_reducible repeat (first | apply Kd.R_alloc | apply Kd.R_drewN | apply Kd.R_drew)); exact Kd.R_mono (Kd.R_far (p := ⟨gb222, 4, none⟩) (Kd.R_far (p := ⟨gb222, 3, none⟩) (Kd.R_far (p := ⟨gb222, 2, none⟩) (Kd.R_far (p := ⟨gb222, 1, none⟩) (Kd.R_far (p := ⟨gb222, 0, none⟩) (Kd.R_types HO_224001.out BK222.out (by decide)) (fun _ hk => hk.2) (.int .i64 a0_0)) (fun _ hk => hk.2) (.slice Ao31 Qa1_1.length co31)) (fun _ hk => hk.2) (.slice A0_2 l0_2.length c0_2)) (fun _ hk => hk.2) (.int .i64 a0_3)) (fun _ hk => hk.2) (.int .i64 a0_4)) (fun _ hk => hk.1), by (with_reducible repeat (first | apply Kd.V_alloc | apply Kd.V_drewN | apply Kd.V_drew)); exact Kd.V_mono (Kd.V_far (p := ⟨gb222, 4, none⟩) (Kd.V_far (p := ⟨gb222, 3, none⟩) (Kd.V_far (p := ⟨gb222, 2, none⟩) (Kd.V_far (p := ⟨gb222, 1, none⟩) (Kd.V_far (p := ⟨gb222, 0, none⟩) (Kd.V_mono HO_224002.out (fun k_ hk => (⟨hk, hk.2.2.2.1⟩ : _ ∧ k_ ≠ gb222))) (fun _ hk => hk.2) (.int .i64 a0_0)) (fun _ hk => hk.2) (.slice Ao31 Qa1_1.length co31)) (fun _ hk => hk.2) (.slice A0_2 l0_2.length c0_2)) (fun _ hk => hk.2) (.int .i64 a0_3)) (fun _ hk => hk.2) (.int .i64 a0_4)) (fun _ hk => ⟨hk.1.1, hk.1.2.1⟩), t_1a⟩

/-! ### culetlaw54_event: function 39 -/
def culetlaw54_event.f (a0_0 : Int) (a0_1 : Int) (a0_2 : ByteArray) (a0_3 : ByteArray) (a0_4 : ByteArray) (a0_5 : Int) (a0_6 : Int) (a0_7 : ByteArray) (a0_8 : Int) : Option (Int × Int × ByteArray × ByteArray × ByteArray × Int × Int × ByteArray × Int) := some (a0_0, a0_1, a0_2, a0_3, a0_4, a0_5, a0_6, a0_7, a0_8)
set_option maxHeartbeats 8000000 in
set_option maxRecDepth 100000 in
theorem culetlaw54_event.calls (a0_0 : Int) (a0_1 : Int) (a0_2 : ByteArray) (a0_3 : ByteArray) (a0_4 : ByteArray) (a0_5 : Int) (a0_6 : Int) (a0_7 : ByteArray) (a0_8 : Int) (r1 : Int) (r2 : Int) (r3 : ByteArray) (r4 : ByteArray) (r5 : ByteArray) (r6 : Int) (r7 : Int) (r8 : ByteArray) (r9 : Int) (w : World) (h : culetlaw54_event.f a0_0 a0_1 a0_2 a0_3 a0_4 a0_5 a0_6 a0_7 a0_8 = some (r1, r2, r3, r4, r5, r6, r7, r8, r9)) :
  Calls Try.prog 39 #[.agg #[.int .i64 a0_0, .int .i64 a0_1, .string a0_2, .string a0_3, .string a0_4, .int .i64 a0_5, .int .i64 a0_6, .string a0_7, .int .i64 a0_8]] w fun e w' => e = .returned (.agg #[.int .i64 r1, .int .i64 r2, .string r3, .string r4, .string r5, .int .i64 r6, .int .i64 r7, .string r8, .int .i64 r9]) ∧ Below w.heap.size w w' := by
 have hu71 := Try.underlying71
 have hu83 := Try.underlying83
 have hu69 := Try.underlying69
 have HB := Aside0.mk (Below.refl w.heap.size w)
 have H : (some (a0_0, a0_1, a0_2, a0_3, a0_4, a0_5, a0_6, a0_7, a0_8)) = some (r1, r2, r3, r4, r5, r6, r7, r8, r9) := h
 clear h
 simp only [Option.some.injEq, Prod.mk.injEq] at H
 obtain ⟨rfl, rfl, rfl, rfl, rfl, rfl, rfl, rfl, rfl⟩ := H
 go_enter Try.func39, Try.ntmps39
 go_wp2_with (first | ((with_reducible refine gate_dst (N := 1) rfl ?_); refine bx_ (N := 1) (cs := #[.int .i64 a0_0, .int .i64 a0_1, .string a0_2, .string a0_3, .string a0_4, .int .i64 a0_5, .int .i64 a0_6, .string a0_7, .int .i64 a0_8]) (t := 71) ?_; intro gb229 hg w2 hbox hb; have BK229 := Aside0.mk (hbox); have GW229 := Aside0.mk ((by rw [hg]; exact (below_size (bb HB.out)) : w.heap.size ≤ gb229)); have GE229 := Aside0.mk ((by rw [hg]; exact (below_size (bb HB.out)) : w.heap.size ≤ gb229)); replace HB := Aside0.mk (below_step (bb HB.out) hb); clear hb hbox hg) | ((with_reducible refine gate_dst (N := 2) rfl ?_); refine bx_ (N := 2) (cs := #[.int .i64 0, .int .i64 0, .string (⟨#[]⟩ : ByteArray), .string (⟨#[]⟩ : ByteArray), .string (⟨#[]⟩ : ByteArray), .int .i64 0, .int .i64 0, .string (⟨#[]⟩ : ByteArray), .int .i64 0]) (t := 83) ?_; intro gb230 hg w3 hbox hb; have BK230 := Aside0.mk (hbox); have GW230 := Aside0.mk ((by rw [hg]; exact (below_size t_3a) : w.heap.size ≤ gb230)); have GE230 := Aside0.mk ((by rw [hg]; exact (below_size t_3a) : w.heap.size ≤ gb230)); replace HB := Aside0.mk (below_step t_3a hb); have NB229_230 := nl hg BK229; have NB230_229 := ng hg BK229; replace BK229 := kc BK229 hb; clear hb hbox hg; have hnb4 := NB229_230.out; have hnc4 := NB230_229.out; obtain ⟨hcz5_0, hcz5_1, hcz5_2, hcz5_3, hcz5_4, hcz5_5, hcz5_6, hcz5_7, hcz5_8⟩ := sqc9 BK229.out; obtain ⟨hfz5_0, hfz5_1, hfz5_2, hfz5_3, hfz5_4, hfz5_5, hfz5_6, hfz5_7, hfz5_8⟩ := frozen9 BK229.out; obtain ⟨hcz6_0, hcz6_1, hcz6_2, hcz6_3, hcz6_4, hcz6_5, hcz6_6, hcz6_7, hcz6_8⟩ := sqc9 BK230.out; obtain ⟨hfz6_0, hfz6_1, hfz6_2, hfz6_3, hfz6_4, hfz6_5, hfz6_6, hfz6_7, hfz6_8⟩ := frozen9 BK230.out))
 refine bodyPost_ret (results_cell_row rfl _ _ gb230 83 #[.int .i64 a0_0, .int .i64 a0_1, .string a0_2, .string a0_3, .string a0_4, .int .i64 a0_5, .int .i64 a0_6, .string a0_7, .int .i64 a0_8] (0, 0) _ rfl (by (with_reducible repeat (first | refine blk_drewN ?_ _ | refine blk_drew ?_ | refine blk_alloc ?_ _)); apply put9; (with_reducible repeat (first | refine blk_drewN ?_ _ | refine blk_drew ?_ | refine blk_alloc ?_ _)); exact BK230.out) Try.underlying83 rfl t_8e) rfl ?_
 exact ⟨t_68, by repeat (first | (with_reducible first | exact HB.out | apply below_alloc | apply pw_below_drewN | apply below_drew1 | refine below_set ?_ GE229.out | refine below_set ?_ GE230.out) | exact HB.out)⟩

/-! ### job_Item_98: function 98 -/
def job_Item_98.l0 : Nat → List (S99) → List (S99) → Int → Int → Option (Bool)
 | 0, _, _, _, _ => none
 | k + 1, x0, x1, x12, x13 => if x13 < x12 then (if 0 ≤ x13 then (if x13 < (x0.length : Int) then (if x13 < (x1.length : Int) then (if ((!((((rd_T99 x0 x13).f0.f0).toList) == (((rd_T99 x1 x13).f0.f0).toList)) || (!((((rd_T99 x0 x13).f0.f1).toList) == (((rd_T99 x1 x13).f0.f1).toList)) || (!((((rd_T99 x0 x13).f0.f2).toList) == (((rd_T99 x1 x13).f0.f2).toList)) || (!(((rd_T99 x0 x13).f0.f3) == ((rd_T99 x1 x13).f0.f3)) || (!(((rd_T99 x0 x13).f0.f4) == ((rd_T99 x1 x13).f0.f4))))))) || (!(((rd_T99 x0 x13).f1) == ((rd_T99 x1 x13).f1)) || (!(((rd_T99 x0 x13).f2) == ((rd_T99 x1 x13).f2)) || (!(((rd_T99 x0 x13).f3) == ((rd_T99 x1 x13).f3)) || (!(((rd_T99 x0 x13).f4) == ((rd_T99 x1 x13).f4)) || ((!((((rd_T99 x0 x13).f5.f0).toList) == (((rd_T99 x1 x13).f5.f0).toList)) || (!((((rd_T99 x0 x13).f5.f1).toList) == (((rd_T99 x1 x13).f5.f1).toList)) || (!(((rd_T99 x0 x13).f5.f2) == ((rd_T99 x1 x13).f5.f2)) || (!(((rd_T99 x0 x13).f5.f3) == ((rd_T99 x1 x13).f5.f3)))))))))))) = true then (some false) else (job_Item_98.l0 k x0 x1 x12 (wrap64 (x13 + 1)))) else (none)) else (none)) else (none)) else (some true)
def job_Item_98.f (k : Nat) (l0 : List (S99)) (l1 : List (S99)) : Option (Bool) := if (l0.length : Int) = (l1.length : Int) then (job_Item_98.l0 k l0 l1 (l0.length : Int) 0) else (some false)
set_option maxHeartbeats 8000000 in
set_option maxRecDepth 100000 in
theorem job_Item_98.calls (k : Nat) (A0 : Option Addr) (c0 : Nat) (l0 : List (S99)) (A1 : Option Addr) (c1 : Nat) (l1 : List (S99)) (r : Bool) (w : World) (hr0 : Kd.C k99 w A0 l0.length l0) (hc0 : l0.length ≤ c0) (hr1 : Kd.C k99 w A1 l1.length l1) (hc1 : l1.length ≤ c1) (h : job_Item_98.f k l0 l1 = some r) :
  Calls Try.prog 98 #[.slice A0 l0.length c0, .slice A1 l1.length c1] w fun e w' => e = .returned (.bool r) ∧ Drawn0 w w' := by
 have hu99 := Try.underlying99
 have HR0 := Aside0.mk hr0
 have HC0 := Aside0.mk hc0
 clear hr0 hc0
 have HR1 := Aside0.mk hr1
 have HC1 := Aside0.mk hc1
 clear hr1 hc1
 have H : (if (l0.length : Int) = (l1.length : Int) then (job_Item_98.l0 k l0 l1 (l0.length : Int) 0) else (some false)) = some r := h
 clear h
 by_cases c3 : (l0.length : Int) = (l1.length : Int)
 ·rw [if_pos c3] at H
  have c3b0 : ((l0.length : Int) == (l1.length : Int)) = true := beq_iff_eq.mpr c3
  have c3b1 : ((l0.length : Int) != (l1.length : Int)) = false := bne_eq_false_iff_eq.mpr c3
  have c3b2 : (l0.length == l1.length) = true := by first | simpa using c3 | (simp at c3 ⊢; omega)
  clear c3
  have H' := Aside0.mk H
  clear H
  go_enter Try.func98, Try.ntmps98
  go_wp2_with (first | (with_reducible refine gate_load (T := 99) rfl ?_; refine ev_load 12 rfl rfl Try.underlying99 rfl t_8e ?hx ?h0 ?hr ?_; (case hx => first | rfl | (go_simp; done) | (go_simp; rfl)); (case h0 => first | assumption | (go_simp; done)); (case hr => repeat first | exact cn | (refine cc t_83 ?_))))
  repeat (go_quiet (fail); try go_wp2_with (first | (with_reducible refine gate_load (T := 99) rfl ?_; refine ev_load 12 rfl rfl Try.underlying99 rfl t_8e ?hx ?h0 ?hr ?_; (case hx => first | rfl | (go_simp; done) | (go_simp; rfl)); (case h0 => first | assumption | (go_simp; done)); (case hr => repeat first | exact cn | (refine cc t_83 ?_)))))
  go_loopg [13] k (fun kq v13 w' => ∃ (x13_1 : Int), v13 = .int .i64 x13_1 ∧ Aside0 (job_Item_98.l0 kq l0 l1 (l0.length : Int) x13_1 = some r) ∧ Aside0 (kq ≤ k) ∧ Drawn0 w w')
  case atStart => exact ⟨(0), t_7f, H', ⟨Nat.le_refl _⟩, t_72⟩
  case round =>
   clear H'
   try clear c1
   try clear p2
   try clear c3
   try clear c3b0
   try clear c3b1
   try clear c3b2
   obtain ⟨x13_1, rfl, HA, HK1, ⟨m1, rfl⟩⟩ := hrel
   cases gk with
   | zero => exact absurd HA.out (by simp [job_Item_98.l0])
   | succ k1 =>
    have H := HA.out
    clear HA
    simp only [job_Item_98.l0] at H
    by_cases c4 : x13_1 < (l0.length : Int)
    ·rw [if_pos c4] at H
     have c4b0 : decide (x13_1 < (l0.length : Int)) = true := decide_eq_true c4
     clear c4
     by_cases c5 : 0 ≤ x13_1
     ·rw [if_pos c5] at H
      have c5b0 : decide (0 ≤ x13_1) = true := decide_eq_true c5
      clear c5
      by_cases c6 : x13_1 < (l0.length : Int)
      ·rw [if_pos c6] at H
       have c6b0 : decide (x13_1 < (l0.length : Int)) = true := decide_eq_true c6
       clear c6
       by_cases c7 : x13_1 < (l1.length : Int)
       ·rw [if_pos c7] at H
        have c7b0 : decide (x13_1 < (l1.length : Int)) = true := decide_eq_true c7
        clear c7
        by_cases c8 : ((!((((rd_T99 l0 x13_1).f0.f0).toList) == (((rd_T99 l1 x13_1).f0.f0).toList)) || (!((((rd_T99 l0 x13_1).f0.f1).toList) == (((rd_T99 l1 x13_1).f0.f1).toList)) || (!((((rd_T99 l0 x13_1).f0.f2).toList) == (((rd_T99 l1 x13_1).f0.f2).toList)) || (!(((rd_T99 l0 x13_1).f0.f3) == ((rd_T99 l1 x13_1).f0.f3)) || (!(((rd_T99 l0 x13_1).f0.f4) == ((rd_T99 l1 x13_1).f0.f4))))))) || (!(((rd_T99 l0 x13_1).f1) == ((rd_T99 l1 x13_1).f1)) || (!(((rd_T99 l0 x13_1).f2) == ((rd_T99 l1 x13_1).f2)) || (!(((rd_T99 l0 x13_1).f3) == ((rd_T99 l1 x13_1).f3)) || (!(((rd_T99 l0 x13_1).f4) == ((rd_T99 l1 x13_1).f4)) || ((!((((rd_T99 l0 x13_1).f5.f0).toList) == (((rd_T99 l1 x13_1).f5.f0).toList)) || (!((((rd_T99 l0 x13_1).f5.f1).toList) == (((rd_T99 l1 x13_1).f5.f1).toList)) || (!(((rd_T99 l0 x13_1).f5.f2) == ((rd_T99 l1 x13_1).f5.f2)) || (!(((rd_T99 l0 x13_1).f5.f3) == ((rd_T99 l1 x13_1).f5.f3)))))))))))) = true
        ·rw [if_pos c8] at H
         have c8b0 : ((!((((rd_T99 l0 x13_1).f0.f0).toList) == (((rd_T99 l1 x13_1).f0.f0).toList)) || (!((((rd_T99 l0 x13_1).f0.f1).toList) == (((rd_T99 l1 x13_1).f0.f1).toList)) || (!((((rd_T99 l0 x13_1).f0.f2).toList) == (((rd_T99 l1 x13_1).f0.f2).toList)) || (!(((rd_T99 l0 x13_1).f0.f3) == ((rd_T99 l1 x13_1).f0.f3)) || (!(((rd_T99 l0 x13_1).f0.f4) == ((rd_T99 l1 x13_1).f0.f4))))))) || (!(((rd_T99 l0 x13_1).f1) == ((rd_T99 l1 x13_1).f1)) || (!(((rd_T99 l0 x13_1).f2) == ((rd_T99 l1 x13_1).f2)) || (!(((rd_T99 l0 x13_1).f3) == ((rd_T99 l1 x13_1).f3)) || (!(((rd_T99 l0 x13_1).f4) == ((rd_T99 l1 x13_1).f4)) || ((!((((rd_T99 l0 x13_1).f5.f0).toList) == (((rd_T99 l1 x13_1).f5.f0).toList)) || (!((((rd_T99 l0 x13_1).f5.f1).toList) == (((rd_T99 l1 x13_1).f5.f1).toList)) || (!(((rd_T99 l0 x13_1).f5.f2) == ((rd_T99 l1 x13_1).f5.f2)) || (!(((rd_T99 l0 x13_1).f5.f3) == ((rd_T99 l1 x13_1).f5.f3)))))))))))) = true := c8
         clear c8
         obtain rfl := Option.some.inj H
         have p231 : 0 ≤ (x13_1 : Int) := of_decide_eq_true t_7d
         have q231 : x13_1 < (l0.length : Int) := of_decide_eq_true t_7d
         obtain ⟨ad231, e231, hx231_0, hx231_1, hx231_2, hx231_3, hx231_4, hx231_5, hx231_6, hx231_7, hx231_8, hx231_9, hx231_10, hx231_11, hx231_12⟩ := at_T99 HR0.out x13_1 p231 q231
         cases e231
         replace p231 := eq_true p231
         replace q231 := eq_true q231
         have p232 : 0 ≤ (x13_1 : Int) := of_decide_eq_true t_7d
         have q232 : x13_1 < (l1.length : Int) := of_decide_eq_true t_7d
         obtain ⟨ad232, e232, hx232_0, hx232_1, hx232_2, hx232_3, hx232_4, hx232_5, hx232_6, hx232_7, hx232_8, hx232_9, hx232_10, hx232_11, hx232_12⟩ := at_T99 HR1.out x13_1 p232 q232
         cases e232
         replace p232 := eq_true p232
         replace q232 := eq_true q232
         go_wp2_with (first | (with_reducible refine gate_load (T := 99) rfl ?_; refine ev_load 12 rfl rfl Try.underlying99 rfl t_8e ?hx ?h0 ?hr ?_; (case hx => first | rfl | (go_simp; done) | (go_simp; rfl)); (case h0 => first | assumption | (go_simp; done)); (case hr => repeat first | exact cn | (refine cc t_83 ?_))))
         repeat (go_quiet (fail); try go_wp2_with (first | (with_reducible refine gate_load (T := 99) rfl ?_; refine ev_load 12 rfl rfl Try.underlying99 rfl t_8e ?hx ?h0 ?hr ?_; (case hx => first | rfl | (go_simp; done) | (go_simp; rfl)); (case h0 => first | assumption | (go_simp; done)); (case hr => repeat first | exact cn | (refine cc t_83 ?_)))))
         go_ret
         exact ⟨t_7f, t_72⟩
        ·rw [if_neg c8] at H
         have c8b0 : ((!((((rd_T99 l0 x13_1).f0.f0).toList) == (((rd_T99 l1 x13_1).f0.f0).toList)) || (!((((rd_T99 l0 x13_1).f0.f1).toList) == (((rd_T99 l1 x13_1).f0.f1).toList)) || (!((((rd_T99 l0 x13_1).f0.f2).toList) == (((rd_T99 l1 x13_1).f0.f2).toList)) || (!(((rd_T99 l0 x13_1).f0.f3) == ((rd_T99 l1 x13_1).f0.f3)) || (!(((rd_T99 l0 x13_1).f0.f4) == ((rd_T99 l1 x13_1).f0.f4))))))) || (!(((rd_T99 l0 x13_1).f1) == ((rd_T99 l1 x13_1).f1)) || (!(((rd_T99 l0 x13_1).f2) == ((rd_T99 l1 x13_1).f2)) || (!(((rd_T99 l0 x13_1).f3) == ((rd_T99 l1 x13_1).f3)) || (!(((rd_T99 l0 x13_1).f4) == ((rd_T99 l1 x13_1).f4)) || ((!((((rd_T99 l0 x13_1).f5.f0).toList) == (((rd_T99 l1 x13_1).f5.f0).toList)) || (!((((rd_T99 l0 x13_1).f5.f1).toList) == (((rd_T99 l1 x13_1).f5.f1).toList)) || (!(((rd_T99 l0 x13_1).f5.f2) == ((rd_T99 l1 x13_1).f5.f2)) || (!(((rd_T99 l0 x13_1).f5.f3) == ((rd_T99 l1 x13_1).f5.f3)))))))))))) = false := by simpa using c8
         clear c8
         have H' := Aside0.mk H
         clear H
         have p231 : 0 ≤ (x13_1 : Int) := of_decide_eq_true t_7d
         have q231 : x13_1 < (l0.length : Int) := of_decide_eq_true t_7d
         obtain ⟨ad231, e231, hx231_0, hx231_1, hx231_2, hx231_3, hx231_4, hx231_5, hx231_6, hx231_7, hx231_8, hx231_9, hx231_10, hx231_11, hx231_12⟩ := at_T99 HR0.out x13_1 p231 q231
         cases e231
         replace p231 := eq_true p231
         replace q231 := eq_true q231
         have p232 : 0 ≤ (x13_1 : Int) := of_decide_eq_true t_7d
         have q232 : x13_1 < (l1.length : Int) := of_decide_eq_true t_7d
         obtain ⟨ad232, e232, hx232_0, hx232_1, hx232_2, hx232_3, hx232_4, hx232_5, hx232_6, hx232_7, hx232_8, hx232_9, hx232_10, hx232_11, hx232_12⟩ := at_T99 HR1.out x13_1 p232 q232
         cases e232
         replace p232 := eq_true p232
         replace q232 := eq_true q232
         go_wp2_with (first | (with_reducible refine gate_load (T := 99) rfl ?_; refine ev_load 12 rfl rfl Try.underlying99 rfl t_8e ?hx ?h0 ?hr ?_; (case hx => first | rfl | (go_simp; done) | (go_simp; rfl)); (case h0 => first | assumption | (go_simp; done)); (case hr => repeat first | exact cn | (refine cc t_83 ?_))))
         repeat (go_quiet (fail); try go_wp2_with (first | (with_reducible refine gate_load (T := 99) rfl ?_; refine ev_load 12 rfl rfl Try.underlying99 rfl t_8e ?hx ?h0 ?hr ?_; (case hx => first | rfl | (go_simp; done) | (go_simp; rfl)); (case h0 => first | assumption | (go_simp; done)); (case hr => repeat first | exact cn | (refine cc t_83 ?_)))))
         go_roundg k1
         case measure => have := HK1.out; omega
         case rel => exact ⟨(wrap64 (x13_1 + 1)), t_7f, H', ⟨t_87⟩, t_72⟩
       ·rw [if_neg c7] at H
        exact absurd H (by simp)
      ·rw [if_neg c6] at H
       exact absurd H (by simp)
     ·rw [if_neg c5] at H
      exact absurd H (by simp)
    ·rw [if_neg c4] at H
     have c4b0 : decide (x13_1 < (l0.length : Int)) = false := decide_eq_false c4
     clear c4
     obtain rfl := Option.some.inj H
     go_wp2_with (first | (with_reducible refine gate_load (T := 99) rfl ?_; refine ev_load 12 rfl rfl Try.underlying99 rfl t_8e ?hx ?h0 ?hr ?_; (case hx => first | rfl | (go_simp; done) | (go_simp; rfl)); (case h0 => first | assumption | (go_simp; done)); (case hr => repeat first | exact cn | (refine cc t_83 ?_))))
     repeat (go_quiet (fail); try go_wp2_with (first | (with_reducible refine gate_load (T := 99) rfl ?_; refine ev_load 12 rfl rfl Try.underlying99 rfl t_8e ?hx ?h0 ?hr ?_; (case hx => first | rfl | (go_simp; done) | (go_simp; rfl)); (case h0 => first | assumption | (go_simp; done)); (case hr => repeat first | exact cn | (refine cc t_83 ?_)))))
     go_ret
     exact ⟨t_7f, t_72⟩
 ·rw [if_neg c3] at H
  have c3b0 : ((l0.length : Int) == (l1.length : Int)) = false := beq_eq_false_iff_ne.mpr c3
  have c3b1 : ((l0.length : Int) != (l1.length : Int)) = true := bne_iff_ne.mpr c3
  have c3b2 : (l0.length == l1.length) = false := by first | simpa using c3 | (simp at c3 ⊢; omega)
  obtain rfl := Option.some.inj H
  go_enter Try.func98, Try.ntmps98
  go_wp2_with (first | (with_reducible refine gate_load (T := 99) rfl ?_; refine ev_load 12 rfl rfl Try.underlying99 rfl t_8e ?hx ?h0 ?hr ?_; (case hx => first | rfl | (go_simp; done) | (go_simp; rfl)); (case h0 => first | assumption | (go_simp; done)); (case hr => repeat first | exact cn | (refine cc t_83 ?_))))
  repeat (go_quiet (fail); try go_wp2_with (first | (with_reducible refine gate_load (T := 99) rfl ?_; refine ev_load 12 rfl rfl Try.underlying99 rfl t_8e ?hx ?h0 ?hr ?_; (case hx => first | rfl | (go_simp; done) | (go_simp; rfl)); (case h0 => first | assumption | (go_simp; done)); (case hr => repeat first | exact cn | (refine cc t_83 ?_)))))
  go_ret
  exact ⟨t_7f, t_72⟩

/-! ### api_Piece_99: function 99 -/
def api_Piece_99.l0 : Nat → List (S24) → List (S24) → Int → Int → Option (Bool)
 | 0, _, _, _, _ => none
 | k + 1, x0, x1, x12, x13 => if x13 < x12 then (if 0 ≤ x13 then (if x13 < (x0.length : Int) then (if x13 < (x1.length : Int) then (if (!((((rd_T24 x0 x13).f0).toList) == (((rd_T24 x1 x13).f0).toList)) || (!((((rd_T24 x0 x13).f1).toList) == (((rd_T24 x1 x13).f1).toList)) || (!(((rd_T24 x0 x13).f2) == ((rd_T24 x1 x13).f2)) || (!(((rd_T24 x0 x13).f3) == ((rd_T24 x1 x13).f3)))))) = true then (some false) else (api_Piece_99.l0 k x0 x1 x12 (wrap64 (x13 + 1)))) else (none)) else (none)) else (none)) else (some true)
def api_Piece_99.f (k : Nat) (l0 : List (S24)) (l1 : List (S24)) : Option (Bool) := if (l0.length : Int) = (l1.length : Int) then (api_Piece_99.l0 k l0 l1 (l0.length : Int) 0) else (some false)
set_option maxHeartbeats 8000000 in
set_option maxRecDepth 100000 in
theorem api_Piece_99.calls (k : Nat) (A0 : Option Addr) (c0 : Nat) (l0 : List (S24)) (A1 : Option Addr) (c1 : Nat) (l1 : List (S24)) (r : Bool) (w : World) (hr0 : Kd.C k24 w A0 l0.length l0) (hc0 : l0.length ≤ c0) (hr1 : Kd.C k24 w A1 l1.length l1) (hc1 : l1.length ≤ c1) (h : api_Piece_99.f k l0 l1 = some r) :
  Calls Try.prog 99 #[.slice A0 l0.length c0, .slice A1 l1.length c1] w fun e w' => e = .returned (.bool r) ∧ Drawn0 w w' := by
 have hu24 := Try.underlying24
 have HR0 := Aside0.mk hr0
 have HC0 := Aside0.mk hc0
 clear hr0 hc0
 have HR1 := Aside0.mk hr1
 have HC1 := Aside0.mk hc1
 clear hr1 hc1
 have H : (if (l0.length : Int) = (l1.length : Int) then (api_Piece_99.l0 k l0 l1 (l0.length : Int) 0) else (some false)) = some r := h
 clear h
 by_cases c3 : (l0.length : Int) = (l1.length : Int)
 ·rw [if_pos c3] at H
  have c3b0 : ((l0.length : Int) == (l1.length : Int)) = true := beq_iff_eq.mpr c3
  have c3b1 : ((l0.length : Int) != (l1.length : Int)) = false := bne_eq_false_iff_eq.mpr c3
  have c3b2 : (l0.length == l1.length) = true := by first | simpa using c3 | (simp at c3 ⊢; omega)
  clear c3
  have H' := Aside0.mk H
  clear H
  go_enter Try.func99, Try.ntmps99
  go_wp2
  repeat (go_quiet (fail); try go_wp2)
  go_loopg [13] k (fun kq v13 w' => ∃ (x13_1 : Int), v13 = .int .i64 x13_1 ∧ Aside0 (api_Piece_99.l0 kq l0 l1 (l0.length : Int) x13_1 = some r) ∧ Aside0 (kq ≤ k) ∧ Drawn0 w w')
  case atStart => exact ⟨(0), t_7f, H', ⟨Nat.le_refl _⟩, t_72⟩
  case round =>
   clear H'
   try clear c1
   try clear p2
   try clear c3
   try clear c3b0
   try clear c3b1
   try clear c3b2
   obtain ⟨x13_1, rfl, HA, HK1, ⟨m1, rfl⟩⟩ := hrel
   cases gk with
   | zero => exact absurd HA.out (by simp [api_Piece_99.l0])
   | succ k1 =>
    have H := HA.out
    clear HA
    simp only [api_Piece_99.l0] at H
    by_cases c4 : x13_1 < (l0.length : Int)
    ·rw [if_pos c4] at H
     have c4b0 : decide (x13_1 < (l0.length : Int)) = true := decide_eq_true c4
     clear c4
     by_cases c5 : 0 ≤ x13_1
     ·rw [if_pos c5] at H
      have c5b0 : decide (0 ≤ x13_1) = true := decide_eq_true c5
      clear c5
      by_cases c6 : x13_1 < (l0.length : Int)
      ·rw [if_pos c6] at H
       have c6b0 : decide (x13_1 < (l0.length : Int)) = true := decide_eq_true c6
       clear c6
       by_cases c7 : x13_1 < (l1.length : Int)
       ·rw [if_pos c7] at H
        have c7b0 : decide (x13_1 < (l1.length : Int)) = true := decide_eq_true c7
        clear c7
        by_cases c8 : (!((((rd_T24 l0 x13_1).f0).toList) == (((rd_T24 l1 x13_1).f0).toList)) || (!((((rd_T24 l0 x13_1).f1).toList) == (((rd_T24 l1 x13_1).f1).toList)) || (!(((rd_T24 l0 x13_1).f2) == ((rd_T24 l1 x13_1).f2)) || (!(((rd_T24 l0 x13_1).f3) == ((rd_T24 l1 x13_1).f3)))))) = true
        ·rw [if_pos c8] at H
         have c8b0 : (!((((rd_T24 l0 x13_1).f0).toList) == (((rd_T24 l1 x13_1).f0).toList)) || (!((((rd_T24 l0 x13_1).f1).toList) == (((rd_T24 l1 x13_1).f1).toList)) || (!(((rd_T24 l0 x13_1).f2) == ((rd_T24 l1 x13_1).f2)) || (!(((rd_T24 l0 x13_1).f3) == ((rd_T24 l1 x13_1).f3)))))) = true := c8
         clear c8
         obtain rfl := Option.some.inj H
         have p233 : 0 ≤ (x13_1 : Int) := of_decide_eq_true t_7d
         have q233 : x13_1 < (l0.length : Int) := of_decide_eq_true t_7d
         obtain ⟨ad233, e233, hx233_0, hx233_1, hx233_2, hx233_3⟩ := at_T24 HR0.out x13_1 p233 q233
         cases e233
         replace p233 := eq_true p233
         replace q233 := eq_true q233
         have p234 : 0 ≤ (x13_1 : Int) := of_decide_eq_true t_7d
         have q234 : x13_1 < (l1.length : Int) := of_decide_eq_true t_7d
         obtain ⟨ad234, e234, hx234_0, hx234_1, hx234_2, hx234_3⟩ := at_T24 HR1.out x13_1 p234 q234
         cases e234
         replace p234 := eq_true p234
         replace q234 := eq_true q234
         go_wp2
         repeat (go_quiet (fail); try go_wp2)
         go_ret
         exact ⟨t_7f, t_72⟩
        ·rw [if_neg c8] at H
         have c8b0 : (!((((rd_T24 l0 x13_1).f0).toList) == (((rd_T24 l1 x13_1).f0).toList)) || (!((((rd_T24 l0 x13_1).f1).toList) == (((rd_T24 l1 x13_1).f1).toList)) || (!(((rd_T24 l0 x13_1).f2) == ((rd_T24 l1 x13_1).f2)) || (!(((rd_T24 l0 x13_1).f3) == ((rd_T24 l1 x13_1).f3)))))) = false := by simpa using c8
         clear c8
         have H' := Aside0.mk H
         clear H
         have p233 : 0 ≤ (x13_1 : Int) := of_decide_eq_true t_7d
         have q233 : x13_1 < (l0.length : Int) := of_decide_eq_true t_7d
         obtain ⟨ad233, e233, hx233_0, hx233_1, hx233_2, hx233_3⟩ := at_T24 HR0.out x13_1 p233 q233
         cases e233
         replace p233 := eq_true p233
         replace q233 := eq_true q233
         have p234 : 0 ≤ (x13_1 : Int) := of_decide_eq_true t_7d
         have q234 : x13_1 < (l1.length : Int) := of_decide_eq_true t_7d
         obtain ⟨ad234, e234, hx234_0, hx234_1, hx234_2, hx234_3⟩ := at_T24 HR1.out x13_1 p234 q234
         cases e234
         replace p234 := eq_true p234
         replace q234 := eq_true q234
         go_wp2
         repeat (go_quiet (fail); try go_wp2)
         go_roundg k1
         case measure => have := HK1.out; omega
         case rel => exact ⟨(wrap64 (x13_1 + 1)), t_7f, H', ⟨t_87⟩, t_72⟩
       ·rw [if_neg c7] at H
        exact absurd H (by simp)
      ·rw [if_neg c6] at H
       exact absurd H (by simp)
     ·rw [if_neg c5] at H
      exact absurd H (by simp)
    ·rw [if_neg c4] at H
     have c4b0 : decide (x13_1 < (l0.length : Int)) = false := decide_eq_false c4
     clear c4
     obtain rfl := Option.some.inj H
     go_wp2
     repeat (go_quiet (fail); try go_wp2)
     go_ret
     exact ⟨t_7f, t_72⟩
 ·rw [if_neg c3] at H
  have c3b0 : ((l0.length : Int) == (l1.length : Int)) = false := beq_eq_false_iff_ne.mpr c3
  have c3b1 : ((l0.length : Int) != (l1.length : Int)) = true := bne_iff_ne.mpr c3
  have c3b2 : (l0.length == l1.length) = false := by first | simpa using c3 | (simp at c3 ⊢; omega)
  obtain rfl := Option.some.inj H
  go_enter Try.func99, Try.ntmps99
  go_wp2
  repeat (go_quiet (fail); try go_wp2)
  go_ret
  exact ⟨t_7f, t_72⟩

end Go.Proofs.Ytndbchcfjajgbaa.XP
