-- printed by xprint.py
import Derived.Test.YtndbchcfjajgbaaXB
import Derived.Test.YtndbchcfjajgbaaXP0
import Derived.Test.YtndbchcfjajgbaaXP1
import Derived.Test.YtndbchcfjajgbaaXP6
import Derived.Test.YtndbchcfjajgbaaXP7
namespace Go.Proofs.Ytndbchcfjajgbaa.XP
open Go.Proofs.Ytndbchcfjajgbaa.XB Go.Proofs.Ytndbchcfjajgbaa.XQ
open Go.Proofs.Ytndbchcfjajgbaa.XW
open Go.RowKit Go.Proofs.YtndbchcfjajgbaaW.PrintWords Go.Proofs.YtndbchcfjajgbaaW.PrintLast Go.Proofs.YtndbchcfjajgbaaW.PrintMore
attribute [local go_sem] max2_int min2_int max_two min_two max_three min_three max_four min_four   -- for this text's walks alone
set_option linter.unusedVariables false
set_option linter.unusedSimpArgs false

attribute [local go_sem high] eqA24 eqA34
/-! ### parcel_shaped: function 60 -/
def parcel_shaped.f (a0_0 : Int) (a0_1 : ByteArray) (a0_2 : ByteArray) (a0_3 : Int) (a0_4 : Int) (a0_5 : ByteArray) (a0_6 : ByteArray) (a0_7 : Int) (a0_8 : Int) : Option (Bool) := if a0_0 = 1 then ((parcel_right.f a0_1 a0_2 a0_3 a0_4).bind fun t111 => (if t111 = true then (some (a0_0 == 1 && (a0_5.toList == ([] : List UInt8) && (a0_6.toList == ([] : List UInt8) && (a0_7 == 0 && (a0_8 == 0)))))) else (some false))) else (if a0_0 = 2 then (some (a0_0 == 2 && ((a0_1.toList == ([] : List UInt8) && (a0_2.toList == ([] : List UInt8) && (a0_3 == 0 && (a0_4 == 0)))) && (a0_6.toList == ([] : List UInt8) && (a0_7 == 0 && (a0_8 == 0)))))) else (if a0_0 = 3 then (if (a0_1.toList == ([] : List UInt8) && (a0_2.toList == ([] : List UInt8) && (a0_3 == 0 && (a0_4 == 0)))) = true then ((lexer_IsName.f a0_6).bind fun t112 => (some t112)) else (some false)) else (if a0_0 = 4 then ((lexer_IsName.f a0_6).bind fun t113 => (if t113 = true then (some (a0_0 == 4 && ((a0_1.toList == ([] : List UInt8) && (a0_2.toList == ([] : List UInt8) && (a0_3 == 0 && (a0_4 == 0)))) && (a0_7 == 0 && (a0_8 == 0))))) else (some false))) else (if a0_0 = 5 then (some (a0_0 == 5 && ((a0_1.toList == ([] : List UInt8) && (a0_2.toList == ([] : List UInt8) && (a0_3 == 0 && (a0_4 == 0)))) && (a0_6.toList == ([] : List UInt8) && (a0_8 == 0))))) else (some false)))))
set_option maxHeartbeats 8000000 in
set_option maxRecDepth 100000 in
theorem parcel_shaped.calls (a0_0 : Int) (a0_1 : ByteArray) (a0_2 : ByteArray) (a0_3 : Int) (a0_4 : Int) (a0_5 : ByteArray) (a0_6 : ByteArray) (a0_7 : Int) (a0_8 : Int) (r : Bool) (w : World) (h : parcel_shaped.f a0_0 a0_1 a0_2 a0_3 a0_4 a0_5 a0_6 a0_7 a0_8 = some r) :
  Calls Try.prog 60 #[.agg #[.int .i64 a0_0, .string a0_1, .string a0_2, .int .i64 a0_3, .int .i64 a0_4, .string a0_5, .string a0_6, .int .i64 a0_7, .int .i64 a0_8]] w fun e w' => e = .returned (.bool r) ∧ Below w.heap.size w w' := by
 have hu34 := Try.underlying34
 have hu24 := Try.underlying24
 have HB := Aside0.mk (Below.refl w.heap.size w)
 have H : (if a0_0 = 1 then ((parcel_right.f a0_1 a0_2 a0_3 a0_4).bind fun t111 => (if t111 = true then (some (a0_0 == 1 && (a0_5.toList == ([] : List UInt8) && (a0_6.toList == ([] : List UInt8) && (a0_7 == 0 && (a0_8 == 0)))))) else (some false))) else (if a0_0 = 2 then (some (a0_0 == 2 && ((a0_1.toList == ([] : List UInt8) && (a0_2.toList == ([] : List UInt8) && (a0_3 == 0 && (a0_4 == 0)))) && (a0_6.toList == ([] : List UInt8) && (a0_7 == 0 && (a0_8 == 0)))))) else (if a0_0 = 3 then (if (a0_1.toList == ([] : List UInt8) && (a0_2.toList == ([] : List UInt8) && (a0_3 == 0 && (a0_4 == 0)))) = true then ((lexer_IsName.f a0_6).bind fun t112 => (some t112)) else (some false)) else (if a0_0 = 4 then ((lexer_IsName.f a0_6).bind fun t113 => (if t113 = true then (some (a0_0 == 4 && ((a0_1.toList == ([] : List UInt8) && (a0_2.toList == ([] : List UInt8) && (a0_3 == 0 && (a0_4 == 0)))) && (a0_7 == 0 && (a0_8 == 0))))) else (some false))) else (if a0_0 = 5 then (some (a0_0 == 5 && ((a0_1.toList == ([] : List UInt8) && (a0_2.toList == ([] : List UInt8) && (a0_3 == 0 && (a0_4 == 0)))) && (a0_6.toList == ([] : List UInt8) && (a0_8 == 0))))) else (some false)))))) = some r := h
 clear h
 by_cases c2 : a0_0 = 1
 ·rw [if_pos c2] at H
  have c2b0 : (a0_0 == 1) = true := beq_iff_eq.mpr c2
  have c2b1 : (a0_0 != 1) = false := bne_eq_false_iff_eq.mpr c2
  clear c2
  replace H := Option.bind_eq_some_iff.mp H
  obtain ⟨t111, A30, H⟩ := H
  try dsimp only at H
  have A3 := Aside0.mk A30
  clear A30
  by_cases c4 : t111 = true
  ·subst c4
   rw [if_pos rfl] at H
   obtain rfl := Option.some.inj H
   go_enter Try.func60, Try.ntmps60
   go_wp2_with (first | ((with_reducible refine gate_dst (N := 1) rfl ?_); refine bx_ (N := 1) (cs := #[.int .i64 a0_0, .string a0_1, .string a0_2, .int .i64 a0_3, .int .i64 a0_4, .string a0_5, .string a0_6, .int .i64 a0_7, .int .i64 a0_8]) (t := 34) ?_; intro gb110 hg w5 hbox hb; have BK110 := Aside0.mk (hbox); have GW110 := Aside0.mk ((by rw [hg]; exact (below_size (bb HB.out)) : w.heap.size ≤ gb110)); have GE110 := Aside0.mk ((by rw [hg]; exact (below_size (bb HB.out)) : w.heap.size ≤ gb110)); replace HB := Aside0.mk (below_step (bb HB.out) hb); clear hb hbox hg; obtain ⟨hcz6_0, hcz6_1, hcz6_2, hcz6_3, hcz6_4, hcz6_5, hcz6_6, hcz6_7, hcz6_8⟩ := sqc9 BK110.out; obtain ⟨hfz6_0, hfz6_1, hfz6_2, hfz6_3, hfz6_4, hfz6_5, hfz6_6, hfz6_7, hfz6_8⟩ := frozen9 BK110.out) | ((with_reducible refine gate_callee (f := 74) rfl ?_); refine goesL_ (some 14) rfl rfl Try.func74 t_8e rfl #[.agg #[.string a0_1, .string a0_2, .int .i64 a0_3, .int .i64 a0_4]] rfl t_45 ?_; (with_reducible refine (parcel_right.calls a0_1 a0_2 a0_3 a0_4 true _ A3.out).mono ?_); rintro e w7 ⟨rfl, hb⟩; refine ⟨_, rfl, ?_⟩; replace BK110 := kc BK110 hb; replace HB := Aside0.mk (below_step t_30 hb); (try clear hb); (try clear hb2); (try clear hk); (try clear hi); obtain ⟨hcz8_0, hcz8_1, hcz8_2, hcz8_3, hcz8_4, hcz8_5, hcz8_6, hcz8_7, hcz8_8⟩ := sqc9 BK110.out; obtain ⟨hfz8_0, hfz8_1, hfz8_2, hfz8_3, hfz8_4, hfz8_5, hfz8_6, hfz8_7, hfz8_8⟩ := frozen9 BK110.out))
   go_ret
   exact ⟨t_68, t_30⟩
  ·replace c4 := Bool.eq_false_iff.mpr c4
   subst c4
   rw [if_neg (show ¬ (false = true) by decide)] at H
   obtain rfl := Option.some.inj H
   go_enter Try.func60, Try.ntmps60
   go_wp2_with (first | ((with_reducible refine gate_dst (N := 1) rfl ?_); refine bx_ (N := 1) (cs := #[.int .i64 a0_0, .string a0_1, .string a0_2, .int .i64 a0_3, .int .i64 a0_4, .string a0_5, .string a0_6, .int .i64 a0_7, .int .i64 a0_8]) (t := 34) ?_; intro gb110 hg w9 hbox hb; have BK110 := Aside0.mk (hbox); have GW110 := Aside0.mk ((by rw [hg]; exact (below_size (bb HB.out)) : w.heap.size ≤ gb110)); have GE110 := Aside0.mk ((by rw [hg]; exact (below_size (bb HB.out)) : w.heap.size ≤ gb110)); replace HB := Aside0.mk (below_step (bb HB.out) hb); clear hb hbox hg; obtain ⟨hcz10_0, hcz10_1, hcz10_2, hcz10_3, hcz10_4, hcz10_5, hcz10_6, hcz10_7, hcz10_8⟩ := sqc9 BK110.out; obtain ⟨hfz10_0, hfz10_1, hfz10_2, hfz10_3, hfz10_4, hfz10_5, hfz10_6, hfz10_7, hfz10_8⟩ := frozen9 BK110.out) | ((with_reducible refine gate_callee (f := 74) rfl ?_); refine goesL_ (some 14) rfl rfl Try.func74 t_8e rfl #[.agg #[.string a0_1, .string a0_2, .int .i64 a0_3, .int .i64 a0_4]] rfl t_45 ?_; (with_reducible refine (parcel_right.calls a0_1 a0_2 a0_3 a0_4 false _ A3.out).mono ?_); rintro e w11 ⟨rfl, hb⟩; refine ⟨_, rfl, ?_⟩; replace BK110 := kc BK110 hb; replace HB := Aside0.mk (below_step t_30 hb); (try clear hb); (try clear hb2); (try clear hk); (try clear hi)))
   go_ret
   exact ⟨t_68, t_30⟩
 ·rw [if_neg c2] at H
  have c2b0 : (a0_0 == 1) = false := beq_eq_false_iff_ne.mpr c2
  have c2b1 : (a0_0 != 1) = true := bne_iff_ne.mpr c2
  by_cases c12 : a0_0 = 2
  ·rw [if_pos c12] at H
   have c12b0 : (a0_0 == 2) = true := beq_iff_eq.mpr c12
   have c12b1 : (a0_0 != 2) = false := bne_eq_false_iff_eq.mpr c12
   clear c12
   obtain rfl := Option.some.inj H
   go_enter Try.func60, Try.ntmps60
   go_wp2_with (first | ((with_reducible refine gate_dst (N := 1) rfl ?_); refine bx_ (N := 1) (cs := #[.int .i64 a0_0, .string a0_1, .string a0_2, .int .i64 a0_3, .int .i64 a0_4, .string a0_5, .string a0_6, .int .i64 a0_7, .int .i64 a0_8]) (t := 34) ?_; intro gb110 hg w13 hbox hb; have BK110 := Aside0.mk (hbox); have GW110 := Aside0.mk ((by rw [hg]; exact (below_size (bb HB.out)) : w.heap.size ≤ gb110)); have GE110 := Aside0.mk ((by rw [hg]; exact (below_size (bb HB.out)) : w.heap.size ≤ gb110)); replace HB := Aside0.mk (below_step (bb HB.out) hb); clear hb hbox hg; obtain ⟨hcz14_0, hcz14_1, hcz14_2, hcz14_3, hcz14_4, hcz14_5, hcz14_6, hcz14_7, hcz14_8⟩ := sqc9 BK110.out; obtain ⟨hfz14_0, hfz14_1, hfz14_2, hfz14_3, hfz14_4, hfz14_5, hfz14_6, hfz14_7, hfz14_8⟩ := frozen9 BK110.out))
   go_ret
   exact ⟨t_68, t_30⟩
  ·rw [if_neg c12] at H
   have c12b0 : (a0_0 == 2) = false := beq_eq_false_iff_ne.mpr c12
   have c12b1 : (a0_0 != 2) = true := bne_iff_ne.mpr c12
   by_cases c15 : a0_0 = 3
   ·rw [if_pos c15] at H
    have c15b0 : (a0_0 == 3) = true := beq_iff_eq.mpr c15
    have c15b1 : (a0_0 != 3) = false := bne_eq_false_iff_eq.mpr c15
    clear c15
    by_cases c16 : (a0_1.toList == ([] : List UInt8) && (a0_2.toList == ([] : List UInt8) && (a0_3 == 0 && (a0_4 == 0)))) = true
    ·rw [if_pos c16] at H
     have c16b0 : (a0_1.toList == ([] : List UInt8) && (a0_2.toList == ([] : List UInt8) && (a0_3 == 0 && (a0_4 == 0)))) = true := c16
     (try (have c16b9 : (a0_1.toList.isEmpty && (a0_2.toList.isEmpty && (a0_3 == 0 && (a0_4 == 0)))) = true := by simpa using c16))
     (try (have c16b1 : decide (a0_1.toList = ([] : List UInt8) && (a0_2.toList == ([] : List UInt8) && (a0_3 == 0 && (a0_4 == 0)))) = true := by simpa using c16))
     (try (have c16b2 : (a0_1.toList == ([] : List UInt8) && (a0_2.toList == ([] : List UInt8) && (a0_3 == 0 && (a0_4 == 0)))) = true := by simpa using c16))
     clear c16
     replace H := Option.bind_eq_some_iff.mp H
     obtain ⟨t112, A170, H⟩ := H
     replace H : (some t112) = some r := H
     have A17 := Aside0.mk A170
     clear A170
     obtain rfl := Option.some.inj H
     go_enter Try.func60, Try.ntmps60
     go_wp2_with (first | ((with_reducible refine gate_dst (N := 1) rfl ?_); refine bx_ (N := 1) (cs := #[.int .i64 a0_0, .string a0_1, .string a0_2, .int .i64 a0_3, .int .i64 a0_4, .string a0_5, .string a0_6, .int .i64 a0_7, .int .i64 a0_8]) (t := 34) ?_; intro gb110 hg w18 hbox hb; have BK110 := Aside0.mk (hbox); have GW110 := Aside0.mk ((by rw [hg]; exact (below_size (bb HB.out)) : w.heap.size ≤ gb110)); have GE110 := Aside0.mk ((by rw [hg]; exact (below_size (bb HB.out)) : w.heap.size ≤ gb110)); replace HB := Aside0.mk (below_step (bb HB.out) hb); clear hb hbox hg; obtain ⟨hcz19_0, hcz19_1, hcz19_2, hcz19_3, hcz19_4, hcz19_5, hcz19_6, hcz19_7, hcz19_8⟩ := sqc9 BK110.out; obtain ⟨hfz19_0, hfz19_1, hfz19_2, hfz19_3, hfz19_4, hfz19_5, hfz19_6, hfz19_7, hfz19_8⟩ := frozen9 BK110.out) | (go_at_call 95; (with_reducible refine (lexer_IsName.calls a0_6 t112 _ A17.out).mono ?_); rintro e w' ⟨rfl, ⟨nd, rfl⟩⟩))
     go_ret
     exact ⟨t_68, t_30⟩
    ·rw [if_neg c16] at H
     have c16b0 : (a0_1.toList == ([] : List UInt8) && (a0_2.toList == ([] : List UInt8) && (a0_3 == 0 && (a0_4 == 0)))) = false := by simpa using c16
     (try (have c16b9 : (a0_1.toList.isEmpty && (a0_2.toList.isEmpty && (a0_3 == 0 && (a0_4 == 0)))) = false := by simpa using c16))
     (try (have c16b1 : decide (a0_1.toList = ([] : List UInt8) && (a0_2.toList == ([] : List UInt8) && (a0_3 == 0 && (a0_4 == 0)))) = false := by simpa using c16))
     (try (have c16b2 : (a0_1.toList == ([] : List UInt8) && (a0_2.toList == ([] : List UInt8) && (a0_3 == 0 && (a0_4 == 0)))) = false := by simpa using c16))
     (try (have c16b3 : ¬ (a0_1.toList = ([] : List UInt8) && (a0_2.toList == ([] : List UInt8) && (a0_3 == 0 && (a0_4 == 0)))) := by simpa using c16))
     clear c16
     obtain rfl := Option.some.inj H
     go_enter Try.func60, Try.ntmps60
     go_wp2_with (first | ((with_reducible refine gate_dst (N := 1) rfl ?_); refine bx_ (N := 1) (cs := #[.int .i64 a0_0, .string a0_1, .string a0_2, .int .i64 a0_3, .int .i64 a0_4, .string a0_5, .string a0_6, .int .i64 a0_7, .int .i64 a0_8]) (t := 34) ?_; intro gb110 hg w20 hbox hb; have BK110 := Aside0.mk (hbox); have GW110 := Aside0.mk ((by rw [hg]; exact (below_size (bb HB.out)) : w.heap.size ≤ gb110)); have GE110 := Aside0.mk ((by rw [hg]; exact (below_size (bb HB.out)) : w.heap.size ≤ gb110)); replace HB := Aside0.mk (below_step (bb HB.out) hb); clear hb hbox hg; obtain ⟨hcz21_0, hcz21_1, hcz21_2, hcz21_3, hcz21_4, hcz21_5, hcz21_6, hcz21_7, hcz21_8⟩ := sqc9 BK110.out; obtain ⟨hfz21_0, hfz21_1, hfz21_2, hfz21_3, hfz21_4, hfz21_5, hfz21_6, hfz21_7, hfz21_8⟩ := frozen9 BK110.out))
     go_ret
     exact ⟨t_68, t_30⟩
   ·rw [if_neg c15] at H
    have c15b0 : (a0_0 == 3) = false := beq_eq_false_iff_ne.mpr c15
    have c15b1 : (a0_0 != 3) = true := bne_iff_ne.mpr c15
    by_cases c22 : a0_0 = 4
    ·rw [if_pos c22] at H
     have c22b0 : (a0_0 == 4) = true := beq_iff_eq.mpr c22
     have c22b1 : (a0_0 != 4) = false := bne_eq_false_iff_eq.mpr c22
     clear c22
     replace H := Option.bind_eq_some_iff.mp H
     obtain ⟨t113, A230, H⟩ := H
     try dsimp only at H
     have A23 := Aside0.mk A230
     clear A230
     by_cases c24 : t113 = true
     ·subst c24
      rw [if_pos rfl] at H
      obtain rfl := Option.some.inj H
      go_enter Try.func60, Try.ntmps60
      go_wp2_with (first | ((with_reducible refine gate_dst (N := 1) rfl ?_); refine bx_ (N := 1) (cs := #[.int .i64 a0_0, .string a0_1, .string a0_2, .int .i64 a0_3, .int .i64 a0_4, .string a0_5, .string a0_6, .int .i64 a0_7, .int .i64 a0_8]) (t := 34) ?_; intro gb110 hg w25 hbox hb; have BK110 := Aside0.mk (hbox); have GW110 := Aside0.mk ((by rw [hg]; exact (below_size (bb HB.out)) : w.heap.size ≤ gb110)); have GE110 := Aside0.mk ((by rw [hg]; exact (below_size (bb HB.out)) : w.heap.size ≤ gb110)); replace HB := Aside0.mk (below_step (bb HB.out) hb); clear hb hbox hg; obtain ⟨hcz26_0, hcz26_1, hcz26_2, hcz26_3, hcz26_4, hcz26_5, hcz26_6, hcz26_7, hcz26_8⟩ := sqc9 BK110.out; obtain ⟨hfz26_0, hfz26_1, hfz26_2, hfz26_3, hfz26_4, hfz26_5, hfz26_6, hfz26_7, hfz26_8⟩ := frozen9 BK110.out) | ((with_reducible refine gate_callee (f := 95) rfl ?_); refine goesL_ (some 41) rfl rfl Try.func95 t_8e rfl #[.string a0_6] rfl t_45 ?_; (with_reducible refine (lexer_IsName.calls a0_6 true _ A23.out).mono ?_); rintro e w' ⟨rfl, ⟨nd, rfl⟩⟩; refine ⟨_, rfl, ?_⟩))
      go_ret
      exact ⟨t_68, t_30⟩
     ·replace c24 := Bool.eq_false_iff.mpr c24
      subst c24
      rw [if_neg (show ¬ (false = true) by decide)] at H
      obtain rfl := Option.some.inj H
      go_enter Try.func60, Try.ntmps60
      go_wp2_with (first | ((with_reducible refine gate_dst (N := 1) rfl ?_); refine bx_ (N := 1) (cs := #[.int .i64 a0_0, .string a0_1, .string a0_2, .int .i64 a0_3, .int .i64 a0_4, .string a0_5, .string a0_6, .int .i64 a0_7, .int .i64 a0_8]) (t := 34) ?_; intro gb110 hg w27 hbox hb; have BK110 := Aside0.mk (hbox); have GW110 := Aside0.mk ((by rw [hg]; exact (below_size (bb HB.out)) : w.heap.size ≤ gb110)); have GE110 := Aside0.mk ((by rw [hg]; exact (below_size (bb HB.out)) : w.heap.size ≤ gb110)); replace HB := Aside0.mk (below_step (bb HB.out) hb); clear hb hbox hg; obtain ⟨hcz28_0, hcz28_1, hcz28_2, hcz28_3, hcz28_4, hcz28_5, hcz28_6, hcz28_7, hcz28_8⟩ := sqc9 BK110.out; obtain ⟨hfz28_0, hfz28_1, hfz28_2, hfz28_3, hfz28_4, hfz28_5, hfz28_6, hfz28_7, hfz28_8⟩ := frozen9 BK110.out) | ((with_reducible refine gate_callee (f := 95) rfl ?_); refine goesL_ (some 41) rfl rfl Try.func95 t_8e rfl #[.string a0_6] rfl t_45 ?_; (with_reducible refine (lexer_IsName.calls a0_6 false _ A23.out).mono ?_); rintro e w' ⟨rfl, ⟨nd, rfl⟩⟩; refine ⟨_, rfl, ?_⟩))
      go_ret
      exact ⟨t_68, t_30⟩
    ·rw [if_neg c22] at H
     have c22b0 : (a0_0 == 4) = false := beq_eq_false_iff_ne.mpr c22
     have c22b1 : (a0_0 != 4) = true := bne_iff_ne.mpr c22
     by_cases c29 : a0_0 = 5
     ·rw [if_pos c29] at H
      have c29b0 : (a0_0 == 5) = true := beq_iff_eq.mpr c29
      have c29b1 : (a0_0 != 5) = false := bne_eq_false_iff_eq.mpr c29
      clear c29
      obtain rfl := Option.some.inj H
      go_enter Try.func60, Try.ntmps60
      go_wp2_with (first | ((with_reducible refine gate_dst (N := 1) rfl ?_); refine bx_ (N := 1) (cs := #[.int .i64 a0_0, .string a0_1, .string a0_2, .int .i64 a0_3, .int .i64 a0_4, .string a0_5, .string a0_6, .int .i64 a0_7, .int .i64 a0_8]) (t := 34) ?_; intro gb110 hg w30 hbox hb; have BK110 := Aside0.mk (hbox); have GW110 := Aside0.mk ((by rw [hg]; exact (below_size (bb HB.out)) : w.heap.size ≤ gb110)); have GE110 := Aside0.mk ((by rw [hg]; exact (below_size (bb HB.out)) : w.heap.size ≤ gb110)); replace HB := Aside0.mk (below_step (bb HB.out) hb); clear hb hbox hg; obtain ⟨hcz31_0, hcz31_1, hcz31_2, hcz31_3, hcz31_4, hcz31_5, hcz31_6, hcz31_7, hcz31_8⟩ := sqc9 BK110.out; obtain ⟨hfz31_0, hfz31_1, hfz31_2, hfz31_3, hfz31_4, hfz31_5, hfz31_6, hfz31_7, hfz31_8⟩ := frozen9 BK110.out))
      go_ret
      exact ⟨t_68, t_30⟩
     ·rw [if_neg c29] at H
      have c29b0 : (a0_0 == 5) = false := beq_eq_false_iff_ne.mpr c29
      have c29b1 : (a0_0 != 5) = true := bne_iff_ne.mpr c29
      obtain rfl := Option.some.inj H
      go_enter Try.func60, Try.ntmps60
      go_wp2_with (first | ((with_reducible refine gate_dst (N := 1) rfl ?_); refine bx_ (N := 1) (cs := #[.int .i64 a0_0, .string a0_1, .string a0_2, .int .i64 a0_3, .int .i64 a0_4, .string a0_5, .string a0_6, .int .i64 a0_7, .int .i64 a0_8]) (t := 34) ?_; intro gb110 hg w32 hbox hb; have BK110 := Aside0.mk (hbox); have GW110 := Aside0.mk ((by rw [hg]; exact (below_size (bb HB.out)) : w.heap.size ≤ gb110)); have GE110 := Aside0.mk ((by rw [hg]; exact (below_size (bb HB.out)) : w.heap.size ≤ gb110)); replace HB := Aside0.mk (below_step (bb HB.out) hb); clear hb hbox hg; obtain ⟨hcz33_0, hcz33_1, hcz33_2, hcz33_3, hcz33_4, hcz33_5, hcz33_6, hcz33_7, hcz33_8⟩ := sqc9 BK110.out; obtain ⟨hfz33_0, hfz33_1, hfz33_2, hfz33_3, hfz33_4, hfz33_5, hfz33_6, hfz33_7, hfz33_8⟩ := frozen9 BK110.out))
      go_ret
      exact ⟨t_68, t_30⟩

/-! ### job_day: function 92 -/
def job_day.f (a0 : Int) : Option (Bool) := if a0 ≥ 0 then (some (decide (a0 ≤ 100000))) else (some false)
set_option maxHeartbeats 8000000 in
set_option maxRecDepth 100000 in
theorem job_day.calls (a0 : Int) (r : Bool) (w : World) (h : job_day.f a0 = some r) :
    Calls Try.prog 92 #[.int .i64 a0] w fun e w' => e = .returned (.bool r) ∧ Drawn0 w w' := by
  have H : (if a0 ≥ 0 then (some (decide (a0 ≤ 100000))) else (some false)) = some r := h
  clear h
  by_cases c2 : a0 ≥ 0
  · rw [if_pos c2] at H
    have c2b0 : decide (0 ≤ a0) = true := decide_eq_true c2
    clear c2
    obtain rfl := Option.some.inj H
    go_enter Try.func92, Try.ntmps92
    go_wp2
    go_ret
    exact ⟨t_7f, t_72⟩
  · rw [if_neg c2] at H
    have c2b0 : decide (0 ≤ a0) = false := decide_eq_false c2
    clear c2
    obtain rfl := Option.some.inj H
    go_enter Try.func92, Try.ntmps92
    go_wp2
    go_ret
    exact ⟨t_7f, t_72⟩

/-! ### job_Valid: function 44 -/
def job_Valid.f (a0_0 : ByteArray) (a0_1 : ByteArray) (a0_2 : ByteArray) (a0_3 : Int) (a0_4 : Int) : Option (Bool) := (lexer_IsName.f a0_0).bind fun t115 => (if t115 = true then ((lexer_IsName.f a0_1).bind fun t116 => (if t116 = true then ((lexer_IsName.f a0_2).bind fun t117 => (if t117 = true then ((job_day.f a0_3).bind fun t118 => (if t118 = true then (if a0_4 ≥ 0 then (some (decide (a0_4 ≤ 1000000))) else (some false)) else (some false))) else (some false))) else (some false))) else (some false))
set_option maxHeartbeats 8000000 in
set_option maxRecDepth 100000 in
theorem job_Valid.calls (a0_0 : ByteArray) (a0_1 : ByteArray) (a0_2 : ByteArray) (a0_3 : Int) (a0_4 : Int) (r : Bool) (w : World) (h : job_Valid.f a0_0 a0_1 a0_2 a0_3 a0_4 = some r) :
  Calls Try.prog 44 #[.agg #[.string a0_0, .string a0_1, .string a0_2, .int .i64 a0_3, .int .i64 a0_4]] w fun e w' => e = .returned (.bool r) ∧ Below w.heap.size w w' := by
 have hu81 := Try.underlying81
 have HB := Aside0.mk (Below.refl w.heap.size w)
 have H : ((lexer_IsName.f a0_0).bind fun t115 => (if t115 = true then ((lexer_IsName.f a0_1).bind fun t116 => (if t116 = true then ((lexer_IsName.f a0_2).bind fun t117 => (if t117 = true then ((job_day.f a0_3).bind fun t118 => (if t118 = true then (if a0_4 ≥ 0 then (some (decide (a0_4 ≤ 1000000))) else (some false)) else (some false))) else (some false))) else (some false))) else (some false))) = some r := h
 clear h
 replace H := Option.bind_eq_some_iff.mp H
 obtain ⟨t115, A20, H⟩ := H
 try dsimp only at H
 have A2 := Aside0.mk A20
 clear A20
 by_cases c3 : t115 = true
 ·subst c3
  rw [if_pos rfl] at H
  replace H := Option.bind_eq_some_iff.mp H
  obtain ⟨t116, A40, H⟩ := H
  try dsimp only at H
  have A4 := Aside0.mk A40
  clear A40
  by_cases c5 : t116 = true
  ·subst c5
   rw [if_pos rfl] at H
   replace H := Option.bind_eq_some_iff.mp H
   obtain ⟨t117, A60, H⟩ := H
   try dsimp only at H
   have A6 := Aside0.mk A60
   clear A60
   by_cases c7 : t117 = true
   ·subst c7
    rw [if_pos rfl] at H
    replace H := Option.bind_eq_some_iff.mp H
    obtain ⟨t118, A80, H⟩ := H
    try dsimp only at H
    have A8 := Aside0.mk A80
    clear A80
    by_cases c9 : t118 = true
    ·subst c9
     rw [if_pos rfl] at H
     by_cases c10 : a0_4 ≥ 0
     ·rw [if_pos c10] at H
      have c10b0 : decide (0 ≤ a0_4) = true := decide_eq_true c10
      clear c10
      obtain rfl := Option.some.inj H
      go_enter Try.func44, Try.ntmps44
      go_wp2_with (first | ((with_reducible refine gate_dst (N := 1) rfl ?_); refine bx_ (N := 1) (cs := #[.string a0_0, .string a0_1, .string a0_2, .int .i64 a0_3, .int .i64 a0_4]) (t := 81) ?_; intro gb114 hg w11 hbox hb; have BK114 := Aside0.mk (hbox); have GW114 := Aside0.mk ((by rw [hg]; exact (below_size (bb HB.out)) : w.heap.size ≤ gb114)); have GE114 := Aside0.mk ((by rw [hg]; exact (below_size (bb HB.out)) : w.heap.size ≤ gb114)); replace HB := Aside0.mk (below_step (bb HB.out) hb); clear hb hbox hg; obtain ⟨hcz12_0, hcz12_1, hcz12_2, hcz12_3, hcz12_4⟩ := sqc5 BK114.out; obtain ⟨hfz12_0, hfz12_1, hfz12_2, hfz12_3, hfz12_4⟩ := frozen5 BK114.out) | ((with_reducible refine gate_callee (f := 95) rfl ?_); refine goesL_ (some 5) rfl rfl Try.func95 t_8e rfl #[.string a0_0] rfl t_45 ?_; (with_reducible refine (lexer_IsName.calls a0_0 true _ A2.out).mono ?_); rintro e w' ⟨rfl, ⟨nd, rfl⟩⟩; refine ⟨_, rfl, ?_⟩) | (go_at_call 95; (with_reducible refine (lexer_IsName.calls a0_1 true _ A4.out).mono ?_); rintro e w' ⟨rfl, ⟨nd, rfl⟩⟩) | (go_at_call 95; (with_reducible refine (lexer_IsName.calls a0_2 true _ A6.out).mono ?_); rintro e w' ⟨rfl, ⟨nd, rfl⟩⟩) | (go_at_call 92; (with_reducible refine (job_day.calls a0_3 true _ A8.out).mono ?_); rintro e w' ⟨rfl, ⟨nd, rfl⟩⟩))
      go_ret
      exact ⟨t_68, t_31⟩
     ·rw [if_neg c10] at H
      have c10b0 : decide (0 ≤ a0_4) = false := decide_eq_false c10
      clear c10
      obtain rfl := Option.some.inj H
      go_enter Try.func44, Try.ntmps44
      go_wp2_with (first | ((with_reducible refine gate_dst (N := 1) rfl ?_); refine bx_ (N := 1) (cs := #[.string a0_0, .string a0_1, .string a0_2, .int .i64 a0_3, .int .i64 a0_4]) (t := 81) ?_; intro gb114 hg w13 hbox hb; have BK114 := Aside0.mk (hbox); have GW114 := Aside0.mk ((by rw [hg]; exact (below_size (bb HB.out)) : w.heap.size ≤ gb114)); have GE114 := Aside0.mk ((by rw [hg]; exact (below_size (bb HB.out)) : w.heap.size ≤ gb114)); replace HB := Aside0.mk (below_step (bb HB.out) hb); clear hb hbox hg; obtain ⟨hcz14_0, hcz14_1, hcz14_2, hcz14_3, hcz14_4⟩ := sqc5 BK114.out; obtain ⟨hfz14_0, hfz14_1, hfz14_2, hfz14_3, hfz14_4⟩ := frozen5 BK114.out) | ((with_reducible refine gate_callee (f := 95) rfl ?_); refine goesL_ (some 5) rfl rfl Try.func95 t_8e rfl #[.string a0_0] rfl t_45 ?_; (with_reducible refine (lexer_IsName.calls a0_0 true _ A2.out).mono ?_); rintro e w' ⟨rfl, ⟨nd, rfl⟩⟩; refine ⟨_, rfl, ?_⟩) | (go_at_call 95; (with_reducible refine (lexer_IsName.calls a0_1 true _ A4.out).mono ?_); rintro e w' ⟨rfl, ⟨nd, rfl⟩⟩) | (go_at_call 95; (with_reducible refine (lexer_IsName.calls a0_2 true _ A6.out).mono ?_); rintro e w' ⟨rfl, ⟨nd, rfl⟩⟩) | (go_at_call 92; (with_reducible refine (job_day.calls a0_3 true _ A8.out).mono ?_); rintro e w' ⟨rfl, ⟨nd, rfl⟩⟩))
      go_ret
      exact ⟨t_68, t_31⟩
    ·replace c9 := Bool.eq_false_iff.mpr c9
     subst c9
     rw [if_neg (show ¬ (false = true) by decide)] at H
     obtain rfl := Option.some.inj H
     go_enter Try.func44, Try.ntmps44
     go_wp2_with (first | ((with_reducible refine gate_dst (N := 1) rfl ?_); refine bx_ (N := 1) (cs := #[.string a0_0, .string a0_1, .string a0_2, .int .i64 a0_3, .int .i64 a0_4]) (t := 81) ?_; intro gb114 hg w15 hbox hb; have BK114 := Aside0.mk (hbox); have GW114 := Aside0.mk ((by rw [hg]; exact (below_size (bb HB.out)) : w.heap.size ≤ gb114)); have GE114 := Aside0.mk ((by rw [hg]; exact (below_size (bb HB.out)) : w.heap.size ≤ gb114)); replace HB := Aside0.mk (below_step (bb HB.out) hb); clear hb hbox hg; obtain ⟨hcz16_0, hcz16_1, hcz16_2, hcz16_3, hcz16_4⟩ := sqc5 BK114.out; obtain ⟨hfz16_0, hfz16_1, hfz16_2, hfz16_3, hfz16_4⟩ := frozen5 BK114.out) | ((with_reducible refine gate_callee (f := 95) rfl ?_); refine goesL_ (some 5) rfl rfl Try.func95 t_8e rfl #[.string a0_0] rfl t_45 ?_; (with_reducible refine (lexer_IsName.calls a0_0 true _ A2.out).mono ?_); rintro e w' ⟨rfl, ⟨nd, rfl⟩⟩; refine ⟨_, rfl, ?_⟩) | (go_at_call 95; (with_reducible refine (lexer_IsName.calls a0_1 true _ A4.out).mono ?_); rintro e w' ⟨rfl, ⟨nd, rfl⟩⟩) | (go_at_call 95; (with_reducible refine (lexer_IsName.calls a0_2 true _ A6.out).mono ?_); rintro e w' ⟨rfl, ⟨nd, rfl⟩⟩) | (go_at_call 92; (with_reducible refine (job_day.calls a0_3 false _ A8.out).mono ?_); rintro e w' ⟨rfl, ⟨nd, rfl⟩⟩))
     go_ret
     exact ⟨t_68, t_31⟩
   ·replace c7 := Bool.eq_false_iff.mpr c7
    subst c7
    rw [if_neg (show ¬ (false = true) by decide)] at H
    obtain rfl := Option.some.inj H
    go_enter Try.func44, Try.ntmps44
    go_wp2_with (first | ((with_reducible refine gate_dst (N := 1) rfl ?_); refine bx_ (N := 1) (cs := #[.string a0_0, .string a0_1, .string a0_2, .int .i64 a0_3, .int .i64 a0_4]) (t := 81) ?_; intro gb114 hg w17 hbox hb; have BK114 := Aside0.mk (hbox); have GW114 := Aside0.mk ((by rw [hg]; exact (below_size (bb HB.out)) : w.heap.size ≤ gb114)); have GE114 := Aside0.mk ((by rw [hg]; exact (below_size (bb HB.out)) : w.heap.size ≤ gb114)); replace HB := Aside0.mk (below_step (bb HB.out) hb); clear hb hbox hg; obtain ⟨hcz18_0, hcz18_1, hcz18_2, hcz18_3, hcz18_4⟩ := sqc5 BK114.out; obtain ⟨hfz18_0, hfz18_1, hfz18_2, hfz18_3, hfz18_4⟩ := frozen5 BK114.out) | ((with_reducible refine gate_callee (f := 95) rfl ?_); refine goesL_ (some 5) rfl rfl Try.func95 t_8e rfl #[.string a0_0] rfl t_45 ?_; (with_reducible refine (lexer_IsName.calls a0_0 true _ A2.out).mono ?_); rintro e w' ⟨rfl, ⟨nd, rfl⟩⟩; refine ⟨_, rfl, ?_⟩) | (go_at_call 95; (with_reducible refine (lexer_IsName.calls a0_1 true _ A4.out).mono ?_); rintro e w' ⟨rfl, ⟨nd, rfl⟩⟩) | (go_at_call 95; (with_reducible refine (lexer_IsName.calls a0_2 false _ A6.out).mono ?_); rintro e w' ⟨rfl, ⟨nd, rfl⟩⟩))
    go_ret
    exact ⟨t_68, t_31⟩
  ·replace c5 := Bool.eq_false_iff.mpr c5
   subst c5
   rw [if_neg (show ¬ (false = true) by decide)] at H
   obtain rfl := Option.some.inj H
   go_enter Try.func44, Try.ntmps44
   go_wp2_with (first | ((with_reducible refine gate_dst (N := 1) rfl ?_); refine bx_ (N := 1) (cs := #[.string a0_0, .string a0_1, .string a0_2, .int .i64 a0_3, .int .i64 a0_4]) (t := 81) ?_; intro gb114 hg w19 hbox hb; have BK114 := Aside0.mk (hbox); have GW114 := Aside0.mk ((by rw [hg]; exact (below_size (bb HB.out)) : w.heap.size ≤ gb114)); have GE114 := Aside0.mk ((by rw [hg]; exact (below_size (bb HB.out)) : w.heap.size ≤ gb114)); replace HB := Aside0.mk (below_step (bb HB.out) hb); clear hb hbox hg; obtain ⟨hcz20_0, hcz20_1, hcz20_2, hcz20_3, hcz20_4⟩ := sqc5 BK114.out; obtain ⟨hfz20_0, hfz20_1, hfz20_2, hfz20_3, hfz20_4⟩ := frozen5 BK114.out) | ((with_reducible refine gate_callee (f := 95) rfl ?_); refine goesL_ (some 5) rfl rfl Try.func95 t_8e rfl #[.string a0_0] rfl t_45 ?_; (with_reducible refine (lexer_IsName.calls a0_0 true _ A2.out).mono ?_); rintro e w' ⟨rfl, ⟨nd, rfl⟩⟩; refine ⟨_, rfl, ?_⟩) | (go_at_call 95; (with_reducible refine (lexer_IsName.calls a0_1 false _ A4.out).mono ?_); rintro e w' ⟨rfl, ⟨nd, rfl⟩⟩))
   go_ret
   exact ⟨t_68, t_31⟩
 ·replace c3 := Bool.eq_false_iff.mpr c3
  subst c3
  rw [if_neg (show ¬ (false = true) by decide)] at H
  obtain rfl := Option.some.inj H
  go_enter Try.func44, Try.ntmps44
  go_wp2_with (first | ((with_reducible refine gate_dst (N := 1) rfl ?_); refine bx_ (N := 1) (cs := #[.string a0_0, .string a0_1, .string a0_2, .int .i64 a0_3, .int .i64 a0_4]) (t := 81) ?_; intro gb114 hg w21 hbox hb; have BK114 := Aside0.mk (hbox); have GW114 := Aside0.mk ((by rw [hg]; exact (below_size (bb HB.out)) : w.heap.size ≤ gb114)); have GE114 := Aside0.mk ((by rw [hg]; exact (below_size (bb HB.out)) : w.heap.size ≤ gb114)); replace HB := Aside0.mk (below_step (bb HB.out) hb); clear hb hbox hg; obtain ⟨hcz22_0, hcz22_1, hcz22_2, hcz22_3, hcz22_4⟩ := sqc5 BK114.out; obtain ⟨hfz22_0, hfz22_1, hfz22_2, hfz22_3, hfz22_4⟩ := frozen5 BK114.out) | ((with_reducible refine gate_callee (f := 95) rfl ?_); refine goesL_ (some 5) rfl rfl Try.func95 t_8e rfl #[.string a0_0] rfl t_45 ?_; (with_reducible refine (lexer_IsName.calls a0_0 false _ A2.out).mono ?_); rintro e w' ⟨rfl, ⟨nd, rfl⟩⟩; refine ⟨_, rfl, ?_⟩))
  go_ret
  exact ⟨t_68, t_31⟩

end Go.Proofs.Ytndbchcfjajgbaa.XP
