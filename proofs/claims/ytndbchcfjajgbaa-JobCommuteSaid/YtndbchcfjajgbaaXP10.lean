-- printed by xprint.py
import Derived.Test.YtndbchcfjajgbaaXB
import Derived.Test.YtndbchcfjajgbaaXP0
import Derived.Test.YtndbchcfjajgbaaXP1
import Derived.Test.YtndbchcfjajgbaaXP8
import Derived.Test.YtndbchcfjajgbaaXP9
namespace Go.Proofs.Ytndbchcfjajgbaa.XP
open Go.Proofs.Ytndbchcfjajgbaa.XB Go.Proofs.Ytndbchcfjajgbaa.XQ
open Go.Proofs.Ytndbchcfjajgbaa.XW
open Go.RowKit Go.Proofs.YtndbchcfjajgbaaW.PrintWords Go.Proofs.YtndbchcfjajgbaaW.PrintLast Go.Proofs.YtndbchcfjajgbaaW.PrintMore
attribute [local go_sem] max2_int min2_int max_two min_two max_three min_three max_four min_four   -- for this text's walks alone
set_option linter.unusedVariables false
set_option linter.unusedSimpArgs false

attribute [local go_sem high] eqA24
/-! ### job_right: function 93 -/
mutual
def job_right.j0 : Nat → Bool → ByteArray → ByteArray → ByteArray → Int → Int → Int → Int → Int → Int → ByteArray → ByteArray → Int → Int → Option (Bool)
 | 0, _, _, _, _, _, _, _, _, _, _, _, _, _, _ => none
 | k + 1, x22, Qa0, Qa1, Qa2, Qa3, Qa4, Qa5, Qa6, Qa7, Qa8, Qa9, Qa10, Qa11, Qa12 => if x22 = true then (some false) else (if Qa5 = 1 then (job_right.j1 k false false false Qa5 (Qa5 == 1) Qa0 Qa1 Qa2 Qa3 Qa4 Qa5 Qa6 Qa7 Qa8 Qa9 Qa10 Qa11 Qa12) else (job_right.j1 k false false false Qa5 (Qa5 == 5) Qa0 Qa1 Qa2 Qa3 Qa4 Qa5 Qa6 Qa7 Qa8 Qa9 Qa10 Qa11 Qa12))
def job_right.j2 : Nat → Bool → Bool → Bool → ByteArray → ByteArray → ByteArray → Int → Int → Int → Int → Int → Int → ByteArray → ByteArray → Int → Int → Option (Bool)
 | 0, _, _, _, _, _, _, _, _, _, _, _, _, _, _, _, _ => none
 | k + 1, x5, x6, x7, Qa0, Qa1, Qa2, Qa3, Qa4, Qa5, Qa6, Qa7, Qa8, Qa9, Qa10, Qa11, Qa12 => if (x5 != (decide (Qa7 ≥ 1))) = true then (job_right.j3 k x7 true Qa0 Qa1 Qa2 Qa3 Qa4 Qa5 Qa6 Qa7 Qa8 Qa9 Qa10 Qa11 Qa12) else (if x5 = true then (if x6 = true then (if Qa8 < 1 then (job_right.j3 k x7 true Qa0 Qa1 Qa2 Qa3 Qa4 Qa5 Qa6 Qa7 Qa8 Qa9 Qa10 Qa11 Qa12) else (if Qa8 > Qa7 then (job_right.j3 k x7 true Qa0 Qa1 Qa2 Qa3 Qa4 Qa5 Qa6 Qa7 Qa8 Qa9 Qa10 Qa11 Qa12) else (job_right.j3 k x7 false Qa0 Qa1 Qa2 Qa3 Qa4 Qa5 Qa6 Qa7 Qa8 Qa9 Qa10 Qa11 Qa12))) else (job_right.j3 k x7 (Qa8 != 0) Qa0 Qa1 Qa2 Qa3 Qa4 Qa5 Qa6 Qa7 Qa8 Qa9 Qa10 Qa11 Qa12)) else (if Qa7 = 0 then (if x6 = true then (if Qa8 < 1 then (job_right.j3 k x7 true Qa0 Qa1 Qa2 Qa3 Qa4 Qa5 Qa6 Qa7 Qa8 Qa9 Qa10 Qa11 Qa12) else (if Qa8 > Qa7 then (job_right.j3 k x7 true Qa0 Qa1 Qa2 Qa3 Qa4 Qa5 Qa6 Qa7 Qa8 Qa9 Qa10 Qa11 Qa12) else (job_right.j3 k x7 false Qa0 Qa1 Qa2 Qa3 Qa4 Qa5 Qa6 Qa7 Qa8 Qa9 Qa10 Qa11 Qa12))) else (job_right.j3 k x7 (Qa8 != 0) Qa0 Qa1 Qa2 Qa3 Qa4 Qa5 Qa6 Qa7 Qa8 Qa9 Qa10 Qa11 Qa12)) else (job_right.j3 k x7 true Qa0 Qa1 Qa2 Qa3 Qa4 Qa5 Qa6 Qa7 Qa8 Qa9 Qa10 Qa11 Qa12)))
def job_right.j3 : Nat → Bool → Bool → ByteArray → ByteArray → ByteArray → Int → Int → Int → Int → Int → Int → ByteArray → ByteArray → Int → Int → Option (Bool)
 | 0, _, _, _, _, _, _, _, _, _, _, _, _, _, _, _ => none
 | k + 1, x7, x70, Qa0, Qa1, Qa2, Qa3, Qa4, Qa5, Qa6, Qa7, Qa8, Qa9, Qa10, Qa11, Qa12 => if x70 = true then (some false) else (if x7 = true then ((parcel_Valid.f k (([(⟨Qa9, Qa10, Qa11, Qa12⟩ : S24)] : List (S24)))).bind fun t124 => (if t124 = true then (if Qa9.toList = Qa1.toList then (some (Qa11 == Qa7)) else (some false)) else (some false))) else (some (Qa9.toList == ([] : List UInt8) && (Qa10.toList == ([] : List UInt8) && (Qa11 == 0 && (Qa12 == 0))))))
def job_right.j1 : Nat → Bool → Bool → Bool → Int → Bool → ByteArray → ByteArray → ByteArray → Int → Int → Int → Int → Int → Int → ByteArray → ByteArray → Int → Int → Option (Bool)
 | 0, _, _, _, _, _, _, _, _, _, _, _, _, _, _, _, _, _, _ => none
 | k + 1, x5, x6, x7, x24, x25, Qa0, Qa1, Qa2, Qa3, Qa4, Qa5, Qa6, Qa7, Qa8, Qa9, Qa10, Qa11, Qa12 => if x25 = true then (job_right.j2 k x5 x6 x7 Qa0 Qa1 Qa2 Qa3 Qa4 Qa5 Qa6 Qa7 Qa8 Qa9 Qa10 Qa11 Qa12) else (if x24 = 2 then (job_right.j2 k true x6 true Qa0 Qa1 Qa2 Qa3 Qa4 Qa5 Qa6 Qa7 Qa8 Qa9 Qa10 Qa11 Qa12) else (if x24 = 3 then (job_right.j2 k true true x7 Qa0 Qa1 Qa2 Qa3 Qa4 Qa5 Qa6 Qa7 Qa8 Qa9 Qa10 Qa11 Qa12) else (if x24 = 4 then (job_right.j2 k true true x7 Qa0 Qa1 Qa2 Qa3 Qa4 Qa5 Qa6 Qa7 Qa8 Qa9 Qa10 Qa11 Qa12) else (some false))))
end
def job_right.f (k : Nat) (e0 : ByteArray) (e1 : ByteArray) (e2 : ByteArray) (e3 : Int) (e4 : Int) (e5 : Int) (e6 : Int) (e7 : Int) (e8 : Int) (e9 : ByteArray) (e10 : ByteArray) (e11 : Int) (e12 : Int) (a1 : Int) : Option (Bool) := (job_Valid.f e0 e1 e2 e3 e4).bind fun t120 => (if t120 = true then (if e6 < 0 then (job_right.j0 k true e0 e1 e2 e3 e4 e5 e6 e7 e8 e9 e10 e11 e12) else (job_right.j0 k (decide (e6 > a1)) e0 e1 e2 e3 e4 e5 e6 e7 e8 e9 e10 e11 e12)) else (job_right.j0 k true e0 e1 e2 e3 e4 e5 e6 e7 e8 e9 e10 e11 e12))
set_option maxHeartbeats 8000000 in
set_option maxRecDepth 100000 in
theorem job_right.calls (k : Nat) (e0 : ByteArray) (e1 : ByteArray) (e2 : ByteArray) (e3 : Int) (e4 : Int) (e5 : Int) (e6 : Int) (e7 : Int) (e8 : Int) (e9 : ByteArray) (e10 : ByteArray) (e11 : Int) (e12 : Int) (a1 : Int) (r : Bool) (w : World) (h : job_right.f k e0 e1 e2 e3 e4 e5 e6 e7 e8 e9 e10 e11 e12 a1 = some r) :
  Calls Try.prog 93 #[.agg #[.string e0, .string e1, .string e2, .int .i64 e3, .int .i64 e4, .int .i64 e5, .int .i64 e6, .int .i64 e7, .int .i64 e8, .string e9, .string e10, .int .i64 e11, .int .i64 e12], .int .i64 a1] w fun e w' => e = .returned (.bool r) ∧ Below w.heap.size w w' := by
 have hu99 := Try.underlying99
 have hu81 := Try.underlying81
 have hu24 := Try.underlying24
 have HB := Aside0.mk (Below.refl w.heap.size w)
 have H : ((job_Valid.f e0 e1 e2 e3 e4).bind fun t120 => (if t120 = true then (if e6 < 0 then (job_right.j0 k true e0 e1 e2 e3 e4 e5 e6 e7 e8 e9 e10 e11 e12) else (job_right.j0 k (decide (e6 > a1)) e0 e1 e2 e3 e4 e5 e6 e7 e8 e9 e10 e11 e12)) else (job_right.j0 k true e0 e1 e2 e3 e4 e5 e6 e7 e8 e9 e10 e11 e12))) = some r := h
 clear h
 have HC3 := Aside0.mk H
 clear H
 go_enter Try.func93, Try.ntmps93
 go_upto_region 1 with (first | ((with_reducible refine gate_dst (N := 2) rfl ?_); refine bx_ (N := 2) (cs := #[.string e0, .string e1, .string e2, .int .i64 e3, .int .i64 e4, .int .i64 e5, .int .i64 e6, .int .i64 e7, .int .i64 e8, .string e9, .string e10, .int .i64 e11, .int .i64 e12]) (t := 99) ?_; intro gb119 hg w4 hbox hb; have BK119 := Aside0.mk (hbox); have GW119 := Aside0.mk ((by rw [hg]; exact (below_size (bb HB.out)) : w.heap.size ≤ gb119)); have GE119 := Aside0.mk ((by rw [hg]; exact (below_size (bb HB.out)) : w.heap.size ≤ gb119)); replace HB := Aside0.mk (below_step (bb HB.out) hb); clear hb hbox hg))
 (try simp only [Act.put, List.setIfInBounds_toArray, List.set_cons_zero, List.set_cons_succ])
 go_cut [22] (fun v22 wc => ∃ (kq : Nat) (x22_2 : Bool), v22 = .bool x22_2 ∧ Aside0 (job_right.j0 kq x22_2 e0 e1 e2 e3 e4 e5 e6 e7 e8 e9 e10 e11 e12 = some r) ∧ Aside0 (kq ≤ k) ∧ Aside0 (wc.heap[gb119]? = some (.cells #[.string e0, .string e1, .string e2, .int .i64 e3, .int .i64 e4, .int .i64 e5, .int .i64 e6, .int .i64 e7, .int .i64 e8, .string e9, .string e10, .int .i64 e11, .int .i64 e12] 99 (0, 0))) ∧ Aside0 (Below w.heap.size w wc))
 case first =>
  have H := HC3.out
  clear HC3
  replace H := Option.bind_eq_some_iff.mp H
  obtain ⟨t120, A50, H⟩ := H
  try dsimp only at H
  have A5 := Aside0.mk A50
  clear A50
  by_cases c6 : t120 = true
  ·subst c6
   rw [if_pos rfl] at H
   by_cases c7 : e6 < 0
   ·rw [if_pos c7] at H
    have c7b0 : decide (e6 < 0) = true := decide_eq_true c7
    clear c7
    (first | rw [c7b0] | (simp only [i64_w, i32_w]; rw [c7b0]) | skip)
    have H' := Aside0.mk H
    clear H
    obtain ⟨hcz8_0, hcz8_1, hcz8_2, hcz8_3, hcz8_4, hcz8_5, hcz8_6, hcz8_7, hcz8_8, hcz8_9, hcz8_10, hcz8_11, hcz8_12⟩ := cz13 BK119.out
    obtain ⟨hfz8_0, hfz8_1, hfz8_2, hfz8_3, hfz8_4, hfz8_5, hfz8_6, hfz8_7, hfz8_8, hfz8_9, hfz8_10, hfz8_11, hfz8_12⟩ := fz13 BK119.out
    go_wp2_with (first | ((with_reducible refine gate_callee (f := 44) rfl ?_); refine goesL_ (some 10) rfl rfl Try.func44 t_8e rfl #[.agg #[.string e0, .string e1, .string e2, .int .i64 e3, .int .i64 e4]] rfl t_45 ?_; (with_reducible refine (job_Valid.calls e0 e1 e2 e3 e4 true _ A5.out).mono ?_); rintro e w9 ⟨rfl, hb⟩; refine ⟨_, rfl, ?_⟩; replace BK119 := kc BK119 hb; replace HB := Aside0.mk (below_step t_34 hb); (try clear hb); (try clear hb2); (try clear hk); (try clear hi); obtain ⟨hcz10_0, hcz10_1, hcz10_2, hcz10_3, hcz10_4, hcz10_5, hcz10_6, hcz10_7, hcz10_8, hcz10_9, hcz10_10, hcz10_11, hcz10_12⟩ := sqc13 BK119.out; obtain ⟨hfz10_0, hfz10_1, hfz10_2, hfz10_3, hfz10_4, hfz10_5, hfz10_6, hfz10_7, hfz10_8, hfz10_9, hfz10_10, hfz10_11, hfz10_12⟩ := frozen13 BK119.out))
    go_meet
    case rel => exact ⟨_, (true), t_7f, H', ⟨t_84⟩, ⟨t_61⟩, ⟨t_34⟩⟩
   ·rw [if_neg c7] at H
    have c7b0 : decide (e6 < 0) = false := decide_eq_false c7
    clear c7
    (first | rw [c7b0] | (simp only [i64_w, i32_w]; rw [c7b0]) | skip)
    have H' := Aside0.mk H
    clear H
    obtain ⟨hcz11_0, hcz11_1, hcz11_2, hcz11_3, hcz11_4, hcz11_5, hcz11_6, hcz11_7, hcz11_8, hcz11_9, hcz11_10, hcz11_11, hcz11_12⟩ := cz13 BK119.out
    obtain ⟨hfz11_0, hfz11_1, hfz11_2, hfz11_3, hfz11_4, hfz11_5, hfz11_6, hfz11_7, hfz11_8, hfz11_9, hfz11_10, hfz11_11, hfz11_12⟩ := fz13 BK119.out
    go_wp2_with (first | ((with_reducible refine gate_callee (f := 44) rfl ?_); refine goesL_ (some 10) rfl rfl Try.func44 t_8e rfl #[.agg #[.string e0, .string e1, .string e2, .int .i64 e3, .int .i64 e4]] rfl t_45 ?_; (with_reducible refine (job_Valid.calls e0 e1 e2 e3 e4 true _ A5.out).mono ?_); rintro e w12 ⟨rfl, hb⟩; refine ⟨_, rfl, ?_⟩; replace BK119 := kc BK119 hb; replace HB := Aside0.mk (below_step t_34 hb); (try clear hb); (try clear hb2); (try clear hk); (try clear hi); obtain ⟨hcz13_0, hcz13_1, hcz13_2, hcz13_3, hcz13_4, hcz13_5, hcz13_6, hcz13_7, hcz13_8, hcz13_9, hcz13_10, hcz13_11, hcz13_12⟩ := sqc13 BK119.out; obtain ⟨hfz13_0, hfz13_1, hfz13_2, hfz13_3, hfz13_4, hfz13_5, hfz13_6, hfz13_7, hfz13_8, hfz13_9, hfz13_10, hfz13_11, hfz13_12⟩ := frozen13 BK119.out))
    go_meet
    case rel => exact ⟨_, (decide (e6 > a1)), t_7f, H', ⟨t_84⟩, ⟨t_61⟩, ⟨t_34⟩⟩
  ·replace c6 := Bool.eq_false_iff.mpr c6
   subst c6
   rw [if_neg (show ¬ (false = true) by decide)] at H
   have H' := Aside0.mk H
   clear H
   obtain ⟨hcz14_0, hcz14_1, hcz14_2, hcz14_3, hcz14_4, hcz14_5, hcz14_6, hcz14_7, hcz14_8, hcz14_9, hcz14_10, hcz14_11, hcz14_12⟩ := cz13 BK119.out
   obtain ⟨hfz14_0, hfz14_1, hfz14_2, hfz14_3, hfz14_4, hfz14_5, hfz14_6, hfz14_7, hfz14_8, hfz14_9, hfz14_10, hfz14_11, hfz14_12⟩ := fz13 BK119.out
   go_wp2_with (first | ((with_reducible refine gate_callee (f := 44) rfl ?_); refine goesL_ (some 10) rfl rfl Try.func44 t_8e rfl #[.agg #[.string e0, .string e1, .string e2, .int .i64 e3, .int .i64 e4]] rfl t_45 ?_; (with_reducible refine (job_Valid.calls e0 e1 e2 e3 e4 false _ A5.out).mono ?_); rintro e w15 ⟨rfl, hb⟩; refine ⟨_, rfl, ?_⟩; replace BK119 := kc BK119 hb; replace HB := Aside0.mk (below_step t_34 hb); (try clear hb); (try clear hb2); (try clear hk); (try clear hi)))
   go_meet
   case rel => exact ⟨_, (true), t_7f, H', ⟨t_84⟩, ⟨t_61⟩, ⟨t_34⟩⟩
 case rest =>
  clear HC3
  try clear p2
  try clear c4
  try clear c6
  try clear c7
  try clear c7b0
  try clear c9
  try clear hcz10_0 hcz10_1 hcz10_10 hcz10_11 hcz10_12 hcz10_2 hcz10_3 hcz10_4 hcz10_5 hcz10_6 hcz10_7 hcz10_8 hcz10_9
  try clear hcz11_0 hcz11_1 hcz11_10 hcz11_11 hcz11_12 hcz11_2 hcz11_3 hcz11_4 hcz11_5 hcz11_6 hcz11_7 hcz11_8 hcz11_9
  try clear hcz13_0 hcz13_1 hcz13_10 hcz13_11 hcz13_12 hcz13_2 hcz13_3 hcz13_4 hcz13_5 hcz13_6 hcz13_7 hcz13_8 hcz13_9
  try clear hcz14_0 hcz14_1 hcz14_10 hcz14_11 hcz14_12 hcz14_2 hcz14_3 hcz14_4 hcz14_5 hcz14_6 hcz14_7 hcz14_8 hcz14_9
  try clear hcz8_0 hcz8_1 hcz8_10 hcz8_11 hcz8_12 hcz8_2 hcz8_3 hcz8_4 hcz8_5 hcz8_6 hcz8_7 hcz8_8 hcz8_9
  try clear hfz10_0 hfz10_1 hfz10_10 hfz10_11 hfz10_12 hfz10_2 hfz10_3 hfz10_4 hfz10_5 hfz10_6 hfz10_7 hfz10_8 hfz10_9
  try clear hfz11_0 hfz11_1 hfz11_10 hfz11_11 hfz11_12 hfz11_2 hfz11_3 hfz11_4 hfz11_5 hfz11_6 hfz11_7 hfz11_8 hfz11_9
  try clear hfz13_0 hfz13_1 hfz13_10 hfz13_11 hfz13_12 hfz13_2 hfz13_3 hfz13_4 hfz13_5 hfz13_6 hfz13_7 hfz13_8 hfz13_9
  try clear hfz14_0 hfz14_1 hfz14_10 hfz14_11 hfz14_12 hfz14_2 hfz14_3 hfz14_4 hfz14_5 hfz14_6 hfz14_7 hfz14_8 hfz14_9
  try clear hfz8_0 hfz8_1 hfz8_10 hfz8_11 hfz8_12 hfz8_2 hfz8_3 hfz8_4 hfz8_5 hfz8_6 hfz8_7 hfz8_8 hfz8_9
  obtain ⟨kq, x22_2, rfl, HA, HJ2, BK119, HB⟩ := hcut
  cases kq with
  | zero => exact absurd HA.out (by simp [job_right.j0])
  | succ kj2 =>
   have H := HA.out
   clear HA
   simp only [job_right.j0] at H
   by_cases c16 : x22_2 = true
   ·subst c16
    rw [if_pos rfl] at H
    obtain rfl := Option.some.inj H
    go_wp2
    go_ret
    exact ⟨t_68, t_34⟩
   ·replace c16 := Bool.eq_false_iff.mpr c16
    subst c16
    rw [if_neg (show ¬ (false = true) by decide)] at H
    have HC17 := Aside0.mk H
    clear H
    obtain ⟨hcz18_0, hcz18_1, hcz18_2, hcz18_3, hcz18_4, hcz18_5, hcz18_6, hcz18_7, hcz18_8, hcz18_9, hcz18_10, hcz18_11, hcz18_12⟩ := cz13 BK119.out
    obtain ⟨hfz18_0, hfz18_1, hfz18_2, hfz18_3, hfz18_4, hfz18_5, hfz18_6, hfz18_7, hfz18_8, hfz18_9, hfz18_10, hfz18_11, hfz18_12⟩ := fz13 BK119.out
    go_upto_block 0 with (fail)
    go_cut [5, 6, 7] (fun v5 v6 v7 wc => ∃ (kq : Nat) (x5_16 : Bool) (x6_16 : Bool) (x7_16 : Bool), v5 = .bool x5_16 ∧ v6 = .bool x6_16 ∧ v7 = .bool x7_16 ∧ Aside0 (job_right.j2 kq x5_16 x6_16 x7_16 e0 e1 e2 e3 e4 e5 e6 e7 e8 e9 e10 e11 e12 = some r) ∧ Aside0 (kq ≤ kj2) ∧ Aside0 (wc.heap[gb119]? = some (.cells #[.string e0, .string e1, .string e2, .int .i64 e3, .int .i64 e4, .int .i64 e5, .int .i64 e6, .int .i64 e7, .int .i64 e8, .string e9, .string e10, .int .i64 e11, .int .i64 e12] 99 (0, 0))) ∧ Aside0 (Below w.heap.size w wc))
    case first =>
     have H := HC17.out
     clear HC17
     have HC19 := Aside0.mk H
     clear H
     go_upto_if 25 with (fail)
     go_cut [25] (fun v25 wc => ∃ (kq : Nat) (x25_18 : Bool), v25 = .bool x25_18 ∧ Aside0 (job_right.j1 kq false false false e5 x25_18 e0 e1 e2 e3 e4 e5 e6 e7 e8 e9 e10 e11 e12 = some r) ∧ Aside0 (kq ≤ kj2) ∧ Aside0 (wc.heap[gb119]? = some (.cells #[.string e0, .string e1, .string e2, .int .i64 e3, .int .i64 e4, .int .i64 e5, .int .i64 e6, .int .i64 e7, .int .i64 e8, .string e9, .string e10, .int .i64 e11, .int .i64 e12] 99 (0, 0))) ∧ Aside0 (Below w.heap.size w wc))
     case first =>
      have H := HC19.out
      clear HC19
      by_cases c20 : e5 = 1
      ·rw [if_pos c20] at H
       have c20b0 : (e5 == 1) = true := beq_iff_eq.mpr c20
       have c20b1 : (e5 != 1) = false := bne_eq_false_iff_eq.mpr c20
       clear c20
       (first | rw [c20b0] | (simp only [i64_w, i32_w]; rw [c20b0]) | skip)
       have H' := Aside0.mk H
       clear H
       go_wp2
       go_meet
       case rel => exact ⟨_, ((e5 == 1)), t_7f, H', ⟨by have := HJ2.out; first | omega | exact Nat.le_refl _⟩, ⟨t_61⟩, ⟨t_34⟩⟩
      ·rw [if_neg c20] at H
       have c20b0 : (e5 == 1) = false := beq_eq_false_iff_ne.mpr c20
       have c20b1 : (e5 != 1) = true := bne_iff_ne.mpr c20
       (first | rw [c20b0] | (simp only [i64_w, i32_w]; rw [c20b0]) | skip)
       have H' := Aside0.mk H
       clear H
       go_wp2
       go_meet
       case rel => exact ⟨_, ((e5 == 5)), t_7f, H', ⟨by have := HJ2.out; first | omega | exact Nat.le_refl _⟩, ⟨t_61⟩, ⟨t_34⟩⟩
     case rest =>
      clear HC19
      try clear c1
      try clear c2
      try clear p2
      try clear c4
      try clear c6
      try clear c7
      try clear c7b0
      try clear c9
      try clear c16
      try clear c20
      try clear c20b0
      try clear c20b1
      try clear hcz10_0 hcz10_1 hcz10_10 hcz10_11 hcz10_12 hcz10_2 hcz10_3 hcz10_4 hcz10_5 hcz10_6 hcz10_7 hcz10_8 hcz10_9
      try clear hcz11_0 hcz11_1 hcz11_10 hcz11_11 hcz11_12 hcz11_2 hcz11_3 hcz11_4 hcz11_5 hcz11_6 hcz11_7 hcz11_8 hcz11_9
      try clear hcz13_0 hcz13_1 hcz13_10 hcz13_11 hcz13_12 hcz13_2 hcz13_3 hcz13_4 hcz13_5 hcz13_6 hcz13_7 hcz13_8 hcz13_9
      try clear hcz14_0 hcz14_1 hcz14_10 hcz14_11 hcz14_12 hcz14_2 hcz14_3 hcz14_4 hcz14_5 hcz14_6 hcz14_7 hcz14_8 hcz14_9
      try clear hcz18_0 hcz18_1 hcz18_10 hcz18_11 hcz18_12 hcz18_2 hcz18_3 hcz18_4 hcz18_5 hcz18_6 hcz18_7 hcz18_8 hcz18_9
      try clear hcz8_0 hcz8_1 hcz8_10 hcz8_11 hcz8_12 hcz8_2 hcz8_3 hcz8_4 hcz8_5 hcz8_6 hcz8_7 hcz8_8 hcz8_9
      try clear hfz10_0 hfz10_1 hfz10_10 hfz10_11 hfz10_12 hfz10_2 hfz10_3 hfz10_4 hfz10_5 hfz10_6 hfz10_7 hfz10_8 hfz10_9
      try clear hfz11_0 hfz11_1 hfz11_10 hfz11_11 hfz11_12 hfz11_2 hfz11_3 hfz11_4 hfz11_5 hfz11_6 hfz11_7 hfz11_8 hfz11_9
      try clear hfz13_0 hfz13_1 hfz13_10 hfz13_11 hfz13_12 hfz13_2 hfz13_3 hfz13_4 hfz13_5 hfz13_6 hfz13_7 hfz13_8 hfz13_9
      try clear hfz14_0 hfz14_1 hfz14_10 hfz14_11 hfz14_12 hfz14_2 hfz14_3 hfz14_4 hfz14_5 hfz14_6 hfz14_7 hfz14_8 hfz14_9
      try clear hfz18_0 hfz18_1 hfz18_10 hfz18_11 hfz18_12 hfz18_2 hfz18_3 hfz18_4 hfz18_5 hfz18_6 hfz18_7 hfz18_8 hfz18_9
      try clear hfz8_0 hfz8_1 hfz8_10 hfz8_11 hfz8_12 hfz8_2 hfz8_3 hfz8_4 hfz8_5 hfz8_6 hfz8_7 hfz8_8 hfz8_9
      try clear p2
      obtain ⟨kq, x25_18, rfl, HA, HJ18, BK119, HB⟩ := hcut
      cases kq with
      | zero => exact absurd HA.out (by simp [job_right.j1])
      | succ kj18 =>
       have H := HA.out
       clear HA
       simp only [job_right.j1] at H
       by_cases c21 : x25_18 = true
       ·subst c21
        rw [if_pos rfl] at H
        have H' := Aside0.mk H
        clear H
        go_wp2
        go_meet
        case rel => exact ⟨_, (false), (false), (false), t_7f, t_7f, t_7f, H', ⟨t_6b⟩, ⟨t_61⟩, ⟨t_34⟩⟩
       ·replace c21 := Bool.eq_false_iff.mpr c21
        subst c21
        rw [if_neg (show ¬ (false = true) by decide)] at H
        by_cases c22 : e5 = 2
        ·rw [if_pos c22] at H
         have c22b0 : (e5 == 2) = true := beq_iff_eq.mpr c22
         have c22b1 : (e5 != 2) = false := bne_eq_false_iff_eq.mpr c22
         clear c22
         have H' := Aside0.mk H
         clear H
         go_wp2
         go_meet
         case rel => exact ⟨_, (true), (false), (true), t_7f, t_7f, t_7f, H', ⟨t_6b⟩, ⟨t_61⟩, ⟨t_34⟩⟩
        ·rw [if_neg c22] at H
         have c22b0 : (e5 == 2) = false := beq_eq_false_iff_ne.mpr c22
         have c22b1 : (e5 != 2) = true := bne_iff_ne.mpr c22
         by_cases c23 : e5 = 3
         ·rw [if_pos c23] at H
          have c23b0 : (e5 == 3) = true := beq_iff_eq.mpr c23
          have c23b1 : (e5 != 3) = false := bne_eq_false_iff_eq.mpr c23
          clear c23
          have H' := Aside0.mk H
          clear H
          go_wp2
          go_meet
          case rel => exact ⟨_, (true), (true), (false), t_7f, t_7f, t_7f, H', ⟨t_6b⟩, ⟨t_61⟩, ⟨t_34⟩⟩
         ·rw [if_neg c23] at H
          have c23b0 : (e5 == 3) = false := beq_eq_false_iff_ne.mpr c23
          have c23b1 : (e5 != 3) = true := bne_iff_ne.mpr c23
          by_cases c24 : e5 = 4
          ·rw [if_pos c24] at H
           have c24b0 : (e5 == 4) = true := beq_iff_eq.mpr c24
           have c24b1 : (e5 != 4) = false := bne_eq_false_iff_eq.mpr c24
           clear c24
           have H' := Aside0.mk H
           clear H
           go_wp2
           go_meet
           case rel => exact ⟨_, (true), (true), (false), t_7f, t_7f, t_7f, H', ⟨t_6b⟩, ⟨t_61⟩, ⟨t_34⟩⟩
          ·rw [if_neg c24] at H
           have c24b0 : (e5 == 4) = false := beq_eq_false_iff_ne.mpr c24
           have c24b1 : (e5 != 4) = true := bne_iff_ne.mpr c24
           obtain rfl := Option.some.inj H
           go_wp2
           go_ret
           exact ⟨t_68, t_34⟩
    case rest =>
     clear HC17
     try clear c1
     try clear c2
     try clear p2
     try clear c4
     try clear c6
     try clear c7
     try clear c7b0
     try clear c9
     try clear c16
     try clear c20
     try clear c20b0
     try clear c20b1
     try clear c21
     try clear c22
     try clear c22b0
     try clear c22b1
     try clear c23
     try clear c23b0
     try clear c23b1
     try clear c24
     try clear c24b0
     try clear c24b1
     try clear hcz10_0 hcz10_1 hcz10_10 hcz10_11 hcz10_12 hcz10_2 hcz10_3 hcz10_4 hcz10_5 hcz10_6 hcz10_7 hcz10_8 hcz10_9
     try clear hcz11_0 hcz11_1 hcz11_10 hcz11_11 hcz11_12 hcz11_2 hcz11_3 hcz11_4 hcz11_5 hcz11_6 hcz11_7 hcz11_8 hcz11_9
     try clear hcz13_0 hcz13_1 hcz13_10 hcz13_11 hcz13_12 hcz13_2 hcz13_3 hcz13_4 hcz13_5 hcz13_6 hcz13_7 hcz13_8 hcz13_9
     try clear hcz14_0 hcz14_1 hcz14_10 hcz14_11 hcz14_12 hcz14_2 hcz14_3 hcz14_4 hcz14_5 hcz14_6 hcz14_7 hcz14_8 hcz14_9
     try clear hcz18_0 hcz18_1 hcz18_10 hcz18_11 hcz18_12 hcz18_2 hcz18_3 hcz18_4 hcz18_5 hcz18_6 hcz18_7 hcz18_8 hcz18_9
     try clear hcz8_0 hcz8_1 hcz8_10 hcz8_11 hcz8_12 hcz8_2 hcz8_3 hcz8_4 hcz8_5 hcz8_6 hcz8_7 hcz8_8 hcz8_9
     try clear hfz10_0 hfz10_1 hfz10_10 hfz10_11 hfz10_12 hfz10_2 hfz10_3 hfz10_4 hfz10_5 hfz10_6 hfz10_7 hfz10_8 hfz10_9
     try clear hfz11_0 hfz11_1 hfz11_10 hfz11_11 hfz11_12 hfz11_2 hfz11_3 hfz11_4 hfz11_5 hfz11_6 hfz11_7 hfz11_8 hfz11_9
     try clear hfz13_0 hfz13_1 hfz13_10 hfz13_11 hfz13_12 hfz13_2 hfz13_3 hfz13_4 hfz13_5 hfz13_6 hfz13_7 hfz13_8 hfz13_9
     try clear hfz14_0 hfz14_1 hfz14_10 hfz14_11 hfz14_12 hfz14_2 hfz14_3 hfz14_4 hfz14_5 hfz14_6 hfz14_7 hfz14_8 hfz14_9
     try clear hfz18_0 hfz18_1 hfz18_10 hfz18_11 hfz18_12 hfz18_2 hfz18_3 hfz18_4 hfz18_5 hfz18_6 hfz18_7 hfz18_8 hfz18_9
     try clear hfz8_0 hfz8_1 hfz8_10 hfz8_11 hfz8_12 hfz8_2 hfz8_3 hfz8_4 hfz8_5 hfz8_6 hfz8_7 hfz8_8 hfz8_9
     try clear p2
     obtain ⟨kq, x5_16, x6_16, x7_16, rfl, rfl, rfl, HA, HJ16, BK119, HB⟩ := hcut
     cases kq with
     | zero => exact absurd HA.out (by simp [job_right.j2])
     | succ kj16 =>
      have H := HA.out
      clear HA
      simp only [job_right.j2] at H
      have HC25 := Aside0.mk H
      clear H
      go_upto_region 13 with (fail)
      go_cut [70] (fun v70 wc => ∃ (kq : Nat) (x70_24 : Bool), v70 = .bool x70_24 ∧ Aside0 (job_right.j3 kq x7_16 x70_24 e0 e1 e2 e3 e4 e5 e6 e7 e8 e9 e10 e11 e12 = some r) ∧ Aside0 (kq ≤ kj16) ∧ Aside0 (wc.heap[gb119]? = some (.cells #[.string e0, .string e1, .string e2, .int .i64 e3, .int .i64 e4, .int .i64 e5, .int .i64 e6, .int .i64 e7, .int .i64 e8, .string e9, .string e10, .int .i64 e11, .int .i64 e12] 99 (0, 0))) ∧ Aside0 (Below w.heap.size w wc))
      case first =>
       have H := HC25.out
       clear HC25
       by_cases c26 : (x5_16 != (decide (e7 ≥ 1))) = true
       ·rw [if_pos c26] at H
        have c26b0 : (x5_16 != (decide (e7 ≥ 1))) = true := c26
        (try (have c26b1 : decide (x5_16 = (decide (e7 ≥ 1))) = false := by simpa using c26))
        (try (have c26b2 : (x5_16 == (decide (e7 ≥ 1))) = false := by simpa using c26))
        (try (have c26b3 : ¬ (x5_16 = (decide (e7 ≥ 1))) := by simpa using c26))
        clear c26
        (first | rw [c26b0] | (simp only [i64_w, i32_w]; rw [c26b0]) | skip)
        have H' := Aside0.mk H
        clear H
        obtain ⟨hcz27_0, hcz27_1, hcz27_2, hcz27_3, hcz27_4, hcz27_5, hcz27_6, hcz27_7, hcz27_8, hcz27_9, hcz27_10, hcz27_11, hcz27_12⟩ := cz13 BK119.out
        obtain ⟨hfz27_0, hfz27_1, hfz27_2, hfz27_3, hfz27_4, hfz27_5, hfz27_6, hfz27_7, hfz27_8, hfz27_9, hfz27_10, hfz27_11, hfz27_12⟩ := fz13 BK119.out
        go_wp2
        go_meet
        case rel => exact ⟨_, (true), t_7f, H', ⟨t_6c⟩, ⟨t_61⟩, ⟨t_34⟩⟩
       ·rw [if_neg c26] at H
        have c26b0 : (x5_16 != (decide (e7 ≥ 1))) = false := by simpa using c26
        (try (have c26b1 : decide (x5_16 = (decide (e7 ≥ 1))) = true := by simpa using c26))
        (try (have c26b2 : (x5_16 == (decide (e7 ≥ 1))) = true := by simpa using c26))
        clear c26
        (first | rw [c26b0] | (simp only [i64_w, i32_w]; rw [c26b0]) | skip)
        by_cases c28 : x5_16 = true
        ·subst c28
         rw [if_pos rfl] at H
         by_cases c29 : x6_16 = true
         ·subst c29
          rw [if_pos rfl] at H
          by_cases c30 : e8 < 1
          ·rw [if_pos c30] at H
           have c30b0 : decide (e8 < 1) = true := decide_eq_true c30
           clear c30
           have H' := Aside0.mk H
           clear H
           obtain ⟨hcz31_0, hcz31_1, hcz31_2, hcz31_3, hcz31_4, hcz31_5, hcz31_6, hcz31_7, hcz31_8, hcz31_9, hcz31_10, hcz31_11, hcz31_12⟩ := cz13 BK119.out
           obtain ⟨hfz31_0, hfz31_1, hfz31_2, hfz31_3, hfz31_4, hfz31_5, hfz31_6, hfz31_7, hfz31_8, hfz31_9, hfz31_10, hfz31_11, hfz31_12⟩ := fz13 BK119.out
           go_wp2
           go_meet
           case rel => exact ⟨_, (true), t_7f, H', ⟨t_6c⟩, ⟨t_61⟩, ⟨t_34⟩⟩
          ·rw [if_neg c30] at H
           have c30b0 : decide (e8 < 1) = false := decide_eq_false c30
           clear c30
           by_cases c32 : e8 > e7
           ·rw [if_pos c32] at H
            have c32b0 : decide (e7 < e8) = true := decide_eq_true c32
            clear c32
            have H' := Aside0.mk H
            clear H
            obtain ⟨hcz33_0, hcz33_1, hcz33_2, hcz33_3, hcz33_4, hcz33_5, hcz33_6, hcz33_7, hcz33_8, hcz33_9, hcz33_10, hcz33_11, hcz33_12⟩ := cz13 BK119.out
            obtain ⟨hfz33_0, hfz33_1, hfz33_2, hfz33_3, hfz33_4, hfz33_5, hfz33_6, hfz33_7, hfz33_8, hfz33_9, hfz33_10, hfz33_11, hfz33_12⟩ := fz13 BK119.out
            go_wp2
            go_meet
            case rel => exact ⟨_, (true), t_7f, H', ⟨t_6c⟩, ⟨t_61⟩, ⟨t_34⟩⟩
           ·rw [if_neg c32] at H
            have c32b0 : decide (e7 < e8) = false := decide_eq_false c32
            clear c32
            have H' := Aside0.mk H
            clear H
            obtain ⟨hcz34_0, hcz34_1, hcz34_2, hcz34_3, hcz34_4, hcz34_5, hcz34_6, hcz34_7, hcz34_8, hcz34_9, hcz34_10, hcz34_11, hcz34_12⟩ := cz13 BK119.out
            obtain ⟨hfz34_0, hfz34_1, hfz34_2, hfz34_3, hfz34_4, hfz34_5, hfz34_6, hfz34_7, hfz34_8, hfz34_9, hfz34_10, hfz34_11, hfz34_12⟩ := fz13 BK119.out
            go_wp2
            go_meet
            case rel => exact ⟨_, (false), t_7f, H', ⟨t_6c⟩, ⟨t_61⟩, ⟨t_34⟩⟩
         ·replace c29 := Bool.eq_false_iff.mpr c29
          subst c29
          rw [if_neg (show ¬ (false = true) by decide)] at H
          have H' := Aside0.mk H
          clear H
          obtain ⟨hcz35_0, hcz35_1, hcz35_2, hcz35_3, hcz35_4, hcz35_5, hcz35_6, hcz35_7, hcz35_8, hcz35_9, hcz35_10, hcz35_11, hcz35_12⟩ := cz13 BK119.out
          obtain ⟨hfz35_0, hfz35_1, hfz35_2, hfz35_3, hfz35_4, hfz35_5, hfz35_6, hfz35_7, hfz35_8, hfz35_9, hfz35_10, hfz35_11, hfz35_12⟩ := fz13 BK119.out
          go_wp2
          go_meet
          case rel => exact ⟨_, ((e8 != 0)), t_7f, H', ⟨t_6c⟩, ⟨t_61⟩, ⟨t_34⟩⟩
        ·replace c28 := Bool.eq_false_iff.mpr c28
         subst c28
         rw [if_neg (show ¬ (false = true) by decide)] at H
         by_cases c36 : e7 = 0
         ·rw [if_pos c36] at H
          have c36b0 : (e7 == 0) = true := beq_iff_eq.mpr c36
          have c36b1 : (e7 != 0) = false := bne_eq_false_iff_eq.mpr c36
          clear c36
          by_cases c37 : x6_16 = true
          ·subst c37
           rw [if_pos rfl] at H
           by_cases c38 : e8 < 1
           ·rw [if_pos c38] at H
            have c38b0 : decide (e8 < 1) = true := decide_eq_true c38
            clear c38
            have H' := Aside0.mk H
            clear H
            obtain ⟨hcz39_0, hcz39_1, hcz39_2, hcz39_3, hcz39_4, hcz39_5, hcz39_6, hcz39_7, hcz39_8, hcz39_9, hcz39_10, hcz39_11, hcz39_12⟩ := cz13 BK119.out
            obtain ⟨hfz39_0, hfz39_1, hfz39_2, hfz39_3, hfz39_4, hfz39_5, hfz39_6, hfz39_7, hfz39_8, hfz39_9, hfz39_10, hfz39_11, hfz39_12⟩ := fz13 BK119.out
            go_wp2
            go_meet
            case rel => exact ⟨_, (true), t_7f, H', ⟨t_6c⟩, ⟨t_61⟩, ⟨t_34⟩⟩
           ·rw [if_neg c38] at H
            have c38b0 : decide (e8 < 1) = false := decide_eq_false c38
            clear c38
            by_cases c40 : e8 > e7
            ·rw [if_pos c40] at H
             have c40b0 : decide (e7 < e8) = true := decide_eq_true c40
             clear c40
             have H' := Aside0.mk H
             clear H
             obtain ⟨hcz41_0, hcz41_1, hcz41_2, hcz41_3, hcz41_4, hcz41_5, hcz41_6, hcz41_7, hcz41_8, hcz41_9, hcz41_10, hcz41_11, hcz41_12⟩ := cz13 BK119.out
             obtain ⟨hfz41_0, hfz41_1, hfz41_2, hfz41_3, hfz41_4, hfz41_5, hfz41_6, hfz41_7, hfz41_8, hfz41_9, hfz41_10, hfz41_11, hfz41_12⟩ := fz13 BK119.out
             go_wp2
             go_meet
             case rel => exact ⟨_, (true), t_7f, H', ⟨t_6c⟩, ⟨t_61⟩, ⟨t_34⟩⟩
            ·rw [if_neg c40] at H
             have c40b0 : decide (e7 < e8) = false := decide_eq_false c40
             clear c40
             have H' := Aside0.mk H
             clear H
             obtain ⟨hcz42_0, hcz42_1, hcz42_2, hcz42_3, hcz42_4, hcz42_5, hcz42_6, hcz42_7, hcz42_8, hcz42_9, hcz42_10, hcz42_11, hcz42_12⟩ := cz13 BK119.out
             obtain ⟨hfz42_0, hfz42_1, hfz42_2, hfz42_3, hfz42_4, hfz42_5, hfz42_6, hfz42_7, hfz42_8, hfz42_9, hfz42_10, hfz42_11, hfz42_12⟩ := fz13 BK119.out
             go_wp2
             go_meet
             case rel => exact ⟨_, (false), t_7f, H', ⟨t_6c⟩, ⟨t_61⟩, ⟨t_34⟩⟩
          ·replace c37 := Bool.eq_false_iff.mpr c37
           subst c37
           rw [if_neg (show ¬ (false = true) by decide)] at H
           have H' := Aside0.mk H
           clear H
           obtain ⟨hcz43_0, hcz43_1, hcz43_2, hcz43_3, hcz43_4, hcz43_5, hcz43_6, hcz43_7, hcz43_8, hcz43_9, hcz43_10, hcz43_11, hcz43_12⟩ := cz13 BK119.out
           obtain ⟨hfz43_0, hfz43_1, hfz43_2, hfz43_3, hfz43_4, hfz43_5, hfz43_6, hfz43_7, hfz43_8, hfz43_9, hfz43_10, hfz43_11, hfz43_12⟩ := fz13 BK119.out
           go_wp2
           go_meet
           case rel => exact ⟨_, ((e8 != 0)), t_7f, H', ⟨t_6c⟩, ⟨t_61⟩, ⟨t_34⟩⟩
         ·rw [if_neg c36] at H
          have c36b0 : (e7 == 0) = false := beq_eq_false_iff_ne.mpr c36
          have c36b1 : (e7 != 0) = true := bne_iff_ne.mpr c36
          have H' := Aside0.mk H
          clear H
          obtain ⟨hcz44_0, hcz44_1, hcz44_2, hcz44_3, hcz44_4, hcz44_5, hcz44_6, hcz44_7, hcz44_8, hcz44_9, hcz44_10, hcz44_11, hcz44_12⟩ := cz13 BK119.out
          obtain ⟨hfz44_0, hfz44_1, hfz44_2, hfz44_3, hfz44_4, hfz44_5, hfz44_6, hfz44_7, hfz44_8, hfz44_9, hfz44_10, hfz44_11, hfz44_12⟩ := fz13 BK119.out
          go_wp2
          go_meet
          case rel => exact ⟨_, (true), t_7f, H', ⟨t_6c⟩, ⟨t_61⟩, ⟨t_34⟩⟩
      case rest =>
       clear HC25
       try clear c1
       try clear c2
       try clear p2
       try clear c3
       try clear c4
       try clear c6
       try clear c7
       try clear c7b0
       try clear c9
       try clear c16
       try clear c20
       try clear c20b0
       try clear c20b1
       try clear c21
       try clear c22
       try clear c22b0
       try clear c22b1
       try clear c23
       try clear c23b0
       try clear c23b1
       try clear c24
       try clear c24b0
       try clear c24b1
       try clear c26
       try clear c26b0
       try clear c26b1
       try clear c26b2
       try clear c28
       try clear c29
       try clear c30
       try clear c30b0
       try clear c32
       try clear c32b0
       try clear c36
       try clear c36b0
       try clear c36b1
       try clear c37
       try clear c38
       try clear c38b0
       try clear c40
       try clear c40b0
       try clear hcz10_0 hcz10_1 hcz10_10 hcz10_11 hcz10_12 hcz10_2 hcz10_3 hcz10_4 hcz10_5 hcz10_6 hcz10_7 hcz10_8 hcz10_9
       try clear hcz11_0 hcz11_1 hcz11_10 hcz11_11 hcz11_12 hcz11_2 hcz11_3 hcz11_4 hcz11_5 hcz11_6 hcz11_7 hcz11_8 hcz11_9
       try clear hcz13_0 hcz13_1 hcz13_10 hcz13_11 hcz13_12 hcz13_2 hcz13_3 hcz13_4 hcz13_5 hcz13_6 hcz13_7 hcz13_8 hcz13_9
       try clear hcz14_0 hcz14_1 hcz14_10 hcz14_11 hcz14_12 hcz14_2 hcz14_3 hcz14_4 hcz14_5 hcz14_6 hcz14_7 hcz14_8 hcz14_9
       try clear hcz18_0 hcz18_1 hcz18_10 hcz18_11 hcz18_12 hcz18_2 hcz18_3 hcz18_4 hcz18_5 hcz18_6 hcz18_7 hcz18_8 hcz18_9
       try clear hcz27_0 hcz27_1 hcz27_10 hcz27_11 hcz27_12 hcz27_2 hcz27_3 hcz27_4 hcz27_5 hcz27_6 hcz27_7 hcz27_8 hcz27_9
       try clear hcz31_0 hcz31_1 hcz31_10 hcz31_11 hcz31_12 hcz31_2 hcz31_3 hcz31_4 hcz31_5 hcz31_6 hcz31_7 hcz31_8 hcz31_9
       try clear hcz33_0 hcz33_1 hcz33_10 hcz33_11 hcz33_12 hcz33_2 hcz33_3 hcz33_4 hcz33_5 hcz33_6 hcz33_7 hcz33_8 hcz33_9
       try clear hcz34_0 hcz34_1 hcz34_10 hcz34_11 hcz34_12 hcz34_2 hcz34_3 hcz34_4 hcz34_5 hcz34_6 hcz34_7 hcz34_8 hcz34_9
       try clear hcz35_0 hcz35_1 hcz35_10 hcz35_11 hcz35_12 hcz35_2 hcz35_3 hcz35_4 hcz35_5 hcz35_6 hcz35_7 hcz35_8 hcz35_9
       try clear hcz39_0 hcz39_1 hcz39_10 hcz39_11 hcz39_12 hcz39_2 hcz39_3 hcz39_4 hcz39_5 hcz39_6 hcz39_7 hcz39_8 hcz39_9
       try clear hcz41_0 hcz41_1 hcz41_10 hcz41_11 hcz41_12 hcz41_2 hcz41_3 hcz41_4 hcz41_5 hcz41_6 hcz41_7 hcz41_8 hcz41_9
       try clear hcz42_0 hcz42_1 hcz42_10 hcz42_11 hcz42_12 hcz42_2 hcz42_3 hcz42_4 hcz42_5 hcz42_6 hcz42_7 hcz42_8 hcz42_9
       try clear hcz43_0 hcz43_1 hcz43_10 hcz43_11 hcz43_12 hcz43_2 hcz43_3 hcz43_4 hcz43_5 hcz43_6 hcz43_7 hcz43_8 hcz43_9
       try clear hcz44_0 hcz44_1 hcz44_10 hcz44_11 hcz44_12 hcz44_2 hcz44_3 hcz44_4 hcz44_5 hcz44_6 hcz44_7 hcz44_8 hcz44_9
       try clear hcz8_0 hcz8_1 hcz8_10 hcz8_11 hcz8_12 hcz8_2 hcz8_3 hcz8_4 hcz8_5 hcz8_6 hcz8_7 hcz8_8 hcz8_9
       try clear hfz10_0 hfz10_1 hfz10_10 hfz10_11 hfz10_12 hfz10_2 hfz10_3 hfz10_4 hfz10_5 hfz10_6 hfz10_7 hfz10_8 hfz10_9
       try clear hfz11_0 hfz11_1 hfz11_10 hfz11_11 hfz11_12 hfz11_2 hfz11_3 hfz11_4 hfz11_5 hfz11_6 hfz11_7 hfz11_8 hfz11_9
       try clear hfz13_0 hfz13_1 hfz13_10 hfz13_11 hfz13_12 hfz13_2 hfz13_3 hfz13_4 hfz13_5 hfz13_6 hfz13_7 hfz13_8 hfz13_9
       try clear hfz14_0 hfz14_1 hfz14_10 hfz14_11 hfz14_12 hfz14_2 hfz14_3 hfz14_4 hfz14_5 hfz14_6 hfz14_7 hfz14_8 hfz14_9
       try clear hfz18_0 hfz18_1 hfz18_10 hfz18_11 hfz18_12 hfz18_2 hfz18_3 hfz18_4 hfz18_5 hfz18_6 hfz18_7 hfz18_8 hfz18_9
       try clear hfz27_0 hfz27_1 hfz27_10 hfz27_11 hfz27_12 hfz27_2 hfz27_3 hfz27_4 hfz27_5 hfz27_6 hfz27_7 hfz27_8 hfz27_9
       try clear hfz31_0 hfz31_1 hfz31_10 hfz31_11 hfz31_12 hfz31_2 hfz31_3 hfz31_4 hfz31_5 hfz31_6 hfz31_7 hfz31_8 hfz31_9
       try clear hfz33_0 hfz33_1 hfz33_10 hfz33_11 hfz33_12 hfz33_2 hfz33_3 hfz33_4 hfz33_5 hfz33_6 hfz33_7 hfz33_8 hfz33_9
       try clear hfz34_0 hfz34_1 hfz34_10 hfz34_11 hfz34_12 hfz34_2 hfz34_3 hfz34_4 hfz34_5 hfz34_6 hfz34_7 hfz34_8 hfz34_9
       try clear hfz35_0 hfz35_1 hfz35_10 hfz35_11 hfz35_12 hfz35_2 hfz35_3 hfz35_4 hfz35_5 hfz35_6 hfz35_7 hfz35_8 hfz35_9
       try clear hfz39_0 hfz39_1 hfz39_10 hfz39_11 hfz39_12 hfz39_2 hfz39_3 hfz39_4 hfz39_5 hfz39_6 hfz39_7 hfz39_8 hfz39_9
       try clear hfz41_0 hfz41_1 hfz41_10 hfz41_11 hfz41_12 hfz41_2 hfz41_3 hfz41_4 hfz41_5 hfz41_6 hfz41_7 hfz41_8 hfz41_9
       try clear hfz42_0 hfz42_1 hfz42_10 hfz42_11 hfz42_12 hfz42_2 hfz42_3 hfz42_4 hfz42_5 hfz42_6 hfz42_7 hfz42_8 hfz42_9
       try clear hfz43_0 hfz43_1 hfz43_10 hfz43_11 hfz43_12 hfz43_2 hfz43_3 hfz43_4 hfz43_5 hfz43_6 hfz43_7 hfz43_8 hfz43_9
       try clear hfz44_0 hfz44_1 hfz44_10 hfz44_11 hfz44_12 hfz44_2 hfz44_3 hfz44_4 hfz44_5 hfz44_6 hfz44_7 hfz44_8 hfz44_9
       try clear hfz8_0 hfz8_1 hfz8_10 hfz8_11 hfz8_12 hfz8_2 hfz8_3 hfz8_4 hfz8_5 hfz8_6 hfz8_7 hfz8_8 hfz8_9
       try clear p2
       obtain ⟨kq, x70_24, rfl, HA, HJ24, BK119, HB⟩ := hcut
       cases kq with
       | zero => exact absurd HA.out (by simp [job_right.j3])
       | succ kj24 =>
        have H := HA.out
        clear HA
        simp only [job_right.j3] at H
        by_cases c45 : x70_24 = true
        ·subst c45
         rw [if_pos rfl] at H
         obtain rfl := Option.some.inj H
         go_wp2
         go_ret
         exact ⟨t_68, t_34⟩
        ·replace c45 := Bool.eq_false_iff.mpr c45
         subst c45
         rw [if_neg (show ¬ (false = true) by decide)] at H
         by_cases c46 : x7_16 = true
         ·subst c46
          rw [if_pos rfl] at H
          obtain ⟨y121, hy121⟩ : ∃ y_ : List (S24), y_ = (([(⟨e9, e10, e11, e12⟩ : S24)] : List (S24))) := ⟨_, rfl⟩
          replace H : ((parcel_Valid.f kj24 y121).bind fun t124 => (if t124 = true then (if e9.toList = e1.toList then (some (e11 == e7)) else (some false)) else (some false))) = some r := by first | (rw [hy121]; with_reducible exact H) | (have H2_ := (Option.bind_some _ _).symm.trans H; rw [hy121]; with_reducible exact H2_) | (have H2_ := (Option.bind_some _ _).symm.trans H; with_reducible exact H2_) | with_reducible exact H | (rw [hy121]; exact H) | exact H
          have Ny121 := Aside0.mk hy121
          clear hy121
          replace H := Option.bind_eq_some_iff.mp H
          obtain ⟨t124, A470, H⟩ := H
          try dsimp only at H
          have A47 := Aside0.mk A470
          clear A470
          by_cases c48 : t124 = true
          ·subst c48
           rw [if_pos rfl] at H
           by_cases c49 : e9.toList = e1.toList
           ·rw [if_pos c49] at H
            have c49b0 : (e9.toList == e1.toList) = true := beq_iff_eq.mpr c49
            have c49b1 : (e9.toList != e1.toList) = false := bne_eq_false_iff_eq.mpr c49
            clear c49
            obtain rfl := Option.some.inj H
            obtain ⟨hcz50_0, hcz50_1, hcz50_2, hcz50_3, hcz50_4, hcz50_5, hcz50_6, hcz50_7, hcz50_8, hcz50_9, hcz50_10, hcz50_11, hcz50_12⟩ := cz13 BK119.out
            obtain ⟨hfz50_0, hfz50_1, hfz50_2, hfz50_3, hfz50_4, hfz50_5, hfz50_6, hfz50_7, hfz50_8, hfz50_9, hfz50_10, hfz50_11, hfz50_12⟩ := fz13 BK119.out
            go_wp2_with (first | ((with_reducible refine gate_dst (N := 79) rfl ?_); refine Kd.R_lit k24 _ 24 ?hg (N := 79) ?hd (xs := ([(⟨e9, e10, e11, e12⟩ : S24)] : List (S24))) (inner := [.string e9, .string e10, .int .i64 e11, .int .i64 e12]) (ok := fun _ => True) (okp := fun _ => True) ?hr ?hp (fun _ hk => hk) trivial (Below.refl _ _) (Nat.le_refl _) (by simp) ?_; (case hd => rfl); (case hg => rfl); (case hr => go_simp; try rfl); (case hp => exact (Reps.c4 (show Kd.M k24 _ _ _ (⟨e9, e10, e11, e12⟩ : S24) [.string e9, .string e10, .int .i64 e11, .int .i64 e12] from (k24_mkM _ _ _ (⟨e9, e10, e11, e12⟩ : S24) )) (Reps.none _ _))); intro v122 w51 ho52 hb hg_ hnew_; clear hg_ hnew_; (first | rw [← Ny121.out] at ho52 | (simp only [Int.reduceToNat] at ho52; rw [← Ny121.out] at ho52)); have HO123 := Aside0.mk (Kd.R_lower ho52 (below_size t_34)); replace BK119 := kc BK119 hb; replace HB := Aside0.mk (below_step t_34 hb); clear hb ho52; obtain ⟨Ao53, co53, eo53⟩ := Kd.R_slice HO123.out; subst eo53) | ((with_reducible refine gate_callee (f := 21) rfl ?_); refine goesL_ (some 80) rfl rfl Try.func21 t_8e rfl #[.slice Ao53 y121.length co53] rfl t_45 ?_; (with_reducible refine (parcel_Valid.calls kj24 _ _ y121 true _ ?side1 ?side2 A47.out).mono ?_); (case side1 => exact cl ((Kd.R_reads' HO123.out).2.2)); (case side2 => exact (Kd.R_reads' HO123.out).2.1); rintro e w54 ⟨rfl, hb⟩; refine ⟨_, rfl, ?_⟩; replace HO123 := ko HO123 hb; replace BK119 := kc BK119 hb; replace HB := Aside0.mk (below_step t_34 hb); (try clear hb); (try clear hb2); (try clear hk); (try clear hi); obtain ⟨hcz55_0, hcz55_1, hcz55_2, hcz55_3, hcz55_4, hcz55_5, hcz55_6, hcz55_7, hcz55_8, hcz55_9, hcz55_10, hcz55_11, hcz55_12⟩ := sqc13 BK119.out; obtain ⟨hfz55_0, hfz55_1, hfz55_2, hfz55_3, hfz55_4, hfz55_5, hfz55_6, hfz55_7, hfz55_8, hfz55_9, hfz55_10, hfz55_11, hfz55_12⟩ := frozen13 BK119.out))
            go_ret
            exact ⟨t_68, t_34⟩
           ·rw [if_neg c49] at H
            have c49b0 : (e9.toList == e1.toList) = false := beq_eq_false_iff_ne.mpr c49
            have c49b1 : (e9.toList != e1.toList) = true := bne_iff_ne.mpr c49
            obtain rfl := Option.some.inj H
            obtain ⟨hcz56_0, hcz56_1, hcz56_2, hcz56_3, hcz56_4, hcz56_5, hcz56_6, hcz56_7, hcz56_8, hcz56_9, hcz56_10, hcz56_11, hcz56_12⟩ := cz13 BK119.out
            obtain ⟨hfz56_0, hfz56_1, hfz56_2, hfz56_3, hfz56_4, hfz56_5, hfz56_6, hfz56_7, hfz56_8, hfz56_9, hfz56_10, hfz56_11, hfz56_12⟩ := fz13 BK119.out
            go_wp2_with (first | ((with_reducible refine gate_dst (N := 79) rfl ?_); refine Kd.R_lit k24 _ 24 ?hg (N := 79) ?hd (xs := ([(⟨e9, e10, e11, e12⟩ : S24)] : List (S24))) (inner := [.string e9, .string e10, .int .i64 e11, .int .i64 e12]) (ok := fun _ => True) (okp := fun _ => True) ?hr ?hp (fun _ hk => hk) trivial (Below.refl _ _) (Nat.le_refl _) (by simp) ?_; (case hd => rfl); (case hg => rfl); (case hr => go_simp; try rfl); (case hp => exact (Reps.c4 (show Kd.M k24 _ _ _ (⟨e9, e10, e11, e12⟩ : S24) [.string e9, .string e10, .int .i64 e11, .int .i64 e12] from (k24_mkM _ _ _ (⟨e9, e10, e11, e12⟩ : S24) )) (Reps.none _ _))); intro v122 w57 ho58 hb hg_ hnew_; clear hg_ hnew_; (first | rw [← Ny121.out] at ho58 | (simp only [Int.reduceToNat] at ho58; rw [← Ny121.out] at ho58)); have HO123 := Aside0.mk (Kd.R_lower ho58 (below_size t_34)); replace BK119 := kc BK119 hb; replace HB := Aside0.mk (below_step t_34 hb); clear hb ho58; obtain ⟨Ao59, co59, eo59⟩ := Kd.R_slice HO123.out; subst eo59) | ((with_reducible refine gate_callee (f := 21) rfl ?_); refine goesL_ (some 80) rfl rfl Try.func21 t_8e rfl #[.slice Ao59 y121.length co59] rfl t_45 ?_; (with_reducible refine (parcel_Valid.calls kj24 _ _ y121 true _ ?side1 ?side2 A47.out).mono ?_); (case side1 => exact cl ((Kd.R_reads' HO123.out).2.2)); (case side2 => exact (Kd.R_reads' HO123.out).2.1); rintro e w60 ⟨rfl, hb⟩; refine ⟨_, rfl, ?_⟩; replace HO123 := ko HO123 hb; replace BK119 := kc BK119 hb; replace HB := Aside0.mk (below_step t_34 hb); (try clear hb); (try clear hb2); (try clear hk); (try clear hi); obtain ⟨hcz61_0, hcz61_1, hcz61_2, hcz61_3, hcz61_4, hcz61_5, hcz61_6, hcz61_7, hcz61_8, hcz61_9, hcz61_10, hcz61_11, hcz61_12⟩ := sqc13 BK119.out; obtain ⟨hfz61_0, hfz61_1, hfz61_2, hfz61_3, hfz61_4, hfz61_5, hfz61_6, hfz61_7, hfz61_8, hfz61_9, hfz61_10, hfz61_11, hfz61_12⟩ := frozen13 BK119.out))
            go_ret
            exact ⟨t_68, t_34⟩
          ·replace c48 := Bool.eq_false_iff.mpr c48
           subst c48
           rw [if_neg (show ¬ (false = true) by decide)] at H
           obtain rfl := Option.some.inj H
           obtain ⟨hcz62_0, hcz62_1, hcz62_2, hcz62_3, hcz62_4, hcz62_5, hcz62_6, hcz62_7, hcz62_8, hcz62_9, hcz62_10, hcz62_11, hcz62_12⟩ := cz13 BK119.out
           obtain ⟨hfz62_0, hfz62_1, hfz62_2, hfz62_3, hfz62_4, hfz62_5, hfz62_6, hfz62_7, hfz62_8, hfz62_9, hfz62_10, hfz62_11, hfz62_12⟩ := fz13 BK119.out
           go_wp2_with (first | ((with_reducible refine gate_dst (N := 79) rfl ?_); refine Kd.R_lit k24 _ 24 ?hg (N := 79) ?hd (xs := ([(⟨e9, e10, e11, e12⟩ : S24)] : List (S24))) (inner := [.string e9, .string e10, .int .i64 e11, .int .i64 e12]) (ok := fun _ => True) (okp := fun _ => True) ?hr ?hp (fun _ hk => hk) trivial (Below.refl _ _) (Nat.le_refl _) (by simp) ?_; (case hd => rfl); (case hg => rfl); (case hr => go_simp; try rfl); (case hp => exact (Reps.c4 (show Kd.M k24 _ _ _ (⟨e9, e10, e11, e12⟩ : S24) [.string e9, .string e10, .int .i64 e11, .int .i64 e12] from (k24_mkM _ _ _ (⟨e9, e10, e11, e12⟩ : S24) )) (Reps.none _ _))); intro v122 w63 ho64 hb hg_ hnew_; clear hg_ hnew_; (first | rw [← Ny121.out] at ho64 | (simp only [Int.reduceToNat] at ho64; rw [← Ny121.out] at ho64)); have HO123 := Aside0.mk (Kd.R_lower ho64 (below_size t_34)); replace BK119 := kc BK119 hb; replace HB := Aside0.mk (below_step t_34 hb); clear hb ho64; obtain ⟨Ao65, co65, eo65⟩ := Kd.R_slice HO123.out; subst eo65) | ((with_reducible refine gate_callee (f := 21) rfl ?_); refine goesL_ (some 80) rfl rfl Try.func21 t_8e rfl #[.slice Ao65 y121.length co65] rfl t_45 ?_; (with_reducible refine (parcel_Valid.calls kj24 _ _ y121 false _ ?side1 ?side2 A47.out).mono ?_); (case side1 => exact cl ((Kd.R_reads' HO123.out).2.2)); (case side2 => exact (Kd.R_reads' HO123.out).2.1); rintro e w66 ⟨rfl, hb⟩; refine ⟨_, rfl, ?_⟩; replace HO123 := ko HO123 hb; replace BK119 := kc BK119 hb; replace HB := Aside0.mk (below_step t_34 hb); (try clear hb); (try clear hb2); (try clear hk); (try clear hi)))
           go_ret
           exact ⟨t_68, t_34⟩
         ·replace c46 := Bool.eq_false_iff.mpr c46
          subst c46
          rw [if_neg (show ¬ (false = true) by decide)] at H
          obtain rfl := Option.some.inj H
          obtain ⟨hcz67_0, hcz67_1, hcz67_2, hcz67_3, hcz67_4, hcz67_5, hcz67_6, hcz67_7, hcz67_8, hcz67_9, hcz67_10, hcz67_11, hcz67_12⟩ := cz13 BK119.out
          obtain ⟨hfz67_0, hfz67_1, hfz67_2, hfz67_3, hfz67_4, hfz67_5, hfz67_6, hfz67_7, hfz67_8, hfz67_9, hfz67_10, hfz67_11, hfz67_12⟩ := fz13 BK119.out
          go_wp2
          go_ret
          exact ⟨t_68, t_34⟩

end Go.Proofs.Ytndbchcfjajgbaa.XP
