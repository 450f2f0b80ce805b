-- printed by xprint.py
import Derived.Test.YtndbchcfjajgbaaXB
import Derived.Test.YtndbchcfjajgbaaXP0
import Derived.Test.YtndbchcfjajgbaaXP16
namespace Go.Proofs.Ytndbchcfjajgbaa.XP
open Go.Proofs.Ytndbchcfjajgbaa.XB Go.Proofs.Ytndbchcfjajgbaa.XQ
open Go.Proofs.Ytndbchcfjajgbaa.XW
open Go.RowKit Go.Proofs.YtndbchcfjajgbaaW.PrintWords Go.Proofs.YtndbchcfjajgbaaW.PrintLast Go.Proofs.YtndbchcfjajgbaaW.PrintMore
attribute [local go_sem] max2_int min2_int max_two min_two max_three min_three max_four min_four   -- for this text's walks alone
set_option linter.unusedVariables false
set_option linter.unusedSimpArgs false

/-! ### job_Equal: function 50 -/
def job_Equal.f (k : Nat) (a0_0 : Int) (l0_1 : List (S99)) (l0_2 : List (S24)) (a0_3 : Int) (a0_4 : Int) (a1_0 : Int) (l1_1 : List (S99)) (l1_2 : List (S24)) (a1_3 : Int) (a1_4 : Int) : Option (Bool) := if a0_0 = a1_0 then (if a0_3 = a1_3 then (if a0_4 = a1_4 then ((job_Item_98.f k l0_1 l1_1).bind fun t237 => (if t237 = true then ((api_Piece_99.f k l0_2 l1_2).bind fun t238 => (some t238)) else (some false))) else (some false)) else (some false)) else (some false)
set_option maxHeartbeats 8000000 in
set_option maxRecDepth 100000 in
theorem job_Equal.calls (k : Nat) (a0_0 : Int) (A0_1 : Option Addr) (c0_1 : Nat) (l0_1 : List (S99)) (A0_2 : Option Addr) (c0_2 : Nat) (l0_2 : List (S24)) (a0_3 : Int) (a0_4 : Int) (a1_0 : Int) (A1_1 : Option Addr) (c1_1 : Nat) (l1_1 : List (S99)) (A1_2 : Option Addr) (c1_2 : Nat) (l1_2 : List (S24)) (a1_3 : Int) (a1_4 : Int) (r : Bool) (w : World) (hr0_1 : Kd.C k99 w A0_1 l0_1.length l0_1) (hc0_1 : l0_1.length ≤ c0_1) (hr0_2 : Kd.C k24 w A0_2 l0_2.length l0_2) (hc0_2 : l0_2.length ≤ c0_2) (hr1_1 : Kd.C k99 w A1_1 l1_1.length l1_1) (hc1_1 : l1_1.length ≤ c1_1) (hr1_2 : Kd.C k24 w A1_2 l1_2.length l1_2) (hc1_2 : l1_2.length ≤ c1_2) (h : job_Equal.f k a0_0 l0_1 l0_2 a0_3 a0_4 a1_0 l1_1 l1_2 a1_3 a1_4 = some r) :
  Calls Try.prog 50 #[.agg #[.int .i64 a0_0, .slice A0_1 l0_1.length c0_1, .slice A0_2 l0_2.length c0_2, .int .i64 a0_3, .int .i64 a0_4], .agg #[.int .i64 a1_0, .slice A1_1 l1_1.length c1_1, .slice A1_2 l1_2.length c1_2, .int .i64 a1_3, .int .i64 a1_4]] w fun e w' => e = .returned (.bool r) ∧ Below w.heap.size w w' := by
 have hu77 := Try.underlying77
 have HR0_1 := Aside0.mk hr0_1
 have HC0_1 := Aside0.mk hc0_1
 clear hr0_1 hc0_1
 have HR0_2 := Aside0.mk hr0_2
 have HC0_2 := Aside0.mk hc0_2
 clear hr0_2 hc0_2
 have HR1_1 := Aside0.mk hr1_1
 have HC1_1 := Aside0.mk hc1_1
 clear hr1_1 hc1_1
 have HR1_2 := Aside0.mk hr1_2
 have HC1_2 := Aside0.mk hc1_2
 clear hr1_2 hc1_2
 have HB := Aside0.mk (Below.refl w.heap.size w)
 have H : (if a0_0 = a1_0 then (if a0_3 = a1_3 then (if a0_4 = a1_4 then ((job_Item_98.f k l0_1 l1_1).bind fun t237 => (if t237 = true then ((api_Piece_99.f k l0_2 l1_2).bind fun t238 => (some t238)) else (some false))) else (some false)) else (some false)) else (some false)) = some r := h
 clear h
 by_cases c3 : a0_0 = a1_0
 ·rw [if_pos c3] at H
  have c3b0 : (a0_0 == a1_0) = true := beq_iff_eq.mpr c3
  have c3b1 : (a0_0 != a1_0) = false := bne_eq_false_iff_eq.mpr c3
  clear c3
  by_cases c4 : a0_3 = a1_3
  ·rw [if_pos c4] at H
   have c4b0 : (a0_3 == a1_3) = true := beq_iff_eq.mpr c4
   have c4b1 : (a0_3 != a1_3) = false := bne_eq_false_iff_eq.mpr c4
   clear c4
   by_cases c5 : a0_4 = a1_4
   ·rw [if_pos c5] at H
    have c5b0 : (a0_4 == a1_4) = true := beq_iff_eq.mpr c5
    have c5b1 : (a0_4 != a1_4) = false := bne_eq_false_iff_eq.mpr c5
    clear c5
    replace H := Option.bind_eq_some_iff.mp H
    obtain ⟨t237, A60, H⟩ := H
    try dsimp only at H
    have A6 := Aside0.mk A60
    clear A60
    by_cases c7 : t237 = true
    ·subst c7
     rw [if_pos rfl] at H
     replace H := Option.bind_eq_some_iff.mp H
     obtain ⟨t238, A80, H⟩ := H
     replace H : (some t238) = some r := H
     have A8 := Aside0.mk A80
     clear A80
     obtain rfl := Option.some.inj H
     go_enter Try.func50, Try.ntmps50
     go_wp2_with (first | ((with_reducible refine gate_dst (N := 2) rfl ?_); refine bx_ (N := 2) (cs := #[.int .i64 a0_0, .slice A0_1 l0_1.length c0_1, .slice A0_2 l0_2.length c0_2, .int .i64 a0_3, .int .i64 a0_4]) (t := 77) ?_; intro gb235 hg w9 hbox hb; have BK235 := Aside0.mk (hbox); have GW235 := Aside0.mk ((by rw [hg]; exact (below_size (bb HB.out)) : w.heap.size ≤ gb235)); have GE235 := Aside0.mk ((by rw [hg]; exact (below_size (bb HB.out)) : w.heap.size ≤ gb235)); replace HB := Aside0.mk (below_step (bb HB.out) hb); clear hb hbox hg) | ((with_reducible refine gate_dst (N := 3) rfl ?_); refine bx_ (N := 3) (cs := #[.int .i64 a1_0, .slice A1_1 l1_1.length c1_1, .slice A1_2 l1_2.length c1_2, .int .i64 a1_3, .int .i64 a1_4]) (t := 77) ?_; intro gb236 hg w10 hbox hb; have BK236 := Aside0.mk (hbox); have GW236 := Aside0.mk ((by rw [hg]; exact (below_size t_3b) : w.heap.size ≤ gb236)); have GE236 := Aside0.mk ((by rw [hg]; exact (below_size t_3b) : w.heap.size ≤ gb236)); replace HB := Aside0.mk (below_step t_3b hb); have NB235_236 := nl hg BK235; have NB236_235 := ng hg BK235; replace BK235 := kc BK235 hb; clear hb hbox hg; have hnb11 := NB235_236.out; have hnc11 := NB236_235.out; obtain ⟨hcz12_0, hcz12_1, hcz12_2, hcz12_3, hcz12_4⟩ := sqc5 BK235.out; obtain ⟨hfz12_0, hfz12_1, hfz12_2, hfz12_3, hfz12_4⟩ := frozen5 BK235.out; obtain ⟨hcz13_0, hcz13_1, hcz13_2, hcz13_3, hcz13_4⟩ := sqc5 BK236.out; obtain ⟨hfz13_0, hfz13_1, hfz13_2, hfz13_3, hfz13_4⟩ := frozen5 BK236.out) | (go_at_call 98; (with_reducible refine (job_Item_98.calls k _ _ l0_1 _ _ l1_1 true _ ?side1 ?side2 ?side3 ?side4 A6.out).mono ?_); (case side1 => exact cl ((Kd.C_below HR0_1.out HB.out))); (case side2 => exact HC0_1.out); (case side3 => exact cl ((Kd.C_below HR1_1.out HB.out))); (case side4 => exact HC1_1.out); rintro e w' ⟨rfl, ⟨nd, rfl⟩⟩) | (go_at_call 99; (with_reducible refine (api_Piece_99.calls k _ _ l0_2 _ _ l1_2 t238 _ ?side1 ?side2 ?side3 ?side4 A8.out).mono ?_); (case side1 => repeat (first | exact (Kd.C_below HR0_2.out t_22) | (with_reducible refine Kd.C_alloc ?_ _) | (with_reducible refine Kd.C_drewN ?_ _) | (with_reducible refine Kd.C_drew ?_))); (case side2 => exact HC0_2.out); (case side3 => repeat (first | exact (Kd.C_below HR1_2.out t_22) | (with_reducible refine Kd.C_alloc ?_ _) | (with_reducible refine Kd.C_drewN ?_ _) | (with_reducible refine Kd.C_drew ?_))); (case side4 => exact HC1_2.out); rintro e w' ⟨rfl, ⟨nd, rfl⟩⟩))
     go_ret
     exact ⟨t_68, t_22⟩
    ·replace c7 := Bool.eq_false_iff.mpr c7
     subst c7
     rw [if_neg (show ¬ (false = true) by decide)] at H
     obtain rfl := Option.some.inj H
     go_enter Try.func50, Try.ntmps50
     go_wp2_with (first | ((with_reducible refine gate_dst (N := 2) rfl ?_); refine bx_ (N := 2) (cs := #[.int .i64 a0_0, .slice A0_1 l0_1.length c0_1, .slice A0_2 l0_2.length c0_2, .int .i64 a0_3, .int .i64 a0_4]) (t := 77) ?_; intro gb235 hg w14 hbox hb; have BK235 := Aside0.mk (hbox); have GW235 := Aside0.mk ((by rw [hg]; exact (below_size (bb HB.out)) : w.heap.size ≤ gb235)); have GE235 := Aside0.mk ((by rw [hg]; exact (below_size (bb HB.out)) : w.heap.size ≤ gb235)); replace HB := Aside0.mk (below_step (bb HB.out) hb); clear hb hbox hg) | ((with_reducible refine gate_dst (N := 3) rfl ?_); refine bx_ (N := 3) (cs := #[.int .i64 a1_0, .slice A1_1 l1_1.length c1_1, .slice A1_2 l1_2.length c1_2, .int .i64 a1_3, .int .i64 a1_4]) (t := 77) ?_; intro gb236 hg w15 hbox hb; have BK236 := Aside0.mk (hbox); have GW236 := Aside0.mk ((by rw [hg]; exact (below_size t_3b) : w.heap.size ≤ gb236)); have GE236 := Aside0.mk ((by rw [hg]; exact (below_size t_3b) : w.heap.size ≤ gb236)); replace HB := Aside0.mk (below_step t_3b hb); have NB235_236 := nl hg BK235; have NB236_235 := ng hg BK235; replace BK235 := kc BK235 hb; clear hb hbox hg; have hnb16 := NB235_236.out; have hnc16 := NB236_235.out; obtain ⟨hcz17_0, hcz17_1, hcz17_2, hcz17_3, hcz17_4⟩ := sqc5 BK235.out; obtain ⟨hfz17_0, hfz17_1, hfz17_2, hfz17_3, hfz17_4⟩ := frozen5 BK235.out; obtain ⟨hcz18_0, hcz18_1, hcz18_2, hcz18_3, hcz18_4⟩ := sqc5 BK236.out; obtain ⟨hfz18_0, hfz18_1, hfz18_2, hfz18_3, hfz18_4⟩ := frozen5 BK236.out) | (go_at_call 98; (with_reducible refine (job_Item_98.calls k _ _ l0_1 _ _ l1_1 false _ ?side1 ?side2 ?side3 ?side4 A6.out).mono ?_); (case side1 => exact cl ((Kd.C_below HR0_1.out HB.out))); (case side2 => exact HC0_1.out); (case side3 => exact cl ((Kd.C_below HR1_1.out HB.out))); (case side4 => exact HC1_1.out); rintro e w' ⟨rfl, ⟨nd, rfl⟩⟩))
     go_ret
     exact ⟨t_68, t_22⟩
   ·rw [if_neg c5] at H
    have c5b0 : (a0_4 == a1_4) = false := beq_eq_false_iff_ne.mpr c5
    have c5b1 : (a0_4 != a1_4) = true := bne_iff_ne.mpr c5
    obtain rfl := Option.some.inj H
    go_enter Try.func50, Try.ntmps50
    go_wp2_with (first | ((with_reducible refine gate_dst (N := 2) rfl ?_); refine bx_ (N := 2) (cs := #[.int .i64 a0_0, .slice A0_1 l0_1.length c0_1, .slice A0_2 l0_2.length c0_2, .int .i64 a0_3, .int .i64 a0_4]) (t := 77) ?_; intro gb235 hg w19 hbox hb; have BK235 := Aside0.mk (hbox); have GW235 := Aside0.mk ((by rw [hg]; exact (below_size (bb HB.out)) : w.heap.size ≤ gb235)); have GE235 := Aside0.mk ((by rw [hg]; exact (below_size (bb HB.out)) : w.heap.size ≤ gb235)); replace HB := Aside0.mk (below_step (bb HB.out) hb); clear hb hbox hg) | ((with_reducible refine gate_dst (N := 3) rfl ?_); refine bx_ (N := 3) (cs := #[.int .i64 a1_0, .slice A1_1 l1_1.length c1_1, .slice A1_2 l1_2.length c1_2, .int .i64 a1_3, .int .i64 a1_4]) (t := 77) ?_; intro gb236 hg w20 hbox hb; have BK236 := Aside0.mk (hbox); have GW236 := Aside0.mk ((by rw [hg]; exact (below_size t_3b) : w.heap.size ≤ gb236)); have GE236 := Aside0.mk ((by rw [hg]; exact (below_size t_3b) : w.heap.size ≤ gb236)); replace HB := Aside0.mk (below_step t_3b hb); have NB235_236 := nl hg BK235; have NB236_235 := ng hg BK235; replace BK235 := kc BK235 hb; clear hb hbox hg; have hnb21 := NB235_236.out; have hnc21 := NB236_235.out; obtain ⟨hcz22_0, hcz22_1, hcz22_2, hcz22_3, hcz22_4⟩ := sqc5 BK235.out; obtain ⟨hfz22_0, hfz22_1, hfz22_2, hfz22_3, hfz22_4⟩ := frozen5 BK235.out; obtain ⟨hcz23_0, hcz23_1, hcz23_2, hcz23_3, hcz23_4⟩ := sqc5 BK236.out; obtain ⟨hfz23_0, hfz23_1, hfz23_2, hfz23_3, hfz23_4⟩ := frozen5 BK236.out))
    go_ret
    exact ⟨t_68, t_22⟩
  ·rw [if_neg c4] at H
   have c4b0 : (a0_3 == a1_3) = false := beq_eq_false_iff_ne.mpr c4
   have c4b1 : (a0_3 != a1_3) = true := bne_iff_ne.mpr c4
   obtain rfl := Option.some.inj H
   go_enter Try.func50, Try.ntmps50
   go_wp2_with (first | ((with_reducible refine gate_dst (N := 2) rfl ?_); refine bx_ (N := 2) (cs := #[.int .i64 a0_0, .slice A0_1 l0_1.length c0_1, .slice A0_2 l0_2.length c0_2, .int .i64 a0_3, .int .i64 a0_4]) (t := 77) ?_; intro gb235 hg w24 hbox hb; have BK235 := Aside0.mk (hbox); have GW235 := Aside0.mk ((by rw [hg]; exact (below_size (bb HB.out)) : w.heap.size ≤ gb235)); have GE235 := Aside0.mk ((by rw [hg]; exact (below_size (bb HB.out)) : w.heap.size ≤ gb235)); replace HB := Aside0.mk (below_step (bb HB.out) hb); clear hb hbox hg) | ((with_reducible refine gate_dst (N := 3) rfl ?_); refine bx_ (N := 3) (cs := #[.int .i64 a1_0, .slice A1_1 l1_1.length c1_1, .slice A1_2 l1_2.length c1_2, .int .i64 a1_3, .int .i64 a1_4]) (t := 77) ?_; intro gb236 hg w25 hbox hb; have BK236 := Aside0.mk (hbox); have GW236 := Aside0.mk ((by rw [hg]; exact (below_size t_3b) : w.heap.size ≤ gb236)); have GE236 := Aside0.mk ((by rw [hg]; exact (below_size t_3b) : w.heap.size ≤ gb236)); replace HB := Aside0.mk (below_step t_3b hb); have NB235_236 := nl hg BK235; have NB236_235 := ng hg BK235; replace BK235 := kc BK235 hb; clear hb hbox hg; have hnb26 := NB235_236.out; have hnc26 := NB236_235.out; obtain ⟨hcz27_0, hcz27_1, hcz27_2, hcz27_3, hcz27_4⟩ := sqc5 BK235.out; obtain ⟨hfz27_0, hfz27_1, hfz27_2, hfz27_3, hfz27_4⟩ := frozen5 BK235.out; obtain ⟨hcz28_0, hcz28_1, hcz28_2, hcz28_3, hcz28_4⟩ := sqc5 BK236.out; obtain ⟨hfz28_0, hfz28_1, hfz28_2, hfz28_3, hfz28_4⟩ := frozen5 BK236.out))
   go_ret
   exact ⟨t_68, t_22⟩
 ·rw [if_neg c3] at H
  have c3b0 : (a0_0 == a1_0) = false := beq_eq_false_iff_ne.mpr c3
  have c3b1 : (a0_0 != a1_0) = true := bne_iff_ne.mpr c3
  obtain rfl := Option.some.inj H
  go_enter Try.func50, Try.ntmps50
  go_wp2_with (first | ((with_reducible refine gate_dst (N := 2) rfl ?_); refine bx_ (N := 2) (cs := #[.int .i64 a0_0, .slice A0_1 l0_1.length c0_1, .slice A0_2 l0_2.length c0_2, .int .i64 a0_3, .int .i64 a0_4]) (t := 77) ?_; intro gb235 hg w29 hbox hb; have BK235 := Aside0.mk (hbox); have GW235 := Aside0.mk ((by rw [hg]; exact (below_size (bb HB.out)) : w.heap.size ≤ gb235)); have GE235 := Aside0.mk ((by rw [hg]; exact (below_size (bb HB.out)) : w.heap.size ≤ gb235)); replace HB := Aside0.mk (below_step (bb HB.out) hb); clear hb hbox hg) | ((with_reducible refine gate_dst (N := 3) rfl ?_); refine bx_ (N := 3) (cs := #[.int .i64 a1_0, .slice A1_1 l1_1.length c1_1, .slice A1_2 l1_2.length c1_2, .int .i64 a1_3, .int .i64 a1_4]) (t := 77) ?_; intro gb236 hg w30 hbox hb; have BK236 := Aside0.mk (hbox); have GW236 := Aside0.mk ((by rw [hg]; exact (below_size t_3b) : w.heap.size ≤ gb236)); have GE236 := Aside0.mk ((by rw [hg]; exact (below_size t_3b) : w.heap.size ≤ gb236)); replace HB := Aside0.mk (below_step t_3b hb); have NB235_236 := nl hg BK235; have NB236_235 := ng hg BK235; replace BK235 := kc BK235 hb; clear hb hbox hg; have hnb31 := NB235_236.out; have hnc31 := NB236_235.out; obtain ⟨hcz32_0, hcz32_1, hcz32_2, hcz32_3, hcz32_4⟩ := sqc5 BK235.out; obtain ⟨hfz32_0, hfz32_1, hfz32_2, hfz32_3, hfz32_4⟩ := frozen5 BK235.out; obtain ⟨hcz33_0, hcz33_1, hcz33_2, hcz33_3, hcz33_4⟩ := sqc5 BK236.out; obtain ⟨hfz33_0, hfz33_1, hfz33_2, hfz33_3, hfz33_4⟩ := frozen5 BK236.out))
  go_ret
  exact ⟨t_68, t_22⟩

end Go.Proofs.Ytndbchcfjajgbaa.XP
