-- printed by xprint.py
import Derived.Test.YtndbchcfjajgbaaXB
import Derived.Test.YtndbchcfjajgbaaXP0
import Derived.Test.YtndbchcfjajgbaaXP9
import Derived.Test.YtndbchcfjajgbaaXP12
import Derived.Test.YtndbchcfjajgbaaXP13
import Derived.Test.YtndbchcfjajgbaaHandRight54
namespace Go.Proofs.Ytndbchcfjajgbaa.XP
open Go.Proofs.Ytndbchcfjajgbaa.XB Go.Proofs.Ytndbchcfjajgbaa.XQ
open Go.Proofs.Ytndbchcfjajgbaa.XW
open Go.RowKit Go.Proofs.YtndbchcfjajgbaaW.PrintWords Go.Proofs.YtndbchcfjajgbaaW.PrintLast Go.Proofs.YtndbchcfjajgbaaW.PrintMore
attribute [local go_sem] max2_int min2_int max_two min_two max_three min_three max_four min_four   -- for this text's walks alone
set_option linter.unusedVariables false
set_option linter.unusedSimpArgs false

/-! ### culetlaw54_awake: function 34 -/
def culetlaw54_awake.f (k : Nat)  : Option (Bool) := (job_Of.f k (([(⟨(⟨#[97]⟩ : ByteArray), (⟨#[114, 117, 98, 121]⟩ : ByteArray), 500, 1⟩ : S24)] : List (S24))) (([(⟨1, 1, (⟨(⟨#[106]⟩ : ByteArray), (⟨#[97]⟩ : ByteArray), (⟨#[114, 111, 117, 110, 100]⟩ : ByteArray), 10, 90⟩ : S81), (⟨#[]⟩ : ByteArray), 0⟩ : S83), (⟨2, 2, (⟨(⟨#[]⟩ : ByteArray), (⟨#[]⟩ : ByteArray), (⟨#[]⟩ : ByteArray), 0, 0⟩ : S81), (⟨#[106]⟩ : ByteArray), 0⟩ : S83), (⟨3, 8, (⟨(⟨#[]⟩ : ByteArray), (⟨#[]⟩ : ByteArray), (⟨#[]⟩ : ByteArray), 0, 0⟩ : S81), (⟨#[106]⟩ : ByteArray), 150⟩ : S83), (⟨4, 12, (⟨(⟨#[]⟩ : ByteArray), (⟨#[]⟩ : ByteArray), (⟨#[]⟩ : ByteArray), 0, 0⟩ : S81), (⟨#[106]⟩ : ByteArray), 0⟩ : S83)] : List (S83)))).bind fun bt190 => ((job_Yield.f k bt190.1 bt190.2.1 bt190.2.2.1 bt190.2.2.2.1 bt190.2.2.2.2.1 (⟨#[114, 111, 117, 110, 100]⟩ : ByteArray)).bind fun bt202 => (if bt190.2.2.2.2.2.2 = 0 then (if bt190.2.2.2.2.2.1 = 4 then (if bt190.2.2.2.1 = 90 then (if bt190.2.2.2.2.1 = 2 then (if (bt190.2.2.1.length : Int) = 0 then (if bt202.1 = 150 then (if bt202.2 = 500 then ((job_Right.f bt190.1 bt190.2.1 bt190.2.2.1 bt190.2.2.2.1 bt190.2.2.2.2.1).bind fun t204 => (if t204 = true then ((job_Valid.f (⟨#[106]⟩ : ByteArray) (⟨#[97]⟩ : ByteArray) (⟨#[114, 111, 117, 110, 100]⟩ : ByteArray) 10 90).bind fun t205 => (some t205)) else (some false))) else (some false)) else (some false)) else (some false)) else (some false)) else (some false)) else (some false)) else (some false)))
theorem culetlaw54_awake.mono : ∀ k, LeO (culetlaw54_awake.f k ) (culetlaw54_awake.f (k + 1) ) := by
 intro  k
 unfold culetlaw54_awake.f
 repeat' first
   | (with_reducible exact job_Of.mono _ _ _)
   | (with_reducible exact job_Yield.mono _ _ _ _ _ _ _)
   | (with_reducible exact LeO.refl _)
   | (with_reducible exact LeO.none _)
   | (with_reducible refine LeO.ite ?_ ?_)
   | (with_reducible refine LeO.bind ?_ (fun _ => ?_))
   | exact job_Of.mono _ _ _
   | exact job_Yield.mono _ _ _ _ _ _ _
   | exact LeO.none _
   | refine LeO.ite ?_ ?_
   | refine LeO.bind ?_ (fun _ => ?_)
set_option maxHeartbeats 8000000 in
set_option maxRecDepth 100000 in
theorem culetlaw54_awake.only (k : Nat) (r : Bool) (h : culetlaw54_awake.f k = some r) : r = true := by
 have h0 : culetlaw54_awake.f 60 = some true := by decide +kernel
 have up : ∀ (d k : Nat) (r : Bool), culetlaw54_awake.f k = some r → culetlaw54_awake.f (k + d) = some r := fun d => by
  induction d with
  | zero => exact fun k r h => h
  | succ d ih => exact fun k r h => culetlaw54_awake.mono (k + d) r (ih k r h)
 rcases Nat.le_total k 60 with hk | hk
 ·have e := up (60 - k) k r h
  rw [Nat.add_sub_cancel' hk, h0] at e
  injection e with e
  exact e.symm
 ·have e := up (k - 60) 60 true h0
  rw [Nat.add_sub_cancel' hk, h] at e
  injection e
theorem culetlaw54_awake.calls (k : Nat)  (r : Bool) (w : World) (h : culetlaw54_awake.f k  = some r) :
  Calls Try.prog 34 #[] w fun e w' => e = .returned (.bool r) ∧ Below w.heap.size w w' := by
 have hu81 := Try.underlying81
 have hu24 := Try.underlying24
 have hu83 := Try.underlying83
 have hu77 := Try.underlying77
 have HTRUE := Aside0.mk (culetlaw54_awake.only k r h)
 have HB := Aside0.mk (Below.refl w.heap.size w)
 have H : ((job_Of.f k (([(⟨(⟨#[97]⟩ : ByteArray), (⟨#[114, 117, 98, 121]⟩ : ByteArray), 500, 1⟩ : S24)] : List (S24))) (([(⟨1, 1, (⟨(⟨#[106]⟩ : ByteArray), (⟨#[97]⟩ : ByteArray), (⟨#[114, 111, 117, 110, 100]⟩ : ByteArray), 10, 90⟩ : S81), (⟨#[]⟩ : ByteArray), 0⟩ : S83), (⟨2, 2, (⟨(⟨#[]⟩ : ByteArray), (⟨#[]⟩ : ByteArray), (⟨#[]⟩ : ByteArray), 0, 0⟩ : S81), (⟨#[106]⟩ : ByteArray), 0⟩ : S83), (⟨3, 8, (⟨(⟨#[]⟩ : ByteArray), (⟨#[]⟩ : ByteArray), (⟨#[]⟩ : ByteArray), 0, 0⟩ : S81), (⟨#[106]⟩ : ByteArray), 150⟩ : S83), (⟨4, 12, (⟨(⟨#[]⟩ : ByteArray), (⟨#[]⟩ : ByteArray), (⟨#[]⟩ : ByteArray), 0, 0⟩ : S81), (⟨#[106]⟩ : ByteArray), 0⟩ : S83)] : List (S83)))).bind fun bt190 => ((job_Yield.f k bt190.1 bt190.2.1 bt190.2.2.1 bt190.2.2.2.1 bt190.2.2.2.2.1 (⟨#[114, 111, 117, 110, 100]⟩ : ByteArray)).bind fun bt202 => (if bt190.2.2.2.2.2.2 = 0 then (if bt190.2.2.2.2.2.1 = 4 then (if bt190.2.2.2.1 = 90 then (if bt190.2.2.2.2.1 = 2 then (if (bt190.2.2.1.length : Int) = 0 then (if bt202.1 = 150 then (if bt202.2 = 500 then ((job_Right.f bt190.1 bt190.2.1 bt190.2.2.1 bt190.2.2.2.1 bt190.2.2.2.2.1).bind fun t204 => (if t204 = true then ((job_Valid.f (⟨#[106]⟩ : ByteArray) (⟨#[97]⟩ : ByteArray) (⟨#[114, 111, 117, 110, 100]⟩ : ByteArray) 10 90).bind fun t205 => (some t205)) else (some false))) else (some false)) else (some false)) else (some false)) else (some false)) else (some false)) else (some false)) else (some false)))) = some r := h
 clear h
 obtain ⟨y184, hy184⟩ : ∃ y_ : List (S24), y_ = (([(⟨(⟨#[97]⟩ : ByteArray), (⟨#[114, 117, 98, 121]⟩ : ByteArray), 500, 1⟩ : S24)] : List (S24))) := ⟨_, rfl⟩
 replace H : ((job_Of.f k y184 (([(⟨1, 1, (⟨(⟨#[106]⟩ : ByteArray), (⟨#[97]⟩ : ByteArray), (⟨#[114, 111, 117, 110, 100]⟩ : ByteArray), 10, 90⟩ : S81), (⟨#[]⟩ : ByteArray), 0⟩ : S83), (⟨2, 2, (⟨(⟨#[]⟩ : ByteArray), (⟨#[]⟩ : ByteArray), (⟨#[]⟩ : ByteArray), 0, 0⟩ : S81), (⟨#[106]⟩ : ByteArray), 0⟩ : S83), (⟨3, 8, (⟨(⟨#[]⟩ : ByteArray), (⟨#[]⟩ : ByteArray), (⟨#[]⟩ : ByteArray), 0, 0⟩ : S81), (⟨#[106]⟩ : ByteArray), 150⟩ : S83), (⟨4, 12, (⟨(⟨#[]⟩ : ByteArray), (⟨#[]⟩ : ByteArray), (⟨#[]⟩ : ByteArray), 0, 0⟩ : S81), (⟨#[106]⟩ : ByteArray), 0⟩ : S83)] : List (S83)))).bind fun bt190 => ((job_Yield.f k bt190.1 bt190.2.1 bt190.2.2.1 bt190.2.2.2.1 bt190.2.2.2.2.1 (⟨#[114, 111, 117, 110, 100]⟩ : ByteArray)).bind fun bt202 => (if bt190.2.2.2.2.2.2 = 0 then (if bt190.2.2.2.2.2.1 = 4 then (if bt190.2.2.2.1 = 90 then (if bt190.2.2.2.2.1 = 2 then (if (bt190.2.2.1.length : Int) = 0 then (if bt202.1 = 150 then (if bt202.2 = 500 then ((job_Right.f bt190.1 bt190.2.1 bt190.2.2.1 bt190.2.2.2.1 bt190.2.2.2.2.1).bind fun t204 => (if t204 = true then ((job_Valid.f (⟨#[106]⟩ : ByteArray) (⟨#[97]⟩ : ByteArray) (⟨#[114, 111, 117, 110, 100]⟩ : ByteArray) 10 90).bind fun t205 => (some t205)) else (some false))) else (some false)) else (some false)) else (some false)) else (some false)) else (some false)) else (some false)) else (some false)))) = some r := by first | (rw [hy184]; with_reducible exact H) | (have H2_ := (Option.bind_some _ _).symm.trans H; rw [hy184]; with_reducible exact H2_) | (have H2_ := (Option.bind_some _ _).symm.trans H; with_reducible exact H2_) | with_reducible exact H | (rw [hy184]; exact H) | exact H
 have Ny184 := Aside0.mk hy184
 clear hy184
 obtain ⟨y187, hy187⟩ : ∃ y_ : List (S83), y_ = (([(⟨1, 1, (⟨(⟨#[106]⟩ : ByteArray), (⟨#[97]⟩ : ByteArray), (⟨#[114, 111, 117, 110, 100]⟩ : ByteArray), 10, 90⟩ : S81), (⟨#[]⟩ : ByteArray), 0⟩ : S83), (⟨2, 2, (⟨(⟨#[]⟩ : ByteArray), (⟨#[]⟩ : ByteArray), (⟨#[]⟩ : ByteArray), 0, 0⟩ : S81), (⟨#[106]⟩ : ByteArray), 0⟩ : S83), (⟨3, 8, (⟨(⟨#[]⟩ : ByteArray), (⟨#[]⟩ : ByteArray), (⟨#[]⟩ : ByteArray), 0, 0⟩ : S81), (⟨#[106]⟩ : ByteArray), 150⟩ : S83), (⟨4, 12, (⟨(⟨#[]⟩ : ByteArray), (⟨#[]⟩ : ByteArray), (⟨#[]⟩ : ByteArray), 0, 0⟩ : S81), (⟨#[106]⟩ : ByteArray), 0⟩ : S83)] : List (S83))) := ⟨_, rfl⟩
 replace H : ((job_Of.f k y184 y187).bind fun bt190 => ((job_Yield.f k bt190.1 bt190.2.1 bt190.2.2.1 bt190.2.2.2.1 bt190.2.2.2.2.1 (⟨#[114, 111, 117, 110, 100]⟩ : ByteArray)).bind fun bt202 => (if bt190.2.2.2.2.2.2 = 0 then (if bt190.2.2.2.2.2.1 = 4 then (if bt190.2.2.2.1 = 90 then (if bt190.2.2.2.2.1 = 2 then (if (bt190.2.2.1.length : Int) = 0 then (if bt202.1 = 150 then (if bt202.2 = 500 then ((job_Right.f bt190.1 bt190.2.1 bt190.2.2.1 bt190.2.2.2.1 bt190.2.2.2.2.1).bind fun t204 => (if t204 = true then ((job_Valid.f (⟨#[106]⟩ : ByteArray) (⟨#[97]⟩ : ByteArray) (⟨#[114, 111, 117, 110, 100]⟩ : ByteArray) 10 90).bind fun t205 => (some t205)) else (some false))) else (some false)) else (some false)) else (some false)) else (some false)) else (some false)) else (some false)) else (some false)))) = some r := by first | (rw [hy187]; with_reducible exact H) | (have H2_ := (Option.bind_some _ _).symm.trans H; rw [hy187]; with_reducible exact H2_) | (have H2_ := (Option.bind_some _ _).symm.trans H; with_reducible exact H2_) | with_reducible exact H | (rw [hy187]; exact H) | exact H
 have Ny187 := Aside0.mk hy187
 clear hy187
 replace H := Option.bind_eq_some_iff.mp H
 obtain ⟨⟨t190, t191, t194, t197, t198, t199, t200⟩, A10, H⟩ := H
 try dsimp only at H
 have A1 := Aside0.mk A10
 clear A10
 replace H := Option.bind_eq_some_iff.mp H
 obtain ⟨⟨t202, t203⟩, A20, H⟩ := H
 try dsimp only at H
 have A2 := Aside0.mk A20
 clear A20
 by_cases c3 : t200 = 0
 ·rw [if_pos c3] at H
  have c3b0 : (t200 == 0) = true := beq_iff_eq.mpr c3
  have c3b1 : (t200 != 0) = false := bne_eq_false_iff_eq.mpr c3
  clear c3
  by_cases c4 : t199 = 4
  ·rw [if_pos c4] at H
   have c4b0 : (t199 == 4) = true := beq_iff_eq.mpr c4
   have c4b1 : (t199 != 4) = false := bne_eq_false_iff_eq.mpr c4
   clear c4
   by_cases c5 : t197 = 90
   ·rw [if_pos c5] at H
    have c5b0 : (t197 == 90) = true := beq_iff_eq.mpr c5
    have c5b1 : (t197 != 90) = false := bne_eq_false_iff_eq.mpr c5
    clear c5
    by_cases c6 : t198 = 2
    ·rw [if_pos c6] at H
     have c6b0 : (t198 == 2) = true := beq_iff_eq.mpr c6
     have c6b1 : (t198 != 2) = false := bne_eq_false_iff_eq.mpr c6
     clear c6
     by_cases c7 : (t194.length : Int) = 0
     ·rw [if_pos c7] at H
      have c7b0 : ((t194.length : Int) == 0) = true := beq_iff_eq.mpr c7
      have c7b1 : ((t194.length : Int) != 0) = false := bne_eq_false_iff_eq.mpr c7
      clear c7
      by_cases c8 : t202 = 150
      ·rw [if_pos c8] at H
       have c8b0 : (t202 == 150) = true := beq_iff_eq.mpr c8
       have c8b1 : (t202 != 150) = false := bne_eq_false_iff_eq.mpr c8
       clear c8
       by_cases c9 : t203 = 500
       ·rw [if_pos c9] at H
        have c9b0 : (t203 == 500) = true := beq_iff_eq.mpr c9
        have c9b1 : (t203 != 500) = false := bne_eq_false_iff_eq.mpr c9
        clear c9
        replace H := Option.bind_eq_some_iff.mp H
        obtain ⟨t204, A100, H⟩ := H
        try dsimp only at H
        have A10 := Aside0.mk A100
        clear A100
        by_cases c11 : t204 = true
        ·subst c11
         rw [if_pos rfl] at H
         replace H := Option.bind_eq_some_iff.mp H
         obtain ⟨t205, A120, H⟩ := H
         replace H : (some t205) = some r := H
         have A12 := Aside0.mk A120
         clear A120
         obtain rfl := Option.some.inj H
         go_enter Try.func34, Try.ntmps34
         go_wp2_with (first | ((with_reducible refine gate_dst (N := 1) rfl ?_); (try (refine gate_guard (by rfl) ?_; dsimp only)); refine bx_ (N := 1) (cs := #[.string (⟨#[]⟩ : ByteArray), .string (⟨#[]⟩ : ByteArray), .string (⟨#[]⟩ : ByteArray), .int .i64 0, .int .i64 0]) (t := 81) ?_; intro gb183 hg w13 hbox hb; have BK183 := Aside0.mk (hbox); have GW183 := Aside0.mk ((by rw [hg]; exact (below_size (bb HB.out)) : w.heap.size ≤ gb183)); have GE183 := Aside0.mk ((by rw [hg]; exact (below_size (bb HB.out)) : w.heap.size ≤ gb183)); replace HB := Aside0.mk (below_step (bb HB.out) hb); clear hb hbox hg; obtain ⟨hcz14_0, hcz14_1, hcz14_2, hcz14_3, hcz14_4⟩ := sqc5 BK183.out; obtain ⟨hfz14_0, hfz14_1, hfz14_2, hfz14_3, hfz14_4⟩ := frozen5 BK183.out) | ((with_reducible refine gate_dst (N := 10) rfl ?_); (try (refine gate_guard (by rfl) ?_; dsimp only)); refine Kd.R_lit k24 _ 24 ?hg (N := 10) ?hd (xs := ([(⟨(⟨#[97]⟩ : ByteArray), (⟨#[114, 117, 98, 121]⟩ : ByteArray), 500, 1⟩ : S24)] : List (S24))) (inner := [.string (⟨#[97]⟩ : ByteArray), .string (⟨#[114, 117, 98, 121]⟩ : ByteArray), .int .i64 500, .int .i64 1]) (ok := fun _ => True) (okp := fun _ => True) ?hr ?hp (fun _ hk => hk) trivial (Below.refl _ _) (Nat.le_refl _) (by simp) ?_; (case hd => rfl); (case hg => rfl); (case hr => go_simp; try rfl); (case hp => exact (Reps.c4 (show Kd.M k24 _ _ _ (⟨(⟨#[97]⟩ : ByteArray), (⟨#[114, 117, 98, 121]⟩ : ByteArray), 500, 1⟩ : S24) [.string (⟨#[97]⟩ : ByteArray), .string (⟨#[114, 117, 98, 121]⟩ : ByteArray), .int .i64 500, .int .i64 1] from (k24_mkM _ _ _ (⟨(⟨#[97]⟩ : ByteArray), (⟨#[114, 117, 98, 121]⟩ : ByteArray), 500, 1⟩ : S24) )) (Reps.none _ _))); intro v185 w15 ho16 hb hg_ hnew_; clear hg_ hnew_; (first | rw [← Ny184.out] at ho16 | (simp only [Int.reduceToNat] at ho16; rw [← Ny184.out] at ho16)); have HO186 := Aside0.mk (Kd.R_lower ho16 (below_size t_37)); replace BK183 := Aside0.mk (blk_below (g := gb183) (o := .cells #[.string (⟨#[106]⟩ : ByteArray), .string (⟨#[97]⟩ : ByteArray), .string (⟨#[114, 111, 117, 110, 100]⟩ : ByteArray), .int .i64 10, .int .i64 90] 81 (0, 0)) (by (with_reducible repeat (first | refine blk_drewN ?_ _ | refine blk_drew ?_ | refine blk_alloc ?_ _)); apply put5; (with_reducible repeat (first | refine blk_drewN ?_ _ | refine blk_drew ?_ | refine blk_alloc ?_ _)); exact BK183.out) hb); replace HB := Aside0.mk (below_step t_37 hb); clear hb ho16; obtain ⟨hcz17_0, hcz17_1, hcz17_2, hcz17_3, hcz17_4⟩ := sqc5 BK183.out; obtain ⟨hfz17_0, hfz17_1, hfz17_2, hfz17_3, hfz17_4⟩ := frozen5 BK183.out) | ((with_reducible refine gate_dst (N := 16) rfl ?_); (try (refine gate_guard (by rfl) ?_; dsimp only)); refine Kd.R_lit k83 _ 83 ?hg (N := 16) ?hd (xs := ([(⟨1, 1, (⟨(⟨#[106]⟩ : ByteArray), (⟨#[97]⟩ : ByteArray), (⟨#[114, 111, 117, 110, 100]⟩ : ByteArray), 10, 90⟩ : S81), (⟨#[]⟩ : ByteArray), 0⟩ : S83), (⟨2, 2, (⟨(⟨#[]⟩ : ByteArray), (⟨#[]⟩ : ByteArray), (⟨#[]⟩ : ByteArray), 0, 0⟩ : S81), (⟨#[106]⟩ : ByteArray), 0⟩ : S83), (⟨3, 8, (⟨(⟨#[]⟩ : ByteArray), (⟨#[]⟩ : ByteArray), (⟨#[]⟩ : ByteArray), 0, 0⟩ : S81), (⟨#[106]⟩ : ByteArray), 150⟩ : S83), (⟨4, 12, (⟨(⟨#[]⟩ : ByteArray), (⟨#[]⟩ : ByteArray), (⟨#[]⟩ : ByteArray), 0, 0⟩ : S81), (⟨#[106]⟩ : ByteArray), 0⟩ : S83)] : List (S83))) (inner := [.int .i64 1, .int .i64 1, .string (⟨#[106]⟩ : ByteArray), .string (⟨#[97]⟩ : ByteArray), .string (⟨#[114, 111, 117, 110, 100]⟩ : ByteArray), .int .i64 10, .int .i64 90, .string (⟨#[]⟩ : ByteArray), .int .i64 0, .int .i64 2, .int .i64 2, .string (⟨#[]⟩ : ByteArray), .string (⟨#[]⟩ : ByteArray), .string (⟨#[]⟩ : ByteArray), .int .i64 0, .int .i64 0, .string (⟨#[106]⟩ : ByteArray), .int .i64 0, .int .i64 3, .int .i64 8, .string (⟨#[]⟩ : ByteArray), .string (⟨#[]⟩ : ByteArray), .string (⟨#[]⟩ : ByteArray), .int .i64 0, .int .i64 0, .string (⟨#[106]⟩ : ByteArray), .int .i64 150, .int .i64 4, .int .i64 12, .string (⟨#[]⟩ : ByteArray), .string (⟨#[]⟩ : ByteArray), .string (⟨#[]⟩ : ByteArray), .int .i64 0, .int .i64 0, .string (⟨#[106]⟩ : ByteArray), .int .i64 0]) (ok := fun _ => True) (okp := fun _ => True) ?hr ?hp (fun _ hk => hk) trivial (Below.refl _ _) (Nat.le_refl _) (by simp) ?_; (case hd => rfl); (case hg => rfl); (case hr => go_simp; try rfl); (case hp => exact (Reps.c9 (show Kd.M k83 _ _ _ (⟨1, 1, (⟨(⟨#[106]⟩ : ByteArray), (⟨#[97]⟩ : ByteArray), (⟨#[114, 111, 117, 110, 100]⟩ : ByteArray), 10, 90⟩ : S81), (⟨#[]⟩ : ByteArray), 0⟩ : S83) [.int .i64 1, .int .i64 1, .string (⟨#[106]⟩ : ByteArray), .string (⟨#[97]⟩ : ByteArray), .string (⟨#[114, 111, 117, 110, 100]⟩ : ByteArray), .int .i64 10, .int .i64 90, .string (⟨#[]⟩ : ByteArray), .int .i64 0] from (k83_mkM _ _ _ (⟨1, 1, (⟨(⟨#[106]⟩ : ByteArray), (⟨#[97]⟩ : ByteArray), (⟨#[114, 111, 117, 110, 100]⟩ : ByteArray), 10, 90⟩ : S81), (⟨#[]⟩ : ByteArray), 0⟩ : S83) )) (Reps.c9 (show Kd.M k83 _ _ _ (⟨2, 2, (⟨(⟨#[]⟩ : ByteArray), (⟨#[]⟩ : ByteArray), (⟨#[]⟩ : ByteArray), 0, 0⟩ : S81), (⟨#[106]⟩ : ByteArray), 0⟩ : S83) [.int .i64 2, .int .i64 2, .string (⟨#[]⟩ : ByteArray), .string (⟨#[]⟩ : ByteArray), .string (⟨#[]⟩ : ByteArray), .int .i64 0, .int .i64 0, .string (⟨#[106]⟩ : ByteArray), .int .i64 0] from (k83_mkM _ _ _ (⟨2, 2, (⟨(⟨#[]⟩ : ByteArray), (⟨#[]⟩ : ByteArray), (⟨#[]⟩ : ByteArray), 0, 0⟩ : S81), (⟨#[106]⟩ : ByteArray), 0⟩ : S83) )) (Reps.c9 (show Kd.M k83 _ _ _ (⟨3, 8, (⟨(⟨#[]⟩ : ByteArray), (⟨#[]⟩ : ByteArray), (⟨#[]⟩ : ByteArray), 0, 0⟩ : S81), (⟨#[106]⟩ : ByteArray), 150⟩ : S83) [.int .i64 3, .int .i64 8, .string (⟨#[]⟩ : ByteArray), .string (⟨#[]⟩ : ByteArray), .string (⟨#[]⟩ : ByteArray), .int .i64 0, .int .i64 0, .string (⟨#[106]⟩ : ByteArray), .int .i64 150] from (k83_mkM _ _ _ (⟨3, 8, (⟨(⟨#[]⟩ : ByteArray), (⟨#[]⟩ : ByteArray), (⟨#[]⟩ : ByteArray), 0, 0⟩ : S81), (⟨#[106]⟩ : ByteArray), 150⟩ : S83) )) (Reps.c9 (show Kd.M k83 _ _ _ (⟨4, 12, (⟨(⟨#[]⟩ : ByteArray), (⟨#[]⟩ : ByteArray), (⟨#[]⟩ : ByteArray), 0, 0⟩ : S81), (⟨#[106]⟩ : ByteArray), 0⟩ : S83) [.int .i64 4, .int .i64 12, .string (⟨#[]⟩ : ByteArray), .string (⟨#[]⟩ : ByteArray), .string (⟨#[]⟩ : ByteArray), .int .i64 0, .int .i64 0, .string (⟨#[106]⟩ : ByteArray), .int .i64 0] from (k83_mkM _ _ _ (⟨4, 12, (⟨(⟨#[]⟩ : ByteArray), (⟨#[]⟩ : ByteArray), (⟨#[]⟩ : ByteArray), 0, 0⟩ : S81), (⟨#[106]⟩ : ByteArray), 0⟩ : S83) )) (Reps.none _ _)))))); intro v188 w18 ho19 hb hg_ hnew_; clear hg_ hnew_; (first | rw [← Ny187.out] at ho19 | (simp only [Int.reduceToNat] at ho19; rw [← Ny187.out] at ho19)); replace HO186 := ko HO186 hb; have HO189 := Aside0.mk (Kd.R_lower ho19 (below_size t_37)); replace BK183 := kc BK183 hb; replace HB := Aside0.mk (below_step t_37 hb); clear hb ho19; obtain ⟨Ao20, co20, eo20⟩ := Kd.R_slice HO186.out; subst eo20; obtain ⟨Ao21, co21, eo21⟩ := Kd.R_slice HO189.out; subst eo21) | ((with_reducible refine gate_callee (f := 47) rfl ?_); refine goesL_ (some 17) rfl rfl Try.func47 t_8e rfl #[.slice Ao20 y184.length co20, .slice Ao21 y187.length co21] rfl t_45 ?_; (with_reducible refine (job_Of.calls k _ _ y184 _ _ y187 t190 t191 t194 t197 t198 t199 t200 _ ?side1 ?side2 ?side3 ?side4 A1.out).mono ?_); (case side1 => exact cl ((Kd.R_reads' HO186.out).2.2)); (case side2 => exact (Kd.R_reads' HO186.out).2.1); (case side3 => exact cl ((Kd.R_reads' HO189.out).2.2)); (case side4 => exact (Kd.R_reads' HO189.out).2.1); rintro e w22 ⟨v192, v195, rfl, ho0, ho1, hb⟩; refine ⟨_, rfl, ?_⟩; replace HO189 := ko HO189 hb; have HO193 := Aside0.mk (Kd.R_lower ho0 (below_size t_37)); have HO196 := Aside0.mk (Kd.R_lower (Kd.R_new' ho1 (Kd.R_lt (rl HO186.out))) (below_size t_37)); replace HO186 := Aside0.mk (Kd.R_elder' (rl HO186.out) (Kd.R_base ho1) hb); replace BK183 := kc BK183 hb; replace HB := Aside0.mk (below_step t_37 hb); (try clear hb); (try clear hb2); (try clear hk); (try clear hi); (try clear ho0); (try clear ho1)) | ((with_reducible refine gate_dst (N := 2) rfl ?_); (try (refine gate_guard (by rfl) ?_; dsimp only)); refine bx_ (N := 2) (cs := #[.int .i64 0, .slice none 0 0, .slice none 0 0, .int .i64 0, .int .i64 0]) (t := 77) ?_; intro gb201 hg w23 hbox hb; replace HO186 := ko HO186 hb; replace HO189 := ko HO189 hb; replace HO193 := ko HO193 hb; replace HO196 := ko HO196 hb; have BK201 := Aside0.mk (hbox); have GW201 := Aside0.mk ((by rw [hg]; exact (below_size t_37) : w.heap.size ≤ gb201)); have GE201 := Aside0.mk ((by rw [hg]; exact (below_size t_37) : w.heap.size ≤ gb201)); replace HB := Aside0.mk (below_step t_37 hb); have NB183_201 := nl hg BK183; have NB201_183 := ng hg BK183; replace BK183 := kc BK183 hb; clear hb hbox hg; have hnb24 := NB201_183.out; have hnc24 := NB183_201.out; obtain ⟨hcz25_0, hcz25_1, hcz25_2, hcz25_3, hcz25_4⟩ := sqc5 BK201.out; obtain ⟨hfz25_0, hfz25_1, hfz25_2, hfz25_3, hfz25_4⟩ := frozen5 BK201.out; obtain ⟨Ao26, co26, eo26⟩ := Kd.R_slice HO193.out; subst eo26; obtain ⟨Ao27, co27, eo27⟩ := Kd.R_slice HO196.out; subst eo27) | ((with_reducible refine gate_callee (f := 52) rfl ?_); refine goesL_ (some 23) rfl rfl Try.func52 t_8e rfl #[.agg #[.int .i64 t190, .slice Ao26 t191.length co26, .slice Ao27 t194.length co27, .int .i64 t197, .int .i64 t198], .string (⟨#[114, 111, 117, 110, 100]⟩ : ByteArray)] rfl t_45 ?_; (with_reducible refine (job_Yield.calls k t190 _ _ t191 _ _ t194 t197 t198 (⟨#[114, 111, 117, 110, 100]⟩ : ByteArray) t202 t203 _ ?side1 ?side2 ?side3 ?side4 A2.out).mono ?_); (case side1 => refine (Kd.R_reads' (e := 99) (base := w.heap.size) (ok := fun k_ => True) (n := t191.length) (c := co26) ?_).2.2; exact t_a); (case side2 => exact (Kd.R_reads' HO193.out).2.1); (case side3 => refine (Kd.R_reads' (e := 24) (base := w.heap.size) (ok := fun k_ => (True ∧ some k_ ≠ (.slice Ao20 y184.length co20 : Value).ownBlock)) (n := t194.length) (c := co27) ?_).2.2; exact t_b); (case side4 => exact (Kd.R_reads' HO196.out).2.1); rintro e w28 ⟨rfl, hb⟩; refine ⟨_, rfl, ?_⟩; replace HO186 := Aside0.mk (Kd.R_below (by (with_reducible repeat (first | apply Kd.R_alloc | apply Kd.R_drewN | apply Kd.R_drew)); exact (Kd.R_mono (Kd.R_far (p := ⟨gb201, 4, none⟩) (Kd.R_far (p := ⟨gb201, 3, none⟩) (Kd.R_far (p := ⟨gb201, 2, none⟩) (Kd.R_far (p := ⟨gb201, 1, none⟩) (Kd.R_far (p := ⟨gb201, 0, none⟩) (Kd.R_types HO186.out BK201.out (by decide)) (fun _ hk => hk.2) (.int .i64 t190)) (fun _ hk => hk.2) (.slice Ao26 t191.length co26)) (fun _ hk => hk.2) (.slice Ao27 t194.length co27)) (fun _ hk => hk.2) (.int .i64 t197)) (fun _ hk => hk.2) (.int .i64 t198)) (fun _ h_ => h_.1))) hb); replace HO189 := Aside0.mk (Kd.R_below (by (with_reducible repeat (first | apply Kd.R_alloc | apply Kd.R_drewN | apply Kd.R_drew)); exact (Kd.R_mono (Kd.R_far (p := ⟨gb201, 4, none⟩) (Kd.R_far (p := ⟨gb201, 3, none⟩) (Kd.R_far (p := ⟨gb201, 2, none⟩) (Kd.R_far (p := ⟨gb201, 1, none⟩) (Kd.R_far (p := ⟨gb201, 0, none⟩) (Kd.R_types HO189.out BK201.out (by decide)) (fun _ hk => hk.2) (.int .i64 t190)) (fun _ hk => hk.2) (.slice Ao26 t191.length co26)) (fun _ hk => hk.2) (.slice Ao27 t194.length co27)) (fun _ hk => hk.2) (.int .i64 t197)) (fun _ hk => hk.2) (.int .i64 t198)) (fun _ h_ => h_.1))) hb); replace HO193 := Aside0.mk (Kd.R_below t_a hb); replace HO196 := Aside0.mk (Kd.R_below t_b hb); replace BK183 := Aside0.mk (blk_below (g := gb183) (o := .cells #[.string (⟨#[106]⟩ : ByteArray), .string (⟨#[97]⟩ : ByteArray), .string (⟨#[114, 111, 117, 110, 100]⟩ : ByteArray), .int .i64 10, .int .i64 90] 81 (0, 0)) (by (with_reducible repeat (first | refine blk_drewN ?_ _ | refine blk_drew ?_ | refine blk_alloc ?_ _)); refine blk_far ?_ NB183_201.out _; (with_reducible repeat (first | refine blk_drewN ?_ _ | refine blk_drew ?_ | refine blk_alloc ?_ _)); refine blk_far ?_ NB183_201.out _; (with_reducible repeat (first | refine blk_drewN ?_ _ | refine blk_drew ?_ | refine blk_alloc ?_ _)); refine blk_far ?_ NB183_201.out _; (with_reducible repeat (first | refine blk_drewN ?_ _ | refine blk_drew ?_ | refine blk_alloc ?_ _)); refine blk_far ?_ NB183_201.out _; (with_reducible repeat (first | refine blk_drewN ?_ _ | refine blk_drew ?_ | refine blk_alloc ?_ _)); refine blk_far ?_ NB183_201.out _; (with_reducible repeat (first | refine blk_drewN ?_ _ | refine blk_drew ?_ | refine blk_alloc ?_ _)); exact BK183.out) hb); replace BK201 := Aside0.mk (blk_below (g := gb201) (o := .cells #[.int .i64 t190, .slice Ao26 t191.length co26, .slice Ao27 t194.length co27, .int .i64 t197, .int .i64 t198] 77 (0, 0)) (by (with_reducible repeat (first | refine blk_drewN ?_ _ | refine blk_drew ?_ | refine blk_alloc ?_ _)); apply put5; (with_reducible repeat (first | refine blk_drewN ?_ _ | refine blk_drew ?_ | refine blk_alloc ?_ _)); exact BK201.out) hb); replace HB := Aside0.mk (below_step t_1f hb); (try clear hb); (try clear hb2); (try clear hk); (try clear hi); obtain ⟨hcz29_0, hcz29_1, hcz29_2, hcz29_3, hcz29_4⟩ := sqc5 BK201.out; obtain ⟨hfz29_0, hfz29_1, hfz29_2, hfz29_3, hfz29_4⟩ := frozen5 BK201.out) | (go_at_call 43; (with_reducible refine (job_Right.calls t190 _ _ t191 _ _ t194 t197 t198 true _ ?side1 ?side2 ?side3 ?side4 A10.out).mono ?_); (case side1 => exact cl ((Kd.R_reads' HO193.out).2.2)); (case side2 => exact (Kd.R_reads' HO193.out).2.1); (case side3 => exact cl ((Kd.R_reads' HO196.out).2.2)); (case side4 => exact (Kd.R_reads' HO196.out).2.1); rintro e w30 ⟨rfl, hb⟩; replace HO186 := ko HO186 hb; replace HO189 := ko HO189 hb; replace HO193 := ko HO193 hb; replace HO196 := ko HO196 hb; replace BK183 := kc BK183 hb; replace BK201 := kc BK201 hb; replace HB := Aside0.mk (below_step t_1f hb); (try clear hb); (try clear hb2); (try clear hk); (try clear hi); obtain ⟨hcz31_0, hcz31_1, hcz31_2, hcz31_3, hcz31_4⟩ := sqc5 BK183.out; obtain ⟨hfz31_0, hfz31_1, hfz31_2, hfz31_3, hfz31_4⟩ := frozen5 BK183.out) | (go_at_call 44; (with_reducible refine (job_Valid.calls (⟨#[106]⟩ : ByteArray) (⟨#[97]⟩ : ByteArray) (⟨#[114, 111, 117, 110, 100]⟩ : ByteArray) 10 90 t205 _ A12.out).mono ?_); rintro e w32 ⟨rfl, hb⟩; replace HO186 := ko HO186 hb; replace HO189 := ko HO189 hb; replace HO193 := ko HO193 hb; replace HO196 := ko HO196 hb; replace BK183 := kc BK183 hb; replace BK201 := kc BK201 hb; replace HB := Aside0.mk (below_step t_1f hb); (try clear hb); (try clear hb2); (try clear hk); (try clear hi)))
         go_ret
         exact ⟨t_68, t_1f⟩
        ·replace c11 := Bool.eq_false_iff.mpr c11
         subst c11
         rw [if_neg (show ¬ (false = true) by decide)] at H
         exact absurd ((Option.some.inj H).trans HTRUE.out) (by decide)
       ·rw [if_neg c9] at H
        have c9b0 : (t203 == 500) = false := beq_eq_false_iff_ne.mpr c9
        have c9b1 : (t203 != 500) = true := bne_iff_ne.mpr c9
        exact absurd ((Option.some.inj H).trans HTRUE.out) (by decide)
      ·rw [if_neg c8] at H
       have c8b0 : (t202 == 150) = false := beq_eq_false_iff_ne.mpr c8
       have c8b1 : (t202 != 150) = true := bne_iff_ne.mpr c8
       exact absurd ((Option.some.inj H).trans HTRUE.out) (by decide)
     ·rw [if_neg c7] at H
      have c7b0 : ((t194.length : Int) == 0) = false := beq_eq_false_iff_ne.mpr c7
      have c7b1 : ((t194.length : Int) != 0) = true := bne_iff_ne.mpr c7
      have c7b2 : ¬ (t194 = []) := fun h_ => c7 (by rw [h_]; rfl)
      exact absurd ((Option.some.inj H).trans HTRUE.out) (by decide)
    ·rw [if_neg c6] at H
     have c6b0 : (t198 == 2) = false := beq_eq_false_iff_ne.mpr c6
     have c6b1 : (t198 != 2) = true := bne_iff_ne.mpr c6
     exact absurd ((Option.some.inj H).trans HTRUE.out) (by decide)
   ·rw [if_neg c5] at H
    have c5b0 : (t197 == 90) = false := beq_eq_false_iff_ne.mpr c5
    have c5b1 : (t197 != 90) = true := bne_iff_ne.mpr c5
    exact absurd ((Option.some.inj H).trans HTRUE.out) (by decide)
  ·rw [if_neg c4] at H
   have c4b0 : (t199 == 4) = false := beq_eq_false_iff_ne.mpr c4
   have c4b1 : (t199 != 4) = true := bne_iff_ne.mpr c4
   exact absurd ((Option.some.inj H).trans HTRUE.out) (by decide)
 ·rw [if_neg c3] at H
  have c3b0 : (t200 == 0) = false := beq_eq_false_iff_ne.mpr c3
  have c3b1 : (t200 != 0) = true := bne_iff_ne.mpr c3
  exact absurd ((Option.some.inj H).trans HTRUE.out) (by decide)

end Go.Proofs.Ytndbchcfjajgbaa.XP
