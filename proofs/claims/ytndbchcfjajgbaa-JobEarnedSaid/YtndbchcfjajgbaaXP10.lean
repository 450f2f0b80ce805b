-- printed by xprint.py
import Derived.Test.YtndbchcfjajgbaaXP0
import Derived.Test.YtndbchcfjajgbaaXP1
import Derived.Test.YtndbchcfjajgbaaXP8
import Derived.Test.YtndbchcfjajgbaaXP9
namespace Go.Proofs.Ytndbchcfjajgbaa.XP
open Go.Proofs.Ytndbchcfjajgbaa.XW
open Go.RowKit Go.Proofs.YtndbchcfjajgbaaW.PrintWords Go.Proofs.YtndbchcfjajgbaaW.PrintLast Go.Proofs.YtndbchcfjajgbaaW.PrintMore
attribute [local go_sem] max2_int min2_int max_two min_two max_three min_three max_four min_four   -- for this text's walks alone
set_option linter.unusedVariables false
set_option linter.unusedSimpArgs false

attribute [local go_sem high] eqA24
/-! ### job_right: function 93 -/
mutual
def job_right.j0 : Nat → Bool → ByteArray → ByteArray → ByteArray → Int → Int → Int → Int → Int → Int → ByteArray → ByteArray → Int → Int → Option (Bool)
 | 0, _, _, _, _, _, _, _, _, _, _, _, _, _, _ => none
 | k + 1, x22, Qa0, Qa1, Qa2, Qa3, Qa4, Qa5, Qa6, Qa7, Qa8, Qa9, Qa10, Qa11, Qa12 => if x22 = true then (some false) else (if Qa5 = 1 then (job_right.j1 k false false false Qa5 (Qa5 == 1) Qa0 Qa1 Qa2 Qa3 Qa4 Qa5 Qa6 Qa7 Qa8 Qa9 Qa10 Qa11 Qa12) else (job_right.j1 k false false false Qa5 (Qa5 == 5) Qa0 Qa1 Qa2 Qa3 Qa4 Qa5 Qa6 Qa7 Qa8 Qa9 Qa10 Qa11 Qa12))
def job_right.j2 : Nat → Bool → Bool → Bool → ByteArray → ByteArray → ByteArray → Int → Int → Int → Int → Int → Int → ByteArray → ByteArray → Int → Int → Option (Bool)
 | 0, _, _, _, _, _, _, _, _, _, _, _, _, _, _, _, _ => none
 | k + 1, x5, x6, x7, Qa0, Qa1, Qa2, Qa3, Qa4, Qa5, Qa6, Qa7, Qa8, Qa9, Qa10, Qa11, Qa12 => if (x5 != (decide (Qa7 ≥ 1))) = true then (job_right.j3 k x7 true Qa0 Qa1 Qa2 Qa3 Qa4 Qa5 Qa6 Qa7 Qa8 Qa9 Qa10 Qa11 Qa12) else (if x5 = true then (if x6 = true then (if Qa8 < 1 then (job_right.j3 k x7 true Qa0 Qa1 Qa2 Qa3 Qa4 Qa5 Qa6 Qa7 Qa8 Qa9 Qa10 Qa11 Qa12) else (if Qa8 > Qa7 then (job_right.j3 k x7 true Qa0 Qa1 Qa2 Qa3 Qa4 Qa5 Qa6 Qa7 Qa8 Qa9 Qa10 Qa11 Qa12) else (job_right.j3 k x7 false Qa0 Qa1 Qa2 Qa3 Qa4 Qa5 Qa6 Qa7 Qa8 Qa9 Qa10 Qa11 Qa12))) else (job_right.j3 k x7 (Qa8 != 0) Qa0 Qa1 Qa2 Qa3 Qa4 Qa5 Qa6 Qa7 Qa8 Qa9 Qa10 Qa11 Qa12)) else (if Qa7 = 0 then (if x6 = true then (if Qa8 < 1 then (job_right.j3 k x7 true Qa0 Qa1 Qa2 Qa3 Qa4 Qa5 Qa6 Qa7 Qa8 Qa9 Qa10 Qa11 Qa12) else (if Qa8 > Qa7 then (job_right.j3 k x7 true Qa0 Qa1 Qa2 Qa3 Qa4 Qa5 Qa6 Qa7 Qa8 Qa9 Qa10 Qa11 Qa12) else (job_right.j3 k x7 false Qa0 Qa1 Qa2 Qa3 Qa4 Qa5 Qa6 Qa7 Qa8 Qa9 Qa10 Qa11 Qa12))) else (job_right.j3 k x7 (Qa8 != 0) Qa0 Qa1 Qa2 Qa3 Qa4 Qa5 Qa6 Qa7 Qa8 Qa9 Qa10 Qa11 Qa12)) else (job_right.j3 k x7 true Qa0 Qa1 Qa2 Qa3 Qa4 Qa5 Qa6 Qa7 Qa8 Qa9 Qa10 Qa11 Qa12)))
def job_right.j3 : Nat → Bool → Bool → ByteArray → ByteArray → ByteArray → Int → Int → Int → Int → Int → Int → ByteArray → ByteArray → Int → Int → Option (Bool)
 | 0, _, _, _, _, _, _, _, _, _, _, _, _, _, _, _ => none
 | k + 1, x7, x70, Qa0, Qa1, Qa2, Qa3, Qa4, Qa5, Qa6, Qa7, Qa8, Qa9, Qa10, Qa11, Qa12 => if x70 = true then (some false) else (if x7 = true then ((parcel_Valid.f k (([(⟨Qa9, Qa10, Qa11, Qa12⟩ : S24)] : List (S24)))).bind fun t124 => (if t124 = true then (if Qa9.toList = Qa1.toList then (some (Qa11 == Qa7)) else (some false)) else (some false))) else (some (Qa9.toList == ([] : List UInt8) && (Qa10.toList == ([] : List UInt8) && (Qa11 == 0 && (Qa12 == 0))))))
def job_right.j1 : Nat → Bool → Bool → Bool → Int → Bool → ByteArray → ByteArray → ByteArray → Int → Int → Int → Int → Int → Int → ByteArray → ByteArray → Int → Int → Option (Bool)
 | 0, _, _, _, _, _, _, _, _, _, _, _, _, _, _, _, _, _, _ => none
 | k + 1, x5, x6, x7, x24, x25, Qa0, Qa1, Qa2, Qa3, Qa4, Qa5, Qa6, Qa7, Qa8, Qa9, Qa10, Qa11, Qa12 => if x25 = true then (job_right.j2 k x5 x6 x7 Qa0 Qa1 Qa2 Qa3 Qa4 Qa5 Qa6 Qa7 Qa8 Qa9 Qa10 Qa11 Qa12) else (if x24 = 2 then (job_right.j2 k true x6 true Qa0 Qa1 Qa2 Qa3 Qa4 Qa5 Qa6 Qa7 Qa8 Qa9 Qa10 Qa11 Qa12) else (if x24 = 3 then (job_right.j2 k true true x7 Qa0 Qa1 Qa2 Qa3 Qa4 Qa5 Qa6 Qa7 Qa8 Qa9 Qa10 Qa11 Qa12) else (if x24 = 4 then (job_right.j2 k true true x7 Qa0 Qa1 Qa2 Qa3 Qa4 Qa5 Qa6 Qa7 Qa8 Qa9 Qa10 Qa11 Qa12) else (some false))))
end
def job_right.f (k : Nat) (e0 : ByteArray) (e1 : ByteArray) (e2 : ByteArray) (e3 : Int) (e4 : Int) (e5 : Int) (e6 : Int) (e7 : Int) (e8 : Int) (e9 : ByteArray) (e10 : ByteArray) (e11 : Int) (e12 : Int) (a1 : Int) : Option (Bool) := (job_Valid.f e0 e1 e2 e3 e4).bind fun t120 => (if t120 = true then (if e6 < 0 then (job_right.j0 k true e0 e1 e2 e3 e4 e5 e6 e7 e8 e9 e10 e11 e12) else (job_right.j0 k (decide (e6 > a1)) e0 e1 e2 e3 e4 e5 e6 e7 e8 e9 e10 e11 e12)) else (job_right.j0 k true e0 e1 e2 e3 e4 e5 e6 e7 e8 e9 e10 e11 e12))
theorem job_right.mono_l : ∀ k, (∀ y0 y1 y2 y3 y4 y5 y6 y7 y8 y9 y10 y11 y12 y13, LeO (job_right.j0 k y0 y1 y2 y3 y4 y5 y6 y7 y8 y9 y10 y11 y12 y13) (job_right.j0 (k + 1) y0 y1 y2 y3 y4 y5 y6 y7 y8 y9 y10 y11 y12 y13)) ∧ (∀ y0 y1 y2 y3 y4 y5 y6 y7 y8 y9 y10 y11 y12 y13 y14 y15, LeO (job_right.j2 k y0 y1 y2 y3 y4 y5 y6 y7 y8 y9 y10 y11 y12 y13 y14 y15) (job_right.j2 (k + 1) y0 y1 y2 y3 y4 y5 y6 y7 y8 y9 y10 y11 y12 y13 y14 y15)) ∧ (∀ y0 y1 y2 y3 y4 y5 y6 y7 y8 y9 y10 y11 y12 y13 y14, LeO (job_right.j3 k y0 y1 y2 y3 y4 y5 y6 y7 y8 y9 y10 y11 y12 y13 y14) (job_right.j3 (k + 1) y0 y1 y2 y3 y4 y5 y6 y7 y8 y9 y10 y11 y12 y13 y14)) ∧ (∀ y0 y1 y2 y3 y4 y5 y6 y7 y8 y9 y10 y11 y12 y13 y14 y15 y16 y17, LeO (job_right.j1 k y0 y1 y2 y3 y4 y5 y6 y7 y8 y9 y10 y11 y12 y13 y14 y15 y16 y17) (job_right.j1 (k + 1) y0 y1 y2 y3 y4 y5 y6 y7 y8 y9 y10 y11 y12 y13 y14 y15 y16 y17))
 | 0 => ⟨fun _ _ _ _ _ _ _ _ _ _ _ _ _ _ r h => by simp [job_right.j0] at h, fun _ _ _ _ _ _ _ _ _ _ _ _ _ _ _ _ r h => by simp [job_right.j2] at h, fun _ _ _ _ _ _ _ _ _ _ _ _ _ _ _ r h => by simp [job_right.j3] at h, fun _ _ _ _ _ _ _ _ _ _ _ _ _ _ _ _ _ _ r h => by simp [job_right.j1] at h⟩
 | k + 1 => by
  obtain ⟨ih0, ih1, ih2, ih3⟩ := job_right.mono_l k
  refine ⟨?_, ?_, ?_, ?_⟩
  ·intro y0 y1 y2 y3 y4 y5 y6 y7 y8 y9 y10 y11 y12 y13
   unfold job_right.j0
   repeat' first
   | (with_reducible exact ih0 _ _ _ _ _ _ _ _ _ _ _ _ _ _)
   | (with_reducible exact ih1 _ _ _ _ _ _ _ _ _ _ _ _ _ _ _ _)
   | (with_reducible exact ih2 _ _ _ _ _ _ _ _ _ _ _ _ _ _ _)
   | (with_reducible exact ih3 _ _ _ _ _ _ _ _ _ _ _ _ _ _ _ _ _ _)
   | (with_reducible exact parcel_Valid.mono _ _)
   | (with_reducible exact LeO.refl _)
   | (with_reducible exact LeO.none _)
   | (with_reducible refine LeO.ite ?_ ?_)
   | (with_reducible refine LeO.bind ?_ (fun _ => ?_))
   | exact ih0 _ _ _ _ _ _ _ _ _ _ _ _ _ _
   | exact ih1 _ _ _ _ _ _ _ _ _ _ _ _ _ _ _ _
   | exact ih2 _ _ _ _ _ _ _ _ _ _ _ _ _ _ _
   | exact ih3 _ _ _ _ _ _ _ _ _ _ _ _ _ _ _ _ _ _
   | exact parcel_Valid.mono _ _
   | exact LeO.none _
   | refine LeO.ite ?_ ?_
   | refine LeO.bind ?_ (fun _ => ?_)
  ·intro y0 y1 y2 y3 y4 y5 y6 y7 y8 y9 y10 y11 y12 y13 y14 y15
   unfold job_right.j2
   repeat' first
   | (with_reducible exact ih0 _ _ _ _ _ _ _ _ _ _ _ _ _ _)
   | (with_reducible exact ih1 _ _ _ _ _ _ _ _ _ _ _ _ _ _ _ _)
   | (with_reducible exact ih2 _ _ _ _ _ _ _ _ _ _ _ _ _ _ _)
   | (with_reducible exact ih3 _ _ _ _ _ _ _ _ _ _ _ _ _ _ _ _ _ _)
   | (with_reducible exact parcel_Valid.mono _ _)
   | (with_reducible exact LeO.refl _)
   | (with_reducible exact LeO.none _)
   | (with_reducible refine LeO.ite ?_ ?_)
   | (with_reducible refine LeO.bind ?_ (fun _ => ?_))
   | exact ih0 _ _ _ _ _ _ _ _ _ _ _ _ _ _
   | exact ih1 _ _ _ _ _ _ _ _ _ _ _ _ _ _ _ _
   | exact ih2 _ _ _ _ _ _ _ _ _ _ _ _ _ _ _
   | exact ih3 _ _ _ _ _ _ _ _ _ _ _ _ _ _ _ _ _ _
   | exact parcel_Valid.mono _ _
   | exact LeO.none _
   | refine LeO.ite ?_ ?_
   | refine LeO.bind ?_ (fun _ => ?_)
  ·intro y0 y1 y2 y3 y4 y5 y6 y7 y8 y9 y10 y11 y12 y13 y14
   unfold job_right.j3
   repeat' first
   | (with_reducible exact ih0 _ _ _ _ _ _ _ _ _ _ _ _ _ _)
   | (with_reducible exact ih1 _ _ _ _ _ _ _ _ _ _ _ _ _ _ _ _)
   | (with_reducible exact ih2 _ _ _ _ _ _ _ _ _ _ _ _ _ _ _)
   | (with_reducible exact ih3 _ _ _ _ _ _ _ _ _ _ _ _ _ _ _ _ _ _)
   | (with_reducible exact parcel_Valid.mono _ _)
   | (with_reducible exact LeO.refl _)
   | (with_reducible exact LeO.none _)
   | (with_reducible refine LeO.ite ?_ ?_)
   | (with_reducible refine LeO.bind ?_ (fun _ => ?_))
   | exact ih0 _ _ _ _ _ _ _ _ _ _ _ _ _ _
   | exact ih1 _ _ _ _ _ _ _ _ _ _ _ _ _ _ _ _
   | exact ih2 _ _ _ _ _ _ _ _ _ _ _ _ _ _ _
   | exact ih3 _ _ _ _ _ _ _ _ _ _ _ _ _ _ _ _ _ _
   | exact parcel_Valid.mono _ _
   | exact LeO.none _
   | refine LeO.ite ?_ ?_
   | refine LeO.bind ?_ (fun _ => ?_)
  ·intro y0 y1 y2 y3 y4 y5 y6 y7 y8 y9 y10 y11 y12 y13 y14 y15 y16 y17
   unfold job_right.j1
   repeat' first
   | (with_reducible exact ih0 _ _ _ _ _ _ _ _ _ _ _ _ _ _)
   | (with_reducible exact ih1 _ _ _ _ _ _ _ _ _ _ _ _ _ _ _ _)
   | (with_reducible exact ih2 _ _ _ _ _ _ _ _ _ _ _ _ _ _ _)
   | (with_reducible exact ih3 _ _ _ _ _ _ _ _ _ _ _ _ _ _ _ _ _ _)
   | (with_reducible exact parcel_Valid.mono _ _)
   | (with_reducible exact LeO.refl _)
   | (with_reducible exact LeO.none _)
   | (with_reducible refine LeO.ite ?_ ?_)
   | (with_reducible refine LeO.bind ?_ (fun _ => ?_))
   | exact ih0 _ _ _ _ _ _ _ _ _ _ _ _ _ _
   | exact ih1 _ _ _ _ _ _ _ _ _ _ _ _ _ _ _ _
   | exact ih2 _ _ _ _ _ _ _ _ _ _ _ _ _ _ _
   | exact ih3 _ _ _ _ _ _ _ _ _ _ _ _ _ _ _ _ _ _
   | exact parcel_Valid.mono _ _
   | exact LeO.none _
   | refine LeO.ite ?_ ?_
   | refine LeO.bind ?_ (fun _ => ?_)
theorem job_right.mono : ∀ a0 a1 a2 a3 a4 a5 a6 a7 a8 a9 a10 a11 a12 a13 k, LeO (job_right.f k a0 a1 a2 a3 a4 a5 a6 a7 a8 a9 a10 a11 a12 a13) (job_right.f (k + 1) a0 a1 a2 a3 a4 a5 a6 a7 a8 a9 a10 a11 a12 a13) := by
 intro a0 a1 a2 a3 a4 a5 a6 a7 a8 a9 a10 a11 a12 a13 k
 obtain ⟨ih0, ih1, ih2, ih3⟩ := job_right.mono_l k
 unfold job_right.f
 repeat' first
   | (with_reducible exact ih0 _ _ _ _ _ _ _ _ _ _ _ _ _ _)
   | (with_reducible exact ih1 _ _ _ _ _ _ _ _ _ _ _ _ _ _ _ _)
   | (with_reducible exact ih2 _ _ _ _ _ _ _ _ _ _ _ _ _ _ _)
   | (with_reducible exact ih3 _ _ _ _ _ _ _ _ _ _ _ _ _ _ _ _ _ _)
   | (with_reducible exact parcel_Valid.mono _ _)
   | (with_reducible exact LeO.refl _)
   | (with_reducible exact LeO.none _)
   | (with_reducible refine LeO.ite ?_ ?_)
   | (with_reducible refine LeO.bind ?_ (fun _ => ?_))
   | exact ih0 _ _ _ _ _ _ _ _ _ _ _ _ _ _
   | exact ih1 _ _ _ _ _ _ _ _ _ _ _ _ _ _ _ _
   | exact ih2 _ _ _ _ _ _ _ _ _ _ _ _ _ _ _
   | exact ih3 _ _ _ _ _ _ _ _ _ _ _ _ _ _ _ _ _ _
   | exact parcel_Valid.mono _ _
   | exact LeO.none _
   | refine LeO.ite ?_ ?_
   | refine LeO.bind ?_ (fun _ => ?_)
set_option maxHeartbeats 8000000 in
set_option maxRecDepth 100000 in
theorem job_right.calls (k : Nat) (e0 : ByteArray) (e1 : ByteArray) (e2 : ByteArray) (e3 : Int) (e4 : Int) (e5 : Int) (e6 : Int) (e7 : Int) (e8 : Int) (e9 : ByteArray) (e10 : ByteArray) (e11 : Int) (e12 : Int) (a1 : Int) (r : Bool) (w : World) (h : job_right.f k e0 e1 e2 e3 e4 e5 e6 e7 e8 e9 e10 e11 e12 a1 = some r) :
  Calls Try.prog 93 #[.agg #[.string e0, .string e1, .string e2, .int .i64 e3, .int .i64 e4, .int .i64 e5, .int .i64 e6, .int .i64 e7, .int .i64 e8, .string e9, .string e10, .int .i64 e11, .int .i64 e12], .int .i64 a1] w fun e w' => e = .returned (.bool r) ∧ Below w.heap.size w w' := by
 have hu99 := Try.underlying99
 have hu81 := Try.underlying81
 have hu24 := Try.underlying24
 have HB := Aside0.mk (Below.refl w.heap.size w)
 have H : ((job_Valid.f e0 e1 e2 e3 e4).bind fun t120 => (if t120 = true then (if e6 < 0 then (job_right.j0 k true e0 e1 e2 e3 e4 e5 e6 e7 e8 e9 e10 e11 e12) else (job_right.j0 k (decide (e6 > a1)) e0 e1 e2 e3 e4 e5 e6 e7 e8 e9 e10 e11 e12)) else (job_right.j0 k true e0 e1 e2 e3 e4 e5 e6 e7 e8 e9 e10 e11 e12))) = some r := h
 clear h
 have HC3 := Aside0.mk H
 clear H
 go_enter Try.func93, Try.ntmps93
 go_upto_region 1 with (first | ((with_reducible refine gate_dst (N := 2) rfl ?_); refine box_event ?hg (N := 2) ?hd (cs := #[.string e0, .string e1, .string e2, .int .i64 e3, .int .i64 e4, .int .i64 e5, .int .i64 e6, .int .i64 e7, .int .i64 e8, .string e9, .string e10, .int .i64 e11, .int .i64 e12]) (t := 99) ?hr ?_; (case hd => rfl); (case hg => rfl); (case hr => go_simp; try rfl); intro gb119 hg w4 hbox hb; have n0_ := Aside0.mk (below_step (by repeat first | exact HB.out | apply below_alloc | apply pw_below_drewN | apply below_drew1) hb); have n1_ := Aside0.mk (hbox); have n2_ := Aside0.mk ((by rw [hg]; exact (below_size (by repeat first | exact HB.out | apply below_alloc | apply pw_below_drewN | apply below_drew1)) : w.heap.size ≤ gb119)); have n3_ := Aside0.mk ((by rw [hg]; exact (below_size (by repeat first | exact HB.out | apply below_alloc | apply pw_below_drewN | apply below_drew1)) : w.heap.size ≤ gb119)); clear HB; have HB := n0_; have BK119 := n1_; have GW119 := n2_; have GE119 := n3_; clear n0_ n1_ n2_ n3_; clear hb hbox hg))
 (try simp only [Act.put, List.setIfInBounds_toArray, List.set_cons_zero, List.set_cons_succ])
 go_cut [22] (fun v22 wc => ∃ (kq : Nat) (x22_2 : Bool), v22 = .bool x22_2 ∧ Aside0 (job_right.j0 kq x22_2 e0 e1 e2 e3 e4 e5 e6 e7 e8 e9 e10 e11 e12 = some r) ∧ Aside0 (kq ≤ k) ∧ Aside0 (wc.heap[gb119]? = some (.cells #[.string e0, .string e1, .string e2, .int .i64 e3, .int .i64 e4, .int .i64 e5, .int .i64 e6, .int .i64 e7, .int .i64 e8, .string e9, .string e10, .int .i64 e11, .int .i64 e12] 99 (0, 0))) ∧ Aside0 (Below w.heap.size w wc))
 case first =>
  have H := HC3.out
  clear HC3
  replace H := Option.bind_eq_some_iff.mp H
  obtain ⟨t120, A50, H⟩ := H
  replace H : (if t120 = true then (if e6 < 0 then (job_right.j0 k true e0 e1 e2 e3 e4 e5 e6 e7 e8 e9 e10 e11 e12) else (job_right.j0 k (decide (e6 > a1)) e0 e1 e2 e3 e4 e5 e6 e7 e8 e9 e10 e11 e12)) else (job_right.j0 k true e0 e1 e2 e3 e4 e5 e6 e7 e8 e9 e10 e11 e12)) = some r := H
  have A5 := Aside0.mk A50
  clear A50
  by_cases c6 : t120 = true
  ·subst c6
   have H1 : (if e6 < 0 then (job_right.j0 k true e0 e1 e2 e3 e4 e5 e6 e7 e8 e9 e10 e11 e12) else (job_right.j0 k (decide (e6 > a1)) e0 e1 e2 e3 e4 e5 e6 e7 e8 e9 e10 e11 e12)) = some r := by rw [if_pos rfl] at H; exact H
   clear H
   have H := H1
   clear H1
   by_cases c7 : e6 < 0
   ·rw [if_pos c7] at H
    have c7b0 : decide (e6 < 0) = true := decide_eq_true c7
    clear c7
    (first | rw [c7b0] | (simp only [i64_w, i32_w]; rw [c7b0]) | skip)
    have H' := Aside0.mk H
    clear H
    have hcz8_0 : w4.cell? ⟨gb119, 0, none⟩ = some (.string e0) := (blk_cell BK119.out 0).trans rfl
    have hcz8_1 : w4.cell? ⟨gb119, 1, none⟩ = some (.string e1) := (blk_cell BK119.out 1).trans rfl
    have hcz8_2 : w4.cell? ⟨gb119, 2, none⟩ = some (.string e2) := (blk_cell BK119.out 2).trans rfl
    have hcz8_3 : w4.cell? ⟨gb119, 3, none⟩ = some (.int .i64 e3) := (blk_cell BK119.out 3).trans rfl
    have hcz8_4 : w4.cell? ⟨gb119, 4, none⟩ = some (.int .i64 e4) := (blk_cell BK119.out 4).trans rfl
    have hcz8_5 : w4.cell? ⟨gb119, 5, none⟩ = some (.int .i64 e5) := (blk_cell BK119.out 5).trans rfl
    have hcz8_6 : w4.cell? ⟨gb119, 6, none⟩ = some (.int .i64 e6) := (blk_cell BK119.out 6).trans rfl
    have hcz8_7 : w4.cell? ⟨gb119, 7, none⟩ = some (.int .i64 e7) := (blk_cell BK119.out 7).trans rfl
    have hcz8_8 : w4.cell? ⟨gb119, 8, none⟩ = some (.int .i64 e8) := (blk_cell BK119.out 8).trans rfl
    have hcz8_9 : w4.cell? ⟨gb119, 9, none⟩ = some (.string e9) := (blk_cell BK119.out 9).trans rfl
    have hcz8_10 : w4.cell? ⟨gb119, 10, none⟩ = some (.string e10) := (blk_cell BK119.out 10).trans rfl
    have hcz8_11 : w4.cell? ⟨gb119, 11, none⟩ = some (.int .i64 e11) := (blk_cell BK119.out 11).trans rfl
    have hcz8_12 : w4.cell? ⟨gb119, 12, none⟩ = some (.int .i64 e12) := (blk_cell BK119.out 12).trans rfl
    have hfz8_0 := blk_frozen BK119.out 0
    have hfz8_1 := blk_frozen BK119.out 1
    have hfz8_2 := blk_frozen BK119.out 2
    have hfz8_3 := blk_frozen BK119.out 3
    have hfz8_4 := blk_frozen BK119.out 4
    have hfz8_5 := blk_frozen BK119.out 5
    have hfz8_6 := blk_frozen BK119.out 6
    have hfz8_7 := blk_frozen BK119.out 7
    have hfz8_8 := blk_frozen BK119.out 8
    have hfz8_9 := blk_frozen BK119.out 9
    have hfz8_10 := blk_frozen BK119.out 10
    have hfz8_11 := blk_frozen BK119.out 11
    have hfz8_12 := blk_frozen BK119.out 12
    go_wp2_with (first | ((with_reducible refine gate_callee (f := 44) rfl ?_); refine goesL_ (some 10) rfl rfl Try.func44 (by kernel_rfl) rfl #[.agg #[.string e0, .string e1, .string e2, .int .i64 e3, .int .i64 e4]] rfl (by (try simp only [List.map_toArray, List.map_cons, List.map_nil]); first | done | rfl | (simp only [List.length_drop, List.length_take]; rfl)) ?_; (with_reducible refine (job_Valid.calls e0 e1 e2 e3 e4 true _ A5.out).mono ?_); rintro e w9 ⟨rfl, hb⟩; refine ⟨_, rfl, ?_⟩; have n0_ := Aside0.mk (blk_below (g := gb119) (by (with_reducible repeat (first | refine blk_drewN ?_ _ | refine blk_drew ?_ | refine blk_alloc ?_ _)); exact BK119.out) hb); have n1_ := Aside0.mk (below_step (by repeat (first | (with_reducible first | exact HB.out | apply below_alloc | apply pw_below_drewN | apply below_drew1 | refine below_set ?_ GE119.out) | exact HB.out)) hb); clear BK119; clear HB; have BK119 := n0_; have HB := n1_; clear n0_ n1_; (try clear hb); (try clear hb2); (try clear hk); (try clear hi); obtain ⟨hcz10_0, hcz10_1, hcz10_2, hcz10_3, hcz10_4, hcz10_5, hcz10_6, hcz10_7, hcz10_8, hcz10_9, hcz10_10, hcz10_11, hcz10_12⟩ := sqc13 BK119.out; obtain ⟨hfz10_0, hfz10_1, hfz10_2, hfz10_3, hfz10_4, hfz10_5, hfz10_6, hfz10_7, hfz10_8, hfz10_9, hfz10_10, hfz10_11, hfz10_12⟩ := frozen13 BK119.out))
    go_meet
    case rel => exact ⟨_, (true), (by first | rfl | (simp; done) | (simp [*]; done)), H', ⟨by first | omega | exact Nat.le_refl _⟩, ⟨by (with_reducible repeat (first | refine blk_drewN ?_ _ | refine blk_drew ?_ | refine blk_alloc ?_ _)); exact BK119.out⟩, ⟨by repeat (first | (with_reducible first | exact HB.out | apply below_alloc | apply pw_below_drewN | apply below_drew1 | refine below_set ?_ GE119.out) | exact HB.out)⟩⟩
   ·rw [if_neg c7] at H
    have c7b0 : decide (e6 < 0) = false := decide_eq_false c7
    clear c7
    (first | rw [c7b0] | (simp only [i64_w, i32_w]; rw [c7b0]) | skip)
    have H' := Aside0.mk H
    clear H
    have hcz11_0 : w4.cell? ⟨gb119, 0, none⟩ = some (.string e0) := (blk_cell BK119.out 0).trans rfl
    have hcz11_1 : w4.cell? ⟨gb119, 1, none⟩ = some (.string e1) := (blk_cell BK119.out 1).trans rfl
    have hcz11_2 : w4.cell? ⟨gb119, 2, none⟩ = some (.string e2) := (blk_cell BK119.out 2).trans rfl
    have hcz11_3 : w4.cell? ⟨gb119, 3, none⟩ = some (.int .i64 e3) := (blk_cell BK119.out 3).trans rfl
    have hcz11_4 : w4.cell? ⟨gb119, 4, none⟩ = some (.int .i64 e4) := (blk_cell BK119.out 4).trans rfl
    have hcz11_5 : w4.cell? ⟨gb119, 5, none⟩ = some (.int .i64 e5) := (blk_cell BK119.out 5).trans rfl
    have hcz11_6 : w4.cell? ⟨gb119, 6, none⟩ = some (.int .i64 e6) := (blk_cell BK119.out 6).trans rfl
    have hcz11_7 : w4.cell? ⟨gb119, 7, none⟩ = some (.int .i64 e7) := (blk_cell BK119.out 7).trans rfl
    have hcz11_8 : w4.cell? ⟨gb119, 8, none⟩ = some (.int .i64 e8) := (blk_cell BK119.out 8).trans rfl
    have hcz11_9 : w4.cell? ⟨gb119, 9, none⟩ = some (.string e9) := (blk_cell BK119.out 9).trans rfl
    have hcz11_10 : w4.cell? ⟨gb119, 10, none⟩ = some (.string e10) := (blk_cell BK119.out 10).trans rfl
    have hcz11_11 : w4.cell? ⟨gb119, 11, none⟩ = some (.int .i64 e11) := (blk_cell BK119.out 11).trans rfl
    have hcz11_12 : w4.cell? ⟨gb119, 12, none⟩ = some (.int .i64 e12) := (blk_cell BK119.out 12).trans rfl
    have hfz11_0 := blk_frozen BK119.out 0
    have hfz11_1 := blk_frozen BK119.out 1
    have hfz11_2 := blk_frozen BK119.out 2
    have hfz11_3 := blk_frozen BK119.out 3
    have hfz11_4 := blk_frozen BK119.out 4
    have hfz11_5 := blk_frozen BK119.out 5
    have hfz11_6 := blk_frozen BK119.out 6
    have hfz11_7 := blk_frozen BK119.out 7
    have hfz11_8 := blk_frozen BK119.out 8
    have hfz11_9 := blk_frozen BK119.out 9
    have hfz11_10 := blk_frozen BK119.out 10
    have hfz11_11 := blk_frozen BK119.out 11
    have hfz11_12 := blk_frozen BK119.out 12
    go_wp2_with (first | ((with_reducible refine gate_callee (f := 44) rfl ?_); refine goesL_ (some 10) rfl rfl Try.func44 (by kernel_rfl) rfl #[.agg #[.string e0, .string e1, .string e2, .int .i64 e3, .int .i64 e4]] rfl (by (try simp only [List.map_toArray, List.map_cons, List.map_nil]); first | done | rfl | (simp only [List.length_drop, List.length_take]; rfl)) ?_; (with_reducible refine (job_Valid.calls e0 e1 e2 e3 e4 true _ A5.out).mono ?_); rintro e w12 ⟨rfl, hb⟩; refine ⟨_, rfl, ?_⟩; have n0_ := Aside0.mk (blk_below (g := gb119) (by (with_reducible repeat (first | refine blk_drewN ?_ _ | refine blk_drew ?_ | refine blk_alloc ?_ _)); exact BK119.out) hb); have n1_ := Aside0.mk (below_step (by repeat (first | (with_reducible first | exact HB.out | apply below_alloc | apply pw_below_drewN | apply below_drew1 | refine below_set ?_ GE119.out) | exact HB.out)) hb); clear BK119; clear HB; have BK119 := n0_; have HB := n1_; clear n0_ n1_; (try clear hb); (try clear hb2); (try clear hk); (try clear hi); obtain ⟨hcz13_0, hcz13_1, hcz13_2, hcz13_3, hcz13_4, hcz13_5, hcz13_6, hcz13_7, hcz13_8, hcz13_9, hcz13_10, hcz13_11, hcz13_12⟩ := sqc13 BK119.out; obtain ⟨hfz13_0, hfz13_1, hfz13_2, hfz13_3, hfz13_4, hfz13_5, hfz13_6, hfz13_7, hfz13_8, hfz13_9, hfz13_10, hfz13_11, hfz13_12⟩ := frozen13 BK119.out))
    go_meet
    case rel => exact ⟨_, (decide (e6 > a1)), (by first | rfl | (simp; done) | (simp [*]; done)), H', ⟨by first | omega | exact Nat.le_refl _⟩, ⟨by (with_reducible repeat (first | refine blk_drewN ?_ _ | refine blk_drew ?_ | refine blk_alloc ?_ _)); exact BK119.out⟩, ⟨by repeat (first | (with_reducible first | exact HB.out | apply below_alloc | apply pw_below_drewN | apply below_drew1 | refine below_set ?_ GE119.out) | exact HB.out)⟩⟩
  ·replace c6 := Bool.eq_false_iff.mpr c6
   subst c6
   have H1 : (job_right.j0 k true e0 e1 e2 e3 e4 e5 e6 e7 e8 e9 e10 e11 e12) = some r := by rw [if_neg (show ¬ (false = true) by decide)] at H; exact H
   clear H
   have H := H1
   clear H1
   have H' := Aside0.mk H
   clear H
   have hcz14_0 : w4.cell? ⟨gb119, 0, none⟩ = some (.string e0) := (blk_cell BK119.out 0).trans rfl
   have hcz14_1 : w4.cell? ⟨gb119, 1, none⟩ = some (.string e1) := (blk_cell BK119.out 1).trans rfl
   have hcz14_2 : w4.cell? ⟨gb119, 2, none⟩ = some (.string e2) := (blk_cell BK119.out 2).trans rfl
   have hcz14_3 : w4.cell? ⟨gb119, 3, none⟩ = some (.int .i64 e3) := (blk_cell BK119.out 3).trans rfl
   have hcz14_4 : w4.cell? ⟨gb119, 4, none⟩ = some (.int .i64 e4) := (blk_cell BK119.out 4).trans rfl
   have hcz14_5 : w4.cell? ⟨gb119, 5, none⟩ = some (.int .i64 e5) := (blk_cell BK119.out 5).trans rfl
   have hcz14_6 : w4.cell? ⟨gb119, 6, none⟩ = some (.int .i64 e6) := (blk_cell BK119.out 6).trans rfl
   have hcz14_7 : w4.cell? ⟨gb119, 7, none⟩ = some (.int .i64 e7) := (blk_cell BK119.out 7).trans rfl
   have hcz14_8 : w4.cell? ⟨gb119, 8, none⟩ = some (.int .i64 e8) := (blk_cell BK119.out 8).trans rfl
   have hcz14_9 : w4.cell? ⟨gb119, 9, none⟩ = some (.string e9) := (blk_cell BK119.out 9).trans rfl
   have hcz14_10 : w4.cell? ⟨gb119, 10, none⟩ = some (.string e10) := (blk_cell BK119.out 10).trans rfl
   have hcz14_11 : w4.cell? ⟨gb119, 11, none⟩ = some (.int .i64 e11) := (blk_cell BK119.out 11).trans rfl
   have hcz14_12 : w4.cell? ⟨gb119, 12, none⟩ = some (.int .i64 e12) := (blk_cell BK119.out 12).trans rfl
   have hfz14_0 := blk_frozen BK119.out 0
   have hfz14_1 := blk_frozen BK119.out 1
   have hfz14_2 := blk_frozen BK119.out 2
   have hfz14_3 := blk_frozen BK119.out 3
   have hfz14_4 := blk_frozen BK119.out 4
   have hfz14_5 := blk_frozen BK119.out 5
   have hfz14_6 := blk_frozen BK119.out 6
   have hfz14_7 := blk_frozen BK119.out 7
   have hfz14_8 := blk_frozen BK119.out 8
   have hfz14_9 := blk_frozen BK119.out 9
   have hfz14_10 := blk_frozen BK119.out 10
   have hfz14_11 := blk_frozen BK119.out 11
   have hfz14_12 := blk_frozen BK119.out 12
   go_wp2_with (first | ((with_reducible refine gate_callee (f := 44) rfl ?_); refine goesL_ (some 10) rfl rfl Try.func44 (by kernel_rfl) rfl #[.agg #[.string e0, .string e1, .string e2, .int .i64 e3, .int .i64 e4]] rfl (by (try simp only [List.map_toArray, List.map_cons, List.map_nil]); first | done | rfl | (simp only [List.length_drop, List.length_take]; rfl)) ?_; (with_reducible refine (job_Valid.calls e0 e1 e2 e3 e4 false _ A5.out).mono ?_); rintro e w15 ⟨rfl, hb⟩; refine ⟨_, rfl, ?_⟩; have n0_ := Aside0.mk (blk_below (g := gb119) (by (with_reducible repeat (first | refine blk_drewN ?_ _ | refine blk_drew ?_ | refine blk_alloc ?_ _)); exact BK119.out) hb); have n1_ := Aside0.mk (below_step (by repeat (first | (with_reducible first | exact HB.out | apply below_alloc | apply pw_below_drewN | apply below_drew1 | refine below_set ?_ GE119.out) | exact HB.out)) hb); clear BK119; clear HB; have BK119 := n0_; have HB := n1_; clear n0_ n1_; (try clear hb); (try clear hb2); (try clear hk); (try clear hi)))
   go_meet
   case rel => exact ⟨_, (true), (by first | rfl | (simp; done) | (simp [*]; done)), H', ⟨by first | omega | exact Nat.le_refl _⟩, ⟨by (with_reducible repeat (first | refine blk_drewN ?_ _ | refine blk_drew ?_ | refine blk_alloc ?_ _)); exact BK119.out⟩, ⟨by repeat (first | (with_reducible first | exact HB.out | apply below_alloc | apply pw_below_drewN | apply below_drew1 | refine below_set ?_ GE119.out) | exact HB.out)⟩⟩
 case rest =>
  clear HC3
  try clear p2
  try clear c4
  try clear c6
  try clear c7
  try clear c7b0
  try clear c9
  try clear hcz10_0
  try clear hcz10_1
  try clear hcz10_10
  try clear hcz10_11
  try clear hcz10_12
  try clear hcz10_2
  try clear hcz10_3
  try clear hcz10_4
  try clear hcz10_5
  try clear hcz10_6
  try clear hcz10_7
  try clear hcz10_8
  try clear hcz10_9
  try clear hcz11_0
  try clear hcz11_1
  try clear hcz11_10
  try clear hcz11_11
  try clear hcz11_12
  try clear hcz11_2
  try clear hcz11_3
  try clear hcz11_4
  try clear hcz11_5
  try clear hcz11_6
  try clear hcz11_7
  try clear hcz11_8
  try clear hcz11_9
  try clear hcz13_0
  try clear hcz13_1
  try clear hcz13_10
  try clear hcz13_11
  try clear hcz13_12
  try clear hcz13_2
  try clear hcz13_3
  try clear hcz13_4
  try clear hcz13_5
  try clear hcz13_6
  try clear hcz13_7
  try clear hcz13_8
  try clear hcz13_9
  try clear hcz14_0
  try clear hcz14_1
  try clear hcz14_10
  try clear hcz14_11
  try clear hcz14_12
  try clear hcz14_2
  try clear hcz14_3
  try clear hcz14_4
  try clear hcz14_5
  try clear hcz14_6
  try clear hcz14_7
  try clear hcz14_8
  try clear hcz14_9
  try clear hcz8_0
  try clear hcz8_1
  try clear hcz8_10
  try clear hcz8_11
  try clear hcz8_12
  try clear hcz8_2
  try clear hcz8_3
  try clear hcz8_4
  try clear hcz8_5
  try clear hcz8_6
  try clear hcz8_7
  try clear hcz8_8
  try clear hcz8_9
  try clear hfz10_0
  try clear hfz10_1
  try clear hfz10_10
  try clear hfz10_11
  try clear hfz10_12
  try clear hfz10_2
  try clear hfz10_3
  try clear hfz10_4
  try clear hfz10_5
  try clear hfz10_6
  try clear hfz10_7
  try clear hfz10_8
  try clear hfz10_9
  try clear hfz11_0
  try clear hfz11_1
  try clear hfz11_10
  try clear hfz11_11
  try clear hfz11_12
  try clear hfz11_2
  try clear hfz11_3
  try clear hfz11_4
  try clear hfz11_5
  try clear hfz11_6
  try clear hfz11_7
  try clear hfz11_8
  try clear hfz11_9
  try clear hfz13_0
  try clear hfz13_1
  try clear hfz13_10
  try clear hfz13_11
  try clear hfz13_12
  try clear hfz13_2
  try clear hfz13_3
  try clear hfz13_4
  try clear hfz13_5
  try clear hfz13_6
  try clear hfz13_7
  try clear hfz13_8
  try clear hfz13_9
  try clear hfz14_0
  try clear hfz14_1
  try clear hfz14_10
  try clear hfz14_11
  try clear hfz14_12
  try clear hfz14_2
  try clear hfz14_3
  try clear hfz14_4
  try clear hfz14_5
  try clear hfz14_6
  try clear hfz14_7
  try clear hfz14_8
  try clear hfz14_9
  try clear hfz8_0
  try clear hfz8_1
  try clear hfz8_10
  try clear hfz8_11
  try clear hfz8_12
  try clear hfz8_2
  try clear hfz8_3
  try clear hfz8_4
  try clear hfz8_5
  try clear hfz8_6
  try clear hfz8_7
  try clear hfz8_8
  try clear hfz8_9
  obtain ⟨kq, x22_2, rfl, HA, HJ2, BK119, HB⟩ := hcut
  cases kq with
  | zero => exact absurd HA.out (by simp [job_right.j0])
  | succ kj2 =>
   have H := HA.out
   clear HA
   simp only [job_right.j0] at H
   by_cases c16 : x22_2 = true
   ·subst c16
    have H1 : (some false) = some r := by rw [if_pos rfl] at H; exact H
    clear H
    have H := H1
    clear H1
    obtain rfl := Option.some.inj H
    go_wp2
    go_ret
    exact ⟨by first | rfl | (simp [errW_none, errW_some] <;> rfl) | (simp [*, errW_none, errW_some] <;> rfl), by repeat (first | (with_reducible first | exact HB.out | apply below_alloc | apply pw_below_drewN | apply below_drew1 | refine below_set ?_ GE119.out) | exact HB.out)⟩
   ·replace c16 := Bool.eq_false_iff.mpr c16
    subst c16
    have H1 : (if e5 = 1 then (job_right.j1 kj2 false false false e5 (e5 == 1) e0 e1 e2 e3 e4 e5 e6 e7 e8 e9 e10 e11 e12) else (job_right.j1 kj2 false false false e5 (e5 == 5) e0 e1 e2 e3 e4 e5 e6 e7 e8 e9 e10 e11 e12)) = some r := by rw [if_neg (show ¬ (false = true) by decide)] at H; exact H
    clear H
    have H := H1
    clear H1
    have HC17 := Aside0.mk H
    clear H
    have hcz18_0 : wc.cell? ⟨gb119, 0, none⟩ = some (.string e0) := (blk_cell BK119.out 0).trans rfl
    have hcz18_1 : wc.cell? ⟨gb119, 1, none⟩ = some (.string e1) := (blk_cell BK119.out 1).trans rfl
    have hcz18_2 : wc.cell? ⟨gb119, 2, none⟩ = some (.string e2) := (blk_cell BK119.out 2).trans rfl
    have hcz18_3 : wc.cell? ⟨gb119, 3, none⟩ = some (.int .i64 e3) := (blk_cell BK119.out 3).trans rfl
    have hcz18_4 : wc.cell? ⟨gb119, 4, none⟩ = some (.int .i64 e4) := (blk_cell BK119.out 4).trans rfl
    have hcz18_5 : wc.cell? ⟨gb119, 5, none⟩ = some (.int .i64 e5) := (blk_cell BK119.out 5).trans rfl
    have hcz18_6 : wc.cell? ⟨gb119, 6, none⟩ = some (.int .i64 e6) := (blk_cell BK119.out 6).trans rfl
    have hcz18_7 : wc.cell? ⟨gb119, 7, none⟩ = some (.int .i64 e7) := (blk_cell BK119.out 7).trans rfl
    have hcz18_8 : wc.cell? ⟨gb119, 8, none⟩ = some (.int .i64 e8) := (blk_cell BK119.out 8).trans rfl
    have hcz18_9 : wc.cell? ⟨gb119, 9, none⟩ = some (.string e9) := (blk_cell BK119.out 9).trans rfl
    have hcz18_10 : wc.cell? ⟨gb119, 10, none⟩ = some (.string e10) := (blk_cell BK119.out 10).trans rfl
    have hcz18_11 : wc.cell? ⟨gb119, 11, none⟩ = some (.int .i64 e11) := (blk_cell BK119.out 11).trans rfl
    have hcz18_12 : wc.cell? ⟨gb119, 12, none⟩ = some (.int .i64 e12) := (blk_cell BK119.out 12).trans rfl
    have hfz18_0 := blk_frozen BK119.out 0
    have hfz18_1 := blk_frozen BK119.out 1
    have hfz18_2 := blk_frozen BK119.out 2
    have hfz18_3 := blk_frozen BK119.out 3
    have hfz18_4 := blk_frozen BK119.out 4
    have hfz18_5 := blk_frozen BK119.out 5
    have hfz18_6 := blk_frozen BK119.out 6
    have hfz18_7 := blk_frozen BK119.out 7
    have hfz18_8 := blk_frozen BK119.out 8
    have hfz18_9 := blk_frozen BK119.out 9
    have hfz18_10 := blk_frozen BK119.out 10
    have hfz18_11 := blk_frozen BK119.out 11
    have hfz18_12 := blk_frozen BK119.out 12
    go_upto_block 0 with (fail)
    go_cut [5, 6, 7] (fun v5 v6 v7 wc => ∃ (kq : Nat) (x5_16 : Bool) (x6_16 : Bool) (x7_16 : Bool), v5 = .bool x5_16 ∧ v6 = .bool x6_16 ∧ v7 = .bool x7_16 ∧ Aside0 (job_right.j2 kq x5_16 x6_16 x7_16 e0 e1 e2 e3 e4 e5 e6 e7 e8 e9 e10 e11 e12 = some r) ∧ Aside0 (kq ≤ kj2) ∧ Aside0 (wc.heap[gb119]? = some (.cells #[.string e0, .string e1, .string e2, .int .i64 e3, .int .i64 e4, .int .i64 e5, .int .i64 e6, .int .i64 e7, .int .i64 e8, .string e9, .string e10, .int .i64 e11, .int .i64 e12] 99 (0, 0))) ∧ Aside0 (Below w.heap.size w wc))
    case first =>
     have H := HC17.out
     clear HC17
     have HC19 := Aside0.mk H
     clear H
     go_upto_if 25 with (fail)
     go_cut [25] (fun v25 wc => ∃ (kq : Nat) (x25_18 : Bool), v25 = .bool x25_18 ∧ Aside0 (job_right.j1 kq false false false e5 x25_18 e0 e1 e2 e3 e4 e5 e6 e7 e8 e9 e10 e11 e12 = some r) ∧ Aside0 (kq ≤ kj2) ∧ Aside0 (wc.heap[gb119]? = some (.cells #[.string e0, .string e1, .string e2, .int .i64 e3, .int .i64 e4, .int .i64 e5, .int .i64 e6, .int .i64 e7, .int .i64 e8, .string e9, .string e10, .int .i64 e11, .int .i64 e12] 99 (0, 0))) ∧ Aside0 (Below w.heap.size w wc))
     case first =>
      have H := HC19.out
      clear HC19
      by_cases c20 : e5 = 1
      ·rw [if_pos c20] at H
       have c20b0 : (e5 == 1) = true := beq_iff_eq.mpr c20
       have c20b1 : (e5 != 1) = false := bne_eq_false_iff_eq.mpr c20
       clear c20
       (first | rw [c20b0] | (simp only [i64_w, i32_w]; rw [c20b0]) | skip)
       have H' := Aside0.mk H
       clear H
       go_wp2
       go_meet
       case rel => exact ⟨_, ((e5 == 1)), (by first | rfl | (simp; done) | (simp [*]; done)), H', ⟨by have := HJ2.out; first | omega | exact Nat.le_refl _⟩, ⟨by (with_reducible repeat (first | refine blk_drewN ?_ _ | refine blk_drew ?_ | refine blk_alloc ?_ _)); exact BK119.out⟩, ⟨by repeat (first | (with_reducible first | exact HB.out | apply below_alloc | apply pw_below_drewN | apply below_drew1 | refine below_set ?_ GE119.out) | exact HB.out)⟩⟩
      ·rw [if_neg c20] at H
       have c20b0 : (e5 == 1) = false := beq_eq_false_iff_ne.mpr c20
       have c20b1 : (e5 != 1) = true := bne_iff_ne.mpr c20
       (first | rw [c20b0] | (simp only [i64_w, i32_w]; rw [c20b0]) | skip)
       have H' := Aside0.mk H
       clear H
       go_wp2
       go_meet
       case rel => exact ⟨_, ((e5 == 5)), (by first | rfl | (simp; done) | (simp [*]; done)), H', ⟨by have := HJ2.out; first | omega | exact Nat.le_refl _⟩, ⟨by (with_reducible repeat (first | refine blk_drewN ?_ _ | refine blk_drew ?_ | refine blk_alloc ?_ _)); exact BK119.out⟩, ⟨by repeat (first | (with_reducible first | exact HB.out | apply below_alloc | apply pw_below_drewN | apply below_drew1 | refine below_set ?_ GE119.out) | exact HB.out)⟩⟩
     case rest =>
      clear HC19
      try clear c1
      try clear c2
      try clear p2
      try clear c4
      try clear c6
      try clear c7
      try clear c7b0
      try clear c9
      try clear c16
      try clear c20
      try clear c20b0
      try clear c20b1
      try clear hcz10_0
      try clear hcz10_1
      try clear hcz10_10
      try clear hcz10_11
      try clear hcz10_12
      try clear hcz10_2
      try clear hcz10_3
      try clear hcz10_4
      try clear hcz10_5
      try clear hcz10_6
      try clear hcz10_7
      try clear hcz10_8
      try clear hcz10_9
      try clear hcz11_0
      try clear hcz11_1
      try clear hcz11_10
      try clear hcz11_11
      try clear hcz11_12
      try clear hcz11_2
      try clear hcz11_3
      try clear hcz11_4
      try clear hcz11_5
      try clear hcz11_6
      try clear hcz11_7
      try clear hcz11_8
      try clear hcz11_9
      try clear hcz13_0
      try clear hcz13_1
      try clear hcz13_10
      try clear hcz13_11
      try clear hcz13_12
      try clear hcz13_2
      try clear hcz13_3
      try clear hcz13_4
      try clear hcz13_5
      try clear hcz13_6
      try clear hcz13_7
      try clear hcz13_8
      try clear hcz13_9
      try clear hcz14_0
      try clear hcz14_1
      try clear hcz14_10
      try clear hcz14_11
      try clear hcz14_12
      try clear hcz14_2
      try clear hcz14_3
      try clear hcz14_4
      try clear hcz14_5
      try clear hcz14_6
      try clear hcz14_7
      try clear hcz14_8
      try clear hcz14_9
      try clear hcz18_0
      try clear hcz18_1
      try clear hcz18_10
      try clear hcz18_11
      try clear hcz18_12
      try clear hcz18_2
      try clear hcz18_3
      try clear hcz18_4
      try clear hcz18_5
      try clear hcz18_6
      try clear hcz18_7
      try clear hcz18_8
      try clear hcz18_9
      try clear hcz8_0
      try clear hcz8_1
      try clear hcz8_10
      try clear hcz8_11
      try clear hcz8_12
      try clear hcz8_2
      try clear hcz8_3
      try clear hcz8_4
      try clear hcz8_5
      try clear hcz8_6
      try clear hcz8_7
      try clear hcz8_8
      try clear hcz8_9
      try clear hfz10_0
      try clear hfz10_1
      try clear hfz10_10
      try clear hfz10_11
      try clear hfz10_12
      try clear hfz10_2
      try clear hfz10_3
      try clear hfz10_4
      try clear hfz10_5
      try clear hfz10_6
      try clear hfz10_7
      try clear hfz10_8
      try clear hfz10_9
      try clear hfz11_0
      try clear hfz11_1
      try clear hfz11_10
      try clear hfz11_11
      try clear hfz11_12
      try clear hfz11_2
      try clear hfz11_3
      try clear hfz11_4
      try clear hfz11_5
      try clear hfz11_6
      try clear hfz11_7
      try clear hfz11_8
      try clear hfz11_9
      try clear hfz13_0
      try clear hfz13_1
      try clear hfz13_10
      try clear hfz13_11
      try clear hfz13_12
      try clear hfz13_2
      try clear hfz13_3
      try clear hfz13_4
      try clear hfz13_5
      try clear hfz13_6
      try clear hfz13_7
      try clear hfz13_8
      try clear hfz13_9
      try clear hfz14_0
      try clear hfz14_1
      try clear hfz14_10
      try clear hfz14_11
      try clear hfz14_12
      try clear hfz14_2
      try clear hfz14_3
      try clear hfz14_4
      try clear hfz14_5
      try clear hfz14_6
      try clear hfz14_7
      try clear hfz14_8
      try clear hfz14_9
      try clear hfz18_0
      try clear hfz18_1
      try clear hfz18_10
      try clear hfz18_11
      try clear hfz18_12
      try clear hfz18_2
      try clear hfz18_3
      try clear hfz18_4
      try clear hfz18_5
      try clear hfz18_6
      try clear hfz18_7
      try clear hfz18_8
      try clear hfz18_9
      try clear hfz8_0
      try clear hfz8_1
      try clear hfz8_10
      try clear hfz8_11
      try clear hfz8_12
      try clear hfz8_2
      try clear hfz8_3
      try clear hfz8_4
      try clear hfz8_5
      try clear hfz8_6
      try clear hfz8_7
      try clear hfz8_8
      try clear hfz8_9
      try clear p2
      obtain ⟨kq, x25_18, rfl, HA, HJ18, BK119, HB⟩ := hcut
      cases kq with
      | zero => exact absurd HA.out (by simp [job_right.j1])
      | succ kj18 =>
       have H := HA.out
       clear HA
       simp only [job_right.j1] at H
       by_cases c21 : x25_18 = true
       ·subst c21
        have H1 : (job_right.j2 kj18 false false false e0 e1 e2 e3 e4 e5 e6 e7 e8 e9 e10 e11 e12) = some r := by rw [if_pos rfl] at H; exact H
        clear H
        have H := H1
        clear H1
        have H' := Aside0.mk H
        clear H
        go_wp2
        go_meet
        case rel => exact ⟨_, (false), (false), (false), (by first | rfl | (simp; done) | (simp [*]; done)), (by first | rfl | (simp; done) | (simp [*]; done)), (by first | rfl | (simp; done) | (simp [*]; done)), H', ⟨by have := HJ2.out; have := HJ18.out; first | omega | exact Nat.le_refl _⟩, ⟨by (with_reducible repeat (first | refine blk_drewN ?_ _ | refine blk_drew ?_ | refine blk_alloc ?_ _)); exact BK119.out⟩, ⟨by repeat (first | (with_reducible first | exact HB.out | apply below_alloc | apply pw_below_drewN | apply below_drew1 | refine below_set ?_ GE119.out) | exact HB.out)⟩⟩
       ·replace c21 := Bool.eq_false_iff.mpr c21
        subst c21
        have H1 : (if e5 = 2 then (job_right.j2 kj18 true false true e0 e1 e2 e3 e4 e5 e6 e7 e8 e9 e10 e11 e12) else (if e5 = 3 then (job_right.j2 kj18 true true false e0 e1 e2 e3 e4 e5 e6 e7 e8 e9 e10 e11 e12) else (if e5 = 4 then (job_right.j2 kj18 true true false e0 e1 e2 e3 e4 e5 e6 e7 e8 e9 e10 e11 e12) else (some false)))) = some r := by rw [if_neg (show ¬ (false = true) by decide)] at H; exact H
        clear H
        have H := H1
        clear H1
        by_cases c22 : e5 = 2
        ·rw [if_pos c22] at H
         have c22b0 : (e5 == 2) = true := beq_iff_eq.mpr c22
         have c22b1 : (e5 != 2) = false := bne_eq_false_iff_eq.mpr c22
         clear c22
         have H' := Aside0.mk H
         clear H
         go_wp2
         go_meet
         case rel => exact ⟨_, (true), (false), (true), (by first | rfl | (simp; done) | (simp [*]; done)), (by first | rfl | (simp; done) | (simp [*]; done)), (by first | rfl | (simp; done) | (simp [*]; done)), H', ⟨by have := HJ2.out; have := HJ18.out; first | omega | exact Nat.le_refl _⟩, ⟨by (with_reducible repeat (first | refine blk_drewN ?_ _ | refine blk_drew ?_ | refine blk_alloc ?_ _)); exact BK119.out⟩, ⟨by repeat (first | (with_reducible first | exact HB.out | apply below_alloc | apply pw_below_drewN | apply below_drew1 | refine below_set ?_ GE119.out) | exact HB.out)⟩⟩
        ·rw [if_neg c22] at H
         have c22b0 : (e5 == 2) = false := beq_eq_false_iff_ne.mpr c22
         have c22b1 : (e5 != 2) = true := bne_iff_ne.mpr c22
         by_cases c23 : e5 = 3
         ·rw [if_pos c23] at H
          have c23b0 : (e5 == 3) = true := beq_iff_eq.mpr c23
          have c23b1 : (e5 != 3) = false := bne_eq_false_iff_eq.mpr c23
          clear c23
          have H' := Aside0.mk H
          clear H
          go_wp2
          go_meet
          case rel => exact ⟨_, (true), (true), (false), (by first | rfl | (simp; done) | (simp [*]; done)), (by first | rfl | (simp; done) | (simp [*]; done)), (by first | rfl | (simp; done) | (simp [*]; done)), H', ⟨by have := HJ2.out; have := HJ18.out; first | omega | exact Nat.le_refl _⟩, ⟨by (with_reducible repeat (first | refine blk_drewN ?_ _ | refine blk_drew ?_ | refine blk_alloc ?_ _)); exact BK119.out⟩, ⟨by repeat (first | (with_reducible first | exact HB.out | apply below_alloc | apply pw_below_drewN | apply below_drew1 | refine below_set ?_ GE119.out) | exact HB.out)⟩⟩
         ·rw [if_neg c23] at H
          have c23b0 : (e5 == 3) = false := beq_eq_false_iff_ne.mpr c23
          have c23b1 : (e5 != 3) = true := bne_iff_ne.mpr c23
          by_cases c24 : e5 = 4
          ·rw [if_pos c24] at H
           have c24b0 : (e5 == 4) = true := beq_iff_eq.mpr c24
           have c24b1 : (e5 != 4) = false := bne_eq_false_iff_eq.mpr c24
           clear c24
           have H' := Aside0.mk H
           clear H
           go_wp2
           go_meet
           case rel => exact ⟨_, (true), (true), (false), (by first | rfl | (simp; done) | (simp [*]; done)), (by first | rfl | (simp; done) | (simp [*]; done)), (by first | rfl | (simp; done) | (simp [*]; done)), H', ⟨by have := HJ2.out; have := HJ18.out; first | omega | exact Nat.le_refl _⟩, ⟨by (with_reducible repeat (first | refine blk_drewN ?_ _ | refine blk_drew ?_ | refine blk_alloc ?_ _)); exact BK119.out⟩, ⟨by repeat (first | (with_reducible first | exact HB.out | apply below_alloc | apply pw_below_drewN | apply below_drew1 | refine below_set ?_ GE119.out) | exact HB.out)⟩⟩
          ·rw [if_neg c24] at H
           have c24b0 : (e5 == 4) = false := beq_eq_false_iff_ne.mpr c24
           have c24b1 : (e5 != 4) = true := bne_iff_ne.mpr c24
           obtain rfl := Option.some.inj H
           go_wp2
           go_ret
           exact ⟨by first | rfl | (simp [errW_none, errW_some] <;> rfl) | (simp [*, errW_none, errW_some] <;> rfl), by repeat (first | (with_reducible first | exact HB.out | apply below_alloc | apply pw_below_drewN | apply below_drew1 | refine below_set ?_ GE119.out) | exact HB.out)⟩
    case rest =>
     clear HC17
     try clear c1
     try clear c2
     try clear p2
     try clear c4
     try clear c6
     try clear c7
     try clear c7b0
     try clear c9
     try clear c16
     try clear c20
     try clear c20b0
     try clear c20b1
     try clear c21
     try clear c22
     try clear c22b0
     try clear c22b1
     try clear c23
     try clear c23b0
     try clear c23b1
     try clear c24
     try clear c24b0
     try clear c24b1
     try clear hcz10_0
     try clear hcz10_1
     try clear hcz10_10
     try clear hcz10_11
     try clear hcz10_12
     try clear hcz10_2
     try clear hcz10_3
     try clear hcz10_4
     try clear hcz10_5
     try clear hcz10_6
     try clear hcz10_7
     try clear hcz10_8
     try clear hcz10_9
     try clear hcz11_0
     try clear hcz11_1
     try clear hcz11_10
     try clear hcz11_11
     try clear hcz11_12
     try clear hcz11_2
     try clear hcz11_3
     try clear hcz11_4
     try clear hcz11_5
     try clear hcz11_6
     try clear hcz11_7
     try clear hcz11_8
     try clear hcz11_9
     try clear hcz13_0
     try clear hcz13_1
     try clear hcz13_10
     try clear hcz13_11
     try clear hcz13_12
     try clear hcz13_2
     try clear hcz13_3
     try clear hcz13_4
     try clear hcz13_5
     try clear hcz13_6
     try clear hcz13_7
     try clear hcz13_8
     try clear hcz13_9
     try clear hcz14_0
     try clear hcz14_1
     try clear hcz14_10
     try clear hcz14_11
     try clear hcz14_12
     try clear hcz14_2
     try clear hcz14_3
     try clear hcz14_4
     try clear hcz14_5
     try clear hcz14_6
     try clear hcz14_7
     try clear hcz14_8
     try clear hcz14_9
     try clear hcz18_0
     try clear hcz18_1
     try clear hcz18_10
     try clear hcz18_11
     try clear hcz18_12
     try clear hcz18_2
     try clear hcz18_3
     try clear hcz18_4
     try clear hcz18_5
     try clear hcz18_6
     try clear hcz18_7
     try clear hcz18_8
     try clear hcz18_9
     try clear hcz8_0
     try clear hcz8_1
     try clear hcz8_10
     try clear hcz8_11
     try clear hcz8_12
     try clear hcz8_2
     try clear hcz8_3
     try clear hcz8_4
     try clear hcz8_5
     try clear hcz8_6
     try clear hcz8_7
     try clear hcz8_8
     try clear hcz8_9
     try clear hfz10_0
     try clear hfz10_1
     try clear hfz10_10
     try clear hfz10_11
     try clear hfz10_12
     try clear hfz10_2
     try clear hfz10_3
     try clear hfz10_4
     try clear hfz10_5
     try clear hfz10_6
     try clear hfz10_7
     try clear hfz10_8
     try clear hfz10_9
     try clear hfz11_0
     try clear hfz11_1
     try clear hfz11_10
     try clear hfz11_11
     try clear hfz11_12
     try clear hfz11_2
     try clear hfz11_3
     try clear hfz11_4
     try clear hfz11_5
     try clear hfz11_6
     try clear hfz11_7
     try clear hfz11_8
     try clear hfz11_9
     try clear hfz13_0
     try clear hfz13_1
     try clear hfz13_10
     try clear hfz13_11
     try clear hfz13_12
     try clear hfz13_2
     try clear hfz13_3
     try clear hfz13_4
     try clear hfz13_5
     try clear hfz13_6
     try clear hfz13_7
     try clear hfz13_8
     try clear hfz13_9
     try clear hfz14_0
     try clear hfz14_1
     try clear hfz14_10
     try clear hfz14_11
     try clear hfz14_12
     try clear hfz14_2
     try clear hfz14_3
     try clear hfz14_4
     try clear hfz14_5
     try clear hfz14_6
     try clear hfz14_7
     try clear hfz14_8
     try clear hfz14_9
     try clear hfz18_0
     try clear hfz18_1
     try clear hfz18_10
     try clear hfz18_11
     try clear hfz18_12
     try clear hfz18_2
     try clear hfz18_3
     try clear hfz18_4
     try clear hfz18_5
     try clear hfz18_6
     try clear hfz18_7
     try clear hfz18_8
     try clear hfz18_9
     try clear hfz8_0
     try clear hfz8_1
     try clear hfz8_10
     try clear hfz8_11
     try clear hfz8_12
     try clear hfz8_2
     try clear hfz8_3
     try clear hfz8_4
     try clear hfz8_5
     try clear hfz8_6
     try clear hfz8_7
     try clear hfz8_8
     try clear hfz8_9
     try clear p2
     obtain ⟨kq, x5_16, x6_16, x7_16, rfl, rfl, rfl, HA, HJ16, BK119, HB⟩ := hcut
     cases kq with
     | zero => exact absurd HA.out (by simp [job_right.j2])
     | succ kj16 =>
      have H := HA.out
      clear HA
      simp only [job_right.j2] at H
      have HC25 := Aside0.mk H
      clear H
      go_upto_region 13 with (fail)
      go_cut [70] (fun v70 wc => ∃ (kq : Nat) (x70_24 : Bool), v70 = .bool x70_24 ∧ Aside0 (job_right.j3 kq x7_16 x70_24 e0 e1 e2 e3 e4 e5 e6 e7 e8 e9 e10 e11 e12 = some r) ∧ Aside0 (kq ≤ kj16) ∧ Aside0 (wc.heap[gb119]? = some (.cells #[.string e0, .string e1, .string e2, .int .i64 e3, .int .i64 e4, .int .i64 e5, .int .i64 e6, .int .i64 e7, .int .i64 e8, .string e9, .string e10, .int .i64 e11, .int .i64 e12] 99 (0, 0))) ∧ Aside0 (Below w.heap.size w wc))
      case first =>
       have H := HC25.out
       clear HC25
       by_cases c26 : (x5_16 != (decide (e7 ≥ 1))) = true
       ·rw [if_pos c26] at H
        have c26b0 : (x5_16 != (decide (e7 ≥ 1))) = true := c26
        (try (have c26b1 : decide (x5_16 = (decide (e7 ≥ 1))) = false := by simpa using c26))
        (try (have c26b2 : (x5_16 == (decide (e7 ≥ 1))) = false := by simpa using c26))
        (try (have c26b3 : ¬ (x5_16 = (decide (e7 ≥ 1))) := by simpa using c26))
        clear c26
        (first | rw [c26b0] | (simp only [i64_w, i32_w]; rw [c26b0]) | skip)
        have H' := Aside0.mk H
        clear H
        have hcz27_0 : wc.cell? ⟨gb119, 0, none⟩ = some (.string e0) := (blk_cell BK119.out 0).trans rfl
        have hcz27_1 : wc.cell? ⟨gb119, 1, none⟩ = some (.string e1) := (blk_cell BK119.out 1).trans rfl
        have hcz27_2 : wc.cell? ⟨gb119, 2, none⟩ = some (.string e2) := (blk_cell BK119.out 2).trans rfl
        have hcz27_3 : wc.cell? ⟨gb119, 3, none⟩ = some (.int .i64 e3) := (blk_cell BK119.out 3).trans rfl
        have hcz27_4 : wc.cell? ⟨gb119, 4, none⟩ = some (.int .i64 e4) := (blk_cell BK119.out 4).trans rfl
        have hcz27_5 : wc.cell? ⟨gb119, 5, none⟩ = some (.int .i64 e5) := (blk_cell BK119.out 5).trans rfl
        have hcz27_6 : wc.cell? ⟨gb119, 6, none⟩ = some (.int .i64 e6) := (blk_cell BK119.out 6).trans rfl
        have hcz27_7 : wc.cell? ⟨gb119, 7, none⟩ = some (.int .i64 e7) := (blk_cell BK119.out 7).trans rfl
        have hcz27_8 : wc.cell? ⟨gb119, 8, none⟩ = some (.int .i64 e8) := (blk_cell BK119.out 8).trans rfl
        have hcz27_9 : wc.cell? ⟨gb119, 9, none⟩ = some (.string e9) := (blk_cell BK119.out 9).trans rfl
        have hcz27_10 : wc.cell? ⟨gb119, 10, none⟩ = some (.string e10) := (blk_cell BK119.out 10).trans rfl
        have hcz27_11 : wc.cell? ⟨gb119, 11, none⟩ = some (.int .i64 e11) := (blk_cell BK119.out 11).trans rfl
        have hcz27_12 : wc.cell? ⟨gb119, 12, none⟩ = some (.int .i64 e12) := (blk_cell BK119.out 12).trans rfl
        have hfz27_0 := blk_frozen BK119.out 0
        have hfz27_1 := blk_frozen BK119.out 1
        have hfz27_2 := blk_frozen BK119.out 2
        have hfz27_3 := blk_frozen BK119.out 3
        have hfz27_4 := blk_frozen BK119.out 4
        have hfz27_5 := blk_frozen BK119.out 5
        have hfz27_6 := blk_frozen BK119.out 6
        have hfz27_7 := blk_frozen BK119.out 7
        have hfz27_8 := blk_frozen BK119.out 8
        have hfz27_9 := blk_frozen BK119.out 9
        have hfz27_10 := blk_frozen BK119.out 10
        have hfz27_11 := blk_frozen BK119.out 11
        have hfz27_12 := blk_frozen BK119.out 12
        go_wp2
        go_meet
        case rel => exact ⟨_, (true), (by first | rfl | (simp; done) | (simp [*]; done)), H', ⟨by have := HJ2.out; have := HJ16.out; first | omega | exact Nat.le_refl _⟩, ⟨by (with_reducible repeat (first | refine blk_drewN ?_ _ | refine blk_drew ?_ | refine blk_alloc ?_ _)); exact BK119.out⟩, ⟨by repeat (first | (with_reducible first | exact HB.out | apply below_alloc | apply pw_below_drewN | apply below_drew1 | refine below_set ?_ GE119.out) | exact HB.out)⟩⟩
       ·rw [if_neg c26] at H
        have c26b0 : (x5_16 != (decide (e7 ≥ 1))) = false := by simpa using c26
        (try (have c26b1 : decide (x5_16 = (decide (e7 ≥ 1))) = true := by simpa using c26))
        (try (have c26b2 : (x5_16 == (decide (e7 ≥ 1))) = true := by simpa using c26))
        clear c26
        (first | rw [c26b0] | (simp only [i64_w, i32_w]; rw [c26b0]) | skip)
        by_cases c28 : x5_16 = true
        ·subst c28
         have H1 : (if x6_16 = true then (if e8 < 1 then (job_right.j3 kj16 x7_16 true e0 e1 e2 e3 e4 e5 e6 e7 e8 e9 e10 e11 e12) else (if e8 > e7 then (job_right.j3 kj16 x7_16 true e0 e1 e2 e3 e4 e5 e6 e7 e8 e9 e10 e11 e12) else (job_right.j3 kj16 x7_16 false e0 e1 e2 e3 e4 e5 e6 e7 e8 e9 e10 e11 e12))) else (job_right.j3 kj16 x7_16 (e8 != 0) e0 e1 e2 e3 e4 e5 e6 e7 e8 e9 e10 e11 e12)) = some r := by rw [if_pos rfl] at H; exact H
         clear H
         have H := H1
         clear H1
         by_cases c29 : x6_16 = true
         ·subst c29
          have H1 : (if e8 < 1 then (job_right.j3 kj16 x7_16 true e0 e1 e2 e3 e4 e5 e6 e7 e8 e9 e10 e11 e12) else (if e8 > e7 then (job_right.j3 kj16 x7_16 true e0 e1 e2 e3 e4 e5 e6 e7 e8 e9 e10 e11 e12) else (job_right.j3 kj16 x7_16 false e0 e1 e2 e3 e4 e5 e6 e7 e8 e9 e10 e11 e12))) = some r := by rw [if_pos rfl] at H; exact H
          clear H
          have H := H1
          clear H1
          by_cases c30 : e8 < 1
          ·rw [if_pos c30] at H
           have c30b0 : decide (e8 < 1) = true := decide_eq_true c30
           clear c30
           have H' := Aside0.mk H
           clear H
           have hcz31_0 : wc.cell? ⟨gb119, 0, none⟩ = some (.string e0) := (blk_cell BK119.out 0).trans rfl
           have hcz31_1 : wc.cell? ⟨gb119, 1, none⟩ = some (.string e1) := (blk_cell BK119.out 1).trans rfl
           have hcz31_2 : wc.cell? ⟨gb119, 2, none⟩ = some (.string e2) := (blk_cell BK119.out 2).trans rfl
           have hcz31_3 : wc.cell? ⟨gb119, 3, none⟩ = some (.int .i64 e3) := (blk_cell BK119.out 3).trans rfl
           have hcz31_4 : wc.cell? ⟨gb119, 4, none⟩ = some (.int .i64 e4) := (blk_cell BK119.out 4).trans rfl
           have hcz31_5 : wc.cell? ⟨gb119, 5, none⟩ = some (.int .i64 e5) := (blk_cell BK119.out 5).trans rfl
           have hcz31_6 : wc.cell? ⟨gb119, 6, none⟩ = some (.int .i64 e6) := (blk_cell BK119.out 6).trans rfl
           have hcz31_7 : wc.cell? ⟨gb119, 7, none⟩ = some (.int .i64 e7) := (blk_cell BK119.out 7).trans rfl
           have hcz31_8 : wc.cell? ⟨gb119, 8, none⟩ = some (.int .i64 e8) := (blk_cell BK119.out 8).trans rfl
           have hcz31_9 : wc.cell? ⟨gb119, 9, none⟩ = some (.string e9) := (blk_cell BK119.out 9).trans rfl
           have hcz31_10 : wc.cell? ⟨gb119, 10, none⟩ = some (.string e10) := (blk_cell BK119.out 10).trans rfl
           have hcz31_11 : wc.cell? ⟨gb119, 11, none⟩ = some (.int .i64 e11) := (blk_cell BK119.out 11).trans rfl
           have hcz31_12 : wc.cell? ⟨gb119, 12, none⟩ = some (.int .i64 e12) := (blk_cell BK119.out 12).trans rfl
           have hfz31_0 := blk_frozen BK119.out 0
           have hfz31_1 := blk_frozen BK119.out 1
           have hfz31_2 := blk_frozen BK119.out 2
           have hfz31_3 := blk_frozen BK119.out 3
           have hfz31_4 := blk_frozen BK119.out 4
           have hfz31_5 := blk_frozen BK119.out 5
           have hfz31_6 := blk_frozen BK119.out 6
           have hfz31_7 := blk_frozen BK119.out 7
           have hfz31_8 := blk_frozen BK119.out 8
           have hfz31_9 := blk_frozen BK119.out 9
           have hfz31_10 := blk_frozen BK119.out 10
           have hfz31_11 := blk_frozen BK119.out 11
           have hfz31_12 := blk_frozen BK119.out 12
           go_wp2
           go_meet
           case rel => exact ⟨_, (true), (by first | rfl | (simp; done) | (simp [*]; done)), H', ⟨by have := HJ2.out; have := HJ16.out; first | omega | exact Nat.le_refl _⟩, ⟨by (with_reducible repeat (first | refine blk_drewN ?_ _ | refine blk_drew ?_ | refine blk_alloc ?_ _)); exact BK119.out⟩, ⟨by repeat (first | (with_reducible first | exact HB.out | apply below_alloc | apply pw_below_drewN | apply below_drew1 | refine below_set ?_ GE119.out) | exact HB.out)⟩⟩
          ·rw [if_neg c30] at H
           have c30b0 : decide (e8 < 1) = false := decide_eq_false c30
           clear c30
           by_cases c32 : e8 > e7
           ·rw [if_pos c32] at H
            have c32b0 : decide (e7 < e8) = true := decide_eq_true c32
            clear c32
            have H' := Aside0.mk H
            clear H
            have hcz33_0 : wc.cell? ⟨gb119, 0, none⟩ = some (.string e0) := (blk_cell BK119.out 0).trans rfl
            have hcz33_1 : wc.cell? ⟨gb119, 1, none⟩ = some (.string e1) := (blk_cell BK119.out 1).trans rfl
            have hcz33_2 : wc.cell? ⟨gb119, 2, none⟩ = some (.string e2) := (blk_cell BK119.out 2).trans rfl
            have hcz33_3 : wc.cell? ⟨gb119, 3, none⟩ = some (.int .i64 e3) := (blk_cell BK119.out 3).trans rfl
            have hcz33_4 : wc.cell? ⟨gb119, 4, none⟩ = some (.int .i64 e4) := (blk_cell BK119.out 4).trans rfl
            have hcz33_5 : wc.cell? ⟨gb119, 5, none⟩ = some (.int .i64 e5) := (blk_cell BK119.out 5).trans rfl
            have hcz33_6 : wc.cell? ⟨gb119, 6, none⟩ = some (.int .i64 e6) := (blk_cell BK119.out 6).trans rfl
            have hcz33_7 : wc.cell? ⟨gb119, 7, none⟩ = some (.int .i64 e7) := (blk_cell BK119.out 7).trans rfl
            have hcz33_8 : wc.cell? ⟨gb119, 8, none⟩ = some (.int .i64 e8) := (blk_cell BK119.out 8).trans rfl
            have hcz33_9 : wc.cell? ⟨gb119, 9, none⟩ = some (.string e9) := (blk_cell BK119.out 9).trans rfl
            have hcz33_10 : wc.cell? ⟨gb119, 10, none⟩ = some (.string e10) := (blk_cell BK119.out 10).trans rfl
            have hcz33_11 : wc.cell? ⟨gb119, 11, none⟩ = some (.int .i64 e11) := (blk_cell BK119.out 11).trans rfl
            have hcz33_12 : wc.cell? ⟨gb119, 12, none⟩ = some (.int .i64 e12) := (blk_cell BK119.out 12).trans rfl
            have hfz33_0 := blk_frozen BK119.out 0
            have hfz33_1 := blk_frozen BK119.out 1
            have hfz33_2 := blk_frozen BK119.out 2
            have hfz33_3 := blk_frozen BK119.out 3
            have hfz33_4 := blk_frozen BK119.out 4
            have hfz33_5 := blk_frozen BK119.out 5
            have hfz33_6 := blk_frozen BK119.out 6
            have hfz33_7 := blk_frozen BK119.out 7
            have hfz33_8 := blk_frozen BK119.out 8
            have hfz33_9 := blk_frozen BK119.out 9
            have hfz33_10 := blk_frozen BK119.out 10
            have hfz33_11 := blk_frozen BK119.out 11
            have hfz33_12 := blk_frozen BK119.out 12
            go_wp2
            go_meet
            case rel => exact ⟨_, (true), (by first | rfl | (simp; done) | (simp [*]; done)), H', ⟨by have := HJ2.out; have := HJ16.out; first | omega | exact Nat.le_refl _⟩, ⟨by (with_reducible repeat (first | refine blk_drewN ?_ _ | refine blk_drew ?_ | refine blk_alloc ?_ _)); exact BK119.out⟩, ⟨by repeat (first | (with_reducible first | exact HB.out | apply below_alloc | apply pw_below_drewN | apply below_drew1 | refine below_set ?_ GE119.out) | exact HB.out)⟩⟩
           ·rw [if_neg c32] at H
            have c32b0 : decide (e7 < e8) = false := decide_eq_false c32
            clear c32
            have H' := Aside0.mk H
            clear H
            have hcz34_0 : wc.cell? ⟨gb119, 0, none⟩ = some (.string e0) := (blk_cell BK119.out 0).trans rfl
            have hcz34_1 : wc.cell? ⟨gb119, 1, none⟩ = some (.string e1) := (blk_cell BK119.out 1).trans rfl
            have hcz34_2 : wc.cell? ⟨gb119, 2, none⟩ = some (.string e2) := (blk_cell BK119.out 2).trans rfl
            have hcz34_3 : wc.cell? ⟨gb119, 3, none⟩ = some (.int .i64 e3) := (blk_cell BK119.out 3).trans rfl
            have hcz34_4 : wc.cell? ⟨gb119, 4, none⟩ = some (.int .i64 e4) := (blk_cell BK119.out 4).trans rfl
            have hcz34_5 : wc.cell? ⟨gb119, 5, none⟩ = some (.int .i64 e5) := (blk_cell BK119.out 5).trans rfl
            have hcz34_6 : wc.cell? ⟨gb119, 6, none⟩ = some (.int .i64 e6) := (blk_cell BK119.out 6).trans rfl
            have hcz34_7 : wc.cell? ⟨gb119, 7, none⟩ = some (.int .i64 e7) := (blk_cell BK119.out 7).trans rfl
            have hcz34_8 : wc.cell? ⟨gb119, 8, none⟩ = some (.int .i64 e8) := (blk_cell BK119.out 8).trans rfl
            have hcz34_9 : wc.cell? ⟨gb119, 9, none⟩ = some (.string e9) := (blk_cell BK119.out 9).trans rfl
            have hcz34_10 : wc.cell? ⟨gb119, 10, none⟩ = some (.string e10) := (blk_cell BK119.out 10).trans rfl
            have hcz34_11 : wc.cell? ⟨gb119, 11, none⟩ = some (.int .i64 e11) := (blk_cell BK119.out 11).trans rfl
            have hcz34_12 : wc.cell? ⟨gb119, 12, none⟩ = some (.int .i64 e12) := (blk_cell BK119.out 12).trans rfl
            have hfz34_0 := blk_frozen BK119.out 0
            have hfz34_1 := blk_frozen BK119.out 1
            have hfz34_2 := blk_frozen BK119.out 2
            have hfz34_3 := blk_frozen BK119.out 3
            have hfz34_4 := blk_frozen BK119.out 4
            have hfz34_5 := blk_frozen BK119.out 5
            have hfz34_6 := blk_frozen BK119.out 6
            have hfz34_7 := blk_frozen BK119.out 7
            have hfz34_8 := blk_frozen BK119.out 8
            have hfz34_9 := blk_frozen BK119.out 9
            have hfz34_10 := blk_frozen BK119.out 10
            have hfz34_11 := blk_frozen BK119.out 11
            have hfz34_12 := blk_frozen BK119.out 12
            go_wp2
            go_meet
            case rel => exact ⟨_, (false), (by first | rfl | (simp; done) | (simp [*]; done)), H', ⟨by have := HJ2.out; have := HJ16.out; first | omega | exact Nat.le_refl _⟩, ⟨by (with_reducible repeat (first | refine blk_drewN ?_ _ | refine blk_drew ?_ | refine blk_alloc ?_ _)); exact BK119.out⟩, ⟨by repeat (first | (with_reducible first | exact HB.out | apply below_alloc | apply pw_below_drewN | apply below_drew1 | refine below_set ?_ GE119.out) | exact HB.out)⟩⟩
         ·replace c29 := Bool.eq_false_iff.mpr c29
          subst c29
          have H1 : (job_right.j3 kj16 x7_16 (e8 != 0) e0 e1 e2 e3 e4 e5 e6 e7 e8 e9 e10 e11 e12) = some r := by rw [if_neg (show ¬ (false = true) by decide)] at H; exact H
          clear H
          have H := H1
          clear H1
          have H' := Aside0.mk H
          clear H
          have hcz35_0 : wc.cell? ⟨gb119, 0, none⟩ = some (.string e0) := (blk_cell BK119.out 0).trans rfl
          have hcz35_1 : wc.cell? ⟨gb119, 1, none⟩ = some (.string e1) := (blk_cell BK119.out 1).trans rfl
          have hcz35_2 : wc.cell? ⟨gb119, 2, none⟩ = some (.string e2) := (blk_cell BK119.out 2).trans rfl
          have hcz35_3 : wc.cell? ⟨gb119, 3, none⟩ = some (.int .i64 e3) := (blk_cell BK119.out 3).trans rfl
          have hcz35_4 : wc.cell? ⟨gb119, 4, none⟩ = some (.int .i64 e4) := (blk_cell BK119.out 4).trans rfl
          have hcz35_5 : wc.cell? ⟨gb119, 5, none⟩ = some (.int .i64 e5) := (blk_cell BK119.out 5).trans rfl
          have hcz35_6 : wc.cell? ⟨gb119, 6, none⟩ = some (.int .i64 e6) := (blk_cell BK119.out 6).trans rfl
          have hcz35_7 : wc.cell? ⟨gb119, 7, none⟩ = some (.int .i64 e7) := (blk_cell BK119.out 7).trans rfl
          have hcz35_8 : wc.cell? ⟨gb119, 8, none⟩ = some (.int .i64 e8) := (blk_cell BK119.out 8).trans rfl
          have hcz35_9 : wc.cell? ⟨gb119, 9, none⟩ = some (.string e9) := (blk_cell BK119.out 9).trans rfl
          have hcz35_10 : wc.cell? ⟨gb119, 10, none⟩ = some (.string e10) := (blk_cell BK119.out 10).trans rfl
          have hcz35_11 : wc.cell? ⟨gb119, 11, none⟩ = some (.int .i64 e11) := (blk_cell BK119.out 11).trans rfl
          have hcz35_12 : wc.cell? ⟨gb119, 12, none⟩ = some (.int .i64 e12) := (blk_cell BK119.out 12).trans rfl
          have hfz35_0 := blk_frozen BK119.out 0
          have hfz35_1 := blk_frozen BK119.out 1
          have hfz35_2 := blk_frozen BK119.out 2
          have hfz35_3 := blk_frozen BK119.out 3
          have hfz35_4 := blk_frozen BK119.out 4
          have hfz35_5 := blk_frozen BK119.out 5
          have hfz35_6 := blk_frozen BK119.out 6
          have hfz35_7 := blk_frozen BK119.out 7
          have hfz35_8 := blk_frozen BK119.out 8
          have hfz35_9 := blk_frozen BK119.out 9
          have hfz35_10 := blk_frozen BK119.out 10
          have hfz35_11 := blk_frozen BK119.out 11
          have hfz35_12 := blk_frozen BK119.out 12
          go_wp2
          go_meet
          case rel => exact ⟨_, ((e8 != 0)), (by first | rfl | (simp; done) | (simp [*]; done)), H', ⟨by have := HJ2.out; have := HJ16.out; first | omega | exact Nat.le_refl _⟩, ⟨by (with_reducible repeat (first | refine blk_drewN ?_ _ | refine blk_drew ?_ | refine blk_alloc ?_ _)); exact BK119.out⟩, ⟨by repeat (first | (with_reducible first | exact HB.out | apply below_alloc | apply pw_below_drewN | apply below_drew1 | refine below_set ?_ GE119.out) | exact HB.out)⟩⟩
        ·replace c28 := Bool.eq_false_iff.mpr c28
         subst c28
         have H1 : (if e7 = 0 then (if x6_16 = true then (if e8 < 1 then (job_right.j3 kj16 x7_16 true e0 e1 e2 e3 e4 e5 e6 e7 e8 e9 e10 e11 e12) else (if e8 > e7 then (job_right.j3 kj16 x7_16 true e0 e1 e2 e3 e4 e5 e6 e7 e8 e9 e10 e11 e12) else (job_right.j3 kj16 x7_16 false e0 e1 e2 e3 e4 e5 e6 e7 e8 e9 e10 e11 e12))) else (job_right.j3 kj16 x7_16 (e8 != 0) e0 e1 e2 e3 e4 e5 e6 e7 e8 e9 e10 e11 e12)) else (job_right.j3 kj16 x7_16 true e0 e1 e2 e3 e4 e5 e6 e7 e8 e9 e10 e11 e12)) = some r := by rw [if_neg (show ¬ (false = true) by decide)] at H; exact H
         clear H
         have H := H1
         clear H1
         by_cases c36 : e7 = 0
         ·rw [if_pos c36] at H
          have c36b0 : (e7 == 0) = true := beq_iff_eq.mpr c36
          have c36b1 : (e7 != 0) = false := bne_eq_false_iff_eq.mpr c36
          clear c36
          by_cases c37 : x6_16 = true
          ·subst c37
           have H1 : (if e8 < 1 then (job_right.j3 kj16 x7_16 true e0 e1 e2 e3 e4 e5 e6 e7 e8 e9 e10 e11 e12) else (if e8 > e7 then (job_right.j3 kj16 x7_16 true e0 e1 e2 e3 e4 e5 e6 e7 e8 e9 e10 e11 e12) else (job_right.j3 kj16 x7_16 false e0 e1 e2 e3 e4 e5 e6 e7 e8 e9 e10 e11 e12))) = some r := by rw [if_pos rfl] at H; exact H
           clear H
           have H := H1
           clear H1
           by_cases c38 : e8 < 1
           ·rw [if_pos c38] at H
            have c38b0 : decide (e8 < 1) = true := decide_eq_true c38
            clear c38
            have H' := Aside0.mk H
            clear H
            have hcz39_0 : wc.cell? ⟨gb119, 0, none⟩ = some (.string e0) := (blk_cell BK119.out 0).trans rfl
            have hcz39_1 : wc.cell? ⟨gb119, 1, none⟩ = some (.string e1) := (blk_cell BK119.out 1).trans rfl
            have hcz39_2 : wc.cell? ⟨gb119, 2, none⟩ = some (.string e2) := (blk_cell BK119.out 2).trans rfl
            have hcz39_3 : wc.cell? ⟨gb119, 3, none⟩ = some (.int .i64 e3) := (blk_cell BK119.out 3).trans rfl
            have hcz39_4 : wc.cell? ⟨gb119, 4, none⟩ = some (.int .i64 e4) := (blk_cell BK119.out 4).trans rfl
            have hcz39_5 : wc.cell? ⟨gb119, 5, none⟩ = some (.int .i64 e5) := (blk_cell BK119.out 5).trans rfl
            have hcz39_6 : wc.cell? ⟨gb119, 6, none⟩ = some (.int .i64 e6) := (blk_cell BK119.out 6).trans rfl
            have hcz39_7 : wc.cell? ⟨gb119, 7, none⟩ = some (.int .i64 e7) := (blk_cell BK119.out 7).trans rfl
            have hcz39_8 : wc.cell? ⟨gb119, 8, none⟩ = some (.int .i64 e8) := (blk_cell BK119.out 8).trans rfl
            have hcz39_9 : wc.cell? ⟨gb119, 9, none⟩ = some (.string e9) := (blk_cell BK119.out 9).trans rfl
            have hcz39_10 : wc.cell? ⟨gb119, 10, none⟩ = some (.string e10) := (blk_cell BK119.out 10).trans rfl
            have hcz39_11 : wc.cell? ⟨gb119, 11, none⟩ = some (.int .i64 e11) := (blk_cell BK119.out 11).trans rfl
            have hcz39_12 : wc.cell? ⟨gb119, 12, none⟩ = some (.int .i64 e12) := (blk_cell BK119.out 12).trans rfl
            have hfz39_0 := blk_frozen BK119.out 0
            have hfz39_1 := blk_frozen BK119.out 1
            have hfz39_2 := blk_frozen BK119.out 2
            have hfz39_3 := blk_frozen BK119.out 3
            have hfz39_4 := blk_frozen BK119.out 4
            have hfz39_5 := blk_frozen BK119.out 5
            have hfz39_6 := blk_frozen BK119.out 6
            have hfz39_7 := blk_frozen BK119.out 7
            have hfz39_8 := blk_frozen BK119.out 8
            have hfz39_9 := blk_frozen BK119.out 9
            have hfz39_10 := blk_frozen BK119.out 10
            have hfz39_11 := blk_frozen BK119.out 11
            have hfz39_12 := blk_frozen BK119.out 12
            go_wp2
            go_meet
            case rel => exact ⟨_, (true), (by first | rfl | (simp; done) | (simp [*]; done)), H', ⟨by have := HJ2.out; have := HJ16.out; first | omega | exact Nat.le_refl _⟩, ⟨by (with_reducible repeat (first | refine blk_drewN ?_ _ | refine blk_drew ?_ | refine blk_alloc ?_ _)); exact BK119.out⟩, ⟨by repeat (first | (with_reducible first | exact HB.out | apply below_alloc | apply pw_below_drewN | apply below_drew1 | refine below_set ?_ GE119.out) | exact HB.out)⟩⟩
           ·rw [if_neg c38] at H
            have c38b0 : decide (e8 < 1) = false := decide_eq_false c38
            clear c38
            by_cases c40 : e8 > e7
            ·rw [if_pos c40] at H
             have c40b0 : decide (e7 < e8) = true := decide_eq_true c40
             clear c40
             have H' := Aside0.mk H
             clear H
             have hcz41_0 : wc.cell? ⟨gb119, 0, none⟩ = some (.string e0) := (blk_cell BK119.out 0).trans rfl
             have hcz41_1 : wc.cell? ⟨gb119, 1, none⟩ = some (.string e1) := (blk_cell BK119.out 1).trans rfl
             have hcz41_2 : wc.cell? ⟨gb119, 2, none⟩ = some (.string e2) := (blk_cell BK119.out 2).trans rfl
             have hcz41_3 : wc.cell? ⟨gb119, 3, none⟩ = some (.int .i64 e3) := (blk_cell BK119.out 3).trans rfl
             have hcz41_4 : wc.cell? ⟨gb119, 4, none⟩ = some (.int .i64 e4) := (blk_cell BK119.out 4).trans rfl
             have hcz41_5 : wc.cell? ⟨gb119, 5, none⟩ = some (.int .i64 e5) := (blk_cell BK119.out 5).trans rfl
             have hcz41_6 : wc.cell? ⟨gb119, 6, none⟩ = some (.int .i64 e6) := (blk_cell BK119.out 6).trans rfl
             have hcz41_7 : wc.cell? ⟨gb119, 7, none⟩ = some (.int .i64 e7) := (blk_cell BK119.out 7).trans rfl
             have hcz41_8 : wc.cell? ⟨gb119, 8, none⟩ = some (.int .i64 e8) := (blk_cell BK119.out 8).trans rfl
             have hcz41_9 : wc.cell? ⟨gb119, 9, none⟩ = some (.string e9) := (blk_cell BK119.out 9).trans rfl
             have hcz41_10 : wc.cell? ⟨gb119, 10, none⟩ = some (.string e10) := (blk_cell BK119.out 10).trans rfl
             have hcz41_11 : wc.cell? ⟨gb119, 11, none⟩ = some (.int .i64 e11) := (blk_cell BK119.out 11).trans rfl
             have hcz41_12 : wc.cell? ⟨gb119, 12, none⟩ = some (.int .i64 e12) := (blk_cell BK119.out 12).trans rfl
             have hfz41_0 := blk_frozen BK119.out 0
             have hfz41_1 := blk_frozen BK119.out 1
             have hfz41_2 := blk_frozen BK119.out 2
             have hfz41_3 := blk_frozen BK119.out 3
             have hfz41_4 := blk_frozen BK119.out 4
             have hfz41_5 := blk_frozen BK119.out 5
             have hfz41_6 := blk_frozen BK119.out 6
             have hfz41_7 := blk_frozen BK119.out 7
             have hfz41_8 := blk_frozen BK119.out 8
             have hfz41_9 := blk_frozen BK119.out 9
             have hfz41_10 := blk_frozen BK119.out 10
             have hfz41_11 := blk_frozen BK119.out 11
             have hfz41_12 := blk_frozen BK119.out 12
             go_wp2
             go_meet
             case rel => exact ⟨_, (true), (by first | rfl | (simp; done) | (simp [*]; done)), H', ⟨by have := HJ2.out; have := HJ16.out; first | omega | exact Nat.le_refl _⟩, ⟨by (with_reducible repeat (first | refine blk_drewN ?_ _ | refine blk_drew ?_ | refine blk_alloc ?_ _)); exact BK119.out⟩, ⟨by repeat (first | (with_reducible first | exact HB.out | apply below_alloc | apply pw_below_drewN | apply below_drew1 | refine below_set ?_ GE119.out) | exact HB.out)⟩⟩
            ·rw [if_neg c40] at H
             have c40b0 : decide (e7 < e8) = false := decide_eq_false c40
             clear c40
             have H' := Aside0.mk H
             clear H
             have hcz42_0 : wc.cell? ⟨gb119, 0, none⟩ = some (.string e0) := (blk_cell BK119.out 0).trans rfl
             have hcz42_1 : wc.cell? ⟨gb119, 1, none⟩ = some (.string e1) := (blk_cell BK119.out 1).trans rfl
             have hcz42_2 : wc.cell? ⟨gb119, 2, none⟩ = some (.string e2) := (blk_cell BK119.out 2).trans rfl
             have hcz42_3 : wc.cell? ⟨gb119, 3, none⟩ = some (.int .i64 e3) := (blk_cell BK119.out 3).trans rfl
             have hcz42_4 : wc.cell? ⟨gb119, 4, none⟩ = some (.int .i64 e4) := (blk_cell BK119.out 4).trans rfl
             have hcz42_5 : wc.cell? ⟨gb119, 5, none⟩ = some (.int .i64 e5) := (blk_cell BK119.out 5).trans rfl
             have hcz42_6 : wc.cell? ⟨gb119, 6, none⟩ = some (.int .i64 e6) := (blk_cell BK119.out 6).trans rfl
             have hcz42_7 : wc.cell? ⟨gb119, 7, none⟩ = some (.int .i64 e7) := (blk_cell BK119.out 7).trans rfl
             have hcz42_8 : wc.cell? ⟨gb119, 8, none⟩ = some (.int .i64 e8) := (blk_cell BK119.out 8).trans rfl
             have hcz42_9 : wc.cell? ⟨gb119, 9, none⟩ = some (.string e9) := (blk_cell BK119.out 9).trans rfl
             have hcz42_10 : wc.cell? ⟨gb119, 10, none⟩ = some (.string e10) := (blk_cell BK119.out 10).trans rfl
             have hcz42_11 : wc.cell? ⟨gb119, 11, none⟩ = some (.int .i64 e11) := (blk_cell BK119.out 11).trans rfl
             have hcz42_12 : wc.cell? ⟨gb119, 12, none⟩ = some (.int .i64 e12) := (blk_cell BK119.out 12).trans rfl
             have hfz42_0 := blk_frozen BK119.out 0
             have hfz42_1 := blk_frozen BK119.out 1
             have hfz42_2 := blk_frozen BK119.out 2
             have hfz42_3 := blk_frozen BK119.out 3
             have hfz42_4 := blk_frozen BK119.out 4
             have hfz42_5 := blk_frozen BK119.out 5
             have hfz42_6 := blk_frozen BK119.out 6
             have hfz42_7 := blk_frozen BK119.out 7
             have hfz42_8 := blk_frozen BK119.out 8
             have hfz42_9 := blk_frozen BK119.out 9
             have hfz42_10 := blk_frozen BK119.out 10
             have hfz42_11 := blk_frozen BK119.out 11
             have hfz42_12 := blk_frozen BK119.out 12
             go_wp2
             go_meet
             case rel => exact ⟨_, (false), (by first | rfl | (simp; done) | (simp [*]; done)), H', ⟨by have := HJ2.out; have := HJ16.out; first | omega | exact Nat.le_refl _⟩, ⟨by (with_reducible repeat (first | refine blk_drewN ?_ _ | refine blk_drew ?_ | refine blk_alloc ?_ _)); exact BK119.out⟩, ⟨by repeat (first | (with_reducible first | exact HB.out | apply below_alloc | apply pw_below_drewN | apply below_drew1 | refine below_set ?_ GE119.out) | exact HB.out)⟩⟩
          ·replace c37 := Bool.eq_false_iff.mpr c37
           subst c37
           have H1 : (job_right.j3 kj16 x7_16 (e8 != 0) e0 e1 e2 e3 e4 e5 e6 e7 e8 e9 e10 e11 e12) = some r := by rw [if_neg (show ¬ (false = true) by decide)] at H; exact H
           clear H
           have H := H1
           clear H1
           have H' := Aside0.mk H
           clear H
           have hcz43_0 : wc.cell? ⟨gb119, 0, none⟩ = some (.string e0) := (blk_cell BK119.out 0).trans rfl
           have hcz43_1 : wc.cell? ⟨gb119, 1, none⟩ = some (.string e1) := (blk_cell BK119.out 1).trans rfl
           have hcz43_2 : wc.cell? ⟨gb119, 2, none⟩ = some (.string e2) := (blk_cell BK119.out 2).trans rfl
           have hcz43_3 : wc.cell? ⟨gb119, 3, none⟩ = some (.int .i64 e3) := (blk_cell BK119.out 3).trans rfl
           have hcz43_4 : wc.cell? ⟨gb119, 4, none⟩ = some (.int .i64 e4) := (blk_cell BK119.out 4).trans rfl
           have hcz43_5 : wc.cell? ⟨gb119, 5, none⟩ = some (.int .i64 e5) := (blk_cell BK119.out 5).trans rfl
           have hcz43_6 : wc.cell? ⟨gb119, 6, none⟩ = some (.int .i64 e6) := (blk_cell BK119.out 6).trans rfl
           have hcz43_7 : wc.cell? ⟨gb119, 7, none⟩ = some (.int .i64 e7) := (blk_cell BK119.out 7).trans rfl
           have hcz43_8 : wc.cell? ⟨gb119, 8, none⟩ = some (.int .i64 e8) := (blk_cell BK119.out 8).trans rfl
           have hcz43_9 : wc.cell? ⟨gb119, 9, none⟩ = some (.string e9) := (blk_cell BK119.out 9).trans rfl
           have hcz43_10 : wc.cell? ⟨gb119, 10, none⟩ = some (.string e10) := (blk_cell BK119.out 10).trans rfl
           have hcz43_11 : wc.cell? ⟨gb119, 11, none⟩ = some (.int .i64 e11) := (blk_cell BK119.out 11).trans rfl
           have hcz43_12 : wc.cell? ⟨gb119, 12, none⟩ = some (.int .i64 e12) := (blk_cell BK119.out 12).trans rfl
           have hfz43_0 := blk_frozen BK119.out 0
           have hfz43_1 := blk_frozen BK119.out 1
           have hfz43_2 := blk_frozen BK119.out 2
           have hfz43_3 := blk_frozen BK119.out 3
           have hfz43_4 := blk_frozen BK119.out 4
           have hfz43_5 := blk_frozen BK119.out 5
           have hfz43_6 := blk_frozen BK119.out 6
           have hfz43_7 := blk_frozen BK119.out 7
           have hfz43_8 := blk_frozen BK119.out 8
           have hfz43_9 := blk_frozen BK119.out 9
           have hfz43_10 := blk_frozen BK119.out 10
           have hfz43_11 := blk_frozen BK119.out 11
           have hfz43_12 := blk_frozen BK119.out 12
           go_wp2
           go_meet
           case rel => exact ⟨_, ((e8 != 0)), (by first | rfl | (simp; done) | (simp [*]; done)), H', ⟨by have := HJ2.out; have := HJ16.out; first | omega | exact Nat.le_refl _⟩, ⟨by (with_reducible repeat (first | refine blk_drewN ?_ _ | refine blk_drew ?_ | refine blk_alloc ?_ _)); exact BK119.out⟩, ⟨by repeat (first | (with_reducible first | exact HB.out | apply below_alloc | apply pw_below_drewN | apply below_drew1 | refine below_set ?_ GE119.out) | exact HB.out)⟩⟩
         ·rw [if_neg c36] at H
          have c36b0 : (e7 == 0) = false := beq_eq_false_iff_ne.mpr c36
          have c36b1 : (e7 != 0) = true := bne_iff_ne.mpr c36
          have H' := Aside0.mk H
          clear H
          have hcz44_0 : wc.cell? ⟨gb119, 0, none⟩ = some (.string e0) := (blk_cell BK119.out 0).trans rfl
          have hcz44_1 : wc.cell? ⟨gb119, 1, none⟩ = some (.string e1) := (blk_cell BK119.out 1).trans rfl
          have hcz44_2 : wc.cell? ⟨gb119, 2, none⟩ = some (.string e2) := (blk_cell BK119.out 2).trans rfl
          have hcz44_3 : wc.cell? ⟨gb119, 3, none⟩ = some (.int .i64 e3) := (blk_cell BK119.out 3).trans rfl
          have hcz44_4 : wc.cell? ⟨gb119, 4, none⟩ = some (.int .i64 e4) := (blk_cell BK119.out 4).trans rfl
          have hcz44_5 : wc.cell? ⟨gb119, 5, none⟩ = some (.int .i64 e5) := (blk_cell BK119.out 5).trans rfl
          have hcz44_6 : wc.cell? ⟨gb119, 6, none⟩ = some (.int .i64 e6) := (blk_cell BK119.out 6).trans rfl
          have hcz44_7 : wc.cell? ⟨gb119, 7, none⟩ = some (.int .i64 e7) := (blk_cell BK119.out 7).trans rfl
          have hcz44_8 : wc.cell? ⟨gb119, 8, none⟩ = some (.int .i64 e8) := (blk_cell BK119.out 8).trans rfl
          have hcz44_9 : wc.cell? ⟨gb119, 9, none⟩ = some (.string e9) := (blk_cell BK119.out 9).trans rfl
          have hcz44_10 : wc.cell? ⟨gb119, 10, none⟩ = some (.string e10) := (blk_cell BK119.out 10).trans rfl
          have hcz44_11 : wc.cell? ⟨gb119, 11, none⟩ = some (.int .i64 e11) := (blk_cell BK119.out 11).trans rfl
          have hcz44_12 : wc.cell? ⟨gb119, 12, none⟩ = some (.int .i64 e12) := (blk_cell BK119.out 12).trans rfl
          have hfz44_0 := blk_frozen BK119.out 0
          have hfz44_1 := blk_frozen BK119.out 1
          have hfz44_2 := blk_frozen BK119.out 2
          have hfz44_3 := blk_frozen BK119.out 3
          have hfz44_4 := blk_frozen BK119.out 4
          have hfz44_5 := blk_frozen BK119.out 5
          have hfz44_6 := blk_frozen BK119.out 6
          have hfz44_7 := blk_frozen BK119.out 7
          have hfz44_8 := blk_frozen BK119.out 8
          have hfz44_9 := blk_frozen BK119.out 9
          have hfz44_10 := blk_frozen BK119.out 10
          have hfz44_11 := blk_frozen BK119.out 11
          have hfz44_12 := blk_frozen BK119.out 12
          go_wp2
          go_meet
          case rel => exact ⟨_, (true), (by first | rfl | (simp; done) | (simp [*]; done)), H', ⟨by have := HJ2.out; have := HJ16.out; first | omega | exact Nat.le_refl _⟩, ⟨by (with_reducible repeat (first | refine blk_drewN ?_ _ | refine blk_drew ?_ | refine blk_alloc ?_ _)); exact BK119.out⟩, ⟨by repeat (first | (with_reducible first | exact HB.out | apply below_alloc | apply pw_below_drewN | apply below_drew1 | refine below_set ?_ GE119.out) | exact HB.out)⟩⟩
      case rest =>
       clear HC25
       try clear c1
       try clear c2
       try clear p2
       try clear c3
       try clear c4
       try clear c6
       try clear c7
       try clear c7b0
       try clear c9
       try clear c16
       try clear c20
       try clear c20b0
       try clear c20b1
       try clear c21
       try clear c22
       try clear c22b0
       try clear c22b1
       try clear c23
       try clear c23b0
       try clear c23b1
       try clear c24
       try clear c24b0
       try clear c24b1
       try clear c26
       try clear c26b0
       try clear c26b1
       try clear c26b2
       try clear c28
       try clear c29
       try clear c30
       try clear c30b0
       try clear c32
       try clear c32b0
       try clear c36
       try clear c36b0
       try clear c36b1
       try clear c37
       try clear c38
       try clear c38b0
       try clear c40
       try clear c40b0
       try clear hcz10_0
       try clear hcz10_1
       try clear hcz10_10
       try clear hcz10_11
       try clear hcz10_12
       try clear hcz10_2
       try clear hcz10_3
       try clear hcz10_4
       try clear hcz10_5
       try clear hcz10_6
       try clear hcz10_7
       try clear hcz10_8
       try clear hcz10_9
       try clear hcz11_0
       try clear hcz11_1
       try clear hcz11_10
       try clear hcz11_11
       try clear hcz11_12
       try clear hcz11_2
       try clear hcz11_3
       try clear hcz11_4
       try clear hcz11_5
       try clear hcz11_6
       try clear hcz11_7
       try clear hcz11_8
       try clear hcz11_9
       try clear hcz13_0
       try clear hcz13_1
       try clear hcz13_10
       try clear hcz13_11
       try clear hcz13_12
       try clear hcz13_2
       try clear hcz13_3
       try clear hcz13_4
       try clear hcz13_5
       try clear hcz13_6
       try clear hcz13_7
       try clear hcz13_8
       try clear hcz13_9
       try clear hcz14_0
       try clear hcz14_1
       try clear hcz14_10
       try clear hcz14_11
       try clear hcz14_12
       try clear hcz14_2
       try clear hcz14_3
       try clear hcz14_4
       try clear hcz14_5
       try clear hcz14_6
       try clear hcz14_7
       try clear hcz14_8
       try clear hcz14_9
       try clear hcz18_0
       try clear hcz18_1
       try clear hcz18_10
       try clear hcz18_11
       try clear hcz18_12
       try clear hcz18_2
       try clear hcz18_3
       try clear hcz18_4
       try clear hcz18_5
       try clear hcz18_6
       try clear hcz18_7
       try clear hcz18_8
       try clear hcz18_9
       try clear hcz27_0
       try clear hcz27_1
       try clear hcz27_10
       try clear hcz27_11
       try clear hcz27_12
       try clear hcz27_2
       try clear hcz27_3
       try clear hcz27_4
       try clear hcz27_5
       try clear hcz27_6
       try clear hcz27_7
       try clear hcz27_8
       try clear hcz27_9
       try clear hcz31_0
       try clear hcz31_1
       try clear hcz31_10
       try clear hcz31_11
       try clear hcz31_12
       try clear hcz31_2
       try clear hcz31_3
       try clear hcz31_4
       try clear hcz31_5
       try clear hcz31_6
       try clear hcz31_7
       try clear hcz31_8
       try clear hcz31_9
       try clear hcz33_0
       try clear hcz33_1
       try clear hcz33_10
       try clear hcz33_11
       try clear hcz33_12
       try clear hcz33_2
       try clear hcz33_3
       try clear hcz33_4
       try clear hcz33_5
       try clear hcz33_6
       try clear hcz33_7
       try clear hcz33_8
       try clear hcz33_9
       try clear hcz34_0
       try clear hcz34_1
       try clear hcz34_10
       try clear hcz34_11
       try clear hcz34_12
       try clear hcz34_2
       try clear hcz34_3
       try clear hcz34_4
       try clear hcz34_5
       try clear hcz34_6
       try clear hcz34_7
       try clear hcz34_8
       try clear hcz34_9
       try clear hcz35_0
       try clear hcz35_1
       try clear hcz35_10
       try clear hcz35_11
       try clear hcz35_12
       try clear hcz35_2
       try clear hcz35_3
       try clear hcz35_4
       try clear hcz35_5
       try clear hcz35_6
       try clear hcz35_7
       try clear hcz35_8
       try clear hcz35_9
       try clear hcz39_0
       try clear hcz39_1
       try clear hcz39_10
       try clear hcz39_11
       try clear hcz39_12
       try clear hcz39_2
       try clear hcz39_3
       try clear hcz39_4
       try clear hcz39_5
       try clear hcz39_6
       try clear hcz39_7
       try clear hcz39_8
       try clear hcz39_9
       try clear hcz41_0
       try clear hcz41_1
       try clear hcz41_10
       try clear hcz41_11
       try clear hcz41_12
       try clear hcz41_2
       try clear hcz41_3
       try clear hcz41_4
       try clear hcz41_5
       try clear hcz41_6
       try clear hcz41_7
       try clear hcz41_8
       try clear hcz41_9
       try clear hcz42_0
       try clear hcz42_1
       try clear hcz42_10
       try clear hcz42_11
       try clear hcz42_12
       try clear hcz42_2
       try clear hcz42_3
       try clear hcz42_4
       try clear hcz42_5
       try clear hcz42_6
       try clear hcz42_7
       try clear hcz42_8
       try clear hcz42_9
       try clear hcz43_0
       try clear hcz43_1
       try clear hcz43_10
       try clear hcz43_11
       try clear hcz43_12
       try clear hcz43_2
       try clear hcz43_3
       try clear hcz43_4
       try clear hcz43_5
       try clear hcz43_6
       try clear hcz43_7
       try clear hcz43_8
       try clear hcz43_9
       try clear hcz44_0
       try clear hcz44_1
       try clear hcz44_10
       try clear hcz44_11
       try clear hcz44_12
       try clear hcz44_2
       try clear hcz44_3
       try clear hcz44_4
       try clear hcz44_5
       try clear hcz44_6
       try clear hcz44_7
       try clear hcz44_8
       try clear hcz44_9
       try clear hcz8_0
       try clear hcz8_1
       try clear hcz8_10
       try clear hcz8_11
       try clear hcz8_12
       try clear hcz8_2
       try clear hcz8_3
       try clear hcz8_4
       try clear hcz8_5
       try clear hcz8_6
       try clear hcz8_7
       try clear hcz8_8
       try clear hcz8_9
       try clear hfz10_0
       try clear hfz10_1
       try clear hfz10_10
       try clear hfz10_11
       try clear hfz10_12
       try clear hfz10_2
       try clear hfz10_3
       try clear hfz10_4
       try clear hfz10_5
       try clear hfz10_6
       try clear hfz10_7
       try clear hfz10_8
       try clear hfz10_9
       try clear hfz11_0
       try clear hfz11_1
       try clear hfz11_10
       try clear hfz11_11
       try clear hfz11_12
       try clear hfz11_2
       try clear hfz11_3
       try clear hfz11_4
       try clear hfz11_5
       try clear hfz11_6
       try clear hfz11_7
       try clear hfz11_8
       try clear hfz11_9
       try clear hfz13_0
       try clear hfz13_1
       try clear hfz13_10
       try clear hfz13_11
       try clear hfz13_12
       try clear hfz13_2
       try clear hfz13_3
       try clear hfz13_4
       try clear hfz13_5
       try clear hfz13_6
       try clear hfz13_7
       try clear hfz13_8
       try clear hfz13_9
       try clear hfz14_0
       try clear hfz14_1
       try clear hfz14_10
       try clear hfz14_11
       try clear hfz14_12
       try clear hfz14_2
       try clear hfz14_3
       try clear hfz14_4
       try clear hfz14_5
       try clear hfz14_6
       try clear hfz14_7
       try clear hfz14_8
       try clear hfz14_9
       try clear hfz18_0
       try clear hfz18_1
       try clear hfz18_10
       try clear hfz18_11
       try clear hfz18_12
       try clear hfz18_2
       try clear hfz18_3
       try clear hfz18_4
       try clear hfz18_5
       try clear hfz18_6
       try clear hfz18_7
       try clear hfz18_8
       try clear hfz18_9
       try clear hfz27_0
       try clear hfz27_1
       try clear hfz27_10
       try clear hfz27_11
       try clear hfz27_12
       try clear hfz27_2
       try clear hfz27_3
       try clear hfz27_4
       try clear hfz27_5
       try clear hfz27_6
       try clear hfz27_7
       try clear hfz27_8
       try clear hfz27_9
       try clear hfz31_0
       try clear hfz31_1
       try clear hfz31_10
       try clear hfz31_11
       try clear hfz31_12
       try clear hfz31_2
       try clear hfz31_3
       try clear hfz31_4
       try clear hfz31_5
       try clear hfz31_6
       try clear hfz31_7
       try clear hfz31_8
       try clear hfz31_9
       try clear hfz33_0
       try clear hfz33_1
       try clear hfz33_10
       try clear hfz33_11
       try clear hfz33_12
       try clear hfz33_2
       try clear hfz33_3
       try clear hfz33_4
       try clear hfz33_5
       try clear hfz33_6
       try clear hfz33_7
       try clear hfz33_8
       try clear hfz33_9
       try clear hfz34_0
       try clear hfz34_1
       try clear hfz34_10
       try clear hfz34_11
       try clear hfz34_12
       try clear hfz34_2
       try clear hfz34_3
       try clear hfz34_4
       try clear hfz34_5
       try clear hfz34_6
       try clear hfz34_7
       try clear hfz34_8
       try clear hfz34_9
       try clear hfz35_0
       try clear hfz35_1
       try clear hfz35_10
       try clear hfz35_11
       try clear hfz35_12
       try clear hfz35_2
       try clear hfz35_3
       try clear hfz35_4
       try clear hfz35_5
       try clear hfz35_6
       try clear hfz35_7
       try clear hfz35_8
       try clear hfz35_9
       try clear hfz39_0
       try clear hfz39_1
       try clear hfz39_10
       try clear hfz39_11
       try clear hfz39_12
       try clear hfz39_2
       try clear hfz39_3
       try clear hfz39_4
       try clear hfz39_5
       try clear hfz39_6
       try clear hfz39_7
       try clear hfz39_8
       try clear hfz39_9
       try clear hfz41_0
       try clear hfz41_1
       try clear hfz41_10
       try clear hfz41_11
       try clear hfz41_12
       try clear hfz41_2
       try clear hfz41_3
       try clear hfz41_4
       try clear hfz41_5
       try clear hfz41_6
       try clear hfz41_7
       try clear hfz41_8
       try clear hfz41_9
       try clear hfz42_0
       try clear hfz42_1
       try clear hfz42_10
       try clear hfz42_11
       try clear hfz42_12
       try clear hfz42_2
       try clear hfz42_3
       try clear hfz42_4
       try clear hfz42_5
       try clear hfz42_6
       try clear hfz42_7
       try clear hfz42_8
       try clear hfz42_9
       try clear hfz43_0
       try clear hfz43_1
       try clear hfz43_10
       try clear hfz43_11
       try clear hfz43_12
       try clear hfz43_2
       try clear hfz43_3
       try clear hfz43_4
       try clear hfz43_5
       try clear hfz43_6
       try clear hfz43_7
       try clear hfz43_8
       try clear hfz43_9
       try clear hfz44_0
       try clear hfz44_1
       try clear hfz44_10
       try clear hfz44_11
       try clear hfz44_12
       try clear hfz44_2
       try clear hfz44_3
       try clear hfz44_4
       try clear hfz44_5
       try clear hfz44_6
       try clear hfz44_7
       try clear hfz44_8
       try clear hfz44_9
       try clear hfz8_0
       try clear hfz8_1
       try clear hfz8_10
       try clear hfz8_11
       try clear hfz8_12
       try clear hfz8_2
       try clear hfz8_3
       try clear hfz8_4
       try clear hfz8_5
       try clear hfz8_6
       try clear hfz8_7
       try clear hfz8_8
       try clear hfz8_9
       try clear p2
       obtain ⟨kq, x70_24, rfl, HA, HJ24, BK119, HB⟩ := hcut
       cases kq with
       | zero => exact absurd HA.out (by simp [job_right.j3])
       | succ kj24 =>
        have H := HA.out
        clear HA
        simp only [job_right.j3] at H
        by_cases c45 : x70_24 = true
        ·subst c45
         have H1 : (some false) = some r := by rw [if_pos rfl] at H; exact H
         clear H
         have H := H1
         clear H1
         obtain rfl := Option.some.inj H
         go_wp2
         go_ret
         exact ⟨by first | rfl | (simp [errW_none, errW_some] <;> rfl) | (simp [*, errW_none, errW_some] <;> rfl), by repeat (first | (with_reducible first | exact HB.out | apply below_alloc | apply pw_below_drewN | apply below_drew1 | refine below_set ?_ GE119.out) | exact HB.out)⟩
        ·replace c45 := Bool.eq_false_iff.mpr c45
         subst c45
         have H1 : (if x7_16 = true then ((parcel_Valid.f kj24 (([(⟨e9, e10, e11, e12⟩ : S24)] : List (S24)))).bind fun t124 => (if t124 = true then (if e9.toList = e1.toList then (some (e11 == e7)) else (some false)) else (some false))) else (some (e9.toList == ([] : List UInt8) && (e10.toList == ([] : List UInt8) && (e11 == 0 && (e12 == 0)))))) = some r := by rw [if_neg (show ¬ (false = true) by decide)] at H; exact H
         clear H
         have H := H1
         clear H1
         by_cases c46 : x7_16 = true
         ·subst c46
          have H1 : ((parcel_Valid.f kj24 (([(⟨e9, e10, e11, e12⟩ : S24)] : List (S24)))).bind fun t124 => (if t124 = true then (if e9.toList = e1.toList then (some (e11 == e7)) else (some false)) else (some false))) = some r := by rw [if_pos rfl] at H; exact H
          clear H
          have H := H1
          clear H1
          obtain ⟨y121, hy121⟩ : ∃ y_ : List (S24), y_ = (([(⟨e9, e10, e11, e12⟩ : S24)] : List (S24))) := ⟨_, rfl⟩
          replace H : ((parcel_Valid.f kj24 y121).bind fun t124 => (if t124 = true then (if e9.toList = e1.toList then (some (e11 == e7)) else (some false)) else (some false))) = some r := by first | (rw [hy121]; with_reducible exact H) | (have H2_ := (Option.bind_some _ _).symm.trans H; rw [hy121]; with_reducible exact H2_) | (have H2_ := (Option.bind_some _ _).symm.trans H; with_reducible exact H2_) | with_reducible exact H | (rw [hy121]; exact H) | exact H
          have Ny121 := Aside0.mk hy121
          clear hy121
          replace H := Option.bind_eq_some_iff.mp H
          obtain ⟨t124, A470, H⟩ := H
          replace H : (if t124 = true then (if e9.toList = e1.toList then (some (e11 == e7)) else (some false)) else (some false)) = some r := H
          have A47 := Aside0.mk A470
          clear A470
          by_cases c48 : t124 = true
          ·subst c48
           have H1 : (if e9.toList = e1.toList then (some (e11 == e7)) else (some false)) = some r := by rw [if_pos rfl] at H; exact H
           clear H
           have H := H1
           clear H1
           by_cases c49 : e9.toList = e1.toList
           ·rw [if_pos c49] at H
            have c49b0 : (e9.toList == e1.toList) = true := beq_iff_eq.mpr c49
            have c49b1 : (e9.toList != e1.toList) = false := bne_eq_false_iff_eq.mpr c49
            clear c49
            obtain rfl := Option.some.inj H
            have hcz50_0 : wc.cell? ⟨gb119, 0, none⟩ = some (.string e0) := (blk_cell BK119.out 0).trans rfl
            have hcz50_1 : wc.cell? ⟨gb119, 1, none⟩ = some (.string e1) := (blk_cell BK119.out 1).trans rfl
            have hcz50_2 : wc.cell? ⟨gb119, 2, none⟩ = some (.string e2) := (blk_cell BK119.out 2).trans rfl
            have hcz50_3 : wc.cell? ⟨gb119, 3, none⟩ = some (.int .i64 e3) := (blk_cell BK119.out 3).trans rfl
            have hcz50_4 : wc.cell? ⟨gb119, 4, none⟩ = some (.int .i64 e4) := (blk_cell BK119.out 4).trans rfl
            have hcz50_5 : wc.cell? ⟨gb119, 5, none⟩ = some (.int .i64 e5) := (blk_cell BK119.out 5).trans rfl
            have hcz50_6 : wc.cell? ⟨gb119, 6, none⟩ = some (.int .i64 e6) := (blk_cell BK119.out 6).trans rfl
            have hcz50_7 : wc.cell? ⟨gb119, 7, none⟩ = some (.int .i64 e7) := (blk_cell BK119.out 7).trans rfl
            have hcz50_8 : wc.cell? ⟨gb119, 8, none⟩ = some (.int .i64 e8) := (blk_cell BK119.out 8).trans rfl
            have hcz50_9 : wc.cell? ⟨gb119, 9, none⟩ = some (.string e9) := (blk_cell BK119.out 9).trans rfl
            have hcz50_10 : wc.cell? ⟨gb119, 10, none⟩ = some (.string e10) := (blk_cell BK119.out 10).trans rfl
            have hcz50_11 : wc.cell? ⟨gb119, 11, none⟩ = some (.int .i64 e11) := (blk_cell BK119.out 11).trans rfl
            have hcz50_12 : wc.cell? ⟨gb119, 12, none⟩ = some (.int .i64 e12) := (blk_cell BK119.out 12).trans rfl
            have hfz50_0 := blk_frozen BK119.out 0
            have hfz50_1 := blk_frozen BK119.out 1
            have hfz50_2 := blk_frozen BK119.out 2
            have hfz50_3 := blk_frozen BK119.out 3
            have hfz50_4 := blk_frozen BK119.out 4
            have hfz50_5 := blk_frozen BK119.out 5
            have hfz50_6 := blk_frozen BK119.out 6
            have hfz50_7 := blk_frozen BK119.out 7
            have hfz50_8 := blk_frozen BK119.out 8
            have hfz50_9 := blk_frozen BK119.out 9
            have hfz50_10 := blk_frozen BK119.out 10
            have hfz50_11 := blk_frozen BK119.out 11
            have hfz50_12 := blk_frozen BK119.out 12
            go_wp2_with (first | ((with_reducible refine gate_dst (N := 79) rfl ?_); refine Kd.R_lit k24 _ 24 ?hg (N := 79) ?hd (xs := ([(⟨e9, e10, e11, e12⟩ : S24)] : List (S24))) (inner := [.string e9, .string e10, .int .i64 e11, .int .i64 e12]) (ok := fun _ => True) (okp := fun _ => True) ?hr ?hp (fun _ hk => hk) trivial (Below.refl _ _) (Nat.le_refl _) (by simp) ?_; (case hd => rfl); (case hg => rfl); (case hr => go_simp; try rfl); (case hp => exact (Reps.c4 (show Kd.M k24 _ _ _ (⟨e9, e10, e11, e12⟩ : S24) [.string e9, .string e10, .int .i64 e11, .int .i64 e12] from (k24_mkM _ _ _ (⟨e9, e10, e11, e12⟩ : S24) )) (Reps.none _ _))); intro v122 w51 ho52 hb hg_ hnew_; clear hg_ hnew_; (first | rw [← Ny121.out] at ho52 | (simp only [Int.reduceToNat] at ho52; rw [← Ny121.out] at ho52)); have n0_ := Aside0.mk (Kd.R_lower ho52 (below_size (by repeat (first | (with_reducible first | exact HB.out | apply below_alloc | apply pw_below_drewN | apply below_drew1 | refine below_set ?_ GE119.out) | exact HB.out)))); have n1_ := Aside0.mk (blk_below (g := gb119) (by (with_reducible repeat (first | refine blk_drewN ?_ _ | refine blk_drew ?_ | refine blk_alloc ?_ _)); exact BK119.out) hb); have n2_ := Aside0.mk (below_step (by repeat (first | (with_reducible first | exact HB.out | apply below_alloc | apply pw_below_drewN | apply below_drew1 | refine below_set ?_ GE119.out) | exact HB.out)) hb); clear BK119; clear HB; have HO123 := n0_; have BK119 := n1_; have HB := n2_; clear n0_ n1_ n2_; clear hb ho52; obtain ⟨Ao53, co53, eo53⟩ := Kd.R_slice HO123.out; subst eo53) | ((with_reducible refine gate_callee (f := 21) rfl ?_); refine goesL_ (some 80) rfl rfl Try.func21 (by kernel_rfl) rfl #[.slice Ao53 y121.length co53] rfl (by (try simp only [List.map_toArray, List.map_cons, List.map_nil]); first | done | rfl | (simp only [List.length_drop, List.length_take]; rfl)) ?_; (with_reducible refine (parcel_Valid.calls kj24 _ _ y121 true _ ?side1 ?side2 A47.out).mono ?_); (case side1 => repeat (first | exact (Kd.R_reads' HO123.out).2.2 | (with_reducible refine Kd.C_alloc ?_ _) | (with_reducible refine Kd.C_drewN ?_ _) | (with_reducible refine Kd.C_drew ?_))); (case side2 => exact (Kd.R_reads' HO123.out).2.1); rintro e w54 ⟨rfl, hb⟩; refine ⟨_, rfl, ?_⟩; have n0_ := Aside0.mk (Kd.R_below (by (with_reducible repeat (first | apply Kd.R_alloc | apply Kd.R_drewN | apply Kd.R_drew)); exact HO123.out) hb); have n1_ := Aside0.mk (blk_below (g := gb119) (by (with_reducible repeat (first | refine blk_drewN ?_ _ | refine blk_drew ?_ | refine blk_alloc ?_ _)); exact BK119.out) hb); have n2_ := Aside0.mk (below_step (by repeat (first | (with_reducible first | exact HB.out | apply below_alloc | apply pw_below_drewN | apply below_drew1 | refine below_set ?_ GE119.out) | exact HB.out)) hb); clear HO123; clear BK119; clear HB; have HO123 := n0_; have BK119 := n1_; have HB := n2_; clear n0_ n1_ n2_; (try clear hb); (try clear hb2); (try clear hk); (try clear hi); obtain ⟨hcz55_0, hcz55_1, hcz55_2, hcz55_3, hcz55_4, hcz55_5, hcz55_6, hcz55_7, hcz55_8, hcz55_9, hcz55_10, hcz55_11, hcz55_12⟩ := sqc13 BK119.out; obtain ⟨hfz55_0, hfz55_1, hfz55_2, hfz55_3, hfz55_4, hfz55_5, hfz55_6, hfz55_7, hfz55_8, hfz55_9, hfz55_10, hfz55_11, hfz55_12⟩ := frozen13 BK119.out))
            go_ret
            exact ⟨by first | rfl | (simp [errW_none, errW_some] <;> rfl) | (simp [*, errW_none, errW_some] <;> rfl), by repeat (first | (with_reducible first | exact HB.out | apply below_alloc | apply pw_below_drewN | apply below_drew1 | refine below_set ?_ GE119.out) | exact HB.out)⟩
           ·rw [if_neg c49] at H
            have c49b0 : (e9.toList == e1.toList) = false := beq_eq_false_iff_ne.mpr c49
            have c49b1 : (e9.toList != e1.toList) = true := bne_iff_ne.mpr c49
            obtain rfl := Option.some.inj H
            have hcz56_0 : wc.cell? ⟨gb119, 0, none⟩ = some (.string e0) := (blk_cell BK119.out 0).trans rfl
            have hcz56_1 : wc.cell? ⟨gb119, 1, none⟩ = some (.string e1) := (blk_cell BK119.out 1).trans rfl
            have hcz56_2 : wc.cell? ⟨gb119, 2, none⟩ = some (.string e2) := (blk_cell BK119.out 2).trans rfl
            have hcz56_3 : wc.cell? ⟨gb119, 3, none⟩ = some (.int .i64 e3) := (blk_cell BK119.out 3).trans rfl
            have hcz56_4 : wc.cell? ⟨gb119, 4, none⟩ = some (.int .i64 e4) := (blk_cell BK119.out 4).trans rfl
            have hcz56_5 : wc.cell? ⟨gb119, 5, none⟩ = some (.int .i64 e5) := (blk_cell BK119.out 5).trans rfl
            have hcz56_6 : wc.cell? ⟨gb119, 6, none⟩ = some (.int .i64 e6) := (blk_cell BK119.out 6).trans rfl
            have hcz56_7 : wc.cell? ⟨gb119, 7, none⟩ = some (.int .i64 e7) := (blk_cell BK119.out 7).trans rfl
            have hcz56_8 : wc.cell? ⟨gb119, 8, none⟩ = some (.int .i64 e8) := (blk_cell BK119.out 8).trans rfl
            have hcz56_9 : wc.cell? ⟨gb119, 9, none⟩ = some (.string e9) := (blk_cell BK119.out 9).trans rfl
            have hcz56_10 : wc.cell? ⟨gb119, 10, none⟩ = some (.string e10) := (blk_cell BK119.out 10).trans rfl
            have hcz56_11 : wc.cell? ⟨gb119, 11, none⟩ = some (.int .i64 e11) := (blk_cell BK119.out 11).trans rfl
            have hcz56_12 : wc.cell? ⟨gb119, 12, none⟩ = some (.int .i64 e12) := (blk_cell BK119.out 12).trans rfl
            have hfz56_0 := blk_frozen BK119.out 0
            have hfz56_1 := blk_frozen BK119.out 1
            have hfz56_2 := blk_frozen BK119.out 2
            have hfz56_3 := blk_frozen BK119.out 3
            have hfz56_4 := blk_frozen BK119.out 4
            have hfz56_5 := blk_frozen BK119.out 5
            have hfz56_6 := blk_frozen BK119.out 6
            have hfz56_7 := blk_frozen BK119.out 7
            have hfz56_8 := blk_frozen BK119.out 8
            have hfz56_9 := blk_frozen BK119.out 9
            have hfz56_10 := blk_frozen BK119.out 10
            have hfz56_11 := blk_frozen BK119.out 11
            have hfz56_12 := blk_frozen BK119.out 12
            go_wp2_with (first | ((with_reducible refine gate_dst (N := 79) rfl ?_); refine Kd.R_lit k24 _ 24 ?hg (N := 79) ?hd (xs := ([(⟨e9, e10, e11, e12⟩ : S24)] : List (S24))) (inner := [.string e9, .string e10, .int .i64 e11, .int .i64 e12]) (ok := fun _ => True) (okp := fun _ => True) ?hr ?hp (fun _ hk => hk) trivial (Below.refl _ _) (Nat.le_refl _) (by simp) ?_; (case hd => rfl); (case hg => rfl); (case hr => go_simp; try rfl); (case hp => exact (Reps.c4 (show Kd.M k24 _ _ _ (⟨e9, e10, e11, e12⟩ : S24) [.string e9, .string e10, .int .i64 e11, .int .i64 e12] from (k24_mkM _ _ _ (⟨e9, e10, e11, e12⟩ : S24) )) (Reps.none _ _))); intro v122 w57 ho58 hb hg_ hnew_; clear hg_ hnew_; (first | rw [← Ny121.out] at ho58 | (simp only [Int.reduceToNat] at ho58; rw [← Ny121.out] at ho58)); have n0_ := Aside0.mk (Kd.R_lower ho58 (below_size (by repeat (first | (with_reducible first | exact HB.out | apply below_alloc | apply pw_below_drewN | apply below_drew1 | refine below_set ?_ GE119.out) | exact HB.out)))); have n1_ := Aside0.mk (blk_below (g := gb119) (by (with_reducible repeat (first | refine blk_drewN ?_ _ | refine blk_drew ?_ | refine blk_alloc ?_ _)); exact BK119.out) hb); have n2_ := Aside0.mk (below_step (by repeat (first | (with_reducible first | exact HB.out | apply below_alloc | apply pw_below_drewN | apply below_drew1 | refine below_set ?_ GE119.out) | exact HB.out)) hb); clear BK119; clear HB; have HO123 := n0_; have BK119 := n1_; have HB := n2_; clear n0_ n1_ n2_; clear hb ho58; obtain ⟨Ao59, co59, eo59⟩ := Kd.R_slice HO123.out; subst eo59) | ((with_reducible refine gate_callee (f := 21) rfl ?_); refine goesL_ (some 80) rfl rfl Try.func21 (by kernel_rfl) rfl #[.slice Ao59 y121.length co59] rfl (by (try simp only [List.map_toArray, List.map_cons, List.map_nil]); first | done | rfl | (simp only [List.length_drop, List.length_take]; rfl)) ?_; (with_reducible refine (parcel_Valid.calls kj24 _ _ y121 true _ ?side1 ?side2 A47.out).mono ?_); (case side1 => repeat (first | exact (Kd.R_reads' HO123.out).2.2 | (with_reducible refine Kd.C_alloc ?_ _) | (with_reducible refine Kd.C_drewN ?_ _) | (with_reducible refine Kd.C_drew ?_))); (case side2 => exact (Kd.R_reads' HO123.out).2.1); rintro e w60 ⟨rfl, hb⟩; refine ⟨_, rfl, ?_⟩; have n0_ := Aside0.mk (Kd.R_below (by (with_reducible repeat (first | apply Kd.R_alloc | apply Kd.R_drewN | apply Kd.R_drew)); exact HO123.out) hb); have n1_ := Aside0.mk (blk_below (g := gb119) (by (with_reducible repeat (first | refine blk_drewN ?_ _ | refine blk_drew ?_ | refine blk_alloc ?_ _)); exact BK119.out) hb); have n2_ := Aside0.mk (below_step (by repeat (first | (with_reducible first | exact HB.out | apply below_alloc | apply pw_below_drewN | apply below_drew1 | refine below_set ?_ GE119.out) | exact HB.out)) hb); clear HO123; clear BK119; clear HB; have HO123 := n0_; have BK119 := n1_; have HB := n2_; clear n0_ n1_ n2_; (try clear hb); (try clear hb2); (try clear hk); (try clear hi); obtain ⟨hcz61_0, hcz61_1, hcz61_2, hcz61_3, hcz61_4, hcz61_5, hcz61_6, hcz61_7, hcz61_8, hcz61_9, hcz61_10, hcz61_11, hcz61_12⟩ := sqc13 BK119.out; obtain ⟨hfz61_0, hfz61_1, hfz61_2, hfz61_3, hfz61_4, hfz61_5, hfz61_6, hfz61_7, hfz61_8, hfz61_9, hfz61_10, hfz61_11, hfz61_12⟩ := frozen13 BK119.out))
            go_ret
            exact ⟨by first | rfl | (simp [errW_none, errW_some] <;> rfl) | (simp [*, errW_none, errW_some] <;> rfl), by repeat (first | (with_reducible first | exact HB.out | apply below_alloc | apply pw_below_drewN | apply below_drew1 | refine below_set ?_ GE119.out) | exact HB.out)⟩
          ·replace c48 := Bool.eq_false_iff.mpr c48
           subst c48
           have H1 : (some false) = some r := by rw [if_neg (show ¬ (false = true) by decide)] at H; exact H
           clear H
           have H := H1
           clear H1
           obtain rfl := Option.some.inj H
           have hcz62_0 : wc.cell? ⟨gb119, 0, none⟩ = some (.string e0) := (blk_cell BK119.out 0).trans rfl
           have hcz62_1 : wc.cell? ⟨gb119, 1, none⟩ = some (.string e1) := (blk_cell BK119.out 1).trans rfl
           have hcz62_2 : wc.cell? ⟨gb119, 2, none⟩ = some (.string e2) := (blk_cell BK119.out 2).trans rfl
           have hcz62_3 : wc.cell? ⟨gb119, 3, none⟩ = some (.int .i64 e3) := (blk_cell BK119.out 3).trans rfl
           have hcz62_4 : wc.cell? ⟨gb119, 4, none⟩ = some (.int .i64 e4) := (blk_cell BK119.out 4).trans rfl
           have hcz62_5 : wc.cell? ⟨gb119, 5, none⟩ = some (.int .i64 e5) := (blk_cell BK119.out 5).trans rfl
           have hcz62_6 : wc.cell? ⟨gb119, 6, none⟩ = some (.int .i64 e6) := (blk_cell BK119.out 6).trans rfl
           have hcz62_7 : wc.cell? ⟨gb119, 7, none⟩ = some (.int .i64 e7) := (blk_cell BK119.out 7).trans rfl
           have hcz62_8 : wc.cell? ⟨gb119, 8, none⟩ = some (.int .i64 e8) := (blk_cell BK119.out 8).trans rfl
           have hcz62_9 : wc.cell? ⟨gb119, 9, none⟩ = some (.string e9) := (blk_cell BK119.out 9).trans rfl
           have hcz62_10 : wc.cell? ⟨gb119, 10, none⟩ = some (.string e10) := (blk_cell BK119.out 10).trans rfl
           have hcz62_11 : wc.cell? ⟨gb119, 11, none⟩ = some (.int .i64 e11) := (blk_cell BK119.out 11).trans rfl
           have hcz62_12 : wc.cell? ⟨gb119, 12, none⟩ = some (.int .i64 e12) := (blk_cell BK119.out 12).trans rfl
           have hfz62_0 := blk_frozen BK119.out 0
           have hfz62_1 := blk_frozen BK119.out 1
           have hfz62_2 := blk_frozen BK119.out 2
           have hfz62_3 := blk_frozen BK119.out 3
           have hfz62_4 := blk_frozen BK119.out 4
           have hfz62_5 := blk_frozen BK119.out 5
           have hfz62_6 := blk_frozen BK119.out 6
           have hfz62_7 := blk_frozen BK119.out 7
           have hfz62_8 := blk_frozen BK119.out 8
           have hfz62_9 := blk_frozen BK119.out 9
           have hfz62_10 := blk_frozen BK119.out 10
           have hfz62_11 := blk_frozen BK119.out 11
           have hfz62_12 := blk_frozen BK119.out 12
           go_wp2_with (first | ((with_reducible refine gate_dst (N := 79) rfl ?_); refine Kd.R_lit k24 _ 24 ?hg (N := 79) ?hd (xs := ([(⟨e9, e10, e11, e12⟩ : S24)] : List (S24))) (inner := [.string e9, .string e10, .int .i64 e11, .int .i64 e12]) (ok := fun _ => True) (okp := fun _ => True) ?hr ?hp (fun _ hk => hk) trivial (Below.refl _ _) (Nat.le_refl _) (by simp) ?_; (case hd => rfl); (case hg => rfl); (case hr => go_simp; try rfl); (case hp => exact (Reps.c4 (show Kd.M k24 _ _ _ (⟨e9, e10, e11, e12⟩ : S24) [.string e9, .string e10, .int .i64 e11, .int .i64 e12] from (k24_mkM _ _ _ (⟨e9, e10, e11, e12⟩ : S24) )) (Reps.none _ _))); intro v122 w63 ho64 hb hg_ hnew_; clear hg_ hnew_; (first | rw [← Ny121.out] at ho64 | (simp only [Int.reduceToNat] at ho64; rw [← Ny121.out] at ho64)); have n0_ := Aside0.mk (Kd.R_lower ho64 (below_size (by repeat (first | (with_reducible first | exact HB.out | apply below_alloc | apply pw_below_drewN | apply below_drew1 | refine below_set ?_ GE119.out) | exact HB.out)))); have n1_ := Aside0.mk (blk_below (g := gb119) (by (with_reducible repeat (first | refine blk_drewN ?_ _ | refine blk_drew ?_ | refine blk_alloc ?_ _)); exact BK119.out) hb); have n2_ := Aside0.mk (below_step (by repeat (first | (with_reducible first | exact HB.out | apply below_alloc | apply pw_below_drewN | apply below_drew1 | refine below_set ?_ GE119.out) | exact HB.out)) hb); clear BK119; clear HB; have HO123 := n0_; have BK119 := n1_; have HB := n2_; clear n0_ n1_ n2_; clear hb ho64; obtain ⟨Ao65, co65, eo65⟩ := Kd.R_slice HO123.out; subst eo65) | ((with_reducible refine gate_callee (f := 21) rfl ?_); refine goesL_ (some 80) rfl rfl Try.func21 (by kernel_rfl) rfl #[.slice Ao65 y121.length co65] rfl (by (try simp only [List.map_toArray, List.map_cons, List.map_nil]); first | done | rfl | (simp only [List.length_drop, List.length_take]; rfl)) ?_; (with_reducible refine (parcel_Valid.calls kj24 _ _ y121 false _ ?side1 ?side2 A47.out).mono ?_); (case side1 => repeat (first | exact (Kd.R_reads' HO123.out).2.2 | (with_reducible refine Kd.C_alloc ?_ _) | (with_reducible refine Kd.C_drewN ?_ _) | (with_reducible refine Kd.C_drew ?_))); (case side2 => exact (Kd.R_reads' HO123.out).2.1); rintro e w66 ⟨rfl, hb⟩; refine ⟨_, rfl, ?_⟩; have n0_ := Aside0.mk (Kd.R_below (by (with_reducible repeat (first | apply Kd.R_alloc | apply Kd.R_drewN | apply Kd.R_drew)); exact HO123.out) hb); have n1_ := Aside0.mk (blk_below (g := gb119) (by (with_reducible repeat (first | refine blk_drewN ?_ _ | refine blk_drew ?_ | refine blk_alloc ?_ _)); exact BK119.out) hb); have n2_ := Aside0.mk (below_step (by repeat (first | (with_reducible first | exact HB.out | apply below_alloc | apply pw_below_drewN | apply below_drew1 | refine below_set ?_ GE119.out) | exact HB.out)) hb); clear HO123; clear BK119; clear HB; have HO123 := n0_; have BK119 := n1_; have HB := n2_; clear n0_ n1_ n2_; (try clear hb); (try clear hb2); (try clear hk); (try clear hi)))
           go_ret
           exact ⟨by first | rfl | (simp [errW_none, errW_some] <;> rfl) | (simp [*, errW_none, errW_some] <;> rfl), by repeat (first | (with_reducible first | exact HB.out | apply below_alloc | apply pw_below_drewN | apply below_drew1 | refine below_set ?_ GE119.out) | exact HB.out)⟩
         ·replace c46 := Bool.eq_false_iff.mpr c46
          subst c46
          have H1 : (some (e9.toList == ([] : List UInt8) && (e10.toList == ([] : List UInt8) && (e11 == 0 && (e12 == 0))))) = some r := by rw [if_neg (show ¬ (false = true) by decide)] at H; exact H
          clear H
          have H := H1
          clear H1
          obtain rfl := Option.some.inj H
          have hcz67_0 : wc.cell? ⟨gb119, 0, none⟩ = some (.string e0) := (blk_cell BK119.out 0).trans rfl
          have hcz67_1 : wc.cell? ⟨gb119, 1, none⟩ = some (.string e1) := (blk_cell BK119.out 1).trans rfl
          have hcz67_2 : wc.cell? ⟨gb119, 2, none⟩ = some (.string e2) := (blk_cell BK119.out 2).trans rfl
          have hcz67_3 : wc.cell? ⟨gb119, 3, none⟩ = some (.int .i64 e3) := (blk_cell BK119.out 3).trans rfl
          have hcz67_4 : wc.cell? ⟨gb119, 4, none⟩ = some (.int .i64 e4) := (blk_cell BK119.out 4).trans rfl
          have hcz67_5 : wc.cell? ⟨gb119, 5, none⟩ = some (.int .i64 e5) := (blk_cell BK119.out 5).trans rfl
          have hcz67_6 : wc.cell? ⟨gb119, 6, none⟩ = some (.int .i64 e6) := (blk_cell BK119.out 6).trans rfl
          have hcz67_7 : wc.cell? ⟨gb119, 7, none⟩ = some (.int .i64 e7) := (blk_cell BK119.out 7).trans rfl
          have hcz67_8 : wc.cell? ⟨gb119, 8, none⟩ = some (.int .i64 e8) := (blk_cell BK119.out 8).trans rfl
          have hcz67_9 : wc.cell? ⟨gb119, 9, none⟩ = some (.string e9) := (blk_cell BK119.out 9).trans rfl
          have hcz67_10 : wc.cell? ⟨gb119, 10, none⟩ = some (.string e10) := (blk_cell BK119.out 10).trans rfl
          have hcz67_11 : wc.cell? ⟨gb119, 11, none⟩ = some (.int .i64 e11) := (blk_cell BK119.out 11).trans rfl
          have hcz67_12 : wc.cell? ⟨gb119, 12, none⟩ = some (.int .i64 e12) := (blk_cell BK119.out 12).trans rfl
          have hfz67_0 := blk_frozen BK119.out 0
          have hfz67_1 := blk_frozen BK119.out 1
          have hfz67_2 := blk_frozen BK119.out 2
          have hfz67_3 := blk_frozen BK119.out 3
          have hfz67_4 := blk_frozen BK119.out 4
          have hfz67_5 := blk_frozen BK119.out 5
          have hfz67_6 := blk_frozen BK119.out 6
          have hfz67_7 := blk_frozen BK119.out 7
          have hfz67_8 := blk_frozen BK119.out 8
          have hfz67_9 := blk_frozen BK119.out 9
          have hfz67_10 := blk_frozen BK119.out 10
          have hfz67_11 := blk_frozen BK119.out 11
          have hfz67_12 := blk_frozen BK119.out 12
          go_wp2
          go_ret
          exact ⟨by first | rfl | (simp [errW_none, errW_some] <;> rfl) | (simp [*, errW_none, errW_some] <;> rfl), by repeat (first | (with_reducible first | exact HB.out | apply below_alloc | apply pw_below_drewN | apply below_drew1 | refine below_set ?_ GE119.out) | exact HB.out)⟩

end Go.Proofs.Ytndbchcfjajgbaa.XP
