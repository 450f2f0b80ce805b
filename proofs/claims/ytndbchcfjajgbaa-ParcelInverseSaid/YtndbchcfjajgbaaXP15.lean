-- printed by xprint.py
import Derived.Test.YtndbchcfjajgbaaXP0
import Derived.Test.YtndbchcfjajgbaaXP9
import Derived.Test.YtndbchcfjajgbaaXP10
import Derived.Test.YtndbchcfjajgbaaXP12
import Derived.Test.YtndbchcfjajgbaaXP14
import Derived.Test.YtndbchcfjajgbaaHandDoF
namespace Go.Proofs.Ytndbchcfjajgbaa.XP
open Go.Proofs.Ytndbchcfjajgbaa.XW
open Go.RowKit Go.Proofs.YtndbchcfjajgbaaW.PrintWords Go.Proofs.YtndbchcfjajgbaaW.PrintLast Go.Proofs.YtndbchcfjajgbaaW.PrintMore
attribute [local go_sem] max2_int min2_int max_two min_two max_three min_three max_four min_four   -- for this text's walks alone
set_option linter.unusedVariables false
set_option linter.unusedSimpArgs false

/-! ### culetlaw53_ParcelInverse: function 6 -/
def culetlaw53_ParcelInverse.j0 : Nat → List (S24) → Bool → Int → ByteArray → ByteArray → Int → Int → ByteArray → ByteArray → Int → Int → Option (Bool)
  | 0, _, _, _, _, _, _, _, _, _, _, _ => none
  | k + 1, x0, x26, x200000, x200001, x200002, x200003, x200004, x200005, x200006, x200007, x200008 => if x26 = true then ((culetlaw53_awake.f k).bind fun t206 => (some t206)) else ((parcel_Do.f x0 x200000 x200001 x200002 x200003 x200004 x200005 x200006 x200007 x200008).bind fun bt207 => (if bt207.2 = 0 then ((parcel_Do.f bt207.1 4 (⟨#[]⟩ : ByteArray) (⟨#[]⟩ : ByteArray) 0 0 x200006 x200005 0 0).bind fun bt211 => (if bt211.2 = 0 then ((culetref53_Same.f k bt211.1 x0).bind fun t215 => (some t215)) else (some false))) else (some true)))
def culetlaw53_ParcelInverse.f (k : Nat) (l0 : List (S24)) (a1_0 : Int) (a1_1 : ByteArray) (a1_2 : ByteArray) (a1_3 : Int) (a1_4 : Int) (a1_5 : ByteArray) (a1_6 : ByteArray) (a1_7 : Int) (a1_8 : Int) : Option (Bool) := (culetlaw53_awake.f k).bind fun t200 => (if t200 = true then ((culetref53_Few.f k l0).bind fun t201 => (if t201 = true then ((culetref53_FewEntries.f k (([(⟨a1_0, (⟨a1_1, a1_2, a1_3, a1_4⟩ : S24), a1_5, a1_6, a1_7, a1_8⟩ : S26)] : List (S26)))).bind fun t205 => (if t205 = true then (culetlaw53_ParcelInverse.j0 k l0 (a1_0 != 3) a1_0 a1_1 a1_2 a1_3 a1_4 a1_5 a1_6 a1_7 a1_8) else (culetlaw53_ParcelInverse.j0 k l0 true a1_0 a1_1 a1_2 a1_3 a1_4 a1_5 a1_6 a1_7 a1_8))) else (culetlaw53_ParcelInverse.j0 k l0 true a1_0 a1_1 a1_2 a1_3 a1_4 a1_5 a1_6 a1_7 a1_8))) else (culetlaw53_ParcelInverse.j0 k l0 true a1_0 a1_1 a1_2 a1_3 a1_4 a1_5 a1_6 a1_7 a1_8))
theorem culetlaw53_ParcelInverse.mono_l : ∀ k, (∀ y0 y1 y2 y3 y4 y5 y6 y7 y8 y9 y10, LeO (culetlaw53_ParcelInverse.j0 k y0 y1 y2 y3 y4 y5 y6 y7 y8 y9 y10) (culetlaw53_ParcelInverse.j0 (k + 1) y0 y1 y2 y3 y4 y5 y6 y7 y8 y9 y10))
  | 0 => fun _ _ _ _ _ _ _ _ _ _ _ r h => by simp [culetlaw53_ParcelInverse.j0] at h
  | k + 1 => by
    have ih0 := culetlaw53_ParcelInverse.mono_l k
    · intro y0 y1 y2 y3 y4 y5 y6 y7 y8 y9 y10
      unfold culetlaw53_ParcelInverse.j0
      repeat' first
      | (with_reducible exact ih0 _ _ _ _ _ _ _ _ _ _ _)
      | (with_reducible exact culetlaw53_awake.mono _)
      | (with_reducible exact culetref53_Few.mono _ _)
      | (with_reducible exact culetref53_FewEntries.mono _ _)
      | (with_reducible exact culetref53_Same.mono _ _ _)
      | (with_reducible exact LeO.refl _)
      | (with_reducible exact LeO.none _)
      | (with_reducible refine LeO.ite ?_ ?_)
      | (with_reducible refine LeO.bind ?_ (fun _ => ?_))
      | exact ih0 _ _ _ _ _ _ _ _ _ _ _
      | exact culetlaw53_awake.mono _
      | exact culetref53_Few.mono _ _
      | exact culetref53_FewEntries.mono _ _
      | exact culetref53_Same.mono _ _ _
      | exact LeO.none _
      | refine LeO.ite ?_ ?_
      | refine LeO.bind ?_ (fun _ => ?_)
theorem culetlaw53_ParcelInverse.mono : ∀ a0 a1 a2 a3 a4 a5 a6 a7 a8 a9 k, LeO (culetlaw53_ParcelInverse.f k a0 a1 a2 a3 a4 a5 a6 a7 a8 a9) (culetlaw53_ParcelInverse.f (k + 1) a0 a1 a2 a3 a4 a5 a6 a7 a8 a9) := by
  intro a0 a1 a2 a3 a4 a5 a6 a7 a8 a9 k
  have ih0 := culetlaw53_ParcelInverse.mono_l k
  unfold culetlaw53_ParcelInverse.f
  repeat' first
      | (with_reducible exact ih0 _ _ _ _ _ _ _ _ _ _ _)
      | (with_reducible exact culetlaw53_awake.mono _)
      | (with_reducible exact culetref53_Few.mono _ _)
      | (with_reducible exact culetref53_FewEntries.mono _ _)
      | (with_reducible exact culetref53_Same.mono _ _ _)
      | (with_reducible exact LeO.refl _)
      | (with_reducible exact LeO.none _)
      | (with_reducible refine LeO.ite ?_ ?_)
      | (with_reducible refine LeO.bind ?_ (fun _ => ?_))
      | exact ih0 _ _ _ _ _ _ _ _ _ _ _
      | exact culetlaw53_awake.mono _
      | exact culetref53_Few.mono _ _
      | exact culetref53_FewEntries.mono _ _
      | exact culetref53_Same.mono _ _ _
      | exact LeO.none _
      | refine LeO.ite ?_ ?_
      | refine LeO.bind ?_ (fun _ => ?_)
set_option maxHeartbeats 8000000 in
set_option maxRecDepth 100000 in
theorem culetlaw53_ParcelInverse.calls (k : Nat) (A0 : Option Addr) (c0 : Nat) (l0 : List (S24)) (a1_0 : Int) (a1_1 : ByteArray) (a1_2 : ByteArray) (a1_3 : Int) (a1_4 : Int) (a1_5 : ByteArray) (a1_6 : ByteArray) (a1_7 : Int) (a1_8 : Int) (r : Bool) (w : World) (hr0 : Kd.C k24 w A0 l0.length l0) (hc0 : l0.length ≤ c0) (h : culetlaw53_ParcelInverse.f k l0 a1_0 a1_1 a1_2 a1_3 a1_4 a1_5 a1_6 a1_7 a1_8 = some r) :
    Calls Try.prog 6 #[.slice A0 l0.length c0, .agg #[.int .i64 a1_0, .string a1_1, .string a1_2, .int .i64 a1_3, .int .i64 a1_4, .string a1_5, .string a1_6, .int .i64 a1_7, .int .i64 a1_8]] w fun e w' => e = .returned (.bool r) ∧ Below w.heap.size w w' := by
  have hu26 := Try.underlying26
  have hu34 := Try.underlying34
  have HR0 := Aside0.mk hr0
  have HC0 := Aside0.mk hc0
  clear hr0 hc0
  have HB := Aside0.mk (Below.refl w.heap.size w)
  have H : ((culetlaw53_awake.f k).bind fun t200 => (if t200 = true then ((culetref53_Few.f k l0).bind fun t201 => (if t201 = true then ((culetref53_FewEntries.f k (([(⟨a1_0, (⟨a1_1, a1_2, a1_3, a1_4⟩ : S24), a1_5, a1_6, a1_7, a1_8⟩ : S26)] : List (S26)))).bind fun t205 => (if t205 = true then (culetlaw53_ParcelInverse.j0 k l0 (a1_0 != 3) a1_0 a1_1 a1_2 a1_3 a1_4 a1_5 a1_6 a1_7 a1_8) else (culetlaw53_ParcelInverse.j0 k l0 true a1_0 a1_1 a1_2 a1_3 a1_4 a1_5 a1_6 a1_7 a1_8))) else (culetlaw53_ParcelInverse.j0 k l0 true a1_0 a1_1 a1_2 a1_3 a1_4 a1_5 a1_6 a1_7 a1_8))) else (culetlaw53_ParcelInverse.j0 k l0 true a1_0 a1_1 a1_2 a1_3 a1_4 a1_5 a1_6 a1_7 a1_8))) = some r := h
  clear h
  have HC3 := Aside0.mk H
  clear H
  go_enter Try.func6, Try.ntmps6
  go_upto_region 1 with (first | ((with_reducible refine gate_dst (N := 3) rfl ?_); (try (refine gate_guard (by rfl) ?_; dsimp only)); refine box_event ?hg (N := 3) ?hd (cs := #[.int .i64 a1_0, .string a1_1, .string a1_2, .int .i64 a1_3, .int .i64 a1_4, .string a1_5, .string a1_6, .int .i64 a1_7, .int .i64 a1_8]) (t := 26) ?hr ?_; (case hd => rfl); (case hg => rfl); (case hr => first | (go_simp; done) | (go_simp; rfl)); intro gb199 hg w4 hbox hb; have n0_ := Aside0.mk (below_step (by repeat (first | (with_reducible first | exact HB.out | apply below_alloc | apply pw_below_drewN | apply below_drew1) | exact HB.out)) hb); have n1_ := Aside0.mk (hbox); have n2_ := Aside0.mk ((by rw [hg]; exact (below_size (by repeat (first | (with_reducible first | exact HB.out | apply below_alloc | apply pw_below_drewN | apply below_drew1) | exact HB.out))) : w.heap.size ≤ gb199)); have n3_ := Aside0.mk ((by rw [hg]; exact (below_size (by repeat (first | (with_reducible first | exact HB.out | apply below_alloc | apply pw_below_drewN | apply below_drew1) | exact HB.out))) : w.heap.size ≤ gb199)); clear HB; have HB := n0_; have BK199 := n1_; have GW199 := n2_; have GE199 := n3_; clear n0_ n1_ n2_ n3_; clear hb hbox hg))
  (try simp only [Act.put, List.setIfInBounds_toArray, List.set_cons_zero, List.set_cons_succ])
  go_cut [26] (fun v26 wc => ∃ (kq : Nat) (x26_2 : Bool), v26 = .bool x26_2 ∧ Aside0 (culetlaw53_ParcelInverse.j0 kq l0 x26_2 a1_0 a1_1 a1_2 a1_3 a1_4 a1_5 a1_6 a1_7 a1_8 = some r) ∧ Aside0 (kq ≤ k) ∧ Aside0 (wc.heap[gb199]? = some (.cells #[.int .i64 a1_0, .string a1_1, .string a1_2, .int .i64 a1_3, .int .i64 a1_4, .string a1_5, .string a1_6, .int .i64 a1_7, .int .i64 a1_8] 26 (0, 0))) ∧ Aside0 (Below w.heap.size w wc))
  case first =>
    have H := HC3.out
    clear HC3
    replace H := Option.bind_eq_some_iff.mp H
    obtain ⟨t200, A50, H⟩ := H
    replace H : (if t200 = true then ((culetref53_Few.f k l0).bind fun t201 => (if t201 = true then ((culetref53_FewEntries.f k (([(⟨a1_0, (⟨a1_1, a1_2, a1_3, a1_4⟩ : S24), a1_5, a1_6, a1_7, a1_8⟩ : S26)] : List (S26)))).bind fun t205 => (if t205 = true then (culetlaw53_ParcelInverse.j0 k l0 (a1_0 != 3) a1_0 a1_1 a1_2 a1_3 a1_4 a1_5 a1_6 a1_7 a1_8) else (culetlaw53_ParcelInverse.j0 k l0 true a1_0 a1_1 a1_2 a1_3 a1_4 a1_5 a1_6 a1_7 a1_8))) else (culetlaw53_ParcelInverse.j0 k l0 true a1_0 a1_1 a1_2 a1_3 a1_4 a1_5 a1_6 a1_7 a1_8))) else (culetlaw53_ParcelInverse.j0 k l0 true a1_0 a1_1 a1_2 a1_3 a1_4 a1_5 a1_6 a1_7 a1_8)) = some r := H
    have A5 := Aside0.mk A50
    clear A50
    by_cases c6 : t200 = true
    · subst c6
      have H1 : ((culetref53_Few.f k l0).bind fun t201 => (if t201 = true then ((culetref53_FewEntries.f k (([(⟨a1_0, (⟨a1_1, a1_2, a1_3, a1_4⟩ : S24), a1_5, a1_6, a1_7, a1_8⟩ : S26)] : List (S26)))).bind fun t205 => (if t205 = true then (culetlaw53_ParcelInverse.j0 k l0 (a1_0 != 3) a1_0 a1_1 a1_2 a1_3 a1_4 a1_5 a1_6 a1_7 a1_8) else (culetlaw53_ParcelInverse.j0 k l0 true a1_0 a1_1 a1_2 a1_3 a1_4 a1_5 a1_6 a1_7 a1_8))) else (culetlaw53_ParcelInverse.j0 k l0 true a1_0 a1_1 a1_2 a1_3 a1_4 a1_5 a1_6 a1_7 a1_8))) = some r := by rw [if_pos rfl] at H; exact H
      clear H
      have H := H1
      clear H1
      replace H := Option.bind_eq_some_iff.mp H
      obtain ⟨t201, A70, H⟩ := H
      replace H : (if t201 = true then ((culetref53_FewEntries.f k (([(⟨a1_0, (⟨a1_1, a1_2, a1_3, a1_4⟩ : S24), a1_5, a1_6, a1_7, a1_8⟩ : S26)] : List (S26)))).bind fun t205 => (if t205 = true then (culetlaw53_ParcelInverse.j0 k l0 (a1_0 != 3) a1_0 a1_1 a1_2 a1_3 a1_4 a1_5 a1_6 a1_7 a1_8) else (culetlaw53_ParcelInverse.j0 k l0 true a1_0 a1_1 a1_2 a1_3 a1_4 a1_5 a1_6 a1_7 a1_8))) else (culetlaw53_ParcelInverse.j0 k l0 true a1_0 a1_1 a1_2 a1_3 a1_4 a1_5 a1_6 a1_7 a1_8)) = some r := H
      have A7 := Aside0.mk A70
      clear A70
      by_cases c8 : t201 = true
      · subst c8
        have H1 : ((culetref53_FewEntries.f k (([(⟨a1_0, (⟨a1_1, a1_2, a1_3, a1_4⟩ : S24), a1_5, a1_6, a1_7, a1_8⟩ : S26)] : List (S26)))).bind fun t205 => (if t205 = true then (culetlaw53_ParcelInverse.j0 k l0 (a1_0 != 3) a1_0 a1_1 a1_2 a1_3 a1_4 a1_5 a1_6 a1_7 a1_8) else (culetlaw53_ParcelInverse.j0 k l0 true a1_0 a1_1 a1_2 a1_3 a1_4 a1_5 a1_6 a1_7 a1_8))) = some r := by rw [if_pos rfl] at H; exact H
        clear H
        have H := H1
        clear H1
        obtain ⟨y202, hy202⟩ : ∃ y_ : List (S26), y_ = (([(⟨a1_0, (⟨a1_1, a1_2, a1_3, a1_4⟩ : S24), a1_5, a1_6, a1_7, a1_8⟩ : S26)] : List (S26))) := ⟨_, rfl⟩
        replace H : ((culetref53_FewEntries.f k y202).bind fun t205 => (if t205 = true then (culetlaw53_ParcelInverse.j0 k l0 (a1_0 != 3) a1_0 a1_1 a1_2 a1_3 a1_4 a1_5 a1_6 a1_7 a1_8) else (culetlaw53_ParcelInverse.j0 k l0 true a1_0 a1_1 a1_2 a1_3 a1_4 a1_5 a1_6 a1_7 a1_8))) = some r := by first | (rw [hy202]; with_reducible exact H) | (have H2_ := (Option.bind_some _ _).symm.trans H; rw [hy202]; with_reducible exact H2_) | (have H2_ := (Option.bind_some _ _).symm.trans H; with_reducible exact H2_) | with_reducible exact H | (rw [hy202]; exact H) | exact H
        have Ny202 := Aside0.mk hy202
        clear hy202
        replace H := Option.bind_eq_some_iff.mp H
        obtain ⟨t205, A90, H⟩ := H
        replace H : (if t205 = true then (culetlaw53_ParcelInverse.j0 k l0 (a1_0 != 3) a1_0 a1_1 a1_2 a1_3 a1_4 a1_5 a1_6 a1_7 a1_8) else (culetlaw53_ParcelInverse.j0 k l0 true a1_0 a1_1 a1_2 a1_3 a1_4 a1_5 a1_6 a1_7 a1_8)) = some r := H
        have A9 := Aside0.mk A90
        clear A90
        by_cases c10 : t205 = true
        · subst c10
          have H1 : (culetlaw53_ParcelInverse.j0 k l0 (a1_0 != 3) a1_0 a1_1 a1_2 a1_3 a1_4 a1_5 a1_6 a1_7 a1_8) = some r := by rw [if_pos rfl] at H; exact H
          clear H
          have H := H1
          clear H1
          have H' := Aside0.mk H
          clear H
          go_wp2_with (first | ((with_reducible refine gate_callee (f := 15) rfl ?_); refine goesL_ (some 9) rfl rfl Try.func15 (by kernel_rfl) rfl #[] rfl (by (try simp only [List.map_toArray, List.map_cons, List.map_nil]); first | done | rfl | (simp only [List.length_drop, List.length_take]; rfl)) ?_; (with_reducible refine (culetlaw53_awake.calls k  true _ A5.out).mono ?_); rintro e w11 ⟨rfl, hb⟩; refine ⟨_, rfl, ?_⟩; have n0_ := Aside0.mk (blk_below (g := gb199) (o := .cells #[.int .i64 a1_0, .string a1_1, .string a1_2, .int .i64 a1_3, .int .i64 a1_4, .string a1_5, .string a1_6, .int .i64 a1_7, .int .i64 a1_8] 26 (0, 0)) (by (with_reducible repeat (first | refine blk_drewN ?_ _ | refine blk_drew ?_ | refine blk_alloc ?_ _)); exact BK199.out) hb); have n1_ := Aside0.mk (below_step (by repeat (first | (with_reducible first | exact HB.out | apply below_alloc | apply pw_below_drewN | apply below_drew1 | refine below_set ?_ GE199.out) | exact HB.out)) hb); clear BK199; clear HB; have BK199 := n0_; have HB := n1_; clear n0_ n1_; (try clear hb); (try clear hb2); (try clear hk); (try clear hi)) | (go_at_call 16; (with_reducible refine (culetref53_Few.calls k _ _ l0 true _ ?side1 ?side2 A7.out).mono ?_); (case side1 => repeat (first | exact (Kd.C_below HR0.out HB.out) | (with_reducible refine Kd.C_alloc ?_ _) | (with_reducible refine Kd.C_drewN ?_ _) | (with_reducible refine Kd.C_drew ?_))); (case side2 => exact HC0.out); rintro e w' ⟨rfl, ⟨nd, rfl⟩⟩; have hcz12_0 : w11.cell? ⟨gb199, 0, none⟩ = some (.int .i64 a1_0) := (blk_cell BK199.out 0).trans rfl; have hcz12_1 : w11.cell? ⟨gb199, 1, none⟩ = some (.string a1_1) := (blk_cell BK199.out 1).trans rfl; have hcz12_2 : w11.cell? ⟨gb199, 2, none⟩ = some (.string a1_2) := (blk_cell BK199.out 2).trans rfl; have hcz12_3 : w11.cell? ⟨gb199, 3, none⟩ = some (.int .i64 a1_3) := (blk_cell BK199.out 3).trans rfl; have hcz12_4 : w11.cell? ⟨gb199, 4, none⟩ = some (.int .i64 a1_4) := (blk_cell BK199.out 4).trans rfl; have hcz12_5 : w11.cell? ⟨gb199, 5, none⟩ = some (.string a1_5) := (blk_cell BK199.out 5).trans rfl; have hcz12_6 : w11.cell? ⟨gb199, 6, none⟩ = some (.string a1_6) := (blk_cell BK199.out 6).trans rfl; have hcz12_7 : w11.cell? ⟨gb199, 7, none⟩ = some (.int .i64 a1_7) := (blk_cell BK199.out 7).trans rfl; have hcz12_8 : w11.cell? ⟨gb199, 8, none⟩ = some (.int .i64 a1_8) := (blk_cell BK199.out 8).trans rfl; have hfz12_0 := blk_frozen BK199.out 0; have hfz12_1 := blk_frozen BK199.out 1; have hfz12_2 := blk_frozen BK199.out 2; have hfz12_3 := blk_frozen BK199.out 3; have hfz12_4 := blk_frozen BK199.out 4; have hfz12_5 := blk_frozen BK199.out 5; have hfz12_6 := blk_frozen BK199.out 6; have hfz12_7 := blk_frozen BK199.out 7; have hfz12_8 := blk_frozen BK199.out 8) | ((with_reducible refine gate_dst (N := 18) rfl ?_); (try (refine gate_guard (by rfl) ?_; dsimp only)); refine Kd.R_lit k26 _ 26 ?hg (N := 18) ?hd (xs := ([(⟨a1_0, (⟨a1_1, a1_2, a1_3, a1_4⟩ : S24), a1_5, a1_6, a1_7, a1_8⟩ : S26)] : List (S26))) (inner := [.int .i64 a1_0, .string a1_1, .string a1_2, .int .i64 a1_3, .int .i64 a1_4, .string a1_5, .string a1_6, .int .i64 a1_7, .int .i64 a1_8]) (ok := fun _ => True) (okp := fun _ => True) ?hr ?hp (fun _ hk => hk) trivial (Below.refl _ _) (Nat.le_refl _) (by simp) ?_; (case hd => rfl); (case hg => rfl); (case hr => first | (go_simp; done) | (go_simp; rfl)); (case hp => exact (Reps.c9 (show Kd.M k26 _ _ _ (⟨a1_0, (⟨a1_1, a1_2, a1_3, a1_4⟩ : S24), a1_5, a1_6, a1_7, a1_8⟩ : S26) [.int .i64 a1_0, .string a1_1, .string a1_2, .int .i64 a1_3, .int .i64 a1_4, .string a1_5, .string a1_6, .int .i64 a1_7, .int .i64 a1_8] from (k26_mkM _ _ _ (⟨a1_0, (⟨a1_1, a1_2, a1_3, a1_4⟩ : S24), a1_5, a1_6, a1_7, a1_8⟩ : S26) )) (Reps.none _ _))); intro v203 w13 ho14 hb hg_ hnew_; clear hg_ hnew_; (first | rw [← Ny202.out] at ho14 | (simp only [Int.reduceToNat] at ho14; rw [← Ny202.out] at ho14)); have n0_ := Aside0.mk (Kd.R_lower (Kd.R_newB ho14 (g := gb199) (o := .cells #[.int .i64 a1_0, .string a1_1, .string a1_2, .int .i64 a1_3, .int .i64 a1_4, .string a1_5, .string a1_6, .int .i64 a1_7, .int .i64 a1_8] 26 (0, 0)) (by (with_reducible repeat (first | refine blk_drewN ?_ _ | refine blk_drew ?_ | refine blk_alloc ?_ _)); exact BK199.out)) (below_size (by repeat (first | (with_reducible first | exact HB.out | apply below_alloc | apply pw_below_drewN | apply below_drew1 | refine below_set ?_ GE199.out) | exact HB.out)))); have n1_ := Aside0.mk (blk_below (g := gb199) (o := .cells #[.int .i64 a1_0, .string a1_1, .string a1_2, .int .i64 a1_3, .int .i64 a1_4, .string a1_5, .string a1_6, .int .i64 a1_7, .int .i64 a1_8] 26 (0, 0)) (by (with_reducible repeat (first | refine blk_drewN ?_ _ | refine blk_drew ?_ | refine blk_alloc ?_ _)); exact BK199.out) hb); have n2_ := Aside0.mk (below_step (by repeat (first | (with_reducible first | exact HB.out | apply below_alloc | apply pw_below_drewN | apply below_drew1 | refine below_set ?_ GE199.out) | exact HB.out)) hb); clear BK199; clear HB; have HO204 := n0_; have BK199 := n1_; have HB := n2_; clear n0_ n1_ n2_; clear hb ho14; obtain ⟨Ao15, co15, eo15⟩ := Kd.R_slice HO204.out; subst eo15) | (go_at_call 17; (with_reducible refine (culetref53_FewEntries.calls k _ _ y202 true _ ?side1 ?side2 A9.out).mono ?_); (case side1 => repeat (first | exact (Kd.R_reads' HO204.out).2.2 | (with_reducible refine Kd.C_alloc ?_ _) | (with_reducible refine Kd.C_drewN ?_ _) | (with_reducible refine Kd.C_drew ?_))); (case side2 => exact (Kd.R_reads' HO204.out).2.1); rintro e w16 ⟨rfl, hb⟩; have n0_ := Aside0.mk (Kd.R_below (by (with_reducible repeat (first | apply Kd.R_alloc | apply Kd.R_drewN | apply Kd.R_drew)); exact HO204.out) hb); have n1_ := Aside0.mk (blk_below (g := gb199) (o := .cells #[.int .i64 a1_0, .string a1_1, .string a1_2, .int .i64 a1_3, .int .i64 a1_4, .string a1_5, .string a1_6, .int .i64 a1_7, .int .i64 a1_8] 26 (0, 0)) (by (with_reducible repeat (first | refine blk_drewN ?_ _ | refine blk_drew ?_ | refine blk_alloc ?_ _)); exact BK199.out) hb); have n2_ := Aside0.mk (below_step (by repeat (first | (with_reducible first | exact HB.out | apply below_alloc | apply pw_below_drewN | apply below_drew1 | refine below_set ?_ GE199.out) | exact HB.out)) hb); clear HO204; clear BK199; clear HB; have HO204 := n0_; have BK199 := n1_; have HB := n2_; clear n0_ n1_ n2_; (try clear hb); (try clear hb2); (try clear hk); (try clear hi); have hcz17_0 : w16.cell? ⟨gb199, 0, none⟩ = some (.int .i64 a1_0) := (blk_cell BK199.out 0).trans rfl; have hcz17_1 : w16.cell? ⟨gb199, 1, none⟩ = some (.string a1_1) := (blk_cell BK199.out 1).trans rfl; have hcz17_2 : w16.cell? ⟨gb199, 2, none⟩ = some (.string a1_2) := (blk_cell BK199.out 2).trans rfl; have hcz17_3 : w16.cell? ⟨gb199, 3, none⟩ = some (.int .i64 a1_3) := (blk_cell BK199.out 3).trans rfl; have hcz17_4 : w16.cell? ⟨gb199, 4, none⟩ = some (.int .i64 a1_4) := (blk_cell BK199.out 4).trans rfl; have hcz17_5 : w16.cell? ⟨gb199, 5, none⟩ = some (.string a1_5) := (blk_cell BK199.out 5).trans rfl; have hcz17_6 : w16.cell? ⟨gb199, 6, none⟩ = some (.string a1_6) := (blk_cell BK199.out 6).trans rfl; have hcz17_7 : w16.cell? ⟨gb199, 7, none⟩ = some (.int .i64 a1_7) := (blk_cell BK199.out 7).trans rfl; have hcz17_8 : w16.cell? ⟨gb199, 8, none⟩ = some (.int .i64 a1_8) := (blk_cell BK199.out 8).trans rfl; have hfz17_0 := blk_frozen BK199.out 0; have hfz17_1 := blk_frozen BK199.out 1; have hfz17_2 := blk_frozen BK199.out 2; have hfz17_3 := blk_frozen BK199.out 3; have hfz17_4 := blk_frozen BK199.out 4; have hfz17_5 := blk_frozen BK199.out 5; have hfz17_6 := blk_frozen BK199.out 6; have hfz17_7 := blk_frozen BK199.out 7; have hfz17_8 := blk_frozen BK199.out 8))
          go_meet
          case rel => exact ⟨_, ((a1_0 != 3)), (by first | rfl | (simp; done) | (simp [*]; done)), H', ⟨by first | omega | exact Nat.le_refl _⟩, ⟨by (with_reducible repeat (first | refine blk_drewN ?_ _ | refine blk_drew ?_ | refine blk_alloc ?_ _)); exact BK199.out⟩, ⟨by repeat (first | (with_reducible first | exact HB.out | apply below_alloc | apply pw_below_drewN | apply below_drew1 | refine below_set ?_ GE199.out) | exact HB.out)⟩⟩
        · replace c10 := Bool.eq_false_iff.mpr c10
          subst c10
          have H1 : (culetlaw53_ParcelInverse.j0 k l0 true a1_0 a1_1 a1_2 a1_3 a1_4 a1_5 a1_6 a1_7 a1_8) = some r := by rw [if_neg (show ¬ (false = true) by decide)] at H; exact H
          clear H
          have H := H1
          clear H1
          have H' := Aside0.mk H
          clear H
          go_wp2_with (first | ((with_reducible refine gate_callee (f := 15) rfl ?_); refine goesL_ (some 9) rfl rfl Try.func15 (by kernel_rfl) rfl #[] rfl (by (try simp only [List.map_toArray, List.map_cons, List.map_nil]); first | done | rfl | (simp only [List.length_drop, List.length_take]; rfl)) ?_; (with_reducible refine (culetlaw53_awake.calls k  true _ A5.out).mono ?_); rintro e w18 ⟨rfl, hb⟩; refine ⟨_, rfl, ?_⟩; have n0_ := Aside0.mk (blk_below (g := gb199) (o := .cells #[.int .i64 a1_0, .string a1_1, .string a1_2, .int .i64 a1_3, .int .i64 a1_4, .string a1_5, .string a1_6, .int .i64 a1_7, .int .i64 a1_8] 26 (0, 0)) (by (with_reducible repeat (first | refine blk_drewN ?_ _ | refine blk_drew ?_ | refine blk_alloc ?_ _)); exact BK199.out) hb); have n1_ := Aside0.mk (below_step (by repeat (first | (with_reducible first | exact HB.out | apply below_alloc | apply pw_below_drewN | apply below_drew1 | refine below_set ?_ GE199.out) | exact HB.out)) hb); clear BK199; clear HB; have BK199 := n0_; have HB := n1_; clear n0_ n1_; (try clear hb); (try clear hb2); (try clear hk); (try clear hi)) | (go_at_call 16; (with_reducible refine (culetref53_Few.calls k _ _ l0 true _ ?side1 ?side2 A7.out).mono ?_); (case side1 => repeat (first | exact (Kd.C_below HR0.out HB.out) | (with_reducible refine Kd.C_alloc ?_ _) | (with_reducible refine Kd.C_drewN ?_ _) | (with_reducible refine Kd.C_drew ?_))); (case side2 => exact HC0.out); rintro e w' ⟨rfl, ⟨nd, rfl⟩⟩; have hcz19_0 : w18.cell? ⟨gb199, 0, none⟩ = some (.int .i64 a1_0) := (blk_cell BK199.out 0).trans rfl; have hcz19_1 : w18.cell? ⟨gb199, 1, none⟩ = some (.string a1_1) := (blk_cell BK199.out 1).trans rfl; have hcz19_2 : w18.cell? ⟨gb199, 2, none⟩ = some (.string a1_2) := (blk_cell BK199.out 2).trans rfl; have hcz19_3 : w18.cell? ⟨gb199, 3, none⟩ = some (.int .i64 a1_3) := (blk_cell BK199.out 3).trans rfl; have hcz19_4 : w18.cell? ⟨gb199, 4, none⟩ = some (.int .i64 a1_4) := (blk_cell BK199.out 4).trans rfl; have hcz19_5 : w18.cell? ⟨gb199, 5, none⟩ = some (.string a1_5) := (blk_cell BK199.out 5).trans rfl; have hcz19_6 : w18.cell? ⟨gb199, 6, none⟩ = some (.string a1_6) := (blk_cell BK199.out 6).trans rfl; have hcz19_7 : w18.cell? ⟨gb199, 7, none⟩ = some (.int .i64 a1_7) := (blk_cell BK199.out 7).trans rfl; have hcz19_8 : w18.cell? ⟨gb199, 8, none⟩ = some (.int .i64 a1_8) := (blk_cell BK199.out 8).trans rfl; have hfz19_0 := blk_frozen BK199.out 0; have hfz19_1 := blk_frozen BK199.out 1; have hfz19_2 := blk_frozen BK199.out 2; have hfz19_3 := blk_frozen BK199.out 3; have hfz19_4 := blk_frozen BK199.out 4; have hfz19_5 := blk_frozen BK199.out 5; have hfz19_6 := blk_frozen BK199.out 6; have hfz19_7 := blk_frozen BK199.out 7; have hfz19_8 := blk_frozen BK199.out 8) | ((with_reducible refine gate_dst (N := 18) rfl ?_); (try (refine gate_guard (by rfl) ?_; dsimp only)); refine Kd.R_lit k26 _ 26 ?hg (N := 18) ?hd (xs := ([(⟨a1_0, (⟨a1_1, a1_2, a1_3, a1_4⟩ : S24), a1_5, a1_6, a1_7, a1_8⟩ : S26)] : List (S26))) (inner := [.int .i64 a1_0, .string a1_1, .string a1_2, .int .i64 a1_3, .int .i64 a1_4, .string a1_5, .string a1_6, .int .i64 a1_7, .int .i64 a1_8]) (ok := fun _ => True) (okp := fun _ => True) ?hr ?hp (fun _ hk => hk) trivial (Below.refl _ _) (Nat.le_refl _) (by simp) ?_; (case hd => rfl); (case hg => rfl); (case hr => first | (go_simp; done) | (go_simp; rfl)); (case hp => exact (Reps.c9 (show Kd.M k26 _ _ _ (⟨a1_0, (⟨a1_1, a1_2, a1_3, a1_4⟩ : S24), a1_5, a1_6, a1_7, a1_8⟩ : S26) [.int .i64 a1_0, .string a1_1, .string a1_2, .int .i64 a1_3, .int .i64 a1_4, .string a1_5, .string a1_6, .int .i64 a1_7, .int .i64 a1_8] from (k26_mkM _ _ _ (⟨a1_0, (⟨a1_1, a1_2, a1_3, a1_4⟩ : S24), a1_5, a1_6, a1_7, a1_8⟩ : S26) )) (Reps.none _ _))); intro v203 w20 ho21 hb hg_ hnew_; clear hg_ hnew_; (first | rw [← Ny202.out] at ho21 | (simp only [Int.reduceToNat] at ho21; rw [← Ny202.out] at ho21)); have n0_ := Aside0.mk (Kd.R_lower (Kd.R_newB ho21 (g := gb199) (o := .cells #[.int .i64 a1_0, .string a1_1, .string a1_2, .int .i64 a1_3, .int .i64 a1_4, .string a1_5, .string a1_6, .int .i64 a1_7, .int .i64 a1_8] 26 (0, 0)) (by (with_reducible repeat (first | refine blk_drewN ?_ _ | refine blk_drew ?_ | refine blk_alloc ?_ _)); exact BK199.out)) (below_size (by repeat (first | (with_reducible first | exact HB.out | apply below_alloc | apply pw_below_drewN | apply below_drew1 | refine below_set ?_ GE199.out) | exact HB.out)))); have n1_ := Aside0.mk (blk_below (g := gb199) (o := .cells #[.int .i64 a1_0, .string a1_1, .string a1_2, .int .i64 a1_3, .int .i64 a1_4, .string a1_5, .string a1_6, .int .i64 a1_7, .int .i64 a1_8] 26 (0, 0)) (by (with_reducible repeat (first | refine blk_drewN ?_ _ | refine blk_drew ?_ | refine blk_alloc ?_ _)); exact BK199.out) hb); have n2_ := Aside0.mk (below_step (by repeat (first | (with_reducible first | exact HB.out | apply below_alloc | apply pw_below_drewN | apply below_drew1 | refine below_set ?_ GE199.out) | exact HB.out)) hb); clear BK199; clear HB; have HO204 := n0_; have BK199 := n1_; have HB := n2_; clear n0_ n1_ n2_; clear hb ho21; obtain ⟨Ao22, co22, eo22⟩ := Kd.R_slice HO204.out; subst eo22) | (go_at_call 17; (with_reducible refine (culetref53_FewEntries.calls k _ _ y202 false _ ?side1 ?side2 A9.out).mono ?_); (case side1 => repeat (first | exact (Kd.R_reads' HO204.out).2.2 | (with_reducible refine Kd.C_alloc ?_ _) | (with_reducible refine Kd.C_drewN ?_ _) | (with_reducible refine Kd.C_drew ?_))); (case side2 => exact (Kd.R_reads' HO204.out).2.1); rintro e w23 ⟨rfl, hb⟩; have n0_ := Aside0.mk (Kd.R_below (by (with_reducible repeat (first | apply Kd.R_alloc | apply Kd.R_drewN | apply Kd.R_drew)); exact HO204.out) hb); have n1_ := Aside0.mk (blk_below (g := gb199) (o := .cells #[.int .i64 a1_0, .string a1_1, .string a1_2, .int .i64 a1_3, .int .i64 a1_4, .string a1_5, .string a1_6, .int .i64 a1_7, .int .i64 a1_8] 26 (0, 0)) (by (with_reducible repeat (first | refine blk_drewN ?_ _ | refine blk_drew ?_ | refine blk_alloc ?_ _)); exact BK199.out) hb); have n2_ := Aside0.mk (below_step (by repeat (first | (with_reducible first | exact HB.out | apply below_alloc | apply pw_below_drewN | apply below_drew1 | refine below_set ?_ GE199.out) | exact HB.out)) hb); clear HO204; clear BK199; clear HB; have HO204 := n0_; have BK199 := n1_; have HB := n2_; clear n0_ n1_ n2_; (try clear hb); (try clear hb2); (try clear hk); (try clear hi)))
          go_meet
          case rel => exact ⟨_, (true), (by first | rfl | (simp; done) | (simp [*]; done)), H', ⟨by first | omega | exact Nat.le_refl _⟩, ⟨by (with_reducible repeat (first | refine blk_drewN ?_ _ | refine blk_drew ?_ | refine blk_alloc ?_ _)); exact BK199.out⟩, ⟨by repeat (first | (with_reducible first | exact HB.out | apply below_alloc | apply pw_below_drewN | apply below_drew1 | refine below_set ?_ GE199.out) | exact HB.out)⟩⟩
      · replace c8 := Bool.eq_false_iff.mpr c8
        subst c8
        have H1 : (culetlaw53_ParcelInverse.j0 k l0 true a1_0 a1_1 a1_2 a1_3 a1_4 a1_5 a1_6 a1_7 a1_8) = some r := by rw [if_neg (show ¬ (false = true) by decide)] at H; exact H
        clear H
        have H := H1
        clear H1
        have H' := Aside0.mk H
        clear H
        go_wp2_with (first | ((with_reducible refine gate_callee (f := 15) rfl ?_); refine goesL_ (some 9) rfl rfl Try.func15 (by kernel_rfl) rfl #[] rfl (by (try simp only [List.map_toArray, List.map_cons, List.map_nil]); first | done | rfl | (simp only [List.length_drop, List.length_take]; rfl)) ?_; (with_reducible refine (culetlaw53_awake.calls k  true _ A5.out).mono ?_); rintro e w24 ⟨rfl, hb⟩; refine ⟨_, rfl, ?_⟩; have n0_ := Aside0.mk (blk_below (g := gb199) (o := .cells #[.int .i64 a1_0, .string a1_1, .string a1_2, .int .i64 a1_3, .int .i64 a1_4, .string a1_5, .string a1_6, .int .i64 a1_7, .int .i64 a1_8] 26 (0, 0)) (by (with_reducible repeat (first | refine blk_drewN ?_ _ | refine blk_drew ?_ | refine blk_alloc ?_ _)); exact BK199.out) hb); have n1_ := Aside0.mk (below_step (by repeat (first | (with_reducible first | exact HB.out | apply below_alloc | apply pw_below_drewN | apply below_drew1 | refine below_set ?_ GE199.out) | exact HB.out)) hb); clear BK199; clear HB; have BK199 := n0_; have HB := n1_; clear n0_ n1_; (try clear hb); (try clear hb2); (try clear hk); (try clear hi)) | (go_at_call 16; (with_reducible refine (culetref53_Few.calls k _ _ l0 false _ ?side1 ?side2 A7.out).mono ?_); (case side1 => repeat (first | exact (Kd.C_below HR0.out HB.out) | (with_reducible refine Kd.C_alloc ?_ _) | (with_reducible refine Kd.C_drewN ?_ _) | (with_reducible refine Kd.C_drew ?_))); (case side2 => exact HC0.out); rintro e w' ⟨rfl, ⟨nd, rfl⟩⟩))
        go_meet
        case rel => exact ⟨_, (true), (by first | rfl | (simp; done) | (simp [*]; done)), H', ⟨by first | omega | exact Nat.le_refl _⟩, ⟨by (with_reducible repeat (first | refine blk_drewN ?_ _ | refine blk_drew ?_ | refine blk_alloc ?_ _)); exact BK199.out⟩, ⟨by repeat (first | (with_reducible first | exact HB.out | apply below_alloc | apply pw_below_drewN | apply below_drew1 | refine below_set ?_ GE199.out) | exact HB.out)⟩⟩
    · replace c6 := Bool.eq_false_iff.mpr c6
      subst c6
      have H1 : (culetlaw53_ParcelInverse.j0 k l0 true a1_0 a1_1 a1_2 a1_3 a1_4 a1_5 a1_6 a1_7 a1_8) = some r := by rw [if_neg (show ¬ (false = true) by decide)] at H; exact H
      clear H
      have H := H1
      clear H1
      have H' := Aside0.mk H
      clear H
      go_wp2_with (first | ((with_reducible refine gate_callee (f := 15) rfl ?_); refine goesL_ (some 9) rfl rfl Try.func15 (by kernel_rfl) rfl #[] rfl (by (try simp only [List.map_toArray, List.map_cons, List.map_nil]); first | done | rfl | (simp only [List.length_drop, List.length_take]; rfl)) ?_; (with_reducible refine (culetlaw53_awake.calls k  false _ A5.out).mono ?_); rintro e w25 ⟨rfl, hb⟩; refine ⟨_, rfl, ?_⟩; have n0_ := Aside0.mk (blk_below (g := gb199) (o := .cells #[.int .i64 a1_0, .string a1_1, .string a1_2, .int .i64 a1_3, .int .i64 a1_4, .string a1_5, .string a1_6, .int .i64 a1_7, .int .i64 a1_8] 26 (0, 0)) (by (with_reducible repeat (first | refine blk_drewN ?_ _ | refine blk_drew ?_ | refine blk_alloc ?_ _)); exact BK199.out) hb); have n1_ := Aside0.mk (below_step (by repeat (first | (with_reducible first | exact HB.out | apply below_alloc | apply pw_below_drewN | apply below_drew1 | refine below_set ?_ GE199.out) | exact HB.out)) hb); clear BK199; clear HB; have BK199 := n0_; have HB := n1_; clear n0_ n1_; (try clear hb); (try clear hb2); (try clear hk); (try clear hi)))
      go_meet
      case rel => exact ⟨_, (true), (by first | rfl | (simp; done) | (simp [*]; done)), H', ⟨by first | omega | exact Nat.le_refl _⟩, ⟨by (with_reducible repeat (first | refine blk_drewN ?_ _ | refine blk_drew ?_ | refine blk_alloc ?_ _)); exact BK199.out⟩, ⟨by repeat (first | (with_reducible first | exact HB.out | apply below_alloc | apply pw_below_drewN | apply below_drew1 | refine below_set ?_ GE199.out) | exact HB.out)⟩⟩
  case rest =>
    clear HC3
    try clear c1
    try clear p2
    try clear c6
    try clear c8
    try clear c9
    try clear c10
    try clear c15
    try clear hcz12_0
    try clear hcz12_1
    try clear hcz12_2
    try clear hcz12_3
    try clear hcz12_4
    try clear hcz12_5
    try clear hcz12_6
    try clear hcz12_7
    try clear hcz12_8
    try clear hcz17_0
    try clear hcz17_1
    try clear hcz17_2
    try clear hcz17_3
    try clear hcz17_4
    try clear hcz17_5
    try clear hcz17_6
    try clear hcz17_7
    try clear hcz17_8
    try clear hcz19_0
    try clear hcz19_1
    try clear hcz19_2
    try clear hcz19_3
    try clear hcz19_4
    try clear hcz19_5
    try clear hcz19_6
    try clear hcz19_7
    try clear hcz19_8
    try clear hfz12_0
    try clear hfz12_1
    try clear hfz12_2
    try clear hfz12_3
    try clear hfz12_4
    try clear hfz12_5
    try clear hfz12_6
    try clear hfz12_7
    try clear hfz12_8
    try clear hfz17_0
    try clear hfz17_1
    try clear hfz17_2
    try clear hfz17_3
    try clear hfz17_4
    try clear hfz17_5
    try clear hfz17_6
    try clear hfz17_7
    try clear hfz17_8
    try clear hfz19_0
    try clear hfz19_1
    try clear hfz19_2
    try clear hfz19_3
    try clear hfz19_4
    try clear hfz19_5
    try clear hfz19_6
    try clear hfz19_7
    try clear hfz19_8
    obtain ⟨kq, x26_2, rfl, HA, HJ2, BK199, HB⟩ := hcut
    cases kq with
    | zero => exact absurd HA.out (by simp [culetlaw53_ParcelInverse.j0])
    | succ kj2 =>
      have H := HA.out
      clear HA
      simp only [culetlaw53_ParcelInverse.j0] at H
      by_cases c26 : x26_2 = true
      · subst c26
        have H1 : ((culetlaw53_awake.f kj2).bind fun t206 => (some t206)) = some r := by rw [if_pos rfl] at H; exact H
        clear H
        have H := H1
        clear H1
        replace H := Option.bind_eq_some_iff.mp H
        obtain ⟨t206, A270, H⟩ := H
        replace H : (some t206) = some r := H
        have A27 := Aside0.mk A270
        clear A270
        obtain rfl := Option.some.inj H
        go_wp2_with (first | ((with_reducible refine gate_callee (f := 15) rfl ?_); refine goesL_ (some 27) rfl rfl Try.func15 (by kernel_rfl) rfl #[] rfl (by (try simp only [List.map_toArray, List.map_cons, List.map_nil]); first | done | rfl | (simp only [List.length_drop, List.length_take]; rfl)) ?_; (with_reducible refine (culetlaw53_awake.calls kj2  t206 _ A27.out).mono ?_); rintro e w28 ⟨rfl, hb⟩; refine ⟨_, rfl, ?_⟩; have n0_ := Aside0.mk (blk_below (g := gb199) (o := .cells #[.int .i64 a1_0, .string a1_1, .string a1_2, .int .i64 a1_3, .int .i64 a1_4, .string a1_5, .string a1_6, .int .i64 a1_7, .int .i64 a1_8] 26 (0, 0)) (by (with_reducible repeat (first | refine blk_drewN ?_ _ | refine blk_drew ?_ | refine blk_alloc ?_ _)); exact BK199.out) hb); have n1_ := Aside0.mk (below_step (by repeat (first | (with_reducible first | exact HB.out | apply below_alloc | apply pw_below_drewN | apply below_drew1 | refine below_set ?_ GE199.out) | exact HB.out)) hb); clear BK199; clear HB; have BK199 := n0_; have HB := n1_; clear n0_ n1_; (try clear hb); (try clear hb2); (try clear hk); (try clear hi)))
        go_ret
        exact ⟨by first | rfl | (simp [errW_none, errW_some] <;> rfl) | (simp [*, errW_none, errW_some] <;> rfl), by repeat (first | (with_reducible first | exact HB.out | apply below_alloc | apply pw_below_drewN | apply below_drew1 | refine below_set ?_ GE199.out) | exact HB.out)⟩
      · replace c26 := Bool.eq_false_iff.mpr c26
        subst c26
        have H1 : ((parcel_Do.f l0 a1_0 a1_1 a1_2 a1_3 a1_4 a1_5 a1_6 a1_7 a1_8).bind fun bt207 => (if bt207.2 = 0 then ((parcel_Do.f bt207.1 4 (⟨#[]⟩ : ByteArray) (⟨#[]⟩ : ByteArray) 0 0 a1_6 a1_5 0 0).bind fun bt211 => (if bt211.2 = 0 then ((culetref53_Same.f kj2 bt211.1 l0).bind fun t215 => (some t215)) else (some false))) else (some true))) = some r := by rw [if_neg (show ¬ (false = true) by decide)] at H; exact H
        clear H
        have H := H1
        clear H1
        replace H := Option.bind_eq_some_iff.mp H
        obtain ⟨⟨t207, t210⟩, A290, H⟩ := H
        replace H : (if t210 = 0 then ((parcel_Do.f t207 4 (⟨#[]⟩ : ByteArray) (⟨#[]⟩ : ByteArray) 0 0 a1_6 a1_5 0 0).bind fun bt211 => (if bt211.2 = 0 then ((culetref53_Same.f kj2 bt211.1 l0).bind fun t215 => (some t215)) else (some false))) else (some true)) = some r := H
        have A29 := Aside0.mk A290
        clear A290
        by_cases c30 : t210 = 0
        · rw [if_pos c30] at H
          have c30b0 : (t210 == 0) = true := beq_iff_eq.mpr c30
          have c30b1 : (t210 != 0) = false := bne_eq_false_iff_eq.mpr c30
          clear c30
          replace H := Option.bind_eq_some_iff.mp H
          obtain ⟨⟨t211, t214⟩, A310, H⟩ := H
          replace H : (if t214 = 0 then ((culetref53_Same.f kj2 t211 l0).bind fun t215 => (some t215)) else (some false)) = some r := H
          have A31 := Aside0.mk A310
          clear A310
          by_cases c32 : t214 = 0
          · rw [if_pos c32] at H
            have c32b0 : (t214 == 0) = true := beq_iff_eq.mpr c32
            have c32b1 : (t214 != 0) = false := bne_eq_false_iff_eq.mpr c32
            clear c32
            replace H := Option.bind_eq_some_iff.mp H
            obtain ⟨t215, A330, H⟩ := H
            replace H : (some t215) = some r := H
            have A33 := Aside0.mk A330
            clear A330
            obtain rfl := Option.some.inj H
            have hcz34_0 : wc.cell? ⟨gb199, 0, none⟩ = some (.int .i64 a1_0) := (blk_cell BK199.out 0).trans rfl
            have hcz34_1 : wc.cell? ⟨gb199, 1, none⟩ = some (.string a1_1) := (blk_cell BK199.out 1).trans rfl
            have hcz34_2 : wc.cell? ⟨gb199, 2, none⟩ = some (.string a1_2) := (blk_cell BK199.out 2).trans rfl
            have hcz34_3 : wc.cell? ⟨gb199, 3, none⟩ = some (.int .i64 a1_3) := (blk_cell BK199.out 3).trans rfl
            have hcz34_4 : wc.cell? ⟨gb199, 4, none⟩ = some (.int .i64 a1_4) := (blk_cell BK199.out 4).trans rfl
            have hcz34_5 : wc.cell? ⟨gb199, 5, none⟩ = some (.string a1_5) := (blk_cell BK199.out 5).trans rfl
            have hcz34_6 : wc.cell? ⟨gb199, 6, none⟩ = some (.string a1_6) := (blk_cell BK199.out 6).trans rfl
            have hcz34_7 : wc.cell? ⟨gb199, 7, none⟩ = some (.int .i64 a1_7) := (blk_cell BK199.out 7).trans rfl
            have hcz34_8 : wc.cell? ⟨gb199, 8, none⟩ = some (.int .i64 a1_8) := (blk_cell BK199.out 8).trans rfl
            have hfz34_0 := blk_frozen BK199.out 0
            have hfz34_1 := blk_frozen BK199.out 1
            have hfz34_2 := blk_frozen BK199.out 2
            have hfz34_3 := blk_frozen BK199.out 3
            have hfz34_4 := blk_frozen BK199.out 4
            have hfz34_5 := blk_frozen BK199.out 5
            have hfz34_6 := blk_frozen BK199.out 6
            have hfz34_7 := blk_frozen BK199.out 7
            have hfz34_8 := blk_frozen BK199.out 8
            go_wp2_with (first | ((with_reducible refine gate_callee (f := 18) rfl ?_); refine goesL_ (some 31) rfl rfl Try.func18 (by kernel_rfl) rfl #[.slice A0 l0.length c0, .agg #[.int .i64 a1_0, .string a1_1, .string a1_2, .int .i64 a1_3, .int .i64 a1_4, .string a1_5, .string a1_6, .int .i64 a1_7, .int .i64 a1_8]] rfl (by (try simp only [List.map_toArray, List.map_cons, List.map_nil]); first | done | rfl | (simp only [List.length_drop, List.length_take]; rfl)) ?_; (with_reducible refine (parcel_Do.calls _ _ l0 a1_0 a1_1 a1_2 a1_3 a1_4 a1_5 a1_6 a1_7 a1_8 t207 t210 _ ?side1 ?side2 A29.out).mono ?_); (case side1 => repeat (first | exact (Kd.C_below HR0.out HB.out) | (with_reducible refine Kd.C_alloc ?_ _) | (with_reducible refine Kd.C_drewN ?_ _) | (with_reducible refine Kd.C_drew ?_))); (case side2 => exact HC0.out); rintro e w35 ⟨v208, rfl, ho0, hb⟩; refine ⟨_, rfl, ?_⟩; have n0_ := Aside0.mk (Kd.R_lower ho0 (below_size (by repeat (first | (with_reducible first | exact HB.out | apply below_alloc | apply pw_below_drewN | apply below_drew1 | refine below_set ?_ GE199.out) | exact HB.out)))); have n1_ := Aside0.mk (blk_below (g := gb199) (o := .cells #[.int .i64 a1_0, .string a1_1, .string a1_2, .int .i64 a1_3, .int .i64 a1_4, .string a1_5, .string a1_6, .int .i64 a1_7, .int .i64 a1_8] 26 (0, 0)) (by (with_reducible repeat (first | refine blk_drewN ?_ _ | refine blk_drew ?_ | refine blk_alloc ?_ _)); exact BK199.out) hb); have n2_ := Aside0.mk (below_step (by repeat (first | (with_reducible first | exact HB.out | apply below_alloc | apply pw_below_drewN | apply below_drew1 | refine below_set ?_ GE199.out) | exact HB.out)) hb); clear BK199; clear HB; have HO209 := n0_; have BK199 := n1_; have HB := n2_; clear n0_ n1_ n2_; (try clear hb); (try clear hb2); (try clear hk); (try clear hi); (try clear ho0); have hcz36_0 : w35.cell? ⟨gb199, 0, none⟩ = some (.int .i64 a1_0) := (blk_cell BK199.out 0).trans rfl; have hcz36_1 : w35.cell? ⟨gb199, 1, none⟩ = some (.string a1_1) := (blk_cell BK199.out 1).trans rfl; have hcz36_2 : w35.cell? ⟨gb199, 2, none⟩ = some (.string a1_2) := (blk_cell BK199.out 2).trans rfl; have hcz36_3 : w35.cell? ⟨gb199, 3, none⟩ = some (.int .i64 a1_3) := (blk_cell BK199.out 3).trans rfl; have hcz36_4 : w35.cell? ⟨gb199, 4, none⟩ = some (.int .i64 a1_4) := (blk_cell BK199.out 4).trans rfl; have hcz36_5 : w35.cell? ⟨gb199, 5, none⟩ = some (.string a1_5) := (blk_cell BK199.out 5).trans rfl; have hcz36_6 : w35.cell? ⟨gb199, 6, none⟩ = some (.string a1_6) := (blk_cell BK199.out 6).trans rfl; have hcz36_7 : w35.cell? ⟨gb199, 7, none⟩ = some (.int .i64 a1_7) := (blk_cell BK199.out 7).trans rfl; have hcz36_8 : w35.cell? ⟨gb199, 8, none⟩ = some (.int .i64 a1_8) := (blk_cell BK199.out 8).trans rfl; have hfz36_0 := blk_frozen BK199.out 0; have hfz36_1 := blk_frozen BK199.out 1; have hfz36_2 := blk_frozen BK199.out 2; have hfz36_3 := blk_frozen BK199.out 3; have hfz36_4 := blk_frozen BK199.out 4; have hfz36_5 := blk_frozen BK199.out 5; have hfz36_6 := blk_frozen BK199.out 6; have hfz36_7 := blk_frozen BK199.out 7; have hfz36_8 := blk_frozen BK199.out 8; obtain ⟨Ao37, co37, eo37⟩ := Kd.R_slice HO209.out; subst eo37) | ((with_reducible refine gate_callee (f := 18) rfl ?_); refine goesL_ (some 43) rfl rfl Try.func18 (by kernel_rfl) rfl #[.slice Ao37 t207.length co37, .agg #[.int .i64 4, .string (⟨#[]⟩ : ByteArray), .string (⟨#[]⟩ : ByteArray), .int .i64 0, .int .i64 0, .string a1_6, .string a1_5, .int .i64 0, .int .i64 0]] rfl (by (try simp only [List.map_toArray, List.map_cons, List.map_nil]); first | done | rfl | (simp only [List.length_drop, List.length_take]; rfl)) ?_; (with_reducible refine (parcel_Do.calls _ _ t207 4 (⟨#[]⟩ : ByteArray) (⟨#[]⟩ : ByteArray) 0 0 a1_6 a1_5 0 0 t211 t214 _ ?side1 ?side2 A31.out).mono ?_); (case side1 => repeat (first | exact (Kd.R_reads' HO209.out).2.2 | (with_reducible refine Kd.C_alloc ?_ _) | (with_reducible refine Kd.C_drewN ?_ _) | (with_reducible refine Kd.C_drew ?_))); (case side2 => exact (Kd.R_reads' HO209.out).2.1); rintro e w38 ⟨v212, rfl, ho0, hb⟩; refine ⟨_, rfl, ?_⟩; have n0_ := Aside0.mk (Kd.R_elder' (by (with_reducible repeat (first | apply Kd.R_alloc | apply Kd.R_drewN | apply Kd.R_drew)); exact HO209.out) (Kd.R_base ho0) hb); have n1_ := Aside0.mk (Kd.R_lower (Kd.R_new' ho0 (Kd.R_lt (by (with_reducible repeat (first | apply Kd.R_alloc | apply Kd.R_drewN | apply Kd.R_drew)); exact HO209.out))) (below_size (by repeat (first | (with_reducible first | exact HB.out | apply below_alloc | apply pw_below_drewN | apply below_drew1 | refine below_set ?_ GE199.out) | exact HB.out)))); have n2_ := Aside0.mk (blk_below (g := gb199) (o := .cells #[.int .i64 a1_0, .string a1_1, .string a1_2, .int .i64 a1_3, .int .i64 a1_4, .string a1_5, .string a1_6, .int .i64 a1_7, .int .i64 a1_8] 26 (0, 0)) (by (with_reducible repeat (first | refine blk_drewN ?_ _ | refine blk_drew ?_ | refine blk_alloc ?_ _)); exact BK199.out) hb); have n3_ := Aside0.mk (below_step (by repeat (first | (with_reducible first | exact HB.out | apply below_alloc | apply pw_below_drewN | apply below_drew1 | refine below_set ?_ GE199.out) | exact HB.out)) hb); clear HO209; clear BK199; clear HB; have HO209 := n0_; have HO213 := n1_; have BK199 := n2_; have HB := n3_; clear n0_ n1_ n2_ n3_; (try clear hb); (try clear hb2); (try clear hk); (try clear hi); (try clear ho0); obtain ⟨Ao39, co39, eo39⟩ := Kd.R_slice HO213.out; subst eo39) | (go_at_call 20; (with_reducible refine (culetref53_Same.calls kj2 _ _ t211 _ _ l0 t215 _ ?side1 ?side2 ?side3 ?side4 A33.out).mono ?_); (case side1 => repeat (first | exact (Kd.R_reads' HO213.out).2.2 | (with_reducible refine Kd.C_alloc ?_ _) | (with_reducible refine Kd.C_drewN ?_ _) | (with_reducible refine Kd.C_drew ?_))); (case side2 => exact (Kd.R_reads' HO213.out).2.1); (case side3 => repeat (first | exact (Kd.C_below HR0.out HB.out) | (with_reducible refine Kd.C_alloc ?_ _) | (with_reducible refine Kd.C_drewN ?_ _) | (with_reducible refine Kd.C_drew ?_))); (case side4 => exact HC0.out); rintro e w' ⟨rfl, ⟨nd, rfl⟩⟩))
            go_ret
            exact ⟨by first | rfl | (simp [errW_none, errW_some] <;> rfl) | (simp [*, errW_none, errW_some] <;> rfl), by repeat (first | (with_reducible first | exact HB.out | apply below_alloc | apply pw_below_drewN | apply below_drew1 | refine below_set ?_ GE199.out) | exact HB.out)⟩
          · rw [if_neg c32] at H
            have c32b0 : (t214 == 0) = false := beq_eq_false_iff_ne.mpr c32
            have c32b1 : (t214 != 0) = true := bne_iff_ne.mpr c32
            obtain rfl := Option.some.inj H
            have hcz40_0 : wc.cell? ⟨gb199, 0, none⟩ = some (.int .i64 a1_0) := (blk_cell BK199.out 0).trans rfl
            have hcz40_1 : wc.cell? ⟨gb199, 1, none⟩ = some (.string a1_1) := (blk_cell BK199.out 1).trans rfl
            have hcz40_2 : wc.cell? ⟨gb199, 2, none⟩ = some (.string a1_2) := (blk_cell BK199.out 2).trans rfl
            have hcz40_3 : wc.cell? ⟨gb199, 3, none⟩ = some (.int .i64 a1_3) := (blk_cell BK199.out 3).trans rfl
            have hcz40_4 : wc.cell? ⟨gb199, 4, none⟩ = some (.int .i64 a1_4) := (blk_cell BK199.out 4).trans rfl
            have hcz40_5 : wc.cell? ⟨gb199, 5, none⟩ = some (.string a1_5) := (blk_cell BK199.out 5).trans rfl
            have hcz40_6 : wc.cell? ⟨gb199, 6, none⟩ = some (.string a1_6) := (blk_cell BK199.out 6).trans rfl
            have hcz40_7 : wc.cell? ⟨gb199, 7, none⟩ = some (.int .i64 a1_7) := (blk_cell BK199.out 7).trans rfl
            have hcz40_8 : wc.cell? ⟨gb199, 8, none⟩ = some (.int .i64 a1_8) := (blk_cell BK199.out 8).trans rfl
            have hfz40_0 := blk_frozen BK199.out 0
            have hfz40_1 := blk_frozen BK199.out 1
            have hfz40_2 := blk_frozen BK199.out 2
            have hfz40_3 := blk_frozen BK199.out 3
            have hfz40_4 := blk_frozen BK199.out 4
            have hfz40_5 := blk_frozen BK199.out 5
            have hfz40_6 := blk_frozen BK199.out 6
            have hfz40_7 := blk_frozen BK199.out 7
            have hfz40_8 := blk_frozen BK199.out 8
            go_wp2_with (first | ((with_reducible refine gate_callee (f := 18) rfl ?_); refine goesL_ (some 31) rfl rfl Try.func18 (by kernel_rfl) rfl #[.slice A0 l0.length c0, .agg #[.int .i64 a1_0, .string a1_1, .string a1_2, .int .i64 a1_3, .int .i64 a1_4, .string a1_5, .string a1_6, .int .i64 a1_7, .int .i64 a1_8]] rfl (by (try simp only [List.map_toArray, List.map_cons, List.map_nil]); first | done | rfl | (simp only [List.length_drop, List.length_take]; rfl)) ?_; (with_reducible refine (parcel_Do.calls _ _ l0 a1_0 a1_1 a1_2 a1_3 a1_4 a1_5 a1_6 a1_7 a1_8 t207 t210 _ ?side1 ?side2 A29.out).mono ?_); (case side1 => repeat (first | exact (Kd.C_below HR0.out HB.out) | (with_reducible refine Kd.C_alloc ?_ _) | (with_reducible refine Kd.C_drewN ?_ _) | (with_reducible refine Kd.C_drew ?_))); (case side2 => exact HC0.out); rintro e w41 ⟨v208, rfl, ho0, hb⟩; refine ⟨_, rfl, ?_⟩; have n0_ := Aside0.mk (Kd.R_lower ho0 (below_size (by repeat (first | (with_reducible first | exact HB.out | apply below_alloc | apply pw_below_drewN | apply below_drew1 | refine below_set ?_ GE199.out) | exact HB.out)))); have n1_ := Aside0.mk (blk_below (g := gb199) (o := .cells #[.int .i64 a1_0, .string a1_1, .string a1_2, .int .i64 a1_3, .int .i64 a1_4, .string a1_5, .string a1_6, .int .i64 a1_7, .int .i64 a1_8] 26 (0, 0)) (by (with_reducible repeat (first | refine blk_drewN ?_ _ | refine blk_drew ?_ | refine blk_alloc ?_ _)); exact BK199.out) hb); have n2_ := Aside0.mk (below_step (by repeat (first | (with_reducible first | exact HB.out | apply below_alloc | apply pw_below_drewN | apply below_drew1 | refine below_set ?_ GE199.out) | exact HB.out)) hb); clear BK199; clear HB; have HO209 := n0_; have BK199 := n1_; have HB := n2_; clear n0_ n1_ n2_; (try clear hb); (try clear hb2); (try clear hk); (try clear hi); (try clear ho0); have hcz42_0 : w41.cell? ⟨gb199, 0, none⟩ = some (.int .i64 a1_0) := (blk_cell BK199.out 0).trans rfl; have hcz42_1 : w41.cell? ⟨gb199, 1, none⟩ = some (.string a1_1) := (blk_cell BK199.out 1).trans rfl; have hcz42_2 : w41.cell? ⟨gb199, 2, none⟩ = some (.string a1_2) := (blk_cell BK199.out 2).trans rfl; have hcz42_3 : w41.cell? ⟨gb199, 3, none⟩ = some (.int .i64 a1_3) := (blk_cell BK199.out 3).trans rfl; have hcz42_4 : w41.cell? ⟨gb199, 4, none⟩ = some (.int .i64 a1_4) := (blk_cell BK199.out 4).trans rfl; have hcz42_5 : w41.cell? ⟨gb199, 5, none⟩ = some (.string a1_5) := (blk_cell BK199.out 5).trans rfl; have hcz42_6 : w41.cell? ⟨gb199, 6, none⟩ = some (.string a1_6) := (blk_cell BK199.out 6).trans rfl; have hcz42_7 : w41.cell? ⟨gb199, 7, none⟩ = some (.int .i64 a1_7) := (blk_cell BK199.out 7).trans rfl; have hcz42_8 : w41.cell? ⟨gb199, 8, none⟩ = some (.int .i64 a1_8) := (blk_cell BK199.out 8).trans rfl; have hfz42_0 := blk_frozen BK199.out 0; have hfz42_1 := blk_frozen BK199.out 1; have hfz42_2 := blk_frozen BK199.out 2; have hfz42_3 := blk_frozen BK199.out 3; have hfz42_4 := blk_frozen BK199.out 4; have hfz42_5 := blk_frozen BK199.out 5; have hfz42_6 := blk_frozen BK199.out 6; have hfz42_7 := blk_frozen BK199.out 7; have hfz42_8 := blk_frozen BK199.out 8; obtain ⟨Ao43, co43, eo43⟩ := Kd.R_slice HO209.out; subst eo43) | ((with_reducible refine gate_callee (f := 18) rfl ?_); refine goesL_ (some 43) rfl rfl Try.func18 (by kernel_rfl) rfl #[.slice Ao43 t207.length co43, .agg #[.int .i64 4, .string (⟨#[]⟩ : ByteArray), .string (⟨#[]⟩ : ByteArray), .int .i64 0, .int .i64 0, .string a1_6, .string a1_5, .int .i64 0, .int .i64 0]] rfl (by (try simp only [List.map_toArray, List.map_cons, List.map_nil]); first | done | rfl | (simp only [List.length_drop, List.length_take]; rfl)) ?_; (with_reducible refine (parcel_Do.calls _ _ t207 4 (⟨#[]⟩ : ByteArray) (⟨#[]⟩ : ByteArray) 0 0 a1_6 a1_5 0 0 t211 t214 _ ?side1 ?side2 A31.out).mono ?_); (case side1 => repeat (first | exact (Kd.R_reads' HO209.out).2.2 | (with_reducible refine Kd.C_alloc ?_ _) | (with_reducible refine Kd.C_drewN ?_ _) | (with_reducible refine Kd.C_drew ?_))); (case side2 => exact (Kd.R_reads' HO209.out).2.1); rintro e w44 ⟨v212, rfl, ho0, hb⟩; refine ⟨_, rfl, ?_⟩; have n0_ := Aside0.mk (Kd.R_elder' (by (with_reducible repeat (first | apply Kd.R_alloc | apply Kd.R_drewN | apply Kd.R_drew)); exact HO209.out) (Kd.R_base ho0) hb); have n1_ := Aside0.mk (Kd.R_lower (Kd.R_new' ho0 (Kd.R_lt (by (with_reducible repeat (first | apply Kd.R_alloc | apply Kd.R_drewN | apply Kd.R_drew)); exact HO209.out))) (below_size (by repeat (first | (with_reducible first | exact HB.out | apply below_alloc | apply pw_below_drewN | apply below_drew1 | refine below_set ?_ GE199.out) | exact HB.out)))); have n2_ := Aside0.mk (blk_below (g := gb199) (o := .cells #[.int .i64 a1_0, .string a1_1, .string a1_2, .int .i64 a1_3, .int .i64 a1_4, .string a1_5, .string a1_6, .int .i64 a1_7, .int .i64 a1_8] 26 (0, 0)) (by (with_reducible repeat (first | refine blk_drewN ?_ _ | refine blk_drew ?_ | refine blk_alloc ?_ _)); exact BK199.out) hb); have n3_ := Aside0.mk (below_step (by repeat (first | (with_reducible first | exact HB.out | apply below_alloc | apply pw_below_drewN | apply below_drew1 | refine below_set ?_ GE199.out) | exact HB.out)) hb); clear HO209; clear BK199; clear HB; have HO209 := n0_; have HO213 := n1_; have BK199 := n2_; have HB := n3_; clear n0_ n1_ n2_ n3_; (try clear hb); (try clear hb2); (try clear hk); (try clear hi); (try clear ho0)))
            go_ret
            exact ⟨by first | rfl | (simp [errW_none, errW_some] <;> rfl) | (simp [*, errW_none, errW_some] <;> rfl), by repeat (first | (with_reducible first | exact HB.out | apply below_alloc | apply pw_below_drewN | apply below_drew1 | refine below_set ?_ GE199.out) | exact HB.out)⟩
        · rw [if_neg c30] at H
          have c30b0 : (t210 == 0) = false := beq_eq_false_iff_ne.mpr c30
          have c30b1 : (t210 != 0) = true := bne_iff_ne.mpr c30
          obtain rfl := Option.some.inj H
          have hcz45_0 : wc.cell? ⟨gb199, 0, none⟩ = some (.int .i64 a1_0) := (blk_cell BK199.out 0).trans rfl
          have hcz45_1 : wc.cell? ⟨gb199, 1, none⟩ = some (.string a1_1) := (blk_cell BK199.out 1).trans rfl
          have hcz45_2 : wc.cell? ⟨gb199, 2, none⟩ = some (.string a1_2) := (blk_cell BK199.out 2).trans rfl
          have hcz45_3 : wc.cell? ⟨gb199, 3, none⟩ = some (.int .i64 a1_3) := (blk_cell BK199.out 3).trans rfl
          have hcz45_4 : wc.cell? ⟨gb199, 4, none⟩ = some (.int .i64 a1_4) := (blk_cell BK199.out 4).trans rfl
          have hcz45_5 : wc.cell? ⟨gb199, 5, none⟩ = some (.string a1_5) := (blk_cell BK199.out 5).trans rfl
          have hcz45_6 : wc.cell? ⟨gb199, 6, none⟩ = some (.string a1_6) := (blk_cell BK199.out 6).trans rfl
          have hcz45_7 : wc.cell? ⟨gb199, 7, none⟩ = some (.int .i64 a1_7) := (blk_cell BK199.out 7).trans rfl
          have hcz45_8 : wc.cell? ⟨gb199, 8, none⟩ = some (.int .i64 a1_8) := (blk_cell BK199.out 8).trans rfl
          have hfz45_0 := blk_frozen BK199.out 0
          have hfz45_1 := blk_frozen BK199.out 1
          have hfz45_2 := blk_frozen BK199.out 2
          have hfz45_3 := blk_frozen BK199.out 3
          have hfz45_4 := blk_frozen BK199.out 4
          have hfz45_5 := blk_frozen BK199.out 5
          have hfz45_6 := blk_frozen BK199.out 6
          have hfz45_7 := blk_frozen BK199.out 7
          have hfz45_8 := blk_frozen BK199.out 8
          go_wp2_with (first | ((with_reducible refine gate_callee (f := 18) rfl ?_); refine goesL_ (some 31) rfl rfl Try.func18 (by kernel_rfl) rfl #[.slice A0 l0.length c0, .agg #[.int .i64 a1_0, .string a1_1, .string a1_2, .int .i64 a1_3, .int .i64 a1_4, .string a1_5, .string a1_6, .int .i64 a1_7, .int .i64 a1_8]] rfl (by (try simp only [List.map_toArray, List.map_cons, List.map_nil]); first | done | rfl | (simp only [List.length_drop, List.length_take]; rfl)) ?_; (with_reducible refine (parcel_Do.calls _ _ l0 a1_0 a1_1 a1_2 a1_3 a1_4 a1_5 a1_6 a1_7 a1_8 t207 t210 _ ?side1 ?side2 A29.out).mono ?_); (case side1 => repeat (first | exact (Kd.C_below HR0.out HB.out) | (with_reducible refine Kd.C_alloc ?_ _) | (with_reducible refine Kd.C_drewN ?_ _) | (with_reducible refine Kd.C_drew ?_))); (case side2 => exact HC0.out); rintro e w46 ⟨v208, rfl, ho0, hb⟩; refine ⟨_, rfl, ?_⟩; have n0_ := Aside0.mk (Kd.R_lower ho0 (below_size (by repeat (first | (with_reducible first | exact HB.out | apply below_alloc | apply pw_below_drewN | apply below_drew1 | refine below_set ?_ GE199.out) | exact HB.out)))); have n1_ := Aside0.mk (blk_below (g := gb199) (o := .cells #[.int .i64 a1_0, .string a1_1, .string a1_2, .int .i64 a1_3, .int .i64 a1_4, .string a1_5, .string a1_6, .int .i64 a1_7, .int .i64 a1_8] 26 (0, 0)) (by (with_reducible repeat (first | refine blk_drewN ?_ _ | refine blk_drew ?_ | refine blk_alloc ?_ _)); exact BK199.out) hb); have n2_ := Aside0.mk (below_step (by repeat (first | (with_reducible first | exact HB.out | apply below_alloc | apply pw_below_drewN | apply below_drew1 | refine below_set ?_ GE199.out) | exact HB.out)) hb); clear BK199; clear HB; have HO209 := n0_; have BK199 := n1_; have HB := n2_; clear n0_ n1_ n2_; (try clear hb); (try clear hb2); (try clear hk); (try clear hi); (try clear ho0)))
          go_ret
          exact ⟨by first | rfl | (simp [errW_none, errW_some] <;> rfl) | (simp [*, errW_none, errW_some] <;> rfl), by repeat (first | (with_reducible first | exact HB.out | apply below_alloc | apply pw_below_drewN | apply below_drew1 | refine below_set ?_ GE199.out) | exact HB.out)⟩

/-- THE ONE PURE STATEMENT of culetlaw53_ParcelInverse: yours. -/
def culetlaw53_ParcelInverse.Pure : Prop := ∀ (x0 : List (S24)) (x1 : S26), (AllV V24) x0 → V26 x1 → ∃ k, culetlaw53_ParcelInverse.f k x0 x1.f0 x1.f1.f0 x1.f1.f1 x1.f1.f2 x1.f1.f3 x1.f2 x1.f3 x1.f4 x1.f5 = some true

end Go.Proofs.Ytndbchcfjajgbaa.XP
